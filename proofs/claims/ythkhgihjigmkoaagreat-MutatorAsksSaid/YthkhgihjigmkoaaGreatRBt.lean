import Derived.Test.YthkhgihjigmkoaaGreatRBs
set_option linter.unusedVariables false
set_option linter.unusedSimpArgs false
namespace Go.Proofs.YthkhgihjigmkoaaGreat.Tk
open Go.ChangeShapes Go.WideShapes Go.ChangeAt Go.RowKit Go.Maps
set_option maxRecDepth 100000 in
set_option maxHeartbeats 3200000 in
theorem asks_new (w : World) (F : Nat → Prop) (tb : Nat) (p : TPrg) (T : Tk) (X : TB) (h : TaskAt w F tb p T X) (c0 c1 c2 mp : Value) (ia ib ic : Int) :
  Calls Tryz.prog 100 #[.agg (stepV c0 c1 c2 mp tb 13 ia ib ic)] w (RunPost w F tb p X T (actV 5 0 0 ib 0 false (.slice none 0 0))) := by
 have hb0 := ((Below.refl w.heap.size w).alloc (Nat.le_refl _) (.cells (stepV c0 c1 c2 mp tb 13 ia ib ic) 124))
 have hb1 := hb0.alloc hb0.size act0
 have hr0 := row_alloc (heap_new w (.cells (stepV c0 c1 c2 mp tb 13 ia ib ic) 124)) act0
 have hr1 := heap_new (w.alloc (.cells (stepV c0 c1 c2 mp tb 13 ia ib ic) 124)) act0
 rw [show (w.alloc (.cells (stepV c0 c1 c2 mp tb 13 ia ib ic) 124)).heap.size = w.heap.size + 1 from by simp] at hr1
 obtain ⟨W, hW⟩ : ∃ W, W = (w.alloc (.cells (stepV c0 c1 c2 mp tb 13 ia ib ic) 124)).alloc act0 := ⟨_, rfl⟩
 rw [← hW] at hb1 hr0 hr1
 have HFLT := Lib.hid h.flt
 have HOUT := Lib.hid (fun k (hk : X.D k) => (h.out k hk).2)
 have hwz : W.heap.size = w.heap.size + 2 := by rw [hW]; simp
 unfold act0 at hW hr1
 unfold stepV at hW hr0
 have HW := Lib.hid hW
 have k4 : W.cell? ⟨w.heap.size, 4, none⟩ = some (.pointer (some ⟨tb, 0, none⟩)) := (row_cell hr0 4).1
 have k5 : W.cell? ⟨w.heap.size, 5, none⟩ = some (.int .i64 13) := (row_cell hr0 5).1
 have k6 : W.cell? ⟨w.heap.size, 6, none⟩ = some (.int .i64 ia) := (row_cell hr0 6).1
 have k7 : W.cell? ⟨w.heap.size, 7, none⟩ = some (.int .i64 ib) := (row_cell hr0 7).1
 have k8 : W.cell? ⟨w.heap.size, 8, none⟩ = some (.int .i64 ic) := (row_cell hr0 8).1
 have HRR := Lib.hid (Below.refl W.heap.size W)
 clear hb0 hW
 have HB1 := Lib.hid hb1; clear hb1
 have HR1 := Lib.hid hr1; clear hr1
 have HR0 := Lib.hid hr0; clear hr0
 have HWZ := Lib.hid hwz; clear hwz
 unfold stepV
 go_enter Tryz.func100, Tryz.ntmps100
 go_upto_region 1 with fail
 rw [← HW.out]
 go_cut [3, 4] (fun x y wx => ∃ z : Nat, x = .pointer (some ⟨z, 0, none⟩) ∧ y = .pointer (some ⟨tb, 0, none⟩) ∧ wx.heap[z]? = some (.cells #[.int .i64 13, .int .i64 ia, .int .i64 ib, .int .i64 ic] 59) ∧ w.heap.size + 2 ≤ z ∧ Below W.heap.size W wx)
 case first =>
  have bs := World.block_lt k4
  dsimp only at bs
  go_region
  all_goals
   go_wp2_with fail
   go_meet
   case rel => exact ⟨_, rfl, rfl, heap_new _ _, by have := HWZ.out; omega, (HRR.out.drew).alloc (HRR.out.size) _⟩
 case rest =>
  obtain ⟨z, rfl, rfl, hz, hzl, hR⟩ := hcut
  have hbc := HB1.out.trans (hR.mono HB1.out.size)
  have hrb := (Fr.of_below hR (fun _ => False)).heap HR0.out (fun h => h)
  have hrc := (Fr.of_below hR (fun _ => False)).heap HR1.out (fun h => h)
  have HBC := Lib.hid hbc
  have HSZ := Lib.hid (show w.heap.size + 2 ≤ wc.heap.size from by have := hR.size; have := HWZ.out; omega)
  have HRW := Lib.hid (fun wx (hw : Below wc.heap.size wc wx) => (Fr.of_below hw (fun _ => False)).heap hrc (fun h => h))
  have HSS := Lib.hid (show ∀ wx, Below wc.heap.size wc wx → wx.cell? ⟨w.heap.size, 0, none⟩ = some (c0) ∧ wx.cell? ⟨w.heap.size, 1, none⟩ = some (c1) ∧ wx.cell? ⟨w.heap.size, 2, none⟩ = some (c2) ∧ wx.cell? ⟨w.heap.size, 3, none⟩ = some (mp) ∧ wx.cell? ⟨w.heap.size, 4, none⟩ = some (.pointer (some ⟨tb, 0, none⟩)) ∧ wx.cell? ⟨w.heap.size, 5, none⟩ = some (.int .i64 13) ∧ wx.cell? ⟨w.heap.size, 6, none⟩ = some (.int .i64 ia) ∧ wx.cell? ⟨w.heap.size, 7, none⟩ = some (.int .i64 ib) ∧ wx.cell? ⟨w.heap.size, 8, none⟩ = some (.int .i64 ic) ∧ wx.cell? ⟨z, 0, none⟩ = some (.int .i64 13) ∧ wx.cell? ⟨z, 1, none⟩ = some (.int .i64 ia) ∧ wx.cell? ⟨z, 2, none⟩ = some (.int .i64 ib) ∧ wx.cell? ⟨z, 3, none⟩ = some (.int .i64 ic) from fun wx hw => by
   have g1 := (Fr.of_below hw (fun _ => False)).heap hrb (fun h => h)
   have g2 := (Fr.of_below hw (fun _ => False)).heap hz (fun h => h)
   exact ⟨(row_cell g1 0).1, (row_cell g1 1).1, (row_cell g1 2).1, (row_cell g1 3).1, (row_cell g1 4).1, (row_cell g1 5).1, (row_cell g1 6).1, (row_cell g1 7).1, (row_cell g1 8).1, (row_cell g2 0).1, (row_cell g2 1).1, (row_cell g2 2).1, (row_cell g2 3).1⟩)
  have hSd := HSS.out wc.drew (Below.refl wc.heap.size wc).drew
  have HRC := Lib.hid (Below.refl wc.heap.size wc)
  have HRD := Lib.hid (Below.refl wc.heap.size wc).drew
  have z0 : wc.cell? ⟨z, 0, none⟩ = some (.int .i64 13) := (row_cell hz 0).1
  clear hR hrb hrc hz k4 k5 k6 k7 k8 hbc
  have z2 := (HSS.out _ HRC.out).2.2.2.2.2.2.2.2.2.2.2.1
  have HWD := HRC
  obtain ⟨F', X', hT5, hXD, hF', hf5⟩ : ∃ F' X', TaskAt wc F' tb p T X' ∧ X'.D = X.D ∧ (∀ k, F' k → F k ∨ wc.heap.size ≤ k) ∧ Fr F wc wc := ⟨F, X, h.below (HBC.out.trans (HWD.out.mono HBC.out.size)), rfl, fun _ h => .inl h, Fr.refl _ _⟩
  clear hSd
  go_upto_region 4 with fail
  clear z0
  have hsz5 : w.heap.size + 2 ≤ wc.heap.size := by have := HSZ.out; omega
  have hr5 := hf5.heap (HRW.out _ HWD.out) (fun e => by have := HFLT.out (w.heap.size + 1) e; omega)
  obtain ⟨⟨u0, u1, u2, u3, u4, u5, u6⟩, n0, n1, n2, n3, n4, n5, n6⟩ := seven_cells hr5
  have hfs := seven_fr wc (.int .i64 5) (.int .i64 0) (.int .i64 0) (.int .i64 ib) (.int .i64 0) (.bool false) (.slice none 0 0) (w.heap.size + 1)
  have hrs := seven_row hr5 (.int .i64 5) (.int .i64 0) (.int .i64 0) (.int .i64 ib) (.int .i64 0) (.bool false) (.slice none 0 0)
  have hFz : ∀ q, F' q → q ≠ w.heap.size + 1 := fun q hq e => by
   rcases hF' q hq with h1 | h1
   ·have := HFLT.out q h1; omega
   ·have := HWD.out.size; omega
  have hT6 := hT5.fr hfs (fun q hq e => hFz q hq e) (fun q hq e => by rw [hXD] at hq; have := HOUT.out q hq; have e : q = w.heap.size + 1 := e; omega)
  have hfw := (Fr.of_below (HBC.out.trans (HWD.out.mono HBC.out.size)) F).trans hf5 (fun _ _ h => h)
  have hf6 := hfw.trans hfs (fun q hq e => by have e : q = w.heap.size + 1 := e; omega)
  have hF6 : ∀ q, F' q → F q ∨ w.heap.size ≤ q := fun q hq => (hF' q hq).imp id (fun h1 => by have := HWD.out.size; omega)
  have HPP := Lib.hid (show RunPost w F tb p X _ (actV 5 0 0 ib 0 false (.slice none 0 0)) _ _ from ⟨rfl, F', X', hT6, hXD, hF6, hf6⟩)
  clear hfs hr5 hT5 hT6 hfw hf6 hf5 hF6 hFz hF' hXD hsz5
  have HRS := Lib.hid hrs; clear hrs
  unfold actV
  go_wp2_with fail
  refine bodyPost_ret ?_ rfl HPP.out
  have k0 := (row_cell HRS.out 0).1; have k1 := (row_cell HRS.out 1).1; have k2 := (row_cell HRS.out 2).1; have k3 := (row_cell HRS.out 3).1; have k4 := (row_cell HRS.out 4).1; have k5 := (row_cell HRS.out 5).1; have k6 := (row_cell HRS.out 6).1; simp at k0 k1 k2 k3 k4 k5 k6; simp [results, Tryz.results100, go_sem, k0, k1, k2, k3, k4, k5, k6, actV]
set_option maxRecDepth 100000 in
set_option maxHeartbeats 3200000 in
theorem asks_gload (w : World) (F : Nat → Prop) (tb : Nat) (p : TPrg) (T : Tk) (X : TB) (h : TaskAt w F tb p T X) (c0 c1 c2 mp : Value) (ia ib ic : Int) :
  Calls Tryz.prog 100 #[.agg (stepV c0 c1 c2 mp tb 16 ia ib ic)] w (RunPost w F tb p X T (actV 6 0 ib 0 0 false (.slice none 0 0))) := by
 have hb0 := ((Below.refl w.heap.size w).alloc (Nat.le_refl _) (.cells (stepV c0 c1 c2 mp tb 16 ia ib ic) 124))
 have hb1 := hb0.alloc hb0.size act0
 have hr0 := row_alloc (heap_new w (.cells (stepV c0 c1 c2 mp tb 16 ia ib ic) 124)) act0
 have hr1 := heap_new (w.alloc (.cells (stepV c0 c1 c2 mp tb 16 ia ib ic) 124)) act0
 rw [show (w.alloc (.cells (stepV c0 c1 c2 mp tb 16 ia ib ic) 124)).heap.size = w.heap.size + 1 from by simp] at hr1
 obtain ⟨W, hW⟩ : ∃ W, W = (w.alloc (.cells (stepV c0 c1 c2 mp tb 16 ia ib ic) 124)).alloc act0 := ⟨_, rfl⟩
 rw [← hW] at hb1 hr0 hr1
 have HFLT := Lib.hid h.flt
 have HOUT := Lib.hid (fun k (hk : X.D k) => (h.out k hk).2)
 have hwz : W.heap.size = w.heap.size + 2 := by rw [hW]; simp
 unfold act0 at hW hr1
 unfold stepV at hW hr0
 have HW := Lib.hid hW
 have k4 : W.cell? ⟨w.heap.size, 4, none⟩ = some (.pointer (some ⟨tb, 0, none⟩)) := (row_cell hr0 4).1
 have k5 : W.cell? ⟨w.heap.size, 5, none⟩ = some (.int .i64 16) := (row_cell hr0 5).1
 have k6 : W.cell? ⟨w.heap.size, 6, none⟩ = some (.int .i64 ia) := (row_cell hr0 6).1
 have k7 : W.cell? ⟨w.heap.size, 7, none⟩ = some (.int .i64 ib) := (row_cell hr0 7).1
 have k8 : W.cell? ⟨w.heap.size, 8, none⟩ = some (.int .i64 ic) := (row_cell hr0 8).1
 have HRR := Lib.hid (Below.refl W.heap.size W)
 clear hb0 hW
 have HB1 := Lib.hid hb1; clear hb1
 have HR1 := Lib.hid hr1; clear hr1
 have HR0 := Lib.hid hr0; clear hr0
 have HWZ := Lib.hid hwz; clear hwz
 unfold stepV
 go_enter Tryz.func100, Tryz.ntmps100
 go_upto_region 1 with fail
 rw [← HW.out]
 go_cut [3, 4] (fun x y wx => ∃ z : Nat, x = .pointer (some ⟨z, 0, none⟩) ∧ y = .pointer (some ⟨tb, 0, none⟩) ∧ wx.heap[z]? = some (.cells #[.int .i64 16, .int .i64 ia, .int .i64 ib, .int .i64 ic] 59) ∧ w.heap.size + 2 ≤ z ∧ Below W.heap.size W wx)
 case first =>
  have bs := World.block_lt k4
  dsimp only at bs
  go_region
  all_goals
   go_wp2_with fail
   go_meet
   case rel => exact ⟨_, rfl, rfl, heap_new _ _, by have := HWZ.out; omega, (HRR.out.drew).alloc (HRR.out.size) _⟩
 case rest =>
  obtain ⟨z, rfl, rfl, hz, hzl, hR⟩ := hcut
  have hbc := HB1.out.trans (hR.mono HB1.out.size)
  have hrb := (Fr.of_below hR (fun _ => False)).heap HR0.out (fun h => h)
  have hrc := (Fr.of_below hR (fun _ => False)).heap HR1.out (fun h => h)
  have HBC := Lib.hid hbc
  have HSZ := Lib.hid (show w.heap.size + 2 ≤ wc.heap.size from by have := hR.size; have := HWZ.out; omega)
  have HRW := Lib.hid (fun wx (hw : Below wc.heap.size wc wx) => (Fr.of_below hw (fun _ => False)).heap hrc (fun h => h))
  have HSS := Lib.hid (show ∀ wx, Below wc.heap.size wc wx → wx.cell? ⟨w.heap.size, 0, none⟩ = some (c0) ∧ wx.cell? ⟨w.heap.size, 1, none⟩ = some (c1) ∧ wx.cell? ⟨w.heap.size, 2, none⟩ = some (c2) ∧ wx.cell? ⟨w.heap.size, 3, none⟩ = some (mp) ∧ wx.cell? ⟨w.heap.size, 4, none⟩ = some (.pointer (some ⟨tb, 0, none⟩)) ∧ wx.cell? ⟨w.heap.size, 5, none⟩ = some (.int .i64 16) ∧ wx.cell? ⟨w.heap.size, 6, none⟩ = some (.int .i64 ia) ∧ wx.cell? ⟨w.heap.size, 7, none⟩ = some (.int .i64 ib) ∧ wx.cell? ⟨w.heap.size, 8, none⟩ = some (.int .i64 ic) ∧ wx.cell? ⟨z, 0, none⟩ = some (.int .i64 16) ∧ wx.cell? ⟨z, 1, none⟩ = some (.int .i64 ia) ∧ wx.cell? ⟨z, 2, none⟩ = some (.int .i64 ib) ∧ wx.cell? ⟨z, 3, none⟩ = some (.int .i64 ic) from fun wx hw => by
   have g1 := (Fr.of_below hw (fun _ => False)).heap hrb (fun h => h)
   have g2 := (Fr.of_below hw (fun _ => False)).heap hz (fun h => h)
   exact ⟨(row_cell g1 0).1, (row_cell g1 1).1, (row_cell g1 2).1, (row_cell g1 3).1, (row_cell g1 4).1, (row_cell g1 5).1, (row_cell g1 6).1, (row_cell g1 7).1, (row_cell g1 8).1, (row_cell g2 0).1, (row_cell g2 1).1, (row_cell g2 2).1, (row_cell g2 3).1⟩)
  have hSd := HSS.out wc.drew (Below.refl wc.heap.size wc).drew
  have HRC := Lib.hid (Below.refl wc.heap.size wc)
  have HRD := Lib.hid (Below.refl wc.heap.size wc).drew
  have z0 : wc.cell? ⟨z, 0, none⟩ = some (.int .i64 16) := (row_cell hz 0).1
  clear hR hrb hrc hz k4 k5 k6 k7 k8 hbc
  have z2 := (HSS.out _ HRC.out).2.2.2.2.2.2.2.2.2.2.2.1
  have HWD := HRC
  obtain ⟨F', X', hT5, hXD, hF', hf5⟩ : ∃ F' X', TaskAt wc F' tb p T X' ∧ X'.D = X.D ∧ (∀ k, F' k → F k ∨ wc.heap.size ≤ k) ∧ Fr F wc wc := ⟨F, X, h.below (HBC.out.trans (HWD.out.mono HBC.out.size)), rfl, fun _ h => .inl h, Fr.refl _ _⟩
  clear hSd
  go_upto_region 6 with fail
  clear z0
  have hsz5 : w.heap.size + 2 ≤ wc.heap.size := by have := HSZ.out; omega
  have hr5 := hf5.heap (HRW.out _ HWD.out) (fun e => by have := HFLT.out (w.heap.size + 1) e; omega)
  obtain ⟨⟨u0, u1, u2, u3, u4, u5, u6⟩, n0, n1, n2, n3, n4, n5, n6⟩ := seven_cells hr5
  have hfs := seven_fr wc (.int .i64 6) (.int .i64 0) (.int .i64 ib) (.int .i64 0) (.int .i64 0) (.bool false) (.slice none 0 0) (w.heap.size + 1)
  have hrs := seven_row hr5 (.int .i64 6) (.int .i64 0) (.int .i64 ib) (.int .i64 0) (.int .i64 0) (.bool false) (.slice none 0 0)
  have hFz : ∀ q, F' q → q ≠ w.heap.size + 1 := fun q hq e => by
   rcases hF' q hq with h1 | h1
   ·have := HFLT.out q h1; omega
   ·have := HWD.out.size; omega
  have hT6 := hT5.fr hfs (fun q hq e => hFz q hq e) (fun q hq e => by rw [hXD] at hq; have := HOUT.out q hq; have e : q = w.heap.size + 1 := e; omega)
  have hfw := (Fr.of_below (HBC.out.trans (HWD.out.mono HBC.out.size)) F).trans hf5 (fun _ _ h => h)
  have hf6 := hfw.trans hfs (fun q hq e => by have e : q = w.heap.size + 1 := e; omega)
  have hF6 : ∀ q, F' q → F q ∨ w.heap.size ≤ q := fun q hq => (hF' q hq).imp id (fun h1 => by have := HWD.out.size; omega)
  have HPP := Lib.hid (show RunPost w F tb p X _ (actV 6 0 ib 0 0 false (.slice none 0 0)) _ _ from ⟨rfl, F', X', hT6, hXD, hF6, hf6⟩)
  clear hfs hr5 hT5 hT6 hfw hf6 hf5 hF6 hFz hF' hXD hsz5
  have HRS := Lib.hid hrs; clear hrs
  unfold actV
  go_wp2_with fail
  refine bodyPost_ret ?_ rfl HPP.out
  have k0 := (row_cell HRS.out 0).1; have k1 := (row_cell HRS.out 1).1; have k2 := (row_cell HRS.out 2).1; have k3 := (row_cell HRS.out 3).1; have k4 := (row_cell HRS.out 4).1; have k5 := (row_cell HRS.out 5).1; have k6 := (row_cell HRS.out 6).1; simp at k0 k1 k2 k3 k4 k5 k6; simp [results, Tryz.results100, go_sem, k0, k1, k2, k3, k4, k5, k6, actV]
set_option maxRecDepth 100000 in
set_option maxHeartbeats 3200000 in
theorem asks_load (w : World) (F : Nat → Prop) (tb : Nat) (p : TPrg) (T : Tk) (X : TB) (h : TaskAt w F tb p T X) (ht : TkOk T) (P : List Part) (q : Part) (hP : T.parts = P ++ [q]) (j : Nat) (hj : j < p.funcs.length) (hfj : q.fn = j) (bn : Nat) (hbn : q.base = bn) (sb : Nat) (hs : (sb : Int) < p.funcs[j].slots) (hs2 : sb ≤ 3000) (hin : bn + (2 + sb) < T.words.length) (x : Int) (hx : T.words[bn + (2 + sb)]? = some x) (hx0 : x ≠ 0) (c0 c1 c2 mp : Value) (ia ic : Int) :
  Calls Tryz.prog 100 #[.agg (stepV c0 c1 c2 mp tb 14 ia sb ic)] w (RunPost w F tb p X T (actV 3 x ic 0 0 false (.slice none 0 0))) := by
 have hl : T.parts.length = P.length + 1 := by rw [hP]; simp
 have e0 : (T.parts[P.length]'(by omega)) = q := by simp only [hP]; simp
 have sl := fun wr (hw : Below w.heap.size w wr) => slot_in wr F tb p T X (h.below hw) ht P.length hl j hj (by rw [e0]; exact hfj) bn (by rw [e0]; exact hbn) sb hs hs2 hin
 rw [List.getElem?_eq_getElem hin] at hx
 injection hx with hx
 rw [hx] at sl
 have hxb : (x == 0) = false := by rw [beq_eq_false_iff_ne]; exact hx0
 clear hl e0 hs hin hx hx0
 have SL := Lib.hid sl; clear sl
 have hb0 := ((Below.refl w.heap.size w).alloc (Nat.le_refl _) (.cells (stepV c0 c1 c2 mp tb 14 ia sb ic) 124))
 have hb1 := hb0.alloc hb0.size act0
 have hr0 := row_alloc (heap_new w (.cells (stepV c0 c1 c2 mp tb 14 ia sb ic) 124)) act0
 have hr1 := heap_new (w.alloc (.cells (stepV c0 c1 c2 mp tb 14 ia sb ic) 124)) act0
 rw [show (w.alloc (.cells (stepV c0 c1 c2 mp tb 14 ia sb ic) 124)).heap.size = w.heap.size + 1 from by simp] at hr1
 obtain ⟨W, hW⟩ : ∃ W, W = (w.alloc (.cells (stepV c0 c1 c2 mp tb 14 ia sb ic) 124)).alloc act0 := ⟨_, rfl⟩
 rw [← hW] at hb1 hr0 hr1
 have HFLT := Lib.hid h.flt
 have HOUT := Lib.hid (fun k (hk : X.D k) => (h.out k hk).2)
 have hwz : W.heap.size = w.heap.size + 2 := by rw [hW]; simp
 unfold act0 at hW hr1
 unfold stepV at hW hr0
 have HW := Lib.hid hW
 have k4 : W.cell? ⟨w.heap.size, 4, none⟩ = some (.pointer (some ⟨tb, 0, none⟩)) := (row_cell hr0 4).1
 have k5 : W.cell? ⟨w.heap.size, 5, none⟩ = some (.int .i64 14) := (row_cell hr0 5).1
 have k6 : W.cell? ⟨w.heap.size, 6, none⟩ = some (.int .i64 ia) := (row_cell hr0 6).1
 have k7 : W.cell? ⟨w.heap.size, 7, none⟩ = some (.int .i64 sb) := (row_cell hr0 7).1
 have k8 : W.cell? ⟨w.heap.size, 8, none⟩ = some (.int .i64 ic) := (row_cell hr0 8).1
 have HRR := Lib.hid (Below.refl W.heap.size W)
 clear hb0 hW
 have HB1 := Lib.hid hb1; clear hb1
 have HR1 := Lib.hid hr1; clear hr1
 have HR0 := Lib.hid hr0; clear hr0
 have HWZ := Lib.hid hwz; clear hwz
 unfold stepV
 go_enter Tryz.func100, Tryz.ntmps100
 go_upto_region 1 with fail
 rw [← HW.out]
 go_cut [3, 4] (fun x y wx => ∃ z : Nat, x = .pointer (some ⟨z, 0, none⟩) ∧ y = .pointer (some ⟨tb, 0, none⟩) ∧ wx.heap[z]? = some (.cells #[.int .i64 14, .int .i64 ia, .int .i64 sb, .int .i64 ic] 59) ∧ w.heap.size + 2 ≤ z ∧ Below W.heap.size W wx)
 case first =>
  have bs := World.block_lt k4
  dsimp only at bs
  go_region
  all_goals
   go_wp2_with fail
   go_meet
   case rel => exact ⟨_, rfl, rfl, heap_new _ _, by have := HWZ.out; omega, (HRR.out.drew).alloc (HRR.out.size) _⟩
 case rest =>
  obtain ⟨z, rfl, rfl, hz, hzl, hR⟩ := hcut
  have hbc := HB1.out.trans (hR.mono HB1.out.size)
  have hrb := (Fr.of_below hR (fun _ => False)).heap HR0.out (fun h => h)
  have hrc := (Fr.of_below hR (fun _ => False)).heap HR1.out (fun h => h)
  have HBC := Lib.hid hbc
  have HSZ := Lib.hid (show w.heap.size + 2 ≤ wc.heap.size from by have := hR.size; have := HWZ.out; omega)
  have HRW := Lib.hid (fun wx (hw : Below wc.heap.size wc wx) => (Fr.of_below hw (fun _ => False)).heap hrc (fun h => h))
  have HSS := Lib.hid (show ∀ wx, Below wc.heap.size wc wx → wx.cell? ⟨w.heap.size, 0, none⟩ = some (c0) ∧ wx.cell? ⟨w.heap.size, 1, none⟩ = some (c1) ∧ wx.cell? ⟨w.heap.size, 2, none⟩ = some (c2) ∧ wx.cell? ⟨w.heap.size, 3, none⟩ = some (mp) ∧ wx.cell? ⟨w.heap.size, 4, none⟩ = some (.pointer (some ⟨tb, 0, none⟩)) ∧ wx.cell? ⟨w.heap.size, 5, none⟩ = some (.int .i64 14) ∧ wx.cell? ⟨w.heap.size, 6, none⟩ = some (.int .i64 ia) ∧ wx.cell? ⟨w.heap.size, 7, none⟩ = some (.int .i64 sb) ∧ wx.cell? ⟨w.heap.size, 8, none⟩ = some (.int .i64 ic) ∧ wx.cell? ⟨z, 0, none⟩ = some (.int .i64 14) ∧ wx.cell? ⟨z, 1, none⟩ = some (.int .i64 ia) ∧ wx.cell? ⟨z, 2, none⟩ = some (.int .i64 sb) ∧ wx.cell? ⟨z, 3, none⟩ = some (.int .i64 ic) from fun wx hw => by
   have g1 := (Fr.of_below hw (fun _ => False)).heap hrb (fun h => h)
   have g2 := (Fr.of_below hw (fun _ => False)).heap hz (fun h => h)
   exact ⟨(row_cell g1 0).1, (row_cell g1 1).1, (row_cell g1 2).1, (row_cell g1 3).1, (row_cell g1 4).1, (row_cell g1 5).1, (row_cell g1 6).1, (row_cell g1 7).1, (row_cell g1 8).1, (row_cell g2 0).1, (row_cell g2 1).1, (row_cell g2 2).1, (row_cell g2 3).1⟩)
  have hSd := HSS.out wc.drew (Below.refl wc.heap.size wc).drew
  have HRC := Lib.hid (Below.refl wc.heap.size wc)
  have HRD := Lib.hid (Below.refl wc.heap.size wc).drew
  have z0 : wc.cell? ⟨z, 0, none⟩ = some (.int .i64 14) := (row_cell hz 0).1
  clear hR hrb hrc hz k4 k5 k6 k7 k8 hbc
  obtain ⟨z1, z2, z3⟩ := (HSS.out _ HRC.out).2.2.2.2.2.2.2.2.2.2
  go_upto_region 9 with fail
  go_region_held3 (fun w' => w'.cell? ⟨z, 0, none⟩ = some (.int .i64 14) ∧ w'.cell? ⟨z, 1, none⟩ = some (.int .i64 ia) ∧ w'.cell? ⟨z, 2, none⟩ = some (.int .i64 sb) ∧ w'.cell? ⟨z, 3, none⟩ = some (.int .i64 ic)) (first | with_reducible exact hSd.2.2.2.2.2.2.2.2.2 | go_keep) (fail)
  clear hSd z0 z1 z2 z3
  go_wp2_with fail
  refine (SL.out _ HBC.out.drew).mono ?_
  rintro e w4 ⟨rfl, hb4⟩
  have HWD := Lib.hid ((Below.refl wc.heap.size wc).drew.trans hb4)
  have HSW := Lib.hid (HSS.out _ HWD.out)
  obtain ⟨F', X', hT5, hXD, hF', hf5⟩ : ∃ F' X', TaskAt w4 F' tb p T X' ∧ X'.D = X.D ∧ (∀ k, F' k → F k ∨ w4.heap.size ≤ k) ∧ Fr F w4 w4 := ⟨F, X, h.below (HBC.out.trans (HWD.out.mono HBC.out.size)), rfl, fun _ h => .inl h, Fr.refl _ _⟩
  have z0 := HSW.out.2.2.2.2.2.2.2.2.2.1
  clear hb4
  have hsz5 : w.heap.size + 2 ≤ wc.heap.size := by have := HSZ.out; omega
  have hr5 := hf5.heap (HRW.out _ HWD.out) (fun e => by have := HFLT.out (w.heap.size + 1) e; omega)
  obtain ⟨⟨u0, u1, u2, u3, u4, u5, u6⟩, n0, n1, n2, n3, n4, n5, n6⟩ := seven_cells hr5
  have hfs := seven_fr w4 (.int .i64 3) (.int .i64 x) (.int .i64 ic) (.int .i64 0) (.int .i64 0) (.bool false) (.slice none 0 0) (w.heap.size + 1)
  have hrs := seven_row hr5 (.int .i64 3) (.int .i64 x) (.int .i64 ic) (.int .i64 0) (.int .i64 0) (.bool false) (.slice none 0 0)
  have hFz : ∀ q, F' q → q ≠ w.heap.size + 1 := fun q hq e => by
   rcases hF' q hq with h1 | h1
   ·have := HFLT.out q h1; omega
   ·have := HWD.out.size; omega
  have hT6 := hT5.fr hfs (fun q hq e => hFz q hq e) (fun q hq e => by rw [hXD] at hq; have := HOUT.out q hq; have e : q = w.heap.size + 1 := e; omega)
  have hfw := (Fr.of_below (HBC.out.trans (HWD.out.mono HBC.out.size)) F).trans hf5 (fun _ _ h => h)
  have hf6 := hfw.trans hfs (fun q hq e => by have e : q = w.heap.size + 1 := e; omega)
  have hF6 : ∀ q, F' q → F q ∨ w.heap.size ≤ q := fun q hq => (hF' q hq).imp id (fun h1 => by have := HWD.out.size; omega)
  have HPP := Lib.hid (show RunPost w F tb p X _ (actV 3 x ic 0 0 false (.slice none 0 0)) _ _ from ⟨rfl, F', X', hT6, hXD, hF6, hf6⟩)
  clear hfs hr5 hT5 hT6 hfw hf6 hf5 hF6 hFz hF' hXD hsz5
  have HRS := Lib.hid hrs; clear hrs
  unfold actV
  go_wp2_with fail
  refine bodyPost_ret ?_ rfl HPP.out
  have k0 := (row_cell HRS.out 0).1; have k1 := (row_cell HRS.out 1).1; have k2 := (row_cell HRS.out 2).1; have k3 := (row_cell HRS.out 3).1; have k4 := (row_cell HRS.out 4).1; have k5 := (row_cell HRS.out 5).1; have k6 := (row_cell HRS.out 6).1; simp at k0 k1 k2 k3 k4 k5 k6; simp [results, Tryz.results100, go_sem, k0, k1, k2, k3, k4, k5, k6, actV]
set_option maxRecDepth 100000 in
set_option maxHeartbeats 3200000 in
theorem asks_gstore (w : World) (F : Nat → Prop) (tb : Nat) (p : TPrg) (T : Tk) (X : TB) (h : TaskAt w F tb p T X) (ht : TkOk T) (P : List Part) (q : Part) (hP : T.parts = P ++ [q]) (j : Nat) (hj : j < p.funcs.length) (hfj : q.fn = j) (bn : Nat) (hbn : q.base = bn) (sb : Nat) (hs : (sb : Int) < p.funcs[j].slots) (hs2 : sb ≤ 15) (hin : bn + (2 + sb) < T.words.length) (x : Int) (hx : T.words[bn + (2 + sb)]? = some x) (mb N : Nat) (hN : N < 65536) (PTS : ∀ wr, Below w.heap.size w wr → Calls Tryz.prog 142 #[.pointer (some ⟨mb, 0, none⟩), .int .i64 q.fn, .int .i64 q.pc] wr fun e w' => e = .returned (.int .u16 N) ∧ Below wr.heap.size wr w') (bv : Bool) (hbv : decide (N / 2 ^ sb % 2 = 1) = bv) (c0 c1 c2 : Value) (ia ic : Int) :
  Calls Tryz.prog 100 #[.agg (stepV c0 c1 c2 (.pointer (some ⟨mb, 0, none⟩)) tb 17 ia sb ic)] w (RunPost w F tb p X T (actV 7 0 ia x 0 bv (.slice none 0 0))) := by
 have hl : T.parts.length = P.length + 1 := by rw [hP]; simp
 have e0 : (T.parts[P.length]'(by omega)) = q := by simp only [hP]; simp
 have sl := fun wr (hw : Below w.heap.size w wr) => slot_in wr F tb p T X (h.below hw) ht P.length hl j hj (by rw [e0]; exact hfj) bn (by rw [e0]; exact hbn) sb hs (by omega) hin
 rw [List.getElem?_eq_getElem hin] at hx
 injection hx with hx
 rw [hx] at sl
 have pt := fun wr (hw : Below w.heap.size w wr) => pointer_any wr F tb p T X (h.below hw) ht.1 P q hP q.fn q.pc rfl rfl mb N hN sb hs2 (fun wx hx => PTS wx (hw.trans (hx.mono hw.size))) c0 c1 c2 17 ia sb ic
 rw [hbv] at pt
 unfold stepV at pt
 clear hl e0 hs hin hx PTS hN hbv
 have SL := Lib.hid sl; clear sl
 have PT := Lib.hid pt; clear pt
 obtain ⟨mp, hmp⟩ : ∃ mp, mp = Value.pointer (some ⟨mb, 0, none⟩) := ⟨_, rfl⟩
 rw [← hmp] at PT ⊢
 clear hmp
 have hb0 := ((Below.refl w.heap.size w).alloc (Nat.le_refl _) (.cells (stepV c0 c1 c2 mp tb 17 ia sb ic) 124))
 have hb1 := hb0.alloc hb0.size act0
 have hr0 := row_alloc (heap_new w (.cells (stepV c0 c1 c2 mp tb 17 ia sb ic) 124)) act0
 have hr1 := heap_new (w.alloc (.cells (stepV c0 c1 c2 mp tb 17 ia sb ic) 124)) act0
 rw [show (w.alloc (.cells (stepV c0 c1 c2 mp tb 17 ia sb ic) 124)).heap.size = w.heap.size + 1 from by simp] at hr1
 obtain ⟨W, hW⟩ : ∃ W, W = (w.alloc (.cells (stepV c0 c1 c2 mp tb 17 ia sb ic) 124)).alloc act0 := ⟨_, rfl⟩
 rw [← hW] at hb1 hr0 hr1
 have HFLT := Lib.hid h.flt
 have HOUT := Lib.hid (fun k (hk : X.D k) => (h.out k hk).2)
 have hwz : W.heap.size = w.heap.size + 2 := by rw [hW]; simp
 unfold act0 at hW hr1
 unfold stepV at hW hr0
 have HW := Lib.hid hW
 have k4 : W.cell? ⟨w.heap.size, 4, none⟩ = some (.pointer (some ⟨tb, 0, none⟩)) := (row_cell hr0 4).1
 have k5 : W.cell? ⟨w.heap.size, 5, none⟩ = some (.int .i64 17) := (row_cell hr0 5).1
 have k6 : W.cell? ⟨w.heap.size, 6, none⟩ = some (.int .i64 ia) := (row_cell hr0 6).1
 have k7 : W.cell? ⟨w.heap.size, 7, none⟩ = some (.int .i64 sb) := (row_cell hr0 7).1
 have k8 : W.cell? ⟨w.heap.size, 8, none⟩ = some (.int .i64 ic) := (row_cell hr0 8).1
 have HRR := Lib.hid (Below.refl W.heap.size W)
 clear hb0 hW
 have HB1 := Lib.hid hb1; clear hb1
 have HR1 := Lib.hid hr1; clear hr1
 have HR0 := Lib.hid hr0; clear hr0
 have HWZ := Lib.hid hwz; clear hwz
 unfold stepV
 go_enter Tryz.func100, Tryz.ntmps100
 go_upto_region 1 with fail
 rw [← HW.out]
 go_cut [3, 4] (fun x y wx => ∃ z : Nat, x = .pointer (some ⟨z, 0, none⟩) ∧ y = .pointer (some ⟨tb, 0, none⟩) ∧ wx.heap[z]? = some (.cells #[.int .i64 17, .int .i64 ia, .int .i64 sb, .int .i64 ic] 59) ∧ w.heap.size + 2 ≤ z ∧ Below W.heap.size W wx)
 case first =>
  have bs := World.block_lt k4
  dsimp only at bs
  go_region
  all_goals
   go_wp2_with fail
   go_meet
   case rel => exact ⟨_, rfl, rfl, heap_new _ _, by have := HWZ.out; omega, (HRR.out.drew).alloc (HRR.out.size) _⟩
 case rest =>
  obtain ⟨z, rfl, rfl, hz, hzl, hR⟩ := hcut
  have hbc := HB1.out.trans (hR.mono HB1.out.size)
  have hrb := (Fr.of_below hR (fun _ => False)).heap HR0.out (fun h => h)
  have hrc := (Fr.of_below hR (fun _ => False)).heap HR1.out (fun h => h)
  have HBC := Lib.hid hbc
  have HSZ := Lib.hid (show w.heap.size + 2 ≤ wc.heap.size from by have := hR.size; have := HWZ.out; omega)
  have HRW := Lib.hid (fun wx (hw : Below wc.heap.size wc wx) => (Fr.of_below hw (fun _ => False)).heap hrc (fun h => h))
  have HSS := Lib.hid (show ∀ wx, Below wc.heap.size wc wx → wx.cell? ⟨w.heap.size, 0, none⟩ = some (c0) ∧ wx.cell? ⟨w.heap.size, 1, none⟩ = some (c1) ∧ wx.cell? ⟨w.heap.size, 2, none⟩ = some (c2) ∧ wx.cell? ⟨w.heap.size, 3, none⟩ = some (mp) ∧ wx.cell? ⟨w.heap.size, 4, none⟩ = some (.pointer (some ⟨tb, 0, none⟩)) ∧ wx.cell? ⟨w.heap.size, 5, none⟩ = some (.int .i64 17) ∧ wx.cell? ⟨w.heap.size, 6, none⟩ = some (.int .i64 ia) ∧ wx.cell? ⟨w.heap.size, 7, none⟩ = some (.int .i64 sb) ∧ wx.cell? ⟨w.heap.size, 8, none⟩ = some (.int .i64 ic) ∧ wx.cell? ⟨z, 0, none⟩ = some (.int .i64 17) ∧ wx.cell? ⟨z, 1, none⟩ = some (.int .i64 ia) ∧ wx.cell? ⟨z, 2, none⟩ = some (.int .i64 sb) ∧ wx.cell? ⟨z, 3, none⟩ = some (.int .i64 ic) from fun wx hw => by
   have g1 := (Fr.of_below hw (fun _ => False)).heap hrb (fun h => h)
   have g2 := (Fr.of_below hw (fun _ => False)).heap hz (fun h => h)
   exact ⟨(row_cell g1 0).1, (row_cell g1 1).1, (row_cell g1 2).1, (row_cell g1 3).1, (row_cell g1 4).1, (row_cell g1 5).1, (row_cell g1 6).1, (row_cell g1 7).1, (row_cell g1 8).1, (row_cell g2 0).1, (row_cell g2 1).1, (row_cell g2 2).1, (row_cell g2 3).1⟩)
  have hSd := HSS.out wc.drew (Below.refl wc.heap.size wc).drew
  have HRC := Lib.hid (Below.refl wc.heap.size wc)
  have HRD := Lib.hid (Below.refl wc.heap.size wc).drew
  have z0 : wc.cell? ⟨z, 0, none⟩ = some (.int .i64 17) := (row_cell hz 0).1
  clear hR hrb hrc hz k4 k5 k6 k7 k8 hbc
  go_upto_region 8 with fail
  go_region_held3 (fun w' => w'.cell? ⟨w.heap.size, 0, none⟩ = some (c0) ∧ w'.cell? ⟨w.heap.size, 1, none⟩ = some (c1) ∧ w'.cell? ⟨w.heap.size, 2, none⟩ = some (c2) ∧ w'.cell? ⟨w.heap.size, 3, none⟩ = some (mp) ∧ w'.cell? ⟨w.heap.size, 4, none⟩ = some (.pointer (some ⟨tb, 0, none⟩)) ∧ w'.cell? ⟨w.heap.size, 5, none⟩ = some (.int .i64 17) ∧ w'.cell? ⟨w.heap.size, 6, none⟩ = some (.int .i64 ia) ∧ w'.cell? ⟨w.heap.size, 7, none⟩ = some (.int .i64 sb) ∧ w'.cell? ⟨w.heap.size, 8, none⟩ = some (.int .i64 ic) ∧ w'.cell? ⟨z, 0, none⟩ = some (.int .i64 17) ∧ w'.cell? ⟨z, 1, none⟩ = some (.int .i64 ia) ∧ w'.cell? ⟨z, 2, none⟩ = some (.int .i64 sb) ∧ w'.cell? ⟨z, 3, none⟩ = some (.int .i64 ic)) (first | with_reducible exact hSd | with_reducible exact hS4 | with_reducible exact hS5 | with_reducible exact hS7 | go_keep) (first
   | (go_at_call 33
      refine (SL.out _ HBC.out.drew).mono ?_
      rintro e w4 ⟨rfl, hb4⟩
      have HW4 := Lib.hid ((Below.refl wc.heap.size wc).drew.trans hb4)
      have hS4 := HSS.out _ HW4.out)
   | (go_at_call 121
      refine (PT.out _ (HBC.out.trans (HW4.out.mono HBC.out.size))).mono ?_
      rintro e w5 ⟨rfl, hb5⟩
      have HWD := Lib.hid (HW4.out.trans (hb5.mono HW4.out.size))
      clear hb4 hb5
      have hr5 := HRW.out _ HWD.out
      have hS5 := HSS.out _ HWD.out
      have hfs := seven_fr w5 (.int .i64 7) (.int .i64 0) (.int .i64 ia) (.int .i64 x) (.int .i64 0) (.bool bv) (.slice none 0 0) (w.heap.size + 1)
      have nz0 : ¬ w.heap.size = w.heap.size + 1 := by omega
      have nz1 : ¬ z = w.heap.size + 1 := by omega
      have hS7 := (And.intro (hfs.cell hS5.1 nz0) (And.intro (hfs.cell hS5.2.1 nz0) (And.intro (hfs.cell hS5.2.2.1 nz0) (And.intro (hfs.cell hS5.2.2.2.1 nz0) (And.intro (hfs.cell hS5.2.2.2.2.1 nz0) (And.intro (hfs.cell hS5.2.2.2.2.2.1 nz0) (And.intro (hfs.cell hS5.2.2.2.2.2.2.1 nz0) (And.intro (hfs.cell hS5.2.2.2.2.2.2.2.1 nz0) (And.intro (hfs.cell hS5.2.2.2.2.2.2.2.2.1 nz0) (And.intro (hfs.cell hS5.2.2.2.2.2.2.2.2.2.1 nz1) (And.intro (hfs.cell hS5.2.2.2.2.2.2.2.2.2.2.1 nz1) (And.intro (hfs.cell hS5.2.2.2.2.2.2.2.2.2.2.2.1 nz1) (hfs.cell hS5.2.2.2.2.2.2.2.2.2.2.2.2 nz1)))))))))))))
      clear hfs
      obtain ⟨⟨z0, z1, z2, z3, z4, z5, z6⟩, n0, n1, n2, n3, n4, n5, n6⟩ := seven_cells hr5
      skip))
  all_goals
   clear hS4 hS5 hS7 hr5 z0 z1 z2 z3 z4 z5 z6 n0 n1 n2 n3 n4 n5 n6 nz0 nz1
   obtain ⟨F', X', hT5, hXD, hF', hf5⟩ : ∃ F' X', TaskAt w5 F' tb p T X' ∧ X'.D = X.D ∧ (∀ k, F' k → F k ∨ w5.heap.size ≤ k) ∧ Fr F w5 w5 := ⟨F, X, h.below (HBC.out.trans (HWD.out.mono HBC.out.size)), rfl, fun _ h => .inl h, Fr.refl _ _⟩
   have hsz5 : w.heap.size + 2 ≤ wc.heap.size := by have := HSZ.out; omega
   have hr5 := hf5.heap (HRW.out _ HWD.out) (fun e => by have := HFLT.out (w.heap.size + 1) e; omega)
   obtain ⟨⟨u0, u1, u2, u3, u4, u5, u6⟩, n0, n1, n2, n3, n4, n5, n6⟩ := seven_cells hr5
   have hfs := seven_fr w5 (.int .i64 7) (.int .i64 0) (.int .i64 ia) (.int .i64 x) (.int .i64 0) (.bool bv) (.slice none 0 0) (w.heap.size + 1)
   have hrs := seven_row hr5 (.int .i64 7) (.int .i64 0) (.int .i64 ia) (.int .i64 x) (.int .i64 0) (.bool bv) (.slice none 0 0)
   have hFz : ∀ q, F' q → q ≠ w.heap.size + 1 := fun q hq e => by
    rcases hF' q hq with h1 | h1
    ·have := HFLT.out q h1; omega
    ·have := HWD.out.size; omega
   have hT6 := hT5.fr hfs (fun q hq e => hFz q hq e) (fun q hq e => by rw [hXD] at hq; have := HOUT.out q hq; have e : q = w.heap.size + 1 := e; omega)
   have hfw := (Fr.of_below (HBC.out.trans (HWD.out.mono HBC.out.size)) F).trans hf5 (fun _ _ h => h)
   have hf6 := hfw.trans hfs (fun q hq e => by have e : q = w.heap.size + 1 := e; omega)
   have hF6 : ∀ q, F' q → F q ∨ w.heap.size ≤ q := fun q hq => (hF' q hq).imp id (fun h1 => by have := HWD.out.size; omega)
   have HPP := Lib.hid (show RunPost w F tb p X _ (actV 7 0 ia x 0 bv (.slice none 0 0)) _ _ from ⟨rfl, F', X', hT6, hXD, hF6, hf6⟩)
   clear hfs hr5 hT5 hT6 hfw hf6 hf5 hF6 hFz hF' hXD hsz5
   have HRS := Lib.hid hrs; clear hrs
   unfold actV
   go_wp2_with fail
   refine bodyPost_ret ?_ rfl HPP.out
   have k0 := (row_cell HRS.out 0).1; have k1 := (row_cell HRS.out 1).1; have k2 := (row_cell HRS.out 2).1; have k3 := (row_cell HRS.out 3).1; have k4 := (row_cell HRS.out 4).1; have k5 := (row_cell HRS.out 5).1; have k6 := (row_cell HRS.out 6).1; simp at k0 k1 k2 k3 k4 k5 k6; simp [results, Tryz.results100, go_sem, k0, k1, k2, k3, k4, k5, k6, actV]
set_option maxRecDepth 100000 in
set_option maxHeartbeats 3200000 in
theorem asks_store (w : World) (F : Nat → Prop) (tb : Nat) (p : TPrg) (T : Tk) (X : TB) (h : TaskAt w F tb p T X) (ht : TkOk T) (P : List Part) (q : Part) (hP : T.parts = P ++ [q]) (j : Nat) (hj : j < p.funcs.length) (hfj : q.fn = j) (bn : Nat) (hbn : q.base = bn) (sa sc : Nat) (hs : (sa : Int) < p.funcs[j].slots ∧ (sc : Int) < p.funcs[j].slots) (hs2 : sa ≤ 15 ∧ sc ≤ 15) (hin : bn + (2 + sa) < T.words.length ∧ bn + (2 + sc) < T.words.length) (x y : Int) (hx : T.words[bn + (2 + sa)]? = some x) (hx0 : x ≠ 0) (hy : T.words[bn + (2 + sc)]? = some y) (mb N : Nat) (hN : N < 65536) (PTS : ∀ wr, Below w.heap.size w wr → Calls Tryz.prog 142 #[.pointer (some ⟨mb, 0, none⟩), .int .i64 q.fn, .int .i64 q.pc] wr fun e w' => e = .returned (.int .u16 N) ∧ Below wr.heap.size wr w') (bv : Bool) (hbv : decide (N / 2 ^ sc % 2 = 1) = bv) (c0 c1 c2 : Value) (ib : Int) :
  Calls Tryz.prog 100 #[.agg (stepV c0 c1 c2 (.pointer (some ⟨mb, 0, none⟩)) tb 15 sa ib sc)] w (RunPost w F tb p X T (actV 4 x ib y 0 bv (.slice none 0 0))) := by
 have hl : T.parts.length = P.length + 1 := by rw [hP]; simp
 have e0 : (T.parts[P.length]'(by omega)) = q := by simp only [hP]; simp
 have sla := fun wr (hw : Below w.heap.size w wr) => slot_in wr F tb p T X (h.below hw) ht P.length hl j hj (by rw [e0]; exact hfj) bn (by rw [e0]; exact hbn) sa hs.1 (by omega) hin.1
 rw [List.getElem?_eq_getElem hin.1] at hx
 injection hx with hx
 rw [hx] at sla
 have sl := fun wr (hw : Below w.heap.size w wr) => slot_in wr F tb p T X (h.below hw) ht P.length hl j hj (by rw [e0]; exact hfj) bn (by rw [e0]; exact hbn) sc hs.2 (by omega) hin.2
 rw [List.getElem?_eq_getElem hin.2] at hy
 injection hy with hy
 rw [hy] at sl
 have hxb : (x == 0) = false := by rw [beq_eq_false_iff_ne]; exact hx0
 have pt := fun wr (hw : Below w.heap.size w wr) => pointer_any wr F tb p T X (h.below hw) ht.1 P q hP q.fn q.pc rfl rfl mb N hN sc hs2.2 (fun wx hx => PTS wx (hw.trans (hx.mono hw.size))) c0 c1 c2 15 sa ib sc
 rw [hbv] at pt
 unfold stepV at pt
 clear hl e0 hs hin hx hy hx0 PTS hN hbv
 have SL := Lib.hid sl; clear sl
 have SA := Lib.hid sla; clear sla
 have PT := Lib.hid pt; clear pt
 obtain ⟨mp, hmp⟩ : ∃ mp, mp = Value.pointer (some ⟨mb, 0, none⟩) := ⟨_, rfl⟩
 rw [← hmp] at PT ⊢
 clear hmp
 have hb0 := ((Below.refl w.heap.size w).alloc (Nat.le_refl _) (.cells (stepV c0 c1 c2 mp tb 15 sa ib sc) 124))
 have hb1 := hb0.alloc hb0.size act0
 have hr0 := row_alloc (heap_new w (.cells (stepV c0 c1 c2 mp tb 15 sa ib sc) 124)) act0
 have hr1 := heap_new (w.alloc (.cells (stepV c0 c1 c2 mp tb 15 sa ib sc) 124)) act0
 rw [show (w.alloc (.cells (stepV c0 c1 c2 mp tb 15 sa ib sc) 124)).heap.size = w.heap.size + 1 from by simp] at hr1
 obtain ⟨W, hW⟩ : ∃ W, W = (w.alloc (.cells (stepV c0 c1 c2 mp tb 15 sa ib sc) 124)).alloc act0 := ⟨_, rfl⟩
 rw [← hW] at hb1 hr0 hr1
 have HFLT := Lib.hid h.flt
 have HOUT := Lib.hid (fun k (hk : X.D k) => (h.out k hk).2)
 have hwz : W.heap.size = w.heap.size + 2 := by rw [hW]; simp
 unfold act0 at hW hr1
 unfold stepV at hW hr0
 have HW := Lib.hid hW
 have k4 : W.cell? ⟨w.heap.size, 4, none⟩ = some (.pointer (some ⟨tb, 0, none⟩)) := (row_cell hr0 4).1
 have k5 : W.cell? ⟨w.heap.size, 5, none⟩ = some (.int .i64 15) := (row_cell hr0 5).1
 have k6 : W.cell? ⟨w.heap.size, 6, none⟩ = some (.int .i64 sa) := (row_cell hr0 6).1
 have k7 : W.cell? ⟨w.heap.size, 7, none⟩ = some (.int .i64 ib) := (row_cell hr0 7).1
 have k8 : W.cell? ⟨w.heap.size, 8, none⟩ = some (.int .i64 sc) := (row_cell hr0 8).1
 have HRR := Lib.hid (Below.refl W.heap.size W)
 clear hb0 hW
 have HB1 := Lib.hid hb1; clear hb1
 have HR1 := Lib.hid hr1; clear hr1
 have HR0 := Lib.hid hr0; clear hr0
 have HWZ := Lib.hid hwz; clear hwz
 unfold stepV
 go_enter Tryz.func100, Tryz.ntmps100
 go_upto_region 1 with fail
 rw [← HW.out]
 go_cut [3, 4] (fun x y wx => ∃ z : Nat, x = .pointer (some ⟨z, 0, none⟩) ∧ y = .pointer (some ⟨tb, 0, none⟩) ∧ wx.heap[z]? = some (.cells #[.int .i64 15, .int .i64 sa, .int .i64 ib, .int .i64 sc] 59) ∧ w.heap.size + 2 ≤ z ∧ Below W.heap.size W wx)
 case first =>
  have bs := World.block_lt k4
  dsimp only at bs
  go_region
  all_goals
   go_wp2_with fail
   go_meet
   case rel => exact ⟨_, rfl, rfl, heap_new _ _, by have := HWZ.out; omega, (HRR.out.drew).alloc (HRR.out.size) _⟩
 case rest =>
  obtain ⟨z, rfl, rfl, hz, hzl, hR⟩ := hcut
  have hbc := HB1.out.trans (hR.mono HB1.out.size)
  have hrb := (Fr.of_below hR (fun _ => False)).heap HR0.out (fun h => h)
  have hrc := (Fr.of_below hR (fun _ => False)).heap HR1.out (fun h => h)
  have HBC := Lib.hid hbc
  have HSZ := Lib.hid (show w.heap.size + 2 ≤ wc.heap.size from by have := hR.size; have := HWZ.out; omega)
  have HRW := Lib.hid (fun wx (hw : Below wc.heap.size wc wx) => (Fr.of_below hw (fun _ => False)).heap hrc (fun h => h))
  have HSS := Lib.hid (show ∀ wx, Below wc.heap.size wc wx → wx.cell? ⟨w.heap.size, 0, none⟩ = some (c0) ∧ wx.cell? ⟨w.heap.size, 1, none⟩ = some (c1) ∧ wx.cell? ⟨w.heap.size, 2, none⟩ = some (c2) ∧ wx.cell? ⟨w.heap.size, 3, none⟩ = some (mp) ∧ wx.cell? ⟨w.heap.size, 4, none⟩ = some (.pointer (some ⟨tb, 0, none⟩)) ∧ wx.cell? ⟨w.heap.size, 5, none⟩ = some (.int .i64 15) ∧ wx.cell? ⟨w.heap.size, 6, none⟩ = some (.int .i64 sa) ∧ wx.cell? ⟨w.heap.size, 7, none⟩ = some (.int .i64 ib) ∧ wx.cell? ⟨w.heap.size, 8, none⟩ = some (.int .i64 sc) ∧ wx.cell? ⟨z, 0, none⟩ = some (.int .i64 15) ∧ wx.cell? ⟨z, 1, none⟩ = some (.int .i64 sa) ∧ wx.cell? ⟨z, 2, none⟩ = some (.int .i64 ib) ∧ wx.cell? ⟨z, 3, none⟩ = some (.int .i64 sc) from fun wx hw => by
   have g1 := (Fr.of_below hw (fun _ => False)).heap hrb (fun h => h)
   have g2 := (Fr.of_below hw (fun _ => False)).heap hz (fun h => h)
   exact ⟨(row_cell g1 0).1, (row_cell g1 1).1, (row_cell g1 2).1, (row_cell g1 3).1, (row_cell g1 4).1, (row_cell g1 5).1, (row_cell g1 6).1, (row_cell g1 7).1, (row_cell g1 8).1, (row_cell g2 0).1, (row_cell g2 1).1, (row_cell g2 2).1, (row_cell g2 3).1⟩)
  have hSd := HSS.out wc.drew (Below.refl wc.heap.size wc).drew
  have HRC := Lib.hid (Below.refl wc.heap.size wc)
  have HRD := Lib.hid (Below.refl wc.heap.size wc).drew
  have z0 : wc.cell? ⟨z, 0, none⟩ = some (.int .i64 15) := (row_cell hz 0).1
  clear hR hrb hrc hz k4 k5 k6 k7 k8 hbc
  obtain ⟨z1, z2, z3⟩ := (HSS.out _ HRC.out).2.2.2.2.2.2.2.2.2.2
  go_upto_region 9 with fail
  go_region_held3 (fun w' => w'.cell? ⟨z, 0, none⟩ = some (.int .i64 15) ∧ w'.cell? ⟨z, 1, none⟩ = some (.int .i64 sa) ∧ w'.cell? ⟨z, 2, none⟩ = some (.int .i64 ib) ∧ w'.cell? ⟨z, 3, none⟩ = some (.int .i64 sc)) (first | with_reducible exact hSd.2.2.2.2.2.2.2.2.2 | go_keep) (fail)
  clear z0 z1 z2 z3
  have hRd := (Below.refl wc.heap.size wc).drew
  obtain ⟨wd, hwd⟩ : ∃ wd, wd = wc.drew := ⟨_, rfl⟩
  rw [← hwd] at hSd hRd ⊢
  obtain ⟨z0, z1, z2, z3⟩ := hSd.2.2.2.2.2.2.2.2.2
  have HRD := Lib.hid hRd
  clear hwd hSd hRd
  have hSe := HSS.out _ HRD.out.drew
  go_upto_region 11 with fail
  go_region_held3 (fun w' => w'.cell? ⟨z, 0, none⟩ = some (.int .i64 15) ∧ w'.cell? ⟨z, 1, none⟩ = some (.int .i64 sa) ∧ w'.cell? ⟨z, 2, none⟩ = some (.int .i64 ib) ∧ w'.cell? ⟨z, 3, none⟩ = some (.int .i64 sc)) (first | with_reducible exact hSe.2.2.2.2.2.2.2.2.2 | go_keep) (fail)
  clear z0 z1 z2 z3 hSe
  go_wp2_with fail
  refine (SA.out _ (HBC.out.trans (HRD.out.drew.mono HBC.out.size))).mono ?_
  rintro e w3 ⟨rfl, hb3⟩
  have HW3 := Lib.hid (HRD.out.drew.trans (hb3.mono HRD.out.drew.size))
  clear hb3
  have hSd := HSS.out _ HW3.out.drew
  obtain ⟨z0, z1, z2, z3⟩ := (HSS.out _ HW3.out).2.2.2.2.2.2.2.2.2
  go_upto_region 18 with fail
  clear z0 z1 z2 z3
  go_region_held3 (fun w' => w'.cell? ⟨w.heap.size, 0, none⟩ = some (c0) ∧ w'.cell? ⟨w.heap.size, 1, none⟩ = some (c1) ∧ w'.cell? ⟨w.heap.size, 2, none⟩ = some (c2) ∧ w'.cell? ⟨w.heap.size, 3, none⟩ = some (mp) ∧ w'.cell? ⟨w.heap.size, 4, none⟩ = some (.pointer (some ⟨tb, 0, none⟩)) ∧ w'.cell? ⟨w.heap.size, 5, none⟩ = some (.int .i64 15) ∧ w'.cell? ⟨w.heap.size, 6, none⟩ = some (.int .i64 sa) ∧ w'.cell? ⟨w.heap.size, 7, none⟩ = some (.int .i64 ib) ∧ w'.cell? ⟨w.heap.size, 8, none⟩ = some (.int .i64 sc) ∧ w'.cell? ⟨z, 0, none⟩ = some (.int .i64 15) ∧ w'.cell? ⟨z, 1, none⟩ = some (.int .i64 sa) ∧ w'.cell? ⟨z, 2, none⟩ = some (.int .i64 ib) ∧ w'.cell? ⟨z, 3, none⟩ = some (.int .i64 sc)) (first | with_reducible exact hSd | with_reducible exact hS4 | with_reducible exact hS5 | with_reducible exact hS7 | go_keep) (first
   | (go_at_call 33
      refine (SL.out _ (HBC.out.trans (HW3.out.drew.mono HBC.out.size))).mono ?_
      rintro e w4 ⟨rfl, hb4⟩
      have HW4 := Lib.hid (HW3.out.drew.trans (hb4.mono HW3.out.drew.size))
      have hS4 := HSS.out _ HW4.out)
   | (go_at_call 121
      refine (PT.out _ (HBC.out.trans (HW4.out.mono HBC.out.size))).mono ?_
      rintro e w5 ⟨rfl, hb5⟩
      have HWD := Lib.hid (HW4.out.trans (hb5.mono HW4.out.size))
      clear hb4 hb5
      have hr5 := HRW.out _ HWD.out
      have hS5 := HSS.out _ HWD.out
      have hfs := seven_fr w5 (.int .i64 4) (.int .i64 x) (.int .i64 ib) (.int .i64 y) (.int .i64 0) (.bool bv) (.slice none 0 0) (w.heap.size + 1)
      have nz0 : ¬ w.heap.size = w.heap.size + 1 := by omega
      have nz1 : ¬ z = w.heap.size + 1 := by omega
      have hS7 := (And.intro (hfs.cell hS5.1 nz0) (And.intro (hfs.cell hS5.2.1 nz0) (And.intro (hfs.cell hS5.2.2.1 nz0) (And.intro (hfs.cell hS5.2.2.2.1 nz0) (And.intro (hfs.cell hS5.2.2.2.2.1 nz0) (And.intro (hfs.cell hS5.2.2.2.2.2.1 nz0) (And.intro (hfs.cell hS5.2.2.2.2.2.2.1 nz0) (And.intro (hfs.cell hS5.2.2.2.2.2.2.2.1 nz0) (And.intro (hfs.cell hS5.2.2.2.2.2.2.2.2.1 nz0) (And.intro (hfs.cell hS5.2.2.2.2.2.2.2.2.2.1 nz1) (And.intro (hfs.cell hS5.2.2.2.2.2.2.2.2.2.2.1 nz1) (And.intro (hfs.cell hS5.2.2.2.2.2.2.2.2.2.2.2.1 nz1) (hfs.cell hS5.2.2.2.2.2.2.2.2.2.2.2.2 nz1)))))))))))))
      clear hfs
      obtain ⟨⟨z0, z1, z2, z3, z4, z5, z6⟩, n0, n1, n2, n3, n4, n5, n6⟩ := seven_cells hr5
      skip))
  all_goals
   clear hS4 hS5 hS7 hr5 z0 z1 z2 z3 z4 z5 z6 n0 n1 n2 n3 n4 n5 n6 nz0 nz1
   obtain ⟨F', X', hT5, hXD, hF', hf5⟩ : ∃ F' X', TaskAt w5 F' tb p T X' ∧ X'.D = X.D ∧ (∀ k, F' k → F k ∨ w5.heap.size ≤ k) ∧ Fr F w5 w5 := ⟨F, X, h.below (HBC.out.trans (HWD.out.mono HBC.out.size)), rfl, fun _ h => .inl h, Fr.refl _ _⟩
   have hsz5 : w.heap.size + 2 ≤ wc.heap.size := by have := HSZ.out; omega
   have hr5 := hf5.heap (HRW.out _ HWD.out) (fun e => by have := HFLT.out (w.heap.size + 1) e; omega)
   obtain ⟨⟨u0, u1, u2, u3, u4, u5, u6⟩, n0, n1, n2, n3, n4, n5, n6⟩ := seven_cells hr5
   have hfs := seven_fr w5 (.int .i64 4) (.int .i64 x) (.int .i64 ib) (.int .i64 y) (.int .i64 0) (.bool bv) (.slice none 0 0) (w.heap.size + 1)
   have hrs := seven_row hr5 (.int .i64 4) (.int .i64 x) (.int .i64 ib) (.int .i64 y) (.int .i64 0) (.bool bv) (.slice none 0 0)
   have hFz : ∀ q, F' q → q ≠ w.heap.size + 1 := fun q hq e => by
    rcases hF' q hq with h1 | h1
    ·have := HFLT.out q h1; omega
    ·have := HWD.out.size; omega
   have hT6 := hT5.fr hfs (fun q hq e => hFz q hq e) (fun q hq e => by rw [hXD] at hq; have := HOUT.out q hq; have e : q = w.heap.size + 1 := e; omega)
   have hfw := (Fr.of_below (HBC.out.trans (HWD.out.mono HBC.out.size)) F).trans hf5 (fun _ _ h => h)
   have hf6 := hfw.trans hfs (fun q hq e => by have e : q = w.heap.size + 1 := e; omega)
   have hF6 : ∀ q, F' q → F q ∨ w.heap.size ≤ q := fun q hq => (hF' q hq).imp id (fun h1 => by have := HWD.out.size; omega)
   have HPP := Lib.hid (show RunPost w F tb p X _ (actV 4 x ib y 0 bv (.slice none 0 0)) _ _ from ⟨rfl, F', X', hT6, hXD, hF6, hf6⟩)
   clear hfs hr5 hT5 hT6 hfw hf6 hf5 hF6 hFz hF' hXD hsz5
   have HRS := Lib.hid hrs; clear hrs
   unfold actV
   go_wp2_with fail
   refine bodyPost_ret ?_ rfl HPP.out
   have k0 := (row_cell HRS.out 0).1; have k1 := (row_cell HRS.out 1).1; have k2 := (row_cell HRS.out 2).1; have k3 := (row_cell HRS.out 3).1; have k4 := (row_cell HRS.out 4).1; have k5 := (row_cell HRS.out 5).1; have k6 := (row_cell HRS.out 6).1; simp at k0 k1 k2 k3 k4 k5 k6; simp [results, Tryz.results100, go_sem, k0, k1, k2, k3, k4, k5, k6, actV]
end Go.Proofs.YthkhgihjigmkoaaGreat.Tk
