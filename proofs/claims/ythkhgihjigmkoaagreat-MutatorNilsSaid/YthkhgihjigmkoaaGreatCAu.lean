import Derived.Test.YthkhgihjigmkoaaGreatCAt
import Derived.Test.YthkhgihjigmkoaaGreatCAa
import Derived.Test.YthkhgihjigmkoaaGreatCAm
set_option linter.unusedVariables false
set_option linter.unusedSimpArgs false
namespace Go.Proofs.YthkhgihjigmkoaaGreat.Tk
open Go.ChangeShapes Go.WideShapes Go.ChangeAt Go.RowKit Go.Maps
set_option maxRecDepth 100000 in
set_option maxHeartbeats 3200000 in
theorem run_setInt (w : World) (F : Nat → Prop) (tb : Nat) (p : TPrg) (T : Tk) (X : TB) (h : TaskAt w F tb p T X) (ht : TkOk T) (P : List Part) (q : Part) (hP : T.parts = P ++ [q]) (hq : 0 ≤ q.pc ∧ q.pc ≤ 100000) (j : Nat) (hj : j < p.funcs.length) (hfj : q.fn = j) (bn : Nat) (hbn : q.base = bn) (s : Nat) (hs : (s : Int) < p.funcs[j].slots) (hs2 : s ≤ 3000) (hin : bn + (2 + s) < T.words.length) (c0 c1 c2 mp : Value) (b c : Int) :
  Calls Tryz.prog 69 #[.agg (stepV c0 c1 c2 mp tb 1 s b c)] w (RunPost w F tb p X ⟨T.base, T.words.set (bn + (2 + s)) (wrap32 b), P ++ [⟨q.fn, q.pc + 1, q.base, q.ret, q.ta, q.tn, q.tc⟩], T.marks⟩ (actV 0 0 0 0 0 false (.slice none 0 0))) := by
 have st := fun wr (hw : Below w.heap.size w wr) => stSet_any wr F tb p T X (h.below hw) ht P q hP hq j hj hfj bn hbn s hs hs2 hin (wrap32 b) c0 c1 c2 mp 1 s b c
 have ST := Lib.hid st; clear st
 have hb0 := ((Below.refl w.heap.size w).alloc (Nat.le_refl _) (.cells (stepV c0 c1 c2 mp tb 1 s b c) 124))
 have hb1 := hb0.alloc hb0.size act0
 have hr0 := row_alloc (heap_new w (.cells (stepV c0 c1 c2 mp tb 1 s b c) 124)) act0
 have hr1 := heap_new (w.alloc (.cells (stepV c0 c1 c2 mp tb 1 s b c) 124)) act0
 rw [show (w.alloc (.cells (stepV c0 c1 c2 mp tb 1 s b c) 124)).heap.size = w.heap.size + 1 from by simp] at hr1
 obtain ⟨W, hW⟩ : ∃ W, W = (w.alloc (.cells (stepV c0 c1 c2 mp tb 1 s b c) 124)).alloc act0 := ⟨_, rfl⟩
 rw [← hW] at hb1 hr0 hr1
 have HFLT := Lib.hid h.flt
 have HOUT := Lib.hid (fun k (hk : X.D k) => (h.out k hk).2)
 have hwz : W.heap.size = w.heap.size + 2 := by rw [hW]; simp
 unfold act0 at hW hr1
 unfold stepV at hW hr0
 have HW := Lib.hid hW
 have k4 : W.cell? ⟨w.heap.size, 4, none⟩ = some (.pointer (some ⟨tb, 0, none⟩)) := (row_cell hr0 4).1
 have k5 : W.cell? ⟨w.heap.size, 5, none⟩ = some (.int .i64 1) := (row_cell hr0 5).1
 have k6 : W.cell? ⟨w.heap.size, 6, none⟩ = some (.int .i64 s) := (row_cell hr0 6).1
 have k7 : W.cell? ⟨w.heap.size, 7, none⟩ = some (.int .i64 b) := (row_cell hr0 7).1
 have k8 : W.cell? ⟨w.heap.size, 8, none⟩ = some (.int .i64 c) := (row_cell hr0 8).1
 have HRR := Lib.hid (Below.refl W.heap.size W)
 clear hb0 hW
 have HB1 := Lib.hid hb1; clear hb1
 have HR1 := Lib.hid hr1; clear hr1
 have HR0 := Lib.hid hr0; clear hr0
 have HWZ := Lib.hid hwz; clear hwz
 unfold stepV
 go_enter Tryz.func69, Tryz.ntmps69
 go_upto_region 1 with fail
 rw [← HW.out]
 go_cut [3, 4] (fun x y wx => ∃ z : Nat, x = .pointer (some ⟨z, 0, none⟩) ∧ y = .pointer (some ⟨tb, 0, none⟩) ∧ wx.heap[z]? = some (.cells #[.int .i64 1, .int .i64 s, .int .i64 b, .int .i64 c] 59) ∧ w.heap.size + 2 ≤ z ∧ Below W.heap.size W wx)
 case first =>
  have bs := World.block_lt k4
  dsimp only at bs
  go_region
  all_goals
   go_wp2_with fail
   go_meet
   case rel => exact ⟨_, rfl, rfl, heap_new _ _, by have := HWZ.out; omega, (HRR.out.drew).alloc (HRR.out.size) _⟩
 case rest =>
  obtain ⟨z, rfl, rfl, hz, hzl, hR⟩ := hcut
  have hbc := HB1.out.trans (hR.mono HB1.out.size)
  have hrb := (Fr.of_below hR (fun _ => False)).heap HR0.out (fun h => h)
  have hrc := (Fr.of_below hR (fun _ => False)).heap HR1.out (fun h => h)
  have HBD := Lib.hid (fun k => below_drewN hbc k)
  have HRG := Lib.hid (fun k => (Fr.of_below (below_drewN (Below.refl wc.heap.size wc) k) (fun _ => False)).heap hrc (fun h => h))
  have HSZ := Lib.hid (fun k => Nat.lt_of_lt_of_le (heap_lt hz) (below_drewN (Below.refl wc.heap.size wc) k).size)
  have HSG := Lib.hid (show ∀ k, (wc.drewN k).cell? ⟨w.heap.size, 0, none⟩ = some (c0) ∧ (wc.drewN k).cell? ⟨w.heap.size, 1, none⟩ = some (c1) ∧ (wc.drewN k).cell? ⟨w.heap.size, 2, none⟩ = some (c2) ∧ (wc.drewN k).cell? ⟨w.heap.size, 3, none⟩ = some (mp) ∧ (wc.drewN k).cell? ⟨w.heap.size, 4, none⟩ = some (.pointer (some ⟨tb, 0, none⟩)) ∧ (wc.drewN k).cell? ⟨w.heap.size, 5, none⟩ = some (.int .i64 1) ∧ (wc.drewN k).cell? ⟨w.heap.size, 6, none⟩ = some (.int .i64 s) ∧ (wc.drewN k).cell? ⟨w.heap.size, 7, none⟩ = some (.int .i64 b) ∧ (wc.drewN k).cell? ⟨w.heap.size, 8, none⟩ = some (.int .i64 c) ∧ (wc.drewN k).cell? ⟨z, 0, none⟩ = some (.int .i64 1) ∧ (wc.drewN k).cell? ⟨z, 1, none⟩ = some (.int .i64 s) ∧ (wc.drewN k).cell? ⟨z, 2, none⟩ = some (.int .i64 b) ∧ (wc.drewN k).cell? ⟨z, 3, none⟩ = some (.int .i64 c) from fun k => by
   have g1 := (Fr.of_below (below_drewN (Below.refl wc.heap.size wc) k) (fun _ => False)).heap hrb (fun h => h)
   have g2 := (Fr.of_below (below_drewN (Below.refl wc.heap.size wc) k) (fun _ => False)).heap hz (fun h => h)
   exact ⟨(row_cell g1 0).1, (row_cell g1 1).1, (row_cell g1 2).1, (row_cell g1 3).1, (row_cell g1 4).1, (row_cell g1 5).1, (row_cell g1 6).1, (row_cell g1 7).1, (row_cell g1 8).1, (row_cell g2 0).1, (row_cell g2 1).1, (row_cell g2 2).1, (row_cell g2 3).1⟩)
  have hSd := HSG.out 1
  rw [show wc.drewN 1 = wc.drew from rfl] at hSd
  have z0 : wc.cell? ⟨z, 0, none⟩ = some (.int .i64 1) := (row_cell hz 0).1
  clear hR hrb hrc hz k4 k5 k6 k7 k8 hbc
  go_upto_region 4 with fail
  go_region_held3 (fun w' => w'.cell? ⟨w.heap.size, 0, none⟩ = some (c0) ∧ w'.cell? ⟨w.heap.size, 1, none⟩ = some (c1) ∧ w'.cell? ⟨w.heap.size, 2, none⟩ = some (c2) ∧ w'.cell? ⟨w.heap.size, 3, none⟩ = some (mp) ∧ w'.cell? ⟨w.heap.size, 4, none⟩ = some (.pointer (some ⟨tb, 0, none⟩)) ∧ w'.cell? ⟨w.heap.size, 5, none⟩ = some (.int .i64 1) ∧ w'.cell? ⟨w.heap.size, 6, none⟩ = some (.int .i64 s) ∧ w'.cell? ⟨w.heap.size, 7, none⟩ = some (.int .i64 b) ∧ w'.cell? ⟨w.heap.size, 8, none⟩ = some (.int .i64 c) ∧ w'.cell? ⟨z, 0, none⟩ = some (.int .i64 1) ∧ w'.cell? ⟨z, 1, none⟩ = some (.int .i64 s) ∧ w'.cell? ⟨z, 2, none⟩ = some (.int .i64 b) ∧ w'.cell? ⟨z, 3, none⟩ = some (.int .i64 c)) (first | with_reducible exact HSG.out _ | with_reducible exact hSd | with_reducible exact hS5 | with_reducible exact hS7 | go_keep) (first
   | (go_at_call 96
      refine (of_any _ _).mono ?_
      rintro e w4 ⟨rfl, rfl⟩)
   | (go_at_call 70
      refine (ST.out _ (HBD.out 1)).mono ?_
      rintro e w5 ⟨rfl, hT5, hf5⟩
      have hlow := HSZ.out 1
      have hr5 := hf5.heap (HRG.out 1) (fun e => by have := HFLT.out (w.heap.size + 1) e; omega)
      have hS6 := HSG.out 1
      have hS5 := And.intro (hf5.cell hS6.1 (fun e => Nat.lt_irrefl _ (HFLT.out w.heap.size e))) (And.intro (hf5.cell hS6.2.1 (fun e => Nat.lt_irrefl _ (HFLT.out w.heap.size e))) (And.intro (hf5.cell hS6.2.2.1 (fun e => Nat.lt_irrefl _ (HFLT.out w.heap.size e))) (And.intro (hf5.cell hS6.2.2.2.1 (fun e => Nat.lt_irrefl _ (HFLT.out w.heap.size e))) (And.intro (hf5.cell hS6.2.2.2.2.1 (fun e => Nat.lt_irrefl _ (HFLT.out w.heap.size e))) (And.intro (hf5.cell hS6.2.2.2.2.2.1 (fun e => Nat.lt_irrefl _ (HFLT.out w.heap.size e))) (And.intro (hf5.cell hS6.2.2.2.2.2.2.1 (fun e => Nat.lt_irrefl _ (HFLT.out w.heap.size e))) (And.intro (hf5.cell hS6.2.2.2.2.2.2.2.1 (fun e => Nat.lt_irrefl _ (HFLT.out w.heap.size e))) (And.intro (hf5.cell hS6.2.2.2.2.2.2.2.2.1 (fun e => Nat.lt_irrefl _ (HFLT.out w.heap.size e))) (And.intro (hf5.cell hS6.2.2.2.2.2.2.2.2.2.1 (fun e => by have := HFLT.out z e; omega)) (And.intro (hf5.cell hS6.2.2.2.2.2.2.2.2.2.2.1 (fun e => by have := HFLT.out z e; omega)) (And.intro (hf5.cell hS6.2.2.2.2.2.2.2.2.2.2.2.1 (fun e => by have := HFLT.out z e; omega)) (hf5.cell hS6.2.2.2.2.2.2.2.2.2.2.2.2 (fun e => by have := HFLT.out z e; omega)))))))))))))
      have HFW := Lib.hid ((Fr.of_below (HBD.out 1) F).trans hf5 (fun _ _ h => h))
      have hfs := seven_fr w5 (.int .i64 0) (.int .i64 0) (.int .i64 0) (.int .i64 0) (.int .i64 0) (.bool false) (.slice none 0 0) (w.heap.size + 1)
      have nz0 : ¬ w.heap.size = w.heap.size + 1 := by omega
      have nz1 : ¬ z = w.heap.size + 1 := by omega
      have hS7 := And.intro (hfs.cell hS5.1 nz0) (And.intro (hfs.cell hS5.2.1 nz0) (And.intro (hfs.cell hS5.2.2.1 nz0) (And.intro (hfs.cell hS5.2.2.2.1 nz0) (And.intro (hfs.cell hS5.2.2.2.2.1 nz0) (And.intro (hfs.cell hS5.2.2.2.2.2.1 nz0) (And.intro (hfs.cell hS5.2.2.2.2.2.2.1 nz0) (And.intro (hfs.cell hS5.2.2.2.2.2.2.2.1 nz0) (And.intro (hfs.cell hS5.2.2.2.2.2.2.2.2.1 nz0) (And.intro (hfs.cell hS5.2.2.2.2.2.2.2.2.2.1 nz1) (And.intro (hfs.cell hS5.2.2.2.2.2.2.2.2.2.2.1 nz1) (And.intro (hfs.cell hS5.2.2.2.2.2.2.2.2.2.2.2.1 nz1) (hfs.cell hS5.2.2.2.2.2.2.2.2.2.2.2.2 nz1))))))))))))
      clear hS6 hf5 hfs
      obtain ⟨⟨z0, z1, z2, z3, z4, z5, z6⟩, n0, n1, n2, n3, n4, n5, n6⟩ := seven_cells hr5
      unfold actV
      skip))
  all_goals
   have hfs := seven_fr w5 (.int .i64 0) (.int .i64 0) (.int .i64 0) (.int .i64 0) (.int .i64 0) (.bool false) (.slice none 0 0) (w.heap.size + 1)
   have hrs := seven_row hr5 (.int .i64 0) (.int .i64 0) (.int .i64 0) (.int .i64 0) (.int .i64 0) (.bool false) (.slice none 0 0)
   have hT6 := hT5.fr hfs (fun q hq e => by have := HFLT.out q hq; have e : q = w.heap.size + 1 := e; omega) (fun q hq e => by have := HOUT.out q hq; have e : q = w.heap.size + 1 := e; omega)
   have hf6 := HFW.out.trans hfs (fun q hq e => by have e : q = w.heap.size + 1 := e; omega)
   have HPP := Lib.hid (show RunPost w F tb p X _ (actV 0 0 0 0 0 false (.slice none 0 0)) _ _ from ⟨rfl, F, X, hT6, ⟨rfl, rfl, rfl, rfl⟩, fun _ h => .inl h, hf6⟩)
   clear hfs hr5 hT5 hT6 hf6 hS5 hS7 hlow z0 z1 z2 z3 z4 z5 z6 n0 n1 n2 n3 n4 n5 n6
   have HRS := Lib.hid hrs; clear hrs
   go_wp2_with fail
   refine bodyPost_ret ?_ rfl HPP.out
   have k0 := (row_cell HRS.out 0).1; have k1 := (row_cell HRS.out 1).1; have k2 := (row_cell HRS.out 2).1; have k3 := (row_cell HRS.out 3).1; have k4 := (row_cell HRS.out 4).1; have k5 := (row_cell HRS.out 5).1; have k6 := (row_cell HRS.out 6).1; simp at k0 k1 k2 k3 k4 k5 k6; simp [results, Tryz.results69, go_sem, k0, k1, k2, k3, k4, k5, k6, actV]
end Go.Proofs.YthkhgihjigmkoaaGreat.Tk
namespace Go.Proofs.YthkhgihjigmkoaaGreat.Tk
open Go.ChangeShapes Go.WideShapes Go.ChangeAt Go.RowKit Go.Maps
set_option maxRecDepth 100000 in
set_option maxHeartbeats 3200000 in
theorem run_21 (w : World) (F : Nat → Prop) (tb : Nat) (p : TPrg) (T : Tk) (X : TB) (h : TaskAt w F tb p T X) (c0 c1 c2 mp : Value) (ia ib ic : Int) (T' : Tk) (k a f v fn : Int) (bb : Bool) (r0 : Option Addr) (r1 r2 : Nat)
  (ASK : ∀ wr, Below w.heap.size w wr → Calls Tryz.prog 101 #[.agg (stepV c0 c1 c2 mp tb 21 ia ib ic)] wr (RunPost wr F tb p X T' (actV k a f v fn bb (.slice r0 r1 r2)))) :
  Calls Tryz.prog 69 #[.agg (stepV c0 c1 c2 mp tb 21 ia ib ic)] w (RunPost w F tb p X T' (actV k a f v fn bb (.slice r0 r1 r2))) := by
 have ASKX := Lib.hid ASK; clear ASK
 unfold stepV at ASKX
 have hb0 := ((Below.refl w.heap.size w).alloc (Nat.le_refl _) (.cells (stepV c0 c1 c2 mp tb 21 ia ib ic) 124))
 have hb1 := hb0.alloc hb0.size act0
 have hr0 := row_alloc (heap_new w (.cells (stepV c0 c1 c2 mp tb 21 ia ib ic) 124)) act0
 have hr1 := heap_new (w.alloc (.cells (stepV c0 c1 c2 mp tb 21 ia ib ic) 124)) act0
 rw [show (w.alloc (.cells (stepV c0 c1 c2 mp tb 21 ia ib ic) 124)).heap.size = w.heap.size + 1 from by simp] at hr1
 obtain ⟨W, hW⟩ : ∃ W, W = (w.alloc (.cells (stepV c0 c1 c2 mp tb 21 ia ib ic) 124)).alloc act0 := ⟨_, rfl⟩
 rw [← hW] at hb1 hr0 hr1
 have HFLT := Lib.hid h.flt
 have HOUT := Lib.hid (fun k (hk : X.D k) => (h.out k hk).2)
 have hwz : W.heap.size = w.heap.size + 2 := by rw [hW]; simp
 unfold act0 at hW hr1
 unfold stepV at hW hr0
 have HW := Lib.hid hW
 have k4 : W.cell? ⟨w.heap.size, 4, none⟩ = some (.pointer (some ⟨tb, 0, none⟩)) := (row_cell hr0 4).1
 have k5 : W.cell? ⟨w.heap.size, 5, none⟩ = some (.int .i64 21) := (row_cell hr0 5).1
 have k6 : W.cell? ⟨w.heap.size, 6, none⟩ = some (.int .i64 ia) := (row_cell hr0 6).1
 have k7 : W.cell? ⟨w.heap.size, 7, none⟩ = some (.int .i64 ib) := (row_cell hr0 7).1
 have k8 : W.cell? ⟨w.heap.size, 8, none⟩ = some (.int .i64 ic) := (row_cell hr0 8).1
 have HRR := Lib.hid (Below.refl W.heap.size W)
 clear hb0 hW
 have HB1 := Lib.hid hb1; clear hb1
 have HR1 := Lib.hid hr1; clear hr1
 have HR0 := Lib.hid hr0; clear hr0
 have HWZ := Lib.hid hwz; clear hwz
 unfold stepV
 go_enter Tryz.func69, Tryz.ntmps69
 go_upto_region 1 with fail
 rw [← HW.out]
 go_cut [3, 4] (fun x y wx => ∃ z : Nat, x = .pointer (some ⟨z, 0, none⟩) ∧ y = .pointer (some ⟨tb, 0, none⟩) ∧ wx.heap[z]? = some (.cells #[.int .i64 21, .int .i64 ia, .int .i64 ib, .int .i64 ic] 59) ∧ w.heap.size + 2 ≤ z ∧ Below W.heap.size W wx)
 case first =>
  have bs := World.block_lt k4
  dsimp only at bs
  go_region
  all_goals
   go_wp2_with fail
   go_meet
   case rel => exact ⟨_, rfl, rfl, heap_new _ _, by have := HWZ.out; omega, (HRR.out.drew).alloc (HRR.out.size) _⟩
 case rest =>
  obtain ⟨z, rfl, rfl, hz, hzl, hR⟩ := hcut
  have hbc := HB1.out.trans (hR.mono HB1.out.size)
  have hrb := (Fr.of_below hR (fun _ => False)).heap HR0.out (fun h => h)
  have hrc := (Fr.of_below hR (fun _ => False)).heap HR1.out (fun h => h)
  have HBC := Lib.hid hbc
  have HSZ := Lib.hid (show w.heap.size + 2 ≤ wc.heap.size from by have := hR.size; have := HWZ.out; omega)
  have HRW := Lib.hid (fun wx (hw : Below wc.heap.size wc wx) => (Fr.of_below hw (fun _ => False)).heap hrc (fun h => h))
  have HSS := Lib.hid (show ∀ wx, Below wc.heap.size wc wx → wx.cell? ⟨w.heap.size, 0, none⟩ = some (c0) ∧ wx.cell? ⟨w.heap.size, 1, none⟩ = some (c1) ∧ wx.cell? ⟨w.heap.size, 2, none⟩ = some (c2) ∧ wx.cell? ⟨w.heap.size, 3, none⟩ = some (mp) ∧ wx.cell? ⟨w.heap.size, 4, none⟩ = some (.pointer (some ⟨tb, 0, none⟩)) ∧ wx.cell? ⟨w.heap.size, 5, none⟩ = some (.int .i64 21) ∧ wx.cell? ⟨w.heap.size, 6, none⟩ = some (.int .i64 ia) ∧ wx.cell? ⟨w.heap.size, 7, none⟩ = some (.int .i64 ib) ∧ wx.cell? ⟨w.heap.size, 8, none⟩ = some (.int .i64 ic) ∧ wx.cell? ⟨z, 0, none⟩ = some (.int .i64 21) ∧ wx.cell? ⟨z, 1, none⟩ = some (.int .i64 ia) ∧ wx.cell? ⟨z, 2, none⟩ = some (.int .i64 ib) ∧ wx.cell? ⟨z, 3, none⟩ = some (.int .i64 ic) from fun wx hw => by
   have g1 := (Fr.of_below hw (fun _ => False)).heap hrb (fun h => h)
   have g2 := (Fr.of_below hw (fun _ => False)).heap hz (fun h => h)
   exact ⟨(row_cell g1 0).1, (row_cell g1 1).1, (row_cell g1 2).1, (row_cell g1 3).1, (row_cell g1 4).1, (row_cell g1 5).1, (row_cell g1 6).1, (row_cell g1 7).1, (row_cell g1 8).1, (row_cell g2 0).1, (row_cell g2 1).1, (row_cell g2 2).1, (row_cell g2 3).1⟩)
  have hSd := HSS.out wc.drew (Below.refl wc.heap.size wc).drew
  have HRC := Lib.hid (Below.refl wc.heap.size wc)
  have HRD := Lib.hid (Below.refl wc.heap.size wc).drew
  have z0 : wc.cell? ⟨z, 0, none⟩ = some (.int .i64 21) := (row_cell hz 0).1
  clear hR hrb hrc hz k4 k5 k6 k7 k8 hbc
  obtain ⟨y0, y1, y2, y3, y4, y5, y6, y7, y8, _, _, _, _⟩ := HSS.out _ HRC.out
  clear hSd
  go_upto_region 40 with fail
  go_wp2_with fail
  refine (ASKX.out _ HBC.out).mono ?_
  rintro e w5 ⟨rfl, F', X', hT5, hXD, hF', hf5⟩
  have HWD := HRC
  clear y0 y1 y2 y3 y4 y5 y6 y7 y8 z0
  have hsz5 : w.heap.size + 2 ≤ wc.heap.size := by have := HSZ.out; omega
  have hr5 := hf5.heap (HRW.out _ HWD.out) (fun e => by have := HFLT.out (w.heap.size + 1) e; omega)
  obtain ⟨⟨u0, u1, u2, u3, u4, u5, u6⟩, n0, n1, n2, n3, n4, n5, n6⟩ := seven_cells hr5
  have hfs := seven_fr w5 (.int .i64 k) (.int .i64 a) (.int .i64 f) (.int .i64 v) (.int .i64 fn) (.bool bb) (.slice r0 r1 r2) (w.heap.size + 1)
  have hrs := seven_row hr5 (.int .i64 k) (.int .i64 a) (.int .i64 f) (.int .i64 v) (.int .i64 fn) (.bool bb) (.slice r0 r1 r2)
  have hFz : ∀ q, F' q → q ≠ w.heap.size + 1 := fun q hq e => by
   rcases hF' q hq with h1 | h1
   ·have := HFLT.out q h1; omega
   ·have := HWD.out.size; omega
  have hT6 := hT5.fr hfs (fun q hq e => hFz q hq e) (fun q hq e => by rw [hXD.1] at hq; have := HOUT.out q hq; have e : q = w.heap.size + 1 := e; omega)
  have hfw := (Fr.of_below (HBC.out.trans (HWD.out.mono HBC.out.size)) F).trans hf5 (fun _ _ h => h)
  have hf6 := hfw.trans hfs (fun q hq e => by have e : q = w.heap.size + 1 := e; omega)
  have hF6 : ∀ q, F' q → F q ∨ w.heap.size ≤ q := fun q hq => (hF' q hq).imp id (fun h1 => by have := HWD.out.size; omega)
  have HPP := Lib.hid (show RunPostG w F tb p X _ _ _ (actV k a f v fn bb (.slice r0 r1 r2)) _ _ from ⟨rfl, F', X', hT6, hXD, hF6, hf6⟩)
  clear hfs hr5 hT5 hT6 hfw hf6 hf5 hF6 hFz hF' hXD hsz5
  have HRS := Lib.hid hrs; clear hrs
  unfold actV
  go_wp2_with fail
  refine bodyPost_ret ?_ rfl HPP.out
  have k0 := (row_cell HRS.out 0).1; have k1 := (row_cell HRS.out 1).1; have k2 := (row_cell HRS.out 2).1; have k3 := (row_cell HRS.out 3).1; have k4 := (row_cell HRS.out 4).1; have k5 := (row_cell HRS.out 5).1; have k6 := (row_cell HRS.out 6).1; simp at k0 k1 k2 k3 k4 k5 k6; simp [results, Tryz.results69, go_sem, k0, k1, k2, k3, k4, k5, k6, actV]
end Go.Proofs.YthkhgihjigmkoaaGreat.Tk
namespace Go.Proofs.YthkhgihjigmkoaaGreat.Tk
open Go.ChangeShapes Go.WideShapes Go.ChangeAt Go.RowKit Go.Maps
set_option maxRecDepth 100000 in
set_option maxHeartbeats 3200000 in
theorem margs_any (w : World) (D : Nat → Prop) (hD : ∀ k, D k → k < w.heap.size) (p : TPrg) (c0 c1 c2 mp : Value) (hv : PV w D p c0 c1 c2) (tb : Nat) (i0 i1 i2 : Int) (cs j : Nat) (hj : j < p.funcs.length) (al : List Int) (hal : al.length = p.funcs[j].nargs) (hn : al.length ≤ 1000) (hcs : cs ≤ 1000)
  (SL : ∀ wx, Below w.heap.size w wx → ∀ k (hk : k < al.length), Calls Tryz.prog 33 #[.pointer (some ⟨tb, 0, none⟩), .int .i64 (cs + k : Nat)] wx fun e w' => e = .returned (.int .i64 al[k]) ∧ Below wx.heap.size wx w') :
  Calls Tryz.prog 123 #[.agg (stepV c0 c1 c2 mp tb i0 i1 i2 cs), .int .i64 j] w fun e w' => ∃ a c, e = .returned (.slice a al.length c) ∧ Own intE w' w.heap.size (.slice a al.length c) al ∧ Below w.heap.size w w' := by
 obtain ⟨⟨a0, n0, m0, rfl⟩, ⟨a1, m1, rfl, _⟩, a2, m2, rfl, hfn⟩ := hv
 obtain ⟨bb, o, rfl, hdb, y0, y1, y2, y3, y4, g0, x1, x2, x3, x4, ⟨ga, gc, rfl⟩, xx⟩ := hfn j hj
 clear x1 x2 x3 x4 xx
 rw [← hal] at g0
 have hb0 := (Below.refl w.heap.size w).alloc (Nat.le_refl _) (.cells (stepV (.slice a0 n0 m0) (.slice a1 p.shapes.length m1) (.slice (some ⟨bb, o, none⟩) p.funcs.length m2) mp tb i0 i1 i2 cs) 124)
 have hr0 := heap_new w (.cells (stepV (.slice a0 n0 m0) (.slice a1 p.shapes.length m1) (.slice (some ⟨bb, o, none⟩) p.funcs.length m2) mp tb i0 i1 i2 cs) 124)
 obtain ⟨W, hW⟩ : ∃ W, W = w.alloc (.cells (stepV (.slice a0 n0 m0) (.slice a1 p.shapes.length m1) (.slice (some ⟨bb, o, none⟩) p.funcs.length m2) mp tb i0 i1 i2 cs) 124) := ⟨_, rfl⟩
 rw [← hW] at hb0 hr0
 have hj0 : (0 : Int) ≤ (j : Int) := by omega
 have hj1 : (j : Int) < (p.funcs.length : Int) := by omega
 have k2 : W.cell? ⟨w.heap.size, 2, none⟩ = some (.slice (some ⟨bb, o, none⟩) p.funcs.length m2) := (row_cell hr0 2).1
 have hcc : ∀ wx, Below W.heap.size W wx → wx.cell? ⟨w.heap.size, 4, none⟩ = some (.pointer (some ⟨tb, 0, none⟩)) ∧ wx.cell? ⟨w.heap.size, 8, none⟩ = some (.int .i64 cs) := fun wx hw => by
  have g := (Fr.of_below hw (fun _ => False)).heap hr0 (fun h => h)
  exact ⟨(row_cell g 4).1, (row_cell g 8).1⟩
 have gg := below_cell hb0 g0
 have sl := fun wx (hx : Below W.heap.size W wx) k (hk : k < al.length) => SL wx (hb0.trans (hx.mono hb0.size)) k hk
 have hWW := Below.refl W.heap.size W
 obtain ⟨na, hna⟩ : ∃ na, na = al.length := ⟨_, rfl⟩
 rw [← hna] at gg hn ⊢
 have HNA := Lib.hid hna
 have HW := Lib.hid hW
 clear hW hfn hal g0 SL hr0 hdb hD hna hj
 generalize p.funcs.length = nf at *
 have SLX := Lib.hid sl; clear sl
 have HCC := Lib.hid hcc; clear hcc
 have HWW := Lib.hid hWW; clear hWW
 have HB0 := Lib.hid hb0; clear hb0
 unfold stepV at HW ⊢
 go_enter Tryz.func123, Tryz.ntmps123
 go_upto_region 1 with fail
 rw [← HW.out]
 go_wp2_with fail
 go_loopw [5, 15] (fun v i wr => ∃ k : Nat, k ≤ na ∧ i = .int .i64 k ∧ Own intE wr W.heap.size v (al.take k) ∧ Below W.heap.size W wr) (fun _ i _ => na - (intOf i).toNat)
 case atStart => exact ⟨0, Nat.zero_le _, rfl, Own.nil _ _ _, HWW.out⟩
 case round =>
  obtain ⟨k, hk, rfl, ho, hB⟩ := hrel
  by_cases hlt : k < na
  ·obtain ⟨q4, q8⟩ := HCC.out wr hB
   have hka : k < al.length := by have := HNA.out; omega
   have sl := SLX.out wr hB k hka
   obtain ⟨off, hoff⟩ : ∃ off, off = cs + k := ⟨_, rfl⟩
   have i1 : IntKind.i64.wrap ((cs : Int) + (k : Int)) = (off : Int) := by rw [show ((cs : Int) + (k : Int)) = (off : Int) from by omega]; exact IntWalk.i64_in _ (by omega)
   rw [← hoff] at sl
   obtain ⟨l, hl⟩ : ∃ l, l = al.take k := ⟨_, rfl⟩
   obtain ⟨x, hx⟩ : ∃ x, x = al[k] := ⟨_, rfl⟩
   have hsn : al.take (k + 1) = l ++ [x] := by rw [take_snoc al k hka, hl, hx]
   have hll : l.length ≤ 1000 := by rw [hl, List.length_take]; omega
   rw [← hl] at ho
   rw [← hx] at sl
   clear hx hl
   have SL := Lib.hid sl; clear sl
   have HO := Lib.hid ho; clear ho
   have HB := Lib.hid hB; clear hB
   have HOFF := Lib.hid hoff; clear hoff
   have HSN := Lib.hid hsn; clear hsn
   obtain ⟨v0, v1, v2, rfl⟩ := HO.out.slice
   go_wp2_with fail
   refine SL.out.mono ?_
   rintro e w3 ⟨rfl, hb3⟩
   have hB3 := HB.out.trans (hb3.mono HB.out.size)
   have ho3 := HO.out.below hb3
   clear hb3 q4 q8
   have HO3 := Lib.hid ho3
   have HB3 := Lib.hid hB3
   clear ho3 hB3
   go_wp2_with (at_builtin; refine append_own intE rfl (.tmp 18) (.tmp 27) rfl W.heap.size l [x] _ rfl (HO3.out.alloc _) w3.heap.size 0 1 rfl (CellsAt.new _ _ _ _) ?c1 ?c2 ?_)
   case c1 => first | omega | (show l.length + 1 ≤ 100000000; omega)
   case c2 => have := HB3.out.size; simp; omega
   intro v5 w5 ho5 hg5
   have hb5 := below_grown (HB3.out.alloc HB3.out.size _) (HO3.out.alloc (.cells #[.int .i64 x] 3)) hg5 (by have := HB3.out.size; simp; omega) (Nat.le_refl _)
   rw [← HSN.out] at ho5
   clear hg5
   have HO5 := Lib.hid ho5; clear ho5
   have HB5 := Lib.hid hb5; clear hb5
   go_wp2_with fail
   go_roundw
   case rel => exact ⟨k + 1, by omega, by go_num, HO5.out, HB5.out⟩
   case measure => simp [intOf]; omega
  ·have hk' : k = na := by omega
   subst hk'
   have e : al.take k = al := by rw [HNA.out, List.take_length]
   rw [e] at ho
   obtain ⟨va, vc, rfl, _⟩ := own_elems ho
   rw [← HNA.out] at ho ⊢
   have hfin := (HB0.out.trans (hB.mono HB0.out.size))
   have ho2 := ho.base (B' := w.heap.size) (fun k hk => Nat.le_trans HB0.out.size (own_base ho hk))
   clear ho hB e
   have HFIN := Lib.hid hfin; clear hfin
   have HO2 := Lib.hid ho2; clear ho2
   go_wp2_with fail
   go_ret
   exact ⟨_, _, rfl, HO2.out, HFIN.out⟩
end Go.Proofs.YthkhgihjigmkoaaGreat.Tk
