import Derived.Test.YthkhgihjigmkoaaGreatCAx
import Derived.Test.YthkhgihjigmkoaaGreatCAu
set_option linter.unusedVariables false
set_option linter.unusedSimpArgs false
namespace Go.Proofs.YthkhgihjigmkoaaGreat.Tk
open Go.ChangeShapes Go.WideShapes Go.ChangeAt Go.RowKit Go.Maps
set_option maxRecDepth 100000 in
set_option maxHeartbeats 3200000 in
theorem calls_callN (w : World) (F : Nat → Prop) (tb : Nat) (p : TPrg) (T : Tk) (X : TB) (h : TaskAt w F tb p T X) (c0 c1 mp : Value) (ia : Int) (j2 cs : Nat) (bb o nf m2 : Nat) (hj2 : j2 < nf) (res : Int) (hres : ∀ wx, Below w.heap.size w wx → wx.cell? ⟨bb, o + j2 * 5 + 1, none⟩ = some (.int .i64 res))
  (al : List Int) (ARGS : ∀ wx, Below w.heap.size w wx → Calls Tryz.prog 123 #[.agg (stepV c0 c1 (.slice (some ⟨bb, o, none⟩) nf m2) mp tb 21 ia j2 cs), .int .i64 j2] wx fun e w' => ∃ a c, e = .returned (.slice a al.length c) ∧ Own intE w' wx.heap.size (.slice a al.length c) al ∧ Below wx.heap.size wx w')
  (rt : Int) (hrt : rt = if res = 0 then -1 else ia) (x : Int) (ENT : ∀ wx va vc, Below w.heap.size w wx → Own intE wx w.heap.size (.slice va al.length vc) al → Calls Tryz.prog 20 #[.pointer (some ⟨tb, 0, none⟩), .int .i64 j2, .slice va al.length vc, .int .i64 rt] wx fun e w' => e = .returned (.bool false) ∧ TaskAt w' F tb p T X ∧ Fr F wx w')
  (NRM : ∀ wx, TaskAt wx F tb p T X → Calls Tryz.prog 91 #[.pointer (some ⟨tb, 0, none⟩), .int .i64 j2] wx fun e w' => e = .returned (.agg #[.int .i64 8, .int .i64 0, .int .i64 0, .int .i64 x, .int .i64 0, .bool false, .slice none 0 0]) ∧ Below wx.heap.size wx w') :
  Calls Tryz.prog 101 #[.agg (stepV c0 c1 (.slice (some ⟨bb, o, none⟩) nf m2) mp tb 21 ia j2 cs)] w (RunPost w F tb p X T (actV 8 0 0 x 0 false (.slice none 0 0))) := by
 have hj20 : (0 : Int) ≤ (j2 : Int) := by omega
 have hj21 : (j2 : Int) < (nf : Int) := by omega
 have HRES := Lib.hid hres; clear hres
 have ARGSX := Lib.hid ARGS; clear ARGS
 have ENTX := Lib.hid ENT; clear ENT
 have NRX := Lib.hid NRM; clear NRM
 unfold stepV at ARGSX
 clear hj2
 obtain ⟨c2, hc2⟩ : ∃ c2, c2 = Value.slice (some ⟨bb, o, none⟩) nf m2 := ⟨_, rfl⟩
 rw [← hc2] at ARGSX ⊢
 have HC2 := Lib.hid hc2
 clear hc2
 obtain ⟨nal, hnal⟩ : ∃ nal, nal = al.length := ⟨_, rfl⟩
 rw [← hnal] at ARGSX ENTX
 clear hnal
 have hb0 := ((Below.refl w.heap.size w).alloc (Nat.le_refl _) (.cells (stepV c0 c1 c2 mp tb 21 ia j2 cs) 124))
 have hb1 := hb0.alloc hb0.size act0
 have hr0 := row_alloc (heap_new w (.cells (stepV c0 c1 c2 mp tb 21 ia j2 cs) 124)) act0
 have hr1 := heap_new (w.alloc (.cells (stepV c0 c1 c2 mp tb 21 ia j2 cs) 124)) act0
 rw [show (w.alloc (.cells (stepV c0 c1 c2 mp tb 21 ia j2 cs) 124)).heap.size = w.heap.size + 1 from by simp] at hr1
 obtain ⟨W, hW⟩ : ∃ W, W = (w.alloc (.cells (stepV c0 c1 c2 mp tb 21 ia j2 cs) 124)).alloc act0 := ⟨_, rfl⟩
 rw [← hW] at hb1 hr0 hr1
 have HFLT := Lib.hid h.flt
 have HOUT := Lib.hid (fun k (hk : X.D k) => (h.out k hk).2)
 have hwz : W.heap.size = w.heap.size + 2 := by rw [hW]; simp
 unfold act0 at hW hr1
 unfold stepV at hW hr0
 have HW := Lib.hid hW
 have k4 : W.cell? ⟨w.heap.size, 4, none⟩ = some (.pointer (some ⟨tb, 0, none⟩)) := (row_cell hr0 4).1
 have k5 : W.cell? ⟨w.heap.size, 5, none⟩ = some (.int .i64 21) := (row_cell hr0 5).1
 have k6 : W.cell? ⟨w.heap.size, 6, none⟩ = some (.int .i64 ia) := (row_cell hr0 6).1
 have k7 : W.cell? ⟨w.heap.size, 7, none⟩ = some (.int .i64 j2) := (row_cell hr0 7).1
 have k8 : W.cell? ⟨w.heap.size, 8, none⟩ = some (.int .i64 cs) := (row_cell hr0 8).1
 have HRR := Lib.hid (Below.refl W.heap.size W)
 clear hb0 hW
 have HB1 := Lib.hid hb1; clear hb1
 have HR1 := Lib.hid hr1; clear hr1
 have HR0 := Lib.hid hr0; clear hr0
 have HWZ := Lib.hid hwz; clear hwz
 unfold stepV
 go_enter Tryz.func101, Tryz.ntmps101
 go_upto_region 1 with fail
 rw [← HW.out]
 go_cut [3, 4] (fun x y wx => ∃ z : Nat, x = .pointer (some ⟨z, 0, none⟩) ∧ y = .pointer (some ⟨tb, 0, none⟩) ∧ wx.heap[z]? = some (.cells #[.int .i64 21, .int .i64 ia, .int .i64 j2, .int .i64 cs] 59) ∧ w.heap.size + 2 ≤ z ∧ Below W.heap.size W wx)
 case first =>
  have bs := World.block_lt k4
  dsimp only at bs
  go_region
  all_goals
   go_wp2_with fail
   go_meet
   case rel => exact ⟨_, rfl, rfl, heap_new _ _, by have := HWZ.out; omega, (HRR.out.drew).alloc (HRR.out.size) _⟩
 case rest =>
  obtain ⟨z, rfl, rfl, hz, hzl, hR⟩ := hcut
  have hbc := HB1.out.trans (hR.mono HB1.out.size)
  have hrb := (Fr.of_below hR (fun _ => False)).heap HR0.out (fun h => h)
  have hrc := (Fr.of_below hR (fun _ => False)).heap HR1.out (fun h => h)
  have HBC := Lib.hid hbc
  have HSZ := Lib.hid (show w.heap.size + 2 ≤ wc.heap.size from by have := hR.size; have := HWZ.out; omega)
  have HRW := Lib.hid (fun wx (hw : Below wc.heap.size wc wx) => (Fr.of_below hw (fun _ => False)).heap hrc (fun h => h))
  have HSS := Lib.hid (show ∀ wx, Below wc.heap.size wc wx → wx.cell? ⟨w.heap.size, 0, none⟩ = some (c0) ∧ wx.cell? ⟨w.heap.size, 1, none⟩ = some (c1) ∧ wx.cell? ⟨w.heap.size, 2, none⟩ = some (c2) ∧ wx.cell? ⟨w.heap.size, 3, none⟩ = some (mp) ∧ wx.cell? ⟨w.heap.size, 4, none⟩ = some (.pointer (some ⟨tb, 0, none⟩)) ∧ wx.cell? ⟨w.heap.size, 5, none⟩ = some (.int .i64 21) ∧ wx.cell? ⟨w.heap.size, 6, none⟩ = some (.int .i64 ia) ∧ wx.cell? ⟨w.heap.size, 7, none⟩ = some (.int .i64 j2) ∧ wx.cell? ⟨w.heap.size, 8, none⟩ = some (.int .i64 cs) ∧ wx.cell? ⟨z, 0, none⟩ = some (.int .i64 21) ∧ wx.cell? ⟨z, 1, none⟩ = some (.int .i64 ia) ∧ wx.cell? ⟨z, 2, none⟩ = some (.int .i64 j2) ∧ wx.cell? ⟨z, 3, none⟩ = some (.int .i64 cs) from fun wx hw => by
   have g1 := (Fr.of_below hw (fun _ => False)).heap hrb (fun h => h)
   have g2 := (Fr.of_below hw (fun _ => False)).heap hz (fun h => h)
   exact ⟨(row_cell g1 0).1, (row_cell g1 1).1, (row_cell g1 2).1, (row_cell g1 3).1, (row_cell g1 4).1, (row_cell g1 5).1, (row_cell g1 6).1, (row_cell g1 7).1, (row_cell g1 8).1, (row_cell g2 0).1, (row_cell g2 1).1, (row_cell g2 2).1, (row_cell g2 3).1⟩)
  have hSd := HSS.out wc.drew (Below.refl wc.heap.size wc).drew
  have HRC := Lib.hid (Below.refl wc.heap.size wc)
  have HRD := Lib.hid (Below.refl wc.heap.size wc).drew
  have z0 : wc.cell? ⟨z, 0, none⟩ = some (.int .i64 21) := (row_cell hz 0).1
  clear hR hrb hrc hz k4 k5 k6 k7 k8 hbc
  clear hSd
  obtain ⟨y0, y1, y2, y3, y4, y5, y6, y7, y8, _, z1, z2, z3⟩ := HSS.out _ HRC.out
  rw [HC2.out] at y2
  have g1 := HRES.out _ HBC.out
  have hnF : ¬ F w.heap.size := fun e => Nat.lt_irrefl _ (HFLT.out w.heap.size e)
  have hnZ : ¬ F z := fun e => by have := HFLT.out z e; omega
  have HKK := Lib.hid (fun wx (hx : Fr F wc wx) => by
   obtain ⟨y0, y1, y2, y3, y4, y5, y6, y7, y8, z0, z1, z2, z3⟩ := HSS.out _ HRC.out
   exact And.intro (hx.cell y0 hnF) (And.intro (hx.cell y1 hnF) (And.intro (hx.cell y2 hnF) (And.intro (hx.cell y3 hnF) (And.intro (hx.cell y4 hnF) (And.intro (hx.cell y5 hnF) (And.intro (hx.cell y6 hnF) (And.intro (hx.cell y7 hnF) (And.intro (hx.cell y8 hnF) (And.intro (hx.cell z0 hnZ) (And.intro (hx.cell z1 hnZ) (And.intro (hx.cell z2 hnZ) (hx.cell z3 hnZ)))))))))))))
  have HTW := Lib.hid (fun wx (hx : Below wc.heap.size wc wx) => HBC.out.trans (hx.mono HBC.out.size))
  have ar4 := fun wx (hx : Below wc.heap.size wc wx) => ARGSX.out wx (HTW.out wx hx)
  have en4 := fun wx va vc (hx : Below wc.heap.size wc wx) (ho : Own intE wx w.heap.size (.slice va nal vc) al) => ENTX.out wx va vc (HTW.out wx hx) ho
  have AR4 := Lib.hid ar4; clear ar4
  have EN4 := Lib.hid en4; clear en4
  have HNF := Lib.hid hnF; clear hnF
  have HNZ := Lib.hid hnZ; clear hnZ
  by_cases h0 : res = 0
  all_goals
   first
    | (have hz0 := h0; rw [if_pos h0] at hrt)
    | (have hz0 : (res == 0) = false := by rw [beq_eq_false_iff_ne]; exact h0
       rw [if_neg h0] at hrt)
   try subst hz0
   subst hrt
   go_upto_region 8 with fail
   clear y0 y1 y2 y3 y4 y5 y6 y7 y8 z0 z1 z2 z3 g1
   refine wp_region_noPanic ?_
   refine wp_region_held_drew (S := fun w' => Fr F wc w') (by kernel_rfl) (Fr.of_below (Below.refl _ _).drew F) (fun _ => ?_)
   have HR1 := Lib.hid (Below.refl wc.heap.size wc).drew
   generalize wc.drew = r1 at *
   refine wpAnyH_take (i := 0) (v := ?_) rfl (by kernel_rfl) (by kernel_rfl) (by kernel_rfl) (fun _ _ _ h => h) (Or.inl ⟨by kernel_rfl, ?tq1⟩) (Fr.of_below HR1.out F) ?_
   case tq1 => (intro wq hq; obtain ⟨f0, f1, f2, f3, f4, f5, f6, f7, f8, f9, f10, f11, f12⟩ := HKK.out wq hq; go_simp; first | done | with_reducible rfl)
   refine wpAnyH_take (i := 1) (v := ?_) rfl (by kernel_rfl) (by kernel_rfl) (by kernel_rfl) (fun _ _ _ h => h) (Or.inl ⟨by kernel_rfl, ?tq2⟩) (Fr.of_below HR1.out F) ?_
   case tq2 => (intro wq hq; obtain ⟨f0, f1, f2, f3, f4, f5, f6, f7, f8, f9, f10, f11, f12⟩ := HKK.out wq hq; go_simp; first | done | with_reducible rfl)
   refine wpAnyH_take (i := 2) (v := ?_) rfl (by kernel_rfl) (by kernel_rfl) (by kernel_rfl) (fun _ _ _ h => h) (Or.inl ⟨by kernel_rfl, ?tq3⟩) (Fr.of_below HR1.out F) ?_
   case tq3 => (intro wq hq; obtain ⟨f0, f1, f2, f3, f4, f5, f6, f7, f8, f9, f10, f11, f12⟩ := HKK.out wq hq; go_simp; first | done | with_reducible rfl)
   refine wpAnyH_take (i := 3) (v := ?_) rfl (by kernel_rfl) (by kernel_rfl) (by kernel_rfl) (fun _ _ _ h => h) (Or.inl ⟨by kernel_rfl, ?tq4⟩) (Fr.of_below HR1.out F) ?_
   case tq4 => (intro wq hq; obtain ⟨f0, f1, f2, f3, f4, f5, f6, f7, f8, f9, f10, f11, f12⟩ := HKK.out wq hq; go_simp; first | done | with_reducible rfl)
   refine wpAnyH_take (i := 4) (v := ?_) rfl (by kernel_rfl) (by kernel_rfl) (by kernel_rfl) (fun _ _ _ h => h) (Or.inl ⟨by kernel_rfl, ?tq5⟩) (Fr.of_below HR1.out F) ?_
   case tq5 => (intro wq hq; obtain ⟨f0, f1, f2, f3, f4, f5, f6, f7, f8, f9, f10, f11, f12⟩ := HKK.out wq hq; go_simp; first | done | with_reducible rfl)
   refine wpAnyH_take (i := 5) (v := ?_) rfl (by kernel_rfl) (by kernel_rfl) (by kernel_rfl) (fun _ _ _ h => h) (Or.inl ⟨by kernel_rfl, ?tq6⟩) (Fr.of_below HR1.out F) ?_
   case tq6 => (intro wq hq; obtain ⟨f0, f1, f2, f3, f4, f5, f6, f7, f8, f9, f10, f11, f12⟩ := HKK.out wq hq; go_simp; first | done | with_reducible rfl)
   refine wpAnyH_take (i := 7) (v := ?_) rfl (by kernel_rfl) (by kernel_rfl) (by kernel_rfl) (fun _ _ _ h => h) (Or.inl ⟨by kernel_rfl, ?tq7⟩) (Fr.of_below HR1.out F) ?_
   case tq7 => (intro wq hq; obtain ⟨f0, f1, f2, f3, f4, f5, f6, f7, f8, f9, f10, f11, f12⟩ := HKK.out wq hq; go_simp; first | done | with_reducible rfl)
   refine wpAnyH_ready (rs := [6]) (by kernel_rfl) (by simp) ?_
   refine (AllReadyH.cons rfl (fun K hK => ?_) AllReadyH.nil)
   go_simp
   go_at_call 123
   refine (AR4.out r1 HR1.out).mono ?_
   rintro e r2 ⟨va, vc, rfl, hov, hb⟩
   have HR2 := Lib.hid (HR1.out.trans (hb.mono HR1.out.size))
   have HOV := Lib.hid (hov.base (B' := w.heap.size) (fun k hk => Nat.le_trans (HTW.out r1 HR1.out).size (own_base hov hk)))
   clear hov
   clear hb
   refine hK.out _ _ (Fr.of_below HR2.out F) (fun _ => ?_)
   clear hK K
   refine wpAnyH_ready (rs := [8]) (by kernel_rfl) (by simp) ?_
   refine (AllReadyH.cons rfl (fun K hK => ?_) AllReadyH.nil)
   go_simp
   go_at_call 20
   refine (EN4.out r2 va vc HR2.out HOV.out).mono ?_
   rintro e r3 ⟨rfl, hTn, hfn⟩
   have HTN := Lib.hid hTn
   have HFN := Lib.hid ((Fr.of_below HR2.out F).trans hfn (fun _ _ h => h))
   clear hTn hfn
   refine hK.out _ _ HFN.out (fun _ => ?_)
   clear hK K
   refine wpAnyH_take (i := 9) (v := ?_) rfl (by kernel_rfl) (by kernel_rfl) (by kernel_rfl) (fun _ _ _ h => h) (Or.inl ⟨by kernel_rfl, ?tq8⟩) HFN.out ?_
   case tq8 => (intro wq hq; obtain ⟨f0, f1, f2, f3, f4, f5, f6, f7, f8, f9, f10, f11, f12⟩ := HKK.out wq hq; go_simp; first | done | with_reducible rfl)
   refine wpAnyH_done (by kernel_rfl) ?_ _
   refine NoPanic.normal ?_
   show Exit.then _ _ _ (Act.put _ (some 40) _) _
   simp only [Act.put, List.setIfInBounds_toArray, List.set_cons_zero, List.set_cons_succ]
   obtain ⟨y0, y1, y2, y3, y4, y5, y6, y7, y8, z0, z1, z2, z3⟩ := HKK.out _ HFN.out
   obtain ⟨w4, hw4⟩ : ∃ w4, w4 = r3 := ⟨_, rfl⟩
   have hr4 := HFN.out.heap (HRW.out _ HRC.out) (fun e => by have := HFLT.out (w.heap.size + 1) e; omega)
   have hfw4 := (Fr.of_below HBC.out F).trans HFN.out (fun _ _ h => h)
   have hT4 := HTN.out
   rw [← hw4] at hr4 hfw4 hT4 y0 y1 y2 y3 y4 y5 y6 y7 y8 z0 z1 z2 z3 ⊢
   have nr := NRX.out w4 hT4
   clear hw4
   have NR := Lib.hid nr; clear nr
   have HR4 := Lib.hid hr4; clear hr4
   have HFW4 := Lib.hid hfw4; clear hfw4
   have HT4 := Lib.hid hT4; clear hT4
   go_wp2_with fail
   refine NR.out.mono ?_
   rintro e w5 ⟨rfl, hb5⟩
   have hr5 := (Fr.of_below hb5 (fun _ => False)).heap HR4.out (fun h => h)
   have hfw := HFW4.out.trans (Fr.of_below hb5 F) (fun _ _ h => h)
   obtain ⟨F', X', hT5, hXD, hF'⟩ : ∃ F' X', TaskAt w5 F' tb p T X' ∧ X'.Q X X.al X.kf ∧ ∀ k, F' k → F k ∨ w.heap.size + 2 ≤ k := ⟨F, X, HT4.out.below hb5, ⟨rfl, rfl, rfl, rfl⟩, fun k hk => .inl hk⟩
   clear hb5 y0 y1 y2 y3 y4 y5 y6 y7 y8 z0 z1 z2 z3
   obtain ⟨⟨u0, u1, u2, u3, u4, u5, u6⟩, n0, n1, n2, n3, n4, n5, n6⟩ := seven_cells hr5
   have hfs := seven_fr w5 (.int .i64 8) (.int .i64 0) (.int .i64 0) (.int .i64 x) (.int .i64 0) (.bool false) (.slice none 0 0) (w.heap.size + 1)
   have hrs := seven_row hr5 (.int .i64 8) (.int .i64 0) (.int .i64 0) (.int .i64 x) (.int .i64 0) (.bool false) (.slice none 0 0)
   have hFz : ∀ q, F' q → q ≠ w.heap.size + 1 := fun q hq e => by
    rcases hF' q hq with h1 | h1
    ·have := HFLT.out q h1; omega
    ·omega
   have hT6 := hT5.fr hfs (fun q hq e => hFz q hq e) (fun q hq e => by rw [hXD.1] at hq; have := HOUT.out q hq; have e : q = w.heap.size + 1 := e; omega)
   have hf6 := hfw.trans hfs (fun q hq e => by have e : q = w.heap.size + 1 := e; omega)
   have hF6 : ∀ q, F' q → F q ∨ w.heap.size ≤ q := fun q hq => (hF' q hq).imp id (fun h1 => by omega)
   have HPP := Lib.hid (show RunPost w F tb p X T (actV 8 0 0 x 0 false (.slice none 0 0)) _ _ from ⟨rfl, F', X', hT6, hXD, hF6, hf6⟩)
   clear hfs hr5 hT5 hT6 hfw hf6 hF6 hFz hF' hXD
   have HRS := Lib.hid hrs; clear hrs
   unfold actV
   go_wp2_with (with_reducible refine bodyPost_ret ?_ rfl HPP.out; have k0 := (row_cell HRS.out 0).1; have k1 := (row_cell HRS.out 1).1; have k2 := (row_cell HRS.out 2).1; have k3 := (row_cell HRS.out 3).1; have k4 := (row_cell HRS.out 4).1; have k5 := (row_cell HRS.out 5).1; have k6 := (row_cell HRS.out 6).1; simp at k0 k1 k2 k3 k4 k5 k6; simp [results, Tryz.results101, go_sem, k0, k1, k2, k3, k4, k5, k6, actV])
end Go.Proofs.YthkhgihjigmkoaaGreat.Tk
namespace Go.Proofs.YthkhgihjigmkoaaGreat.Tk
open Go.ChangeShapes Go.WideShapes Go.ChangeAt Go.RowKit Go.Maps
set_option maxRecDepth 100000 in
set_option maxHeartbeats 3200000 in
theorem step_runX (w : World) (F : Nat → Prop) (tb : Nat) (p : TPrg) (T : Tk) (X : TB) (h : TaskAt w F tb p T X) (hn : T.parts.length ≤ 1000) (hm : nextU T.marks X.al = 0) (hml : T.marks.length ≤ 10000) (hal : X.al.length ≤ 10000) (P : List Part) (q : Part) (hP : T.parts = P ++ [q])
  (D : Nat → Prop) (hD : ∀ k, D k → ¬ F k ∧ k < w.heap.size) (pr : Prg) (c0 c1 c2 : Value) (ma : Option Addr) (hv : PrgVal w D pr c0 c1 c2) (j : Nat) (hj : j < pr.funcs.length) (hfj : q.fn = j) (pc : Nat) (hpc : q.pc = pc) (hpl : pc < pr.funcs[j].code.length) (i : Ins) (hi : pr.funcs[j].code[pc] = i)
  (X1 : TB) (hX1 : X1.D = X.D) (T' : Tk) (al : List Alarm) (kf : { x : Int × Int // i64B x.1 ∧ i64B x.2 } → Option Int) (k a f v fn : Int) (b : Bool) (r0 : Option Addr) (r1 r2 : Nat) (RUN : ∀ wr, Below w.heap.size w wr → Calls Tryz.prog 69 #[.agg (stepV c0 c1 c2 (.pointer ma) tb i.op i.a i.b i.c)] wr (RunPostG wr F tb p X1 T' al kf (actV k a f v fn b (.slice r0 r1 r2)))) :
  Calls Tryz.prog 30 #[.agg #[c0, c1, c2], .pointer ma, .pointer (some ⟨tb, 0, none⟩)] w (RunPostG w F tb p X1 T' al kf (actV k a f v fn b (.slice r0 r1 r2))) := by
 have hv0 := hv
 obtain ⟨⟨a0, m0, rfl, _⟩, ⟨a1, m1, rfl, _⟩, a2, m2, rfl, hfn⟩ := hv
 have hb0 := ((Below.refl w.heap.size w).alloc (Nat.le_refl _) (.cells #[.slice a0 pr.globals.length m0, .slice a1 pr.shapes.length m1, .slice a2 pr.funcs.length m2] 27))
 have hb1 := hb0.alloc hb0.size act0
 have hr0 := row_alloc (heap_new w (.cells #[.slice a0 pr.globals.length m0, .slice a1 pr.shapes.length m1, .slice a2 pr.funcs.length m2] 27)) act0
 have hr1 := heap_new (w.alloc (.cells #[.slice a0 pr.globals.length m0, .slice a1 pr.shapes.length m1, .slice a2 pr.funcs.length m2] 27)) act0
 rw [show (w.alloc (.cells #[.slice a0 pr.globals.length m0, .slice a1 pr.shapes.length m1, .slice a2 pr.funcs.length m2] 27)).heap.size = w.heap.size + 1 from by simp] at hr1
 obtain ⟨W, hW⟩ : ∃ W, W = (w.alloc (.cells #[.slice a0 pr.globals.length m0, .slice a1 pr.shapes.length m1, .slice a2 pr.funcs.length m2] 27)).alloc act0 := ⟨_, rfl⟩
 rw [← hW] at hb1 hr0 hr1
 have hT := h.below hb1
 have hl : T.parts.length = P.length + 1 := by rw [hP]; simp
 have e0 : (T.parts[P.length]'(by omega)) = q := by simp only [hP]; simp
 have nx := tkNext_any W F tb p T X hT hml hal
 rw [hm] at nx
 have fnc := fun wr (hw : Below w.heap.size w wr) => fn_some wr F tb p T X (h.below hw) hn P.length hl
 have pcc := fun wr (hw : Below w.heap.size w wr) => pc_some wr F tb p T X (h.below hw) hn P.length hl
 rw [e0, hfj] at fnc
 rw [e0, hpc] at pcc
 obtain ⟨bb, o, rfl, hdb, y0, y1, y2, y3, y4, g0, g1, g2, g3, g4, hfv⟩ := hfn j hj
 obtain ⟨_, _, _, _, ac, cc, rfl, hcode⟩ := hfv
 obtain ⟨cb, co, rfl, hdc, x0, x1, x2, x3⟩ := hcode pc hpl
 rw [hi] at x0 x1 x2 x3
 have hbo := hD _ hdb
 have hco := hD _ hdc
 have hflt := h.flt
 have hout := fun k (hk : X.D k) => (h.out k hk).2
 have hcs : ∀ wx, Below w.heap.size w wx → wx.cell? ⟨bb, o + j * 5 + 4, none⟩ = some (.slice (some ⟨cb, co, none⟩) pr.funcs[j].code.length cc) ∧ wx.cell? ⟨cb, co + pc * 4, none⟩ = some (.int .i64 i.op) ∧ wx.cell? ⟨cb, co + pc * 4 + 1, none⟩ = some (.int .i64 i.a) ∧ wx.cell? ⟨cb, co + pc * 4 + 2, none⟩ = some (.int .i64 i.b) ∧ wx.cell? ⟨cb, co + pc * 4 + 3, none⟩ = some (.int .i64 i.c) := fun wx hw => ⟨below_cell hw g4, below_cell hw x0, below_cell hw x1, below_cell hw x2, below_cell hw x3⟩
 have hj0 : (0 : Int) ≤ (j : Int) := by omega
 have hj1 : (j : Int) < (pr.funcs.length : Int) := by omega
 have hp0 : (0 : Int) ≤ (pc : Int) := by omega
 have hp1 : (pc : Int) < (pr.funcs[j].code.length : Int) := by omega
 unfold act0 at hW hr1
 have HW := Lib.hid hW
 clear hb0 hW hT hl e0 h hn hm hml hP hfj hpc hi hv0 hfn g0 g1 g2 g3 g4 x0 x1 x2 x3 hdb hdc hD hpl
 generalize pr.funcs[j].code.length = cl at *
 have FNC := Lib.hid fnc; clear fnc
 have PCC := Lib.hid pcc; clear pcc
 have RUNX := Lib.hid RUN; clear RUN
 have NX := Lib.hid nx; clear nx
 have HB1 := Lib.hid hb1; clear hb1
 have HR1 := Lib.hid hr1; clear hr1
 have HR0 := Lib.hid hr0; clear hr0
 have HBO := Lib.hid hbo; clear hbo
 have HCO := Lib.hid hco; clear hco
 have HFLT := Lib.hid hflt; clear hflt
 have HOUT := Lib.hid hout; clear hout
 have HCS := Lib.hid hcs; clear hcs
 unfold stepV at RUNX
 go_enter Tryz.func30, Tryz.ntmps30
 go_upto_region 1 with fail
 rw [← HW.out]
 go_wp2_with fail
 refine NX.out.mono ?_
 rintro e w3 ⟨rfl, hb3⟩
 have hb13 := HB1.out.trans (hb3.mono HB1.out.size)
 have hsz : w.heap.size + 2 ≤ w3.heap.size := Nat.le_trans (heap_lt HR1.out) hb3.size
 have HBD := Lib.hid (fun k => below_drewN hb13 k)
 have hro3 := (Fr.of_below hb3 (fun _ => False)).heap HR0.out (fun h => h)
 have hr3 := (Fr.of_below hb3 (fun _ => False)).heap HR1.out (fun h => h)
 have HRG := Lib.hid (fun k => (Fr.of_below (below_drewN (Below.refl w3.heap.size w3) k) (fun _ => False)).heap hr3 (fun h => h))
 have HSZ := Lib.hid (fun k => Nat.le_trans hsz (below_drewN (Below.refl w3.heap.size w3) k).size)
 have HSG := Lib.hid (show ∀ k, (w3.drewN k).cell? ⟨w.heap.size, 0, none⟩ = some (.slice a0 pr.globals.length m0) ∧ (w3.drewN k).cell? ⟨w.heap.size, 1, none⟩ = some (.slice a1 pr.shapes.length m1) ∧ (w3.drewN k).cell? ⟨w.heap.size, 2, none⟩ = some (.slice (some ⟨bb, o, none⟩) pr.funcs.length m2) ∧ (w3.drewN k).cell? ⟨bb, o + j * 5 + 4, none⟩ = some (.slice (some ⟨cb, co, none⟩) cl cc) ∧ (w3.drewN k).cell? ⟨cb, co + pc * 4, none⟩ = some (.int .i64 i.op) ∧ (w3.drewN k).cell? ⟨cb, co + pc * 4 + 1, none⟩ = some (.int .i64 i.a) ∧ (w3.drewN k).cell? ⟨cb, co + pc * 4 + 2, none⟩ = some (.int .i64 i.b) ∧ (w3.drewN k).cell? ⟨cb, co + pc * 4 + 3, none⟩ = some (.int .i64 i.c) from fun k => by
  have hk := (Fr.of_below (below_drewN (Below.refl w3.heap.size w3) k) (fun _ => False)).heap hro3 (fun h => h)
  exact ⟨(row_cell hk 0).1, (row_cell hk 1).1, (row_cell hk 2).1, HCS.out _ (below_drewN hb13 k)⟩)
 have hSd := HSG.out 1
 rw [show w3.drewN 1 = w3.drew from rfl] at hSd
 have HR0 := Lib.hid (show Below w.heap.size w w3.drew from HBD.out 1)
 have k3 : w3.cell? ⟨w.heap.size, 2, none⟩ = some (.slice (some ⟨bb, o, none⟩) pr.funcs.length m2) := (row_cell hro3 2).1
 clear hb3 hb13 hsz hro3 hr3 NX
 go_upto_region 11 with fail
 clear k3
 go_region_held3 (fun w' => w'.cell? ⟨w.heap.size, 0, none⟩ = some (.slice a0 pr.globals.length m0) ∧ w'.cell? ⟨w.heap.size, 1, none⟩ = some (.slice a1 pr.shapes.length m1) ∧ w'.cell? ⟨w.heap.size, 2, none⟩ = some (.slice (some ⟨bb, o, none⟩) pr.funcs.length m2) ∧ w'.cell? ⟨bb, o + j * 5 + 4, none⟩ = some (.slice (some ⟨cb, co, none⟩) cl cc) ∧ w'.cell? ⟨cb, co + pc * 4, none⟩ = some (.int .i64 i.op) ∧ w'.cell? ⟨cb, co + pc * 4 + 1, none⟩ = some (.int .i64 i.a) ∧ w'.cell? ⟨cb, co + pc * 4 + 2, none⟩ = some (.int .i64 i.b) ∧ w'.cell? ⟨cb, co + pc * 4 + 3, none⟩ = some (.int .i64 i.c)) (first | with_reducible exact HSG.out _ | with_reducible exact hSd | with_reducible exact hS5 | with_reducible exact hS7 | go_keep) (first
  | (go_at_call 38
     refine (FNC.out _ HR0.out).mono ?_
     rintro e w4 ⟨rfl, m, rfl⟩)
  | (go_at_call 31
     refine (PCC.out _ (HBD.out _)).mono ?_
     rintro e w4 ⟨rfl, m', rfl⟩)
  | (go_at_call 69
     refine (RUNX.out _ (HBD.out _)).mono ?_
     rintro e w5 ⟨rfl, F', X', hT', hXD, hF', hf5⟩
     have hlow := HSZ.out (1 + m + m')
     have hr5 := hf5.heap (HRG.out _) (fun e => by have := HFLT.out (w.heap.size + 1) e; omega)
     obtain ⟨u0, u1, u2, u3, u4, u5, u6, u7⟩ := HSG.out (1 + m + m')
     have hS5 := And.intro (hf5.cell u0 (fun e => Nat.lt_irrefl _ (HFLT.out w.heap.size e))) (And.intro (hf5.cell u1 (fun e => Nat.lt_irrefl _ (HFLT.out w.heap.size e))) (And.intro (hf5.cell u2 (fun e => Nat.lt_irrefl _ (HFLT.out w.heap.size e))) (And.intro (hf5.cell u3 HBO.out.1) (And.intro (hf5.cell u4 HCO.out.1) (And.intro (hf5.cell u5 HCO.out.1) (And.intro (hf5.cell u6 HCO.out.1) (hf5.cell u7 HCO.out.1)))))))
     have HFW := Lib.hid ((Fr.of_below (HBD.out (1 + m + m')) F).trans hf5 (fun _ _ h => h))
     have hfs := seven_fr w5 (.int .i64 k) (.int .i64 a) (.int .i64 f) (.int .i64 v) (.int .i64 fn) (.bool b) (.slice r0 r1 r2) (w.heap.size + 1)
     have nz0 : ¬ w.heap.size = w.heap.size + 1 := by omega
     have nz1 : ¬ bb = w.heap.size + 1 := by have := HBO.out.2; omega
     have nz2 : ¬ cb = w.heap.size + 1 := by have := HCO.out.2; omega
     have hS7 := And.intro (hfs.cell hS5.1 nz0) (And.intro (hfs.cell hS5.2.1 nz0) (And.intro (hfs.cell hS5.2.2.1 nz0) (And.intro (hfs.cell hS5.2.2.2.1 nz1) (And.intro (hfs.cell hS5.2.2.2.2.1 nz2) (And.intro (hfs.cell hS5.2.2.2.2.2.1 nz2) (And.intro (hfs.cell hS5.2.2.2.2.2.2.1 nz2) (hfs.cell hS5.2.2.2.2.2.2.2 nz2)))))))
     clear u0 u1 u2 u3 u4 u5 u6 u7 hf5 hfs
     obtain ⟨⟨z0, z1, z2, z3, z4, z5, z6⟩, n0, n1, n2, n3, n4, n5, n6⟩ := seven_cells hr5
     unfold actV))
 all_goals
  have hfs := seven_fr w5 (.int .i64 k) (.int .i64 a) (.int .i64 f) (.int .i64 v) (.int .i64 fn) (.bool b) (.slice r0 r1 r2) (w.heap.size + 1)
  have hrs := seven_row hr5 (.int .i64 k) (.int .i64 a) (.int .i64 f) (.int .i64 v) (.int .i64 fn) (.bool b) (.slice r0 r1 r2)
  have hFz : ∀ q, F' q → q ≠ w.heap.size + 1 := fun q hq e => by
   rcases hF' q hq with h1 | h1
   ·have := HFLT.out q h1; omega
   ·omega
  have hT5 := hT'.fr hfs (fun q hq e => hFz q hq e) (fun q hq e => by rw [hXD.1, hX1] at hq; have := HOUT.out q hq; have e : q = w.heap.size + 1 := e; omega)
  have hf6 := HFW.out.trans hfs (fun q hq e => by have e : q = w.heap.size + 1 := e; omega)
  have hF6 : ∀ q, F' q → F q ∨ w.heap.size ≤ q := fun q hq => by
   rcases hF' q hq with h1 | h1
   ·exact .inl h1
   ·exact .inr (by omega)
  have HPP := Lib.hid (show RunPostG w F tb p X1 T' al kf (actV k a f v fn b (.slice r0 r1 r2)) _ _ from ⟨rfl, F', X', hT5, hXD, hF6, hf6⟩)
  clear hfs hr5 hT' hT5 hf6 hF6 hFz hF' hS5 hS7 hXD hlow z0 z1 z2 z3 z4 z5 z6 n0 n1 n2 n3 n4 n5 n6
  have HRS := Lib.hid hrs; clear hrs
  go_wp2_with fail
  refine bodyPost_ret ?_ rfl HPP.out
  have k0 := (row_cell HRS.out 0).1; have k1 := (row_cell HRS.out 1).1; have k2 := (row_cell HRS.out 2).1; have k3 := (row_cell HRS.out 3).1; have k4 := (row_cell HRS.out 4).1; have k5 := (row_cell HRS.out 5).1; have k6 := (row_cell HRS.out 6).1; simp at k0 k1 k2 k3 k4 k5 k6; simp [results, Tryz.results30, go_sem, k0, k1, k2, k3, k4, k5, k6, actV]
set_option maxRecDepth 100000 in
set_option maxHeartbeats 3200000 in
theorem run_X22 (w : World) (F : Nat → Prop) (tb : Nat) (p : TPrg) (T : Tk) (X : TB) (h : TaskAt w F tb p T X) (c0 c1 c2 mp : Value) (ia ib ic : Int) (X1 : TB) (hX1 : X1.D = X.D) (al : List Alarm) (kf : { x : Int × Int // i64B x.1 ∧ i64B x.2 } → Option Int) (T' : Tk) (k a f v fn : Int) (bb : Bool) (r0 : Option Addr) (r1 r2 : Nat)
  (ASK : ∀ wr, Below w.heap.size w wr → Calls Tryz.prog 101 #[.agg (stepV c0 c1 c2 mp tb 22 ia ib ic)] wr (RunPostG wr F tb p X1 T' al kf (actV k a f v fn bb (.slice r0 r1 r2)))) :
  Calls Tryz.prog 69 #[.agg (stepV c0 c1 c2 mp tb 22 ia ib ic)] w (RunPostG w F tb p X1 T' al kf (actV k a f v fn bb (.slice r0 r1 r2))) := by
 have ASKX := Lib.hid ASK; clear ASK
 unfold stepV at ASKX
 have hb0 := ((Below.refl w.heap.size w).alloc (Nat.le_refl _) (.cells (stepV c0 c1 c2 mp tb 22 ia ib ic) 124))
 have hb1 := hb0.alloc hb0.size act0
 have hr0 := row_alloc (heap_new w (.cells (stepV c0 c1 c2 mp tb 22 ia ib ic) 124)) act0
 have hr1 := heap_new (w.alloc (.cells (stepV c0 c1 c2 mp tb 22 ia ib ic) 124)) act0
 rw [show (w.alloc (.cells (stepV c0 c1 c2 mp tb 22 ia ib ic) 124)).heap.size = w.heap.size + 1 from by simp] at hr1
 obtain ⟨W, hW⟩ : ∃ W, W = (w.alloc (.cells (stepV c0 c1 c2 mp tb 22 ia ib ic) 124)).alloc act0 := ⟨_, rfl⟩
 rw [← hW] at hb1 hr0 hr1
 have HFLT := Lib.hid h.flt
 have HOUT := Lib.hid (fun k (hk : X.D k) => (h.out k hk).2)
 have hwz : W.heap.size = w.heap.size + 2 := by rw [hW]; simp
 unfold act0 at hW hr1
 unfold stepV at hW hr0
 have HW := Lib.hid hW
 have k4 : W.cell? ⟨w.heap.size, 4, none⟩ = some (.pointer (some ⟨tb, 0, none⟩)) := (row_cell hr0 4).1
 have k5 : W.cell? ⟨w.heap.size, 5, none⟩ = some (.int .i64 22) := (row_cell hr0 5).1
 have k6 : W.cell? ⟨w.heap.size, 6, none⟩ = some (.int .i64 ia) := (row_cell hr0 6).1
 have k7 : W.cell? ⟨w.heap.size, 7, none⟩ = some (.int .i64 ib) := (row_cell hr0 7).1
 have k8 : W.cell? ⟨w.heap.size, 8, none⟩ = some (.int .i64 ic) := (row_cell hr0 8).1
 have HRR := Lib.hid (Below.refl W.heap.size W)
 clear hb0 hW
 have HB1 := Lib.hid hb1; clear hb1
 have HR1 := Lib.hid hr1; clear hr1
 have HR0 := Lib.hid hr0; clear hr0
 have HWZ := Lib.hid hwz; clear hwz
 unfold stepV
 go_enter Tryz.func69, Tryz.ntmps69
 go_upto_region 1 with fail
 rw [← HW.out]
 go_cut [3, 4] (fun x y wx => ∃ z : Nat, x = .pointer (some ⟨z, 0, none⟩) ∧ y = .pointer (some ⟨tb, 0, none⟩) ∧ wx.heap[z]? = some (.cells #[.int .i64 22, .int .i64 ia, .int .i64 ib, .int .i64 ic] 59) ∧ w.heap.size + 2 ≤ z ∧ Below W.heap.size W wx)
 case first =>
  have bs := World.block_lt k4
  dsimp only at bs
  go_region
  all_goals
   go_wp2_with fail
   go_meet
   case rel => exact ⟨_, rfl, rfl, heap_new _ _, by have := HWZ.out; omega, (HRR.out.drew).alloc (HRR.out.size) _⟩
 case rest =>
  obtain ⟨z, rfl, rfl, hz, hzl, hR⟩ := hcut
  have hbc := HB1.out.trans (hR.mono HB1.out.size)
  have hrb := (Fr.of_below hR (fun _ => False)).heap HR0.out (fun h => h)
  have hrc := (Fr.of_below hR (fun _ => False)).heap HR1.out (fun h => h)
  have HBC := Lib.hid hbc
  have HSZ := Lib.hid (show w.heap.size + 2 ≤ wc.heap.size from by have := hR.size; have := HWZ.out; omega)
  have HRW := Lib.hid (fun wx (hw : Below wc.heap.size wc wx) => (Fr.of_below hw (fun _ => False)).heap hrc (fun h => h))
  have HSS := Lib.hid (show ∀ wx, Below wc.heap.size wc wx → wx.cell? ⟨w.heap.size, 0, none⟩ = some (c0) ∧ wx.cell? ⟨w.heap.size, 1, none⟩ = some (c1) ∧ wx.cell? ⟨w.heap.size, 2, none⟩ = some (c2) ∧ wx.cell? ⟨w.heap.size, 3, none⟩ = some (mp) ∧ wx.cell? ⟨w.heap.size, 4, none⟩ = some (.pointer (some ⟨tb, 0, none⟩)) ∧ wx.cell? ⟨w.heap.size, 5, none⟩ = some (.int .i64 22) ∧ wx.cell? ⟨w.heap.size, 6, none⟩ = some (.int .i64 ia) ∧ wx.cell? ⟨w.heap.size, 7, none⟩ = some (.int .i64 ib) ∧ wx.cell? ⟨w.heap.size, 8, none⟩ = some (.int .i64 ic) ∧ wx.cell? ⟨z, 0, none⟩ = some (.int .i64 22) ∧ wx.cell? ⟨z, 1, none⟩ = some (.int .i64 ia) ∧ wx.cell? ⟨z, 2, none⟩ = some (.int .i64 ib) ∧ wx.cell? ⟨z, 3, none⟩ = some (.int .i64 ic) from fun wx hw => by
   have g1 := (Fr.of_below hw (fun _ => False)).heap hrb (fun h => h)
   have g2 := (Fr.of_below hw (fun _ => False)).heap hz (fun h => h)
   exact ⟨(row_cell g1 0).1, (row_cell g1 1).1, (row_cell g1 2).1, (row_cell g1 3).1, (row_cell g1 4).1, (row_cell g1 5).1, (row_cell g1 6).1, (row_cell g1 7).1, (row_cell g1 8).1, (row_cell g2 0).1, (row_cell g2 1).1, (row_cell g2 2).1, (row_cell g2 3).1⟩)
  have hSd := HSS.out wc.drew (Below.refl wc.heap.size wc).drew
  have HRC := Lib.hid (Below.refl wc.heap.size wc)
  have HRD := Lib.hid (Below.refl wc.heap.size wc).drew
  have z0 : wc.cell? ⟨z, 0, none⟩ = some (.int .i64 22) := (row_cell hz 0).1
  clear hR hrb hrc hz k4 k5 k6 k7 k8 hbc
  obtain ⟨y0, y1, y2, y3, y4, y5, y6, y7, y8, _, _, _, _⟩ := HSS.out _ HRC.out
  clear hSd
  go_upto_region 40 with fail
  go_wp2_with fail
  refine (ASKX.out _ HBC.out).mono ?_
  rintro e w5 ⟨rfl, F', X', hT5, hXD, hF', hf5⟩
  have HWD := HRC
  clear y0 y1 y2 y3 y4 y5 y6 y7 y8 z0
  have hsz5 : w.heap.size + 2 ≤ wc.heap.size := by have := HSZ.out; omega
  have hr5 := hf5.heap (HRW.out _ HWD.out) (fun e => by have := HFLT.out (w.heap.size + 1) e; omega)
  obtain ⟨⟨u0, u1, u2, u3, u4, u5, u6⟩, n0, n1, n2, n3, n4, n5, n6⟩ := seven_cells hr5
  have hfs := seven_fr w5 (.int .i64 k) (.int .i64 a) (.int .i64 f) (.int .i64 v) (.int .i64 fn) (.bool bb) (.slice r0 r1 r2) (w.heap.size + 1)
  have hrs := seven_row hr5 (.int .i64 k) (.int .i64 a) (.int .i64 f) (.int .i64 v) (.int .i64 fn) (.bool bb) (.slice r0 r1 r2)
  have hFz : ∀ q, F' q → q ≠ w.heap.size + 1 := fun q hq e => by
   rcases hF' q hq with h1 | h1
   ·have := HFLT.out q h1; omega
   ·have := HWD.out.size; omega
  have hT6 := hT5.fr hfs (fun q hq e => hFz q hq e) (fun q hq e => by rw [hXD.1, hX1] at hq; have := HOUT.out q hq; have e : q = w.heap.size + 1 := e; omega)
  have hfw := (Fr.of_below (HBC.out.trans (HWD.out.mono HBC.out.size)) F).trans hf5 (fun _ _ h => h)
  have hf6 := hfw.trans hfs (fun q hq e => by have e : q = w.heap.size + 1 := e; omega)
  have hF6 : ∀ q, F' q → F q ∨ w.heap.size ≤ q := fun q hq => (hF' q hq).imp id (fun h1 => by have := HWD.out.size; omega)
  have HPP := Lib.hid (show RunPostG w F tb p X1 _ _ _ (actV k a f v fn bb (.slice r0 r1 r2)) _ _ from ⟨rfl, F', X', hT6, hXD, hF6, hf6⟩)
  clear hfs hr5 hT5 hT6 hfw hf6 hf5 hF6 hFz hF' hXD hsz5
  have HRS := Lib.hid hrs; clear hrs
  unfold actV
  go_wp2_with fail
  refine bodyPost_ret ?_ rfl HPP.out
  have k0 := (row_cell HRS.out 0).1; have k1 := (row_cell HRS.out 1).1; have k2 := (row_cell HRS.out 2).1; have k3 := (row_cell HRS.out 3).1; have k4 := (row_cell HRS.out 4).1; have k5 := (row_cell HRS.out 5).1; have k6 := (row_cell HRS.out 6).1; simp at k0 k1 k2 k3 k4 k5 k6; simp [results, Tryz.results69, go_sem, k0, k1, k2, k3, k4, k5, k6, actV]
end Go.Proofs.YthkhgihjigmkoaaGreat.Tk
