import Derived.Test.YthkhgihjigmkoaaGreatCAu
import Derived.Test.YthkhgihjigmkoaaGreatCAv
import Derived.Test.YthkhgihjigmkoaaGreatCAs
set_option linter.unusedVariables false
set_option linter.unusedSimpArgs false
namespace Go.Proofs.YthkhgihjigmkoaaGreat.Tk
open Go.ChangeShapes Go.WideShapes Go.ChangeAt Go.RowKit Go.Maps
set_option maxRecDepth 100000 in
set_option maxHeartbeats 3200000 in
theorem calls_call (w : World) (F : Nat → Prop) (tb : Nat) (p : TPrg) (T : Tk) (X : TB) (h : TaskAt w F tb p T X) (c0 c1 mp : Value) (ia : Int) (j2 cs : Nat) (bb o nf m2 : Nat) (hj2 : j2 < nf) (res : Int) (hres : ∀ wx, Below w.heap.size w wx → wx.cell? ⟨bb, o + j2 * 5 + 1, none⟩ = some (.int .i64 res))
  (al : List Int) (ARGS : ∀ wx, Below w.heap.size w wx → Calls Tryz.prog 123 #[.agg (stepV c0 c1 (.slice (some ⟨bb, o, none⟩) nf m2) mp tb 21 ia j2 cs), .int .i64 j2] wx fun e w' => ∃ a c, e = .returned (.slice a al.length c) ∧ Own intE w' wx.heap.size (.slice a al.length c) al ∧ Below wx.heap.size wx w')
  (rt : Int) (hrt : rt = if res = 0 then -1 else ia) (T' : Tk) (ENT : ∀ wx va vc, Below w.heap.size w wx → Own intE wx w.heap.size (.slice va al.length vc) al → Calls Tryz.prog 20 #[.pointer (some ⟨tb, 0, none⟩), .int .i64 j2, .slice va al.length vc, .int .i64 rt] wx fun e w' => e = .returned (.bool true) ∧ ∃ F' X', TaskAt w' F' tb p T' X' ∧ X'.Q X X.al X.kf ∧ (∀ k, F' k → F k ∨ wx.heap.size ≤ k) ∧ Fr F wx w') :
  Calls Tryz.prog 101 #[.agg (stepV c0 c1 (.slice (some ⟨bb, o, none⟩) nf m2) mp tb 21 ia j2 cs)] w (RunPost w F tb p X T' (actV 0 0 0 0 0 false (.slice none 0 0))) := by
 have hj20 : (0 : Int) ≤ (j2 : Int) := by omega
 have hj21 : (j2 : Int) < (nf : Int) := by omega
 have HRES := Lib.hid hres; clear hres
 have ARGSX := Lib.hid ARGS; clear ARGS
 have ENTX := Lib.hid ENT; clear ENT
 unfold stepV at ARGSX
 clear hj2
 obtain ⟨c2, hc2⟩ : ∃ c2, c2 = Value.slice (some ⟨bb, o, none⟩) nf m2 := ⟨_, rfl⟩
 rw [← hc2] at ARGSX ⊢
 have HC2 := Lib.hid hc2
 clear hc2
 obtain ⟨nal, hnal⟩ : ∃ nal, nal = al.length := ⟨_, rfl⟩
 rw [← hnal] at ARGSX ENTX
 clear hnal
 have hb0 := ((Below.refl w.heap.size w).alloc (Nat.le_refl _) (.cells (stepV c0 c1 c2 mp tb 21 ia j2 cs) 124))
 have hb1 := hb0.alloc hb0.size act0
 have hr0 := row_alloc (heap_new w (.cells (stepV c0 c1 c2 mp tb 21 ia j2 cs) 124)) act0
 have hr1 := heap_new (w.alloc (.cells (stepV c0 c1 c2 mp tb 21 ia j2 cs) 124)) act0
 rw [show (w.alloc (.cells (stepV c0 c1 c2 mp tb 21 ia j2 cs) 124)).heap.size = w.heap.size + 1 from by simp] at hr1
 obtain ⟨W, hW⟩ : ∃ W, W = (w.alloc (.cells (stepV c0 c1 c2 mp tb 21 ia j2 cs) 124)).alloc act0 := ⟨_, rfl⟩
 rw [← hW] at hb1 hr0 hr1
 have HFLT := Lib.hid h.flt
 have HOUT := Lib.hid (fun k (hk : X.D k) => (h.out k hk).2)
 have hwz : W.heap.size = w.heap.size + 2 := by rw [hW]; simp
 unfold act0 at hW hr1
 unfold stepV at hW hr0
 have HW := Lib.hid hW
 have k4 : W.cell? ⟨w.heap.size, 4, none⟩ = some (.pointer (some ⟨tb, 0, none⟩)) := (row_cell hr0 4).1
 have k5 : W.cell? ⟨w.heap.size, 5, none⟩ = some (.int .i64 21) := (row_cell hr0 5).1
 have k6 : W.cell? ⟨w.heap.size, 6, none⟩ = some (.int .i64 ia) := (row_cell hr0 6).1
 have k7 : W.cell? ⟨w.heap.size, 7, none⟩ = some (.int .i64 j2) := (row_cell hr0 7).1
 have k8 : W.cell? ⟨w.heap.size, 8, none⟩ = some (.int .i64 cs) := (row_cell hr0 8).1
 have HRR := Lib.hid (Below.refl W.heap.size W)
 clear hb0 hW
 have HB1 := Lib.hid hb1; clear hb1
 have HR1 := Lib.hid hr1; clear hr1
 have HR0 := Lib.hid hr0; clear hr0
 have HWZ := Lib.hid hwz; clear hwz
 unfold stepV
 go_enter Tryz.func101, Tryz.ntmps101
 go_upto_region 1 with fail
 rw [← HW.out]
 go_cut [3, 4] (fun x y wx => ∃ z : Nat, x = .pointer (some ⟨z, 0, none⟩) ∧ y = .pointer (some ⟨tb, 0, none⟩) ∧ wx.heap[z]? = some (.cells #[.int .i64 21, .int .i64 ia, .int .i64 j2, .int .i64 cs] 59) ∧ w.heap.size + 2 ≤ z ∧ Below W.heap.size W wx)
 case first =>
  have bs := World.block_lt k4
  dsimp only at bs
  go_region
  all_goals
   go_wp2_with fail
   go_meet
   case rel => exact ⟨_, rfl, rfl, heap_new _ _, by have := HWZ.out; omega, (HRR.out.drew).alloc (HRR.out.size) _⟩
 case rest =>
  obtain ⟨z, rfl, rfl, hz, hzl, hR⟩ := hcut
  have hbc := HB1.out.trans (hR.mono HB1.out.size)
  have hrb := (Fr.of_below hR (fun _ => False)).heap HR0.out (fun h => h)
  have hrc := (Fr.of_below hR (fun _ => False)).heap HR1.out (fun h => h)
  have HBC := Lib.hid hbc
  have HSZ := Lib.hid (show w.heap.size + 2 ≤ wc.heap.size from by have := hR.size; have := HWZ.out; omega)
  have HRW := Lib.hid (fun wx (hw : Below wc.heap.size wc wx) => (Fr.of_below hw (fun _ => False)).heap hrc (fun h => h))
  have HSS := Lib.hid (show ∀ wx, Below wc.heap.size wc wx → wx.cell? ⟨w.heap.size, 0, none⟩ = some (c0) ∧ wx.cell? ⟨w.heap.size, 1, none⟩ = some (c1) ∧ wx.cell? ⟨w.heap.size, 2, none⟩ = some (c2) ∧ wx.cell? ⟨w.heap.size, 3, none⟩ = some (mp) ∧ wx.cell? ⟨w.heap.size, 4, none⟩ = some (.pointer (some ⟨tb, 0, none⟩)) ∧ wx.cell? ⟨w.heap.size, 5, none⟩ = some (.int .i64 21) ∧ wx.cell? ⟨w.heap.size, 6, none⟩ = some (.int .i64 ia) ∧ wx.cell? ⟨w.heap.size, 7, none⟩ = some (.int .i64 j2) ∧ wx.cell? ⟨w.heap.size, 8, none⟩ = some (.int .i64 cs) ∧ wx.cell? ⟨z, 0, none⟩ = some (.int .i64 21) ∧ wx.cell? ⟨z, 1, none⟩ = some (.int .i64 ia) ∧ wx.cell? ⟨z, 2, none⟩ = some (.int .i64 j2) ∧ wx.cell? ⟨z, 3, none⟩ = some (.int .i64 cs) from fun wx hw => by
   have g1 := (Fr.of_below hw (fun _ => False)).heap hrb (fun h => h)
   have g2 := (Fr.of_below hw (fun _ => False)).heap hz (fun h => h)
   exact ⟨(row_cell g1 0).1, (row_cell g1 1).1, (row_cell g1 2).1, (row_cell g1 3).1, (row_cell g1 4).1, (row_cell g1 5).1, (row_cell g1 6).1, (row_cell g1 7).1, (row_cell g1 8).1, (row_cell g2 0).1, (row_cell g2 1).1, (row_cell g2 2).1, (row_cell g2 3).1⟩)
  have hSd := HSS.out wc.drew (Below.refl wc.heap.size wc).drew
  have HRC := Lib.hid (Below.refl wc.heap.size wc)
  have HRD := Lib.hid (Below.refl wc.heap.size wc).drew
  have z0 : wc.cell? ⟨z, 0, none⟩ = some (.int .i64 21) := (row_cell hz 0).1
  clear hR hrb hrc hz k4 k5 k6 k7 k8 hbc
  clear hSd
  obtain ⟨y0, y1, y2, y3, y4, y5, y6, y7, y8, _, z1, z2, z3⟩ := HSS.out _ HRC.out
  rw [HC2.out] at y2
  have g1 := HRES.out _ HBC.out
  have hnF : ¬ F w.heap.size := fun e => Nat.lt_irrefl _ (HFLT.out w.heap.size e)
  have hnZ : ¬ F z := fun e => by have := HFLT.out z e; omega
  have HKK := Lib.hid (fun wx (hx : Fr F wc wx) => by
   obtain ⟨y0, y1, y2, y3, y4, y5, y6, y7, y8, z0, z1, z2, z3⟩ := HSS.out _ HRC.out
   exact And.intro (hx.cell y0 hnF) (And.intro (hx.cell y1 hnF) (And.intro (hx.cell y2 hnF) (And.intro (hx.cell y3 hnF) (And.intro (hx.cell y4 hnF) (And.intro (hx.cell y5 hnF) (And.intro (hx.cell y6 hnF) (And.intro (hx.cell y7 hnF) (And.intro (hx.cell y8 hnF) (And.intro (hx.cell z0 hnZ) (And.intro (hx.cell z1 hnZ) (And.intro (hx.cell z2 hnZ) (hx.cell z3 hnZ)))))))))))))
  have HTW := Lib.hid (fun wx (hx : Below wc.heap.size wc wx) => HBC.out.trans (hx.mono HBC.out.size))
  have ar4 := fun wx (hx : Below wc.heap.size wc wx) => ARGSX.out wx (HTW.out wx hx)
  have en4 := fun wx va vc (hx : Below wc.heap.size wc wx) (ho : Own intE wx w.heap.size (.slice va nal vc) al) => ENTX.out wx va vc (HTW.out wx hx) ho
  have AR4 := Lib.hid ar4; clear ar4
  have EN4 := Lib.hid en4; clear en4
  have HNF := Lib.hid hnF; clear hnF
  have HNZ := Lib.hid hnZ; clear hnZ
  by_cases h0 : res = 0
  all_goals
   first
    | (have hz0 := h0; rw [if_pos h0] at hrt)
    | (have hz0 : (res == 0) = false := by rw [beq_eq_false_iff_ne]; exact h0
       rw [if_neg h0] at hrt)
   try subst hz0
   subst hrt
   go_upto_region 8 with fail
   clear y0 y1 y2 y3 y4 y5 y6 y7 y8 z0 z1 z2 z3 g1
   refine wp_region_noPanic ?_
   refine wp_region_held_drew (S := fun w' => Fr F wc w') (by kernel_rfl) (Fr.of_below (Below.refl _ _).drew F) (fun _ => ?_)
   have HR1 := Lib.hid (Below.refl wc.heap.size wc).drew
   generalize wc.drew = r1 at *
   refine wpAnyH_take (i := 0) (v := ?_) rfl (by kernel_rfl) (by kernel_rfl) (by kernel_rfl) (fun _ _ _ h => h) (Or.inl ⟨by kernel_rfl, ?tq1⟩) (Fr.of_below HR1.out F) ?_
   case tq1 => (intro wq hq; obtain ⟨f0, f1, f2, f3, f4, f5, f6, f7, f8, f9, f10, f11, f12⟩ := HKK.out wq hq; go_simp; first | done | with_reducible rfl)
   refine wpAnyH_take (i := 1) (v := ?_) rfl (by kernel_rfl) (by kernel_rfl) (by kernel_rfl) (fun _ _ _ h => h) (Or.inl ⟨by kernel_rfl, ?tq2⟩) (Fr.of_below HR1.out F) ?_
   case tq2 => (intro wq hq; obtain ⟨f0, f1, f2, f3, f4, f5, f6, f7, f8, f9, f10, f11, f12⟩ := HKK.out wq hq; go_simp; first | done | with_reducible rfl)
   refine wpAnyH_take (i := 2) (v := ?_) rfl (by kernel_rfl) (by kernel_rfl) (by kernel_rfl) (fun _ _ _ h => h) (Or.inl ⟨by kernel_rfl, ?tq3⟩) (Fr.of_below HR1.out F) ?_
   case tq3 => (intro wq hq; obtain ⟨f0, f1, f2, f3, f4, f5, f6, f7, f8, f9, f10, f11, f12⟩ := HKK.out wq hq; go_simp; first | done | with_reducible rfl)
   refine wpAnyH_take (i := 3) (v := ?_) rfl (by kernel_rfl) (by kernel_rfl) (by kernel_rfl) (fun _ _ _ h => h) (Or.inl ⟨by kernel_rfl, ?tq4⟩) (Fr.of_below HR1.out F) ?_
   case tq4 => (intro wq hq; obtain ⟨f0, f1, f2, f3, f4, f5, f6, f7, f8, f9, f10, f11, f12⟩ := HKK.out wq hq; go_simp; first | done | with_reducible rfl)
   refine wpAnyH_take (i := 4) (v := ?_) rfl (by kernel_rfl) (by kernel_rfl) (by kernel_rfl) (fun _ _ _ h => h) (Or.inl ⟨by kernel_rfl, ?tq5⟩) (Fr.of_below HR1.out F) ?_
   case tq5 => (intro wq hq; obtain ⟨f0, f1, f2, f3, f4, f5, f6, f7, f8, f9, f10, f11, f12⟩ := HKK.out wq hq; go_simp; first | done | with_reducible rfl)
   refine wpAnyH_take (i := 5) (v := ?_) rfl (by kernel_rfl) (by kernel_rfl) (by kernel_rfl) (fun _ _ _ h => h) (Or.inl ⟨by kernel_rfl, ?tq6⟩) (Fr.of_below HR1.out F) ?_
   case tq6 => (intro wq hq; obtain ⟨f0, f1, f2, f3, f4, f5, f6, f7, f8, f9, f10, f11, f12⟩ := HKK.out wq hq; go_simp; first | done | with_reducible rfl)
   refine wpAnyH_take (i := 7) (v := ?_) rfl (by kernel_rfl) (by kernel_rfl) (by kernel_rfl) (fun _ _ _ h => h) (Or.inl ⟨by kernel_rfl, ?tq7⟩) (Fr.of_below HR1.out F) ?_
   case tq7 => (intro wq hq; obtain ⟨f0, f1, f2, f3, f4, f5, f6, f7, f8, f9, f10, f11, f12⟩ := HKK.out wq hq; go_simp; first | done | with_reducible rfl)
   refine wpAnyH_ready (rs := [6]) (by kernel_rfl) (by simp) ?_
   refine (AllReadyH.cons rfl (fun K hK => ?_) AllReadyH.nil)
   go_simp
   go_at_call 123
   refine (AR4.out r1 HR1.out).mono ?_
   rintro e r2 ⟨va, vc, rfl, hov, hb⟩
   have HR2 := Lib.hid (HR1.out.trans (hb.mono HR1.out.size))
   have HOV := Lib.hid (hov.base (B' := w.heap.size) (fun k hk => Nat.le_trans (HTW.out r1 HR1.out).size (own_base hov hk)))
   clear hov
   clear hb
   refine hK.out _ _ (Fr.of_below HR2.out F) (fun _ => ?_)
   clear hK K
   refine wpAnyH_ready (rs := [8]) (by kernel_rfl) (by simp) ?_
   refine (AllReadyH.cons rfl (fun K hK => ?_) AllReadyH.nil)
   go_simp
   go_at_call 20
   refine (EN4.out r2 va vc HR2.out HOV.out).mono ?_
   rintro e r3 ⟨rfl, F', X', hTn, hxq, hFn, hfn⟩
   have HXQ := Lib.hid hxq
   have hFw : ∀ k, F' k → F k ∨ w.heap.size + 2 ≤ k := fun k hk => (hFn k hk).imp id (fun h1 => by have := HR2.out.size; have := HSZ.out; omega)
   have HFW := Lib.hid hFw
   clear hxq hFn hFw
   have HTN := Lib.hid hTn
   have HFN := Lib.hid ((Fr.of_below HR2.out F).trans hfn (fun _ _ h => h))
   clear hTn hfn
   refine hK.out _ _ HFN.out (fun _ => ?_)
   clear hK K
   refine wpAnyH_take (i := 9) (v := ?_) rfl (by kernel_rfl) (by kernel_rfl) (by kernel_rfl) (fun _ _ _ h => h) (Or.inl ⟨by kernel_rfl, ?tq8⟩) HFN.out ?_
   case tq8 => (intro wq hq; obtain ⟨f0, f1, f2, f3, f4, f5, f6, f7, f8, f9, f10, f11, f12⟩ := HKK.out wq hq; go_simp; first | done | with_reducible rfl)
   refine wpAnyH_done (by kernel_rfl) ?_ _
   refine NoPanic.normal ?_
   show Exit.then _ _ _ (Act.put _ (some 40) _) _
   simp only [Act.put, List.setIfInBounds_toArray, List.set_cons_zero, List.set_cons_succ, Bool.not_true]
   obtain ⟨y0, y1, y2, y3, y4, y5, y6, y7, y8, z0, z1, z2, z3⟩ := HKK.out _ HFN.out
   obtain ⟨w5, hw5⟩ : ∃ w5, w5 = r3 := ⟨_, rfl⟩
   have hr5 := HFN.out.heap (HRW.out _ HRC.out) (fun e => by have := HFLT.out (w.heap.size + 1) e; omega)
   have hfw := (Fr.of_below HBC.out F).trans HFN.out (fun _ _ h => h)
   have hT5 := HTN.out
   have hXD := HXQ.out
   have hF' := HFW.out
   rw [← hw5] at hr5 hfw hT5 ⊢
   clear hw5 y0 y1 y2 y3 y4 y5 y6 y7 y8 z0 z1 z2 z3
   obtain ⟨⟨u0, u1, u2, u3, u4, u5, u6⟩, n0, n1, n2, n3, n4, n5, n6⟩ := seven_cells hr5
   have hfs := seven_fr w5 (.int .i64 0) (.int .i64 0) (.int .i64 0) (.int .i64 0) (.int .i64 0) (.bool false) (.slice none 0 0) (w.heap.size + 1)
   have hrs := seven_row hr5 (.int .i64 0) (.int .i64 0) (.int .i64 0) (.int .i64 0) (.int .i64 0) (.bool false) (.slice none 0 0)
   have hFz : ∀ q, F' q → q ≠ w.heap.size + 1 := fun q hq e => by
    rcases hF' q hq with h1 | h1
    ·have := HFLT.out q h1; omega
    ·omega
   have hT6 := hT5.fr hfs (fun q hq e => hFz q hq e) (fun q hq e => by rw [hXD.1] at hq; have := HOUT.out q hq; have e : q = w.heap.size + 1 := e; omega)
   have hf6 := hfw.trans hfs (fun q hq e => by have e : q = w.heap.size + 1 := e; omega)
   have hF6 : ∀ q, F' q → F q ∨ w.heap.size ≤ q := fun q hq => (hF' q hq).imp id (fun h1 => by omega)
   have HPP := Lib.hid (show RunPost w F tb p X T' (actV 0 0 0 0 0 false (.slice none 0 0)) _ _ from ⟨rfl, F', X', hT6, hXD, hF6, hf6⟩)
   clear hfs hr5 hT5 hT6 hfw hf6 hF6 hFz hF' hXD
   have HRS := Lib.hid hrs; clear hrs
   unfold actV
   go_wp2_with (with_reducible refine bodyPost_ret ?_ rfl HPP.out; have k0 := (row_cell HRS.out 0).1; have k1 := (row_cell HRS.out 1).1; have k2 := (row_cell HRS.out 2).1; have k3 := (row_cell HRS.out 3).1; have k4 := (row_cell HRS.out 4).1; have k5 := (row_cell HRS.out 5).1; have k6 := (row_cell HRS.out 6).1; simp at k0 k1 k2 k3 k4 k5 k6; simp [results, Tryz.results101, go_sem, k0, k1, k2, k3, k4, k5, k6, actV])
end Go.Proofs.YthkhgihjigmkoaaGreat.Tk
namespace Go.Proofs.YthkhgihjigmkoaaGreat.Tk
open Go.ChangeShapes Go.WideShapes Go.ChangeAt Go.RowKit Go.Maps
set_option maxRecDepth 100000 in
set_option maxHeartbeats 3200000 in
theorem calls_ret (w : World) (F : Nat → Prop) (tb : Nat) (p : TPrg) (T : Tk) (X : TB) (h : TaskAt w F tb p T X) (c0 c1 mp : Value) (sa : Nat) (ib ic : Int) (j bb o nf m2 : Nat) (hj : j < nf) (res : Int) (h0 : res ≠ 0) (hres : ∀ wx, Below w.heap.size w wx → wx.cell? ⟨bb, o + j * 5 + 1, none⟩ = some (.int .i64 res))
  (FNC : ∀ wx, Below w.heap.size w wx → Calls Tryz.prog 38 #[.pointer (some ⟨tb, 0, none⟩)] wx fun e w' => e = .returned (.int .i64 j) ∧ Below wx.heap.size wx w')
  (x : Int) (SLT : ∀ wx, Below w.heap.size w wx → Calls Tryz.prog 33 #[.pointer (some ⟨tb, 0, none⟩), .int .i64 sa] wx fun e w' => e = .returned (.int .i64 x) ∧ Below wx.heap.size wx w')
  (X1 : TB) (KEEP : ∀ wx, Below w.heap.size w wx → Calls Tryz.prog 124 #[.pointer (some ⟨tb, 0, none⟩), .int .i64 x] wx fun e w' => e = .returned (.tuple #[]) ∧ TaskAt w' F tb p T X1 ∧ Fr F wx w')
  (T' : Tk) (hX1 : X1.D = X.D) (LEAVE : ∀ wx, TaskAt wx F tb p T X1 → Calls Tryz.prog 125 #[.pointer (some ⟨tb, 0, none⟩)] wx fun e w' => e = .returned (.tuple #[]) ∧ ∃ F' X', TaskAt w' F' tb p T' X' ∧ X'.Q X1 X1.al X1.kf ∧ (∀ k, F' k → F k ∨ wx.heap.size ≤ k) ∧ Fr F wx w') :
  Calls Tryz.prog 101 #[.agg (stepV c0 c1 (.slice (some ⟨bb, o, none⟩) nf m2) mp tb 22 sa ib ic)] w (RunPostG w F tb p X1 T' X1.al X1.kf (actV 0 0 0 0 0 false (.slice none 0 0))) := by
 have hj20 : (0 : Int) ≤ (j : Int) := by omega
 have hj21 : (j : Int) < (nf : Int) := by omega
 have hz0 : (res != 0) = true := by rw [bne_iff_ne]; exact h0
 have HRES := Lib.hid hres; clear hres
 have FNX := Lib.hid FNC; clear FNC
 have SLX := Lib.hid SLT; clear SLT
 have KPX := Lib.hid KEEP; clear KEEP
 have LVX := Lib.hid LEAVE; clear LEAVE
 clear hj h0
 obtain ⟨c2, hc2⟩ : ∃ c2, c2 = Value.slice (some ⟨bb, o, none⟩) nf m2 := ⟨_, rfl⟩
 rw [← hc2]
 have HC2 := Lib.hid hc2
 clear hc2
 have HX1 := Lib.hid hX1; clear hX1
 have hb0 := ((Below.refl w.heap.size w).alloc (Nat.le_refl _) (.cells (stepV c0 c1 c2 mp tb 22 sa ib ic) 124))
 have hb1 := hb0.alloc hb0.size act0
 have hr0 := row_alloc (heap_new w (.cells (stepV c0 c1 c2 mp tb 22 sa ib ic) 124)) act0
 have hr1 := heap_new (w.alloc (.cells (stepV c0 c1 c2 mp tb 22 sa ib ic) 124)) act0
 rw [show (w.alloc (.cells (stepV c0 c1 c2 mp tb 22 sa ib ic) 124)).heap.size = w.heap.size + 1 from by simp] at hr1
 obtain ⟨W, hW⟩ : ∃ W, W = (w.alloc (.cells (stepV c0 c1 c2 mp tb 22 sa ib ic) 124)).alloc act0 := ⟨_, rfl⟩
 rw [← hW] at hb1 hr0 hr1
 have HFLT := Lib.hid h.flt
 have HOUT := Lib.hid (fun k (hk : X.D k) => (h.out k hk).2)
 have hwz : W.heap.size = w.heap.size + 2 := by rw [hW]; simp
 unfold act0 at hW hr1
 unfold stepV at hW hr0
 have HW := Lib.hid hW
 have k4 : W.cell? ⟨w.heap.size, 4, none⟩ = some (.pointer (some ⟨tb, 0, none⟩)) := (row_cell hr0 4).1
 have k5 : W.cell? ⟨w.heap.size, 5, none⟩ = some (.int .i64 22) := (row_cell hr0 5).1
 have k6 : W.cell? ⟨w.heap.size, 6, none⟩ = some (.int .i64 sa) := (row_cell hr0 6).1
 have k7 : W.cell? ⟨w.heap.size, 7, none⟩ = some (.int .i64 ib) := (row_cell hr0 7).1
 have k8 : W.cell? ⟨w.heap.size, 8, none⟩ = some (.int .i64 ic) := (row_cell hr0 8).1
 have HRR := Lib.hid (Below.refl W.heap.size W)
 clear hb0 hW
 have HB1 := Lib.hid hb1; clear hb1
 have HR1 := Lib.hid hr1; clear hr1
 have HR0 := Lib.hid hr0; clear hr0
 have HWZ := Lib.hid hwz; clear hwz
 unfold stepV
 go_enter Tryz.func101, Tryz.ntmps101
 go_upto_region 1 with fail
 rw [← HW.out]
 go_cut [3, 4] (fun x y wx => ∃ z : Nat, x = .pointer (some ⟨z, 0, none⟩) ∧ y = .pointer (some ⟨tb, 0, none⟩) ∧ wx.heap[z]? = some (.cells #[.int .i64 22, .int .i64 sa, .int .i64 ib, .int .i64 ic] 59) ∧ w.heap.size + 2 ≤ z ∧ Below W.heap.size W wx)
 case first =>
  have bs := World.block_lt k4
  dsimp only at bs
  go_region
  all_goals
   go_wp2_with fail
   go_meet
   case rel => exact ⟨_, rfl, rfl, heap_new _ _, by have := HWZ.out; omega, (HRR.out.drew).alloc (HRR.out.size) _⟩
 case rest =>
  obtain ⟨z, rfl, rfl, hz, hzl, hR⟩ := hcut
  have hbc := HB1.out.trans (hR.mono HB1.out.size)
  have hrb := (Fr.of_below hR (fun _ => False)).heap HR0.out (fun h => h)
  have hrc := (Fr.of_below hR (fun _ => False)).heap HR1.out (fun h => h)
  have HBC := Lib.hid hbc
  have HSZ := Lib.hid (show w.heap.size + 2 ≤ wc.heap.size from by have := hR.size; have := HWZ.out; omega)
  have HRW := Lib.hid (fun wx (hw : Below wc.heap.size wc wx) => (Fr.of_below hw (fun _ => False)).heap hrc (fun h => h))
  have HSS := Lib.hid (show ∀ wx, Below wc.heap.size wc wx → wx.cell? ⟨w.heap.size, 0, none⟩ = some (c0) ∧ wx.cell? ⟨w.heap.size, 1, none⟩ = some (c1) ∧ wx.cell? ⟨w.heap.size, 2, none⟩ = some (c2) ∧ wx.cell? ⟨w.heap.size, 3, none⟩ = some (mp) ∧ wx.cell? ⟨w.heap.size, 4, none⟩ = some (.pointer (some ⟨tb, 0, none⟩)) ∧ wx.cell? ⟨w.heap.size, 5, none⟩ = some (.int .i64 22) ∧ wx.cell? ⟨w.heap.size, 6, none⟩ = some (.int .i64 sa) ∧ wx.cell? ⟨w.heap.size, 7, none⟩ = some (.int .i64 ib) ∧ wx.cell? ⟨w.heap.size, 8, none⟩ = some (.int .i64 ic) ∧ wx.cell? ⟨z, 0, none⟩ = some (.int .i64 22) ∧ wx.cell? ⟨z, 1, none⟩ = some (.int .i64 sa) ∧ wx.cell? ⟨z, 2, none⟩ = some (.int .i64 ib) ∧ wx.cell? ⟨z, 3, none⟩ = some (.int .i64 ic) from fun wx hw => by
   have g1 := (Fr.of_below hw (fun _ => False)).heap hrb (fun h => h)
   have g2 := (Fr.of_below hw (fun _ => False)).heap hz (fun h => h)
   exact ⟨(row_cell g1 0).1, (row_cell g1 1).1, (row_cell g1 2).1, (row_cell g1 3).1, (row_cell g1 4).1, (row_cell g1 5).1, (row_cell g1 6).1, (row_cell g1 7).1, (row_cell g1 8).1, (row_cell g2 0).1, (row_cell g2 1).1, (row_cell g2 2).1, (row_cell g2 3).1⟩)
  have hSd := HSS.out wc.drew (Below.refl wc.heap.size wc).drew
  have HRC := Lib.hid (Below.refl wc.heap.size wc)
  have HRD := Lib.hid (Below.refl wc.heap.size wc).drew
  have z0 : wc.cell? ⟨z, 0, none⟩ = some (.int .i64 22) := (row_cell hz 0).1
  clear hR hrb hrc hz k4 k5 k6 k7 k8 hbc
  clear hSd
  have HKK := Lib.hid (fun wx (hx : Below wc.heap.size wc wx) => by
   obtain ⟨y0, y1, y2, y3, y4, y5, y6, y7, y8, z0, z1, z2, z3⟩ := HSS.out wx hx
   rw [HC2.out] at y2
   exact And.intro y0 (And.intro y2 (And.intro y4 (And.intro z1 (HRES.out wx (HBC.out.trans (hx.mono HBC.out.size)))))))
  have fn4 := fun wx (hx : Below wc.heap.size wc wx) => FNX.out wx (HBC.out.trans (hx.mono HBC.out.size))
  have FN4 := Lib.hid fn4; clear fn4
  go_upto_region 11 with fail
  clear z0
  refine wp_region_noPanic ?_
  refine wp_region_held_drew (S := fun w' => Below wc.heap.size wc w') (by kernel_rfl) (Below.refl _ _).drew (fun _ => ?_)
  have HR1 := Lib.hid (Below.refl wc.heap.size wc).drew
  generalize wc.drew = r1 at *
  refine wpAnyH_take (i := 0) (v := ?_) rfl (by kernel_rfl) (by kernel_rfl) (by kernel_rfl) (fun _ _ _ h => h) (Or.inl ⟨by kernel_rfl, ?tq1⟩) HR1.out ?_
  case tq1 => (intro wq hq; obtain ⟨f0, f1, f2, f3, f4⟩ := HKK.out wq hq; go_simp; first | done | with_reducible rfl)
  refine wpAnyH_take (i := 1) (v := ?_) rfl (by kernel_rfl) (by kernel_rfl) (by kernel_rfl) (fun _ _ _ h => h) (Or.inl ⟨by kernel_rfl, ?tq2⟩) HR1.out ?_
  case tq2 => (intro wq hq; obtain ⟨f0, f1, f2, f3, f4⟩ := HKK.out wq hq; go_simp; first | done | with_reducible rfl)
  refine wpAnyH_take (i := 2) (v := ?_) rfl (by kernel_rfl) (by kernel_rfl) (by kernel_rfl) (fun _ _ _ h => h) (Or.inl ⟨by kernel_rfl, ?tq3⟩) HR1.out ?_
  case tq3 => (intro wq hq; obtain ⟨f0, f1, f2, f3, f4⟩ := HKK.out wq hq; go_simp; first | done | with_reducible rfl)
  refine wpAnyH_take (i := 3) (v := ?_) rfl (by kernel_rfl) (by kernel_rfl) (by kernel_rfl) (fun _ _ _ h => h) (Or.inl ⟨by kernel_rfl, ?tq4⟩) HR1.out ?_
  case tq4 => (intro wq hq; obtain ⟨f0, f1, f2, f3, f4⟩ := HKK.out wq hq; go_simp; first | done | with_reducible rfl)
  refine wpAnyH_ready (rs := [4]) (by kernel_rfl) (by simp) ?_
  refine (AllReadyH.cons rfl (fun K hK => ?_) AllReadyH.nil)
  go_simp
  go_at_call 38
  refine (FN4.out r1 HR1.out).mono ?_
  rintro e r2 ⟨rfl, hb⟩
  have HR2 := Lib.hid (HR1.out.trans (hb.mono HR1.out.size))
  clear hb
  refine hK.out _ _ HR2.out (fun _ => ?_)
  clear hK K
  refine wpAnyH_take (i := 5) (v := ?_) rfl (by kernel_rfl) (by kernel_rfl) (by kernel_rfl) (fun _ _ _ h => h) (Or.inl ⟨by kernel_rfl, ?tq5⟩) HR2.out ?_
  case tq5 => (intro wq hq; obtain ⟨f0, f1, f2, f3, f4⟩ := HKK.out wq hq; go_simp; first | done | with_reducible rfl)
  refine wpAnyH_take (i := 6) (v := ?_) rfl (by kernel_rfl) (by kernel_rfl) (by kernel_rfl) (fun _ _ _ h => h) (Or.inl ⟨by kernel_rfl, ?tq6⟩) HR2.out ?_
  case tq6 => (intro wq hq; obtain ⟨f0, f1, f2, f3, f4⟩ := HKK.out wq hq; go_simp; first | done | with_reducible rfl)
  refine wpAnyH_take (i := 7) (v := ?_) rfl (by kernel_rfl) (by kernel_rfl) (by kernel_rfl) (fun _ _ _ h => h) (Or.inl ⟨by kernel_rfl, ?tq7⟩) HR2.out ?_
  case tq7 => (intro wq hq; obtain ⟨f0, f1, f2, f3, f4⟩ := HKK.out wq hq; go_simp; first | done | with_reducible rfl)
  refine wpAnyH_take (i := 8) (v := ?_) rfl (by kernel_rfl) (by kernel_rfl) (by kernel_rfl) (fun _ _ _ h => h) (Or.inl ⟨by kernel_rfl, ?tq8⟩) HR2.out ?_
  case tq8 => (intro wq hq; obtain ⟨f0, f1, f2, f3, f4⟩ := HKK.out wq hq; go_simp; first | done | with_reducible rfl)
  refine wpAnyH_done (by kernel_rfl) ?_ _
  refine NoPanic.normal ?_
  show Exit.then _ _ _ (Act.put _ (some 55) _) _
  simp only [Act.put, List.setIfInBounds_toArray, List.set_cons_zero, List.set_cons_succ, hz0]
  obtain ⟨_, _, y4, z1, _⟩ := HKK.out _ HR2.out
  have HTW := Lib.hid (HBC.out.trans (HR2.out.mono HBC.out.size))
  go_wp2_with fail
  refine (SLX.out _ HTW.out).mono ?_
  rintro e w4 ⟨rfl, hb4⟩
  have HT4 := Lib.hid (HTW.out.trans (hb4.mono HTW.out.size))
  have hW4 := HR2.out.trans (hb4.mono HR2.out.size)
  clear hb4 y4 z1
  have HW4 := Lib.hid hW4; clear hW4
  go_wp2_with fail
  refine (KPX.out _ HT4.out).mono ?_
  rintro e w6 ⟨rfl, hT6, hf6⟩
  have lv := LVX.out w6 hT6
  clear hT6
  have LV := Lib.hid lv; clear lv
  have HF6 := Lib.hid hf6; clear hf6
  go_wp2_with fail
  refine LV.out.mono ?_
  rintro e w5 ⟨rfl, F', X', hT5, hXQ, hF0, hf5⟩
  have hfr := HF6.out.trans hf5 (fun _ _ h => h)
  have hr5 := hfr.heap (HRW.out _ HW4.out) (fun e => by have := HFLT.out (w.heap.size + 1) e; omega)
  have hfw := (Fr.of_below HT4.out F).trans hfr (fun _ _ h => h)
  have hF' : ∀ k, F' k → F k ∨ w.heap.size + 2 ≤ k := fun k hk => (hF0 k hk).imp id (fun h1 => by have := HF6.out.size; have := HW4.out.size; have := HSZ.out; omega)
  have hXD := hXQ
  have HXQ := Lib.hid hXQ
  clear hXQ hF0 hf5 hfr
  have hx1 := HX1.out
  obtain ⟨⟨u0, u1, u2, u3, u4, u5, u6⟩, n0, n1, n2, n3, n4, n5, n6⟩ := seven_cells hr5
  have hfs := seven_fr w5 (.int .i64 0) (.int .i64 0) (.int .i64 0) (.int .i64 0) (.int .i64 0) (.bool false) (.slice none 0 0) (w.heap.size + 1)
  have hrs := seven_row hr5 (.int .i64 0) (.int .i64 0) (.int .i64 0) (.int .i64 0) (.int .i64 0) (.bool false) (.slice none 0 0)
  have hFz : ∀ q, F' q → q ≠ w.heap.size + 1 := fun q hq e => by
   rcases hF' q hq with h1 | h1
   ·have := HFLT.out q h1; omega
   ·omega
  have hT7 := hT5.fr hfs (fun q hq e => hFz q hq e) (fun q hq e => by rw [hXD.1, hx1] at hq; have := HOUT.out q hq; have e : q = w.heap.size + 1 := e; omega)
  have hf7 := hfw.trans hfs (fun q hq e => by have e : q = w.heap.size + 1 := e; omega)
  have hF7 : ∀ q, F' q → F q ∨ w.heap.size ≤ q := fun q hq => (hF' q hq).imp id (fun h1 => by omega)
  have HPP := Lib.hid (show RunPostG w F tb p X1 T' X1.al X1.kf (actV 0 0 0 0 0 false (.slice none 0 0)) _ _ from ⟨rfl, F', X', hT7, hXD, hF7, hf7⟩)
  clear hfs hr5 hT5 hT7 hfw hf7 hF7 hFz hF' hXD hx1
  have HRS := Lib.hid hrs; clear hrs
  unfold actV
  go_wp2_with (with_reducible refine bodyPost_ret ?_ rfl HPP.out; have k0 := (row_cell HRS.out 0).1; have k1 := (row_cell HRS.out 1).1; have k2 := (row_cell HRS.out 2).1; have k3 := (row_cell HRS.out 3).1; have k4 := (row_cell HRS.out 4).1; have k5 := (row_cell HRS.out 5).1; have k6 := (row_cell HRS.out 6).1; simp at k0 k1 k2 k3 k4 k5 k6; simp [results, Tryz.results101, go_sem, k0, k1, k2, k3, k4, k5, k6, actV])
end Go.Proofs.YthkhgihjigmkoaaGreat.Tk
namespace Go.Proofs.YthkhgihjigmkoaaGreat.Tk
open Go.ChangeShapes Go.WideShapes Go.ChangeAt Go.RowKit Go.Maps
set_option maxRecDepth 100000 in
set_option maxHeartbeats 1600000 in
theorem unwindsL_any (w : World) (s0 s1 s2 : Int) (a3 a4 : Option Addr) (n3 c3 n4 c4 : Nat) (b6 : Bool) (B : Nat) (av : Value) (A : List Alarm) (h : Own alarmE w B av A) (hl : A.length ≤ 100000) :
  Calls Tryz.prog 93 #[.agg #[.int .i64 s0, .int .i64 s1, .int .i64 s2, .slice a3 n3 c3, .slice a4 n4 c4, av, .bool b6]] w fun e w' => e = .returned (.bool (unwN A)) ∧ Below w.heap.size w w' := by
 rcases snoc_cases A with rfl | ⟨A, x, rfl⟩
 ·obtain ⟨a', n', c', rfl⟩ := h.slice
  obtain rfl : n' = 0 := by
   obtain ⟨_, _, he, _⟩ := own_elems h
   injection he
  rw [unwN_nil]
  clear h
  go_enter Tryz.func93, Tryz.ntmps93
  go_wp2_with fail
  go_ret
  exact ⟨rfl, (Below.refl _ _).alloc (Nat.le_refl _) _⟩
 ·rw [unwN_snoc]
  obtain ⟨g, cc, rfl, _, _⟩ := own_pop h
  have c2 := (own_lastc h 2 _ rfl).1
  have hb0 := (Below.refl w.heap.size w).alloc (Nat.le_refl _) (.cells #[.int .i64 s0, .int .i64 s1, .int .i64 s2, .slice a3 n3 c3, .slice a4 n4 c4, .slice (some ⟨g, 0, none⟩) (A.length + 1) cc, .bool b6] 47)
  have k2 := below_cell hb0 c2
  change World.cell? _ ⟨g, A.length * 5 + 2, none⟩ = _ at k2
  have i1 : IntKind.i64.wrap (((A.length + 1 : Nat) : Int) - 1) = (A.length : Int) := by rw [show (((A.length + 1 : Nat) : Int) - 1) = (A.length : Int) from by omega]; exact IntWalk.i64_in _ (by simp at hl; omega)
  have n0 : 0 < A.length + 1 := by omega
  have n1 : (A.length : Int) < ((A.length + 1 : Nat) : Int) := by omega
  generalize A.length + 1 = N at *
  have HB := Lib.hid hb0
  clear h c2 hb0 hl
  obtain ⟨x1, x2, x3, x4, x5⟩ := x
  go_enter Tryz.func93, Tryz.ntmps93
  go_wp2_with fail
  go_ret
  exact ⟨rfl, HB.out⟩
end Go.Proofs.YthkhgihjigmkoaaGreat.Tk
