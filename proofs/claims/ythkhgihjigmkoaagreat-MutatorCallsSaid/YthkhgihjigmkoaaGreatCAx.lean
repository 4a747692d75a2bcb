import Derived.Test.YthkhgihjigmkoaaGreatCAw
set_option linter.unusedVariables false
set_option linter.unusedSimpArgs false
namespace Go.Proofs.YthkhgihjigmkoaaGreat.Tk
open Go.ChangeShapes Go.WideShapes Go.ChangeAt Go.RowKit Go.Maps
def LifePost (w : World) (A : List Alarm) (FR : World → Value → Prop) (e : Ending) (w' : World) : Prop := ∃ s1 s2 a3 n3 c3 a4 n4 c4 a5 n5 c5, e = .returned (.agg #[.int .i64 0, .int .i64 s1, .int .i64 s2, .slice a3 n3 c3, .slice a4 n4 c4, .slice a5 n5 c5, .bool false]) ∧ Own alarmE w' w.heap.size (.slice a5 n5 c5) A ∧ FR w' (.slice a3 n3 c3) ∧ Below w.heap.size w w'
set_option maxRecDepth 100000 in
set_option maxHeartbeats 3200000 in
theorem pop_go (w : World) (F : Nat → Prop) (tb : Nat) (p : TPrg) (X : TB) (hflt : ∀ k, F k → k < w.heap.size) (c0 c1 : Value) (j bb o nf m2 : Nat) (hj : j < nf) (res : Int) (h0 : res ≠ 0) (hres : ∀ wx, Below w.heap.size w wx → wx.cell? ⟨bb, o + j * 5 + 1, none⟩ = some (.int .i64 res)) (h01 : ∃ a0 n0 m0 a1 n1 m1, c0 = .slice a0 n0 m0 ∧ c1 = .slice a1 n1 m1)
  (x : Int) (bv : Bool) (VAL : ∀ wx, Below w.heap.size w wx → Calls Tryz.prog 92 #[.pointer (some ⟨tb, 0, none⟩)] wx fun e w' => e = .returned (.tuple #[.int .i64 x, .bool bv]) ∧ Below wx.heap.size wx w')
  (FNC : ∀ wx, Below w.heap.size w wx → Calls Tryz.prog 38 #[.pointer (some ⟨tb, 0, none⟩)] wx fun e w' => e = .returned (.int .i64 j) ∧ Below wx.heap.size wx w')
  (LIF : ∀ wx, Below w.heap.size w wx → Calls Tryz.prog 21 #[.pointer (some ⟨tb, 0, none⟩)] wx (LifePost wx [] (fun _ _ => True)))
  (DFR : ∀ wx, Below w.heap.size w wx → Calls Tryz.prog 94 #[.pointer (some ⟨tb, 0, none⟩)] wx fun e w' => e = .returned (.bool false) ∧ Below wx.heap.size wx w')
  (T1 : Tk) (kf1 : { x : Int × Int // i64B x.1 ∧ i64B x.2 } → Option Int) (POP : ∀ wx, Below w.heap.size w wx → Calls Tryz.prog 95 #[.pointer (some ⟨tb, 0, none⟩), .int .i64 x, .bool true] wx fun e w' => e = .returned (.bool true) ∧ ∃ F1 X1, TaskAt w' F1 tb p T1 X1 ∧ X1.Q X [] kf1 ∧ (∀ k, F1 k → F k ∨ wx.heap.size ≤ k) ∧ Fr F wx w')
  (n : Nat) (LIF2 : ∀ wx F1 X1, TaskAt wx F1 tb p T1 X1 → X1.al = [] → Calls Tryz.prog 21 #[.pointer (some ⟨tb, 0, none⟩)] wx (LifePost wx [] (fun wy v => ∃ g c, v = .slice (some ⟨g, 0, none⟩) (n + 1) c ∧ wy.cell? ⟨g, n * 9 + 3, none⟩ = some (.bool false))))
  (hn : n ≤ 1000) (pc : Int) (hpc : 0 ≤ pc ∧ pc ≤ 100000) (PCC : ∀ wx F1 X1, TaskAt wx F1 tb p T1 X1 → Calls Tryz.prog 31 #[.pointer (some ⟨tb, 0, none⟩)] wx fun e w' => e = .returned (.int .i64 pc) ∧ Below wx.heap.size wx w')
  (T2 : Tk) (GOTO : ∀ wx F1 X1, TaskAt wx F1 tb p T1 X1 → Calls Tryz.prog 16 #[.pointer (some ⟨tb, 0, none⟩), .int .i64 (pc + 1)] wx fun e w' => e = .returned (.tuple #[]) ∧ TaskAt w' F1 tb p T2 X1 ∧ Fr F1 wx w') (hXD : ∀ k, X.D k → k < w.heap.size) :
  Calls Tryz.prog 68 #[.agg #[c0, c1, .slice (some ⟨bb, o, none⟩) nf m2], .pointer (some ⟨tb, 0, none⟩)] w (RunPostG w F tb p X T2 [] kf1 (actV 0 0 0 0 0 false (.slice none 0 0))) := by
 obtain ⟨a0, n0, m0, a1, n1, m1, rfl, rfl⟩ := h01
 have hj20 : (0 : Int) ≤ (j : Int) := by omega
 have hj21 : (j : Int) < (nf : Int) := by omega
 have hz0 : (res != 0) = true := by rw [bne_iff_ne]; exact h0
 have hb0 := ((Below.refl w.heap.size w).alloc (Nat.le_refl _) (.cells #[.slice a0 n0 m0, .slice a1 n1 m1, .slice (some ⟨bb, o, none⟩) nf m2] 27)).alloc (by simp) act0
 have hr0 := row_alloc (heap_new w (.cells #[.slice a0 n0 m0, .slice a1 n1 m1, .slice (some ⟨bb, o, none⟩) nf m2] 27)) act0
 have hra := heap_new (w.alloc (.cells #[.slice a0 n0 m0, .slice a1 n1 m1, .slice (some ⟨bb, o, none⟩) nf m2] 27)) act0
 rw [show (w.alloc (.cells #[.slice a0 n0 m0, .slice a1 n1 m1, .slice (some ⟨bb, o, none⟩) nf m2] 27)).heap.size = w.heap.size + 1 from by simp] at hra
 obtain ⟨W, hW⟩ : ∃ W, W = (w.alloc (.cells #[.slice a0 n0 m0, .slice a1 n1 m1, .slice (some ⟨bb, o, none⟩) nf m2] 27)).alloc act0 := ⟨_, rfl⟩
 rw [← hW] at hb0 hr0 hra
 unfold act0 at hW hra
 have HW := Lib.hid hW
 have HRES := Lib.hid hres
 have VALX := Lib.hid VAL
 have FNX := Lib.hid FNC
 have LFX := Lib.hid LIF
 have DFX := Lib.hid DFR
 have PPX := Lib.hid POP
 have L2X := Lib.hid LIF2
 have PCX := Lib.hid PCC
 have GTX := Lib.hid GOTO
 clear hW hres VAL FNC LIF DFR POP LIF2 PCC GOTO hj h0
 have HB0 := Lib.hid hb0; clear hb0
 have HR0 := Lib.hid hr0; clear hr0
 have HRA := Lib.hid hra; clear hra
 have HFLT := Lib.hid hflt; clear hflt
 have HXD := Lib.hid hXD; clear hXD
 go_enter Tryz.func68, Tryz.ntmps68
 go_upto_region 1 with fail
 rw [← HW.out]
 go_wp2_with fail
 refine (VALX.out _ HB0.out).mono ?_
 rintro e w1 ⟨rfl, hb1⟩
 have HB1 := Lib.hid (HB0.out.trans (hb1.mono HB0.out.size))
 have HW1 := Lib.hid hb1
 clear hb1
 have HKK := Lib.hid (fun wx (hx : Below w1.heap.size w1 wx) => by
  have g := (Fr.of_below (HW1.out.trans (hx.mono HW1.out.size)) (fun _ => False)).heap HR0.out (fun h => h)
  exact And.intro (row_cell g 2).1 (HRES.out wx (HB1.out.trans (hx.mono HB1.out.size))))
 have fn4 := fun wx (hx : Below w1.heap.size w1 wx) => FNX.out wx (HB1.out.trans (hx.mono HB1.out.size))
 have lf4 := fun wx (hx : Below w1.heap.size w1 wx) => LFX.out wx (HB1.out.trans (hx.mono HB1.out.size))
 have FN4 := Lib.hid fn4; clear fn4
 have LF4 := Lib.hid lf4; clear lf4
 go_upto_region 2 with fail
 refine wp_region_noPanic ?_
 refine wp_region_held_drew (S := fun w' => Below w1.heap.size w1 w') (by kernel_rfl) (Below.refl _ _).drew (fun _ => ?_)
 have HR1 := Lib.hid (Below.refl w1.heap.size w1).drew
 generalize w1.drew = r1 at *
 refine wpAnyH_take (i := 0) (v := ?_) rfl (by kernel_rfl) (by kernel_rfl) (by kernel_rfl) (fun _ _ _ h => h) (Or.inl ⟨by kernel_rfl, ?tq1⟩) HR1.out ?_
 case tq1 => (intro wq hq; obtain ⟨f0, f1⟩ := HKK.out wq hq; go_simp; first | done | with_reducible rfl)
 refine wpAnyH_take (i := 1) (v := ?_) rfl (by kernel_rfl) (by kernel_rfl) (by kernel_rfl) (fun _ _ _ h => h) (Or.inl ⟨by kernel_rfl, ?tq2⟩) HR1.out ?_
 case tq2 => (intro wq hq; obtain ⟨f0, f1⟩ := HKK.out wq hq; go_simp; first | done | with_reducible rfl)
 refine wpAnyH_take (i := 2) (v := ?_) rfl (by kernel_rfl) (by kernel_rfl) (by kernel_rfl) (fun _ _ _ h => h) (Or.inl ⟨by kernel_rfl, ?tq3⟩) HR1.out ?_
 case tq3 => (intro wq hq; obtain ⟨f0, f1⟩ := HKK.out wq hq; go_simp; first | done | with_reducible rfl)
 refine wpAnyH_ready (rs := [3]) (by kernel_rfl) (by simp) ?_
 refine (AllReadyH.cons rfl (fun K hK => ?_) AllReadyH.nil)
 go_simp
 go_at_call 38
 refine (FN4.out r1 HR1.out).mono ?_
 rintro e r2 ⟨rfl, hb⟩
 have HR2 := Lib.hid (HR1.out.trans (hb.mono HR1.out.size))
 clear hb
 refine hK.out _ _ HR2.out (fun _ => ?_)
 clear hK K
 refine wpAnyH_take (i := 4) (v := ?_) rfl (by kernel_rfl) (by kernel_rfl) (by kernel_rfl) (fun _ _ _ h => h) (Or.inl ⟨by kernel_rfl, ?tq4⟩) HR2.out ?_
 case tq4 => (intro wq hq; obtain ⟨f0, f1⟩ := HKK.out wq hq; go_simp; first | done | with_reducible rfl)
 refine wpAnyH_take (i := 5) (v := ?_) rfl (by kernel_rfl) (by kernel_rfl) (by kernel_rfl) (fun _ _ _ h => h) (Or.inl ⟨by kernel_rfl, ?tq5⟩) HR2.out ?_
 case tq5 => (intro wq hq; obtain ⟨f0, f1⟩ := HKK.out wq hq; go_simp; first | done | with_reducible rfl)
 refine wpAnyH_take (i := 6) (v := ?_) rfl (by kernel_rfl) (by kernel_rfl) (by kernel_rfl) (fun _ _ _ h => h) (Or.inl ⟨by kernel_rfl, ?tq6⟩) HR2.out ?_
 case tq6 => (intro wq hq; obtain ⟨f0, f1⟩ := HKK.out wq hq; go_simp; first | done | with_reducible rfl)
 refine wpAnyH_take (i := 7) (v := ?_) rfl (by kernel_rfl) (by kernel_rfl) (by kernel_rfl) (fun _ _ _ h => h) (Or.inl ⟨by kernel_rfl, ?tq7⟩) HR2.out ?_
 case tq7 => (intro wq hq; obtain ⟨f0, f1⟩ := HKK.out wq hq; go_simp; first | done | with_reducible rfl)
 refine wpAnyH_take (i := 8) (v := ?_) rfl (by kernel_rfl) (by kernel_rfl) (by kernel_rfl) (fun _ _ _ h => h) (Or.inl ⟨by kernel_rfl, ?tq8⟩) HR2.out ?_
 case tq8 => (intro wq hq; obtain ⟨f0, f1⟩ := HKK.out wq hq; go_simp; first | done | with_reducible rfl)
 refine wpAnyH_take (i := 9) (v := ?_) rfl (by kernel_rfl) (by kernel_rfl) (by kernel_rfl) (fun _ _ _ h => h) (Or.inl ⟨by kernel_rfl, ?tq9⟩) HR2.out ?_
 case tq9 => (intro wq hq; obtain ⟨f0, f1⟩ := HKK.out wq hq; go_simp; first | done | with_reducible rfl)
 refine wpAnyH_ready (rs := [10]) (by kernel_rfl) (by simp) ?_
 refine (AllReadyH.cons rfl (fun K hK => ?_) AllReadyH.nil)
 go_simp
 go_at_call 21
 refine (LF4.out r2 HR2.out).mono ?_
 rintro e r3 ⟨s1, s2, a3, n3, c3, a4, n4, c4, a5, n5, c5, rfl, hoA, _, hb⟩
 have HR3 := Lib.hid (HR2.out.trans (hb.mono HR2.out.size))
 have UN := Lib.hid (unwindsL_any r3 0 s1 s2 a3 a4 n3 c3 n4 c4 false _ (.slice a5 n5 c5) [] hoA (by simp))
 clear hoA
 clear hb
 refine hK.out _ _ HR3.out (fun _ => ?_)
 clear hK K
 refine wpAnyH_ready (rs := [11]) (by kernel_rfl) (by simp) ?_
 refine (AllReadyH.cons rfl (fun K hK => ?_) AllReadyH.nil)
 go_simp
 go_at_call 93
 refine (UN.out).mono ?_
 rintro e r4 ⟨rfl, hb⟩
 have HR4 := Lib.hid (HR3.out.trans (hb.mono HR3.out.size))
 clear hb
 refine hK.out _ _ HR4.out (fun _ => ?_)
 clear hK K
 refine wpAnyH_take (i := 12) (v := ?_) rfl (by kernel_rfl) (by kernel_rfl) (by kernel_rfl) (fun _ _ _ h => h) (Or.inl ⟨by kernel_rfl, ?tq10⟩) HR4.out ?_
 case tq10 => (intro wq hq; obtain ⟨f0, f1⟩ := HKK.out wq hq; go_simp; first | done | with_reducible rfl)
 refine wpAnyH_take (i := 13) (v := ?_) rfl (by kernel_rfl) (by kernel_rfl) (by kernel_rfl) (fun _ _ _ h => h) (Or.inl ⟨by kernel_rfl, ?tq11⟩) HR4.out ?_
 case tq11 => (intro wq hq; obtain ⟨f0, f1⟩ := HKK.out wq hq; go_simp; first | done | with_reducible rfl)
 refine wpAnyH_ready (rs := [14]) (by kernel_rfl) (by simp) ?_
 refine (AllReadyH.cons rfl (fun K hK => ?_) AllReadyH.nil)
 go_simp
 refine hK.out _ _ HR4.out (fun _ => ?_)
 clear hK K
 refine wpAnyH_done (by kernel_rfl) ?_ _
 refine NoPanic.normal ?_
 have HW2 := Lib.hid (HB1.out.trans (HR4.out.mono HB1.out.size))
 have HWW := Lib.hid (HW1.out.trans (HR4.out.mono HW1.out.size))
 generalize r4 = w2 at *
 go_wp2_with fail
 refine (DFX.out _ HW2.out).mono ?_
 rintro e w3 ⟨rfl, hb3⟩
 have HW3 := Lib.hid (HW2.out.trans (hb3.mono HW2.out.size))
 have HWX := Lib.hid (HWW.out.trans (hb3.mono HWW.out.size))
 clear hb3
 go_wp2_with fail
 refine (PPX.out _ HW3.out).mono ?_
 rintro e w4 ⟨rfl, F1, X1, hT1, hQ, hF1, hf⟩
 have L2 := Lib.hid (L2X.out w4 F1 X1 hT1 hQ.2.1)
 have GT1 := Lib.hid (fun wx (hx : TaskAt wx F1 tb p T1 X1) => GTX.out wx F1 X1 hx)
 have PC1 := Lib.hid (fun wx (hx : TaskAt wx F1 tb p T1 X1) => PCX.out wx F1 X1 hx)
 have hrw := hf.heap ((Fr.of_below HWX.out (fun _ => False)).heap HRA.out (fun h => h)) (fun e => by have := HFLT.out (w.heap.size + 1) e; omega)
 have HT1 := Lib.hid hT1; clear hT1
 have HQ := Lib.hid hQ; clear hQ
 have HF1 := Lib.hid hF1; clear hF1
 have HF := Lib.hid hf; clear hf
 have HRW := Lib.hid hrw; clear hrw
 go_wp2_with fail
 refine (L2.out).mono ?_
 rintro e w5 ⟨s1, s2, a3, n3, c3, a4, n4, c4, a5, n5, c5, rfl, hoA, ⟨g, c, hv, hcell⟩, hb⟩
 cases hv
 have hbe := (Below.refl w5.heap.size w5).alloc (Nat.le_refl _) (.cells #[.int .i64 0, .int .i64 s1, .int .i64 s2, .slice (some ⟨g, 0, none⟩) (n + 1) c3, .slice a4 n4 c4, .slice a5 n5 c5, .bool false] 47)
 have kc := below_cell hbe hcell
 have UN := Lib.hid (unwindsL_any _ 0 s1 s2 (some ⟨g, 0, none⟩) a4 (n + 1) c3 n4 c4 false _ (.slice a5 n5 c5) [] (Own.below hoA hbe) (by simp))
 have hb6 := hb.trans (hbe.mono hb.size)
 clear hoA hcell
 have HB6 := Lib.hid hb6; clear hb6
 clear hb hbe
 go_wp2_with fail
 refine (UN.out).mono ?_
 rintro e w6 ⟨rfl, hb⟩
 have HB7 := Lib.hid (HB6.out.trans (hb.mono HB6.out.size))
 clear hb UN kc
 have hT6 := HT1.out.fr (Fr.of_below HB7.out (fun _ => False)) (fun _ _ h => h) (fun _ _ h => h)
 have hp := PC1.out w6 hT6
 have HT6 := Lib.hid hT6; clear hT6
 have HP := Lib.hid hp; clear hp
 go_wp2_with fail
 refine HP.out.mono ?_
 rintro e w7 ⟨rfl, hb⟩
 have HB8 := Lib.hid (HB7.out.trans (hb.mono HB7.out.size))
 clear hb
 have i1 : IntKind.i64.wrap (pc + 1) = pc + 1 := IntWalk.i64_in _ (by omega)
 have hT7 := HT1.out.fr (Fr.of_below HB8.out (fun _ => False)) (fun _ _ h => h) (fun _ _ h => h)
 have hg := GT1.out w7 hT7
 have HT7 := Lib.hid hT7; clear hT7
 have HG := Lib.hid hg; clear hg
 go_wp2_with fail
 refine HG.out.mono ?_
 rintro e w8 ⟨rfl, hT8, hf8⟩
 have hF1 := HF1.out
 have hq := HQ.out
 have hr7 := (Fr.of_below HB8.out (fun _ => False)).heap HRW.out (fun h => h)
 have hsz := HWX.out.size
 have hsz2 := HW3.out.size
 have hszA : w.heap.size + 1 < W.heap.size := by
  have := HRA.out
  rcases Nat.lt_or_ge (w.heap.size + 1) W.heap.size with h1 | h1
  ·exact h1
  ·rw [Array.getElem?_eq_none h1] at this; cases this
 have hFx : ∀ k, F1 k → F k ∨ w.heap.size + 2 ≤ k := fun k hk => (hF1 k hk).imp id (fun h1 => by omega)
 have hFz : ∀ q, F1 q → q ≠ w.heap.size + 1 := fun q hq e => by
  rcases hFx q hq with h1 | h1
  ·have := HFLT.out q h1; omega
  ·omega
 have hr8 := hf8.heap hr7 (fun e => hFz _ e rfl)
 have hs4 := HF.out.size
 have hfw := (((Fr.of_below HW3.out F).trans HF.out (fun _ _ h => h)).trans (Fr.of_below HB8.out F) (fun _ _ h => h)).trans hf8 (fun q hq e => by rcases hFx q e with h1 | h1; exact h1; omega)
 obtain ⟨⟨u0, u1, u2, u3, u4, u5, u6⟩, n0, n1, n2, n3, n4, n5, n6⟩ := seven_cells hr8
 have hfs := seven_fr w8 (.int .i64 0) (.int .i64 0) (.int .i64 0) (.int .i64 0) (.int .i64 0) (.bool false) (.slice none 0 0) (w.heap.size + 1)
 have hrs := seven_row hr8 (.int .i64 0) (.int .i64 0) (.int .i64 0) (.int .i64 0) (.int .i64 0) (.bool false) (.slice none 0 0)
 have hT9 := hT8.fr hfs (fun q hq e => hFz q hq e) (fun q hqq e => by rw [hq.1] at hqq; have := HXD.out q hqq; have e : q = w.heap.size + 1 := e; omega)
 have hf9 := hfw.trans hfs (fun q hq e => by have e : q = w.heap.size + 1 := e; omega)
 have hF9 : ∀ q, F1 q → F q ∨ w.heap.size ≤ q := fun q hq => (hFx q hq).imp id (fun h1 => by omega)
 have HPP := Lib.hid (show RunPostG w F tb p X T2 [] kf1 (actV 0 0 0 0 0 false (.slice none 0 0)) _ _ from ⟨rfl, F1, X1, hT9, hq, hF9, hf9⟩)
 clear hfs hr8 hr7 hT8 hT9 hfw hf9 hF9 hFz hFx hF1 hq hf8 hsz hsz2 hszA hs4
 have HRS := Lib.hid hrs; clear hrs
 unfold actV
 go_wp2_with (with_reducible refine bodyPost_ret ?_ rfl HPP.out; have k0 := (row_cell HRS.out 0).1; have k1 := (row_cell HRS.out 1).1; have k2 := (row_cell HRS.out 2).1; have k3 := (row_cell HRS.out 3).1; have k4 := (row_cell HRS.out 4).1; have k5 := (row_cell HRS.out 5).1; have k6 := (row_cell HRS.out 6).1; simp at k0 k1 k2 k3 k4 k5 k6; simp [results, Tryz.results68, go_sem, k0, k1, k2, k3, k4, k5, k6, actV])
end Go.Proofs.YthkhgihjigmkoaaGreat.Tk
namespace Go.Proofs.YthkhgihjigmkoaaGreat.Tk
open Go.ChangeShapes Go.WideShapes Go.ChangeAt Go.RowKit Go.Maps
set_option maxRecDepth 100000 in
set_option maxHeartbeats 3200000 in
theorem step_popG (w : World) (F : Nat → Prop) (tb : Nat) (p : TPrg) (T : Tk) (X : TB) (h : TaskAt w F tb p T X) (hm : nextU T.marks X.al = 2) (hml : T.marks.length ≤ 10000) (hal : X.al.length ≤ 10000) (a0 a1 a2 : Option Addr) (n0 m0 n1 m1 n2 m2 : Nat) (ma : Option Addr)
  (T' : Tk) (al : List Alarm) (kf : { x : Int × Int // i64B x.1 ∧ i64B x.2 } → Option Int) (k a f v fn : Int) (b : Bool) (r0 : Option Addr) (r1 r2 : Nat) (POP : ∀ wr, Below w.heap.size w wr → Calls Tryz.prog 68 #[.agg #[.slice a0 n0 m0, .slice a1 n1 m1, .slice a2 n2 m2], .pointer (some ⟨tb, 0, none⟩)] wr (RunPostG wr F tb p X T' al kf (actV k a f v fn b (.slice r0 r1 r2)))) :
  Calls Tryz.prog 30 #[.agg #[.slice a0 n0 m0, .slice a1 n1 m1, .slice a2 n2 m2], .pointer ma, .pointer (some ⟨tb, 0, none⟩)] w (RunPostG w F tb p X T' al kf (actV k a f v fn b (.slice r0 r1 r2))) := by
 have hb0 := ((Below.refl w.heap.size w).alloc (Nat.le_refl _) (.cells #[.slice a0 n0 m0, .slice a1 n1 m1, .slice a2 n2 m2] 27))
 have hb1 := hb0.alloc hb0.size act0
 have hr0 := row_alloc (heap_new w (.cells #[.slice a0 n0 m0, .slice a1 n1 m1, .slice a2 n2 m2] 27)) act0
 have hra := heap_new (w.alloc (.cells #[.slice a0 n0 m0, .slice a1 n1 m1, .slice a2 n2 m2] 27)) act0
 rw [show (w.alloc (.cells #[.slice a0 n0 m0, .slice a1 n1 m1, .slice a2 n2 m2] 27)).heap.size = w.heap.size + 1 from by simp] at hra
 obtain ⟨W, hW⟩ : ∃ W, W = (w.alloc (.cells #[.slice a0 n0 m0, .slice a1 n1 m1, .slice a2 n2 m2] 27)).alloc act0 := ⟨_, rfl⟩
 rw [← hW] at hb1 hr0 hra
 have hT := h.below hb1
 have nx := tkNext_any W F tb p T X hT hml hal
 rw [hm] at nx
 have hflt := h.flt
 have hout := fun k (hk : X.D k) => (h.out k hk).2
 unfold act0 at hW hra
 have HW := Lib.hid hW
 have PPX := Lib.hid POP
 clear hb0 hW hT h hm hml hal POP
 have NX := Lib.hid nx; clear nx
 have HB1 := Lib.hid hb1; clear hb1
 have HRA := Lib.hid hra; clear hra
 have HR0 := Lib.hid hr0; clear hr0
 have HFLT := Lib.hid hflt; clear hflt
 have HOUT := Lib.hid hout; clear hout
 go_enter Tryz.func30, Tryz.ntmps30
 go_upto_region 1 with fail
 rw [← HW.out]
 go_wp2_with fail
 refine NX.out.mono ?_
 rintro e w3 ⟨rfl, hb3⟩
 have hb13 := HB1.out.trans (hb3.mono HB1.out.size)
 have hsz : w.heap.size + 2 ≤ w3.heap.size := Nat.le_trans (heap_lt HRA.out) hb3.size
 have hro3 := (Fr.of_below hb3 (fun _ => False)).heap HR0.out (fun h => h)
 have hr3 := (Fr.of_below hb3 (fun _ => False)).heap HRA.out (fun h => h)
 have pp := PPX.out w3 hb13
 have k0 : w3.cell? ⟨w.heap.size, 0, none⟩ = some (.slice a0 n0 m0) := (row_cell hro3 0).1
 have k1 : w3.cell? ⟨w.heap.size, 1, none⟩ = some (.slice a1 n1 m1) := (row_cell hro3 1).1
 have k2 : w3.cell? ⟨w.heap.size, 2, none⟩ = some (.slice a2 n2 m2) := (row_cell hro3 2).1
 clear hb3 NX hro3
 have PP := Lib.hid pp; clear pp
 have HR3 := Lib.hid hr3; clear hr3
 have HB13 := Lib.hid hb13; clear hb13
 have HSZ := Lib.hid hsz; clear hsz
 go_wp2_with fail
 refine PP.out.mono ?_
 rintro e w5 ⟨rfl, F', X', hT', hXD, hF', hf5⟩
 have hsz := HSZ.out
 have hr5 := hf5.heap HR3.out (fun e => by have := HFLT.out (w.heap.size + 1) e; omega)
 have hfw := (Fr.of_below HB13.out F).trans hf5 (fun _ _ h => h)
 have hFz : ∀ q, F' q → q ≠ w.heap.size + 1 := fun q hq e => by
  rcases hF' q hq with h1 | h1
  ·have := HFLT.out q h1; omega
  ·omega
 obtain ⟨⟨u0, u1, u2, u3, u4, u5, u6⟩, n0, n1, n2, n3, n4, n5, n6⟩ := seven_cells hr5
 have hfs := seven_fr w5 (.int .i64 k) (.int .i64 a) (.int .i64 f) (.int .i64 v) (.int .i64 fn) (.bool b) (.slice r0 r1 r2) (w.heap.size + 1)
 have hrs := seven_row hr5 (.int .i64 k) (.int .i64 a) (.int .i64 f) (.int .i64 v) (.int .i64 fn) (.bool b) (.slice r0 r1 r2)
 have hT5 := hT'.fr hfs (fun q hq e => hFz q hq e) (fun q hq e => by rw [hXD.1] at hq; have := HOUT.out q hq; have e : q = w.heap.size + 1 := e; omega)
 have hf6 := hfw.trans hfs (fun q hq e => by have e : q = w.heap.size + 1 := e; omega)
 have hF6 : ∀ q, F' q → F q ∨ w.heap.size ≤ q := fun q hq => (hF' q hq).imp id (fun h1 => by omega)
 have HPP := Lib.hid (show RunPostG w F tb p X T' al kf (actV k a f v fn b (.slice r0 r1 r2)) _ _ from ⟨rfl, F', X', hT5, hXD, hF6, hf6⟩)
 clear hfs hr5 hT' hT5 hf6 hfw hF6 hFz hF' hf5 hXD hsz k0 k1 k2
 have HRS := Lib.hid hrs; clear hrs
 unfold actV
 go_wp2_with (with_reducible refine bodyPost_ret ?_ rfl HPP.out; have k0 := (row_cell HRS.out 0).1; have k1 := (row_cell HRS.out 1).1; have k2 := (row_cell HRS.out 2).1; have k3 := (row_cell HRS.out 3).1; have k4 := (row_cell HRS.out 4).1; have k5 := (row_cell HRS.out 5).1; have k6 := (row_cell HRS.out 6).1; simp at k0 k1 k2 k3 k4 k5 k6; simp [results, Tryz.results30, go_sem, k0, k1, k2, k3, k4, k5, k6, actV])
end Go.Proofs.YthkhgihjigmkoaaGreat.Tk
namespace Go.Proofs.YthkhgihjigmkoaaGreat.Tk
open Go.ChangeShapes Go.WideShapes Go.ChangeAt Go.RowKit Go.Maps
set_option maxRecDepth 100000 in
set_option maxHeartbeats 3200000 in
theorem step_fatal (w : World) (F : Nat → Prop) (tb : Nat) (p : TPrg) (T : Tk) (X : TB) (h : TaskAt w F tb p T X) (hm : nextU T.marks X.al = 4) (hml : T.marks.length ≤ 10000) (hal : X.al.length ≤ 10000) (a0 a1 a2 : Option Addr) (n0 m0 n1 m1 n2 m2 : Nat) (ma : Option Addr)
  (A : List Alarm) (y : Alarm) (hA : A.length ≤ 10000) (LIF : ∀ wx, Below w.heap.size w wx → Calls Tryz.prog 21 #[.pointer (some ⟨tb, 0, none⟩)] wx (LifePost wx (A ++ [y]) (fun _ _ => True))) :
  Calls Tryz.prog 30 #[.agg #[.slice a0 n0 m0, .slice a1 n1 m1, .slice a2 n2 m2], .pointer ma, .pointer (some ⟨tb, 0, none⟩)] w (RunPostG w F tb p X T X.al X.kf (actV 11 0 0 y.code 0 false (.slice none 0 0))) := by
 have hb0 := ((Below.refl w.heap.size w).alloc (Nat.le_refl _) (.cells #[.slice a0 n0 m0, .slice a1 n1 m1, .slice a2 n2 m2] 27))
 have hb1 := hb0.alloc hb0.size act0
 have hr0 := row_alloc (heap_new w (.cells #[.slice a0 n0 m0, .slice a1 n1 m1, .slice a2 n2 m2] 27)) act0
 have hra := heap_new (w.alloc (.cells #[.slice a0 n0 m0, .slice a1 n1 m1, .slice a2 n2 m2] 27)) act0
 rw [show (w.alloc (.cells #[.slice a0 n0 m0, .slice a1 n1 m1, .slice a2 n2 m2] 27)).heap.size = w.heap.size + 1 from by simp] at hra
 obtain ⟨W, hW⟩ : ∃ W, W = (w.alloc (.cells #[.slice a0 n0 m0, .slice a1 n1 m1, .slice a2 n2 m2] 27)).alloc act0 := ⟨_, rfl⟩
 rw [← hW] at hb1 hr0 hra
 have hT := h.below hb1
 have nx := tkNext_any W F tb p T X hT hml hal
 rw [hm] at nx
 have hflt := h.flt
 have hout := fun k (hk : X.D k) => (h.out k hk).2
 unfold act0 at hW hra
 have HW := Lib.hid hW
 have HTT := Lib.hid h
 have LFX := Lib.hid LIF
 clear hb0 hW hT h hm hml hal LIF
 have NX := Lib.hid nx; clear nx
 have HB1 := Lib.hid hb1; clear hb1
 have HRA := Lib.hid hra; clear hra
 have HR0 := Lib.hid hr0; clear hr0
 have HFLT := Lib.hid hflt; clear hflt
 have HOUT := Lib.hid hout; clear hout
 go_enter Tryz.func30, Tryz.ntmps30
 go_upto_region 1 with fail
 rw [← HW.out]
 go_wp2_with fail
 refine NX.out.mono ?_
 rintro e w3 ⟨rfl, hb3⟩
 have hb13 := HB1.out.trans (hb3.mono HB1.out.size)
 have hsz : w.heap.size + 2 ≤ w3.heap.size := Nat.le_trans (heap_lt HRA.out) hb3.size
 have hro3 := (Fr.of_below hb3 (fun _ => False)).heap HR0.out (fun h => h)
 have hr3 := (Fr.of_below hb3 (fun _ => False)).heap HRA.out (fun h => h)
 have pp := LFX.out w3 hb13
 have k0 : w3.cell? ⟨w.heap.size, 0, none⟩ = some (.slice a0 n0 m0) := (row_cell hro3 0).1
 have k1 : w3.cell? ⟨w.heap.size, 1, none⟩ = some (.slice a1 n1 m1) := (row_cell hro3 1).1
 have k2 : w3.cell? ⟨w.heap.size, 2, none⟩ = some (.slice a2 n2 m2) := (row_cell hro3 2).1
 clear hb3 NX hro3
 have PP := Lib.hid pp; clear pp
 have HR3 := Lib.hid hr3; clear hr3
 have HB13 := Lib.hid hb13; clear hb13
 have HSZ := Lib.hid hsz; clear hsz
 go_wp2_with fail
 refine PP.out.mono ?_
 rintro e w5 ⟨s1, s2, a3, q3, c3, a4, q4, c4, a5, n5, c5, rfl, hoA, _, hb⟩
 obtain ⟨g, cc, hv, _, _⟩ := own_pop hoA
 cases hv
 have hbe := (Below.refl w5.heap.size w5).alloc (Nat.le_refl _) (.cells #[.int .i64 0, .int .i64 s1, .int .i64 s2, .slice a3 q3 c3, .slice a4 q4 c4, .slice (some ⟨g, 0, none⟩) (A.length + 1) c5, .bool false] 47)
 have hrow := heap_new w5 (.cells #[.int .i64 0, .int .i64 s1, .int .i64 s2, .slice a3 q3 c3, .slice a4 q4 c4, .slice (some ⟨g, 0, none⟩) (A.length + 1) c5, .bool false] 47)
 obtain ⟨w6, hw6⟩ : ∃ w6, w6 = w5.alloc (.cells #[.int .i64 0, .int .i64 s1, .int .i64 s2, .slice a3 q3 c3, .slice a4 q4 c4, .slice (some ⟨g, 0, none⟩) (A.length + 1) c5, .bool false] 47) := ⟨_, rfl⟩
 rw [← hw6] at hbe hrow
 have z5 := (row_cell hrow 5).1
 have kc := below_cell hbe (own_lastc hoA 0 _ rfl).1
 change World.cell? w6 ⟨g, A.length * 5 + 0, none⟩ = _ at kc
 rw [Nat.add_zero] at kc
 have hb35 := hb.trans (hbe.mono hb.size)
 have hb15 := HB13.out.trans (hb35.mono HB13.out.size)
 have i1 : IntKind.i64.wrap (((A.length + 1 : Nat) : Int) - 1) = (A.length : Int) := by rw [show (((A.length + 1 : Nat) : Int) - 1) = (A.length : Int) from by omega]; exact IntWalk.i64_in _ (by omega)
 have p1 : (A.length : Int) < ((A.length + 1 : Nat) : Int) := by omega
 have p2 : (0 : Int) ≤ (A.length : Int) := by omega
 have hr5 := (Fr.of_below hb35 (fun _ => False)).heap HR3.out (fun h => h)
 have hsz := HSZ.out
 have hfw := Fr.of_below hb15 F
 have hT3 := HTT.out.below hb15
 have hFz : ∀ q, F q → q ≠ w.heap.size + 1 := fun q hq e => by
  have := HFLT.out q hq; omega
 clear hoA hbe hb hb35 hb15 hrow
 generalize A.length + 1 = N at *
 have HW6 := Lib.hid hw6
 clear hw6
 go_upto_region 6 with fail
 rw [← HW6.out]
 obtain ⟨⟨u0, u1, u2, u3, u4, u5, u6⟩, n0, n1, n2, n3, n4, n5, n6⟩ := seven_cells hr5
 have hfs := seven_fr w6 (.int .i64 11) (.int .i64 0) (.int .i64 0) (.int .i64 y.code) (.int .i64 0) (.bool false) (.slice none 0 0) (w.heap.size + 1)
 have hrs := seven_row hr5 (.int .i64 11) (.int .i64 0) (.int .i64 0) (.int .i64 y.code) (.int .i64 0) (.bool false) (.slice none 0 0)
 have hT5 := hT3.fr hfs (fun q hq e => hFz q hq e) (fun q hq e => by have := HOUT.out q hq; have e : q = w.heap.size + 1 := e; omega)
 have hf6 := hfw.trans hfs (fun q hq e => by have e : q = w.heap.size + 1 := e; omega)
 have hF6 : ∀ q, F q → F q ∨ w.heap.size ≤ q := fun q hq => .inl hq
 have HPP := Lib.hid (show RunPostG w F tb p X T X.al X.kf (actV 11 0 0 y.code 0 false (.slice none 0 0)) _ _ from ⟨rfl, F, X, hT5, ⟨rfl, rfl, rfl, rfl⟩, hF6, hf6⟩)
 clear hfs hr5 hT3 hT5 hf6 hfw hF6 hFz hsz k0 k1 k2
 have HRS := Lib.hid hrs; clear hrs
 unfold actV
 go_wp2_with (with_reducible refine bodyPost_ret ?_ rfl HPP.out; have k0 := (row_cell HRS.out 0).1; have k1 := (row_cell HRS.out 1).1; have k2 := (row_cell HRS.out 2).1; have k3 := (row_cell HRS.out 3).1; have k4 := (row_cell HRS.out 4).1; have k5 := (row_cell HRS.out 5).1; have k6 := (row_cell HRS.out 6).1; simp at k0 k1 k2 k3 k4 k5 k6; simp [results, Tryz.results30, go_sem, k0, k1, k2, k3, k4, k5, k6, actV])
end Go.Proofs.YthkhgihjigmkoaaGreat.Tk
