/- MutatorNils: who looks at a nil pointer panics, where he stands; nobody who recovers: the task's panic is told. No condition. -/
import Derived.Test.YthkhgihjigmkoaaGreatCCc
import Derived.Test.YthkhgihjigmkoaaGreatCBu
import Derived.Test.YthkhgihjigmkoaaGreatCBy
import Derived.Test.YthkhgihjigmkoaaGreatRows
set_option linter.unusedVariables false
set_option linter.unusedSimpArgs false
/- MutatorNils: who looks at a nil pointer panics, where he stands; nobody who recovers: the task's panic is told. No condition. -/
namespace Go.Proofs.YthkhgihjigmkoaaGreat.mutatorNils
open Go.ChangeShapes Go.WideShapes Go.ChangeAt Go.RowKit Go.Maps Tk
set_option maxRecDepth 100000 in
set_option maxHeartbeats 6400000 in
theorem walkF (w : World) :
    Calls Tryz.prog 6 #[.bool false] w fun e w' => e = .returned (.bool true) ∧ Below w.heap.size w w' := by
  have al := alive23
  have hsB := nil_B false
  have hst' := nil_tab false
  have AL := Lib.hid al; clear al
  have HSB := Lib.hid hsB; clear hsB
  have HST' := Lib.hid hst'; clear hst'
  go_enter Tryz.func6, Tryz.ntmps6
  go_wp2_with fail
  refine (AL.out _).mono ?_
  rintro e w1 ⟨rfl, hb1⟩
  have HB1 := Lib.hid hb1
  clear hb1
  go_upto_region 6 with fail
  obtain ⟨wz, hwz⟩ : ∃ wz, wz = (w1.alloc (.cells #[.int .i64 14, .int .i64 1, .int .i64 0, .int .i64 0] 59)) := ⟨_, rfl⟩
  have hbz : Below w1.heap.size w1 wz := by rw [hwz]; exact ((Below.refl _ _).alloc (Nat.le_refl _) _)
  have hrz : wz.heap[w1.heap.size]? = some (.cells #[.int .i64 14, .int .i64 1, .int .i64 0, .int .i64 0] 59) := by rw [hwz]; exact (heap_new _ _)
  have z0 := (row_cell hrz 0).1
  have z1 := (row_cell hrz 1).1
  have z2 := (row_cell hrz 2).1
  have z3 := (row_cell hrz 3).1
  simp only [List.getElem?_toArray, List.getElem?_cons_zero, List.getElem?_cons_succ] at z0 z1 z2 z3
  have HWZ := Lib.hid hwz
  rw [← HWZ.out]
  have hb2 := (HB1.out.trans (hbz.mono HB1.out.size)).alloc (HB1.out.trans (hbz.mono HB1.out.size)).size (.cells #[.int .i64 11, .int .i64 0, .int .i64 0, .int .i64 0, .int .i64 1, .int .i64 1, .int .i64 5, .int .i64 0, .int .i64 14, .int .i64 1, .int .i64 0, .int .i64 0] 59)
  have hcd := CellsAt.new wz #[.int .i64 11, .int .i64 0, .int .i64 0, .int .i64 0, .int .i64 1, .int .i64 1, .int .i64 5, .int .i64 0, .int .i64 14, .int .i64 1, .int .i64 0, .int .i64 0] 59 (0, 0)
  have sg := singleS _ 2 (codeN false) wz.heap.size 0 3 hcd (by show 3 ≤ 1000; decide)
  clear hcd HB1 hbz hrz hwz HWZ
  have SG := Lib.hid sg; clear sg
  have HB2 := Lib.hid hb2; clear hb2
  go_wp2_with fail
  refine SG.out.mono ?_
  clear z0 z1 z2 z3
  rintro e w4 ⟨a0, n0, m0, a1, m1, a2, m2, D, rfl, hD4, hpv, hpg, hb4⟩
  have hb4 := HB2.out.trans (hb4.mono HB2.out.size)
  obtain ⟨W, hW⟩ : ∃ W, W = w4.alloc (.cells #[.slice a0 n0 m0, .slice a1 1 m1, .slice a2 1 m2] 27) := ⟨_, rfl⟩
  obtain ⟨hC, hD, hba, bg⟩ := boxS hpv hpg hD4 (by omega) HSB.out HST'.out W hW
  obtain ⟨pb, hpb⟩ : ∃ pb, pb = w4.heap.size := ⟨_, rfl⟩
  rw [← hpb] at hC
  have hW0 := hb4.trans (hba.mono hb4.size)
  obtain ⟨k0, k1, k2, _⟩ := hC W (Below.refl _ _)
  have HW := Lib.hid hW
  have HPB := Lib.hid hpb
  clear hW hpb hba hb4 hpv hpg hD4 HSB HST' SG
  have BG := Lib.hid bg; clear bg
  have HC := Lib.hid hC; clear hC
  have HD := Lib.hid hD; clear hD
  have HW0 := Lib.hid hW0; clear hW0
  go_upto_region 7 with fail
  rw [← HW.out, ← HPB.out]
  go_wp2_with fail
  refine BG.out.mono ?_
  rintro e w6 ⟨mb, tb, F, X, rfl, hT, hnw, hF, hMaps, hb6⟩
  clear k0 k1 k2
  have HT := Lib.hid hT; clear hT
  have HF := Lib.hid hF; clear hF
  have HB6 := Lib.hid hb6; clear hb6
  have HMAPS := Lib.hid hMaps; clear hMaps
  have HNW := Lib.hid hnw; clear hnw
  have HT0 := HT
  have HB := HB6
  have hal := HNW.out.1
  have hkf := HNW.out.2.1
  clear HB6 HMAPS HNW HT0
  have HAL := Lib.hid hal; clear hal
  have HKF := Lib.hid hkf; clear hkf
  obtain ⟨q0, q1, q2, hg⟩ := HC.out _ HB.out
  have st := (stepN_0 HT.out HAL.out D (fun k hk => ⟨fun h => by have := HD.out k hk; have := HF.out k h; omega, by have := HD.out k hk; have := HB.out.size; omega⟩) false _ _ _ (some ⟨mb, 0, none⟩) hg)
  clear hg
  have ST := Lib.hid st; clear st
  go_wp2_with fail
  refine ST.out.mono ?_
  rintro e w7 ⟨rfl, F2, X2, hT, hQ, hF2, hf2⟩
  unfold actV
  have hb := HB.out.trans (hf2.below HB.out.size (fun q hq => HF.out q hq))
  have hF : ∀ q, F2 q → W.heap.size ≤ q := fun q hq => (hF2 q hq).elim (HF.out q) (fun h => by have := HB.out.size; omega)
  have hal : X2.al = [] := by rw [hQ.2.1]; exact HAL.out
  have hkf : X2.kf = fun _ => none := by rw [hQ.2.2.1]; exact HKF.out
  clear hF2 hf2 hQ ST q0 q1 q2 HT HF HB HAL HKF
  have HT := Lib.hid hT; clear hT
  have HF := Lib.hid hF; clear hF
  have HB := Lib.hid hb; clear hb
  have HAL := Lib.hid hal; clear hal
  have HKF := Lib.hid hkf; clear hkf
  obtain ⟨q0, q1, q2, hg⟩ := HC.out _ HB.out
  have st := (stepN_1 HT.out HAL.out D (fun k hk => ⟨fun h => by have := HD.out k hk; have := HF.out k h; omega, by have := HD.out k hk; have := HB.out.size; omega⟩) false _ _ _ (some ⟨mb, 0, none⟩) hg)
  clear hg
  have ST := Lib.hid st; clear st
  go_wp2_with fail
  refine ST.out.mono ?_
  rintro e w8 ⟨rfl, F3, X3, hT, hQ, hF2, hf2⟩
  unfold actV
  have hb := HB.out.trans (hf2.below HB.out.size (fun q hq => HF.out q hq))
  have hF : ∀ q, F3 q → W.heap.size ≤ q := fun q hq => (hF2 q hq).elim (HF.out q) (fun h => by have := HB.out.size; omega)
  have hal : X3.al = [] := by rw [hQ.2.1]; exact HAL.out
  have hkf : X3.kf = fun _ => none := by rw [hQ.2.2.1]; exact HKF.out
  clear hF2 hf2 hQ ST q0 q1 q2 HT HF HB HAL HKF
  have HT := Lib.hid hT; clear hT
  have HF := Lib.hid hF; clear hF
  have HB := Lib.hid hb; clear hb
  have HAL := Lib.hid hal; clear hal
  have HKF := Lib.hid hkf; clear hkf
  obtain ⟨q0, q1, q2, hg⟩ := HC.out _ HB.out
  have st := (stepN_2 HT.out HAL.out D (fun k hk => ⟨fun h => by have := HD.out k hk; have := HF.out k h; omega, by have := HD.out k hk; have := HB.out.size; omega⟩) false _ _ _ (some ⟨mb, 0, none⟩) hg)
  clear hg
  have ST := Lib.hid st; clear st
  go_wp2_with fail
  refine ST.out.mono ?_
  rintro e w9 ⟨rfl, F4, X4, hT, hQ, hF2, hf2⟩
  unfold actV
  have hb := HB.out.trans (hf2.below HB.out.size (fun q hq => HF.out q hq))
  have hF : ∀ q, F4 q → W.heap.size ≤ q := fun q hq => (hF2 q hq).elim (HF.out q) (fun h => by have := HB.out.size; omega)
  have hal : X4.al = [alN] := hQ.2.1
  have hkf : X4.kf = fun _ => none := by rw [hQ.2.2.1]; exact HKF.out
  -- the act's box
  obtain ⟨wq, hwq⟩ : ∃ wq, wq = w9.alloc (.cells #[.int .i64 0, .int .i64 0, .int .i64 0, .int .i64 0, .int .i64 0, .bool false, .slice none 0 0] 63) := ⟨_, rfl⟩
  have hrq : wq.heap[w9.heap.size]? = some (.cells #[.int .i64 0, .int .i64 0, .int .i64 0, .int .i64 0, .int .i64 0, .bool false, .slice none 0 0] 63) := by rw [hwq]; exact heap_new _ _
  have hba : Below w9.heap.size w9 wq := by rw [hwq]; exact (Below.refl _ _).alloc (Nat.le_refl _) _
  have hT := hT.below hba
  have hb := hb.trans (hba.mono hb.size)
  have HWQ := Lib.hid hwq
  clear hwq hba
  clear hF2 hf2 hQ ST q0 q1 q2 HT HF HB HAL HKF
  have HT := Lib.hid hT; clear hT
  have HF := Lib.hid hF; clear hF
  have HB := Lib.hid hb; clear hb
  have HAL := Lib.hid hal; clear hal
  have HKF := Lib.hid hkf; clear hkf
  have HRQ := Lib.hid hrq; clear hrq
  go_upto_region 13 with fail
  rw [← HWQ.out]
  clear HWQ
  have lf := lifeN1 HT.out HAL.out
  have LF := Lib.hid lf; clear lf
  go_wp2_with fail
  refine LF.out.mono ?_
  rintro e w10 ⟨s1, s2, a3, n3, c3, a4, n4, c4, a5, n5, c5, rfl, hoA, _, hbL⟩
  obtain ⟨_, _, he5, hel5⟩ := own_elems hoA
  injection he5 with e1 e2 e3
  subst e1 e2 e3
  obtain ⟨ab, rfl, _, hca⟩ := hel5 0 (by decide)
  obtain ⟨wr, hwr⟩ : ∃ wr, wr = w10.alloc (.cells #[.int .i64 0, .int .i64 s1, .int .i64 s2, .slice a3 n3 c3, .slice a4 n4 c4, .slice (some ⟨ab, 0, none⟩) 1 c5, .bool false] 47) := ⟨_, rfl⟩
  have hrr : wr.heap[w10.heap.size]? = some (.cells #[.int .i64 0, .int .i64 s1, .int .i64 s2, .slice a3 n3 c3, .slice a4 n4 c4, .slice (some ⟨ab, 0, none⟩) 1 c5, .bool false] 47) := by rw [hwr]; exact heap_new _ _
  have hba : Below w10.heap.size w10 wr := by rw [hwr]; exact (Below.refl _ _).alloc (Nat.le_refl _) _
  have hbLr := hbL.trans (hba.mono hbL.size)
  have v0 : wr.cell? ⟨ab, 0, none⟩ = some (.int .i64 (-1)) := below_cell hba (hca 0 _ rfl)
  have v1 : wr.cell? ⟨ab, 1, none⟩ = some (.int .i64 0) := below_cell hba (hca 1 _ rfl)
  have v2 : wr.cell? ⟨ab, 2, none⟩ = some (.int .i64 0) := below_cell hba (hca 2 _ rfl)
  have v3 : wr.cell? ⟨ab, 3, none⟩ = some (.bool false) := below_cell hba (hca 3 _ rfl)
  have v4 : wr.cell? ⟨ab, 4, none⟩ = some (.bool false) := below_cell hba (hca 4 _ rfl)
  have l5 : wr.cell? ⟨w10.heap.size, 5, none⟩ = some (.slice (some ⟨ab, 0, none⟩) 1 c5) := (row_cell hrr 5).1
  have x0 : wr.cell? ⟨w9.heap.size, 0, none⟩ = some (.int .i64 0) := (row_cell ((Fr.of_below hbLr (fun _ => False)).heap HRQ.out (fun h => h)) 0).1
  have hT := HT.out.below hbLr
  have hb := HB.out.trans (hbLr.mono HB.out.size)
  have pcc := fun wx (hx : Below wr.heap.size wr wx) => pcS (hT.below hx)
  have s1c := fun wx (hx : Below wr.heap.size wr wx) => slotS (hT.below hx) wN_len (by omega) 1 (by omega) 5 rfl
  have PCC := Lib.hid pcc; clear pcc
  have S1C := Lib.hid s1c; clear s1c
  have HWR := Lib.hid hwr
  have hr := Below.refl wr.heap.size wr
  clear hwr hba hbL hbLr hrr hca hel5 hoA HT HB HRQ LF
  have HT := Lib.hid hT; clear hT
  have HB := Lib.hid hb; clear hb
  have HR := Lib.hid hr; clear hr
  go_upto_region 14 with fail
  rw [← HWR.out]
  clear HWR
  go_wp2_with fail
  refine (PCC.out _ HR.out).mono ?_
  rintro e w11 ⟨rfl, m, rfl⟩
  have HR1 := Lib.hid (below_drewN HR.out m)
  have v0 := below_cell HR1.out v0
  have v1 := below_cell HR1.out v1
  have v2 := below_cell HR1.out v2
  have v3 := below_cell HR1.out v3
  have v4 := below_cell HR1.out v4
  have l5 := below_cell HR1.out l5
  generalize wr.drewN m = w11 at *
  go_wp2_with fail
  refine (S1C.out _ HR1.out).mono ?_
  rintro e w12 ⟨rfl, hbs⟩
  have v0 := below_cell hbs v0
  have v1 := below_cell hbs v1
  have v2 := below_cell hbs v2
  have v3 := below_cell hbs v3
  have v4 := below_cell hbs v4
  have l5 := below_cell hbs l5
  have hR2 := HR1.out.trans (hbs.mono HR1.out.size)
  have hT := HT.out.below hR2
  have hb := HB.out.trans (hR2.mono HB.out.size)
  clear hbs hR2 HR HR1 PCC S1C x0 HT HB
  have HT := Lib.hid hT; clear hT
  have HB := Lib.hid hb; clear hb
  go_upto_region 16 with fail
  clear v0 v1 v2 v3 v4 l5
  obtain ⟨q0, q1, q2, hg⟩ := HC.out _ HB.out
  have st := (stepN_3 HT.out HAL.out HKF.out D (fun k hk => ⟨fun h => by have := HD.out k hk; have := HF.out k h; omega, by have := HD.out k hk; have := HB.out.size; omega⟩) false _ _ _ (some ⟨mb, 0, none⟩) hg)
  clear hg
  have ST := Lib.hid st; clear st
  go_wp2_with fail
  refine ST.out.mono ?_
  rintro e w13 ⟨rfl, F5, X5, hT, hQ, hF2, hf2⟩
  unfold actV
  have hb := HB.out.trans (hf2.below HB.out.size (fun q hq => HF.out q hq))
  have hF : ∀ q, F5 q → W.heap.size ≤ q := fun q hq => (hF2 q hq).elim (HF.out q) (fun h => by have := HB.out.size; omega)
  have hal : X5.al = [alN] := hQ.2.1
  have hkf : True := trivial
  obtain ⟨wq, hwq⟩ : ∃ wq, wq = w13.alloc (.cells #[.int .i64 0, .int .i64 0, .int .i64 0, .int .i64 0, .int .i64 0, .bool false, .slice none 0 0] 63) := ⟨_, rfl⟩
  have hrq : wq.heap[w13.heap.size]? = some (.cells #[.int .i64 0, .int .i64 0, .int .i64 0, .int .i64 0, .int .i64 0, .bool false, .slice none 0 0] 63) := by rw [hwq]; exact heap_new _ _
  have hba : Below w13.heap.size w13 wq := by rw [hwq]; exact (Below.refl _ _).alloc (Nat.le_refl _) _
  have hxF : ¬ F5 w13.heap.size := fun e => Nat.lt_irrefl _ (hT.flt _ e)
  have hT := hT.below hba
  have hb := hb.trans (hba.mono hb.size)
  have HWQ := Lib.hid hwq
  clear hwq hba
  clear hF2 hf2 hQ ST q0 q1 q2 HT HF HB HAL HKF
  have HT := Lib.hid hT; clear hT
  have HF := Lib.hid hF; clear hF
  have HB := Lib.hid hb; clear hb
  have HAL := Lib.hid hal; clear hal
  have HKF := Lib.hid hkf; clear hkf
  have HRQ := Lib.hid hrq; clear hrq
  have HXF := Lib.hid hxF; clear hxF
  go_upto_region 17 with fail
  rw [← HWQ.out]
  clear HWQ
  obtain ⟨q0, q1, q2, hg⟩ := HC.out _ HB.out
  have st := (stepN_4 HT.out HAL.out D false _ _ _ (some ⟨mb, 0, none⟩) hg)
  clear hg
  have ST := Lib.hid st; clear st
  go_wp2_with fail
  refine ST.out.mono ?_
  rintro e w14 ⟨rfl, F6, X6, hT, hQ, hF2, hf2⟩
  unfold actV
  have hb := HB.out.trans (hf2.below HB.out.size (fun q hq => HF.out q hq))
  have hF : ∀ q, F6 q → W.heap.size ≤ q := fun q hq => (hF2 q hq).elim (HF.out q) (fun h => by have := HB.out.size; omega)
  have hr14 := hf2.heap HRQ.out HXF.out
  obtain ⟨wr, hwr⟩ : ∃ wr, wr = w14.alloc (.cells #[.int .i64 11, .int .i64 0, .int .i64 0, .int .i64 (-1), .int .i64 0, .bool false, .slice none 0 0] 63) := ⟨_, rfl⟩
  have hrr : wr.heap[w14.heap.size]? = some (.cells #[.int .i64 11, .int .i64 0, .int .i64 0, .int .i64 (-1), .int .i64 0, .bool false, .slice none 0 0] 63) := by rw [hwr]; exact heap_new _ _
  have hba : Below w14.heap.size w14 wr := by rw [hwr]; exact (Below.refl _ _).alloc (Nat.le_refl _) _
  have hT := hT.below hba
  have hb := hb.trans (hba.mono hb.size)
  have x0 : wr.cell? ⟨w13.heap.size, 0, none⟩ = some (.int .i64 0) := (row_cell ((Fr.of_below hba (fun _ => False)).heap hr14 (fun h => h)) 0).1
  have y0 : wr.cell? ⟨w14.heap.size, 0, none⟩ = some (.int .i64 11) := (row_cell hrr 0).1
  have y3 : wr.cell? ⟨w14.heap.size, 3, none⟩ = some (.int .i64 (-1)) := (row_cell hrr 3).1
  obtain ⟨q0, q1, q2, hg⟩ := HC.out _ hb
  have dep := fun wx (hx : Below wr.heap.size wr wx) => depN1 (hT.below hx)
  have gv := give_none wr tb a0 a1 a2 n0 m0 1 m1 1 m2 1 dep
  have dp := dep wr (Below.refl _ _)
  have hend := HW0.out.trans (hb.mono HW0.out.size)
  have HWR := Lib.hid hwr
  clear hwr hba hr14 hrr hT hb hF hQ hF2 hf2 HT HF HB HAL HKF HRQ HXF hg dep ST
  have GV := Lib.hid gv; clear gv
  have DP := Lib.hid dp; clear dp
  have HEND := Lib.hid hend; clear hend
  go_upto_region 18 with fail
  rw [← HWR.out]
  clear HWR
  go_wp2_with fail
  refine DP.out.mono ?_
  rintro e w15 ⟨rfl, rfl⟩
  go_wp2_with fail
  refine GV.out.mono ?_
  rintro e w16 ⟨rfl, hbg⟩
  have HE := Lib.hid (HEND.out.trans (hbg.mono HEND.out.size))
  clear hbg
  go_wp2_with fail
  go_ret
  exact ⟨rfl, HE.out⟩
set_option maxRecDepth 100000 in
set_option maxHeartbeats 6400000 in
theorem walkT (w : World) :
    Calls Tryz.prog 6 #[.bool true] w fun e w' => e = .returned (.bool true) ∧ Below w.heap.size w w' := by
  have al := alive23
  have hsB := nil_B true
  have hst' := nil_tab true
  have AL := Lib.hid al; clear al
  have HSB := Lib.hid hsB; clear hsB
  have HST' := Lib.hid hst'; clear hst'
  go_enter Tryz.func6, Tryz.ntmps6
  go_wp2_with fail
  refine (AL.out _).mono ?_
  rintro e w1 ⟨rfl, hb1⟩
  have HB1 := Lib.hid hb1
  clear hb1
  go_upto_region 6 with fail
  obtain ⟨wz, hwz⟩ : ∃ wz, wz = (w1.alloc (.cells #[.int .i64 15, .int .i64 0, .int .i64 0, .int .i64 1] 59)) := ⟨_, rfl⟩
  have hbz : Below w1.heap.size w1 wz := by rw [hwz]; exact ((Below.refl _ _).alloc (Nat.le_refl _) _)
  have hrz : wz.heap[w1.heap.size]? = some (.cells #[.int .i64 15, .int .i64 0, .int .i64 0, .int .i64 1] 59) := by rw [hwz]; exact (heap_new _ _)
  have z0 := (row_cell hrz 0).1
  have z1 := (row_cell hrz 1).1
  have z2 := (row_cell hrz 2).1
  have z3 := (row_cell hrz 3).1
  simp only [List.getElem?_toArray, List.getElem?_cons_zero, List.getElem?_cons_succ] at z0 z1 z2 z3
  have HWZ := Lib.hid hwz
  rw [← HWZ.out]
  have hb2 := (HB1.out.trans (hbz.mono HB1.out.size)).alloc (HB1.out.trans (hbz.mono HB1.out.size)).size (.cells #[.int .i64 11, .int .i64 0, .int .i64 0, .int .i64 0, .int .i64 1, .int .i64 1, .int .i64 5, .int .i64 0, .int .i64 15, .int .i64 0, .int .i64 0, .int .i64 1] 59)
  have hcd := CellsAt.new wz #[.int .i64 11, .int .i64 0, .int .i64 0, .int .i64 0, .int .i64 1, .int .i64 1, .int .i64 5, .int .i64 0, .int .i64 15, .int .i64 0, .int .i64 0, .int .i64 1] 59 (0, 0)
  have sg := singleS _ 2 (codeN true) wz.heap.size 0 3 hcd (by show 3 ≤ 1000; decide)
  clear hcd HB1 hbz hrz hwz HWZ
  have SG := Lib.hid sg; clear sg
  have HB2 := Lib.hid hb2; clear hb2
  go_wp2_with fail
  refine SG.out.mono ?_
  clear z0 z1 z2 z3
  rintro e w4 ⟨a0, n0, m0, a1, m1, a2, m2, D, rfl, hD4, hpv, hpg, hb4⟩
  have hb4 := HB2.out.trans (hb4.mono HB2.out.size)
  obtain ⟨W, hW⟩ : ∃ W, W = w4.alloc (.cells #[.slice a0 n0 m0, .slice a1 1 m1, .slice a2 1 m2] 27) := ⟨_, rfl⟩
  obtain ⟨hC, hD, hba, bg⟩ := boxS hpv hpg hD4 (by omega) HSB.out HST'.out W hW
  obtain ⟨pb, hpb⟩ : ∃ pb, pb = w4.heap.size := ⟨_, rfl⟩
  rw [← hpb] at hC
  have hW0 := hb4.trans (hba.mono hb4.size)
  obtain ⟨k0, k1, k2, _⟩ := hC W (Below.refl _ _)
  have HW := Lib.hid hW
  have HPB := Lib.hid hpb
  clear hW hpb hba hb4 hpv hpg hD4 HSB HST' SG
  have BG := Lib.hid bg; clear bg
  have HC := Lib.hid hC; clear hC
  have HD := Lib.hid hD; clear hD
  have HW0 := Lib.hid hW0; clear hW0
  go_upto_region 7 with fail
  rw [← HW.out, ← HPB.out]
  go_wp2_with fail
  refine BG.out.mono ?_
  rintro e w6 ⟨mb, tb, F, X, rfl, hT, hnw, hF, hMaps, hb6⟩
  clear k0 k1 k2
  have HT := Lib.hid hT; clear hT
  have HF := Lib.hid hF; clear hF
  have HB6 := Lib.hid hb6; clear hb6
  have HMAPS := Lib.hid hMaps; clear hMaps
  have HNW := Lib.hid hnw; clear hnw
  have HT0 := HT
  have HB := HB6
  have hal := HNW.out.1
  have hkf := HNW.out.2.1
  clear HB6 HMAPS HNW HT0
  have HAL := Lib.hid hal; clear hal
  have HKF := Lib.hid hkf; clear hkf
  obtain ⟨q0, q1, q2, hg⟩ := HC.out _ HB.out
  have st := (stepN_0 HT.out HAL.out D (fun k hk => ⟨fun h => by have := HD.out k hk; have := HF.out k h; omega, by have := HD.out k hk; have := HB.out.size; omega⟩) true _ _ _ (some ⟨mb, 0, none⟩) hg)
  clear hg
  have ST := Lib.hid st; clear st
  go_wp2_with fail
  refine ST.out.mono ?_
  rintro e w7 ⟨rfl, F2, X2, hT, hQ, hF2, hf2⟩
  unfold actV
  have hb := HB.out.trans (hf2.below HB.out.size (fun q hq => HF.out q hq))
  have hF : ∀ q, F2 q → W.heap.size ≤ q := fun q hq => (hF2 q hq).elim (HF.out q) (fun h => by have := HB.out.size; omega)
  have hal : X2.al = [] := by rw [hQ.2.1]; exact HAL.out
  have hkf : X2.kf = fun _ => none := by rw [hQ.2.2.1]; exact HKF.out
  clear hF2 hf2 hQ ST q0 q1 q2 HT HF HB HAL HKF
  have HT := Lib.hid hT; clear hT
  have HF := Lib.hid hF; clear hF
  have HB := Lib.hid hb; clear hb
  have HAL := Lib.hid hal; clear hal
  have HKF := Lib.hid hkf; clear hkf
  obtain ⟨q0, q1, q2, hg⟩ := HC.out _ HB.out
  have st := (stepN_1 HT.out HAL.out D (fun k hk => ⟨fun h => by have := HD.out k hk; have := HF.out k h; omega, by have := HD.out k hk; have := HB.out.size; omega⟩) true _ _ _ (some ⟨mb, 0, none⟩) hg)
  clear hg
  have ST := Lib.hid st; clear st
  go_wp2_with fail
  refine ST.out.mono ?_
  rintro e w8 ⟨rfl, F3, X3, hT, hQ, hF2, hf2⟩
  unfold actV
  have hb := HB.out.trans (hf2.below HB.out.size (fun q hq => HF.out q hq))
  have hF : ∀ q, F3 q → W.heap.size ≤ q := fun q hq => (hF2 q hq).elim (HF.out q) (fun h => by have := HB.out.size; omega)
  have hal : X3.al = [] := by rw [hQ.2.1]; exact HAL.out
  have hkf : X3.kf = fun _ => none := by rw [hQ.2.2.1]; exact HKF.out
  clear hF2 hf2 hQ ST q0 q1 q2 HT HF HB HAL HKF
  have HT := Lib.hid hT; clear hT
  have HF := Lib.hid hF; clear hF
  have HB := Lib.hid hb; clear hb
  have HAL := Lib.hid hal; clear hal
  have HKF := Lib.hid hkf; clear hkf
  obtain ⟨q0, q1, q2, hg⟩ := HC.out _ HB.out
  have st := (stepN_2 HT.out HAL.out D (fun k hk => ⟨fun h => by have := HD.out k hk; have := HF.out k h; omega, by have := HD.out k hk; have := HB.out.size; omega⟩) true _ _ _ (some ⟨mb, 0, none⟩) hg)
  clear hg
  have ST := Lib.hid st; clear st
  go_wp2_with fail
  refine ST.out.mono ?_
  rintro e w9 ⟨rfl, F4, X4, hT, hQ, hF2, hf2⟩
  unfold actV
  have hb := HB.out.trans (hf2.below HB.out.size (fun q hq => HF.out q hq))
  have hF : ∀ q, F4 q → W.heap.size ≤ q := fun q hq => (hF2 q hq).elim (HF.out q) (fun h => by have := HB.out.size; omega)
  have hal : X4.al = [alN] := hQ.2.1
  have hkf : X4.kf = fun _ => none := by rw [hQ.2.2.1]; exact HKF.out
  -- the act's box
  obtain ⟨wq, hwq⟩ : ∃ wq, wq = w9.alloc (.cells #[.int .i64 0, .int .i64 0, .int .i64 0, .int .i64 0, .int .i64 0, .bool false, .slice none 0 0] 63) := ⟨_, rfl⟩
  have hrq : wq.heap[w9.heap.size]? = some (.cells #[.int .i64 0, .int .i64 0, .int .i64 0, .int .i64 0, .int .i64 0, .bool false, .slice none 0 0] 63) := by rw [hwq]; exact heap_new _ _
  have hba : Below w9.heap.size w9 wq := by rw [hwq]; exact (Below.refl _ _).alloc (Nat.le_refl _) _
  have hT := hT.below hba
  have hb := hb.trans (hba.mono hb.size)
  have HWQ := Lib.hid hwq
  clear hwq hba
  clear hF2 hf2 hQ ST q0 q1 q2 HT HF HB HAL HKF
  have HT := Lib.hid hT; clear hT
  have HF := Lib.hid hF; clear hF
  have HB := Lib.hid hb; clear hb
  have HAL := Lib.hid hal; clear hal
  have HKF := Lib.hid hkf; clear hkf
  have HRQ := Lib.hid hrq; clear hrq
  go_upto_region 13 with fail
  rw [← HWQ.out]
  clear HWQ
  have lf := lifeN1 HT.out HAL.out
  have LF := Lib.hid lf; clear lf
  go_wp2_with fail
  refine LF.out.mono ?_
  rintro e w10 ⟨s1, s2, a3, n3, c3, a4, n4, c4, a5, n5, c5, rfl, hoA, _, hbL⟩
  obtain ⟨_, _, he5, hel5⟩ := own_elems hoA
  injection he5 with e1 e2 e3
  subst e1 e2 e3
  obtain ⟨ab, rfl, _, hca⟩ := hel5 0 (by decide)
  obtain ⟨wr, hwr⟩ : ∃ wr, wr = w10.alloc (.cells #[.int .i64 0, .int .i64 s1, .int .i64 s2, .slice a3 n3 c3, .slice a4 n4 c4, .slice (some ⟨ab, 0, none⟩) 1 c5, .bool false] 47) := ⟨_, rfl⟩
  have hrr : wr.heap[w10.heap.size]? = some (.cells #[.int .i64 0, .int .i64 s1, .int .i64 s2, .slice a3 n3 c3, .slice a4 n4 c4, .slice (some ⟨ab, 0, none⟩) 1 c5, .bool false] 47) := by rw [hwr]; exact heap_new _ _
  have hba : Below w10.heap.size w10 wr := by rw [hwr]; exact (Below.refl _ _).alloc (Nat.le_refl _) _
  have hbLr := hbL.trans (hba.mono hbL.size)
  have v0 : wr.cell? ⟨ab, 0, none⟩ = some (.int .i64 (-1)) := below_cell hba (hca 0 _ rfl)
  have v1 : wr.cell? ⟨ab, 1, none⟩ = some (.int .i64 0) := below_cell hba (hca 1 _ rfl)
  have v2 : wr.cell? ⟨ab, 2, none⟩ = some (.int .i64 0) := below_cell hba (hca 2 _ rfl)
  have v3 : wr.cell? ⟨ab, 3, none⟩ = some (.bool false) := below_cell hba (hca 3 _ rfl)
  have v4 : wr.cell? ⟨ab, 4, none⟩ = some (.bool false) := below_cell hba (hca 4 _ rfl)
  have l5 : wr.cell? ⟨w10.heap.size, 5, none⟩ = some (.slice (some ⟨ab, 0, none⟩) 1 c5) := (row_cell hrr 5).1
  have x0 : wr.cell? ⟨w9.heap.size, 0, none⟩ = some (.int .i64 0) := (row_cell ((Fr.of_below hbLr (fun _ => False)).heap HRQ.out (fun h => h)) 0).1
  have hT := HT.out.below hbLr
  have hb := HB.out.trans (hbLr.mono HB.out.size)
  have pcc := fun wx (hx : Below wr.heap.size wr wx) => pcS (hT.below hx)
  have s1c := fun wx (hx : Below wr.heap.size wr wx) => slotS (hT.below hx) wN_len (by omega) 1 (by omega) 5 rfl
  have PCC := Lib.hid pcc; clear pcc
  have S1C := Lib.hid s1c; clear s1c
  have HWR := Lib.hid hwr
  have hr := Below.refl wr.heap.size wr
  clear hwr hba hbL hbLr hrr hca hel5 hoA HT HB HRQ LF
  have HT := Lib.hid hT; clear hT
  have HB := Lib.hid hb; clear hb
  have HR := Lib.hid hr; clear hr
  go_upto_region 14 with fail
  rw [← HWR.out]
  clear HWR
  go_wp2_with fail
  refine (PCC.out _ HR.out).mono ?_
  rintro e w11 ⟨rfl, m, rfl⟩
  have HR1 := Lib.hid (below_drewN HR.out m)
  have v0 := below_cell HR1.out v0
  have v1 := below_cell HR1.out v1
  have v2 := below_cell HR1.out v2
  have v3 := below_cell HR1.out v3
  have v4 := below_cell HR1.out v4
  have l5 := below_cell HR1.out l5
  generalize wr.drewN m = w11 at *
  go_wp2_with fail
  refine (S1C.out _ HR1.out).mono ?_
  rintro e w12 ⟨rfl, hbs⟩
  have v0 := below_cell hbs v0
  have v1 := below_cell hbs v1
  have v2 := below_cell hbs v2
  have v3 := below_cell hbs v3
  have v4 := below_cell hbs v4
  have l5 := below_cell hbs l5
  have hR2 := HR1.out.trans (hbs.mono HR1.out.size)
  have hT := HT.out.below hR2
  have hb := HB.out.trans (hR2.mono HB.out.size)
  clear hbs hR2 HR HR1 PCC S1C x0 HT HB
  have HT := Lib.hid hT; clear hT
  have HB := Lib.hid hb; clear hb
  go_upto_region 16 with fail
  clear v0 v1 v2 v3 v4 l5
  obtain ⟨q0, q1, q2, hg⟩ := HC.out _ HB.out
  have st := (stepN_3 HT.out HAL.out HKF.out D (fun k hk => ⟨fun h => by have := HD.out k hk; have := HF.out k h; omega, by have := HD.out k hk; have := HB.out.size; omega⟩) true _ _ _ (some ⟨mb, 0, none⟩) hg)
  clear hg
  have ST := Lib.hid st; clear st
  go_wp2_with fail
  refine ST.out.mono ?_
  rintro e w13 ⟨rfl, F5, X5, hT, hQ, hF2, hf2⟩
  unfold actV
  have hb := HB.out.trans (hf2.below HB.out.size (fun q hq => HF.out q hq))
  have hF : ∀ q, F5 q → W.heap.size ≤ q := fun q hq => (hF2 q hq).elim (HF.out q) (fun h => by have := HB.out.size; omega)
  have hal : X5.al = [alN] := hQ.2.1
  have hkf : True := trivial
  obtain ⟨wq, hwq⟩ : ∃ wq, wq = w13.alloc (.cells #[.int .i64 0, .int .i64 0, .int .i64 0, .int .i64 0, .int .i64 0, .bool false, .slice none 0 0] 63) := ⟨_, rfl⟩
  have hrq : wq.heap[w13.heap.size]? = some (.cells #[.int .i64 0, .int .i64 0, .int .i64 0, .int .i64 0, .int .i64 0, .bool false, .slice none 0 0] 63) := by rw [hwq]; exact heap_new _ _
  have hba : Below w13.heap.size w13 wq := by rw [hwq]; exact (Below.refl _ _).alloc (Nat.le_refl _) _
  have hxF : ¬ F5 w13.heap.size := fun e => Nat.lt_irrefl _ (hT.flt _ e)
  have hT := hT.below hba
  have hb := hb.trans (hba.mono hb.size)
  have HWQ := Lib.hid hwq
  clear hwq hba
  clear hF2 hf2 hQ ST q0 q1 q2 HT HF HB HAL HKF
  have HT := Lib.hid hT; clear hT
  have HF := Lib.hid hF; clear hF
  have HB := Lib.hid hb; clear hb
  have HAL := Lib.hid hal; clear hal
  have HKF := Lib.hid hkf; clear hkf
  have HRQ := Lib.hid hrq; clear hrq
  have HXF := Lib.hid hxF; clear hxF
  go_upto_region 17 with fail
  rw [← HWQ.out]
  clear HWQ
  obtain ⟨q0, q1, q2, hg⟩ := HC.out _ HB.out
  have st := (stepN_4 HT.out HAL.out D true _ _ _ (some ⟨mb, 0, none⟩) hg)
  clear hg
  have ST := Lib.hid st; clear st
  go_wp2_with fail
  refine ST.out.mono ?_
  rintro e w14 ⟨rfl, F6, X6, hT, hQ, hF2, hf2⟩
  unfold actV
  have hb := HB.out.trans (hf2.below HB.out.size (fun q hq => HF.out q hq))
  have hF : ∀ q, F6 q → W.heap.size ≤ q := fun q hq => (hF2 q hq).elim (HF.out q) (fun h => by have := HB.out.size; omega)
  have hr14 := hf2.heap HRQ.out HXF.out
  obtain ⟨wr, hwr⟩ : ∃ wr, wr = w14.alloc (.cells #[.int .i64 11, .int .i64 0, .int .i64 0, .int .i64 (-1), .int .i64 0, .bool false, .slice none 0 0] 63) := ⟨_, rfl⟩
  have hrr : wr.heap[w14.heap.size]? = some (.cells #[.int .i64 11, .int .i64 0, .int .i64 0, .int .i64 (-1), .int .i64 0, .bool false, .slice none 0 0] 63) := by rw [hwr]; exact heap_new _ _
  have hba : Below w14.heap.size w14 wr := by rw [hwr]; exact (Below.refl _ _).alloc (Nat.le_refl _) _
  have hT := hT.below hba
  have hb := hb.trans (hba.mono hb.size)
  have x0 : wr.cell? ⟨w13.heap.size, 0, none⟩ = some (.int .i64 0) := (row_cell ((Fr.of_below hba (fun _ => False)).heap hr14 (fun h => h)) 0).1
  have y0 : wr.cell? ⟨w14.heap.size, 0, none⟩ = some (.int .i64 11) := (row_cell hrr 0).1
  have y3 : wr.cell? ⟨w14.heap.size, 3, none⟩ = some (.int .i64 (-1)) := (row_cell hrr 3).1
  obtain ⟨q0, q1, q2, hg⟩ := HC.out _ hb
  have dep := fun wx (hx : Below wr.heap.size wr wx) => depN1 (hT.below hx)
  have gv := give_none wr tb a0 a1 a2 n0 m0 1 m1 1 m2 1 dep
  have dp := dep wr (Below.refl _ _)
  have hend := HW0.out.trans (hb.mono HW0.out.size)
  have HWR := Lib.hid hwr
  clear hwr hba hr14 hrr hT hb hF hQ hF2 hf2 HT HF HB HAL HKF HRQ HXF hg dep ST
  have GV := Lib.hid gv; clear gv
  have DP := Lib.hid dp; clear dp
  have HEND := Lib.hid hend; clear hend
  go_upto_region 18 with fail
  rw [← HWR.out]
  clear HWR
  go_wp2_with fail
  refine DP.out.mono ?_
  rintro e w15 ⟨rfl, rfl⟩
  go_wp2_with fail
  refine GV.out.mono ?_
  rintro e w16 ⟨rfl, hbg⟩
  have HE := Lib.hid (HEND.out.trans (hbg.mono HEND.out.size))
  clear hbg
  go_wp2_with fail
  go_ret
  exact ⟨rfl, HE.out⟩
theorem walk (w : World) (store : Bool) :
    Calls Tryz.prog 6 #[.bool store] w fun e w' => e = .returned (.bool true) ∧ Below w.heap.size w w' := by
  cases store
  · exact walkF w
  · exact walkT w
theorem own : ownKnob Tryz.prog.godebug = none := by kernel_rfl
theorem laidOut : laidOutB Tryz.prog = true := by kernel_rfl
set_option maxRecDepth 100000 in
theorem lifted (os : Os) (started : os.Started) (H : Type) (enc : TypeId × Value → H) :
    ReturnsInHanded {} Tryz.checked os 6 .any (Rows.mutatorNilsSpec.pre6 enc Tryz.prog Tryz.f6 Rows.mutatorNilsRow.domain false) (Rows.mutatorNilsSpec.post enc Tryz.prog Tryz.f6 false true false false) := by
  refine returnsInHanded_of_change (C := Tryz.checked) own started (by kernel_rfl) Tryz.func6
    (ChangeSpec.witness6 (enc := enc) (C := Tryz.checked) false ⟨#[], #[.bool false], []⟩ 8 (by kernel_rfl) (by kernel_rfl) (by kernel_rfl) (by kernel_rfl)) ?_
  intro W base args ds gs before hval0 hW hcnd _
  have hval : ∀ (j : Nat) t v, Tryz.f6.params[j]? = some t → args[j]? = some v → Value.okWide Tryz.prog W .any base t v := hval0
  have hW' := hW
  obtain ⟨p, q, hA0, hV, rfl, hfz, hnd⟩ := hW
  have hA : DataW.TrodAll enc Tryz.prog W 0 (fun _ => true) true Tryz.f6.params.toList args.toList ds p := hA0
  rw [Tryz.params6] at hA hval
  obtain ⟨v0, vs0, d0, ds0, p0, q0, hargs, rfl, rfl, h0, r0⟩ := trodAll_cons hA
  obtain ⟨rfl, rfl, rfl⟩ := trodAll_nil r0
  obtain rfl : args = #[v0] := by cases args; simp_all
  obtain ⟨a0, rfl, rfl, rfl⟩ := open_bool Tryz.underlying4 (hval 0 4 v0 rfl rfl) h0
  clear hA0 hval0
  simp only [List.append_nil] at hW'
  refine (walk W a0).mono fun e W' ⟨he, hb⟩ => ?_
  subst he
  exact ⟨_, rfl, law_post laidOut (by kernel_rfl) rfl Tryz.underlying4 hW' rfl (fun ds h => by match ds, h with | [_], _ => rfl) hb⟩
theorem over : Rows.mutatorNilsRow.holds Tryz.pinned (OpenSpec.ofChange Rows.mutatorNilsSpec) :=
  OpenClaim.holds_of_wide 6 Tryz.f6 rfl rfl rfl rfl rfl rfl rfl ⟨rfl, rfl, rfl, rfl, rfl⟩ rfl rfl rfl rfl rfl (by kernel_rfl) Tryz.func6 (by kernel_rfl)
    (of_decide_eq_true (by kernel_rfl)) (by unfold Func.isWrapper; first | (rw [if_pos (by decide +kernel)]; kernel_rfl) | (rw [if_neg (by decide +kernel)]; exact ⟨rfl, rfl⟩))
    (fun os started H enc _ => lifted os started H enc)
theorem proved : Rows.MutatorNilsSaid := over
#print axioms proved
end Go.Proofs.YthkhgihjigmkoaaGreat.mutatorNils
