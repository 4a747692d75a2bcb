import Derived.Test.YtjcjhfnjamphlaaGreatZBt
set_option linter.unusedVariables false
set_option linter.unusedSimpArgs false
namespace Go.Proofs.YtjcjhfnjamphlaaGreat
open Go.ChangeShapes Go.WideShapes Go.ChangeAt Go.RowKit Go.Maps
def RFPost (p : Prg) (fn : Int) (w : World) (e : Ending) (w' : World) : Prop :=
 e = .returned (.tuple #[.int .i64 (funcS p fn).1, .int .i64 (funcS p fn).2]) ∧ Below w.heap.size w w'
theorem rfPost_of {p : Prg} {fn E m : Int} {n : Nat} {w w' : World} (h : funcS p fn = (E, n)) (hm : m = n) (hb : Below w.heap.size w w') : RFPost p fn w (.returned (.tuple #[.int .i64 E, .int .i64 m])) w' := by
 unfold RFPost
 rw [h, hm]
 exact ⟨rfl, hb⟩
set_option maxRecDepth 100000 in
set_option maxHeartbeats 3200000 in
theorem rfuncC_any (w : World) (D : Nat → Prop) (hD : ∀ k, D k → k < w.heap.size) (p : Prg) (c0 c1 c2 : Value) (hv : PrgVal w D p c0 c1 c2) (hp : PrgB p) (hq : PrgR p) (fn : Int) :
  Calls Tryz.prog 59 #[.agg #[c0, c1, c2], .int .i64 fn] w (RFPost p fn w) := by
 have hPP : ∀ wr, Below w.heap.size w wr → PrgVal wr D p c0 c1 c2 := fun wr hb => hv.fr (Fr.of_below hb (fun _ => False)) (fun _ _ h => h)
 obtain ⟨⟨a0, m0, rfl, _⟩, ⟨a1, m1, rfl, _⟩, a2, m2, rfl, hfn⟩ := hv
 have hbx := fun wr h => box1 w #[.slice a0 p.globals.length m0, .slice a1 p.shapes.length m1, .slice a2 p.funcs.length m2] 26 wr h
 have hz0 : (w.alloc (.cells #[.slice a0 p.globals.length m0, .slice a1 p.shapes.length m1, .slice a2 p.funcs.length m2] 26)).heap.size = w.heap.size + 1 := by simp
 obtain ⟨W, hW⟩ : ∃ W, W = (w.alloc (.cells #[.slice a0 p.globals.length m0, .slice a1 p.shapes.length m1, .slice a2 p.funcs.length m2] 26)) := ⟨_, rfl⟩
 rw [← hW] at hbx hz0
 have hs : ∀ wr, Below W.heap.size W wr → wr.cell? ⟨w.heap.size, 0, none⟩ = some (.slice a0 p.globals.length m0) ∧ wr.cell? ⟨w.heap.size, 1, none⟩ = some (.slice a1 p.shapes.length m1) ∧ wr.cell? ⟨w.heap.size, 2, none⟩ = some (.slice a2 p.funcs.length m2) := fun wr h => by
  rw [hz0] at h
  have hb := hbx wr h
  exact ⟨hb.1 0 _ rfl, hb.1 1 _ rfl, hb.1 2 _ rfl⟩
 have hbw : ∀ wr, Below W.heap.size W wr → Below w.heap.size w wr := fun wr h => by rw [hz0] at h; exact (hbx wr h).2.1
 have hw0 := Below.refl W.heap.size W
 have hfn := hfn.fr (Fr.of_below (hbw W hw0) (fun _ => False)) (fun _ _ h => h)
 obtain ⟨k0, k1, k2⟩ := hs W hw0
 have HW := Lib.hid hW
 clear hW hbx hz0
 cases hin : withinB fn p.funcs.length
 ·have hP := rfPost_of (m := 0) (funcS_out hin) rfl (hbw W hw0)
  clear hs hbw hfn hw0 hPP hD
  by_cases h0 : fn < 0
  ·clear hin
   go_enter Tryz.func59, Tryz.ntmps59
   go_upto_region 1 with fail
   rw [← HW.out]
   have HP := Lib.hid hP; clear hP
   go_wp2_with fail
   go_ret2
   exact HP.out
  ·have h1 : (p.funcs.length : Int) ≤ fn := by simp [withinB] at hin; omega
   clear hin
   go_enter Tryz.func59, Tryz.ntmps59
   go_upto_region 1 with fail
   rw [← HW.out]
   have HP := Lib.hid hP; clear hP
   go_wp2_with fail
   go_ret2
   exact HP.out
 obtain ⟨j, rfl, hj⟩ := within_nat hin
 have hfS := funcS_at j hj
 obtain ⟨bb, o, rfl, _, y0, y1, y2, y3, y4, g0, g1, g2, g3, g4, hfv⟩ := hfn j hj
 have hB := hp.2.2 p.funcs[j] (List.getElem_mem hj)
 have hR := hq.2.2.2.2 p.funcs[j] (List.getElem_mem hj)
 generalize p.funcs[j] = f at *
 obtain ⟨fa, fr, fs, fo, fc⟩ := f
 obtain ⟨rfl, rfl, ⟨e0, e1, rfl, ha⟩, ⟨e2, e3, rfl, ho⟩, e4, e5, rfl, _⟩ := hfv
 dsimp only at g0 g1 g2 g3 g4 ha ho hR
 obtain ⟨hla, hlo, hlc⟩ := hR
 have hx1 := fun wr h => box1 W #[.slice e0 fa.length e1, .int .i64 fr, .int .i64 fs, .slice e2 fo.length e3, .slice e4 fc.length e5] 58 wr h
 have hx2 : (W.alloc (.cells #[.slice e0 fa.length e1, .int .i64 fr, .int .i64 fs, .slice e2 fo.length e3, .slice e4 fc.length e5] 58)).heap.size = W.heap.size + 1 := by simp
 obtain ⟨X, hX⟩ : ∃ X, X = W.alloc (.cells #[.slice e0 fa.length e1, .int .i64 fr, .int .i64 fs, .slice e2 fo.length e3, .slice e4 fc.length e5] 58) := ⟨_, rfl⟩
 rw [← hX] at hx1 hx2
 have ht : ∀ wr, Below X.heap.size X wr → wr.cell? ⟨W.heap.size, 0, none⟩ = some (.slice e0 fa.length e1) ∧ wr.cell? ⟨W.heap.size, 1, none⟩ = some (.int .i64 fr) ∧ wr.cell? ⟨W.heap.size, 2, none⟩ = some (.int .i64 fs) ∧ wr.cell? ⟨W.heap.size, 3, none⟩ = some (.slice e2 fo.length e3) ∧ wr.cell? ⟨W.heap.size, 4, none⟩ = some (.slice e4 fc.length e5) := fun wr h => by
  rw [hx2] at h
  have hb := hx1 wr h
  exact ⟨hb.1 0 _ rfl, hb.1 1 _ rfl, hb.1 2 _ rfl, hb.1 3 _ rfl, hb.1 4 _ rfl⟩
 have htw : ∀ wr, Below X.heap.size X wr → Below W.heap.size W wr := fun wr h => by rw [hx2] at h; exact (hx1 wr h).2.1
 have hX0 := Below.refl X.heap.size X
 have ha : ∀ wr, Below X.heap.size X wr → IntSl wr D e0 fa := fun wr h => ha.fr (Fr.of_below (htw wr h) (fun _ => False)) (fun _ _ h => h)
 have ho : ∀ wr, Below X.heap.size X wr → IntSl wr D e2 fo := fun wr h => ho.fr (Fr.of_below (htw wr h) (fun _ => False)) (fun _ _ h => h)
 have ins := fun wr (h : Below X.heap.size X wr) (k : Nat) => rinstrC_any wr D (fun q hq => Nat.lt_of_lt_of_le (hD q hq) (hbw wr (htw wr h)).size) p _ _ _ (hPP wr (hbw wr (htw wr h))) hp hq j k
 have rv := fun (w : World) (x : Int) => rvalid_any w x p.shapes.length (by have := hq.2.1; omega)
 have rf := fun (w : World) => rfield_any w fr p.shapes.length (by have := hq.2.1; omega)
 have hj0 : ¬ (j : Int) < 0 := by omega
 have hj1 : ¬ (p.funcs.length : Int) ≤ (j : Int) := by omega
 have hj2 : (j : Int) < p.funcs.length := by omega
 have hsl : p.shapes.length ≤ 3000 := hq.2.1
 have HX := Lib.hid hX
 clear hX hx1 hin hB hPP hp hq hD
 have hfr := @funF_front p j ⟨fa, fr, fs, fo, fc⟩
 have hco := @funF_code p j ⟨fa, fr, fs, fo, fc⟩
 rw [← hfS] at hfr hco
 have hfe : frontS p ⟨fa, fr, fs, fo, fc⟩ = _ := rfl
 conv at hfe => rhs; unfold frontS
 dsimp only at hfe
 generalize frontS p ⟨fa, fr, fs, fo, fc⟩ = fe at *
 clear hfS
 have bg := World.block_lt g0
 dsimp only at bg
 obtain ⟨t0, t1, t2, t3, t4⟩ := ht X hX0
 have HS := Lib.hid hs; clear hs
 have HBW := Lib.hid hbw; clear hbw
 have HW0 := Lib.hid hw0; clear hw0
 have HFN := Lib.hid hfn; clear hfn
 have HT := Lib.hid ht; clear ht
 have HTW := Lib.hid htw; clear htw
 have HX0 := Lib.hid hX0; clear hX0
 have INS := Lib.hid ins; clear ins
 have RV := Lib.hid rv; clear rv
 have RF := Lib.hid rf; clear rf
 have HFR := Lib.hid hfr; clear hfr
 have HCO := Lib.hid hco; clear hco
 have HA := Lib.hid ha; clear ha
 have HO := Lib.hid ho; clear ho
 go_enter Tryz.func59, Tryz.ntmps59
 go_upto_region 1 with fail
 rw [← HW.out]
 go_upto_region 4 with fail
 rw [← HX.out]
 clear k0 k1 k2 g0 g1 g2 g3 g4 bg hx2
 obtain ⟨k0, k1, k2⟩ := HS.out X (HTW.out X HX0.out)
 by_cases hc : fs < fa.length ∨ 16 < fs ∨ 8 < fo.length ∨ fc.length < 1 ∨ 64 < fc.length
 case pos =>
  rw [if_pos hc] at hfe
  subst hfe
  by_cases c1 : fs < fa.length
  ·skip
   have hP := rfPost_of (m := 0) (HFR.out (by decide)) rfl (HBW.out X (HTW.out X HX0.out))
   clear hc
   have HP := Lib.hid hP; clear hP
   go_wp2_with fail
   go_ret2
   exact HP.out
  by_cases c2 : 16 < fs
  ·skip
   have hP := rfPost_of (m := 0) (HFR.out (by decide)) rfl (HBW.out X (HTW.out X HX0.out))
   clear hc
   have HP := Lib.hid hP; clear hP
   go_wp2_with fail
   go_ret2
   exact HP.out
  by_cases c3 : (8 : Int) < fo.length
  ·skip
   have hP := rfPost_of (m := 0) (HFR.out (by decide)) rfl (HBW.out X (HTW.out X HX0.out))
   clear hc
   have HP := Lib.hid hP; clear hP
   go_wp2_with fail
   go_ret2
   exact HP.out
  by_cases c4 : (fc.length : Int) < 1
  ·skip
   have hP := rfPost_of (m := 0) (HFR.out (by decide)) rfl (HBW.out X (HTW.out X HX0.out))
   clear hc
   have HP := Lib.hid hP; clear hP
   go_wp2_with fail
   go_ret2
   exact HP.out
  by_cases c5 : (64 : Int) < fc.length
  ·skip
   have hP := rfPost_of (m := 0) (HFR.out (by decide)) rfl (HBW.out X (HTW.out X HX0.out))
   clear hc
   have HP := Lib.hid hP; clear hP
   go_wp2_with fail
   go_ret2
   exact HP.out
  exact absurd hc (by omega)
 rw [if_neg hc] at hfe
 have c1 : ¬ fs < fa.length := by omega
 have c2 : ¬ 16 < fs := by omega
 have c3 : ¬ (8 : Int) < fo.length := by omega
 have c4 : ¬ (fc.length : Int) < 1 := by omega
 have c5 : ¬ (64 : Int) < fc.length := by omega
 clear hc
 have HFE := Lib.hid hfe
 clear hfe
 go_wp2_with fail
 go_loopw [7] (fun i wr => ∃ k : Nat, k ≤ fa.length ∧ i = .int .i64 k ∧ Below X.heap.size X wr ∧ (fa.take k).all (validB · p.shapes.length) = true) (fun i _ => fa.length - (intOf i).toNat)
 case atStart => exact ⟨0, Nat.zero_le _, rfl, HX0.out, rfl⟩
 case round =>
  clear k0 k1 k2 t0 t1 t2 t3 t4
  obtain ⟨k, hk, rfl, hR, hall⟩ := hrel
  obtain ⟨k0, k1, k2⟩ := HS.out wr (HTW.out wr hR)
  obtain ⟨t0, t1, t2, t3, t4⟩ := HT.out wr hR
  by_cases hlt : k < fa.length
  ·obtain ⟨b', o', rfl, _, hx⟩ := HA.out wr hR k hlt
   have rv := fun w => RV.out w fa[k]
   have hsn := all_take hlt hall
   have hno := all_no (P := (validB · p.shapes.length)) hlt
   try dsimp only at hsn hno
   generalize fa[k] = x at *
   cases hwx : validB x p.shapes.length
   ·have hfe := HFE.out
    rw [if_pos (hno hwx)] at hfe
    subst hfe
    have hbz := HBW.out wr (HTW.out wr hR)
    rw [hwx] at rv
    clear hsn hno hwx hall
    have HR := Lib.hid hR; clear hR
    have HBZ := Lib.hid hbz; clear hbz
    have RV := Lib.hid rv; clear rv
    go_upto_region 9 with fail
    go_quiet ((go_at_call 85; exact Calls.quiet_of_same ((RV.out _).mono fun _ _ ⟨a, b⟩ => ⟨a, b.symm⟩)))
    have hP := rfPost_of (m := 0) (HFR.out (by decide)) rfl (below_drewN HBZ.out nq)
    have HP := Lib.hid hP; clear hP
    go_wp2_with fail
    go_ret2
    exact HP.out
   ·rw [hwx] at rv hsn
    clear hno hwx hall
    have HR := Lib.hid hR; clear hR
    have HSN := Lib.hid hsn; clear hsn
    have RV := Lib.hid rv; clear rv
    go_upto_region 9 with fail
    go_quiet ((go_at_call 85; exact Calls.quiet_of_same ((RV.out _).mono fun _ _ ⟨a, b⟩ => ⟨a, b.symm⟩)))
    go_wp2_with fail
    go_roundw
    case rel => exact ⟨k + 1, by omega, by go_num, below_drewN HR.out _, HSN.out⟩
    case measure => simp [intOf]; omega
  ·have hk' : k = fa.length := by omega
   subst hk'
   rw [List.take_length] at hall
   have hfe := HFE.out
   rw [if_neg (by rw [hall]; simp)] at hfe
   clear hall HFE
   have HR := Lib.hid hR
   clear hR
   by_cases hr : fr = 0
   ·subst hr
    rw [if_neg (by simp)] at hfe
    have HFE := Lib.hid hfe
    clear hfe
    go_upto_region 13 with fail
    go_wp2_with fail
    go_loopw [8] (fun i wr => ∃ k : Nat, k ≤ fo.length ∧ i = .int .i64 k ∧ Below X.heap.size X wr ∧ (fo.take k).all (withinB · p.shapes.length) = true) (fun i _ => fo.length - (intOf i).toNat)
    case atStart => exact ⟨0, Nat.zero_le _, rfl, HR.out, rfl⟩
    case round =>
     clear k0 k1 k2 t0 t1 t2 t3 t4
     obtain ⟨k, hk, rfl, hR2, hall⟩ := hrel
     obtain ⟨k0, k1, k2⟩ := HS.out wr (HTW.out wr hR2)
     obtain ⟨t0, t1, t2, t3, t4⟩ := HT.out wr hR2
     by_cases hlt : k < fo.length
     ·obtain ⟨b', o', rfl, _, hx⟩ := HO.out wr hR2 k hlt
      have hsn := all_take hlt hall
      have hno := all_no (P := (withinB · p.shapes.length)) hlt
      try dsimp only at hsn hno
      generalize fo[k] = x at *
      cases hwx : withinB x p.shapes.length
      ·have hfe := HFE.out
       rw [if_pos (hno hwx)] at hfe
       subst hfe
       have hbz := HBW.out wr (HTW.out wr hR2)
       by_cases hx0 : x < 0
       ·clear hsn hno hwx hall
        have HR2 := Lib.hid hR2; clear hR2
        have HBZ := Lib.hid hbz; clear hbz
        go_upto_region 16 with fail
        go_quiet (fail)
        have hP := rfPost_of (m := 0) (HFR.out (by decide)) rfl (below_drewN HBZ.out nq)
        have HP := Lib.hid hP; clear hP
        go_wp2_with fail
        go_ret2
        exact HP.out
       ·have hx1 : (p.shapes.length : Int) ≤ x := by simp [withinB] at hwx; omega
        clear hsn hno hwx hall
        have HR2 := Lib.hid hR2; clear hR2
        have HBZ := Lib.hid hbz; clear hbz
        go_upto_region 16 with fail
        go_quiet (fail)
        have hP := rfPost_of (m := 0) (HFR.out (by decide)) rfl (below_drewN HBZ.out nq)
        have HP := Lib.hid hP; clear hP
        go_wp2_with fail
        go_ret2
        exact HP.out
      ·rw [hwx] at hsn
       have hx0 : ¬ x < 0 := by simp [withinB] at hwx; omega
       have hx1 : ¬ (p.shapes.length : Int) ≤ x := by simp [withinB] at hwx; omega
       clear hno hwx hall
       have HR2 := Lib.hid hR2; clear hR2
       have HSN := Lib.hid hsn; clear hsn
       go_upto_region 16 with fail
       go_quiet (fail)
       go_wp2_with fail
       go_roundw
       case rel => exact ⟨k + 1, by omega, by go_num, below_drewN HR2.out _, HSN.out⟩
       case measure => simp [intOf]; omega
     ·have hk' : k = fo.length := by omega
      subst hk'
      rw [List.take_length] at hall
      have hfe := HFE.out
      rw [if_neg (by rw [hall]; simp)] at hfe
      subst hfe
      have code2 := HCO.out (by first | rfl | trivial)
      clear hall HFE HCO HFR
      have CODE2 := Lib.hid code2; clear code2
      have HR2 := Lib.hid hR2; clear hR2
      go_wp2_with fail
      go_loopw [9] (fun i wr => ∃ k : Nat, k ≤ fc.length ∧ i = .int .i64 k ∧ Below X.heap.size X wr ∧ ∀ q, q < k → instrE p j q = 0) (fun i _ => fc.length - (intOf i).toNat)
      case atStart => exact ⟨0, Nat.zero_le _, rfl, HR2.out, fun q hq => absurd hq (by omega)⟩
      case round =>
       clear k0 k1 k2 t0 t1 t2 t3 t4
       obtain ⟨k, hk, rfl, hR3, hall⟩ := hrel
       obtain ⟨k0, k1, k2⟩ := HS.out wr (HTW.out wr hR3)
       obtain ⟨t0, t1, t2, t3, t4⟩ := HT.out wr hR3
       by_cases hlt : k < fc.length
       ·have ins := INS.out wr hR3 k
        have hhit := firstAt_hit (f := fun pc : Nat => instrE p j pc) (n := fc.length) (k := k) hlt hall
        have hsu : instrE p j k = 0 → ∀ q, q < k + 1 → instrE p j q = 0 := fun h q hq => by
         by_cases he : q = k
         ·subst he; exact h
         ·exact hall q (by omega)
        try dsimp only at hhit
        rw [← CODE2.out] at hhit
        generalize instrE p j k = ie at *
        clear hall
        have INS := Lib.hid ins; clear ins
        have HHIT := Lib.hid hhit; clear hhit
        have HSU := Lib.hid hsu; clear hsu
        have HR3 := Lib.hid hR3; clear hR3
        go_wp2_with fail
        refine INS.out.mono ?_
        rintro e w9 ⟨rfl, hb9⟩
        have hR9 := HR3.out.trans (hb9.mono HR3.out.size)
        by_cases hie : ie = 0
        ·subst hie
         have hsv := HSU.out (by first | rfl | trivial)
         clear hb9 HSU
         have HSV := Lib.hid hsv; clear hsv
         have HR9 := Lib.hid hR9; clear hR9
         go_wp2_with fail
         go_roundw
         case rel => exact ⟨k + 1, by omega, by go_num, HR9.out, HSV.out⟩
         case measure => simp [intOf]; omega
        ·have hie1 : (ie != 0) = true := by simpa using hie
         have hP := rfPost_of (HHIT.out hie) rfl (HBW.out w9 (HTW.out w9 hR9))
         clear hie hb9 hR9
         have HP := Lib.hid hP; clear hP
         go_wp2_with fail
         go_ret2
         exact HP.out
       ·have hk' : k = fc.length := by omega
        subst hk'
        have hzz := firstAt_none (f := fun pc : Nat => instrE p j pc) hall
        rw [← CODE2.out] at hzz
        have hP := rfPost_of (m := 0) hzz rfl (HBW.out wr (HTW.out wr hR3))
        clear hall hR3 hzz
        have HP := Lib.hid hP; clear hP
        go_wp2_with fail
        go_ret2
        exact HP.out
   ·have hr1 : (fr != 0) = true := by simpa using hr
    have fi := RF.out wr
    cases hfi : fieldB fr p.shapes.length
    ·rw [if_pos ⟨hr, hfi⟩] at hfe
     subst hfe
     rw [hfi] at fi
     clear hfi hr
     have FI := Lib.hid fi; clear fi
     have hP := rfPost_of (m := 0) (HFR.out (by decide)) rfl (HBW.out wr (HTW.out wr HR.out))
     have HP := Lib.hid hP; clear hP
     go_wp2_with fail
     refine FI.out.mono ?_
     rintro e w9 ⟨rfl, rfl⟩
     go_wp2_with fail
     go_ret2
     exact HP.out
    ·rw [if_neg (by rw [hfi]; simp)] at hfe
     rw [hfi] at fi
     clear hfi hr
     have HFE := Lib.hid hfe
     clear hfe
     have FI := Lib.hid fi; clear fi
     go_wp2_with fail
     refine FI.out.mono ?_
     rintro e w9 ⟨rfl, rfl⟩
     go_wp2_with fail
     go_loopw [8] (fun i wr => ∃ k : Nat, k ≤ fo.length ∧ i = .int .i64 k ∧ Below X.heap.size X wr ∧ (fo.take k).all (withinB · p.shapes.length) = true) (fun i _ => fo.length - (intOf i).toNat)
     case atStart => exact ⟨0, Nat.zero_le _, rfl, HR.out, rfl⟩
     case round =>
      clear k0 k1 k2 t0 t1 t2 t3 t4
      obtain ⟨k, hk, rfl, hR2, hall⟩ := hrel
      obtain ⟨k0, k1, k2⟩ := HS.out wr (HTW.out wr hR2)
      obtain ⟨t0, t1, t2, t3, t4⟩ := HT.out wr hR2
      by_cases hlt : k < fo.length
      ·obtain ⟨b', o', rfl, _, hx⟩ := HO.out wr hR2 k hlt
       have hsn := all_take hlt hall
       have hno := all_no (P := (withinB · p.shapes.length)) hlt
       try dsimp only at hsn hno
       generalize fo[k] = x at *
       cases hwx : withinB x p.shapes.length
       ·have hfe := HFE.out
        rw [if_pos (hno hwx)] at hfe
        subst hfe
        have hbz := HBW.out wr (HTW.out wr hR2)
        by_cases hx0 : x < 0
        ·clear hsn hno hwx hall
         have HR2 := Lib.hid hR2; clear hR2
         have HBZ := Lib.hid hbz; clear hbz
         go_upto_region 16 with fail
         go_quiet (fail)
         have hP := rfPost_of (m := 0) (HFR.out (by decide)) rfl (below_drewN HBZ.out nq)
         have HP := Lib.hid hP; clear hP
         go_wp2_with fail
         go_ret2
         exact HP.out
        ·have hx1 : (p.shapes.length : Int) ≤ x := by simp [withinB] at hwx; omega
         clear hsn hno hwx hall
         have HR2 := Lib.hid hR2; clear hR2
         have HBZ := Lib.hid hbz; clear hbz
         go_upto_region 16 with fail
         go_quiet (fail)
         have hP := rfPost_of (m := 0) (HFR.out (by decide)) rfl (below_drewN HBZ.out nq)
         have HP := Lib.hid hP; clear hP
         go_wp2_with fail
         go_ret2
         exact HP.out
       ·rw [hwx] at hsn
        have hx0 : ¬ x < 0 := by simp [withinB] at hwx; omega
        have hx1 : ¬ (p.shapes.length : Int) ≤ x := by simp [withinB] at hwx; omega
        clear hno hwx hall
        have HR2 := Lib.hid hR2; clear hR2
        have HSN := Lib.hid hsn; clear hsn
        go_upto_region 16 with fail
        go_quiet (fail)
        go_wp2_with fail
        go_roundw
        case rel => exact ⟨k + 1, by omega, by go_num, below_drewN HR2.out _, HSN.out⟩
        case measure => simp [intOf]; omega
      ·have hk' : k = fo.length := by omega
       subst hk'
       rw [List.take_length] at hall
       have hfe := HFE.out
       rw [if_neg (by rw [hall]; simp)] at hfe
       subst hfe
       have code2 := HCO.out (by first | rfl | trivial)
       clear hall HFE HCO HFR
       have CODE2 := Lib.hid code2; clear code2
       have HR2 := Lib.hid hR2; clear hR2
       go_wp2_with fail
       go_loopw [9] (fun i wr => ∃ k : Nat, k ≤ fc.length ∧ i = .int .i64 k ∧ Below X.heap.size X wr ∧ ∀ q, q < k → instrE p j q = 0) (fun i _ => fc.length - (intOf i).toNat)
       case atStart => exact ⟨0, Nat.zero_le _, rfl, HR2.out, fun q hq => absurd hq (by omega)⟩
       case round =>
        clear k0 k1 k2 t0 t1 t2 t3 t4
        obtain ⟨k, hk, rfl, hR3, hall⟩ := hrel
        obtain ⟨k0, k1, k2⟩ := HS.out wr (HTW.out wr hR3)
        obtain ⟨t0, t1, t2, t3, t4⟩ := HT.out wr hR3
        by_cases hlt : k < fc.length
        ·have ins := INS.out wr hR3 k
         have hhit := firstAt_hit (f := fun pc : Nat => instrE p j pc) (n := fc.length) (k := k) hlt hall
         have hsu : instrE p j k = 0 → ∀ q, q < k + 1 → instrE p j q = 0 := fun h q hq => by
          by_cases he : q = k
          ·subst he; exact h
          ·exact hall q (by omega)
         try dsimp only at hhit
         rw [← CODE2.out] at hhit
         generalize instrE p j k = ie at *
         clear hall
         have INS := Lib.hid ins; clear ins
         have HHIT := Lib.hid hhit; clear hhit
         have HSU := Lib.hid hsu; clear hsu
         have HR3 := Lib.hid hR3; clear hR3
         go_wp2_with fail
         refine INS.out.mono ?_
         rintro e w9 ⟨rfl, hb9⟩
         have hR9 := HR3.out.trans (hb9.mono HR3.out.size)
         by_cases hie : ie = 0
         ·subst hie
          have hsv := HSU.out (by first | rfl | trivial)
          clear hb9 HSU
          have HSV := Lib.hid hsv; clear hsv
          have HR9 := Lib.hid hR9; clear hR9
          go_wp2_with fail
          go_roundw
          case rel => exact ⟨k + 1, by omega, by go_num, HR9.out, HSV.out⟩
          case measure => simp [intOf]; omega
         ·have hie1 : (ie != 0) = true := by simpa using hie
          have hP := rfPost_of (HHIT.out hie) rfl (HBW.out w9 (HTW.out w9 hR9))
          clear hie hb9 hR9
          have HP := Lib.hid hP; clear hP
          go_wp2_with fail
          go_ret2
          exact HP.out
        ·have hk' : k = fc.length := by omega
         subst hk'
         have hzz := firstAt_none (f := fun pc : Nat => instrE p j pc) hall
         rw [← CODE2.out] at hzz
         have hP := rfPost_of (m := 0) hzz rfl (HBW.out wr (HTW.out wr hR3))
         clear hall hR3 hzz
         have HP := Lib.hid hP; clear hP
         go_wp2_with fail
         go_ret2
         exact HP.out
end Go.Proofs.YtjcjhfnjamphlaaGreat
