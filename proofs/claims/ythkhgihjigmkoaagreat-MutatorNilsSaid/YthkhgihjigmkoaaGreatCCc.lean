import Derived.Test.YthkhgihjigmkoaaGreatCAp
import Derived.Test.YthkhgihjigmkoaaGreatCBz
import Derived.Test.YthkhgihjigmkoaaGreatCCa
import Derived.Test.YthkhgihjigmkoaaGreatCCb
import Derived.Test.YthkhgihjigmkoaaGreatCAx
import Derived.Test.YthkhgihjigmkoaaGreatCBw
import Derived.Test.YthkhgihjigmkoaaGreatCAv
set_option linter.unusedVariables false
set_option linter.unusedSimpArgs false
namespace Go.Proofs.YthkhgihjigmkoaaGreat.Tk
open Go.ChangeShapes Go.WideShapes Go.ChangeAt Go.RowKit Go.Maps
set_option maxRecDepth 100000 in
set_option maxHeartbeats 1600000 in
theorem stPop_al (w : World) (B : Nat) (v : Value) (l : List Mark) (m : Mark) (h : Own markE w B v (l ++ [m])) (hl : l.length ≤ 9000) (B2 : Nat) (av : Value) (a : Alarm) (ha0 : a.run = 0) (ha : Own alarmE w B2 av [a]) :
  Calls Tryz.prog 120 #[.agg #[v, av]] w (StPost w l [a]) := by
 have hu : unwN [a] = true := by simp [unwN, ha0]
 obtain ⟨N, hN⟩ : ∃ N, l.length + 1 = N := ⟨_, rfl⟩
 have n0 : ((N : Int) == 0) = false := by rw [beq_eq_false_iff_ne]; omega
 have i1 : IntKind.i64.wrap ((N : Int) - 1) = (l.length : Int) := by rw [show ((N : Int) - 1) = (l.length : Int) from by omega]; exact IntWalk.i64_in _ (by omega)
 obtain ⟨a, n, c, rfl⟩ := h.slice
 obtain ⟨a', n', c', rfl⟩ := ha.slice
 have hb0 := (((Below.refl w.heap.size w).alloc (Nat.le_refl _) (.cells #[.slice a n c, .slice a' n' c'] 95)).alloc (by simp) (.cells #[.slice none 0 0, .slice none 0 0] 95))
 have hz0 : ((w.alloc (.cells #[.slice a n c, .slice a' n' c'] 95)).alloc (.cells #[.slice none 0 0, .slice none 0 0] 95)).heap.size = w.heap.size + 2 := by simp
 have hrow := heap_new (w.alloc (.cells #[.slice a n c, .slice a' n' c'] 95)) (.cells #[.slice none 0 0, .slice none 0 0] 95)
 rw [show (w.alloc (.cells #[.slice a n c, .slice a' n' c'] 95)).heap.size = w.heap.size + 1 from by simp] at hrow
 have hrow1 := row_alloc (heap_new w (.cells #[.slice a n c, .slice a' n' c'] 95)) (.cells #[.slice none 0 0, .slice none 0 0] 95)
 obtain ⟨W, hW⟩ : ∃ W, W = (w.alloc (.cells #[.slice a n c, .slice a' n' c'] 95)).alloc (.cells #[.slice none 0 0, .slice none 0 0] 95) := ⟨_, rfl⟩
 rw [← hW] at hb0 hz0 hrow hrow1
 have k0 : W.cell? ⟨w.heap.size, 0, none⟩ = some (.slice a n c) := (row_cell hrow1 0).1
 have k1 : W.cell? ⟨w.heap.size, 1, none⟩ = some (.slice a' n' c') := (row_cell hrow1 1).1
 have ow := own_any W B (.slice a n c) _ (h.below hb0) (by first | omega | (simp; done) | (simp; omega)) B2 (.slice a' n' c') _ (ha.below hb0) (by first | omega | (simp; done) | (simp; omega))
 have HW := Lib.hid hW
 have HROW := Lib.hid hrow
 have HROW1 := Lib.hid hrow1
 clear hW hrow hrow1 h ha
 have OW := Lib.hid ow; clear ow
 have HB0 := Lib.hid hb0; clear hb0
 have HZ0 := Lib.hid hz0; clear hz0
 go_enter Tryz.func120, Tryz.ntmps120
 go_upto_region 1 with fail
 rw [← HW.out]
 go_wp2_with fail
 refine OW.out.mono ?_
 rintro e w3 ⟨v3, u3, rfl, ho3, hu3, hb3⟩
 obtain ⟨a3, n3, c3, rfl⟩ := ho3.slice
 obtain ⟨a4, n4, c4, rfl⟩ := hu3.slice
 have hrow3 := (Fr.of_below hb3 (fun _ => False)).heap HROW1.out (fun h => h)
 have hrow4 := (Fr.of_below hb3 (fun _ => False)).heap HROW.out (fun h => h)
 have f0 : w3.frozen? ⟨w.heap.size, 0, none⟩ = false := (row_cell hrow3 0).2
 have f1 : w3.frozen? ⟨w.heap.size, 1, none⟩ = false := (row_cell hrow3 1).2
 have k0 : w3.cell? ⟨w.heap.size, 0, none⟩ = some (.slice a n c) := (row_cell hrow3 0).1
 have k1 : w3.cell? ⟨w.heap.size, 1, none⟩ = some (.slice a' n' c') := (row_cell hrow3 1).1
 have hs := SOwn.start hrow3 hrow4 ho3 hu3 (Nat.le_of_eq HZ0.out.symm) (Nat.le_of_eq HZ0.out.symm) (HB0.out.trans (hb3.mono HB0.out.size))
 clear hrow3 hrow4 ho3 hu3 hb3
 have HS := Lib.hid hs; clear hs
 go_upto_region 2 with fail
 obtain ⟨w4, hw4⟩ : ∃ w4, w4 = (w3.setCell ⟨w.heap.size, 0, none⟩ (.slice a3 n3 c3)).setCell ⟨w.heap.size, 1, none⟩ (.slice a4 n4 c4) := ⟨_, rfl⟩
 rw [← hw4] at HS ⊢
 clear hw4 f0 f1 k0 k1
 obtain ⟨k0, k1, f0, f1⟩ := HS.out.cells
 obtain ⟨g3, cc3, he3, hc3, _⟩ := own_pop HS.out.om
 injection he3 with e1 e2 e3
 subst e1 e2 e3
 rw [hN] at k0 HS hc3
 have un := fun wr (hw : Below w4.heap.size w4 wr) => unwinds_any wr (some ⟨g3, 0, none⟩) N c3 _ (.slice a4 n4 c4) _ (HS.out.oa.below hw) (by simp)
 have hr4 := Below.refl w4.heap.size w4
 simp only [hu] at un
 have UN := Lib.hid un; clear un
 have HR4 := Lib.hid hr4; clear hr4
 go_wp2_with fail
 refine (UN.out _ HR4.out).mono ?_
 rintro e w5 ⟨rfl, hb5⟩
 have hs5 := HS.out.below hb5
 clear hb5 k0 k1 f0 f1 HS
 obtain ⟨k0, k1, f0, f1⟩ := hs5.cells
 obtain ⟨_, _, he, _, ho6⟩ := own_pop hs5.om
 injection he with e1 e2 e3
 injection e1 with e1
 injection e1 with e1
 subst e1 e3
 clear e2
 have hs6 := hs5.set0 ho6
 clear ho6 hs5
 have HS := Lib.hid hs6
 clear hs6
 dsimp only
 go_upto_region 7 with fail
 obtain ⟨w6, hw6⟩ : ∃ w6, w6 = w5.setCell ⟨w.heap.size, 0, none⟩ (.slice (some ⟨g3, 0, none⟩) l.length c3) := ⟨_, rfl⟩
 rw [← hw6] at HS ⊢
 clear hw6 k0 f0 k1 f1
 obtain ⟨k0, k1, f0, f1⟩ := HS.out.cells
 obtain rfl : n4 = 1 := by
  obtain ⟨_, _, he, _⟩ := own_elems HS.out.oa
  injection he
 have en := fun wr => aborted_one wr (some ⟨g3, 0, none⟩) l.length c3 a4 c4 N
 have EN := Lib.hid en; clear en
 go_wp2_with fail
 refine (EN.out _).mono ?_
 rintro e w7 ⟨rfl, hb7⟩
 have hs7 := HS.out.below hb7
 clear k0 k1 f0 f1 HS hb7
 have HS := Lib.hid hs7
 clear hs7
 obtain ⟨k0, k1, f0, f1⟩ := HS.out.cells
 obtain ⟨q0, q1, g0, g1⟩ := HS.out.rcells
 have hd := HS.out.done
 have HP := Lib.hid (show StPost w _ _ (.returned (.agg #[_, _])) _ from ⟨_, _, rfl, hd.2⟩)
 have HR := Lib.hid hd.1
 clear hd
 go_wp2_with (with_reducible refine bodyPost_ret ?_ rfl HP.out; have j0 := (row_cell HR.out 0).1; have j1 := (row_cell HR.out 1).1; simp at j0 j1; simp [results, Tryz.results120, go_sem, j0, j1])
end Go.Proofs.YthkhgihjigmkoaaGreat.Tk
namespace Go.Proofs.YthkhgihjigmkoaaGreat.Tk
open Go.ChangeShapes Go.WideShapes Go.ChangeAt Go.RowKit Go.Maps
def insN (st : Bool) : Ins := if st then ⟨15, 0, 0, 1⟩ else ⟨14, 1, 0, 0⟩
def codeN (st : Bool) : List Ins := [⟨11, 0, 0, 0⟩, ⟨1, 1, 5, 0⟩, insN st]
def tN (_ : Nat) : List (Option (List Int)) := [some [0, 0], some [16, 0], some [16, 1], some [16, 1]]
theorem nil_tab (st : Bool) : TabOk (pS (2 : Nat) (codeN st)) tN ∧ (progS (pS (2 : Nat) (codeN st))).1 = 0 := by
 have h : (solB (pS (2 : Nat) (codeN st)) (fnAt (pS (2 : Nat) (codeN st)) 0) (tN 0) = true ∧ treeB (pS (2 : Nat) (codeN st)) (fnAt (pS (2 : Nat) (codeN st)) 0) (tN 0) [0, 0, 1, 2] = true) ∧ (flowE (pS (2 : Nat) (codeN st)) (fnAt (pS (2 : Nat) (codeN st)) 0) (tblF (tN 0))).1 = 0 ∧ (progS (pS (2 : Nat) (codeN st))).1 = 0 := by
  cases st <;> exact ⟨⟨by kernel_rfl, by kernel_rfl⟩, by kernel_rfl, by kernel_rfl⟩
 refine ⟨fun i hi => ?_, h.2.2⟩
 obtain rfl : i = 0 := by have : i < 1 := hi; omega
 refine ⟨isFlow_tbl (par := [0, 0, 1, 2]) (fun j hj => ?_) h.1.1 h.1.2, h.2.1⟩
 have hj : j ∈ codeN st ++ [(⟨27, 0, 0, 0⟩ : Ins)] := hj
 simp [codeN] at hj
 rcases hj with rfl | rfl | rfl | rfl
 ·exact insOk_of _ _ _ _ _ (by decide)
 ·exact insOk_of _ _ _ _ _ (by decide)
 ·cases st <;> exact insOk_of _ _ _ _ _ (by decide)
 ·exact insOk_of _ _ _ _ _ (by decide)
theorem nil_B (st : Bool) : PrgB (pS (2 : Nat) (codeN st)) ∧ PrgR (pS (2 : Nat) (codeN st)) := by
 unfold PrgB PrgR FunB Ins.wf i64B pS codeN insN
 cases st <;> simp
def alN : Alarm := ⟨-1, 0, 0, false, false⟩
def wN : List Int := ((List.replicate 64 0).set 2 0).set 3 5
theorem wN_len : wN.length = 64 := by simp [wN]
def S0 (ws : List Int) : Tk := ⟨1073741824, ws, [], []⟩
section
variable {w : World} {F : Nat → Prop} {tb : Nat} {X : TB}
theorem stepN_0 (h : TaskAt w F tb (qS (2 : Nat)) (SF 0 (List.replicate 64 0)) X) (hA : X.al = []) (D : Nat → Prop) (hD : ∀ k, D k → ¬ F k ∧ k < w.heap.size) (st : Bool) (c0 c1 c2 : Value) (ma : Option Addr) (hv : PrgVal w D (pS (2 : Nat) (codeN st)) c0 c1 c2) :
  Calls Tryz.prog 30 #[.agg #[c0, c1, c2], .pointer ma, .pointer (some ⟨tb, 0, none⟩)] w (RunPost w F tb (qS (2 : Nat)) X (SF 1 ((List.replicate 64 0).set 2 0)) (actV 0 0 0 0 0 false (.slice none 0 0))) :=
 stepS (pc := 0) h hA D hD (codeN st) c0 c1 c2 ma hv ⟨11, 0, 0, 0⟩ (by cases st <;> rfl) _ 0 0 0 0 0 false none 0 0 (fun wr hw =>
  run_setNil wr F tb (qS (2 : Nat)) (SF 0 (List.replicate 64 0)) X (h.below hw) (SF_ok 0 _ (by simp)) [] ⟨0, 0, 0, -1, none, 0, 0⟩ rfl ⟨by decide, by decide⟩ 0 (by show 0 < 1; decide) rfl 0 rfl 0 (by show (0 : Int) < ((2 : Nat) : Int); decide) (by omega) (by show 0 + (2 + 0) < (List.replicate 64 (0 : Int)).length; simp) c0 c1 c2 (.pointer ma) 0 0)
theorem stepN_1 (h : TaskAt w F tb (qS (2 : Nat)) (SF 1 ((List.replicate 64 0).set 2 0)) X) (hA : X.al = []) (D : Nat → Prop) (hD : ∀ k, D k → ¬ F k ∧ k < w.heap.size) (st : Bool) (c0 c1 c2 : Value) (ma : Option Addr) (hv : PrgVal w D (pS (2 : Nat) (codeN st)) c0 c1 c2) :
  Calls Tryz.prog 30 #[.agg #[c0, c1, c2], .pointer ma, .pointer (some ⟨tb, 0, none⟩)] w (RunPost w F tb (qS (2 : Nat)) X (SF 2 wN) (actV 0 0 0 0 0 false (.slice none 0 0))) :=
 stepS (pc := 1) h hA D hD (codeN st) c0 c1 c2 ma hv ⟨1, 1, 5, 0⟩ (by cases st <;> rfl) _ 0 0 0 0 0 false none 0 0 (fun wr hw => by
  have := runSetS (pc := 1) (h.below hw) (by simp) (by omega) (by omega) 1 (by omega) c0 c1 c2 (.pointer ma) 5 0
  rw [show wrap32 5 = 5 from by decide +kernel] at this
  exact this)
theorem stepN_2 (h : TaskAt w F tb (qS (2 : Nat)) (SF 2 wN) X) (hA : X.al = []) (D : Nat → Prop) (hD : ∀ k, D k → ¬ F k ∧ k < w.heap.size) (st : Bool) (c0 c1 c2 : Value) (ma : Option Addr) (hv : PrgVal w D (pS (2 : Nat) (codeN st)) c0 c1 c2) :
  Calls Tryz.prog 30 #[.agg #[c0, c1, c2], .pointer ma, .pointer (some ⟨tb, 0, none⟩)] w (RunPostG w F tb (qS (2 : Nat)) X (SF 2 wN) [alN] X.kf (actV 0 0 0 0 0 false (.slice none 0 0))) := by
 have hok := SF_ok 2 wN wN_len
 have hin : 0 + (2 + 0) < (SF 2 wN).words.length := by show 2 < wN.length; rw [wN_len]; omega
 have hx : (SF 2 wN).words[0 + (2 + 0)]? = some 0 := rfl
 refine step_runX w F tb (qS (2 : Nat)) (SF 2 wN) X h (by show 1 ≤ 1000; decide) (by rw [hA]; rfl) (by show 1 ≤ 10000; decide) (by rw [hA]; exact Nat.zero_le _) [] ⟨0, 2, 0, -1, none, 0, 0⟩ rfl D hD (pS (2 : Nat) (codeN st)) c0 c1 c2 ma hv 0 (by show 0 < 1; decide) rfl 2 rfl (by show 2 < (codeN st ++ [(⟨27, 0, 0, 0⟩ : Ins)]).length; cases st <;> decide) (insN st) (by cases st <;> rfl) X rfl _ _ _ 0 0 0 0 0 false none 0 0 (fun wr hb => ?_)
 cases st
 ·refine run_X14 wr F tb (qS (2 : Nat)) (SF 2 wN) X (h.below hb) _ _ _ _ 1 0 0 X rfl _ _ _ 0 0 0 0 0 false none 0 0 (fun wq hq => ?_)
  have hbq := hb.trans (hq.mono hb.size)
  have := asks_loadN wq F tb (qS (2 : Nat)) (SF 2 wN) X (h.below hbq) hok (by show 1 ≤ 10000; decide) (by rw [hA]; exact Nat.zero_le _) [] ⟨0, 2, 0, -1, none, 0, 0⟩ rfl 0 (by show 0 < 1; decide) rfl 0 rfl 1 0 0 (by show (0 : Int) < ((2 : Nat) : Int); decide) (by omega) hin hx c0 c1 c2 (.pointer ma)
  rw [hA] at this
  exact this
 ·refine run_X15 wr F tb (qS (2 : Nat)) (SF 2 wN) X (h.below hb) _ _ _ _ 0 0 1 X rfl _ _ _ 0 0 0 0 0 false none 0 0 (fun wq hq => ?_)
  have hbq := hb.trans (hq.mono hb.size)
  have := asks_storeN wq F tb (qS (2 : Nat)) (SF 2 wN) X (h.below hbq) hok (by show 1 ≤ 10000; decide) (by rw [hA]; exact Nat.zero_le _) [] ⟨0, 2, 0, -1, none, 0, 0⟩ rfl 0 (by show 0 < 1; decide) rfl 0 rfl 0 0 1 (by show (0 : Int) < ((2 : Nat) : Int); decide) (by omega) hin hx c0 c1 c2 (.pointer ma)
  rw [hA] at this
  exact this
theorem S0_ok : TkOk (S0 wN) := ⟨by show 0 ≤ 1000; decide, by show 0 ≤ 1000; decide, by show wN.length ≤ 100000; rw [wN_len]; omega, fun q hq => by cases hq⟩
theorem fitsN : Fits (qS (2 : Nat)) (SF 2 wN) (fun _ => 2) := ⟨rfl, fun d hd => by
 have : d < 1 := hd
 obtain rfl : d = 0 := by omega
 exact ⟨0, by show 0 < 1; decide, rfl, rfl, 0, rfl, by show 0 + wordsN (qS (2 : Nat)) 0 ≤ wN.length; rw [qS_words, wN_len]; omega⟩⟩
theorem lifeN1 (h : TaskAt w F tb (qS (2 : Nat)) (SF 2 wN) X) (hA : X.al = [alN]) :
  Calls Tryz.prog 21 #[.pointer (some ⟨tb, 0, none⟩)] w (LifePost w [alN] (fun _ _ => True)) := by
 refine (lifeAll_any w F tb (qS (2 : Nat)) (SF 2 wN) X h (qS_small 2 (by omega)) (SF_ok 2 wN wN_len) _ fitsN (fun q hq => ?_) (by rw [hA]; decide)).mono ?_
 ·have h1 : q ∈ ([⟨0, 2, 0, -1, none, 0, 0⟩] : List Part) := hq
  simp at h1
  rw [h1]
 ·rintro e w' ⟨fr, v, av, g1, g2, g3, rfl, ha, _, hv, _, _, _, hb⟩
  obtain ⟨a3, n3, c3, rfl⟩ := hv.slice
  obtain ⟨a5, n5, c5, rfl⟩ := ha.slice
  rw [hA] at ha
  exact ⟨_, _, _, _, _, _, _, _, _, _, _, rfl, ha, trivial, hb⟩
theorem lifeN0 (h : TaskAt w F tb (qS (2 : Nat)) (S0 wN) X) (hA : X.al = [alN]) (lv : Bool) :
  Calls Tryz.prog 21 #[.pointer (some ⟨tb, 0, none⟩)] w (LifePost w [alN] (FrP 0 lv)) := by
 refine (lifeAll_any w F tb (qS (2 : Nat)) (S0 wN) X h (qS_small 2 (by omega)) S0_ok (fun _ => 2) ⟨rfl, fun d hd => absurd hd (Nat.not_lt_zero _)⟩ (fun q hq => by cases hq) (by rw [hA]; decide)).mono ?_
 rintro e w' ⟨fr, v, av, g1, g2, g3, rfl, ha, _, hv, hfl, _, _, hb⟩
 have hfl : fr.length = 0 := hfl
 obtain ⟨a3, c3, rfl, _⟩ := own_elems hv
 obtain ⟨a5, n5, c5, rfl⟩ := ha.slice
 rw [hA] at ha
 exact ⟨_, _, _, _, _, _, _, _, _, _, _, rfl, ha, ⟨a3, c3, by rw [hfl], fun k hk => by omega⟩, hb⟩
theorem stepN_3 (h : TaskAt w F tb (qS (2 : Nat)) (SF 2 wN) X) (hA : X.al = [alN]) (hkf : X.kf = fun _ => none) (D : Nat → Prop) (hD : ∀ k, D k → ¬ F k ∧ k < w.heap.size) (st : Bool) (c0 c1 c2 : Value) (ma : Option Addr) (hv : PrgVal w D (pS (2 : Nat) (codeN st)) c0 c1 c2) :
  Calls Tryz.prog 30 #[.agg #[c0, c1, c2], .pointer ma, .pointer (some ⟨tb, 0, none⟩)] w (RunPostG w F tb (qS (2 : Nat)) X (S0 wN) [alN] (delK X.kf 0) (actV 0 0 0 0 0 false (.slice none 0 0))) := by
 obtain ⟨⟨a0, m0, rfl, _⟩, ⟨a1, m1, rfl, _⟩, a2, m2, rfl, hf⟩ := hv
 obtain ⟨bb, o, rfl, hbb, _, _, _, _, _, _, r1, _, _, _, f1, _⟩ := hf 0 (by show 0 < 1; decide)
 rw [f1] at r1
 have hok := SF_ok 2 wN wN_len
 have hI : i64B ((0 : Nat) : Int) ∧ i64B 0 := by constructor <;> unfold i64B <;> omega
 refine step_popG w F tb (qS (2 : Nat)) (SF 2 wN) X h (by rw [hA]; rfl) (by show 1 ≤ 10000; decide) (by rw [hA]; decide) _ _ _ _ _ _ _ _ _ ma _ _ _ 0 0 0 0 0 false none 0 0 (fun wr hb => ?_)
 have hT := h.below hb
 have := pop_gen wr F tb (qS (2 : Nat)) X hT.flt (.slice a0 (pS (2 : Nat) (codeN st)).globals.length m0) (.slice a1 (pS (2 : Nat) (codeN st)).shapes.length m1) 0 bb o (pS (2 : Nat) (codeN st)).funcs.length m2 (by show 0 < 1; decide) 0 (fun wx hx => below_cell (hb.trans (hx.mono hb.size)) r1) ⟨a0, (pS (2 : Nat) (codeN st)).globals.length, m0, a1, (pS (2 : Nat) (codeN st)).shapes.length, m1, rfl, rfl⟩ 0 false
  (fun wx hx => tkValue_any wx F tb (qS (2 : Nat)) (SF 2 wN) X (hT.below hx) (by show 1 ≤ 1000; decide) 0 rfl hI 0 false (.inr ⟨by rw [hkf], rfl, rfl⟩))
  (fun wx hx => (fn_some wx F tb (qS (2 : Nat)) (SF 2 wN) X (hT.below hx) (by show 1 ≤ 1000; decide) 0 rfl).mono (fun e w' he => (show e = .returned (.int .i64 (0 : Nat)) ∧ Below wx.heap.size wx w' from ⟨he.1, by obtain ⟨m, hm⟩ := he.2; rw [hm]; exact below_drewN (Below.refl _ _) m⟩)))
  [alN] (by decide) (fun e => absurd rfl e) false (by decide)
  false (fun wx hx => tkDeferred_any wx F tb (qS (2 : Nat)) (SF 2 wN) X (hT.below hx) (by show 1 ≤ 1000; decide) [] ⟨false, false, 0⟩ rfl rfl)
  (S0 wN) [alN] (by decide) (delK X.kf 0)
  (fun wx hx => pop_any wx F tb (qS (2 : Nat)) (SF 2 wN) X (hT.below hx) hok [] ⟨0, 2, 0, -1, none, 0, 0⟩ rfl [] ⟨false, false, 0⟩ rfl 0 false (S0 wN) [] [alN] (fun wy mv av h1 h2 => by rw [hA] at h2; exact stPop_al wy 0 mv _ _ h1 (by show 0 ≤ 9000; decide) 0 av alN rfl h2) (fun _ => rfl) (fun e => absurd e (by decide)))
  0 false (fun wx F1 X1 hT1 hA1 => lifeN0 hT1 hA1 false) (by decide) 0 (by decide) (fun e => absurd e (by decide)) (S0 wN) (fun e => absurd e (by decide)) (fun k hk => (hT.out k hk).2)
 exact this
theorem stepN_4 (h : TaskAt w F tb (qS (2 : Nat)) (S0 wN) X) (hA : X.al = [alN]) (D : Nat → Prop) (st : Bool) (c0 c1 c2 : Value) (ma : Option Addr) (hv : PrgVal w D (pS (2 : Nat) (codeN st)) c0 c1 c2) :
  Calls Tryz.prog 30 #[.agg #[c0, c1, c2], .pointer ma, .pointer (some ⟨tb, 0, none⟩)] w (RunPostG w F tb (qS (2 : Nat)) X (S0 wN) X.al X.kf (actV 11 0 0 (-1) 0 false (.slice none 0 0))) := by
 obtain ⟨⟨a0, m0, rfl, _⟩, ⟨a1, m1, rfl, _⟩, a2, m2, rfl, hf⟩ := hv
 exact step_fatal w F tb (qS (2 : Nat)) (S0 wN) X h (by rw [hA]; rfl) (by show 0 ≤ 10000; decide) (by rw [hA]; decide) _ _ _ _ _ _ _ _ _ ma [] alN (by decide) (fun wx hx => (lifeN0 (h.below hx) hA false).mono (fun e w' he => by
  obtain ⟨s1, s2, a3, n3, c3, a4, n4, c4, a5, n5, c5, rfl, ha, _, hb⟩ := he
  exact ⟨s1, s2, a3, n3, c3, a4, n4, c4, a5, n5, c5, rfl, ha, trivial, hb⟩))
theorem depN1 (h : TaskAt w F tb (qS (2 : Nat)) (S0 wN) X) : Calls Tryz.prog 34 #[.pointer (some ⟨tb, 0, none⟩)] w fun e w' => e = .returned (.int .i64 0) ∧ w = w' :=
 depth_any w F tb (qS (2 : Nat)) _ X h
end
theorem give_none (w : World) (tb : Nat) (a0 a1 a2 : Option Addr) (n0 m0 n1 m1 n2 m2 : Nat) (v : Int) (DEP : ∀ wx, Below w.heap.size w wx → Calls Tryz.prog 34 #[.pointer (some ⟨tb, 0, none⟩)] wx fun e w' => e = .returned (.int .i64 0) ∧ wx = w') :
  Calls Tryz.prog 35 #[.agg #[.slice a0 n0 m0, .slice a1 n1 m1, .slice a2 n2 m2], .pointer (some ⟨tb, 0, none⟩), .int .i64 v] w fun e w' => e = .returned (.bool false) ∧ Below w.heap.size w w' := by
 have hb0 := ((Below.refl w.heap.size w).alloc (Nat.le_refl _) (.cells #[.slice a0 n0 m0, .slice a1 n1 m1, .slice a2 n2 m2] 27))
 have dp := DEP _ hb0
 clear DEP
 have HB0 := Lib.hid hb0; clear hb0
 have DP := Lib.hid dp; clear dp
 go_enter Tryz.func35, Tryz.ntmps35
 go_wp2_with fail
 refine DP.out.mono ?_
 rintro e w1 ⟨rfl, rfl⟩
 go_wp2_with fail
 go_ret
 exact ⟨rfl, HB0.out⟩
end Go.Proofs.YthkhgihjigmkoaaGreat.Tk
