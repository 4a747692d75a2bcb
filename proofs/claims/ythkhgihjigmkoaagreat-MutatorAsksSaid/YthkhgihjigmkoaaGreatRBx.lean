import Derived.Test.YthkhgihjigmkoaaGreatRBw
import Derived.Deep.Light
set_option linter.unusedVariables false
set_option linter.unusedSimpArgs false
namespace Go.Proofs.YthkhgihjigmkoaaGreat.Tk
open Go.ChangeShapes Go.WideShapes Go.ChangeAt Go.RowKit Go.Maps
theorem askStepA {w : World} {F : Nat → Prop} {tb : Nat} {X : TB} {k : Nat} (h : TaskAt w F tb (qS (3 : Nat)) (SF (0 : Nat) (List.replicate 64 0)) X) (D : Nat → Prop) (hD : ∀ k, D k → ¬ F k ∧ k < w.heap.size) (c0 c1 c2 : Value) (ma : Option Addr) (hv : PrgVal w D (pS (3 : Nat) (codeK k)) c0 c1 c2) :
  Calls Tryz.prog 30 #[.agg #[c0, c1, c2], .pointer ma, .pointer (some ⟨tb, 0, none⟩)] w (RunPost w F tb (qS (3 : Nat)) X (SF (1 : Nat) aW1) (actV 0 0 0 0 0 false (.slice none 0 0))) := by
 refine stepS h D hD (codeK k) c0 c1 c2 ma hv ⟨1, 0, 3, 0⟩ rfl _ 0 0 0 0 0 false none 0 0 (fun wr hw => ?_)
 have := runSetS (h.below hw) (List.length_replicate ..) (by omega) (by omega) 0 (by omega) c0 c1 c2 (.pointer ma) 3 0
 rw [show wrap32 3 = 3 from by decide +kernel] at this
 exact this
theorem askStepB {w : World} {F : Nat → Prop} {tb : Nat} {X : TB} {k : Nat} (h : TaskAt w F tb (qS (3 : Nat)) (SF (1 : Nat) aW1) X) (D : Nat → Prop) (hD : ∀ k, D k → ¬ F k ∧ k < w.heap.size) (c0 c1 c2 : Value) (ma : Option Addr) (hv : PrgVal w D (pS (3 : Nat) (codeK k)) c0 c1 c2) :
  Calls Tryz.prog 30 #[.agg #[c0, c1, c2], .pointer ma, .pointer (some ⟨tb, 0, none⟩)] w (RunPost w F tb (qS (3 : Nat)) X (SF (1 : Nat) aW1) (actV 5 0 0 0 0 false (.slice none 0 0))) :=
 stepS h D hD (codeK k) c0 c1 c2 ma hv ⟨13, 1, 0, 0⟩ rfl _ 5 0 0 0 0 false none 0 0 (fun wr hw => run_13 wr F tb (qS (3 : Nat)) (SF (1 : Nat) aW1) X (h.below hw) c0 c1 c2 (.pointer ma) 1 0 0 _ 5 0 0 0 0 false none 0 0 (fun wx hx => asks_new wx F tb (qS (3 : Nat)) (SF (1 : Nat) aW1) X ((h.below hw).below hx) c0 c1 c2 _ 1 0 0))
end Go.Proofs.YthkhgihjigmkoaaGreat.Tk
namespace Go.Proofs.YthkhgihjigmkoaaGreat.mutatorAsks
open Go.ChangeShapes Go.WideShapes Go.ChangeAt Go.RowKit Go.Maps Tk
theorem slot_five (slot : Int) : ∃ s : Nat, s < 5 ∧ (wrap64 (slot.tmod 5 + 5)).tmod 5 = (s : Int) := by
 have h1 := Int.lt_tmod_of_pos slot (show (0 : Int) < 5 by decide)
 have h2 := Int.tmod_lt_of_pos slot (show (0 : Int) < 5 by decide)
 generalize slot.tmod 5 = r at *
 have h3 : wrap64 (r + 5) = r + 5 := IntWalk.wrap64_in _ (by omega)
 rw [h3, Int.tmod_eq_emod_of_nonneg (by omega)]
 exact ⟨((r + 5) % 5).toNat, by omega, by omega⟩
set_option maxRecDepth 100000 in
set_option maxHeartbeats 12800000 in
theorem walk0 (w : World) (kind v : Int) (tm : Nat) (hdm : (wrap64 (kind.tmod 5 + 5)).tmod 5 = 0) (h1 : 1 ≤ tm) (h20 : tm ≤ 20) :
  Calls Tryz.prog 7 #[.int .i64 kind, .int .i64 v, .int .i64 tm] w fun e w' => e = .returned (.bool true) ∧ Below w.heap.size w w' := by
 have al := alive23
 have c1 : ¬ (tm : Int) < 1 := by omega
 have c2 : ¬ (20 : Int) < (tm : Int) := by omega
 have hsB := ask_B 0 (by decide)
 have hst' := ask_tab 0 (by decide)
 have AL := Lib.hid al; clear al
 have HSB := Lib.hid hsB; clear hsB
 have HST' := Lib.hid hst'; clear hst'
 go_enter Tryz.func7, Tryz.ntmps7
 go_wp2_with fail
 refine (AL.out _).mono ?_
 rintro e w1 ⟨rfl, hb1⟩
 have hb1 := belowAl (belowAl (belowAl hb1 (Nat.le_refl _) (.cells #[.int .i64 13, .int .i64 2, .int .i64 0, .int .i64 0, .int .i64 16, .int .i64 0, .int .i64 0, .int .i64 0, .int .i64 17, .int .i64 1, .int .i64 1, .int .i64 0, .int .i64 14, .int .i64 0, .int .i64 1, .int .i64 0, .int .i64 15, .int .i64 1, .int .i64 1, .int .i64 1] 59)) (Nat.le_refl _) (.cells #[.int .i64 13, .int .i64 2, .int .i64 0, .int .i64 0] 59)) (Nat.le_refl _) (.cells #[.int .i64 1, .int .i64 0, .int .i64 3, .int .i64 0, .int .i64 13, .int .i64 1, .int .i64 0, .int .i64 0, .int .i64 13, .int .i64 2, .int .i64 0, .int .i64 0] 59)
 have hcd : CellsAt (((w1.alloc (.cells #[.int .i64 13, .int .i64 2, .int .i64 0, .int .i64 0, .int .i64 16, .int .i64 0, .int .i64 0, .int .i64 0, .int .i64 17, .int .i64 1, .int .i64 1, .int .i64 0, .int .i64 14, .int .i64 0, .int .i64 1, .int .i64 0, .int .i64 15, .int .i64 1, .int .i64 1, .int .i64 1] 59)).alloc (.cells #[.int .i64 13, .int .i64 2, .int .i64 0, .int .i64 0] 59)).alloc (.cells #[.int .i64 1, .int .i64 0, .int .i64 3, .int .i64 0, .int .i64 13, .int .i64 1, .int .i64 0, .int .i64 0, .int .i64 13, .int .i64 2, .int .i64 0, .int .i64 0] 59)) (w1.heap.size + 1 + 1) 0 ((codeK 0).flatMap insE.enc) := by have h := CellsAt.new ((w1.alloc (.cells #[.int .i64 13, .int .i64 2, .int .i64 0, .int .i64 0, .int .i64 16, .int .i64 0, .int .i64 0, .int .i64 0, .int .i64 17, .int .i64 1, .int .i64 1, .int .i64 0, .int .i64 14, .int .i64 0, .int .i64 1, .int .i64 0, .int .i64 15, .int .i64 1, .int .i64 1, .int .i64 1] 59)).alloc (.cells #[.int .i64 13, .int .i64 2, .int .i64 0, .int .i64 0] 59)) #[.int .i64 1, .int .i64 0, .int .i64 3, .int .i64 0, .int .i64 13, .int .i64 1, .int .i64 0, .int .i64 0, .int .i64 13, .int .i64 2, .int .i64 0, .int .i64 0] 59 (0, 0); rw [show ((w1.alloc (.cells #[.int .i64 13, .int .i64 2, .int .i64 0, .int .i64 0, .int .i64 16, .int .i64 0, .int .i64 0, .int .i64 0, .int .i64 17, .int .i64 1, .int .i64 1, .int .i64 0, .int .i64 14, .int .i64 0, .int .i64 1, .int .i64 0, .int .i64 15, .int .i64 1, .int .i64 1, .int .i64 1] 59)).alloc (.cells #[.int .i64 13, .int .i64 2, .int .i64 0, .int .i64 0] 59)).heap.size = w1.heap.size + 1 + 1 from by simp] at h; exact h
 have sg := singleS _ 3 (codeK 0) (w1.heap.size + 1 + 1) 0 3 hcd (by show 3 ≤ 1000; decide)
 have HB2 := Lib.hid hb1
 clear hcd hb1
 have SG := Lib.hid sg; clear sg
 go_wp2_with fail
 refine SG.out.mono ?_
 rintro e w4 ⟨a0, n0, m0, a1, m1, a2, m2, D, rfl, hD4, hpv, hpg, hb4⟩
 have hb4 := HB2.out.trans (hb4.mono HB2.out.size)
 obtain ⟨W, hW⟩ : ∃ W, W = w4.alloc (.cells #[.slice a0 n0 m0, .slice a1 1 m1, .slice a2 1 m2] 27) := ⟨_, rfl⟩
 obtain ⟨hC, hD, hba, bg⟩ := boxS hpv hpg hD4 (by omega) HSB.out HST'.out W hW
 obtain ⟨pb, hpb⟩ : ∃ pb, pb = w4.heap.size := ⟨_, rfl⟩
 rw [← hpb] at hC
 have hW0 := hb4.trans (hba.mono hb4.size)
 obtain ⟨k0, k1, k2, _⟩ := hC W (Below.refl _ _)
 have HW := Lib.hid hW
 have HPB := Lib.hid hpb
 clear hW hpb hba hb4 hpv hpg hD4 HSB HST' SG
 have BG := Lib.hid bg; clear bg
 have HC := Lib.hid hC; clear hC
 have HD := Lib.hid hD; clear hD
 have HW0 := Lib.hid hW0; clear hW0
 go_upto_region 6 with fail
 rw [← HW.out, ← HPB.out]
 go_wp2_with fail
 refine BG.out.mono ?_
 rintro e w6 ⟨mb, tb, F, X, rfl, hT, hF, hMaps, hb6⟩
 clear k0 k1 k2
 have HT := Lib.hid hT; clear hT
 have HF := Lib.hid hF; clear hF
 have HB6 := Lib.hid hb6; clear hb6
 have HMAPS := Lib.hid hMaps; clear hMaps
 obtain ⟨wm, Bm, bm, nm, Vm, Ms, hMs, hmp, hNF, _, hbm⟩ := HMAPS.out
 have hp := fun wr (hw : Below wm.heap.size wm wr) => ptsK 0 hMs (hmp.below hw)
 have hX0 := fun k (hk : X.D k) => (HT.out.out k hk).2
 have HT1 := HT
 have HF1 := HF
 have HB1 := HB6
 have HN1 := Lib.hid hNF
 have HM1 := Lib.hid hbm
 have HX1 := Lib.hid hX0
 clear HT HF HB6 hMs hmp hNF hbm hX0 HMAPS
 have HP := Lib.hid hp; clear hp
 obtain ⟨q0, q1, q2, hg⟩ := HC.out w6 HB1.out
 have st := askStepA HT1.out D (fun k hk => ⟨fun h => by have := HD.out k hk; have := HF1.out k h; omega, by have := HD.out k hk; have := HB1.out.size; omega⟩) _ _ _ (some ⟨mb, 0, none⟩) hg
 clear hg HT1
 have ST := Lib.hid st; clear st
 go_wp2_with fail
 refine ST.out.mono ?_
 rintro e w7 ⟨rfl, F2, X2, hT2, hXD, hF2, hf2⟩
 unfold actV
 have hb7 := HB1.out.trans (hf2.below HB1.out.size (fun q hq => HF1.out q hq))
 have hF3 : ∀ q, F2 q → W.heap.size ≤ q := fun q hq => (hF2 q hq).elim (HF1.out q) (fun h => by have := HB1.out.size; omega)
 have hm7 := HM1.out.trans (hf2.below HM1.out.size (fun q hq => HN1.out q hq))
 have hN3 : ∀ q, F2 q → wm.heap.size ≤ q := fun q hq => (hF2 q hq).elim (HN1.out q) (fun h => by have := HM1.out.size; omega)
 have hX3 : ∀ k, X2.D k → k < w7.heap.size := fun k hk => (hT2.out k hk).2
 clear q0 q1 q2 hF2 hf2 ST HF1 HB1 HM1 HN1 HX1 hXD
 have HT1 := Lib.hid hT2
 have HF1 := Lib.hid hF3
 have HB1 := Lib.hid hb7
 have HN1 := Lib.hid hN3
 have HM1 := Lib.hid hm7
 have HX1 := Lib.hid hX3
 clear hT2 hF3 hb7 hN3 hm7 hX3
 obtain ⟨q0, q1, q2, hg⟩ := HC.out w7 HB1.out
 have st := askStepB HT1.out D (fun k hk => ⟨fun h => by have := HD.out k hk; have := HF1.out k h; omega, by have := HD.out k hk; have := HB1.out.size; omega⟩) _ _ _ (some ⟨mb, 0, none⟩) hg
 clear hg HT1
 have ST := Lib.hid st; clear st
 go_wp2_with fail
 refine ST.out.mono ?_
 rintro e w8 ⟨rfl, F2, X2, hT2, hXD, hF2, hf2⟩
 unfold actV
 have hb7 := HB1.out.trans (hf2.below HB1.out.size (fun q hq => HF1.out q hq))
 have hF3 : ∀ q, F2 q → W.heap.size ≤ q := fun q hq => (hF2 q hq).elim (HF1.out q) (fun h => by have := HB1.out.size; omega)
 have hm7 := HM1.out.trans (hf2.below HM1.out.size (fun q hq => HN1.out q hq))
 have hN3 : ∀ q, F2 q → wm.heap.size ≤ q := fun q hq => (hF2 q hq).elim (HN1.out q) (fun h => by have := HM1.out.size; omega)
 have hX3 : ∀ k, X2.D k → k < w8.heap.size := fun k hk => (hT2.out k hk).2
 clear q0 q1 q2 hF2 hf2 ST HF1 HB1 HM1 HN1 HX1 hXD
 have ha := (Below.refl w8.heap.size w8).alloc (Nat.le_refl _) (.cells #[.int .i64 5, .int .i64 0, .int .i64 0, .int .i64 0, .int .i64 0, .bool false, .slice none 0 0] 63)
 have hr8 := heap_new w8 (.cells #[.int .i64 5, .int .i64 0, .int .i64 0, .int .i64 0, .int .i64 0, .bool false, .slice none 0 0] 63)
 obtain ⟨Y, hY⟩ : ∃ Y, Y = w8.alloc (.cells #[.int .i64 5, .int .i64 0, .int .i64 0, .int .i64 0, .int .i64 0, .bool false, .slice none 0 0] 63) := ⟨_, rfl⟩
 rw [← hY] at ha hr8
 have kk : Y.cell? ⟨w8.heap.size, 0, none⟩ = some (.int .i64 5) := (row_cell hr8 0).1
 have kv : Y.cell? ⟨w8.heap.size, 3, none⟩ = some (.int .i64 0) := (row_cell hr8 3).1
 obtain ⟨z, hz⟩ : ∃ z, z = w8.heap.size := ⟨_, rfl⟩
 rw [← hz] at kk kv
 have HT1 := Lib.hid (hT2.below ha)
 have HF1 := Lib.hid hF3
 have HB1 := Lib.hid (hb7.trans (ha.mono hb7.size))
 have HN1 := Lib.hid hN3
 have HM1 := Lib.hid (hm7.trans (ha.mono hm7.size))
 have HX1 := Lib.hid hX3
 have HY := Lib.hid hY
 have HZ := Lib.hid hz
 clear ha hr8 hY hz hT2 hF3 hb7 hN3 hm7 hX3
 obtain ⟨q0, q1, q2, hg⟩ := HC.out Y HB1.out
 have gv := giveSet13 HT1.out aW1_len (by omega) (by omega) D (fun k hk => ⟨fun h => by have := HD.out k hk; have := HF1.out k h; omega, by have := HD.out k hk; have := HB1.out.size; omega⟩) (codeK 0) _ _ _ hg 1 (by omega) 0 0 rfl 1048576
 clear hg
 have GV := Lib.hid gv; clear gv
 go_upto_region 11 with fail
 rw [← HY.out, ← HZ.out]
 go_wp2_with fail
 refine GV.out.mono ?_
 rintro e w9 ⟨rfl, hT9, hf9⟩
 have hT9 : TaskAt w9 F2 tb (qS (3 : Nat)) (SF (2 : Nat) aW2) X2 := hT9
 have sl := fun wr (hw : Below w9.heap.size w9 wr) => slotS (hT9.below hw) aW2_len (by omega) 1 (by omega) 1048576 rfl
 have sl := sl w9 (Below.refl _ _)
 have hb9 := HB1.out.trans (hf9.below HB1.out.size (fun q hq => HF1.out q hq))
 have hm9 := HM1.out.trans (hf9.below HM1.out.size (fun q hq => HN1.out q hq))
 clear q0 q1 q2 kk kv hf9 GV HT1 HB1 HM1
 have SL := Lib.hid sl; clear sl
 have HT9 := Lib.hid hT9; clear hT9
 have HB9 := Lib.hid hb9; clear hb9
 have HM9 := Lib.hid hm9; clear hm9
 go_wp2_with fail
 refine SL.out.mono ?_
 rintro e w10 ⟨rfl, hb10⟩
 have ha := (Below.refl w10.heap.size w10).alloc (Nat.le_refl _) act0
 have hrA := heap_new w10 act0
 obtain ⟨V, hV⟩ : ∃ V, V = w10.alloc act0 := ⟨_, rfl⟩
 obtain ⟨ab, hab⟩ : ∃ ab, ab = w10.heap.size := ⟨_, rfl⟩
 rw [← hV] at ha hrA
 rw [← hab] at hrA
 have hT10 := HT9.out.below hb10
 have hnF : ¬ F2 ab := fun h => by have := hT10.flt ab h; omega
 have hnX : ∀ k, X2.D k → k ≠ ab := fun k hk e => by have := (hT10.out k hk).2; omega
 have HTV := Lib.hid (hT10.below ha)
 have hb11 := HB9.out.trans (hb10.mono HB9.out.size)
 have hm11 := HM9.out.trans (hb10.mono HM9.out.size)
 have HBV := Lib.hid (hb11.trans (ha.mono hb11.size))
 have HMV := Lib.hid (hm11.trans (ha.mono hm11.size))
 unfold act0 at hV hrA
 have HV := Lib.hid hV
 have HAB := Lib.hid hab
 have HABW := Lib.hid (show W.heap.size ≤ ab ∧ wm.heap.size ≤ ab from ⟨by have := hb11.size; omega, by have := hm11.size; omega⟩)
 have hDab : ∀ k, D k → k ≠ ab := fun k hk e => by have := HD.out k hk; have := hb11.size; omega
 clear ha hV hab hT10 hb10 hb11 hm11 HT9 HB9 HM9
 have HNF := Lib.hid hnF; clear hnF
 have HNX := Lib.hid hnX; clear hnX
 have HRA := Lib.hid hrA; clear hrA
 have HDAB := Lib.hid hDab; clear hDab
 go_upto_region 14 with fail
 rw [← HV.out, ← HAB.out]
 go_wp2_with fail
 go_loopw [14] (fun i wr => ∃ n : Nat, n ≤ tm ∧ i = .int .i64 n ∧ ∃ F X x0 x1 x2 x3 x4 x5 x6, TaskAt wr F tb (qS (3 : Nat)) (SF (2 : Nat) aW2) X ∧ (∀ q, F q → W.heap.size ≤ q) ∧ (∀ q, F q → wm.heap.size ≤ q) ∧ ¬ F ab ∧ (∀ k, X.D k → k ≠ ab) ∧ Below W.heap.size W wr ∧ Below wm.heap.size wm wr ∧ wr.heap[ab]? = some (.cells #[x0, x1, x2, x3, x4, x5, x6] 63) ∧ (0 < n → #[x0, x1, x2, x3, x4, x5, x6] = #[.int .i64 5, .int .i64 0, .int .i64 0, .int .i64 0, .int .i64 0, .bool false, .slice none 0 0])) (fun i _ => tm - (intOf i).toNat)
 case atStart => exact ⟨0, by omega, rfl, F2, X2, _, _, _, _, _, _, _, HTV.out, HF1.out, HN1.out, HNF.out, HNX.out, HBV.out, HMV.out, HRA.out, fun h => absurd h (by omega)⟩
 case round =>
  clear HTV HF1 HN1 HNF HNX HBV HMV HRA
  obtain ⟨n, hn, rfl, F1, X1, x0, x1, x2, x3, x4, x5, x6, hT1, hF1, hN1, hnF, hnX, hB1, hM1, hr1, hrow⟩ := hrel
  by_cases hlt : n < tm
  ·obtain ⟨n1, hnq⟩ : ∃ n1, n1 = n + 1 := ⟨_, rfl⟩
   have i1 : IntKind.i64.wrap ((n : Int) + 1) = (n1 : Int) := by rw [show ((n : Int) + 1) = (n1 : Int) from by omega]; exact IntWalk.i64_in _ (by omega)
   obtain ⟨q0, q1, q2, hg⟩ := HC.out wr hB1
   have st := askStep0 hT1 D (fun k hk => ⟨fun h => by have := HD.out k hk; have := hF1 k h; omega, by have := HD.out k hk; have := hB1.size; omega⟩) _ _ _ mb hg (fun wx hx => HP.out wx (hM1.trans (hx.mono hM1.size)))
   have hablt := heap_lt hr1
   have hle : n1 ≤ tm := by omega
   clear hT1 hg hrow
   have ST := Lib.hid st; clear st
   have HF1 := Lib.hid hF1; clear hF1
   have HN1 := Lib.hid hN1; clear hN1
   have HNF := Lib.hid hnF; clear hnF
   have HNX := Lib.hid hnX; clear hnX
   have HB1 := Lib.hid hB1; clear hB1
   have HM1 := Lib.hid hM1; clear hM1
   have HR1 := Lib.hid hr1; clear hr1
   have HNQ := Lib.hid hnq; clear hnq
   have HABLT := Lib.hid hablt; clear hablt
   go_wp2_with fail
   refine ST.out.mono ?_
   rintro e w12 ⟨rfl, F3, X3, hT3, hXD, hF3, hf3⟩
   have hr2 := hf3.heap HR1.out HNF.out
   obtain ⟨⟨z0, z1, z2, z3, z4, z5, z6⟩, m0, m1, m2, m3, m4, m5, m6⟩ := seven_cells hr2
   unfold actV
   have hfs := seven_fr w12 (.int .i64 5) (.int .i64 0) (.int .i64 0) (.int .i64 0) (.int .i64 0) (.bool false) (.slice none 0 0) ab
   have hrs := seven_row hr2 (.int .i64 5) (.int .i64 0) (.int .i64 0) (.int .i64 0) (.int .i64 0) (.bool false) (.slice none 0 0)
   have hnF3 : ¬ F3 ab := fun h => (hF3 ab h).elim HNF.out (fun h => by have := HABLT.out; omega)
   have hnX3 : ∀ k, X3.D k → k ≠ ab := fun k hk => HNX.out k (by rw [← hXD]; exact hk)
   obtain ⟨U, hU⟩ : ∃ U, U = (((((((w12.setCell ⟨ab, 0, none⟩ (.int .i64 5)).setCell ⟨ab, 1, none⟩ (.int .i64 0)).setCell ⟨ab, 2, none⟩ (.int .i64 0)).setCell ⟨ab, 3, none⟩ (.int .i64 0)).setCell ⟨ab, 4, none⟩ (.int .i64 0)).setCell ⟨ab, 5, none⟩ (.bool false)).setCell ⟨ab, 6, none⟩ (.slice none 0 0)) := ⟨_, rfl⟩
   rw [← hU] at hfs hrs
   have hT4 := hT3.fr hfs (fun k hk e => hnF3 (by have e : k = ab := e; rw [← e]; exact hk)) (fun k hk e => hnX3 k hk e)
   have hBw : W.heap.size ≤ ab ∧ wm.heap.size ≤ ab := ⟨HABW.out.1, HABW.out.2⟩
   have hB4 := (HB1.out.trans (hf3.below HB1.out.size (fun q hq => HF1.out q hq))).trans (hfs.below (Nat.le_trans HB1.out.size hf3.size) (fun k e => by have e : k = ab := e; omega))
   have hM4 := (HM1.out.trans (hf3.below HM1.out.size (fun q hq => HN1.out q hq))).trans (hfs.below (Nat.le_trans HM1.out.size hf3.size) (fun k e => by have e : k = ab := e; omega))
   have hF4 : ∀ q, F3 q → W.heap.size ≤ q := fun q hq => (hF3 q hq).elim (HF1.out q) (fun h => by have := HB1.out.size; omega)
   have hN4 : ∀ q, F3 q → wm.heap.size ≤ q := fun q hq => (hF3 q hq).elim (HN1.out q) (fun h => by have := HM1.out.size; omega)
   have HU := Lib.hid hU
   clear hU hfs hf3 hF3 hT3 hXD hBw hr2
   go_upto_region 18 with fail
   rw [← HU.out]
   clear z0 z1 z2 z3 z4 z5 z6 m0 m1 m2 m3 m4 m5 m6 q0 q1 q2
   have kk : U.cell? ⟨ab, 0, none⟩ = some (.int .i64 5) := (row_cell hrs 0).1
   have HKK := Lib.hid (fun wr (hw : Below U.heap.size U wr) => And.intro (below_cell hw kk) True.intro)
   have pc := fun wr (hw : Below U.heap.size U wr) => (pcS (hT4.below hw)).mono (fun e w' he => (show e = .returned (.int .i64 2) ∧ Below wr.heap.size wr w' from ⟨he.1, by obtain ⟨m, hm⟩ := he.2; rw [hm]; exact below_drewN (Below.refl _ _) m⟩))
   have s0 := fun wr (hw : Below U.heap.size U wr) => slotS (hT4.below hw) aW2_len (by omega) 0 (by omega) 3 rfl
   have s1 := fun wr (hw : Below U.heap.size U wr) => slotS (hT4.below hw) aW2_len (by omega) 1 (by omega) 1048576 rfl
   have ask := fun wr => asks_any wr 5
   clear kk
   have PC := Lib.hid pc; clear pc
   have S0 := Lib.hid s0; clear s0
   have S1 := Lib.hid s1; clear s1
   have AS := Lib.hid ask; clear ask
   have HT4 := Lib.hid hT4; clear hT4
   have HB4 := Lib.hid hB4; clear hB4
   have HM4 := Lib.hid hM4; clear hM4
   have HF4 := Lib.hid hF4; clear hF4
   have HN4 := Lib.hid hN4; clear hN4
   have HRS := Lib.hid hrs; clear hrs
   have HNF3 := Lib.hid hnF3; clear hnF3
   have HNX3 := Lib.hid hnX3; clear hnX3
   refine wp_region_noPanic ?_
   refine wp_region_held_drew (S := fun w' => Below U.heap.size U w') (by kernel_rfl) (Below.refl _ _).drew (fun _ => ?_)
   have HR1 := Lib.hid (Below.refl U.heap.size U).drew
   generalize U.drew = r1 at *
   refine wpAnyH_take (i := 0) (v := ?_) rfl (by kernel_rfl) (by kernel_rfl) (by kernel_rfl) (fun _ _ _ h => h) (Or.inl ⟨by kernel_rfl, ?tq1⟩) HR1.out ?_
   case tq1 => (intro wq hq; obtain ⟨f0, f1⟩ := HKK.out wq hq; go_simp; first | done | with_reducible rfl)
   refine wpAnyH_take (i := 1) (v := ?_) rfl (by kernel_rfl) (by kernel_rfl) (by kernel_rfl) (fun _ _ _ h => h) (Or.inl ⟨by kernel_rfl, ?tq2⟩) HR1.out ?_
   case tq2 => (intro wq hq; obtain ⟨f0, f1⟩ := HKK.out wq hq; go_simp; first | done | with_reducible rfl)
   refine wpAnyH_take (i := 3) (v := ?_) rfl (by kernel_rfl) (by kernel_rfl) (by kernel_rfl) (fun _ _ _ h => h) (Or.inl ⟨by kernel_rfl, ?tq3⟩) HR1.out ?_
   case tq3 => (intro wq hq; obtain ⟨f0, f1⟩ := HKK.out wq hq; go_simp; first | done | with_reducible rfl)
   refine wpAnyH_ready (rs := [2]) (by kernel_rfl) (by simp) ?_
   refine (AllReadyH.cons rfl (fun K hK => ?_) AllReadyH.nil)
   go_simp
   obtain ⟨r2, hr⟩ : ∃ r, r = r1.alloc (.cells #[.int .i64 5, .int .i64 6, .int .i64 7, .int .i64 3, .int .i64 4] 3) := ⟨_, rfl⟩
   obtain ⟨y, hy⟩ : ∃ y, y = r1.heap.size := ⟨_, rfl⟩
   have hl : r2.heap[y]? = some (.cells #[.int .i64 5, .int .i64 6, .int .i64 7, .int .i64 3, .int .i64 4] 3) := by rw [hr, hy]; exact heap_new _ _
   have hb : Below r1.heap.size r1 r2 := by rw [hr]; exact (Below.refl _ _).alloc (Nat.le_refl _) _
   rw [← hr, ← hy]
   have HR2 := Lib.hid (HR1.out.trans (hb.mono HR1.out.size))
   have HY := Lib.hid hl
   clear hl hb hr hy
   refine hK.out _ _ HR2.out (fun _ => ?_)
   clear hK K
   refine wpAnyH_take (i := 4) (v := ?_) rfl (by kernel_rfl) (by kernel_rfl) (by kernel_rfl) (fun _ _ _ h => h) (Or.inl ⟨by kernel_rfl, ?tq4⟩) HR2.out ?_
   case tq4 => (intro wq hq; obtain ⟨f0, f1⟩ := HKK.out wq hq; go_simp; first | done | with_reducible rfl)
   refine wpAnyH_ready (rs := [5]) (by kernel_rfl) (by simp) ?_
   refine (AllReadyH.cons rfl (fun K hK => ?_) AllReadyH.nil)
   have ky := (row_cell HY.out 0).1
   simp only [List.getElem?_toArray, List.getElem?_cons_zero, List.getElem?_cons_succ] at ky
   go_simp
   clear ky
   refine hK.out _ _ HR2.out (fun _ => ?_)
   clear hK K
   refine wpAnyH_take (i := 6) (v := ?_) rfl (by kernel_rfl) (by kernel_rfl) (by kernel_rfl) (fun _ _ _ h => h) (Or.inl ⟨by kernel_rfl, ?tq5⟩) HR2.out ?_
   case tq5 => (intro wq hq; obtain ⟨f0, f1⟩ := HKK.out wq hq; go_simp; first | done | with_reducible rfl)
   refine wpAnyH_take (i := 7) (v := ?_) rfl (by kernel_rfl) (by kernel_rfl) (by kernel_rfl) (fun _ _ _ h => h) (Or.inl ⟨by kernel_rfl, ?tq6⟩) HR2.out ?_
   case tq6 => (intro wq hq; obtain ⟨f0, f1⟩ := HKK.out wq hq; go_simp; first | done | with_reducible rfl)
   refine wpAnyH_take (i := 8) (v := ?_) rfl (by kernel_rfl) (by kernel_rfl) (by kernel_rfl) (fun _ _ _ h => h) (Or.inl ⟨by kernel_rfl, ?tq7⟩) HR2.out ?_
   case tq7 => (intro wq hq; obtain ⟨f0, f1⟩ := HKK.out wq hq; go_simp; first | done | with_reducible rfl)
   refine wpAnyH_take (i := 9) (v := ?_) rfl (by kernel_rfl) (by kernel_rfl) (by kernel_rfl) (fun _ _ _ h => h) (Or.inl ⟨by kernel_rfl, ?tq8⟩) HR2.out ?_
   case tq8 => (intro wq hq; obtain ⟨f0, f1⟩ := HKK.out wq hq; go_simp; first | done | with_reducible rfl)
   refine wpAnyH_ready (rs := [10]) (by kernel_rfl) (by simp) ?_
   refine (AllReadyH.cons rfl (fun K hK => ?_) AllReadyH.nil)
   go_simp
   go_at_call 36
   refine (AS.out r2).mono ?_
   rintro e w' ⟨rfl, rfl⟩
   refine hK.out _ _ HR2.out (fun _ => ?_)
   clear hK K
   refine wpAnyH_take (i := 11) (v := ?_) rfl (by kernel_rfl) (by kernel_rfl) (by kernel_rfl) (fun _ _ _ h => h) (Or.inl ⟨by kernel_rfl, ?tq9⟩) HR2.out ?_
   case tq9 => (intro wq hq; obtain ⟨f0, f1⟩ := HKK.out wq hq; go_simp; first | done | with_reducible rfl)
   refine wpAnyH_take (i := 12) (v := ?_) rfl (by kernel_rfl) (by kernel_rfl) (by kernel_rfl) (fun _ _ _ h => h) (Or.inl ⟨by kernel_rfl, ?tq10⟩) HR2.out ?_
   case tq10 => (intro wq hq; obtain ⟨f0, f1⟩ := HKK.out wq hq; go_simp; first | done | with_reducible rfl)
   refine wpAnyH_take (i := 13) (v := ?_) rfl (by kernel_rfl) (by kernel_rfl) (by kernel_rfl) (fun _ _ _ h => h) (Or.inl ⟨by kernel_rfl, ?tq11⟩) HR2.out ?_
   case tq11 => (intro wq hq; obtain ⟨f0, f1⟩ := HKK.out wq hq; go_simp; first | done | with_reducible rfl)
   refine wpAnyH_take (i := 14) (v := ?_) rfl (by kernel_rfl) (by kernel_rfl) (by kernel_rfl) (fun _ _ _ h => h) (Or.inl ⟨by kernel_rfl, ?tq12⟩) HR2.out ?_
   case tq12 => (intro wq hq; obtain ⟨f0, f1⟩ := HKK.out wq hq; go_simp; first | done | with_reducible rfl)
   refine wpAnyH_ready (rs := [15]) (by kernel_rfl) (by simp) ?_
   refine (AllReadyH.cons rfl (fun K hK => ?_) AllReadyH.nil)
   go_simp
   go_at_call 31
   refine (PC.out r2 HR2.out).mono ?_
   rintro e r3 ⟨rfl, hb⟩
   have HR3 := Lib.hid (HR2.out.trans (hb.mono HR2.out.size))
   have HY := Lib.hid ((Fr.of_below hb (fun _ => False)).heap HY.out (fun h => h))
   clear hb
   refine hK.out _ _ HR3.out (fun _ => ?_)
   clear hK K
   refine wpAnyH_take (i := 16) (v := ?_) rfl (by kernel_rfl) (by kernel_rfl) (by kernel_rfl) (fun _ _ _ h => h) (Or.inl ⟨by kernel_rfl, ?tq13⟩) HR3.out ?_
   case tq13 => (intro wq hq; obtain ⟨f0, f1⟩ := HKK.out wq hq; go_simp; first | done | with_reducible rfl)
   refine wpAnyH_take (i := 17) (v := ?_) rfl (by kernel_rfl) (by kernel_rfl) (by kernel_rfl) (fun _ _ _ h => h) (Or.inl ⟨by kernel_rfl, ?tq14⟩) HR3.out ?_
   case tq14 => (intro wq hq; obtain ⟨f0, f1⟩ := HKK.out wq hq; go_simp; first | done | with_reducible rfl)
   refine wpAnyH_take (i := 18) (v := ?_) rfl (by kernel_rfl) (by kernel_rfl) (by kernel_rfl) (fun _ _ _ h => h) (Or.inl ⟨by kernel_rfl, ?tq15⟩) HR3.out ?_
   case tq15 => (intro wq hq; obtain ⟨f0, f1⟩ := HKK.out wq hq; go_simp; first | done | with_reducible rfl)
   refine wpAnyH_take (i := 19) (v := ?_) rfl (by kernel_rfl) (by kernel_rfl) (by kernel_rfl) (fun _ _ _ h => h) (Or.inl ⟨by kernel_rfl, ?tq16⟩) HR3.out ?_
   case tq16 => (intro wq hq; obtain ⟨f0, f1⟩ := HKK.out wq hq; go_simp; first | done | with_reducible rfl)
   refine wpAnyH_ready (rs := [20]) (by kernel_rfl) (by simp) ?_
   refine (AllReadyH.cons rfl (fun K hK => ?_) AllReadyH.nil)
   go_simp
   go_at_call 33
   refine (S0.out r3 HR3.out).mono ?_
   rintro e r4 ⟨rfl, hb⟩
   have HR4 := Lib.hid (HR3.out.trans (hb.mono HR3.out.size))
   have HY := Lib.hid ((Fr.of_below hb (fun _ => False)).heap HY.out (fun h => h))
   clear hb
   refine hK.out _ _ HR4.out (fun _ => ?_)
   clear hK K
   refine wpAnyH_take (i := 21) (v := ?_) rfl (by kernel_rfl) (by kernel_rfl) (by kernel_rfl) (fun _ _ _ h => h) (Or.inl ⟨by kernel_rfl, ?tq17⟩) HR4.out ?_
   case tq17 => (intro wq hq; obtain ⟨f0, f1⟩ := HKK.out wq hq; go_simp; first | done | with_reducible rfl)
   refine wpAnyH_take (i := 22) (v := ?_) rfl (by kernel_rfl) (by kernel_rfl) (by kernel_rfl) (fun _ _ _ h => h) (Or.inl ⟨by kernel_rfl, ?tq18⟩) HR4.out ?_
   case tq18 => (intro wq hq; obtain ⟨f0, f1⟩ := HKK.out wq hq; go_simp; first | done | with_reducible rfl)
   refine wpAnyH_take (i := 23) (v := ?_) rfl (by kernel_rfl) (by kernel_rfl) (by kernel_rfl) (fun _ _ _ h => h) (Or.inl ⟨by kernel_rfl, ?tq19⟩) HR4.out ?_
   case tq19 => (intro wq hq; obtain ⟨f0, f1⟩ := HKK.out wq hq; go_simp; first | done | with_reducible rfl)
   refine wpAnyH_take (i := 24) (v := ?_) rfl (by kernel_rfl) (by kernel_rfl) (by kernel_rfl) (fun _ _ _ h => h) (Or.inl ⟨by kernel_rfl, ?tq20⟩) HR4.out ?_
   case tq20 => (intro wq hq; obtain ⟨f0, f1⟩ := HKK.out wq hq; go_simp; first | done | with_reducible rfl)
   refine wpAnyH_ready (rs := [25]) (by kernel_rfl) (by simp) ?_
   refine (AllReadyH.cons rfl (fun K hK => ?_) AllReadyH.nil)
   go_simp
   go_at_call 33
   refine (S1.out r4 HR4.out).mono ?_
   rintro e r5 ⟨rfl, hb⟩
   have HR5 := Lib.hid (HR4.out.trans (hb.mono HR4.out.size))
   have HY := Lib.hid ((Fr.of_below hb (fun _ => False)).heap HY.out (fun h => h))
   clear hb
   refine hK.out _ _ HR5.out (fun _ => ?_)
   clear hK K
   refine wpAnyH_take (i := 26) (v := ?_) rfl (by kernel_rfl) (by kernel_rfl) (by kernel_rfl) (fun _ _ _ h => h) (Or.inl ⟨by kernel_rfl, ?tq21⟩) HR5.out ?_
   case tq21 => (intro wq hq; obtain ⟨f0, f1⟩ := HKK.out wq hq; go_simp; first | done | with_reducible rfl)
   refine wpAnyH_take (i := 27) (v := ?_) rfl (by kernel_rfl) (by kernel_rfl) (by kernel_rfl) (fun _ _ _ h => h) (Or.inl ⟨by kernel_rfl, ?tq22⟩) HR5.out ?_
   case tq22 => (intro wq hq; obtain ⟨f0, f1⟩ := HKK.out wq hq; go_simp; first | done | with_reducible rfl)
   refine wpAnyH_done (by kernel_rfl) ?_ _
   refine NoPanic.normal ?_
   go_wp2_with fail
   go_roundw
   case rel => exact ⟨n1, hle, by go_num, F3, X3, _, _, _, _, _, _, _, HT4.out.below HR5.out, HF4.out, HN4.out, HNF3.out, HNX3.out, HB4.out.trans (HR5.out.mono HB4.out.size), HM4.out.trans (HR5.out.mono HM4.out.size), (Fr.of_below HR5.out (fun _ => False)).heap HRS.out (fun h => h), fun _ => rfl⟩
   case measure => have := HNQ.out; simp [intOf]; omega
  ·have hn' : n = tm := by omega
   have hrow := hrow (by omega)
   simp only [Array.mk.injEq, List.cons.injEq, and_true] at hrow
   obtain ⟨rfl, rfl, rfl, rfl, rfl, rfl, rfl⟩ := hrow
   subst hn'
   obtain ⟨⟨z0, z1, z2, z3, z4, z5, z6⟩, _⟩ := seven_cells hr1
   obtain ⟨q0, q1, q2, hg⟩ := HC.out wr hB1
   have gv := giveSet13 hT1 aW2_len (by omega) (by omega) D (fun k hk => ⟨fun h => by have := HD.out k hk; have := hF1 k h; omega, by have := HD.out k hk; have := hB1.size; omega⟩) (codeK 0) _ _ _ hg 2 (by omega) 0 0 rfl v
   clear hg hr1 hM1 hN1 hnF hnX hT1
   have GV := Lib.hid gv; clear gv
   have HF1 := Lib.hid hF1; clear hF1
   have HB1 := Lib.hid hB1; clear hB1
   go_upto_region 22 with fail
   clear z0 z1 z2 z3 z4 z5 z6
   go_wp2_with fail
   refine GV.out.mono ?_
   rintro e w12 ⟨rfl, hT3, hf3⟩
   have hT3 : TaskAt w12 F1 tb (qS (3 : Nat)) (SF (3 : Nat) (aW2.set 4 v)) X1 := hT3
   have pc := pcS hT3
   have hB3 := HB1.out.trans (hf3.below HB1.out.size (fun q hq => HF1.out q hq))
   clear q0 q1 q2 hf3 GV
   have PC := Lib.hid pc; clear pc
   have HT3 := Lib.hid hT3; clear hT3
   have HB3 := Lib.hid hB3; clear hB3
   go_wp2_with fail
   refine PC.out.mono ?_
   rintro e w13 ⟨rfl, mq, rfl⟩
   have hT4 := HT3.out.below (below_drewN (Below.refl _ _) mq)
   have hB4 := below_drewN HB3.out mq
   obtain ⟨q0, q1, q2, hg⟩ := HC.out _ hB4
   have gn := giveNoS hT4 D (fun k hk => ⟨fun h => by have := HD.out k hk; have := HF1.out k h; omega, by have := HD.out k hk; have := hB4.size; omega⟩) (codeK 0) _ _ _ hg rfl v
   clear hg PC HT3 HB3
   have GN := Lib.hid gn; clear gn
   have HT4 := Lib.hid hT4; clear hT4
   have HB4 := Lib.hid hB4; clear hB4
   go_wp2_with fail
   refine GN.out.mono ?_
   rintro e w14 ⟨rfl, hb14⟩
   clear q0 q1 q2
   have ha := (Below.refl w14.heap.size w14).alloc (Nat.le_refl _) (.cells #[.int .i64 3, .int .i64 1048576, .int .i64 0] 3)
   have hra : (w14.alloc (.cells #[.int .i64 3, .int .i64 1048576, .int .i64 0] 3)).heap[w14.heap.size]? = some (intRow [3, 1048576, 0] 3) := heap_new w14 _
   obtain ⟨Q, hQ⟩ : ∃ Q, Q = w14.alloc (.cells #[.int .i64 3, .int .i64 1048576, .int .i64 0] 3) := ⟨_, rfl⟩
   obtain ⟨z, hz⟩ : ∃ z, z = w14.heap.size := ⟨_, rfl⟩
   rw [← hQ] at ha hra
   rw [← hz] at hra
   have c0 : Q.cell? ⟨z, 0, none⟩ = some (.int .i64 3) := (row_cell hra 0).1
   have c2' : Q.cell? ⟨z, 2, none⟩ = some (.int .i64 0) := (row_cell hra 2).1
   have f0 : Q.frozen? ⟨z, 0, none⟩ = false := (row_cell hra 0).2
   have f2 : Q.frozen? ⟨z, 2, none⟩ = false := (row_cell hra 2).2
   have hT5 := (HT4.out.below hb14).below ha
   have hB5 := HB4.out.trans (hb14.mono HB4.out.size)
   have hB6 := hB5.trans (ha.mono hB5.size)
   have hzF : ∀ k, F1 k → k ≠ z := fun k hk e => by have := (HT4.out.below hb14).flt k hk; omega
   have hzX : ∀ k, X1.D k → k ≠ z := fun k hk e => by have := ((HT4.out.below hb14).out k hk).2; omega
   have hzW : W.heap.size ≤ z := by have := hB5.size; omega
   have HQ := Lib.hid hQ
   have HZ := Lib.hid hz
   clear hQ hz hb14 hB5 ha GN HT4 HB4
   have HT5 := Lib.hid hT5; clear hT5
   have HB6 := Lib.hid hB6; clear hB6
   have HRA := Lib.hid hra; clear hra
   have HZF := Lib.hid hzF; clear hzF
   have HZX := Lib.hid hzX; clear hzX
   have HZW := Lib.hid hzW; clear hzW
   go_upto_region 25 with fail
   rw [← HQ.out, ← HZ.out]
   go_upto_region 31 with fail
   obtain ⟨U2, hU2⟩ : ∃ U2, U2 = Q.setCell ⟨z, 2, none⟩ (.int .i64 v) := ⟨_, rfl⟩
   have hfU : Fr (fun k => k = z) Q U2 := by rw [hU2]; exact (Fr.refl (fun k => k = z) Q).setCell (p := ⟨z, 2, none⟩) (fun _ => rfl) _
   have hrU : U2.heap[z]? = some (intRow [3, 1048576, v] 3) := by rw [hU2]; exact intRow_set HRA.out 2 v
   have hT6 := HT5.out.fr hfU (fun k hk e => HZF.out k hk e) (fun k hk e => HZX.out k hk e)
   have hB7 := HB6.out.trans (hfU.below HB6.out.size (fun k e => by have e : k = z := e; have := HZW.out; omega))
   rw [← hU2]
   clear hU2 hfU c0 c2' f0 f2 HT5 HB6
   have r0 : U2.cell? ⟨z, 0, none⟩ = some (.int .i64 3) := (row_cell hrU 0).1
   have r1 : U2.cell? ⟨z, 1, none⟩ = some (.int .i64 1048576) := (row_cell hrU 1).1
   have r2 : U2.cell? ⟨z, 2, none⟩ = some (.int .i64 v) := (row_cell hrU 2).1
   have HKK := Lib.hid (fun wr (hw : Below U2.heap.size U2 wr) => And.intro (below_cell hw r0) (And.intro (below_cell hw r1) (below_cell hw r2)))
   have hlw : (aW2.set 4 v).length = 64 := by rw [List.length_set]; exact aW2_len
   have s0 := fun wr (hw : Below U2.heap.size U2 wr) => slotS (hT6.below hw) hlw (by omega) 0 (by omega) 3 rfl
   have s1 := fun wr (hw : Below U2.heap.size U2 wr) => slotS (hT6.below hw) hlw (by omega) 1 (by omega) 1048576 rfl
   have s2 := fun wr (hw : Below U2.heap.size U2 wr) => slotS (hT6.below hw) hlw (by omega) 2 (by omega) v rfl
   have hB8 := HW0.out.trans (hB7.mono HW0.out.size)
   clear r0 r1 r2 hT6 hB7 hlw hrU
   have S0 := Lib.hid s0; clear s0
   have S1 := Lib.hid s1; clear s1
   have S2 := Lib.hid s2; clear s2
   have HB8 := Lib.hid hB8; clear hB8
   clear hrow sl hT9 hT3
   refine wp_region_noPanic ?_
   refine wp_region_held_drew (S := fun w' => Below U2.heap.size U2 w') (by kernel_rfl) (Below.refl _ _).drew (fun _ => ?_)
   have HR1 := Lib.hid (Below.refl U2.heap.size U2).drew
   generalize U2.drew = r1 at *
   refine wpAnyH_take (i := 0) (v := ?_) rfl (by kernel_rfl) (by kernel_rfl) (by kernel_rfl) (fun _ _ _ h => h) (Or.inl ⟨by kernel_rfl, ?tq1⟩) HR1.out ?_
   case tq1 => (intro wq hq; obtain ⟨f0, f1, f2⟩ := HKK.out wq hq; go_simp; first | done | with_reducible rfl)
   refine wpAnyH_take (i := 2) (v := ?_) rfl (by kernel_rfl) (by kernel_rfl) (by kernel_rfl) (fun _ _ _ h => h) (Or.inl ⟨by kernel_rfl, ?tq2⟩) HR1.out ?_
   case tq2 => (intro wq hq; obtain ⟨f0, f1, f2⟩ := HKK.out wq hq; go_simp; first | done | with_reducible rfl)
   refine wpAnyH_take (i := 3) (v := ?_) rfl (by kernel_rfl) (by kernel_rfl) (by kernel_rfl) (fun _ _ _ h => h) (Or.inl ⟨by kernel_rfl, ?tq3⟩) HR1.out ?_
   case tq3 => (intro wq hq; obtain ⟨f0, f1, f2⟩ := HKK.out wq hq; go_simp; first | done | with_reducible rfl)
   refine wpAnyH_take (i := 4) (v := ?_) rfl (by kernel_rfl) (by kernel_rfl) (by kernel_rfl) (fun _ _ _ h => h) (Or.inl ⟨by kernel_rfl, ?tq4⟩) HR1.out ?_
   case tq4 => (intro wq hq; obtain ⟨f0, f1, f2⟩ := HKK.out wq hq; go_simp; first | done | with_reducible rfl)
   refine wpAnyH_ready (rs := [1]) (by kernel_rfl) (by simp) ?_
   refine (AllReadyH.cons rfl (fun K hK => ?_) AllReadyH.nil)
   go_simp
   go_at_call 33
   refine (S0.out r1 HR1.out).mono ?_
   rintro e r2 ⟨rfl, hb⟩
   have HR2 := Lib.hid (HR1.out.trans (hb.mono HR1.out.size))
   clear hb
   refine hK.out _ _ HR2.out (fun _ => ?_)
   clear hK K
   refine wpAnyH_take (i := 5) (v := ?_) rfl (by kernel_rfl) (by kernel_rfl) (by kernel_rfl) (fun _ _ _ h => h) (Or.inl ⟨by kernel_rfl, ?tq5⟩) HR2.out ?_
   case tq5 => (intro wq hq; obtain ⟨f0, f1, f2⟩ := HKK.out wq hq; go_simp; first | done | with_reducible rfl)
   refine wpAnyH_take (i := 6) (v := ?_) rfl (by kernel_rfl) (by kernel_rfl) (by kernel_rfl) (fun _ _ _ h => h) (Or.inl ⟨by kernel_rfl, ?tq6⟩) HR2.out ?_
   case tq6 => (intro wq hq; obtain ⟨f0, f1, f2⟩ := HKK.out wq hq; go_simp; first | done | with_reducible rfl)
   refine wpAnyH_take (i := 7) (v := ?_) rfl (by kernel_rfl) (by kernel_rfl) (by kernel_rfl) (fun _ _ _ h => h) (Or.inl ⟨by kernel_rfl, ?tq7⟩) HR2.out ?_
   case tq7 => (intro wq hq; obtain ⟨f0, f1, f2⟩ := HKK.out wq hq; go_simp; first | done | with_reducible rfl)
   refine wpAnyH_take (i := 9) (v := ?_) rfl (by kernel_rfl) (by kernel_rfl) (by kernel_rfl) (fun _ _ _ h => h) (Or.inl ⟨by kernel_rfl, ?tq8⟩) HR2.out ?_
   case tq8 => (intro wq hq; obtain ⟨f0, f1, f2⟩ := HKK.out wq hq; go_simp; first | done | with_reducible rfl)
   refine wpAnyH_take (i := 10) (v := ?_) rfl (by kernel_rfl) (by kernel_rfl) (by kernel_rfl) (fun _ _ _ h => h) (Or.inl ⟨by kernel_rfl, ?tq9⟩) HR2.out ?_
   case tq9 => (intro wq hq; obtain ⟨f0, f1, f2⟩ := HKK.out wq hq; go_simp; first | done | with_reducible rfl)
   refine wpAnyH_take (i := 11) (v := ?_) rfl (by kernel_rfl) (by kernel_rfl) (by kernel_rfl) (fun _ _ _ h => h) (Or.inl ⟨by kernel_rfl, ?tq10⟩) HR2.out ?_
   case tq10 => (intro wq hq; obtain ⟨f0, f1, f2⟩ := HKK.out wq hq; go_simp; first | done | with_reducible rfl)
   refine wpAnyH_ready (rs := [8]) (by kernel_rfl) (by simp) ?_
   refine (AllReadyH.cons rfl (fun K hK => ?_) AllReadyH.nil)
   go_simp
   go_at_call 33
   refine (S1.out r2 HR2.out).mono ?_
   rintro e r3 ⟨rfl, hb⟩
   have HR3 := Lib.hid (HR2.out.trans (hb.mono HR2.out.size))
   clear hb
   refine hK.out _ _ HR3.out (fun _ => ?_)
   clear hK K
   refine wpAnyH_take (i := 12) (v := ?_) rfl (by kernel_rfl) (by kernel_rfl) (by kernel_rfl) (fun _ _ _ h => h) (Or.inl ⟨by kernel_rfl, ?tq11⟩) HR3.out ?_
   case tq11 => (intro wq hq; obtain ⟨f0, f1, f2⟩ := HKK.out wq hq; go_simp; first | done | with_reducible rfl)
   refine wpAnyH_take (i := 13) (v := ?_) rfl (by kernel_rfl) (by kernel_rfl) (by kernel_rfl) (fun _ _ _ h => h) (Or.inl ⟨by kernel_rfl, ?tq12⟩) HR3.out ?_
   case tq12 => (intro wq hq; obtain ⟨f0, f1, f2⟩ := HKK.out wq hq; go_simp; first | done | with_reducible rfl)
   refine wpAnyH_take (i := 14) (v := ?_) rfl (by kernel_rfl) (by kernel_rfl) (by kernel_rfl) (fun _ _ _ h => h) (Or.inl ⟨by kernel_rfl, ?tq13⟩) HR3.out ?_
   case tq13 => (intro wq hq; obtain ⟨f0, f1, f2⟩ := HKK.out wq hq; go_simp; first | done | with_reducible rfl)
   refine wpAnyH_take (i := 15) (v := ?_) rfl (by kernel_rfl) (by kernel_rfl) (by kernel_rfl) (fun _ _ _ h => h) (Or.inl ⟨by kernel_rfl, ?tq14⟩) HR3.out ?_
   case tq14 => (intro wq hq; obtain ⟨f0, f1, f2⟩ := HKK.out wq hq; go_simp; first | done | with_reducible rfl)
   refine wpAnyH_take (i := 17) (v := ?_) rfl (by kernel_rfl) (by kernel_rfl) (by kernel_rfl) (fun _ _ _ h => h) (Or.inl ⟨by kernel_rfl, ?tq15⟩) HR3.out ?_
   case tq15 => (intro wq hq; obtain ⟨f0, f1, f2⟩ := HKK.out wq hq; go_simp; first | done | with_reducible rfl)
   refine wpAnyH_take (i := 18) (v := ?_) rfl (by kernel_rfl) (by kernel_rfl) (by kernel_rfl) (fun _ _ _ h => h) (Or.inl ⟨by kernel_rfl, ?tq16⟩) HR3.out ?_
   case tq16 => (intro wq hq; obtain ⟨f0, f1, f2⟩ := HKK.out wq hq; go_simp; first | done | with_reducible rfl)
   refine wpAnyH_take (i := 19) (v := ?_) rfl (by kernel_rfl) (by kernel_rfl) (by kernel_rfl) (fun _ _ _ h => h) (Or.inl ⟨by kernel_rfl, ?tq17⟩) HR3.out ?_
   case tq17 => (intro wq hq; obtain ⟨f0, f1, f2⟩ := HKK.out wq hq; go_simp; first | done | with_reducible rfl)
   refine wpAnyH_ready (rs := [16]) (by kernel_rfl) (by simp) ?_
   refine (AllReadyH.cons rfl (fun K hK => ?_) AllReadyH.nil)
   go_simp
   go_at_call 33
   refine (S2.out r3 HR3.out).mono ?_
   rintro e r4 ⟨rfl, hb⟩
   have HR4 := Lib.hid (HR3.out.trans (hb.mono HR3.out.size))
   clear hb
   refine hK.out _ _ HR4.out (fun _ => ?_)
   clear hK K
   refine wpAnyH_take (i := 20) (v := ?_) rfl (by kernel_rfl) (by kernel_rfl) (by kernel_rfl) (fun _ _ _ h => h) (Or.inl ⟨by kernel_rfl, ?tq18⟩) HR4.out ?_
   case tq18 => (intro wq hq; obtain ⟨f0, f1, f2⟩ := HKK.out wq hq; go_simp; first | done | with_reducible rfl)
   refine wpAnyH_take (i := 21) (v := ?_) rfl (by kernel_rfl) (by kernel_rfl) (by kernel_rfl) (fun _ _ _ h => h) (Or.inl ⟨by kernel_rfl, ?tq19⟩) HR4.out ?_
   case tq19 => (intro wq hq; obtain ⟨f0, f1, f2⟩ := HKK.out wq hq; go_simp; first | done | with_reducible rfl)
   refine wpAnyH_ready (rs := [22]) (by kernel_rfl) (by simp) ?_
   refine (AllReadyH.cons rfl (fun K hK => ?_) AllReadyH.nil)
   go_simp
   refine hK.out _ _ HR4.out (fun _ => ?_)
   clear hK K
   refine wpAnyH_done (by kernel_rfl) ?_ _
   refine NoPanic.normal ?_
   go_wp2_with fail
   go_ret
   exact ⟨rfl, HB8.out.trans (HR4.out.mono HB8.out.size)⟩
set_option maxRecDepth 100000 in
set_option maxHeartbeats 12800000 in
theorem walk1 (w : World) (kind v : Int) (tm : Nat) (hdm : (wrap64 (kind.tmod 5 + 5)).tmod 5 = 1) (h1 : 1 ≤ tm) (h20 : tm ≤ 20) :
  Calls Tryz.prog 7 #[.int .i64 kind, .int .i64 v, .int .i64 tm] w fun e w' => e = .returned (.bool true) ∧ Below w.heap.size w w' := by
 have al := alive23
 have c1 : ¬ (tm : Int) < 1 := by omega
 have c2 : ¬ (20 : Int) < (tm : Int) := by omega
 have hsB := ask_B 1 (by decide)
 have hst' := ask_tab 1 (by decide)
 have AL := Lib.hid al; clear al
 have HSB := Lib.hid hsB; clear hsB
 have HST' := Lib.hid hst'; clear hst'
 go_enter Tryz.func7, Tryz.ntmps7
 go_wp2_with fail
 refine (AL.out _).mono ?_
 rintro e w1 ⟨rfl, hb1⟩
 have hb1 := belowAl (belowAl (belowAl hb1 (Nat.le_refl _) (.cells #[.int .i64 13, .int .i64 2, .int .i64 0, .int .i64 0, .int .i64 16, .int .i64 0, .int .i64 0, .int .i64 0, .int .i64 17, .int .i64 1, .int .i64 1, .int .i64 0, .int .i64 14, .int .i64 0, .int .i64 1, .int .i64 0, .int .i64 15, .int .i64 1, .int .i64 1, .int .i64 1] 59)) (Nat.le_refl _) (.cells #[.int .i64 16, .int .i64 0, .int .i64 0, .int .i64 0] 59)) (Nat.le_refl _) (.cells #[.int .i64 1, .int .i64 0, .int .i64 3, .int .i64 0, .int .i64 13, .int .i64 1, .int .i64 0, .int .i64 0, .int .i64 16, .int .i64 0, .int .i64 0, .int .i64 0] 59)
 have hcd : CellsAt (((w1.alloc (.cells #[.int .i64 13, .int .i64 2, .int .i64 0, .int .i64 0, .int .i64 16, .int .i64 0, .int .i64 0, .int .i64 0, .int .i64 17, .int .i64 1, .int .i64 1, .int .i64 0, .int .i64 14, .int .i64 0, .int .i64 1, .int .i64 0, .int .i64 15, .int .i64 1, .int .i64 1, .int .i64 1] 59)).alloc (.cells #[.int .i64 16, .int .i64 0, .int .i64 0, .int .i64 0] 59)).alloc (.cells #[.int .i64 1, .int .i64 0, .int .i64 3, .int .i64 0, .int .i64 13, .int .i64 1, .int .i64 0, .int .i64 0, .int .i64 16, .int .i64 0, .int .i64 0, .int .i64 0] 59)) (w1.heap.size + 1 + 1) 0 ((codeK 1).flatMap insE.enc) := by have h := CellsAt.new ((w1.alloc (.cells #[.int .i64 13, .int .i64 2, .int .i64 0, .int .i64 0, .int .i64 16, .int .i64 0, .int .i64 0, .int .i64 0, .int .i64 17, .int .i64 1, .int .i64 1, .int .i64 0, .int .i64 14, .int .i64 0, .int .i64 1, .int .i64 0, .int .i64 15, .int .i64 1, .int .i64 1, .int .i64 1] 59)).alloc (.cells #[.int .i64 16, .int .i64 0, .int .i64 0, .int .i64 0] 59)) #[.int .i64 1, .int .i64 0, .int .i64 3, .int .i64 0, .int .i64 13, .int .i64 1, .int .i64 0, .int .i64 0, .int .i64 16, .int .i64 0, .int .i64 0, .int .i64 0] 59 (0, 0); rw [show ((w1.alloc (.cells #[.int .i64 13, .int .i64 2, .int .i64 0, .int .i64 0, .int .i64 16, .int .i64 0, .int .i64 0, .int .i64 0, .int .i64 17, .int .i64 1, .int .i64 1, .int .i64 0, .int .i64 14, .int .i64 0, .int .i64 1, .int .i64 0, .int .i64 15, .int .i64 1, .int .i64 1, .int .i64 1] 59)).alloc (.cells #[.int .i64 16, .int .i64 0, .int .i64 0, .int .i64 0] 59)).heap.size = w1.heap.size + 1 + 1 from by simp] at h; exact h
 have sg := singleS _ 3 (codeK 1) (w1.heap.size + 1 + 1) 0 3 hcd (by show 3 ≤ 1000; decide)
 have HB2 := Lib.hid hb1
 clear hcd hb1
 have SG := Lib.hid sg; clear sg
 go_wp2_with fail
 refine SG.out.mono ?_
 rintro e w4 ⟨a0, n0, m0, a1, m1, a2, m2, D, rfl, hD4, hpv, hpg, hb4⟩
 have hb4 := HB2.out.trans (hb4.mono HB2.out.size)
 obtain ⟨W, hW⟩ : ∃ W, W = w4.alloc (.cells #[.slice a0 n0 m0, .slice a1 1 m1, .slice a2 1 m2] 27) := ⟨_, rfl⟩
 obtain ⟨hC, hD, hba, bg⟩ := boxS hpv hpg hD4 (by omega) HSB.out HST'.out W hW
 obtain ⟨pb, hpb⟩ : ∃ pb, pb = w4.heap.size := ⟨_, rfl⟩
 rw [← hpb] at hC
 have hW0 := hb4.trans (hba.mono hb4.size)
 obtain ⟨k0, k1, k2, _⟩ := hC W (Below.refl _ _)
 have HW := Lib.hid hW
 have HPB := Lib.hid hpb
 clear hW hpb hba hb4 hpv hpg hD4 HSB HST' SG
 have BG := Lib.hid bg; clear bg
 have HC := Lib.hid hC; clear hC
 have HD := Lib.hid hD; clear hD
 have HW0 := Lib.hid hW0; clear hW0
 go_upto_region 6 with fail
 rw [← HW.out, ← HPB.out]
 go_wp2_with fail
 refine BG.out.mono ?_
 rintro e w6 ⟨mb, tb, F, X, rfl, hT, hF, hMaps, hb6⟩
 clear k0 k1 k2
 have HT := Lib.hid hT; clear hT
 have HF := Lib.hid hF; clear hF
 have HB6 := Lib.hid hb6; clear hb6
 have HMAPS := Lib.hid hMaps; clear hMaps
 obtain ⟨wm, Bm, bm, nm, Vm, Ms, hMs, hmp, hNF, _, hbm⟩ := HMAPS.out
 have hp := fun wr (hw : Below wm.heap.size wm wr) => ptsK 1 hMs (hmp.below hw)
 have hX0 := fun k (hk : X.D k) => (HT.out.out k hk).2
 have HT1 := HT
 have HF1 := HF
 have HB1 := HB6
 have HN1 := Lib.hid hNF
 have HM1 := Lib.hid hbm
 have HX1 := Lib.hid hX0
 clear HT HF HB6 hMs hmp hNF hbm hX0 HMAPS
 have HP := Lib.hid hp; clear hp
 obtain ⟨q0, q1, q2, hg⟩ := HC.out w6 HB1.out
 have st := askStepA HT1.out D (fun k hk => ⟨fun h => by have := HD.out k hk; have := HF1.out k h; omega, by have := HD.out k hk; have := HB1.out.size; omega⟩) _ _ _ (some ⟨mb, 0, none⟩) hg
 clear hg HT1
 have ST := Lib.hid st; clear st
 go_wp2_with fail
 refine ST.out.mono ?_
 rintro e w7 ⟨rfl, F2, X2, hT2, hXD, hF2, hf2⟩
 unfold actV
 have hb7 := HB1.out.trans (hf2.below HB1.out.size (fun q hq => HF1.out q hq))
 have hF3 : ∀ q, F2 q → W.heap.size ≤ q := fun q hq => (hF2 q hq).elim (HF1.out q) (fun h => by have := HB1.out.size; omega)
 have hm7 := HM1.out.trans (hf2.below HM1.out.size (fun q hq => HN1.out q hq))
 have hN3 : ∀ q, F2 q → wm.heap.size ≤ q := fun q hq => (hF2 q hq).elim (HN1.out q) (fun h => by have := HM1.out.size; omega)
 have hX3 : ∀ k, X2.D k → k < w7.heap.size := fun k hk => (hT2.out k hk).2
 clear q0 q1 q2 hF2 hf2 ST HF1 HB1 HM1 HN1 HX1 hXD
 have HT1 := Lib.hid hT2
 have HF1 := Lib.hid hF3
 have HB1 := Lib.hid hb7
 have HN1 := Lib.hid hN3
 have HM1 := Lib.hid hm7
 have HX1 := Lib.hid hX3
 clear hT2 hF3 hb7 hN3 hm7 hX3
 obtain ⟨q0, q1, q2, hg⟩ := HC.out w7 HB1.out
 have st := askStepB HT1.out D (fun k hk => ⟨fun h => by have := HD.out k hk; have := HF1.out k h; omega, by have := HD.out k hk; have := HB1.out.size; omega⟩) _ _ _ (some ⟨mb, 0, none⟩) hg
 clear hg HT1
 have ST := Lib.hid st; clear st
 go_wp2_with fail
 refine ST.out.mono ?_
 rintro e w8 ⟨rfl, F2, X2, hT2, hXD, hF2, hf2⟩
 unfold actV
 have hb7 := HB1.out.trans (hf2.below HB1.out.size (fun q hq => HF1.out q hq))
 have hF3 : ∀ q, F2 q → W.heap.size ≤ q := fun q hq => (hF2 q hq).elim (HF1.out q) (fun h => by have := HB1.out.size; omega)
 have hm7 := HM1.out.trans (hf2.below HM1.out.size (fun q hq => HN1.out q hq))
 have hN3 : ∀ q, F2 q → wm.heap.size ≤ q := fun q hq => (hF2 q hq).elim (HN1.out q) (fun h => by have := HM1.out.size; omega)
 have hX3 : ∀ k, X2.D k → k < w8.heap.size := fun k hk => (hT2.out k hk).2
 clear q0 q1 q2 hF2 hf2 ST HF1 HB1 HM1 HN1 HX1 hXD
 have ha := (Below.refl w8.heap.size w8).alloc (Nat.le_refl _) (.cells #[.int .i64 5, .int .i64 0, .int .i64 0, .int .i64 0, .int .i64 0, .bool false, .slice none 0 0] 63)
 have hr8 := heap_new w8 (.cells #[.int .i64 5, .int .i64 0, .int .i64 0, .int .i64 0, .int .i64 0, .bool false, .slice none 0 0] 63)
 obtain ⟨Y, hY⟩ : ∃ Y, Y = w8.alloc (.cells #[.int .i64 5, .int .i64 0, .int .i64 0, .int .i64 0, .int .i64 0, .bool false, .slice none 0 0] 63) := ⟨_, rfl⟩
 rw [← hY] at ha hr8
 have kk : Y.cell? ⟨w8.heap.size, 0, none⟩ = some (.int .i64 5) := (row_cell hr8 0).1
 have kv : Y.cell? ⟨w8.heap.size, 3, none⟩ = some (.int .i64 0) := (row_cell hr8 3).1
 obtain ⟨z, hz⟩ : ∃ z, z = w8.heap.size := ⟨_, rfl⟩
 rw [← hz] at kk kv
 have HT1 := Lib.hid (hT2.below ha)
 have HF1 := Lib.hid hF3
 have HB1 := Lib.hid (hb7.trans (ha.mono hb7.size))
 have HN1 := Lib.hid hN3
 have HM1 := Lib.hid (hm7.trans (ha.mono hm7.size))
 have HX1 := Lib.hid hX3
 have HY := Lib.hid hY
 have HZ := Lib.hid hz
 clear ha hr8 hY hz hT2 hF3 hb7 hN3 hm7 hX3
 obtain ⟨q0, q1, q2, hg⟩ := HC.out Y HB1.out
 have gv := giveSet13 HT1.out aW1_len (by omega) (by omega) D (fun k hk => ⟨fun h => by have := HD.out k hk; have := HF1.out k h; omega, by have := HD.out k hk; have := HB1.out.size; omega⟩) (codeK 1) _ _ _ hg 1 (by omega) 0 0 rfl 1048576
 clear hg
 have GV := Lib.hid gv; clear gv
 go_upto_region 11 with fail
 rw [← HY.out, ← HZ.out]
 go_wp2_with fail
 refine GV.out.mono ?_
 rintro e w9 ⟨rfl, hT9, hf9⟩
 have hT9 : TaskAt w9 F2 tb (qS (3 : Nat)) (SF (2 : Nat) aW2) X2 := hT9
 have sl := fun wr (hw : Below w9.heap.size w9 wr) => slotS (hT9.below hw) aW2_len (by omega) 1 (by omega) 1048576 rfl
 have sl := sl w9 (Below.refl _ _)
 have hb9 := HB1.out.trans (hf9.below HB1.out.size (fun q hq => HF1.out q hq))
 have hm9 := HM1.out.trans (hf9.below HM1.out.size (fun q hq => HN1.out q hq))
 clear q0 q1 q2 kk kv hf9 GV HT1 HB1 HM1
 have SL := Lib.hid sl; clear sl
 have HT9 := Lib.hid hT9; clear hT9
 have HB9 := Lib.hid hb9; clear hb9
 have HM9 := Lib.hid hm9; clear hm9
 go_wp2_with fail
 refine SL.out.mono ?_
 rintro e w10 ⟨rfl, hb10⟩
 have ha := (Below.refl w10.heap.size w10).alloc (Nat.le_refl _) act0
 have hrA := heap_new w10 act0
 obtain ⟨V, hV⟩ : ∃ V, V = w10.alloc act0 := ⟨_, rfl⟩
 obtain ⟨ab, hab⟩ : ∃ ab, ab = w10.heap.size := ⟨_, rfl⟩
 rw [← hV] at ha hrA
 rw [← hab] at hrA
 have hT10 := HT9.out.below hb10
 have hnF : ¬ F2 ab := fun h => by have := hT10.flt ab h; omega
 have hnX : ∀ k, X2.D k → k ≠ ab := fun k hk e => by have := (hT10.out k hk).2; omega
 have HTV := Lib.hid (hT10.below ha)
 have hb11 := HB9.out.trans (hb10.mono HB9.out.size)
 have hm11 := HM9.out.trans (hb10.mono HM9.out.size)
 have HBV := Lib.hid (hb11.trans (ha.mono hb11.size))
 have HMV := Lib.hid (hm11.trans (ha.mono hm11.size))
 unfold act0 at hV hrA
 have HV := Lib.hid hV
 have HAB := Lib.hid hab
 have HABW := Lib.hid (show W.heap.size ≤ ab ∧ wm.heap.size ≤ ab from ⟨by have := hb11.size; omega, by have := hm11.size; omega⟩)
 have hDab : ∀ k, D k → k ≠ ab := fun k hk e => by have := HD.out k hk; have := hb11.size; omega
 clear ha hV hab hT10 hb10 hb11 hm11 HT9 HB9 HM9
 have HNF := Lib.hid hnF; clear hnF
 have HNX := Lib.hid hnX; clear hnX
 have HRA := Lib.hid hrA; clear hrA
 have HDAB := Lib.hid hDab; clear hDab
 go_upto_region 14 with fail
 rw [← HV.out, ← HAB.out]
 go_wp2_with fail
 go_loopw [14] (fun i wr => ∃ n : Nat, n ≤ tm ∧ i = .int .i64 n ∧ ∃ F X x0 x1 x2 x3 x4 x5 x6, TaskAt wr F tb (qS (3 : Nat)) (SF (2 : Nat) aW2) X ∧ (∀ q, F q → W.heap.size ≤ q) ∧ (∀ q, F q → wm.heap.size ≤ q) ∧ ¬ F ab ∧ (∀ k, X.D k → k ≠ ab) ∧ Below W.heap.size W wr ∧ Below wm.heap.size wm wr ∧ wr.heap[ab]? = some (.cells #[x0, x1, x2, x3, x4, x5, x6] 63) ∧ (0 < n → #[x0, x1, x2, x3, x4, x5, x6] = #[.int .i64 6, .int .i64 0, .int .i64 0, .int .i64 0, .int .i64 0, .bool false, .slice none 0 0])) (fun i _ => tm - (intOf i).toNat)
 case atStart => exact ⟨0, by omega, rfl, F2, X2, _, _, _, _, _, _, _, HTV.out, HF1.out, HN1.out, HNF.out, HNX.out, HBV.out, HMV.out, HRA.out, fun h => absurd h (by omega)⟩
 case round =>
  clear HTV HF1 HN1 HNF HNX HBV HMV HRA
  obtain ⟨n, hn, rfl, F1, X1, x0, x1, x2, x3, x4, x5, x6, hT1, hF1, hN1, hnF, hnX, hB1, hM1, hr1, hrow⟩ := hrel
  by_cases hlt : n < tm
  ·obtain ⟨n1, hnq⟩ : ∃ n1, n1 = n + 1 := ⟨_, rfl⟩
   have i1 : IntKind.i64.wrap ((n : Int) + 1) = (n1 : Int) := by rw [show ((n : Int) + 1) = (n1 : Int) from by omega]; exact IntWalk.i64_in _ (by omega)
   obtain ⟨q0, q1, q2, hg⟩ := HC.out wr hB1
   have st := askStep1 hT1 D (fun k hk => ⟨fun h => by have := HD.out k hk; have := hF1 k h; omega, by have := HD.out k hk; have := hB1.size; omega⟩) _ _ _ mb hg (fun wx hx => HP.out wx (hM1.trans (hx.mono hM1.size)))
   have hablt := heap_lt hr1
   have hle : n1 ≤ tm := by omega
   clear hT1 hg hrow
   have ST := Lib.hid st; clear st
   have HF1 := Lib.hid hF1; clear hF1
   have HN1 := Lib.hid hN1; clear hN1
   have HNF := Lib.hid hnF; clear hnF
   have HNX := Lib.hid hnX; clear hnX
   have HB1 := Lib.hid hB1; clear hB1
   have HM1 := Lib.hid hM1; clear hM1
   have HR1 := Lib.hid hr1; clear hr1
   have HNQ := Lib.hid hnq; clear hnq
   have HABLT := Lib.hid hablt; clear hablt
   go_wp2_with fail
   refine ST.out.mono ?_
   rintro e w12 ⟨rfl, F3, X3, hT3, hXD, hF3, hf3⟩
   have hr2 := hf3.heap HR1.out HNF.out
   obtain ⟨⟨z0, z1, z2, z3, z4, z5, z6⟩, m0, m1, m2, m3, m4, m5, m6⟩ := seven_cells hr2
   unfold actV
   have hfs := seven_fr w12 (.int .i64 6) (.int .i64 0) (.int .i64 0) (.int .i64 0) (.int .i64 0) (.bool false) (.slice none 0 0) ab
   have hrs := seven_row hr2 (.int .i64 6) (.int .i64 0) (.int .i64 0) (.int .i64 0) (.int .i64 0) (.bool false) (.slice none 0 0)
   have hnF3 : ¬ F3 ab := fun h => (hF3 ab h).elim HNF.out (fun h => by have := HABLT.out; omega)
   have hnX3 : ∀ k, X3.D k → k ≠ ab := fun k hk => HNX.out k (by rw [← hXD]; exact hk)
   obtain ⟨U, hU⟩ : ∃ U, U = (((((((w12.setCell ⟨ab, 0, none⟩ (.int .i64 6)).setCell ⟨ab, 1, none⟩ (.int .i64 0)).setCell ⟨ab, 2, none⟩ (.int .i64 0)).setCell ⟨ab, 3, none⟩ (.int .i64 0)).setCell ⟨ab, 4, none⟩ (.int .i64 0)).setCell ⟨ab, 5, none⟩ (.bool false)).setCell ⟨ab, 6, none⟩ (.slice none 0 0)) := ⟨_, rfl⟩
   rw [← hU] at hfs hrs
   have hT4 := hT3.fr hfs (fun k hk e => hnF3 (by have e : k = ab := e; rw [← e]; exact hk)) (fun k hk e => hnX3 k hk e)
   have hBw : W.heap.size ≤ ab ∧ wm.heap.size ≤ ab := ⟨HABW.out.1, HABW.out.2⟩
   have hB4 := (HB1.out.trans (hf3.below HB1.out.size (fun q hq => HF1.out q hq))).trans (hfs.below (Nat.le_trans HB1.out.size hf3.size) (fun k e => by have e : k = ab := e; omega))
   have hM4 := (HM1.out.trans (hf3.below HM1.out.size (fun q hq => HN1.out q hq))).trans (hfs.below (Nat.le_trans HM1.out.size hf3.size) (fun k e => by have e : k = ab := e; omega))
   have hF4 : ∀ q, F3 q → W.heap.size ≤ q := fun q hq => (hF3 q hq).elim (HF1.out q) (fun h => by have := HB1.out.size; omega)
   have hN4 : ∀ q, F3 q → wm.heap.size ≤ q := fun q hq => (hF3 q hq).elim (HN1.out q) (fun h => by have := HM1.out.size; omega)
   have HU := Lib.hid hU
   clear hU hfs hf3 hF3 hT3 hXD hBw hr2
   go_upto_region 18 with fail
   rw [← HU.out]
   clear z0 z1 z2 z3 z4 z5 z6 m0 m1 m2 m3 m4 m5 m6 q0 q1 q2
   have kk : U.cell? ⟨ab, 0, none⟩ = some (.int .i64 6) := (row_cell hrs 0).1
   have HKK := Lib.hid (fun wr (hw : Below U.heap.size U wr) => And.intro (below_cell hw kk) True.intro)
   have pc := fun wr (hw : Below U.heap.size U wr) => (pcS (hT4.below hw)).mono (fun e w' he => (show e = .returned (.int .i64 2) ∧ Below wr.heap.size wr w' from ⟨he.1, by obtain ⟨m, hm⟩ := he.2; rw [hm]; exact below_drewN (Below.refl _ _) m⟩))
   have s0 := fun wr (hw : Below U.heap.size U wr) => slotS (hT4.below hw) aW2_len (by omega) 0 (by omega) 3 rfl
   have s1 := fun wr (hw : Below U.heap.size U wr) => slotS (hT4.below hw) aW2_len (by omega) 1 (by omega) 1048576 rfl
   have ask := fun wr => asks_any wr 6
   clear kk
   have PC := Lib.hid pc; clear pc
   have S0 := Lib.hid s0; clear s0
   have S1 := Lib.hid s1; clear s1
   have AS := Lib.hid ask; clear ask
   have HT4 := Lib.hid hT4; clear hT4
   have HB4 := Lib.hid hB4; clear hB4
   have HM4 := Lib.hid hM4; clear hM4
   have HF4 := Lib.hid hF4; clear hF4
   have HN4 := Lib.hid hN4; clear hN4
   have HRS := Lib.hid hrs; clear hrs
   have HNF3 := Lib.hid hnF3; clear hnF3
   have HNX3 := Lib.hid hnX3; clear hnX3
   refine wp_region_noPanic ?_
   refine wp_region_held_drew (S := fun w' => Below U.heap.size U w') (by kernel_rfl) (Below.refl _ _).drew (fun _ => ?_)
   have HR1 := Lib.hid (Below.refl U.heap.size U).drew
   generalize U.drew = r1 at *
   refine wpAnyH_take (i := 0) (v := ?_) rfl (by kernel_rfl) (by kernel_rfl) (by kernel_rfl) (fun _ _ _ h => h) (Or.inl ⟨by kernel_rfl, ?tq1⟩) HR1.out ?_
   case tq1 => (intro wq hq; obtain ⟨f0, f1⟩ := HKK.out wq hq; go_simp; first | done | with_reducible rfl)
   refine wpAnyH_take (i := 1) (v := ?_) rfl (by kernel_rfl) (by kernel_rfl) (by kernel_rfl) (fun _ _ _ h => h) (Or.inl ⟨by kernel_rfl, ?tq2⟩) HR1.out ?_
   case tq2 => (intro wq hq; obtain ⟨f0, f1⟩ := HKK.out wq hq; go_simp; first | done | with_reducible rfl)
   refine wpAnyH_take (i := 3) (v := ?_) rfl (by kernel_rfl) (by kernel_rfl) (by kernel_rfl) (fun _ _ _ h => h) (Or.inl ⟨by kernel_rfl, ?tq3⟩) HR1.out ?_
   case tq3 => (intro wq hq; obtain ⟨f0, f1⟩ := HKK.out wq hq; go_simp; first | done | with_reducible rfl)
   refine wpAnyH_ready (rs := [2]) (by kernel_rfl) (by simp) ?_
   refine (AllReadyH.cons rfl (fun K hK => ?_) AllReadyH.nil)
   go_simp
   obtain ⟨r2, hr⟩ : ∃ r, r = r1.alloc (.cells #[.int .i64 5, .int .i64 6, .int .i64 7, .int .i64 3, .int .i64 4] 3) := ⟨_, rfl⟩
   obtain ⟨y, hy⟩ : ∃ y, y = r1.heap.size := ⟨_, rfl⟩
   have hl : r2.heap[y]? = some (.cells #[.int .i64 5, .int .i64 6, .int .i64 7, .int .i64 3, .int .i64 4] 3) := by rw [hr, hy]; exact heap_new _ _
   have hb : Below r1.heap.size r1 r2 := by rw [hr]; exact (Below.refl _ _).alloc (Nat.le_refl _) _
   rw [← hr, ← hy]
   have HR2 := Lib.hid (HR1.out.trans (hb.mono HR1.out.size))
   have HY := Lib.hid hl
   clear hl hb hr hy
   refine hK.out _ _ HR2.out (fun _ => ?_)
   clear hK K
   refine wpAnyH_take (i := 4) (v := ?_) rfl (by kernel_rfl) (by kernel_rfl) (by kernel_rfl) (fun _ _ _ h => h) (Or.inl ⟨by kernel_rfl, ?tq4⟩) HR2.out ?_
   case tq4 => (intro wq hq; obtain ⟨f0, f1⟩ := HKK.out wq hq; go_simp; first | done | with_reducible rfl)
   refine wpAnyH_ready (rs := [5]) (by kernel_rfl) (by simp) ?_
   refine (AllReadyH.cons rfl (fun K hK => ?_) AllReadyH.nil)
   have ky := (row_cell HY.out 1).1
   simp only [List.getElem?_toArray, List.getElem?_cons_zero, List.getElem?_cons_succ] at ky
   go_simp
   clear ky
   refine hK.out _ _ HR2.out (fun _ => ?_)
   clear hK K
   refine wpAnyH_take (i := 6) (v := ?_) rfl (by kernel_rfl) (by kernel_rfl) (by kernel_rfl) (fun _ _ _ h => h) (Or.inl ⟨by kernel_rfl, ?tq5⟩) HR2.out ?_
   case tq5 => (intro wq hq; obtain ⟨f0, f1⟩ := HKK.out wq hq; go_simp; first | done | with_reducible rfl)
   refine wpAnyH_take (i := 7) (v := ?_) rfl (by kernel_rfl) (by kernel_rfl) (by kernel_rfl) (fun _ _ _ h => h) (Or.inl ⟨by kernel_rfl, ?tq6⟩) HR2.out ?_
   case tq6 => (intro wq hq; obtain ⟨f0, f1⟩ := HKK.out wq hq; go_simp; first | done | with_reducible rfl)
   refine wpAnyH_take (i := 8) (v := ?_) rfl (by kernel_rfl) (by kernel_rfl) (by kernel_rfl) (fun _ _ _ h => h) (Or.inl ⟨by kernel_rfl, ?tq7⟩) HR2.out ?_
   case tq7 => (intro wq hq; obtain ⟨f0, f1⟩ := HKK.out wq hq; go_simp; first | done | with_reducible rfl)
   refine wpAnyH_take (i := 9) (v := ?_) rfl (by kernel_rfl) (by kernel_rfl) (by kernel_rfl) (fun _ _ _ h => h) (Or.inl ⟨by kernel_rfl, ?tq8⟩) HR2.out ?_
   case tq8 => (intro wq hq; obtain ⟨f0, f1⟩ := HKK.out wq hq; go_simp; first | done | with_reducible rfl)
   refine wpAnyH_ready (rs := [10]) (by kernel_rfl) (by simp) ?_
   refine (AllReadyH.cons rfl (fun K hK => ?_) AllReadyH.nil)
   go_simp
   go_at_call 36
   refine (AS.out r2).mono ?_
   rintro e w' ⟨rfl, rfl⟩
   refine hK.out _ _ HR2.out (fun _ => ?_)
   clear hK K
   refine wpAnyH_take (i := 11) (v := ?_) rfl (by kernel_rfl) (by kernel_rfl) (by kernel_rfl) (fun _ _ _ h => h) (Or.inl ⟨by kernel_rfl, ?tq9⟩) HR2.out ?_
   case tq9 => (intro wq hq; obtain ⟨f0, f1⟩ := HKK.out wq hq; go_simp; first | done | with_reducible rfl)
   refine wpAnyH_take (i := 12) (v := ?_) rfl (by kernel_rfl) (by kernel_rfl) (by kernel_rfl) (fun _ _ _ h => h) (Or.inl ⟨by kernel_rfl, ?tq10⟩) HR2.out ?_
   case tq10 => (intro wq hq; obtain ⟨f0, f1⟩ := HKK.out wq hq; go_simp; first | done | with_reducible rfl)
   refine wpAnyH_take (i := 13) (v := ?_) rfl (by kernel_rfl) (by kernel_rfl) (by kernel_rfl) (fun _ _ _ h => h) (Or.inl ⟨by kernel_rfl, ?tq11⟩) HR2.out ?_
   case tq11 => (intro wq hq; obtain ⟨f0, f1⟩ := HKK.out wq hq; go_simp; first | done | with_reducible rfl)
   refine wpAnyH_take (i := 14) (v := ?_) rfl (by kernel_rfl) (by kernel_rfl) (by kernel_rfl) (fun _ _ _ h => h) (Or.inl ⟨by kernel_rfl, ?tq12⟩) HR2.out ?_
   case tq12 => (intro wq hq; obtain ⟨f0, f1⟩ := HKK.out wq hq; go_simp; first | done | with_reducible rfl)
   refine wpAnyH_ready (rs := [15]) (by kernel_rfl) (by simp) ?_
   refine (AllReadyH.cons rfl (fun K hK => ?_) AllReadyH.nil)
   go_simp
   go_at_call 31
   refine (PC.out r2 HR2.out).mono ?_
   rintro e r3 ⟨rfl, hb⟩
   have HR3 := Lib.hid (HR2.out.trans (hb.mono HR2.out.size))
   have HY := Lib.hid ((Fr.of_below hb (fun _ => False)).heap HY.out (fun h => h))
   clear hb
   refine hK.out _ _ HR3.out (fun _ => ?_)
   clear hK K
   refine wpAnyH_take (i := 16) (v := ?_) rfl (by kernel_rfl) (by kernel_rfl) (by kernel_rfl) (fun _ _ _ h => h) (Or.inl ⟨by kernel_rfl, ?tq13⟩) HR3.out ?_
   case tq13 => (intro wq hq; obtain ⟨f0, f1⟩ := HKK.out wq hq; go_simp; first | done | with_reducible rfl)
   refine wpAnyH_take (i := 17) (v := ?_) rfl (by kernel_rfl) (by kernel_rfl) (by kernel_rfl) (fun _ _ _ h => h) (Or.inl ⟨by kernel_rfl, ?tq14⟩) HR3.out ?_
   case tq14 => (intro wq hq; obtain ⟨f0, f1⟩ := HKK.out wq hq; go_simp; first | done | with_reducible rfl)
   refine wpAnyH_take (i := 18) (v := ?_) rfl (by kernel_rfl) (by kernel_rfl) (by kernel_rfl) (fun _ _ _ h => h) (Or.inl ⟨by kernel_rfl, ?tq15⟩) HR3.out ?_
   case tq15 => (intro wq hq; obtain ⟨f0, f1⟩ := HKK.out wq hq; go_simp; first | done | with_reducible rfl)
   refine wpAnyH_take (i := 19) (v := ?_) rfl (by kernel_rfl) (by kernel_rfl) (by kernel_rfl) (fun _ _ _ h => h) (Or.inl ⟨by kernel_rfl, ?tq16⟩) HR3.out ?_
   case tq16 => (intro wq hq; obtain ⟨f0, f1⟩ := HKK.out wq hq; go_simp; first | done | with_reducible rfl)
   refine wpAnyH_ready (rs := [20]) (by kernel_rfl) (by simp) ?_
   refine (AllReadyH.cons rfl (fun K hK => ?_) AllReadyH.nil)
   go_simp
   go_at_call 33
   refine (S0.out r3 HR3.out).mono ?_
   rintro e r4 ⟨rfl, hb⟩
   have HR4 := Lib.hid (HR3.out.trans (hb.mono HR3.out.size))
   have HY := Lib.hid ((Fr.of_below hb (fun _ => False)).heap HY.out (fun h => h))
   clear hb
   refine hK.out _ _ HR4.out (fun _ => ?_)
   clear hK K
   refine wpAnyH_take (i := 21) (v := ?_) rfl (by kernel_rfl) (by kernel_rfl) (by kernel_rfl) (fun _ _ _ h => h) (Or.inl ⟨by kernel_rfl, ?tq17⟩) HR4.out ?_
   case tq17 => (intro wq hq; obtain ⟨f0, f1⟩ := HKK.out wq hq; go_simp; first | done | with_reducible rfl)
   refine wpAnyH_take (i := 22) (v := ?_) rfl (by kernel_rfl) (by kernel_rfl) (by kernel_rfl) (fun _ _ _ h => h) (Or.inl ⟨by kernel_rfl, ?tq18⟩) HR4.out ?_
   case tq18 => (intro wq hq; obtain ⟨f0, f1⟩ := HKK.out wq hq; go_simp; first | done | with_reducible rfl)
   refine wpAnyH_take (i := 23) (v := ?_) rfl (by kernel_rfl) (by kernel_rfl) (by kernel_rfl) (fun _ _ _ h => h) (Or.inl ⟨by kernel_rfl, ?tq19⟩) HR4.out ?_
   case tq19 => (intro wq hq; obtain ⟨f0, f1⟩ := HKK.out wq hq; go_simp; first | done | with_reducible rfl)
   refine wpAnyH_take (i := 24) (v := ?_) rfl (by kernel_rfl) (by kernel_rfl) (by kernel_rfl) (fun _ _ _ h => h) (Or.inl ⟨by kernel_rfl, ?tq20⟩) HR4.out ?_
   case tq20 => (intro wq hq; obtain ⟨f0, f1⟩ := HKK.out wq hq; go_simp; first | done | with_reducible rfl)
   refine wpAnyH_ready (rs := [25]) (by kernel_rfl) (by simp) ?_
   refine (AllReadyH.cons rfl (fun K hK => ?_) AllReadyH.nil)
   go_simp
   go_at_call 33
   refine (S1.out r4 HR4.out).mono ?_
   rintro e r5 ⟨rfl, hb⟩
   have HR5 := Lib.hid (HR4.out.trans (hb.mono HR4.out.size))
   have HY := Lib.hid ((Fr.of_below hb (fun _ => False)).heap HY.out (fun h => h))
   clear hb
   refine hK.out _ _ HR5.out (fun _ => ?_)
   clear hK K
   refine wpAnyH_take (i := 26) (v := ?_) rfl (by kernel_rfl) (by kernel_rfl) (by kernel_rfl) (fun _ _ _ h => h) (Or.inl ⟨by kernel_rfl, ?tq21⟩) HR5.out ?_
   case tq21 => (intro wq hq; obtain ⟨f0, f1⟩ := HKK.out wq hq; go_simp; first | done | with_reducible rfl)
   refine wpAnyH_take (i := 27) (v := ?_) rfl (by kernel_rfl) (by kernel_rfl) (by kernel_rfl) (fun _ _ _ h => h) (Or.inl ⟨by kernel_rfl, ?tq22⟩) HR5.out ?_
   case tq22 => (intro wq hq; obtain ⟨f0, f1⟩ := HKK.out wq hq; go_simp; first | done | with_reducible rfl)
   refine wpAnyH_done (by kernel_rfl) ?_ _
   refine NoPanic.normal ?_
   go_wp2_with fail
   go_roundw
   case rel => exact ⟨n1, hle, by go_num, F3, X3, _, _, _, _, _, _, _, HT4.out.below HR5.out, HF4.out, HN4.out, HNF3.out, HNX3.out, HB4.out.trans (HR5.out.mono HB4.out.size), HM4.out.trans (HR5.out.mono HM4.out.size), (Fr.of_below HR5.out (fun _ => False)).heap HRS.out (fun h => h), fun _ => rfl⟩
   case measure => have := HNQ.out; simp [intOf]; omega
  ·have hn' : n = tm := by omega
   have hrow := hrow (by omega)
   simp only [Array.mk.injEq, List.cons.injEq, and_true] at hrow
   obtain ⟨rfl, rfl, rfl, rfl, rfl, rfl, rfl⟩ := hrow
   subst hn'
   obtain ⟨⟨z0, z1, z2, z3, z4, z5, z6⟩, _⟩ := seven_cells hr1
   obtain ⟨q0, q1, q2, hg⟩ := HC.out wr hB1
   have gv := giveSet16 hT1 aW2_len (by omega) (by omega) D (fun k hk => ⟨fun h => by have := HD.out k hk; have := hF1 k h; omega, by have := HD.out k hk; have := hB1.size; omega⟩) (codeK 1) _ _ _ hg 0 (by omega) 0 0 rfl v
   clear hg hr1 hM1 hN1 hnF hnX hT1
   have GV := Lib.hid gv; clear gv
   have HF1 := Lib.hid hF1; clear hF1
   have HB1 := Lib.hid hB1; clear hB1
   go_upto_region 22 with fail
   clear z0 z1 z2 z3 z4 z5 z6
   go_wp2_with fail
   refine GV.out.mono ?_
   rintro e w12 ⟨rfl, hT3, hf3⟩
   have hT3 : TaskAt w12 F1 tb (qS (3 : Nat)) (SF (3 : Nat) (aW2.set 2 v)) X1 := hT3
   have pc := pcS hT3
   have hB3 := HB1.out.trans (hf3.below HB1.out.size (fun q hq => HF1.out q hq))
   clear q0 q1 q2 hf3 GV
   have PC := Lib.hid pc; clear pc
   have HT3 := Lib.hid hT3; clear hT3
   have HB3 := Lib.hid hB3; clear hB3
   go_wp2_with fail
   refine PC.out.mono ?_
   rintro e w13 ⟨rfl, mq, rfl⟩
   have hT4 := HT3.out.below (below_drewN (Below.refl _ _) mq)
   have hB4 := below_drewN HB3.out mq
   obtain ⟨q0, q1, q2, hg⟩ := HC.out _ hB4
   have gn := giveNoS hT4 D (fun k hk => ⟨fun h => by have := HD.out k hk; have := HF1.out k h; omega, by have := HD.out k hk; have := hB4.size; omega⟩) (codeK 1) _ _ _ hg rfl v
   clear hg PC HT3 HB3
   have GN := Lib.hid gn; clear gn
   have HT4 := Lib.hid hT4; clear hT4
   have HB4 := Lib.hid hB4; clear hB4
   go_wp2_with fail
   refine GN.out.mono ?_
   rintro e w14 ⟨rfl, hb14⟩
   clear q0 q1 q2
   have ha := (Below.refl w14.heap.size w14).alloc (Nat.le_refl _) (.cells #[.int .i64 3, .int .i64 1048576, .int .i64 0] 3)
   have hra : (w14.alloc (.cells #[.int .i64 3, .int .i64 1048576, .int .i64 0] 3)).heap[w14.heap.size]? = some (intRow [3, 1048576, 0] 3) := heap_new w14 _
   obtain ⟨Q, hQ⟩ : ∃ Q, Q = w14.alloc (.cells #[.int .i64 3, .int .i64 1048576, .int .i64 0] 3) := ⟨_, rfl⟩
   obtain ⟨z, hz⟩ : ∃ z, z = w14.heap.size := ⟨_, rfl⟩
   rw [← hQ] at ha hra
   rw [← hz] at hra
   have c0 : Q.cell? ⟨z, 0, none⟩ = some (.int .i64 3) := (row_cell hra 0).1
   have c2' : Q.cell? ⟨z, 2, none⟩ = some (.int .i64 0) := (row_cell hra 2).1
   have f0 : Q.frozen? ⟨z, 0, none⟩ = false := (row_cell hra 0).2
   have f2 : Q.frozen? ⟨z, 2, none⟩ = false := (row_cell hra 2).2
   have hT5 := (HT4.out.below hb14).below ha
   have hB5 := HB4.out.trans (hb14.mono HB4.out.size)
   have hB6 := hB5.trans (ha.mono hB5.size)
   have hzF : ∀ k, F1 k → k ≠ z := fun k hk e => by have := (HT4.out.below hb14).flt k hk; omega
   have hzX : ∀ k, X1.D k → k ≠ z := fun k hk e => by have := ((HT4.out.below hb14).out k hk).2; omega
   have hzW : W.heap.size ≤ z := by have := hB5.size; omega
   have HQ := Lib.hid hQ
   have HZ := Lib.hid hz
   clear hQ hz hb14 hB5 ha GN HT4 HB4
   have HT5 := Lib.hid hT5; clear hT5
   have HB6 := Lib.hid hB6; clear hB6
   have HRA := Lib.hid hra; clear hra
   have HZF := Lib.hid hzF; clear hzF
   have HZX := Lib.hid hzX; clear hzX
   have HZW := Lib.hid hzW; clear hzW
   go_upto_region 25 with fail
   rw [← HQ.out, ← HZ.out]
   go_upto_region 31 with fail
   obtain ⟨U2, hU2⟩ : ∃ U2, U2 = Q.setCell ⟨z, 0, none⟩ (.int .i64 v) := ⟨_, rfl⟩
   have hfU : Fr (fun k => k = z) Q U2 := by rw [hU2]; exact (Fr.refl (fun k => k = z) Q).setCell (p := ⟨z, 0, none⟩) (fun _ => rfl) _
   have hrU : U2.heap[z]? = some (intRow [v, 1048576, 0] 3) := by rw [hU2]; exact intRow_set HRA.out 0 v
   have hT6 := HT5.out.fr hfU (fun k hk e => HZF.out k hk e) (fun k hk e => HZX.out k hk e)
   have hB7 := HB6.out.trans (hfU.below HB6.out.size (fun k e => by have e : k = z := e; have := HZW.out; omega))
   rw [← hU2]
   clear hU2 hfU c0 c2' f0 f2 HT5 HB6
   have r0 : U2.cell? ⟨z, 0, none⟩ = some (.int .i64 v) := (row_cell hrU 0).1
   have r1 : U2.cell? ⟨z, 1, none⟩ = some (.int .i64 1048576) := (row_cell hrU 1).1
   have r2 : U2.cell? ⟨z, 2, none⟩ = some (.int .i64 0) := (row_cell hrU 2).1
   have HKK := Lib.hid (fun wr (hw : Below U2.heap.size U2 wr) => And.intro (below_cell hw r0) (And.intro (below_cell hw r1) (below_cell hw r2)))
   have hlw : (aW2.set 2 v).length = 64 := by rw [List.length_set]; exact aW2_len
   have s0 := fun wr (hw : Below U2.heap.size U2 wr) => slotS (hT6.below hw) hlw (by omega) 0 (by omega) v rfl
   have s1 := fun wr (hw : Below U2.heap.size U2 wr) => slotS (hT6.below hw) hlw (by omega) 1 (by omega) 1048576 rfl
   have s2 := fun wr (hw : Below U2.heap.size U2 wr) => slotS (hT6.below hw) hlw (by omega) 2 (by omega) 0 rfl
   have hB8 := HW0.out.trans (hB7.mono HW0.out.size)
   clear r0 r1 r2 hT6 hB7 hlw hrU
   have S0 := Lib.hid s0; clear s0
   have S1 := Lib.hid s1; clear s1
   have S2 := Lib.hid s2; clear s2
   have HB8 := Lib.hid hB8; clear hB8
   clear hrow sl hT9 hT3
   refine wp_region_noPanic ?_
   refine wp_region_held_drew (S := fun w' => Below U2.heap.size U2 w') (by kernel_rfl) (Below.refl _ _).drew (fun _ => ?_)
   have HR1 := Lib.hid (Below.refl U2.heap.size U2).drew
   generalize U2.drew = r1 at *
   refine wpAnyH_take (i := 0) (v := ?_) rfl (by kernel_rfl) (by kernel_rfl) (by kernel_rfl) (fun _ _ _ h => h) (Or.inl ⟨by kernel_rfl, ?tq1⟩) HR1.out ?_
   case tq1 => (intro wq hq; obtain ⟨f0, f1, f2⟩ := HKK.out wq hq; go_simp; first | done | with_reducible rfl)
   refine wpAnyH_take (i := 2) (v := ?_) rfl (by kernel_rfl) (by kernel_rfl) (by kernel_rfl) (fun _ _ _ h => h) (Or.inl ⟨by kernel_rfl, ?tq2⟩) HR1.out ?_
   case tq2 => (intro wq hq; obtain ⟨f0, f1, f2⟩ := HKK.out wq hq; go_simp; first | done | with_reducible rfl)
   refine wpAnyH_take (i := 3) (v := ?_) rfl (by kernel_rfl) (by kernel_rfl) (by kernel_rfl) (fun _ _ _ h => h) (Or.inl ⟨by kernel_rfl, ?tq3⟩) HR1.out ?_
   case tq3 => (intro wq hq; obtain ⟨f0, f1, f2⟩ := HKK.out wq hq; go_simp; first | done | with_reducible rfl)
   refine wpAnyH_take (i := 4) (v := ?_) rfl (by kernel_rfl) (by kernel_rfl) (by kernel_rfl) (fun _ _ _ h => h) (Or.inl ⟨by kernel_rfl, ?tq4⟩) HR1.out ?_
   case tq4 => (intro wq hq; obtain ⟨f0, f1, f2⟩ := HKK.out wq hq; go_simp; first | done | with_reducible rfl)
   refine wpAnyH_ready (rs := [1]) (by kernel_rfl) (by simp) ?_
   refine (AllReadyH.cons rfl (fun K hK => ?_) AllReadyH.nil)
   go_simp
   go_at_call 33
   refine (S0.out r1 HR1.out).mono ?_
   rintro e r2 ⟨rfl, hb⟩
   have HR2 := Lib.hid (HR1.out.trans (hb.mono HR1.out.size))
   clear hb
   refine hK.out _ _ HR2.out (fun _ => ?_)
   clear hK K
   refine wpAnyH_take (i := 5) (v := ?_) rfl (by kernel_rfl) (by kernel_rfl) (by kernel_rfl) (fun _ _ _ h => h) (Or.inl ⟨by kernel_rfl, ?tq5⟩) HR2.out ?_
   case tq5 => (intro wq hq; obtain ⟨f0, f1, f2⟩ := HKK.out wq hq; go_simp; first | done | with_reducible rfl)
   refine wpAnyH_take (i := 6) (v := ?_) rfl (by kernel_rfl) (by kernel_rfl) (by kernel_rfl) (fun _ _ _ h => h) (Or.inl ⟨by kernel_rfl, ?tq6⟩) HR2.out ?_
   case tq6 => (intro wq hq; obtain ⟨f0, f1, f2⟩ := HKK.out wq hq; go_simp; first | done | with_reducible rfl)
   refine wpAnyH_take (i := 7) (v := ?_) rfl (by kernel_rfl) (by kernel_rfl) (by kernel_rfl) (fun _ _ _ h => h) (Or.inl ⟨by kernel_rfl, ?tq7⟩) HR2.out ?_
   case tq7 => (intro wq hq; obtain ⟨f0, f1, f2⟩ := HKK.out wq hq; go_simp; first | done | with_reducible rfl)
   refine wpAnyH_take (i := 9) (v := ?_) rfl (by kernel_rfl) (by kernel_rfl) (by kernel_rfl) (fun _ _ _ h => h) (Or.inl ⟨by kernel_rfl, ?tq8⟩) HR2.out ?_
   case tq8 => (intro wq hq; obtain ⟨f0, f1, f2⟩ := HKK.out wq hq; go_simp; first | done | with_reducible rfl)
   refine wpAnyH_take (i := 10) (v := ?_) rfl (by kernel_rfl) (by kernel_rfl) (by kernel_rfl) (fun _ _ _ h => h) (Or.inl ⟨by kernel_rfl, ?tq9⟩) HR2.out ?_
   case tq9 => (intro wq hq; obtain ⟨f0, f1, f2⟩ := HKK.out wq hq; go_simp; first | done | with_reducible rfl)
   refine wpAnyH_take (i := 11) (v := ?_) rfl (by kernel_rfl) (by kernel_rfl) (by kernel_rfl) (fun _ _ _ h => h) (Or.inl ⟨by kernel_rfl, ?tq10⟩) HR2.out ?_
   case tq10 => (intro wq hq; obtain ⟨f0, f1, f2⟩ := HKK.out wq hq; go_simp; first | done | with_reducible rfl)
   refine wpAnyH_ready (rs := [8]) (by kernel_rfl) (by simp) ?_
   refine (AllReadyH.cons rfl (fun K hK => ?_) AllReadyH.nil)
   go_simp
   go_at_call 33
   refine (S1.out r2 HR2.out).mono ?_
   rintro e r3 ⟨rfl, hb⟩
   have HR3 := Lib.hid (HR2.out.trans (hb.mono HR2.out.size))
   clear hb
   refine hK.out _ _ HR3.out (fun _ => ?_)
   clear hK K
   refine wpAnyH_take (i := 12) (v := ?_) rfl (by kernel_rfl) (by kernel_rfl) (by kernel_rfl) (fun _ _ _ h => h) (Or.inl ⟨by kernel_rfl, ?tq11⟩) HR3.out ?_
   case tq11 => (intro wq hq; obtain ⟨f0, f1, f2⟩ := HKK.out wq hq; go_simp; first | done | with_reducible rfl)
   refine wpAnyH_take (i := 13) (v := ?_) rfl (by kernel_rfl) (by kernel_rfl) (by kernel_rfl) (fun _ _ _ h => h) (Or.inl ⟨by kernel_rfl, ?tq12⟩) HR3.out ?_
   case tq12 => (intro wq hq; obtain ⟨f0, f1, f2⟩ := HKK.out wq hq; go_simp; first | done | with_reducible rfl)
   refine wpAnyH_take (i := 14) (v := ?_) rfl (by kernel_rfl) (by kernel_rfl) (by kernel_rfl) (fun _ _ _ h => h) (Or.inl ⟨by kernel_rfl, ?tq13⟩) HR3.out ?_
   case tq13 => (intro wq hq; obtain ⟨f0, f1, f2⟩ := HKK.out wq hq; go_simp; first | done | with_reducible rfl)
   refine wpAnyH_take (i := 15) (v := ?_) rfl (by kernel_rfl) (by kernel_rfl) (by kernel_rfl) (fun _ _ _ h => h) (Or.inl ⟨by kernel_rfl, ?tq14⟩) HR3.out ?_
   case tq14 => (intro wq hq; obtain ⟨f0, f1, f2⟩ := HKK.out wq hq; go_simp; first | done | with_reducible rfl)
   refine wpAnyH_take (i := 17) (v := ?_) rfl (by kernel_rfl) (by kernel_rfl) (by kernel_rfl) (fun _ _ _ h => h) (Or.inl ⟨by kernel_rfl, ?tq15⟩) HR3.out ?_
   case tq15 => (intro wq hq; obtain ⟨f0, f1, f2⟩ := HKK.out wq hq; go_simp; first | done | with_reducible rfl)
   refine wpAnyH_take (i := 18) (v := ?_) rfl (by kernel_rfl) (by kernel_rfl) (by kernel_rfl) (fun _ _ _ h => h) (Or.inl ⟨by kernel_rfl, ?tq16⟩) HR3.out ?_
   case tq16 => (intro wq hq; obtain ⟨f0, f1, f2⟩ := HKK.out wq hq; go_simp; first | done | with_reducible rfl)
   refine wpAnyH_take (i := 19) (v := ?_) rfl (by kernel_rfl) (by kernel_rfl) (by kernel_rfl) (fun _ _ _ h => h) (Or.inl ⟨by kernel_rfl, ?tq17⟩) HR3.out ?_
   case tq17 => (intro wq hq; obtain ⟨f0, f1, f2⟩ := HKK.out wq hq; go_simp; first | done | with_reducible rfl)
   refine wpAnyH_ready (rs := [16]) (by kernel_rfl) (by simp) ?_
   refine (AllReadyH.cons rfl (fun K hK => ?_) AllReadyH.nil)
   go_simp
   go_at_call 33
   refine (S2.out r3 HR3.out).mono ?_
   rintro e r4 ⟨rfl, hb⟩
   have HR4 := Lib.hid (HR3.out.trans (hb.mono HR3.out.size))
   clear hb
   refine hK.out _ _ HR4.out (fun _ => ?_)
   clear hK K
   refine wpAnyH_take (i := 20) (v := ?_) rfl (by kernel_rfl) (by kernel_rfl) (by kernel_rfl) (fun _ _ _ h => h) (Or.inl ⟨by kernel_rfl, ?tq18⟩) HR4.out ?_
   case tq18 => (intro wq hq; obtain ⟨f0, f1, f2⟩ := HKK.out wq hq; go_simp; first | done | with_reducible rfl)
   refine wpAnyH_take (i := 21) (v := ?_) rfl (by kernel_rfl) (by kernel_rfl) (by kernel_rfl) (fun _ _ _ h => h) (Or.inl ⟨by kernel_rfl, ?tq19⟩) HR4.out ?_
   case tq19 => (intro wq hq; obtain ⟨f0, f1, f2⟩ := HKK.out wq hq; go_simp; first | done | with_reducible rfl)
   refine wpAnyH_ready (rs := [22]) (by kernel_rfl) (by simp) ?_
   refine (AllReadyH.cons rfl (fun K hK => ?_) AllReadyH.nil)
   go_simp
   refine hK.out _ _ HR4.out (fun _ => ?_)
   clear hK K
   refine wpAnyH_done (by kernel_rfl) ?_ _
   refine NoPanic.normal ?_
   go_wp2_with fail
   go_ret
   exact ⟨rfl, HB8.out.trans (HR4.out.mono HB8.out.size)⟩
end Go.Proofs.YthkhgihjigmkoaaGreat.mutatorAsks
