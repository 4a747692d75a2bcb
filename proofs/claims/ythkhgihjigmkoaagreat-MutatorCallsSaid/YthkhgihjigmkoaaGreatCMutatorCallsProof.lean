/- MutatorCalls: a call gives its arguments, and takes its result; a stack that is too small is asked for, and nothing is done. No condition. -/
import Derived.Test.YthkhgihjigmkoaaGreatCBy
import Derived.Test.YthkhgihjigmkoaaGreatCBu
import Derived.Test.YthkhgihjigmkoaaGreatRows
set_option linter.unusedVariables false
set_option linter.unusedSimpArgs false
/- MutatorCalls: a call gives its arguments, and takes its result; a stack that is too small is asked for, and nothing is done. No condition. -/
namespace Go.Proofs.YthkhgihjigmkoaaGreat.mutatorCalls
open Go.ChangeShapes Go.WideShapes Go.ChangeAt Go.RowKit Go.Maps Tk
set_option maxRecDepth 100000 in
set_option maxHeartbeats 12800000 in
theorem walkN (w : World) (a b : Int) (n : Nat) (hn5 : 5 ≤ n) (hn60 : n ≤ 60) :
    Calls Tryz.prog 9 #[.int .i64 a, .int .i64 b, .int .i64 n] w fun e w' => e = .returned (.bool true) ∧ Below w.heap.size w w' := by
  have al := alive23
  have c1 : ¬ (n : Int) < 5 := by omega
  have c2 : ¬ (60 : Int) < (n : Int) := by omega
  obtain ⟨x, hx⟩ : ∃ x, x = wrap32 a := ⟨_, rfl⟩
  obtain ⟨y, hy⟩ : ∃ y, y = wrap32 b := ⟨_, rfl⟩
  have hx32 : wrap32 x = x := by rw [hx, w32_w32]
  have hy32 : wrap32 y = y := by rw [hy, w32_w32]
  have hxB : i64B x := by have := w32_bd a; unfold i64B; omega
  have hyB : i64B y := by have := w32_bd b; unfold i64B; omega
  obtain ⟨v, hv⟩ : ∃ v, v = (doV 4 x y).1 := ⟨_, rfl⟩
  have hdo : (doV 4 a b).1 = v := by rw [hv, hx, hy, doV_w32]
  have ra := fun w => rof_any a w
  have rb := fun w => rof_any b w
  have rd := fun w => rdo_any 4 a b w
  rw [hdo] at rd
  generalize (doV 4 a b).2 = vb at rd
  rw [← hx] at ra
  rw [← hy] at rb
  have hB := callC_B x y hxB hyB
  obtain ⟨htab, h0⟩ := callC_tab x y
  have RA := Lib.hid ra; clear ra
  have RB := Lib.hid rb; clear rb
  have RD := Lib.hid rd; clear rd
  have HV := Lib.hid hv.symm
  clear hx hy hxB hyB hdo hv
  have AL := Lib.hid al; clear al
  have HB := Lib.hid hB; clear hB
  have HTAB := Lib.hid htab; clear htab
  have H0 := Lib.hid h0; clear h0
  have HX32 := Lib.hid hx32; clear hx32
  have HY32 := Lib.hid hy32; clear hy32
  go_enter Tryz.func9, Tryz.ntmps9
  go_wp2_with fail
  refine (AL.out _).mono ?_
  rintro e w1 ⟨rfl, hb1⟩
  have HB1 := Lib.hid hb1
  clear hb1
  go_wp2_with fail
  refine (RA.out _).mono ?_
  rintro e w2 ⟨rfl, rfl⟩
  go_wp2_with fail
  refine (RB.out _).mono ?_
  rintro e w3 ⟨rfl, rfl⟩
  obtain ⟨W, hW, hbW, hsW, hrow, hpv, hpg⟩ := progW w1 x y
  have hW0 := HB1.out.trans (hbW.mono HB1.out.size)
  have k0 : W.cell? ⟨w1.heap.size + 1 + 1 + 1 + 1, 0, none⟩ = some (.slice none 0 0) := (row_cell hrow 0).1
  have k1 : W.cell? ⟨w1.heap.size + 1 + 1 + 1 + 1, 1, none⟩ = some (.slice none 0 0) := (row_cell hrow 1).1
  have k2 : W.cell? ⟨w1.heap.size + 1 + 1 + 1 + 1, 2, none⟩ = some (.slice (some ⟨w1.heap.size + 1 + 1 + 1, 0, none⟩) 2 2) := (row_cell hrow 2).1
  have fp := flowProg_any W _ (fun k hk => hk.2) (pC x y) _ _ _ hpg HB.out.1 HB.out.2
  unfold opA opB opC opD opP at hW
  have HW := Lib.hid hW
  clear hW hrow hbW HB1 hsW HB
  have FP := Lib.hid fp; clear fp
  have HW0 := Lib.hid hW0; clear hW0
  have HPV := Lib.hid hpv; clear hpv
  have HPG := Lib.hid hpg; clear hpg
  go_upto_region 4 with fail
  rw [← HW.out]
  go_wp2_with fail
  refine FP.out.mono ?_
  intro e w4 hpost
  obtain ⟨hb4, Ms, mb, b1, nm, V, hMs, rfl, hmp⟩ := tab_flow (tb := tC) H0.out HTAB.out hpost
  have HW4 := Lib.hid (HW0.out.trans (hb4.mono HW0.out.size))
  have k0 := below_cell hb4 k0
  have k1 := below_cell hb4 k1
  have k2 := below_cell hb4 k2
  have hpv4 := HPV.out.below hb4
  have hpg4 := HPG.out.fr (Fr.of_below hb4 (fun _ => False)) (fun _ _ h => h)
  have hd4 : ∀ k, (w1.heap.size ≤ k ∧ k < W.heap.size) → k < w4.heap.size := fun k hk => Nat.lt_of_lt_of_le hk.2 hb4.size
  clear HPV HPG HW0 hpost hb4
  have hcb := fun wx (hx : Below w4.heap.size w4 wx) => And.intro (below_cell hx k0) (And.intro (below_cell hx k1) (below_cell hx k2))
  have hpv := fun wx (hx : Below w4.heap.size w4 wx) => hpv4.below hx
  have hpg := fun wx (hx : Below w4.heap.size w4 wx) => hpg4.fr (Fr.of_below hx (fun _ => False)) (fun _ _ h => h)
  have hmm := fun wx (hx : Below w4.heap.size w4 wx) => hmp.below hx
  clear hpv4 hpg4 hmp k0 k1 k2
  have HCB := Lib.hid hcb; clear hcb
  have HPV := Lib.hid hpv; clear hpv
  have HPG := Lib.hid hpg; clear hpg
  have HD4 := Lib.hid hd4; clear hd4
  have HMS := Lib.hid hMs; clear hMs
  have HMM := Lib.hid hmm; clear hmm
  have hb5 : Below w4.heap.size w4 (w4.alloc (.cells #[.int .i64 0, .int .i64 0] 32)) := (Below.refl _ _).alloc (Nat.le_refl _) _
  obtain ⟨W5, hW5⟩ : ∃ W5, W5 = w4.alloc (.cells #[.int .i64 0, .int .i64 0] 32) := ⟨_, rfl⟩
  rw [← hW5] at hb5
  have nw := new_any W5 _ (fun k hk => Nat.lt_of_lt_of_le (HD4.out k hk) hb5.size) qC _ _ _ (HPV.out _ hb5) qC_small 0 (by decide) rfl (by decide) 0 (by omega) n 500 n (by omega) (by omega) (by omega) (by rw [qC_words0]; omega) (fun w => by rw [qC_words0]; exact fit_stay w n _ (by omega) (by omega) (by omega))
  obtain ⟨q0, q1, q2⟩ := HCB.out _ hb5
  have HW5 := Lib.hid hW5
  clear hW5
  have NW := Lib.hid nw; clear nw
  have HB5 := Lib.hid hb5; clear hb5
  go_upto_region 5 with fail
  rw [← HW5.out]
  go_wp2_with fail
  refine NW.out.mono ?_
  rintro e w6 ⟨tb, F, X, rfl, hT, hxn, hF, hb6⟩
  have hT : TaskAt w6 F tb qC (enterT ⟨1073741824, List.replicate n 0, [], []⟩ 0 (wordsN qC (0 : Nat)) 0 (-1) []) X := hT
  rw [startC n] at hT
  obtain ⟨ws, hws⟩ : ∃ ws, ws = List.replicate n (0 : Int) := ⟨_, rfl⟩
  rw [← hws] at hT
  have hlen : 5 ≤ ws.length ∧ ws.length = n := by rw [hws]; simp; omega
  have hb := HB5.out.trans (hb6.mono HB5.out.size)
  have hF : ∀ q, F q → w4.heap.size ≤ q := fun q hq => Nat.le_trans HB5.out.size (hF q hq)
  clear q0 q1 q2 hb6 NW HB5 HW5 HW hws
  have HT := Lib.hid hT; clear hT
  have HF := Lib.hid hF; clear hF
  have HB := Lib.hid hb; clear hb
  have HLEN := Lib.hid hlen; clear hlen
  have HXN := Lib.hid hxn; clear hxn
  obtain ⟨q0, q1, q2⟩ := HCB.out _ HB.out
  have st := stepC_set (pc := 0) (ws := ws) HT.out HXN.out.1 ⟨HLEN.out.1, by have := HLEN.out; omega⟩ (by decide) _ (fun k hk => ⟨fun h => by have := HF.out k h; have := HD4.out k hk; omega, by have := HD4.out k hk; have := HB.out.size; omega⟩) x y _ _ _ (some ⟨mb, 0, none⟩) (HPG.out _ HB.out) 1 (by decide) x rfl
  rw [HX32.out] at st
  have ST := Lib.hid st; clear st
  go_wp2_with fail
  refine ST.out.mono ?_
  rintro e w7 ⟨rfl, F2, X2, hT, hQ, hF2, hf2⟩
  unfold actV
  have hb := HB.out.trans (hf2.below HB.out.size (fun q hq => HF.out q hq))
  have hF : ∀ q, F2 q → w4.heap.size ≤ q := fun q hq => (hF2 q hq).elim (HF.out q) (fun h => by have := HB.out.size; omega)
  have hxn : X2.New := ⟨by rw [hQ.2.1]; exact HXN.out.1, by rw [hQ.2.2.1]; exact HXN.out.2.1, by rw [hQ.2.2.2]; exact HXN.out.2.2⟩
  obtain ⟨ws2, hws2⟩ : ∃ l, l = ws.set (2 + 1) x := ⟨_, rfl⟩
  have hT : TaskAt w7 F2 tb qC (SF 1 (ws.set (2 + 1) x)) X2 := hT
  rw [← hws2] at hT
  have hlen : 5 ≤ ws2.length ∧ ws2.length = n := by rw [hws2, List.length_set]; exact HLEN.out
  clear hF2 hf2 hQ ST q0 q1 q2 HT HXN HF HB HLEN
  have HT := Lib.hid hT; clear hT
  have HF := Lib.hid hF; clear hF
  have HB := Lib.hid hb; clear hb
  have HLEN := Lib.hid hlen; clear hlen
  have HXN := Lib.hid hxn; clear hxn
  have HSA := Lib.hid hws2
  clear hws2
  obtain ⟨q0, q1, q2⟩ := HCB.out _ HB.out
  have st := stepC_set (pc := 1) (ws := ws2) HT.out HXN.out.1 ⟨HLEN.out.1, by have := HLEN.out; omega⟩ (by decide) _ (fun k hk => ⟨fun h => by have := HF.out k h; have := HD4.out k hk; omega, by have := HD4.out k hk; have := HB.out.size; omega⟩) x y _ _ _ (some ⟨mb, 0, none⟩) (HPG.out _ HB.out) 2 (by decide) y rfl
  rw [HY32.out] at st
  have ST := Lib.hid st; clear st
  go_wp2_with fail
  refine ST.out.mono ?_
  rintro e w8 ⟨rfl, F3, X3, hT, hQ, hF2, hf2⟩
  unfold actV
  have hb := HB.out.trans (hf2.below HB.out.size (fun q hq => HF.out q hq))
  have hF : ∀ q, F3 q → w4.heap.size ≤ q := fun q hq => (hF2 q hq).elim (HF.out q) (fun h => by have := HB.out.size; omega)
  have hxn : X3.New := ⟨by rw [hQ.2.1]; exact HXN.out.1, by rw [hQ.2.2.1]; exact HXN.out.2.1, by rw [hQ.2.2.2]; exact HXN.out.2.2⟩
  obtain ⟨ws3, hws3⟩ : ∃ l, l = ws2.set (2 + 2) y := ⟨_, rfl⟩
  have hT : TaskAt w8 F3 tb qC (SF 2 (ws2.set (2 + 2) y)) X3 := hT
  rw [← hws3] at hT
  have hlen : 5 ≤ ws3.length ∧ ws3.length = n := by rw [hws3, List.length_set]; exact HLEN.out
  clear hF2 hf2 hQ ST q0 q1 q2 HT HXN HF HB HLEN
  have HT := Lib.hid hT; clear hT
  have HF := Lib.hid hF; clear hF
  have HB := Lib.hid hb; clear hb
  have HLEN := Lib.hid hlen; clear hlen
  have HXN := Lib.hid hxn; clear hxn
  have hx3 : ws3[3]? = some x := by rw [hws3, HSA.out]; have := HLEN.out; simp [hws3, HSA.out] at this; simp [List.getElem?_set]; omega
  have hy3 : ws3[4]? = some y := by rw [hws3, HSA.out]; have := HLEN.out; simp [hws3, HSA.out] at this; simp [List.getElem?_set]; omega
  clear hws3 HSA
  have HX3 := Lib.hid hx3; clear hx3
  have HY3 := Lib.hid hy3; clear hy3
  have HTK := Lib.hid (show TaskAt w8 F3 tb qC (K0 1073741824 2 ws3) X3 from HT.out)
  clear HT
  by_cases h11 : 11 ≤ n
  · have c3 : ¬ (n : Int) < 11 := by omega
    have hL : 11 ≤ ws3.length ∧ ws3.length ≤ 100 := by have := HLEN.out; omega
    obtain ⟨q0, q1, q2⟩ := HCB.out _ HB.out
    have st := stepC_call HTK.out HXN.out.1 hL _ (fun k hk => ⟨fun h => by have := HF.out k h; have := HD4.out k hk; omega, by have := HD4.out k hk; have := HB.out.size; omega⟩) x y HX3.out HY3.out _ _ _ (some ⟨mb, 0, none⟩) (HPV.out _ HB.out) (HPG.out _ HB.out)
    unfold actV at st
    have ST := Lib.hid st; clear st
    go_wp2_with fail
    refine ST.out.mono ?_
    rintro e w9 ⟨rfl, F4, X4, hT, hQ, hF2, hf2⟩
    have hb := HB.out.trans (hf2.below HB.out.size (fun q hq => HF.out q hq))
    have hF : ∀ q, F4 q → w4.heap.size ≤ q := fun q hq => (hF2 q hq).elim (HF.out q) (fun h => by have := HB.out.size; omega)
    have hxn : X4.New := ⟨by rw [hQ.2.1]; exact HXN.out.1, by rw [hQ.2.2.1]; exact HXN.out.2.1, by rw [hQ.2.2.2]; exact HXN.out.2.2⟩
    clear ST q0 q1 q2
    obtain ⟨wt, hwt⟩ : ∃ wt, wt = w9.alloc (.cells #[.int .i64 0, .int .i64 0, .int .i64 0, .int .i64 0, .int .i64 0, .bool false, .slice none 0 0] 63) := ⟨_, rfl⟩
    have hrt : wt.heap[w9.heap.size]? = some (.cells #[.int .i64 0, .int .i64 0, .int .i64 0, .int .i64 0, .int .i64 0, .bool false, .slice none 0 0] 63) := by rw [hwt]; exact heap_new _ _
    have hba : Below w9.heap.size w9 wt := by rw [hwt]; exact (Below.refl _ _).alloc (Nat.le_refl _) _
    have hTt := hT.below hba
    have hbt := hb.trans (hba.mono hb.size)
    have hFt := hF
    have hXt := hxn
    have kx0 : wt.cell? ⟨w9.heap.size, 0, none⟩ = some (.int .i64 0) := (row_cell hrt 0).1
    have HWT := Lib.hid hwt
    clear hwt hrt hba hT hb hF hxn hQ hF2 hf2 HTK HXN HF HB
    go_upto_region 11 with fail
    rw [← HWT.out]
    clear HWT
    obtain ⟨g7, g8, g3, g4⟩ := callW_get ws3 x y hL.1
    obtain ⟨us, hus⟩ : ∃ us, us = callW ws3 x y := ⟨_, rfl⟩
    have hul : 11 ≤ us.length ∧ us.length ≤ 100 := by rw [hus, callW_len]; exact hL
    rw [← hus] at g7 g8 g3 g4 hTt
    rw [HX3.out] at g3
    rw [HY3.out] at g4
    clear hus
    have dep := fun wx (hx : Below wt.heap.size wt wx) => depC1 (hTt.below hx)
    have fnc := fun wx (hx : Below wt.heap.size wt wx) => fnC1 (hTt.below hx)
    have s0 := fun wx (hx : Below wt.heap.size wt wx) => slotC1 (hTt.below hx) hul 0 (by decide) x g7
    have s1 := fun wx (hx : Below wt.heap.size wt wx) => slotC1 (hTt.below hx) hul 1 (by decide) y g8
    have DEP := Lib.hid dep; clear dep
    have FNC := Lib.hid fnc; clear fnc
    have S0 := Lib.hid s0; clear s0
    have S1 := Lib.hid s1; clear s1
    have HR := Lib.hid (Below.refl wt.heap.size wt)
    have HG := Lib.hid (And.intro g7 (And.intro g8 (And.intro g3 g4)))
    clear g7 g8 g3 g4
    have HTT := Lib.hid hTt; clear hTt
    have HFT := Lib.hid hFt; clear hFt
    have HBT := Lib.hid hbt; clear hbt
    have HXT := Lib.hid hXt; clear hXt
    have HUL := Lib.hid hul; clear hul
    go_wp2_with fail
    refine (DEP.out _ HR.out).mono ?_
    rintro e w20 ⟨rfl, hb⟩
    have HR1 := Lib.hid (HR.out.trans (hb.mono HR.out.size))
    clear hb
    go_wp2_with fail
    refine (FNC.out _ HR1.out).mono ?_
    rintro e w21 ⟨rfl, hb⟩
    have HR2 := Lib.hid (HR1.out.trans (hb.mono HR1.out.size))
    clear hb
    go_wp2_with fail
    refine (S0.out _ HR2.out).mono ?_
    rintro e w22 ⟨rfl, hb⟩
    have HR3 := Lib.hid (HR2.out.trans (hb.mono HR2.out.size))
    clear hb
    go_wp2_with fail
    refine (RA.out _).mono ?_
    rintro e w23 ⟨rfl, rfl⟩
    go_wp2_with fail
    refine (S1.out _ HR3.out).mono ?_
    rintro e w23 ⟨rfl, hb⟩
    have HR4 := Lib.hid (HR3.out.trans (hb.mono HR3.out.size))
    clear hb
    go_wp2_with fail
    refine (RB.out _).mono ?_
    rintro e w24 ⟨rfl, rfl⟩
    clear kx0 DEP FNC S0 S1 HR HR1 HR2 HR3
    go_upto_region 17 with fail
    go_wp2_with fail
    go_loopw [14] (fun i wr => ∃ k : Nat, k ≤ 3 ∧ i = .int .i64 k ∧ ∃ F X, TaskAt wr F tb qC (stC 1073741824 us v k) X ∧ StX v k X ∧ (∀ q, F q → w4.heap.size ≤ q) ∧ Below w4.heap.size w4 wr) (fun i _ => 3 - (intOf i).toNat)
    case atStart => exact ⟨0, by omega, rfl, _, _, HTT.out.below HR4.out, ⟨HXT.out.1, by rw [HXT.out.2.2]; exact Nat.zero_le _, fun e => absurd e (by decide)⟩, HFT.out, HBT.out.trans (HR4.out.mono HBT.out.size)⟩
    case round =>
      clear HTT HFT HBT HXT HR4
      obtain ⟨k, hk, rfl, F1, X1, hT1, hX1, hF1, hB1⟩ := hrel
      by_cases hlt : k < 3
      · obtain ⟨k1, hk1⟩ : ∃ k1, k1 = k + 1 := ⟨_, rfl⟩
        have i1 : IntKind.i64.wrap ((k : Int) + 1) = (k1 : Int) := by rw [show ((k : Int) + 1) = (k1 : Int) from by omega]; exact IntWalk.i64_in _ (by omega)
        have i2 : IntKind.i64.wrap (1 + (k : Int)) = (k1 : Int) := by rw [show (1 + (k : Int)) = (k1 : Int) from by omega]; exact IntWalk.i64_in _ (by omega)
        obtain ⟨q0, q1, q2⟩ := HCB.out wr hB1
        have st := stepC_k k hlt v hT1 hX1 HUL.out _ (fun k hk => ⟨fun h => by have := hF1 k h; have := HD4.out k hk; omega, by have := HD4.out k hk; have := hB1.size; omega⟩) x y HG.out.1 HG.out.2.1 HV.out _ _ _ (some ⟨mb, 0, none⟩) (HPG.out _ hB1)
        rw [← hk1] at st
        have hle : k1 ≤ 3 := by omega
        clear hT1 hX1
        have ST := Lib.hid st; clear st
        have HF1 := Lib.hid hF1; clear hF1
        have HB1 := Lib.hid hB1; clear hB1
        have HK1 := Lib.hid hk1; clear hk1
        go_wp2_with fail
        refine ST.out.mono ?_
        rintro e w7 ⟨rfl, F2, X2, hT2, hX2, hF2, hf2⟩
        unfold actV
        have fe := act_kindM w7 0 0 0 0 0 false (.slice none 0 0)
        have hb7 := HB1.out.trans (hf2.below HB1.out.size (fun q hq => HF1.out q hq))
        have hF3 : ∀ q, F2 q → w4.heap.size ≤ q := fun q hq => (hF2 q hq).elim (HF1.out q) (fun h => by have := HB1.out.size; omega)
        clear q0 q1 q2 hF2 hf2 ST HF1 HB1
        have HT2 := Lib.hid hT2; clear hT2
        have HX2 := Lib.hid hX2; clear hX2
        have HB7 := Lib.hid hb7; clear hb7
        have HF3 := Lib.hid hF3; clear hF3
        go_wp2_with fail
        go_roundw
        case rel => exact ⟨k1, hle, by go_num, F2, X2, HT2.out, HX2.out, HF3.out, HB7.out⟩
        case measure => have := HK1.out; simp [intOf]; omega
      · have hk' : k = 3 := by omega
        subst hk'
        have hT1 : TaskAt wr F1 tb qC (K0 1073741824 3 ((us.set 10 v).set 2 v)) X1 := hT1
        obtain ⟨e2, e3, e4⟩ := stC_end v HUL.out.1 x y HG.out.2.2.1 HG.out.2.2.2
        have hl9 : 5 ≤ ((us.set 10 v).set 2 v).length ∧ ((us.set 10 v).set 2 v).length ≤ 100 := by have := HUL.out; simp; omega
        have dep := fun wx (hx : Below wr.heap.size wr wx) => depC0 (hT1.below hx)
        have pcc := fun wx (hx : Below wr.heap.size wr wx) => pcC0 (hT1.below hx)
        have s0 := fun wx (hx : Below wr.heap.size wr wx) => slotC0 (hT1.below hx) hl9 0 (by decide) v e2
        have s1 := fun wx (hx : Below wr.heap.size wr wx) => slotC0 (hT1.below hx) hl9 1 (by decide) x e3
        have s2 := fun wx (hx : Below wr.heap.size wr wx) => slotC0 (hT1.below hx) hl9 2 (by decide) y e4
        have hb7 := HW4.out.trans (hB1.mono HW4.out.size)
        have hr := Below.refl wr.heap.size wr
        clear hT1 hX1 hF1 hB1 e2 e3 e4 hl9
        have DEP := Lib.hid dep; clear dep
        have PCC := Lib.hid pcc; clear pcc
        have S0 := Lib.hid s0; clear s0
        have S1 := Lib.hid s1; clear s1
        have S2 := Lib.hid s2; clear s2
        have HB7 := Lib.hid hb7; clear hb7
        have HR := Lib.hid hr; clear hr
        go_wp2_with fail
        refine (RD.out _).mono ?_
        rintro e w7 ⟨rfl, rfl⟩
        go_wp2_with fail
        refine (DEP.out _ HR.out).mono ?_
        rintro e w8 ⟨rfl, hb⟩
        have HR1 := Lib.hid (HR.out.trans (hb.mono HR.out.size))
        clear hb
        go_wp2_with fail
        refine (PCC.out _ HR1.out).mono ?_
        rintro e w9 ⟨rfl, hb⟩
        have HR2 := Lib.hid (HR1.out.trans (hb.mono HR1.out.size))
        clear hb
        go_wp2_with fail
        refine (S0.out _ HR2.out).mono ?_
        rintro e w10 ⟨rfl, hb⟩
        have HR3 := Lib.hid (HR2.out.trans (hb.mono HR2.out.size))
        clear hb
        go_wp2_with fail
        refine (S1.out _ HR3.out).mono ?_
        rintro e w11 ⟨rfl, hb⟩
        have HR4 := Lib.hid (HR3.out.trans (hb.mono HR3.out.size))
        clear hb
        go_wp2_with fail
        refine (S2.out _ HR4.out).mono ?_
        rintro e w12 ⟨rfl, hb⟩
        have hr5 := HR4.out.trans (hb.mono HR4.out.size)
        clear hb
        have s12 : (w12.alloc (.cells #[.int .i64 x, .int .i64 y] 3)).heap.size = w12.heap.size + 1 := by simp
        have hbx := (Below.refl w12.heap.size w12).alloc (Nat.le_refl _) (.cells #[.int .i64 x, .int .i64 y] 3)
        have hby := hbx.alloc hbx.size (.cells #[.int .i64 x, .int .i64 y] 3)
        have r1 := row_alloc (heap_new w12 (.cells #[.int .i64 x, .int .i64 y] 3)) (.cells #[.int .i64 x, .int .i64 y] 3)
        have r2 := heap_new (w12.alloc (.cells #[.int .i64 x, .int .i64 y] 3)) (.cells #[.int .i64 x, .int .i64 y] 3)
        rw [s12] at r2
        have i1 : IntSl ((w12.alloc (.cells #[.int .i64 x, .int .i64 y] 3)).alloc (.cells #[.int .i64 x, .int .i64 y] 3)) (fun _ => True) (some ⟨w12.heap.size, 0, none⟩) [x, y] := fun j hj => by
          have hj2 : j = 0 ∨ j = 1 := by have : j < 2 := hj; omega
          rcases hj2 with rfl | rfl
          · exact ⟨_, 0, rfl, trivial, (row_cell r1 0).1⟩
          · exact ⟨_, 0, rfl, trivial, (row_cell r1 1).1⟩
        have i2 : IntSl ((w12.alloc (.cells #[.int .i64 x, .int .i64 y] 3)).alloc (.cells #[.int .i64 x, .int .i64 y] 3)) (fun _ => True) (some ⟨w12.heap.size + 1, 0, none⟩) [x, y] := fun j hj => by
          have hj2 : j = 0 ∨ j = 1 := by have : j < 2 := hj; omega
          rcases hj2 with rfl | rfl
          · exact ⟨_, 0, rfl, trivial, (row_cell r2 0).1⟩
          · exact ⟨_, 0, rfl, trivial, (row_cell r2 1).1⟩
        have sm := sameIntsM_any _ _ _ _ _ [x, y] [x, y] 2 2 i1 i2 (by show 2 ≤ 1000000; decide) (by show 2 ≤ 1000000; decide)
        rw [decide_eq_true rfl] at sm
        have hend := HB7.out.trans ((hr5.trans (hby.mono hr5.size)).mono HB7.out.size)
        clear i1 i2 r1 r2 hbx hby hr5 s12
        have SM := Lib.hid sm; clear sm
        have HEND := Lib.hid hend; clear hend
        go_wp2_with fail
        refine (RA.out _).mono ?_
        rintro e w13 ⟨rfl, rfl⟩
        go_wp2_with fail
        refine (RB.out _).mono ?_
        rintro e w13 ⟨rfl, rfl⟩
        go_wp2_with fail
        refine SM.out.mono ?_
        rintro e w14 ⟨rfl, m, rfl⟩
        go_wp2_with fail
        go_ret
        exact ⟨rfl, below_drewN HEND.out m⟩
  · have c3 : (n : Int) < 11 := by omega
    have hL : 5 ≤ ws3.length ∧ ws3.length < 11 := by have := HLEN.out; omega
    obtain ⟨q0, q1, q2⟩ := HCB.out _ HB.out
    have st := stepC_callN HTK.out HXN.out.1 hL _ (fun k hk => ⟨fun h => by have := HF.out k h; have := HD4.out k hk; omega, by have := HD4.out k hk; have := HB.out.size; omega⟩) x y HX3.out HY3.out _ _ _ (some ⟨mb, 0, none⟩) (HPV.out _ HB.out) (HPG.out _ HB.out)
    unfold actV at st
    have ST := Lib.hid st; clear st
    go_wp2_with fail
    refine ST.out.mono ?_
    rintro e w9 ⟨rfl, F4, X4, hT, hQ, hF2, hf2⟩
    have hb := HB.out.trans (hf2.below HB.out.size (fun q hq => HF.out q hq))
    have hF : ∀ q, F4 q → w4.heap.size ≤ q := fun q hq => (hF2 q hq).elim (HF.out q) (fun h => by have := HB.out.size; omega)
    have hxn : X4.New := ⟨by rw [hQ.2.1]; exact HXN.out.1, by rw [hQ.2.2.1]; exact HXN.out.2.1, by rw [hQ.2.2.2]; exact HXN.out.2.2⟩
    clear ST q0 q1 q2
    obtain ⟨wq, hwq⟩ : ∃ wq, wq = w9.alloc (.cells #[.int .i64 8, .int .i64 0, .int .i64 0, .int .i64 11, .int .i64 0, .bool false, .slice none 0 0] 63) := ⟨_, rfl⟩
    have hrq : wq.heap[w9.heap.size]? = some (.cells #[.int .i64 8, .int .i64 0, .int .i64 0, .int .i64 11, .int .i64 0, .bool false, .slice none 0 0] 63) := by rw [hwq]; exact heap_new _ _
    have hba : Below w9.heap.size w9 wq := by rw [hwq]; exact (Below.refl _ _).alloc (Nat.le_refl _) _
    have hTq := hT.below hba
    have hbq := hb.trans (hba.mono hb.size)
    have hxl : w9.heap.size < wq.heap.size := heap_lt hrq
    have HXW := Lib.hid hb.size
    have hflt := hT.flt
    have hout := fun k hk => (hT.out k hk).2
    have kx0 : wq.cell? ⟨w9.heap.size, 0, none⟩ = some (.int .i64 8) := (row_cell hrq 0).1
    have kx3 : wq.cell? ⟨w9.heap.size, 3, none⟩ = some (.int .i64 11) := (row_cell hrq 3).1
    have dep := fun wx (hx : Below wq.heap.size wq wx) => depC0 (hTq.below hx)
    have pcc := fun wx (hx : Below wq.heap.size wq wx) => pcC0 (hTq.below hx)
    have HWT := Lib.hid hwq
    have DEP := Lib.hid dep; clear dep
    have PCC := Lib.hid pcc; clear pcc
    have HXN4 := Lib.hid hxn
    have HF4 := Lib.hid hF
    have HR := Lib.hid (Below.refl wq.heap.size wq)
    have HLN := Lib.hid hL
    clear hwq hba hT hb hQ hF2 hf2 HTK HXN HF HB hxn hF hL
    have HRQ := Lib.hid hrq; clear hrq
    have HTQ := Lib.hid hTq; clear hTq
    have HBQ := Lib.hid hbq; clear hbq
    have HXL := Lib.hid hxl; clear hxl
    have HFLT := Lib.hid hflt; clear hflt
    have HOUT := Lib.hid hout; clear hout
    go_upto_region 11 with fail
    rw [← HWT.out]
    clear HWT
    go_wp2_with fail
    refine (DEP.out _ HR.out).mono ?_
    rintro e w10 ⟨rfl, hb⟩
    have HR1 := Lib.hid (HR.out.trans (hb.mono HR.out.size))
    clear hb
    go_wp2_with fail
    refine (PCC.out _ HR1.out).mono ?_
    rintro e w11 ⟨rfl, hb⟩
    have HR2 := Lib.hid (HR1.out.trans (hb.mono HR1.out.size))
    have mv := moveC (HTQ.out.below HR2.out) (show baseOk 1073741824 by unfold baseOk; omega) HLN.out x y HX3.out HY3.out HMS.out (fun wr hw => HMM.out wr ((HBQ.out.trans (HR2.out.mono HBQ.out.size)).trans (hw.mono (HBQ.out.trans (HR2.out.mono HBQ.out.size)).size)))
    clear hb DEP PCC
    have MV := Lib.hid mv; clear mv
    go_wp2_with fail
    refine MV.out.mono ?_
    rintro e w12 ⟨rfl, L, F5, X5, hl, hl3, hl4, hT5, hQ5, hF5, hf5⟩
    have hb11 := HBQ.out.trans (HR2.out.mono HBQ.out.size)
    have hb12 := hb11.trans (hf5.below hb11.size (fun q hq => HF4.out q hq))
    have hF5w : ∀ q, F5 q → w4.heap.size ≤ q := fun q hq => (hF5 q hq).elim (HF4.out q) (fun h => by have := hb11.size; omega)
    have hxn5 : X5.New := ⟨by rw [hQ5.2.1]; exact HXN4.out.1, by rw [hQ5.2.2.1]; exact HXN4.out.2.1, by rw [hQ5.2.2.2]; exact HXN4.out.2.2⟩
    have hxne4 : ¬ F4 w9.heap.size := fun e => Nat.lt_irrefl _ (HFLT.out _ e)
    have hxne5 : ¬ F5 w9.heap.size := fun e => (hF5 _ e).elim hxne4 (fun h => by have := HR2.out.size; have := HXL.out; omega)
    have hr12 := hf5.heap ((Fr.of_below HR2.out (fun _ => False)).heap HRQ.out (fun h => h)) hxne4
    have hx12 := heap_lt hr12
    have HD5 := Lib.hid (show ∀ k, X5.D k → k < w9.heap.size from fun k hk => by rw [hQ5.1] at hk; exact HOUT.out k hk)
    have hL5 : 11 ≤ L.length ∧ L.length ≤ 100 := by omega
    have hLx : L[3]? = some x ∧ L[4]? = some y := ⟨hl3, hl4⟩
    clear hQ5 hF5 hf5 hb11 hxne4 HR HR1 HR2 HXN4 HF4 HTQ HBQ HRQ HFLT HOUT kx0 kx3 MV hl hl3 hl4
    have HT := Lib.hid hT5
    have HB := Lib.hid hb12
    have HF := Lib.hid hF5w
    have HXN := Lib.hid hxn5
    clear hT5 hb12 hF5w hxn5
    have HR12 := Lib.hid hr12; clear hr12
    have HXNE5 := Lib.hid hxne5; clear hxne5
    have HL5 := Lib.hid hL5; clear hL5
    have HLX := Lib.hid hLx; clear hLx
    have HX12 := Lib.hid hx12; clear hx12
    obtain ⟨q0, q1, q2⟩ := HCB.out _ HB.out
    have st := stepC_call HT.out HXN.out.1 HL5.out _ (fun k hk => ⟨fun h => by have := HF.out k h; have := HD4.out k hk; omega, by have := HD4.out k hk; have := HB.out.size; omega⟩) x y HLX.out.1 HLX.out.2 _ _ _ (some ⟨mb, 0, none⟩) (HPV.out _ HB.out) (HPG.out _ HB.out)
    unfold actV at st
    have ST := Lib.hid st; clear st
    go_wp2_with fail
    refine ST.out.mono ?_
    rintro e w13 ⟨rfl, F6, X6, hT, hQ, hF2, hf2⟩
    have hb := HB.out.trans (hf2.below HB.out.size (fun q hq => HF.out q hq))
    have hF : ∀ q, F6 q → w4.heap.size ≤ q := fun q hq => (hF2 q hq).elim (HF.out q) (fun h => by have := HB.out.size; omega)
    have hxn : X6.New := ⟨by rw [hQ.2.1]; exact HXN.out.1, by rw [hQ.2.2.1]; exact HXN.out.2.1, by rw [hQ.2.2.2]; exact HXN.out.2.2⟩
    clear ST q0 q1 q2
    have hxne6 : ∀ q, F6 q → q ≠ w9.heap.size := fun q hq e => (hF2 q hq).elim (fun h => HXNE5.out (e ▸ h)) (fun h => by have := HX12.out; omega)
    have hr13 := hf2.heap HR12.out HXNE5.out
    have hD6 : ∀ k, X6.D k → k < w9.heap.size := fun k hk => by rw [hQ.1] at hk; exact HD5.out k hk
    have hfs := seven_fr w13 (.int .i64 0) (.int .i64 0) (.int .i64 0) (.int .i64 0) (.int .i64 0) (.bool false) (.slice none 0 0) w9.heap.size
    have hrs := seven_row hr13 (.int .i64 0) (.int .i64 0) (.int .i64 0) (.int .i64 0) (.int .i64 0) (.bool false) (.slice none 0 0)
    obtain ⟨⟨u0, u1, u2, u3, u4, u5, u6⟩, n0, n1, n2, n3, n4, n5, n6⟩ := seven_cells hr13
    obtain ⟨wt, hwt⟩ : ∃ wt, wt = ((((((w13.setCell ⟨w9.heap.size, 0, none⟩ (.int .i64 0)).setCell ⟨w9.heap.size, 1, none⟩ (.int .i64 0)).setCell ⟨w9.heap.size, 2, none⟩ (.int .i64 0)).setCell ⟨w9.heap.size, 3, none⟩ (.int .i64 0)).setCell ⟨w9.heap.size, 4, none⟩ (.int .i64 0)).setCell ⟨w9.heap.size, 5, none⟩ (.bool false)).setCell ⟨w9.heap.size, 6, none⟩ (.slice none 0 0) := ⟨_, rfl⟩
    rw [← hwt] at hfs hrs
    have hTt := hT.fr hfs (fun q hq e => hxne6 q hq e) (fun q hq e => by have := hD6 q hq; have e : q = w9.heap.size := e; omega)
    have hxw : w4.heap.size ≤ w9.heap.size := HXW.out
    have hbt := hb.trans (hfs.below hb.size (fun q hq => by have e : q = w9.heap.size := hq; omega))
    have hFt := hF
    have hXt := hxn
    have kx0 : wt.cell? ⟨w9.heap.size, 0, none⟩ = some (.int .i64 0) := (row_cell hrs 0).1
    have HWT := Lib.hid hwt
    clear hwt hfs hrs hr13 hxne6 hD6 hT hb hF hxn hQ hF2 hf2 HT HXN HF HB hxw
    go_upto_region 15 with fail
    rw [← HWT.out]
    clear HWT u0 u1 u2 u3 u4 u5 u6 n0 n1 n2 n3 n4 n5 n6
    obtain ⟨g7, g8, g3, g4⟩ := callW_get L x y HL5.out.1
    obtain ⟨us, hus⟩ : ∃ us, us = callW L x y := ⟨_, rfl⟩
    have hul : 11 ≤ us.length ∧ us.length ≤ 100 := by rw [hus, callW_len]; exact HL5.out
    rw [← hus] at g7 g8 g3 g4 hTt
    rw [HLX.out.1] at g3
    rw [HLX.out.2] at g4
    clear hus
    have dep := fun wx (hx : Below wt.heap.size wt wx) => depC1 (hTt.below hx)
    have fnc := fun wx (hx : Below wt.heap.size wt wx) => fnC1 (hTt.below hx)
    have s0 := fun wx (hx : Below wt.heap.size wt wx) => slotC1 (hTt.below hx) hul 0 (by decide) x g7
    have s1 := fun wx (hx : Below wt.heap.size wt wx) => slotC1 (hTt.below hx) hul 1 (by decide) y g8
    have DEP := Lib.hid dep; clear dep
    have FNC := Lib.hid fnc; clear fnc
    have S0 := Lib.hid s0; clear s0
    have S1 := Lib.hid s1; clear s1
    have HR := Lib.hid (Below.refl wt.heap.size wt)
    have HG := Lib.hid (And.intro g7 (And.intro g8 (And.intro g3 g4)))
    clear g7 g8 g3 g4
    have HTT := Lib.hid hTt; clear hTt
    have HFT := Lib.hid hFt; clear hFt
    have HBT := Lib.hid hbt; clear hbt
    have HXT := Lib.hid hXt; clear hXt
    have HUL := Lib.hid hul; clear hul
    go_wp2_with fail
    refine (DEP.out _ HR.out).mono ?_
    rintro e w20 ⟨rfl, hb⟩
    have HR1 := Lib.hid (HR.out.trans (hb.mono HR.out.size))
    clear hb
    go_wp2_with fail
    refine (FNC.out _ HR1.out).mono ?_
    rintro e w21 ⟨rfl, hb⟩
    have HR2 := Lib.hid (HR1.out.trans (hb.mono HR1.out.size))
    clear hb
    go_wp2_with fail
    refine (S0.out _ HR2.out).mono ?_
    rintro e w22 ⟨rfl, hb⟩
    have HR3 := Lib.hid (HR2.out.trans (hb.mono HR2.out.size))
    clear hb
    go_wp2_with fail
    refine (RA.out _).mono ?_
    rintro e w23 ⟨rfl, rfl⟩
    go_wp2_with fail
    refine (S1.out _ HR3.out).mono ?_
    rintro e w23 ⟨rfl, hb⟩
    have HR4 := Lib.hid (HR3.out.trans (hb.mono HR3.out.size))
    clear hb
    go_wp2_with fail
    refine (RB.out _).mono ?_
    rintro e w24 ⟨rfl, rfl⟩
    clear kx0 DEP FNC S0 S1 HR HR1 HR2 HR3
    go_upto_region 17 with fail
    go_wp2_with fail
    go_loopw [14] (fun i wr => ∃ k : Nat, k ≤ 3 ∧ i = .int .i64 k ∧ ∃ F X, TaskAt wr F tb qC (stC 1073782784 us v k) X ∧ StX v k X ∧ (∀ q, F q → w4.heap.size ≤ q) ∧ Below w4.heap.size w4 wr) (fun i _ => 3 - (intOf i).toNat)
    case atStart => exact ⟨0, by omega, rfl, _, _, HTT.out.below HR4.out, ⟨HXT.out.1, by rw [HXT.out.2.2]; exact Nat.zero_le _, fun e => absurd e (by decide)⟩, HFT.out, HBT.out.trans (HR4.out.mono HBT.out.size)⟩
    case round =>
      clear HTT HFT HBT HXT HR4
      obtain ⟨k, hk, rfl, F1, X1, hT1, hX1, hF1, hB1⟩ := hrel
      by_cases hlt : k < 3
      · obtain ⟨k1, hk1⟩ : ∃ k1, k1 = k + 1 := ⟨_, rfl⟩
        have i1 : IntKind.i64.wrap ((k : Int) + 1) = (k1 : Int) := by rw [show ((k : Int) + 1) = (k1 : Int) from by omega]; exact IntWalk.i64_in _ (by omega)
        have i2 : IntKind.i64.wrap (1 + (k : Int)) = (k1 : Int) := by rw [show (1 + (k : Int)) = (k1 : Int) from by omega]; exact IntWalk.i64_in _ (by omega)
        obtain ⟨q0, q1, q2⟩ := HCB.out wr hB1
        have st := stepC_k k hlt v hT1 hX1 HUL.out _ (fun k hk => ⟨fun h => by have := hF1 k h; have := HD4.out k hk; omega, by have := HD4.out k hk; have := hB1.size; omega⟩) x y HG.out.1 HG.out.2.1 HV.out _ _ _ (some ⟨mb, 0, none⟩) (HPG.out _ hB1)
        rw [← hk1] at st
        have hle : k1 ≤ 3 := by omega
        clear hT1 hX1
        have ST := Lib.hid st; clear st
        have HF1 := Lib.hid hF1; clear hF1
        have HB1 := Lib.hid hB1; clear hB1
        have HK1 := Lib.hid hk1; clear hk1
        go_wp2_with fail
        refine ST.out.mono ?_
        rintro e w7 ⟨rfl, F2, X2, hT2, hX2, hF2, hf2⟩
        unfold actV
        have fe := act_kindM w7 0 0 0 0 0 false (.slice none 0 0)
        have hb7 := HB1.out.trans (hf2.below HB1.out.size (fun q hq => HF1.out q hq))
        have hF3 : ∀ q, F2 q → w4.heap.size ≤ q := fun q hq => (hF2 q hq).elim (HF1.out q) (fun h => by have := HB1.out.size; omega)
        clear q0 q1 q2 hF2 hf2 ST HF1 HB1
        have HT2 := Lib.hid hT2; clear hT2
        have HX2 := Lib.hid hX2; clear hX2
        have HB7 := Lib.hid hb7; clear hb7
        have HF3 := Lib.hid hF3; clear hF3
        go_wp2_with fail
        go_roundw
        case rel => exact ⟨k1, hle, by go_num, F2, X2, HT2.out, HX2.out, HF3.out, HB7.out⟩
        case measure => have := HK1.out; simp [intOf]; omega
      · have hk' : k = 3 := by omega
        subst hk'
        have hT1 : TaskAt wr F1 tb qC (K0 1073782784 3 ((us.set 10 v).set 2 v)) X1 := hT1
        obtain ⟨e2, e3, e4⟩ := stC_end v HUL.out.1 x y HG.out.2.2.1 HG.out.2.2.2
        have hl9 : 5 ≤ ((us.set 10 v).set 2 v).length ∧ ((us.set 10 v).set 2 v).length ≤ 100 := by have := HUL.out; simp; omega
        have dep := fun wx (hx : Below wr.heap.size wr wx) => depC0 (hT1.below hx)
        have pcc := fun wx (hx : Below wr.heap.size wr wx) => pcC0 (hT1.below hx)
        have s0 := fun wx (hx : Below wr.heap.size wr wx) => slotC0 (hT1.below hx) hl9 0 (by decide) v e2
        have s1 := fun wx (hx : Below wr.heap.size wr wx) => slotC0 (hT1.below hx) hl9 1 (by decide) x e3
        have s2 := fun wx (hx : Below wr.heap.size wr wx) => slotC0 (hT1.below hx) hl9 2 (by decide) y e4
        have hb7 := HW4.out.trans (hB1.mono HW4.out.size)
        have hr := Below.refl wr.heap.size wr
        clear hT1 hX1 hF1 hB1 e2 e3 e4 hl9
        have DEP := Lib.hid dep; clear dep
        have PCC := Lib.hid pcc; clear pcc
        have S0 := Lib.hid s0; clear s0
        have S1 := Lib.hid s1; clear s1
        have S2 := Lib.hid s2; clear s2
        have HB7 := Lib.hid hb7; clear hb7
        have HR := Lib.hid hr; clear hr
        go_wp2_with fail
        refine (RD.out _).mono ?_
        rintro e w7 ⟨rfl, rfl⟩
        go_wp2_with fail
        refine (DEP.out _ HR.out).mono ?_
        rintro e w8 ⟨rfl, hb⟩
        have HR1 := Lib.hid (HR.out.trans (hb.mono HR.out.size))
        clear hb
        go_wp2_with fail
        refine (PCC.out _ HR1.out).mono ?_
        rintro e w9 ⟨rfl, hb⟩
        have HR2 := Lib.hid (HR1.out.trans (hb.mono HR1.out.size))
        clear hb
        go_wp2_with fail
        refine (S0.out _ HR2.out).mono ?_
        rintro e w10 ⟨rfl, hb⟩
        have HR3 := Lib.hid (HR2.out.trans (hb.mono HR2.out.size))
        clear hb
        go_wp2_with fail
        refine (S1.out _ HR3.out).mono ?_
        rintro e w11 ⟨rfl, hb⟩
        have HR4 := Lib.hid (HR3.out.trans (hb.mono HR3.out.size))
        clear hb
        go_wp2_with fail
        refine (S2.out _ HR4.out).mono ?_
        rintro e w12 ⟨rfl, hb⟩
        have hr5 := HR4.out.trans (hb.mono HR4.out.size)
        clear hb
        have s12 : (w12.alloc (.cells #[.int .i64 x, .int .i64 y] 3)).heap.size = w12.heap.size + 1 := by simp
        have hbx := (Below.refl w12.heap.size w12).alloc (Nat.le_refl _) (.cells #[.int .i64 x, .int .i64 y] 3)
        have hby := hbx.alloc hbx.size (.cells #[.int .i64 x, .int .i64 y] 3)
        have r1 := row_alloc (heap_new w12 (.cells #[.int .i64 x, .int .i64 y] 3)) (.cells #[.int .i64 x, .int .i64 y] 3)
        have r2 := heap_new (w12.alloc (.cells #[.int .i64 x, .int .i64 y] 3)) (.cells #[.int .i64 x, .int .i64 y] 3)
        rw [s12] at r2
        have i1 : IntSl ((w12.alloc (.cells #[.int .i64 x, .int .i64 y] 3)).alloc (.cells #[.int .i64 x, .int .i64 y] 3)) (fun _ => True) (some ⟨w12.heap.size, 0, none⟩) [x, y] := fun j hj => by
          have hj2 : j = 0 ∨ j = 1 := by have : j < 2 := hj; omega
          rcases hj2 with rfl | rfl
          · exact ⟨_, 0, rfl, trivial, (row_cell r1 0).1⟩
          · exact ⟨_, 0, rfl, trivial, (row_cell r1 1).1⟩
        have i2 : IntSl ((w12.alloc (.cells #[.int .i64 x, .int .i64 y] 3)).alloc (.cells #[.int .i64 x, .int .i64 y] 3)) (fun _ => True) (some ⟨w12.heap.size + 1, 0, none⟩) [x, y] := fun j hj => by
          have hj2 : j = 0 ∨ j = 1 := by have : j < 2 := hj; omega
          rcases hj2 with rfl | rfl
          · exact ⟨_, 0, rfl, trivial, (row_cell r2 0).1⟩
          · exact ⟨_, 0, rfl, trivial, (row_cell r2 1).1⟩
        have sm := sameIntsM_any _ _ _ _ _ [x, y] [x, y] 2 2 i1 i2 (by show 2 ≤ 1000000; decide) (by show 2 ≤ 1000000; decide)
        rw [decide_eq_true rfl] at sm
        have hend := HB7.out.trans ((hr5.trans (hby.mono hr5.size)).mono HB7.out.size)
        clear i1 i2 r1 r2 hbx hby hr5 s12
        have SM := Lib.hid sm; clear sm
        have HEND := Lib.hid hend; clear hend
        go_wp2_with fail
        refine (RA.out _).mono ?_
        rintro e w13 ⟨rfl, rfl⟩
        go_wp2_with fail
        refine (RB.out _).mono ?_
        rintro e w13 ⟨rfl, rfl⟩
        go_wp2_with fail
        refine SM.out.mono ?_
        rintro e w14 ⟨rfl, m, rfl⟩
        go_wp2_with fail
        go_ret
        exact ⟨rfl, below_drewN HEND.out m⟩
set_option maxRecDepth 100000 in
set_option maxHeartbeats 3200000 in
theorem walk (w : World) (a : Int) (w0 : (Lit.int .i64 a).wf = true) (b : Int) (w1 : (Lit.int .i64 b).wf = true) (words : Int) (w2 : (Lit.int .i64 words).wf = true) :
    Calls Tryz.prog 9 #[.int .i64 a, .int .i64 b, .int .i64 words] w fun e w' => e = .returned (.bool true) ∧ Below w.heap.size w w' := by
  clear w0 w1 w2
  by_cases hout : words < 5 ∨ 60 < words
  case pos =>
    have al := alive23
    have AL := Lib.hid al; clear al
    by_cases c3 : words < 5
    · skip
      go_enter Tryz.func9, Tryz.ntmps9
      go_wp2_with fail
      refine (AL.out _).mono ?_
      rintro e w1 ⟨rfl, hb⟩
      have HB := Lib.hid hb
      clear hb
      go_wp2_with fail
      go_ret
      exact ⟨rfl, HB.out⟩
    by_cases c4 : 60 < words
    · skip
      go_enter Tryz.func9, Tryz.ntmps9
      go_wp2_with fail
      refine (AL.out _).mono ?_
      rintro e w1 ⟨rfl, hb⟩
      have HB := Lib.hid hb
      clear hb
      go_wp2_with fail
      go_ret
      exact ⟨rfl, HB.out⟩
    exact absurd hout (by omega)
  obtain ⟨n, rfl⟩ : ∃ n : Nat, words = n := ⟨words.toNat, by omega⟩
  exact walkN w a b n (by omega) (by omega)
theorem own : ownKnob Tryz.prog.godebug = none := by kernel_rfl
theorem laidOut : laidOutB Tryz.prog = true := by kernel_rfl
set_option maxRecDepth 100000 in
theorem lifted (os : Os) (started : os.Started) (H : Type) (enc : TypeId × Value → H) :
    ReturnsInHanded {} Tryz.checked os 9 .any (Rows.mutatorCallsSpec.pre6 enc Tryz.prog Tryz.f9 Rows.mutatorCallsRow.domain false) (Rows.mutatorCallsSpec.post enc Tryz.prog Tryz.f9 false true false false) := by
  refine returnsInHanded_of_change (C := Tryz.checked) own started (by kernel_rfl) Tryz.func9
    (ChangeSpec.witness6 (enc := enc) (C := Tryz.checked) false ⟨#[], #[.int .i64 0, .int .i64 0, .int .i64 0], []⟩ 8 (by kernel_rfl) (by kernel_rfl) (by kernel_rfl) (by kernel_rfl)) ?_
  intro W base args ds gs before hval0 hW hcnd _
  have hval : ∀ (j : Nat) t v, Tryz.f9.params[j]? = some t → args[j]? = some v → Value.okWide Tryz.prog W .any base t v := hval0
  have hW' := hW
  obtain ⟨p, q, hA0, hV, rfl, hfz, hnd⟩ := hW
  have hA : DataW.TrodAll enc Tryz.prog W 0 (fun _ => true) true Tryz.f9.params.toList args.toList ds p := hA0
  rw [Tryz.params9] at hA hval
  obtain ⟨v0, vs0, d0, ds0, p0, q0, hargs, rfl, rfl, h0, r0⟩ := trodAll_cons hA
  obtain ⟨v1, vs1, d1, ds1, p1, q1, rfl, rfl, rfl, h1, r1⟩ := trodAll_cons r0
  obtain ⟨v2, vs2, d2, ds2, p2, q2, rfl, rfl, rfl, h2, r2⟩ := trodAll_cons r1
  obtain ⟨rfl, rfl, rfl⟩ := trodAll_nil r2
  obtain rfl : args = #[v0, v1, v2] := by cases args; simp_all
  obtain ⟨a0, rfl, rfl, rfl, w0⟩ := open_int Tryz.underlying3 (hval 0 3 v0 rfl rfl) h0
  obtain ⟨a1, rfl, rfl, rfl, w1⟩ := open_int Tryz.underlying3 (hval 1 3 v1 rfl rfl) h1
  obtain ⟨a2, rfl, rfl, rfl, w2⟩ := open_int Tryz.underlying3 (hval 2 3 v2 rfl rfl) h2
  clear hA0 hval0
  simp only [List.append_nil] at hW'
  refine (walk W a0 w0 a1 w1 a2 w2).mono fun e W' ⟨he, hb⟩ => ?_
  subst he
  exact ⟨_, rfl, law_post laidOut (by kernel_rfl) rfl Tryz.underlying4 hW' rfl (fun ds h => by match ds, h with | [_, _, _], _ => rfl) hb⟩
theorem over : Rows.mutatorCallsRow.holds Tryz.pinned (OpenSpec.ofChange Rows.mutatorCallsSpec) :=
  OpenClaim.holds_of_wide 9 Tryz.f9 rfl rfl rfl rfl rfl rfl rfl ⟨rfl, rfl, rfl, rfl, rfl⟩ rfl rfl rfl rfl rfl (by kernel_rfl) Tryz.func9 (by kernel_rfl)
    (of_decide_eq_true (by kernel_rfl)) (by unfold Func.isWrapper; first | (rw [if_pos (by decide +kernel)]; kernel_rfl) | (rw [if_neg (by decide +kernel)]; exact ⟨rfl, rfl⟩))
    (fun os started H enc _ => lifted os started H enc)
theorem proved : Rows.MutatorCallsSaid := over
#print axioms proved
end Go.Proofs.YthkhgihjigmkoaaGreat.mutatorCalls
