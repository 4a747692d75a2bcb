/- Of every program: its first error and its place; of each function, of each instruction; how many arguments a function has. No condition: for every input. -/
import Derived.Test.YtmmdppjbofbjhaaEAs
import Derived.Test.YtmmdppjbofbjhaaEAu
namespace Go.Proofs.Ytmmdppjbofbjhaa.checkTells
open Go.ChangeShapes Go.WideShapes Go.ChangeAt Go.RowKit

set_option maxRecDepth 100000 in
set_option maxHeartbeats 3200000 in
theorem walk (w : World) (v : Value) (hv : ∃ (pr : Prg) (c0 c1 c2 : Value), v = .agg #[c0, c1, c2] ∧ PrgVal w (fun k => k < w.heap.size) pr c0 c1 c2 ∧ PrgB pr) (fn : Int) (wfn : (Lit.int .i64 fn).wf = true) (pc : Int) (wpc : (Lit.int .i64 pc).wf = true) :
    Calls Try.prog 17 #[v, .int .i64 fn, .int .i64 pc] w fun e w' => e = .returned (.bool true) ∧ Below w.heap.size w w' := by
  obtain ⟨p, c0, c1, c2, rfl, hp, hpb⟩ := hv
  have bfn : i64B fn := bounds_i64 wfn
  have bpc : i64B pc := bounds_i64 wpc
  have hPP : ∀ wr, Below w.heap.size w wr → PrgVal wr (fun k => k < w.heap.size) p c0 c1 c2 := fun wr hb => hp.fr (Fr.of_below hb (fun _ => False)) (fun _ _ h => h)
  obtain ⟨⟨a0, m0, rfl, _⟩, ⟨a1, m1, rfl, _⟩, a2, m2, rfl, hfn⟩ := hp
  have hbx := fun wr h => box1 w #[.slice a0 p.globals.length m0, .slice a1 p.shapes.length m1, .slice a2 p.funcs.length m2] 71 wr h
  have hz0 : (w.alloc (.cells #[.slice a0 p.globals.length m0, .slice a1 p.shapes.length m1, .slice a2 p.funcs.length m2] 71)).heap.size = w.heap.size + 1 := by simp
  obtain ⟨W, hW⟩ : ∃ W, W = (w.alloc (.cells #[.slice a0 p.globals.length m0, .slice a1 p.shapes.length m1, .slice a2 p.funcs.length m2] 71)) := ⟨_, rfl⟩
  rw [← hW] at hbx hz0
  have hs : ∀ wr, Below W.heap.size W wr → wr.cell? ⟨w.heap.size, 0, none⟩ = some (.slice a0 p.globals.length m0) ∧ wr.cell? ⟨w.heap.size, 1, none⟩ = some (.slice a1 p.shapes.length m1) ∧ wr.cell? ⟨w.heap.size, 2, none⟩ = some (.slice a2 p.funcs.length m2) := fun wr h => by
    rw [hz0] at h
    have hb := hbx wr h
    exact ⟨hb.1 0 _ rfl, hb.1 1 _ rfl, hb.1 2 _ rfl⟩
  have hbw : ∀ wr, Below W.heap.size W wr → Below w.heap.size w wr := fun wr h => by rw [hz0] at h; exact (hbx wr h).2.1
  have hw0 := Below.refl W.heap.size W
  have al := alive11
  have sm := small_any W _ p _ _ _ (hPP W (hbw W hw0))
  obtain ⟨k0, k1, k2⟩ := hs W hw0
  have HW := Lib.hid hW
  clear hW hbx hz0
  by_cases hsm : bulk p ≤ 3000
  case neg =>
    rw [decide_eq_false hsm] at sm
    clear hPP hfn hs hpb hsm
    have AL := Lib.hid al; clear al
    have SM := Lib.hid sm; clear sm
    have HBW := Lib.hid hbw; clear hbw
    have HW0 := Lib.hid hw0; clear hw0
    go_enter Try.func17, Try.ntmps17
    go_upto_region 1 with fail
    rw [← HW.out]
    go_wp2_with fail
    refine SM.out.mono ?_
    rintro e w1 ⟨rfl, hb1⟩
    have HB1 := Lib.hid hb1; clear hb1 k0 k1 k2
    go_wp2_with fail
    refine (AL.out _).mono ?_
    rintro e w2 ⟨rfl, hb2⟩
    have HB2 := Lib.hid (HBW.out _ (HB1.out.trans (hb2.mono HB1.out.size))); clear hb2
    go_wp2_with fail
    go_ret
    exact ⟨rfl, HB2.out⟩
  rw [decide_eq_true hsm] at sm
  have hpr := prgR_of hsm
  have hD : ∀ wr, Below W.heap.size W wr → ∀ k, k < w.heap.size → k < wr.heap.size := fun wr h k hk => Nat.lt_of_lt_of_le hk (hbw wr h).size
  have hfn := hfn.fr (Fr.of_below (hbw W hw0) (fun _ => False)) (fun _ _ h => h)
  have pg := fun wr (h : Below W.heap.size W wr) => progC_any wr (fun k => k < w.heap.size) (hD wr h) p _ _ _ (hPP wr (hbw wr h)) hpb hpr
  have rc := fun wr (h : Below W.heap.size W wr) => rcheckC_any wr (fun k => k < w.heap.size) (hD wr h) p _ _ _ (hPP wr (hbw wr h)) hpb hpr
  have fu := fun wr (h : Below W.heap.size W wr) => funcC_any wr (fun k => k < w.heap.size) (hD wr h) p _ _ _ (hPP wr (hbw wr h)) hpb hpr fn
  have rfu := fun wr (h : Below W.heap.size W wr) => rfuncC_any wr (fun k => k < w.heap.size) (hD wr h) p _ _ _ (hPP wr (hbw wr h)) hpb hpr fn
  have ar := fun wr (h : Below W.heap.size W wr) => args_any wr (fun k => k < w.heap.size) p _ _ _ (hPP wr (hbw wr h)) fn
  have ins := fun wr (h : Below W.heap.size W wr) => instrC_any wr (fun k => k < w.heap.size) p _ _ _ fn pc (hD wr h) (hPP wr (hbw wr h)) bfn bpc (codeOf_len hpr _) (calleeG_len hpr) (slots_lt hpb)
  have rins := fun wr (h : Below W.heap.size W wr) => rinstrC_any wr (fun k => k < w.heap.size) (hD wr h) p _ _ _ (hPP wr (hbw wr h)) hpb hpr fn pc
  unfold ProgPost at pg
  unfold RCPost at rc
  unfold FuncPost placeS at fu
  unfold RFPost at rfu
  generalize progS p = ps at *
  obtain ⟨pe, px, py⟩ := ps
  generalize instrE p fn pc = ie at *
  have hout := @funcS_out p fn
  generalize funcS p fn = fs at *
  obtain ⟨fe, fm⟩ := fs
  dsimp only at pg rc fu rfu
  clear hPP hpb hD hsm hpr
  have AL := Lib.hid al; clear al
  have SM := Lib.hid sm; clear sm
  have HBW := Lib.hid hbw; clear hbw
  have HW0 := Lib.hid hw0; clear hw0
  have HS := Lib.hid hs; clear hs
  have PG := Lib.hid pg; clear pg
  have RC := Lib.hid rc; clear rc
  have FU := Lib.hid fu; clear fu
  have RFU := Lib.hid rfu; clear rfu
  have AR := Lib.hid ar; clear ar
  have INS := Lib.hid ins; clear ins
  have RINS := Lib.hid rins; clear rins
  have BFN := Lib.hid bfn; clear bfn
  have BPC := Lib.hid bpc; clear bpc
  go_enter Try.func17, Try.ntmps17
  go_upto_region 1 with fail
  rw [← HW.out]
  go_wp2_with fail
  refine SM.out.mono ?_
  rintro e w1 ⟨rfl, hb1⟩
  have HB1 := Lib.hid hb1; clear hb1
  go_wp2_with fail
  refine (AL.out _).mono ?_
  rintro e w2 ⟨rfl, hb2⟩
  have HX := Lib.hid (HB1.out.trans (hb2.mono HB1.out.size)); clear hb2
  clear k0 k1 k2
  obtain ⟨k0, k1, k2⟩ := HS.out w2 HX.out
  go_wp2_with fail
  refine (PG.out w2 HX.out).mono ?_
  rintro e w3 ⟨rfl, hb3⟩
  have hb3 := HX.out.trans (hb3.mono HX.out.size)
  have hb4 := hb3.alloc hb3.size (.cells #[.int .i64 px, .int .i64 py] 88)
  have hp0 := fun j => cell_new w3 #[.int .i64 px, .int .i64 py] 88 (0, 0) j
  clear hb3 HX
  go_upto_region 4 with fail
  obtain ⟨w4, hw4⟩ : ∃ w4, w4 = w3.alloc (.cells #[.int .i64 px, .int .i64 py] 88) := ⟨_, rfl⟩
  rw [← hw4] at hb4 hp0 ⊢
  clear hw4
  have p0 : w4.cell? ⟨w3.heap.size, 0, none⟩ = some (.int .i64 px) := hp0 0
  have p1 : w4.cell? ⟨w3.heap.size, 1, none⟩ = some (.int .i64 py) := hp0 1
  have HX := Lib.hid hb4
  clear hb4 hp0
  clear k0 k1 k2
  obtain ⟨k0, k1, k2⟩ := HS.out w4 HX.out
  go_wp2_with fail
  refine (RC.out w4 HX.out).mono ?_
  rintro e w5 ⟨rfl, hb5⟩
  have p0 := below_cell hb5 p0
  have p1 := below_cell hb5 p1
  have hb5 := HX.out.trans (hb5.mono HX.out.size)
  clear HX
  have HX := Lib.hid hb5
  clear hb5
  clear k0 k1 k2
  obtain ⟨k0, k1, k2⟩ := HS.out w5 HX.out
  go_wp2_with fail
  clear p0 p1
  by_cases h0 : fe = 0
  · subst h0
    have hin : withinB fn p.funcs.length = true := by
      cases hw : withinB fn p.funcs.length
      · have := hout hw
        simp at this
      · rfl
    have fv := FU.out w5 HX.out
    rw [if_pos rfl] at fv
    dsimp only at fv
    clear hout FU
    have FV := Lib.hid fv; clear fv
    have f0 : ((0 : Int) == 0) = true := rfl
    go_wp2_with fail
    refine (FV.out).mono ?_
    rintro e w6 ⟨rfl, hb6⟩
    have hb6 := HX.out.trans (hb6.mono HX.out.size)
    have hb7 := hb6.alloc hb6.size (.cells #[.int .i64 0, .int .i64 0] 88)
    have hp0 := fun j => cell_new w6 #[.int .i64 0, .int .i64 0] 88 (0, 0) j
    clear hb6 HX
    go_upto_region 8 with fail
    obtain ⟨w7, hw7⟩ : ∃ w7, w7 = w6.alloc (.cells #[.int .i64 0, .int .i64 0] 88) := ⟨_, rfl⟩
    rw [← hw7] at hb7 hp0 ⊢
    clear hw7
    have p0 : w7.cell? ⟨w6.heap.size, 0, none⟩ = some (.int .i64 0) := hp0 0
    have p1 : w7.cell? ⟨w6.heap.size, 1, none⟩ = some (.int .i64 0) := hp0 1
    have HX := Lib.hid hb7
    clear hb7 hp0
    clear k0 k1 k2
    obtain ⟨k0, k1, k2⟩ := HS.out w7 HX.out
    go_wp2_with fail
    refine (RFU.out w7 HX.out).mono ?_
    rintro e w8 ⟨rfl, hb8⟩
    have p0 := below_cell hb8 p0
    have p1 := below_cell hb8 p1
    have hb8 := HX.out.trans (hb8.mono HX.out.size)
    clear HX
    have HX := Lib.hid hb8
    clear hb8
    clear k0 k1 k2
    obtain ⟨k0, k1, k2⟩ := HS.out w8 HX.out
    have arq := AR.out w8 HX.out
    rw [hin] at arq
    rw [if_pos rfl] at arq
    obtain ⟨j, rfl, hj⟩ := within_nat hin
    obtain ⟨bb, o, rfl, _, y0, y1, y2, y3, y4, g0, g1, g2, g3, g4, hfv⟩ := hfn j hj
    rw [show (p.funcs[((j : Int)).toNat]?).getD fun0 = p.funcs[j] from by simp [hj]] at arq
    generalize p.funcs[j] = f at *
    obtain ⟨rfl, rfl, ⟨e0, e1, rfl, _⟩, _⟩ := hfv
    have hj1 : (j : Int) < p.funcs.length := by omega
    have hj0 : (0 : Int) ≤ (j : Int) := by omega
    have g0 := below_cell (HX.out) g0
    clear hin g1 g2 g3 g4
    generalize f.args.length = la at *
    clear AR
    have ARQ := Lib.hid arq; clear arq
    go_wp2_with fail
    refine (ARQ.out).mono ?_
    rintro e w9 ⟨rfl, hb9⟩
    have hb9 := HX.out.trans (hb9.mono HX.out.size)
    clear HX
    have HX := Lib.hid hb9
    clear hb9
    clear k0 k1 k2
    obtain ⟨k0, k1, k2⟩ := HS.out w9 HX.out
    clear p0 p1
    go_upto_region 14 with fail
    have hins : ∀ W : BelowW w9, Calls Try.prog 70 _ W.val _ := fun V => INS.out V.val (HX.out.trans (V.2.mono HX.out.size))
    have hrins : ∀ W : BelowW w9, Calls Try.prog 74 _ W.val _ := fun V => RINS.out V.val (HX.out.trans (V.2.mono HX.out.size))
    have K0 := fun W : BelowW w9 => W.cell k0
    have K1 := fun W : BelowW w9 => W.cell k1
    have K2 := fun W : BelowW w9 => W.cell k2
    clear k0 k1 k2
    have HINS := Lib.hid hins; clear hins
    have HRINS := Lib.hid hrins; clear hrins
    refine wp_region_below (by kernel_rfl) (by kernel_rfl) ?_
    repeat (go_big_quiet_step (first | (go_at_call 70; exact Calls.below_of (HINS.out _)) | (go_at_call 74; exact Calls.below_of (HRINS.out _))))
    refine wpQuiet_nil ?_
    rintro _ ⟨WL, rfl⟩
    have HL := Lib.hid (HBW.out _ (HX.out.trans (WL.2.mono HX.out.size)))
    go_wp2_with fail
    go_ret
    exact ⟨by first | rfl | simp, HL.out⟩
  · have fv := FU.out w5 HX.out
    rw [if_neg h0] at fv
    dsimp only at fv
    clear FU
    have f0 : (fe == 0) = false := by simpa using h0
    have f1 : (fe != 0) = true := bne_iff_ne.2 h0
    have FV := Lib.hid fv; clear fv
    go_wp2_with fail
    refine (FV.out).mono ?_
    rintro e w6 ⟨rfl, hb6⟩
    have hb6 := HX.out.trans (hb6.mono HX.out.size)
    have hb7 := hb6.alloc hb6.size (.cells #[.int .i64 fn, .int .i64 (fm : Int)] 88)
    have hp0 := fun j => cell_new w6 #[.int .i64 fn, .int .i64 (fm : Int)] 88 (0, 0) j
    clear hb6 HX
    go_upto_region 8 with fail
    obtain ⟨w7, hw7⟩ : ∃ w7, w7 = w6.alloc (.cells #[.int .i64 fn, .int .i64 (fm : Int)] 88) := ⟨_, rfl⟩
    rw [← hw7] at hb7 hp0 ⊢
    clear hw7
    have p0 : w7.cell? ⟨w6.heap.size, 0, none⟩ = some (.int .i64 fn) := hp0 0
    have p1 : w7.cell? ⟨w6.heap.size, 1, none⟩ = some (.int .i64 (fm : Int)) := hp0 1
    have HX := Lib.hid hb7
    clear hb7 hp0
    clear k0 k1 k2
    obtain ⟨k0, k1, k2⟩ := HS.out w7 HX.out
    go_wp2_with fail
    refine (RFU.out w7 HX.out).mono ?_
    rintro e w8 ⟨rfl, hb8⟩
    have p0 := below_cell hb8 p0
    have p1 := below_cell hb8 p1
    have hb8 := HX.out.trans (hb8.mono HX.out.size)
    clear HX
    have HX := Lib.hid hb8
    clear hb8
    clear k0 k1 k2
    obtain ⟨k0, k1, k2⟩ := HS.out w8 HX.out
    have arq := AR.out w8 HX.out
    cases hin : withinB fn p.funcs.length
    · have hfe : fe = 1 := by have := hout hin; simpa using congrArg Prod.fst this
      subst hfe
      clear hout h0
      by_cases hf0 : 0 ≤ fn
      · have hf1 : ¬ fn < p.funcs.length := by simp [withinB] at hin; omega
        rw [hin] at arq
        rw [if_neg (by simp)] at arq
        clear hin
        clear AR
        have ARQ := Lib.hid arq; clear arq
        go_wp2_with fail
        refine (ARQ.out).mono ?_
        rintro e w9 ⟨rfl, hb9⟩
        have hb9 := HX.out.trans (hb9.mono HX.out.size)
        clear HX
        have HX := Lib.hid hb9
        clear hb9
        clear k0 k1 k2
        obtain ⟨k0, k1, k2⟩ := HS.out w9 HX.out
        clear p0 p1
        go_upto_region 14 with fail
        have hins : ∀ W : BelowW w9, Calls Try.prog 70 _ W.val _ := fun V => INS.out V.val (HX.out.trans (V.2.mono HX.out.size))
        have hrins : ∀ W : BelowW w9, Calls Try.prog 74 _ W.val _ := fun V => RINS.out V.val (HX.out.trans (V.2.mono HX.out.size))
        have K0 := fun W : BelowW w9 => W.cell k0
        have K1 := fun W : BelowW w9 => W.cell k1
        have K2 := fun W : BelowW w9 => W.cell k2
        clear k0 k1 k2
        have HINS := Lib.hid hins; clear hins
        have HRINS := Lib.hid hrins; clear hrins
        refine wp_region_below (by kernel_rfl) (by kernel_rfl) ?_
        repeat (go_big_quiet_step (first | (go_at_call 70; exact Calls.below_of (HINS.out _)) | (go_at_call 74; exact Calls.below_of (HRINS.out _))))
        refine wpQuiet_nil ?_
        rintro _ ⟨WL, rfl⟩
        have HL := Lib.hid (HBW.out _ (HX.out.trans (WL.2.mono HX.out.size)))
        go_wp2_with fail
        go_ret
        exact ⟨by first | rfl | simp, HL.out⟩
      · skip
        rw [hin] at arq
        rw [if_neg (by simp)] at arq
        clear hin
        clear AR
        have ARQ := Lib.hid arq; clear arq
        go_wp2_with fail
        refine (ARQ.out).mono ?_
        rintro e w9 ⟨rfl, hb9⟩
        have hb9 := HX.out.trans (hb9.mono HX.out.size)
        clear HX
        have HX := Lib.hid hb9
        clear hb9
        clear k0 k1 k2
        obtain ⟨k0, k1, k2⟩ := HS.out w9 HX.out
        clear p0 p1
        go_upto_region 14 with fail
        have hins : ∀ W : BelowW w9, Calls Try.prog 70 _ W.val _ := fun V => INS.out V.val (HX.out.trans (V.2.mono HX.out.size))
        have hrins : ∀ W : BelowW w9, Calls Try.prog 74 _ W.val _ := fun V => RINS.out V.val (HX.out.trans (V.2.mono HX.out.size))
        have K0 := fun W : BelowW w9 => W.cell k0
        have K1 := fun W : BelowW w9 => W.cell k1
        have K2 := fun W : BelowW w9 => W.cell k2
        clear k0 k1 k2
        have HINS := Lib.hid hins; clear hins
        have HRINS := Lib.hid hrins; clear hrins
        refine wp_region_below (by kernel_rfl) (by kernel_rfl) ?_
        repeat (go_big_quiet_step (first | (go_at_call 70; exact Calls.below_of (HINS.out _)) | (go_at_call 74; exact Calls.below_of (HRINS.out _))))
        refine wpQuiet_nil ?_
        rintro _ ⟨WL, rfl⟩
        have HL := Lib.hid (HBW.out _ (HX.out.trans (WL.2.mono HX.out.size)))
        go_wp2_with fail
        go_ret
        exact ⟨by first | rfl | simp, HL.out⟩
    · clear hout
      by_cases h1 : fe = 1
      · subst h1
        clear h0
        rw [hin] at arq
        rw [if_pos rfl] at arq
        obtain ⟨j, rfl, hj⟩ := within_nat hin
        obtain ⟨bb, o, rfl, _, y0, y1, y2, y3, y4, g0, g1, g2, g3, g4, hfv⟩ := hfn j hj
        rw [show (p.funcs[((j : Int)).toNat]?).getD fun0 = p.funcs[j] from by simp [hj]] at arq
        generalize p.funcs[j] = f at *
        obtain ⟨rfl, rfl, ⟨e0, e1, rfl, _⟩, _⟩ := hfv
        have hj1 : (j : Int) < p.funcs.length := by omega
        have hj0 : (0 : Int) ≤ (j : Int) := by omega
        have g0 := below_cell (HX.out) g0
        clear hin g1 g2 g3 g4
        generalize f.args.length = la at *
        clear AR
        have ARQ := Lib.hid arq; clear arq
        go_wp2_with fail
        refine (ARQ.out).mono ?_
        rintro e w9 ⟨rfl, hb9⟩
        have hb9 := HX.out.trans (hb9.mono HX.out.size)
        clear HX
        have HX := Lib.hid hb9
        clear hb9
        clear k0 k1 k2
        obtain ⟨k0, k1, k2⟩ := HS.out w9 HX.out
        clear p0 p1
        go_upto_region 14 with fail
        have hins : ∀ W : BelowW w9, Calls Try.prog 70 _ W.val _ := fun V => INS.out V.val (HX.out.trans (V.2.mono HX.out.size))
        have hrins : ∀ W : BelowW w9, Calls Try.prog 74 _ W.val _ := fun V => RINS.out V.val (HX.out.trans (V.2.mono HX.out.size))
        have K0 := fun W : BelowW w9 => W.cell k0
        have K1 := fun W : BelowW w9 => W.cell k1
        have K2 := fun W : BelowW w9 => W.cell k2
        clear k0 k1 k2
        have HINS := Lib.hid hins; clear hins
        have HRINS := Lib.hid hrins; clear hrins
        refine wp_region_below (by kernel_rfl) (by kernel_rfl) ?_
        repeat (go_big_quiet_step (first | (go_at_call 70; exact Calls.below_of (HINS.out _)) | (go_at_call 74; exact Calls.below_of (HRINS.out _))))
        refine wpQuiet_nil ?_
        rintro _ ⟨WL, rfl⟩
        have HL := Lib.hid (HBW.out _ (HX.out.trans (WL.2.mono HX.out.size)))
        go_wp2_with fail
        go_ret
        exact ⟨by first | rfl | simp, HL.out⟩
      · have f2 : (fe != 1) = true := bne_iff_ne.2 h1
        clear h0 h1
        rw [hin] at arq
        rw [if_pos rfl] at arq
        obtain ⟨j, rfl, hj⟩ := within_nat hin
        obtain ⟨bb, o, rfl, _, y0, y1, y2, y3, y4, g0, g1, g2, g3, g4, hfv⟩ := hfn j hj
        rw [show (p.funcs[((j : Int)).toNat]?).getD fun0 = p.funcs[j] from by simp [hj]] at arq
        generalize p.funcs[j] = f at *
        obtain ⟨rfl, rfl, ⟨e0, e1, rfl, _⟩, _⟩ := hfv
        have hj1 : (j : Int) < p.funcs.length := by omega
        have hj0 : (0 : Int) ≤ (j : Int) := by omega
        have g0 := below_cell (HX.out) g0
        clear hin g1 g2 g3 g4
        generalize f.args.length = la at *
        clear AR
        have ARQ := Lib.hid arq; clear arq
        go_wp2_with fail
        refine (ARQ.out).mono ?_
        rintro e w9 ⟨rfl, hb9⟩
        have hb9 := HX.out.trans (hb9.mono HX.out.size)
        clear HX
        have HX := Lib.hid hb9
        clear hb9
        clear k0 k1 k2
        obtain ⟨k0, k1, k2⟩ := HS.out w9 HX.out
        clear p0 p1
        go_upto_region 14 with fail
        have hins : ∀ W : BelowW w9, Calls Try.prog 70 _ W.val _ := fun V => INS.out V.val (HX.out.trans (V.2.mono HX.out.size))
        have hrins : ∀ W : BelowW w9, Calls Try.prog 74 _ W.val _ := fun V => RINS.out V.val (HX.out.trans (V.2.mono HX.out.size))
        have K0 := fun W : BelowW w9 => W.cell k0
        have K1 := fun W : BelowW w9 => W.cell k1
        have K2 := fun W : BelowW w9 => W.cell k2
        clear k0 k1 k2
        have HINS := Lib.hid hins; clear hins
        have HRINS := Lib.hid hrins; clear hrins
        refine wp_region_below (by kernel_rfl) (by kernel_rfl) ?_
        repeat (go_big_quiet_step (first | (go_at_call 70; exact Calls.below_of (HINS.out _)) | (go_at_call 74; exact Calls.below_of (HRINS.out _))))
        refine wpQuiet_nil ?_
        rintro _ ⟨WL, rfl⟩
        have HL := Lib.hid (HBW.out _ (HX.out.trans (WL.2.mono HX.out.size)))
        go_wp2_with fail
        go_ret
        exact ⟨by first | rfl | simp, HL.out⟩
theorem own : ownKnob Try.prog.godebug = none := by kernel_rfl
theorem laidOut : laidOutB Try.prog = true := by kernel_rfl
set_option maxRecDepth 100000 in
theorem lifted (os : Os) (started : os.Started) (H : Type) (enc : TypeId × Value → H) :
    ReturnsInHanded {} Try.checked os 17 .any (Rows.checkTellsSpec.pre6 enc Try.prog Try.f17 Rows.checkTellsRow.domain false) (Rows.checkTellsSpec.post enc Try.prog Try.f17 false true false false) := by
  refine returnsInHanded_of_change (C := Try.checked) own started (by kernel_rfl) Try.func17
    (ChangeSpec.witness6 (enc := enc) (C := Try.checked) false ⟨#[], #[.agg #[.slice none 0 0, .slice none 0 0, .slice none 0 0], .int .i64 0, .int .i64 0], []⟩ 8 (by kernel_rfl) (by kernel_rfl) (by kernel_rfl) (by kernel_rfl)) ?_
  intro W base args ds gs before hval0 hW hcnd _
  have hval : ∀ (j : Nat) t v, Try.f17.params[j]? = some t → args[j]? = some v → Value.okWide Try.prog W .any base t v := hval0
  have hW' := hW
  obtain ⟨p, q, hA0, hV, rfl, hfz, hnd⟩ := hW
  have hA : DataW.TrodAll enc Try.prog W 0 (fun _ => true) true Try.f17.params.toList args.toList ds p := hA0
  rw [Try.params17] at hA hval
  obtain ⟨v0, vs0, d0, ds0, p0, q0, hargs, rfl, rfl, h0, r0⟩ := trodAll_cons hA
  obtain ⟨v1, vs1, d1, ds1, p1, q1, rfl, rfl, rfl, h1, r1⟩ := trodAll_cons r0
  obtain ⟨v2, vs2, d2, ds2, p2, q2, rfl, rfl, rfl, h2, r2⟩ := trodAll_cons r1
  obtain ⟨rfl, rfl, rfl⟩ := trodAll_nil r2
  obtain rfl : args = #[v0, v1, v2] := by cases args; simp_all
  have w0 := open_programB (hval 0 71 v0 rfl rfl) h0
  obtain ⟨a1, rfl, rfl, rfl, w1⟩ := open_int Try.underlying3 (hval 1 3 v1 rfl rfl) h1
  obtain ⟨a2, rfl, rfl, rfl, w2⟩ := open_int Try.underlying3 (hval 2 3 v2 rfl rfl) h2
  clear hA0 hval0
  simp only [List.append_nil] at hW'
  refine (walk W v0 w0 a1 w1 a2 w2).mono fun e W' ⟨he, hb⟩ => ?_
  subst he
  exact ⟨_, rfl, law_post laidOut (by kernel_rfl) rfl Try.underlying4 hW' rfl (fun ds h => by match ds, h with | [_, _, _], _ => rfl) hb⟩
theorem over : Rows.checkTellsRow.holds Try.pinned (OpenSpec.ofChange Rows.checkTellsSpec) :=
  OpenClaim.holds_of_wide 17 Try.f17 rfl rfl rfl rfl rfl rfl rfl ⟨rfl, rfl, rfl, rfl, rfl⟩ rfl rfl rfl rfl rfl (by kernel_rfl) Try.func17 (by kernel_rfl)
    (of_decide_eq_true (by kernel_rfl)) (by unfold Func.isWrapper; first | (rw [if_pos (by decide +kernel)]; kernel_rfl) | (rw [if_neg (by decide +kernel)]; exact ⟨rfl, rfl⟩))
    (fun os started H enc _ => lifted os started H enc)
theorem proved : Rows.CheckTellsSaid := over
#print axioms proved
end Go.Proofs.Ytmmdppjbofbjhaa.checkTells
