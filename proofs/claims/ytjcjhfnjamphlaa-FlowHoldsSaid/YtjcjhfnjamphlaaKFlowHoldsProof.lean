/- FlowHolds: the kinds of a program that may be run hold: what goes on from a place has, wherever it comes, the kinds that are told there, or more. No condition. -/
import Derived.Test.YtjcjhfnjamphlaaKBn
import Derived.Test.YtjcjhfnjamphlaaKBs
import Derived.Test.YtjcjhfnjamphlaaKBm
import Derived.Test.YtjcjhfnjamphlaaKAe
import Derived.Test.YtjcjhfnjamphlaaKAq
import Derived.Test.YtjcjhfnjamphlaaRows
set_option linter.unusedVariables false
set_option linter.unusedSimpArgs false
/- FlowHolds: the kinds of a program that may be run hold: what goes on from a place has, wherever it comes, the kinds that are told there, or more. No condition. -/
namespace Go.Proofs.Ytjcjhfnjamphlaa.flowHolds
open Go.ChangeShapes Go.WideShapes Go.ChangeAt Go.RowKit Go.Maps
set_option maxRecDepth 100000 in
set_option maxHeartbeats 6400000 in
theorem walk (w : World) (v : Value) (hv : ∃ (pr : Prg) (c0 c1 c2 : Value), v = .agg #[c0, c1, c2] ∧ PrgVal w (fun k => k < w.heap.size) pr c0 c1 c2 ∧ PrgB pr) :
    Calls Try.prog 4 #[v] w fun e w' => e = .returned (.bool true) ∧ Below w.heap.size w w' := by
  obtain ⟨p, c0, c1, c2, rfl, hp, hpb⟩ := hv
  have hPP : ∀ wr, Below w.heap.size w wr → PrgVal wr (fun k => k < w.heap.size) p c0 c1 c2 := fun wr hb => hp.fr (Fr.of_below hb (fun _ => False)) (fun _ _ h => h)
  obtain ⟨⟨a0, m0, rfl, _⟩, ⟨a1, m1, rfl, _⟩, a2, m2, rfl, hfn⟩ := hp
  have hbx := fun wr h => box1 w #[.slice a0 p.globals.length m0, .slice a1 p.shapes.length m1, .slice a2 p.funcs.length m2] 26 wr h
  have hz0 : (w.alloc (.cells #[.slice a0 p.globals.length m0, .slice a1 p.shapes.length m1, .slice a2 p.funcs.length m2] 26)).heap.size = w.heap.size + 1 := by simp
  obtain ⟨W, hW⟩ : ∃ W, W = (w.alloc (.cells #[.slice a0 p.globals.length m0, .slice a1 p.shapes.length m1, .slice a2 p.funcs.length m2] 26)) := ⟨_, rfl⟩
  rw [← hW] at hbx hz0
  have hs : ∀ wr, Below W.heap.size W wr → wr.cell? ⟨w.heap.size, 0, none⟩ = some (.slice a0 p.globals.length m0) ∧ wr.cell? ⟨w.heap.size, 1, none⟩ = some (.slice a1 p.shapes.length m1) ∧ wr.cell? ⟨w.heap.size, 2, none⟩ = some (.slice a2 p.funcs.length m2) := fun wr h => by
    rw [hz0] at h
    have hb := hbx wr h
    exact ⟨hb.1 0 _ rfl, hb.1 1 _ rfl, hb.1 2 _ rfl⟩
  have hbw : ∀ wr, Below W.heap.size W wr → Below w.heap.size w wr := fun wr h => by rw [hz0] at h; exact (hbx wr h).2.1
  have hw0 := Below.refl W.heap.size W
  have al := alive12
  have sm := small_any W _ p _ _ _ (hPP W (hbw W hw0))
  obtain ⟨k0, k1, k2⟩ := hs W hw0
  have HW := Lib.hid hW
  clear hW hbx hz0
  by_cases hsm : bulk p ≤ 3000
  case neg =>
    rw [decide_eq_false hsm] at sm
    clear hPP hfn hs hpb hsm
    have AL := Lib.hid al; clear al
    have SM := Lib.hid sm; clear sm
    have HBW := Lib.hid hbw; clear hbw
    have HW0 := Lib.hid hw0; clear hw0
    go_enter Try.func4, Try.ntmps4
    go_upto_region 1 with fail
    rw [← HW.out]
    go_wp2_with fail
    refine SM.out.mono ?_
    rintro e w1 ⟨rfl, hb1⟩
    have HB1 := Lib.hid hb1; clear hb1 k0 k1 k2
    go_wp2_with fail
    refine (AL.out _).mono ?_
    rintro e w2 ⟨rfl, hb2⟩
    have HB2 := Lib.hid (HBW.out _ (HB1.out.trans (hb2.mono HB1.out.size))); clear hb2
    go_wp2_with fail
    go_ret
    exact ⟨rfl, HB2.out⟩
  rw [decide_eq_true hsm] at sm
  have hpr := prgR_small hsm
  have hfn : ∀ wr, Below W.heap.size W wr → FnSl wr (fun k => k < w.heap.size) a2 p.funcs := fun wr h => hfn.fr (Fr.of_below (hbw wr h) (fun _ => False)) (fun _ _ h => h)
  have fp := fun wr (h : Below W.heap.size W wr) => flowProg_any wr (fun k => k < w.heap.size) (fun k hk => Nat.lt_of_lt_of_le hk (hbw wr h).size) p _ _ _ (hPP wr (hbw wr h)) hpb hpr
  have nx := fun wr (h : Below W.heap.size W wr) (fn pc : Int) hfn hpc => next_any wr (fun k => k < w.heap.size) (fun k hk => Nat.lt_of_lt_of_le hk (hbw wr h).size) p _ _ _ (hPP wr (hbw wr h)) hpb hpr fn pc hfn hpc
  clear hsm
  have AL := Lib.hid al; clear al
  have SM := Lib.hid sm; clear sm
  have HBW := Lib.hid hbw; clear hbw
  have HW0 := Lib.hid hw0; clear hw0
  have HS := Lib.hid hs; clear hs
  have HFN := Lib.hid hfn; clear hfn
  have FP := Lib.hid fp; clear fp
  have NX := Lib.hid nx; clear nx
  have HPP := Lib.hid hPP; clear hPP
  have HPB := Lib.hid hpb; clear hpb
  have HPR := Lib.hid hpr; clear hpr
  go_enter Try.func4, Try.ntmps4
  go_upto_region 1 with fail
  rw [← HW.out]
  go_wp2_with fail
  refine SM.out.mono ?_
  rintro e w1 ⟨rfl, hb1⟩
  have HB1 := Lib.hid hb1; clear hb1 k0 k1 k2
  go_wp2_with fail
  refine (AL.out _).mono ?_
  rintro e w2 ⟨rfl, hb2⟩
  have hb2 := HB1.out.trans (hb2.mono HB1.out.size)
  obtain ⟨k0, k1, k2⟩ := HS.out w2 hb2
  have HB2 := Lib.hid hb2
  clear hb2
  go_wp2_with fail
  refine (FP.out w2 HB2.out).mono ?_
  rintro e w3 ⟨hb3, ⟨E, ea, eb, ⟨hE, _⟩, rfl⟩ | ⟨h0, Ms, mb, b, nm, V, hms, rfl, hmp⟩⟩
  · have hEb : (E != 0) = true := by simpa using hE
    have hb3 := HB2.out.trans (hb3.mono HB2.out.size)
    have HB4 := Lib.hid (HBW.out _ (hb3.alloc hb3.size (.cells #[.int .i64 ea, .int .i64 eb] 34)))
    clear hb3 hE k0 k1 k2
    go_wp2_with fail
    go_ret
    exact ⟨rfl, HB4.out⟩
  have hfit := prgFit h0
  have hB3 := HB2.out.trans (hb3.mono HB2.out.size)
  have hB4 := hB3.alloc hB3.size (.cells #[.int .i64 0, .int .i64 0] 34)
  have hmp4 := hmp.below ((Below.refl w3.heap.size w3).alloc (Nat.le_refl _) (.cells #[.int .i64 0, .int .i64 0] 34))
  obtain ⟨Y, hY⟩ : ∃ Y, Y = w3.alloc (.cells #[.int .i64 0, .int .i64 0] 34) := ⟨_, rfl⟩
  rw [← hY] at hB4 hmp4
  have hcl := allM_len hfit rfl hms
  have HY := Lib.hid hY
  have HB4 := Lib.hid hB4
  have HMP := Lib.hid hmp4
  have HCL := Lib.hid hcl
  have HMS := Lib.hid hms
  have HFIT := Lib.hid hfit
  clear hY hB4 hmp4 hcl hms hfit hB3 hmp hb3 h0 k0 k1 k2
  go_upto_region 8 with fail
  rw [← HY.out]
  go_upto_region 9 with fail
  go_loopw [6] (fun i wr => ∃ k : Nat, k ≤ p.funcs.length ∧ i = .int .i64 k ∧ Below Y.heap.size Y wr) (fun i _ => p.funcs.length - (intOf i).toNat)
  case atStart => exact ⟨0, Nat.zero_le _, rfl, Below.refl _ _⟩
  case round =>
    obtain ⟨k, hk, rfl, hbr⟩ := hrel
    have hB5 := HB4.out.trans (hbr.mono HB4.out.size)
    by_cases hlt : k < p.funcs.length
    case neg =>
      have hk' : k = p.funcs.length := by omega
      subst hk'
      obtain ⟨k0, k1, k2⟩ := HS.out wr hB5
      have HB6 := Lib.hid (HBW.out _ hB5)
      clear hbr hB5
      go_wp2_with fail
      go_ret
      exact ⟨rfl, HB6.out⟩
    have hklt : (k : Int) < (p.funcs.length : Int) := by omega
    have hfm := List.getElem_mem hlt
    have hff := HFIT.out.fn _ hfm
    have hk16 : k < 16 := by have := HFIT.out.funcs2; omega
    have hfk : fnAt p k = p.funcs[k] := by unfold fnAt; simp [hlt]
    obtain ⟨hflow, hfe0⟩ := HMS.out k hlt
    rw [hfk] at hflow hfe0
    have hMb := fun (q : Nat) (K : List Int) (h : Ms k q = some K) => flow_b HFIT.out HPB.out hfm hflow h
    have hrs := fun (u : World) (h : Below w.heap.size w u) (q : Nat) (i : Ins) (hi : p.funcs[k].code[q]? = some i) => rstep_any u _ p _ _ _ (HPP.out u h) HPB.out HPR.out HFIT.out k q hlt i hi
    have hfs := HFN.out wr hB5 k hlt
    obtain ⟨f, hfe⟩ : ∃ f, f = p.funcs[k] := ⟨_, rfl⟩
    rw [← hfe] at hff hflow hfe0 hfs hrs
    clear hfk hfe hfm
    obtain ⟨bb, o, rfl, _, y0, y1, y2, y3, y4, g0, g1, g2, g3, g4, hfv⟩ := hfs
    obtain ⟨rfl, rfl, ⟨e0, e1, rfl, _⟩, ⟨e2, e3, rfl, _⟩, e4, e5, rfl, hcs⟩ := hfv
    obtain ⟨sN, hsN⟩ : ∃ sN : Nat, f.slots = (sN : Int) := ⟨f.slots.toNat, by have := hff.args; omega⟩
    rw [hsN] at g2
    have hnp := fun (q : Nat) (hq : q < f.code.length) => next_in HFIT.out hff hq
    have hcl1 := hff.code1
    have hcl2 := hff.code2
    obtain ⟨cb, co, rfl, hz0⟩ := hcs 0 hcl1
    clear hz0
    obtain ⟨N, hN⟩ : ∃ N, N = f.code.length := ⟨_, rfl⟩
    rw [← hN] at g4
    have hM0 : (Ms k 0).isSome = true := by obtain ⟨K, hK, _⟩ := hflow.1.first; rw [hK]; rfl
    have hat := fun (q : Nat) (h : i64B (k : Int) ∧ i64B (q : Int)) => allM_at (Ms := Ms) hlt q h
    have hkB : i64B (k : Int) := ⟨by omega, by omega⟩
    have hN64 : N ≤ 64 := by omega
    have hqB := fun (q : Nat) (h : q ≤ N) => (show i64B (q : Int) from ⟨by omega, by omega⟩)
    have hmp := HMP.out.below hbr
    have rm := fun u (h : Below wr.heap.size wr u) (q : Nat) (hq : q ≤ N) => (show Calls Try.prog 20 #[.pointer (some ⟨mb, 0, none⟩), .int .i64 k, .int .i64 q] u fun e w' => e = .returned (.bool (Ms k q).isSome) ∧ u = w' from by
      have h1 := reachedM_any u _ mb b nm V _ (hmp.below h) k q ⟨hkB, hqB q hq⟩
      rw [hat] at h1
      exact h1)
    have km := fun u (h : Below wr.heap.size wr u) (q : Nat) (hq : q ≤ N) (K : List Int) (hK : Ms k q = some K) => (show Calls Try.prog 21 #[.pointer (some ⟨mb, 0, none⟩), .int .i64 k, .int .i64 q] u fun e w' => ∃ va vc, e = .returned (.slice va K.length vc) ∧ IntSl w' (fun _ => True) va K ∧ Below u.heap.size u w' from by
      refine (kindsM_any u _ mb b nm V _ (hmp.below h) k q ⟨hkB, hqB q hq⟩ HCL.out).mono ?_
      rintro e w' ⟨v, rfl, ho, hb⟩
      rw [hat, hK] at ho
      obtain ⟨va, vc, rfl, hs⟩ := own_int ho
      exact ⟨va, vc, rfl, hs.wide (fun _ _ => trivial), hb⟩)
    have hS : ∀ u, Below wr.heap.size wr u → u.cell? ⟨w.heap.size, 0, none⟩ = some (.slice a0 p.globals.length m0) ∧ u.cell? ⟨w.heap.size, 1, none⟩ = some (.slice a1 p.shapes.length m1) ∧ u.cell? ⟨w.heap.size, 2, none⟩ = some (.slice (some ⟨bb, o, none⟩) p.funcs.length m2) ∧ u.cell? ⟨bb, o + k * 5 + 2, none⟩ = some (.int .i64 sN) ∧ u.cell? ⟨bb, o + k * 5 + 4, none⟩ = some (.slice (some ⟨cb, co, none⟩) N e5) := fun u h => ⟨(HS.out u (hB5.trans (h.mono hB5.size))).1, (HS.out u (hB5.trans (h.mono hB5.size))).2.1, (HS.out u (hB5.trans (h.mono hB5.size))).2.2, below_cell h g2, below_cell h g4⟩
    have hrs := fun (u : World) (h : Below wr.heap.size wr u) => hrs u (HBW.out u (hB5.trans (h.mono hB5.size)))
    have rm0 := rm wr (Below.refl _ _) 0 (Nat.zero_le _)
    rw [hM0] at rm0
    have rm0 : Calls Try.prog 20 #[.pointer (some ⟨mb, 0, none⟩), .int .i64 k, .int .i64 0] wr fun e w' => e = .returned (.bool true) ∧ wr = w' := rm0
    obtain ⟨k0, k1, k2, _, _⟩ := hS wr (Below.refl _ _)
    have i1 : IntKind.i64.wrap ((k : Int) + 1) = (k : Int) + 1 := IntWalk.i64_in _ (by omega)
    have HII := Lib.hid i1
    have HBR := Lib.hid hbr
    have HFF := Lib.hid hff
    have HFLOW := Lib.hid hflow
    have HFE := Lib.hid hfe0
    have HNP := Lib.hid hnp
    have HSN := Lib.hid hsN
    have HN := Lib.hid hN
    have HLT := Lib.hid hlt
    have RM := Lib.hid rm
    have RM0 := Lib.hid rm0
    have KM := Lib.hid km
    have HSS := Lib.hid hS
    have HRS := Lib.hid hrs
    have HMB := Lib.hid hMb
    have HCS := Lib.hid hcs
    clear i1 hbr hff hflow hfe0 hnp hsN hN rm rm0 km hS hrs hMb hcs hB5 hat hkB hqB hmp hM0 hcl1 hcl2 g0 g1 g2 g3 g4
    go_wp2_with fail
    refine RM0.out.mono ?_
    rintro e w' ⟨rfl, rfl⟩
    clear k0 k1 k2
    go_upto_region 14 with fail
    have HW1R := Lib.hid (Below.refl wr.heap.size wr)
    generalize wr = wo at *
    go_loopw [7] (fun i wr => ∃ q : Nat, q ≤ N ∧ i = .int .i64 q ∧ Below wo.heap.size wo wr) (fun i _ => N - (intOf i).toNat)
    case atStart => exact ⟨0, Nat.zero_le _, rfl, HW1R.out⟩
    case round =>
      obtain ⟨q, hq, rfl, hbr⟩ := hrel
      obtain ⟨k0, k1, k2, g2, g4⟩ := HSS.out wr hbr
      by_cases hql : q < N
      case neg =>
        have hq' : q = N := by omega
        subst hq'
        have HBX := Lib.hid (HBR.out.trans (hbr.mono HBR.out.size))
        have i1 := HII.out
        clear hbr
        go_wp2_with fail
        go_roundw
        case rel => exact ⟨k + 1, HLT.out, by go_num, HBX.out⟩
        case measure => simp [intOf]; omega
      have hqlt : (q : Int) < (N : Int) := by omega
      have i1 : IntKind.i64.wrap ((q : Int) + 1) = (q : Int) + 1 := IntWalk.i64_in _ (by omega)
      have rm := RM.out wr hbr q hq
      have HQL := Lib.hid hql
      cases hM : Ms k q with
      | none =>
        rw [hM] at rm
        have rm : Calls Try.prog 20 #[.pointer (some ⟨mb, 0, none⟩), .int .i64 k, .int .i64 q] wr fun e w' => e = .returned (.bool false) ∧ wr = w' := rm
        have RMM := Lib.hid rm
        have HBX := Lib.hid hbr
        clear rm hbr hM
        go_wp2_with fail
        refine RMM.out.mono ?_
        rintro e w' ⟨rfl, rfl⟩
        go_wp2_with fail
        go_roundw
        case rel => exact ⟨q + 1, HQL.out, by go_num, HBX.out⟩
        case measure => simp [intOf]; omega
      | some K =>
        rw [hM] at rm
        have rm : Calls Try.prog 20 #[.pointer (some ⟨mb, 0, none⟩), .int .i64 k, .int .i64 q] wr fun e w' => e = .returned (.bool true) ∧ wr = w' := rm
        have hqc : q < f.code.length := by rw [← HN.out]; exact hql
        obtain ⟨hrd, hne⟩ := flowE_at HFE.out hqc hM
        have hi : f.code[q]? = some (insAt f q) := by unfold insAt; simp [hqc]
        have hok := stepOk HFIT.out (HFF.out.ins q _ hi) (by have := HFF.out.args; omega)
        have hKl := (HFLOW.out.1.len q K hM).2
        rw [← hKl] at hok
        have hsl := HFF.out.slots
        have hKs : K.length = sN := by have := HSN.out; omega
        have hs16 : sN ≤ 16 := by have := HSN.out; omega
        have hstep := fun (m : Nat) (hm : (m : Int) ∈ nextK (insAt f q) q) (hl : m < f.code.length) => HFLOW.out.1.step q K _ hM hi m hm hl
        have hrst := fun (u : World) (h : Below wo.heap.size wo u) (va : Option Addr) (vc : Nat) (hs : IntSl u (fun _ => True) va K) => HRS.out u h q _ hi _ va K vc hs hok (HMB.out q K hM) (by omega)
        rw [hrd] at hrst
        have kmq := fun u (h : Below wo.heap.size wo u) => KM.out u h q hq K hM
        have hnp := HNP.out q hqc
        obtain ⟨cb', co', ec, _, q0, q1, q2, q3⟩ := HCS.out q hqc
        injection ec with ec
        injection ec with ec1 ec2
        subst ec1 ec2
        rw [List.getElem?_eq_getElem hqc] at hi
        injection hi with hi
        rw [hi] at q0 q1 q2 q3
        obtain ⟨i, hie⟩ : ∃ i, i = insAt f q := ⟨_, rfl⟩
        have hOl : (outK p f i K).length = sN := by rw [outK_len]; exact hKs
        obtain ⟨OUT, hOUT⟩ : ∃ OUT, OUT = outK p f i K := ⟨_, rfl⟩
        have rnx := fun u => rnext_any u i q (by omega)
        have hnl := nextK_len i (q : Int)
        rw [← hie] at hne hstep hrst hnp q0 q1 q2 q3
        rw [← hOUT] at hOl hstep hrst
        obtain ⟨NL, hNL⟩ : ∃ NL, NL = nextK i (q : Int) := ⟨_, rfl⟩
        rw [← hNL] at hne hstep hnp rnx hnl
        rw [hKs] at kmq hrst
        obtain ⟨iop, ia, ib, ic⟩ := i
        dsimp only at q0 q1 q2 q3 rnx
        have HIC := Lib.hid (show ∀ u, Below wo.heap.size wo u → u.cell? ⟨cb, co + q * 4, none⟩ = some (.int .i64 iop) ∧ u.cell? ⟨cb, co + q * 4 + 1, none⟩ = some (.int .i64 ia) ∧ u.cell? ⟨cb, co + q * 4 + 2, none⟩ = some (.int .i64 ib) ∧ u.cell? ⟨cb, co + q * 4 + 3, none⟩ = some (.int .i64 ic) from fun u h => ⟨below_cell h q0, below_cell h q1, below_cell h q2, below_cell h q3⟩)
        have hRd := hbr.drew
        have HRD := Lib.hid hRd
        have HBX := Lib.hid hbr
        have RMM := Lib.hid rm
        have HNE := Lib.hid hne
        have HSTEP := Lib.hid hstep
        have HRST := Lib.hid hrst
        have KMQ := Lib.hid kmq
        have HNPQ := Lib.hid hnp
        have HOL := Lib.hid hOl
        have RNX := Lib.hid rnx
        have HNL2 := Lib.hid hnl
        clear rm hbr hM hqc hrd hi hok hKl hsl hne hstep hrst kmq hnp q0 q1 q2 q3 hie hOUT rnx hnl hNL hOl hRd
        go_wp2_with fail
        refine RMM.out.mono ?_
        rintro e w' ⟨rfl, rfl⟩
        go_upto_region 17 with fail
        have hSd : wr.drew.cell? ⟨w.heap.size, 0, none⟩ = some (.slice a0 p.globals.length m0) ∧ wr.drew.cell? ⟨w.heap.size, 1, none⟩ = some (.slice a1 p.shapes.length m1) ∧ wr.drew.cell? ⟨w.heap.size, 2, none⟩ = some (.slice (some ⟨bb, o, none⟩) p.funcs.length m2) := ⟨k0, k1, k2⟩
        clear k0 k1 k2 g2 g4
        go_region_held3 (fun w' => w'.cell? ⟨w.heap.size, 0, none⟩ = some (.slice a0 p.globals.length m0) ∧ w'.cell? ⟨w.heap.size, 1, none⟩ = some (.slice a1 p.shapes.length m1) ∧ w'.cell? ⟨w.heap.size, 2, none⟩ = some (.slice (some ⟨bb, o, none⟩) p.funcs.length m2)) (first | with_reducible exact hSd | with_reducible exact hS8 | with_reducible exact hS7 | go_keep) (first
          | (go_at_call 21
             refine (KMQ.out _ HRD.out).mono ?_
             rintro e w7 ⟨va, vc, rfl, hks, hb7⟩
             have hb7 := HRD.out.trans (hb7.mono HRD.out.size)
             obtain ⟨j0, j1, j2, _, _⟩ := HSS.out w7 hb7
             have hS7 := And.intro j0 (And.intro j1 j2)
             have HB7 := Lib.hid hb7
             have HST := Lib.hid (HRST.out w7 hb7 va vc hks)
             clear hks hb7 j0 j1 j2)
          | (go_at_call 16
             refine HST.out.mono ?_
             rintro e w8 ⟨v8, rfl, ho8, hb8⟩
             have hb8' := HB7.out.trans (hb8.mono HB7.out.size)
             obtain ⟨j0, j1, j2, _, _⟩ := HSS.out w8 hb8'
             have hS8 := And.intro j0 (And.intro j1 j2)
             obtain ⟨oa, oc, rfl, hos⟩ := own_int ho8
             have HB8 := Lib.hid hb8'
             have HOS := Lib.hid (hos.wide (D' := fun _ => True) (fun _ _ => trivial))
             clear ho8 hb8 hb8' hos j0 j1 j2))
        rw [HOL.out]
        clear hSd hS7 hS8 HST
        obtain ⟨k0, k1, k2, g2, g4⟩ := HSS.out w8 HB8.out
        have hsd : (sN != sN) = false := by simp
        go_upto_region 18 with fail
        have HR8 := Lib.hid HB8.out.drew
        have hSd : w8.drew.cell? ⟨w.heap.size, 2, none⟩ = some (.slice (some ⟨bb, o, none⟩) p.funcs.length m2) ∧ w8.drew.cell? ⟨bb, o + k * 5 + 2, none⟩ = some (.int .i64 sN) := ⟨k2, g2⟩
        clear k0 k1 k2 g2 g4
        go_region_held3 (fun w' => w'.cell? ⟨w.heap.size, 2, none⟩ = some (.slice (some ⟨bb, o, none⟩) p.funcs.length m2) ∧ w'.cell? ⟨bb, o + k * 5 + 2, none⟩ = some (.int .i64 sN)) (first | with_reducible exact hSd | with_reducible exact hS9 | go_keep) (first
          | (go_at_call 21
             refine (KMQ.out _ HR8.out).mono ?_
             rintro e w9 ⟨va, vc, rfl, hks, hb9⟩
             have HB89 := Lib.hid hb9
             have hb9 := HR8.out.trans (hb9.mono HR8.out.size)
             obtain ⟨_, _, j2, j3, _⟩ := HSS.out w9 hb9
             have hS9 := And.intro j2 j3
             have HB9 := Lib.hid hb9
             clear hks hb9 j2 j3))
        clear hSd hS9
        have HOS9 := Lib.hid ((show IntSl w8.drew (fun _ => True) oa OUT from HOS.out).fr (Fr.of_below HB89.out (fun _ => False)) (fun _ _ h => h))
        obtain ⟨k0, k1, k2, g2, g4⟩ := HSS.out w9 HB9.out
        obtain ⟨q0, q1, q2, q3⟩ := HIC.out w9 HB9.out
        clear HOS HB89 HB8 HB7 HR8
        go_wp2_with fail
        refine (RNX.out _).mono ?_
        rintro e w10 ⟨v10, rfl, ho10, hb10⟩
        obtain ⟨na, nc, rfl, hns⟩ := own_int ho10
        have HB10 := Lib.hid (HB9.out.trans (hb10.mono HB9.out.size))
        have HOS := Lib.hid (HOS9.out.fr (Fr.of_below hb10 (fun _ => False)) (fun _ _ h => h))
        have HNS := Lib.hid (hns.wide (D' := fun _ => True) (fun _ _ => trivial))
        clear ho10 hb10 hns HOS9 HB9 k0 k1 k2 g2 g4 q0 q1 q2 q3
        go_upto_region 22 with fail
        generalize wr = wp at *
        go_loopw [11] (fun i wr => ∃ j : Nat, j ≤ NL.length ∧ i = .int .i64 j ∧ Below w10.heap.size w10 wr) (fun i _ => NL.length - (intOf i).toNat)
        case atStart => exact ⟨0, Nat.zero_le _, rfl, Below.refl _ _⟩
        case round =>
          obtain ⟨j, hj, rfl, hbr⟩ := hrel
          have hbo := HB10.out.trans (hbr.mono HB10.out.size)
          by_cases hjl : j < NL.length
          case neg =>
            have hj' : j = NL.length := by omega
            have hnl := HNL2.out
            obtain ⟨nl, hnl'⟩ : ∃ nl, nl = NL.length := ⟨_, rfl⟩
            rw [← hnl'] at hj' ⊢
            subst hj'
            clear hnl'
            have HBY := Lib.hid hbo
            clear hbr hbo
            go_wp2_with fail
            go_roundw
            case rel => exact ⟨q + 1, HQL.out, by go_num, HBY.out⟩
            case measure => simp [intOf]; omega
          have hnl := HNL2.out
          obtain ⟨nb, no, rfl, _, hx⟩ := HNS.out j hjl
          replace hx := below_cell hbr hx
          have hmem := List.getElem_mem hjl
          have h0 := HNPQ.out _ hmem
          have h1 := HNE.out _ hmem
          obtain ⟨m, hm⟩ : ∃ m : Nat, NL[j] = (m : Int) := ⟨NL[j].toNat, by omega⟩
          rw [hm] at hx hmem h0 h1
          have hmN : m < f.code.length := by omega
          have hmN' : m ≤ N := by rw [HN.out]; omega
          obtain ⟨L, hL, hle⟩ := HSTEP.out m hmem hmN
          have hLl : L.length = sN := by have := hle.1; rw [HOL.out] at this; exact this
          have hrm := fun u (h : Below wo.heap.size wo u) => RM.out u h m hmN'
          rw [hL] at hrm
          have hrm : ∀ u (h : Below wo.heap.size wo u), Calls Try.prog 20 #[.pointer (some ⟨mb, 0, none⟩), .int .i64 k, .int .i64 m] u fun e w' => e = .returned (.bool true) ∧ u = w' := hrm
          have hkm := KM.out wr hbo m hmN' L hL
          rw [hLl] at hkm
          have hjlt : (j : Int) < (NL.length : Int) := by omega
          have i1 : IntKind.i64.wrap ((j : Int) + 1) = (j : Int) + 1 := IntWalk.i64_in _ (by omega)
          have hsd : (sN != sN) = false := by simp
          have HJL := Lib.hid hjl
          have HI1 := Lib.hid i1
          have HLE := Lib.hid hle.2
          have HLL := Lib.hid hLl
          have HRM := Lib.hid hrm
          have HKM := Lib.hid hkm
          have HBO := Lib.hid hbo
          have HBJ := Lib.hid hbr
          clear hm hmem h0 h1 hmN hmN' hL hle hLl hrm hkm hbo hbr hjl i1 hnl
          go_wp2_with fail
          refine HKM.out.mono ?_
          rintro e w11 ⟨va, vc, rfl, hks, hb11⟩
          have HB11 := Lib.hid (HBO.out.trans (hb11.mono HBO.out.size))
          have HBJ11 := Lib.hid (HBJ.out.trans (hb11.mono HBJ.out.size))
          have HKS := Lib.hid hks
          have HO11 := Lib.hid (HOS.out.fr (Fr.of_below HBJ11.out (fun _ => False)) (fun _ _ h => h))
          replace hx := below_cell hb11 hx
          clear hks hb11
          go_wp2_with fail
          refine (HRM.out _ HB11.out).mono ?_
          rintro e w' ⟨rfl, rfl⟩
          go_upto_region 28 with fail
          generalize wr = wq at *
          go_loopw [13] (fun i wr => ∃ s : Nat, s ≤ sN ∧ i = .int .i64 s ∧ Below w11.heap.size w11 wr) (fun i _ => sN - (intOf i).toNat)
          case atStart => exact ⟨0, Nat.zero_le _, rfl, Below.refl _ _⟩
          case round =>
            obtain ⟨s, hs, rfl, hbr⟩ := hrel
            by_cases hsl : s < sN
            case neg =>
              have hs' : s = sN := by omega
              subst hs'
              have HBY := Lib.hid (HBJ11.out.trans (hbr.mono HBJ11.out.size))
              have i1 := HI1.out
              clear hbr
              go_wp2_with fail
              go_roundw
              case rel => exact ⟨j + 1, HJL.out, by go_num, HBY.out⟩
              case measure => simp [intOf]; omega
            have hslt : (s : Int) < (sN : Int) := by omega
            have hs1 : s < L.length := by rw [HLL.out]; exact hsl
            have hs2 : s < OUT.length := by rw [HOL.out]; exact hsl
            obtain ⟨b1, o1, rfl, _, c1⟩ := HKS.out s hs1
            obtain ⟨b2, o2, rfl, _, c2⟩ := HO11.out s hs2
            replace c1 := below_cell hbr c1
            replace c2 := below_cell hbr c2
            have hl := HLE.out s
            rw [List.getElem?_eq_getElem hs1, List.getElem?_eq_getElem hs2] at hl
            have hl : L[s] = 0 ∨ L[s] = OUT[s] := hl
            generalize L[s] = x at *
            generalize OUT[s] = y at *
            have i1 : IntKind.i64.wrap ((s : Int) + 1) = (s : Int) + 1 := IntWalk.i64_in _ (by omega)
            have HSL := Lib.hid hsl
            have HBS := Lib.hid hbr
            clear hs1 hs2 hsl hbr
            by_cases hx0 : x = 0
            · subst hx0
              clear hl
              go_upto_region 30 with fail
              go_quiet (fail)
              go_wp2_with fail
              go_roundw
              case rel => exact ⟨s + 1, HSL.out, by go_num, below_drewN HBS.out _⟩
              case measure => simp [intOf]; omega
            · have hxy : x = y := hl.resolve_left hx0
              subst hxy
              have hx1 : (x != 0) = true := by simpa using hx0
              clear hl hx0
              go_upto_region 30 with fail
              go_quiet (fail)
              go_wp2_with fail
              go_roundw
              case rel => exact ⟨s + 1, HSL.out, by go_num, below_drewN HBS.out _⟩
              case measure => simp [intOf]; omega
theorem own : ownKnob Try.prog.godebug = none := by kernel_rfl
theorem laidOut : laidOutB Try.prog = true := by kernel_rfl
set_option maxRecDepth 100000 in
theorem lifted (os : Os) (started : os.Started) (H : Type) (enc : TypeId × Value → H) :
    ReturnsInHanded {} Try.checked os 4 .any (Rows.flowHoldsSpec.pre6 enc Try.prog Try.f4 Rows.flowHoldsRow.domain false) (Rows.flowHoldsSpec.post enc Try.prog Try.f4 false true false false) := by
  refine returnsInHanded_of_change (C := Try.checked) own started (by kernel_rfl) Try.func4
    (ChangeSpec.witness6 (enc := enc) (C := Try.checked) false ⟨#[], #[.agg #[.slice none 0 0, .slice none 0 0, .slice none 0 0]], []⟩ 8 (by kernel_rfl) (by kernel_rfl) (by kernel_rfl) (by kernel_rfl)) ?_
  intro W base args ds gs before hval0 hW hcnd _
  have hval : ∀ (j : Nat) t v, Try.f4.params[j]? = some t → args[j]? = some v → Value.okWide Try.prog W .any base t v := hval0
  have hW' := hW
  obtain ⟨p, q, hA0, hV, rfl, hfz, hnd⟩ := hW
  have hA : DataW.TrodAll enc Try.prog W 0 (fun _ => true) true Try.f4.params.toList args.toList ds p := hA0
  rw [Try.params4] at hA hval
  obtain ⟨v0, vs0, d0, ds0, p0, q0, hargs, rfl, rfl, h0, r0⟩ := trodAll_cons hA
  obtain ⟨rfl, rfl, rfl⟩ := trodAll_nil r0
  obtain rfl : args = #[v0] := by cases args; simp_all
  have w0 := open_programB (hval 0 26 v0 rfl rfl) h0
  clear hA0 hval0
  simp only [List.append_nil] at hW'
  refine (walk W v0 w0).mono fun e W' ⟨he, hb⟩ => ?_
  subst he
  exact ⟨_, rfl, law_post laidOut (by kernel_rfl) rfl Try.underlying4 hW' rfl (fun ds h => by match ds, h with | [_], _ => rfl) hb⟩
theorem over : Rows.flowHoldsRow.holds Try.pinned (OpenSpec.ofChange Rows.flowHoldsSpec) :=
  OpenClaim.holds_of_wide 4 Try.f4 rfl rfl rfl rfl rfl rfl rfl ⟨rfl, rfl, rfl, rfl, rfl⟩ rfl rfl rfl rfl rfl (by kernel_rfl) Try.func4 (by kernel_rfl)
    (of_decide_eq_true (by kernel_rfl)) (by unfold Func.isWrapper; first | (rw [if_pos (by decide +kernel)]; kernel_rfl) | (rw [if_neg (by decide +kernel)]; exact ⟨rfl, rfl⟩))
    (fun os started H enc _ => lifted os started H enc)
theorem proved : Rows.FlowHoldsSaid := over
#print axioms proved
end Go.Proofs.Ytjcjhfnjamphlaa.flowHolds
