import Derived.Test.YtjcjhfnjamphlaaGreatZAs
import Derived.Test.YtjcjhfnjamphlaaGreatZBa
import Derived.Deep.RegionHeld3
import Derived.Deep.CutBlock
import Derived.Deep.DeepCutAuto
set_option linter.unusedVariables false
set_option linter.unusedSimpArgs false
namespace Go.Proofs.YtjcjhfnjamphlaaGreat
open Go.ChangeShapes Go.WideShapes Go.ChangeAt Go.RowKit Go.Maps
def Lok (op : Int) : Prop := (operandsS op).size = 0 ∨ ((operandsS op).size = 3 ∧ gb (operandsS op) 1 ≠ 114 ∧ gb (operandsS op) 2 ≠ 114 ∧ ((op = 23 ∨ op = 24) → gb (operandsS op) 1 = 102))
theorem lok_of {op x y z : Int} (h : LettersAre op x y z) (hy : y ≠ 114) (hz : z ≠ 114) (hc : (op = 23 ∨ op = 24) → y = 102) : Lok op := .inr ⟨h.1, by rw [h.2.2.1]; exact hy, by rw [h.2.2.2]; exact hz, fun e => by rw [h.2.2.1]; exact hc e⟩
theorem lok_any (op : Int) : Lok op := op_cases (p := Lok) (ops_all (lok_of letters0 (by decide) (by decide) (by decide)) (lok_of letters1 (by decide) (by decide) (by decide)) (lok_of letters2 (by decide) (by decide) (by decide)) (lok_of letters3 (by decide) (by decide) (by decide)) (lok_of letters4 (by decide) (by decide) (by decide)) (lok_of letters5 (by decide) (by decide) (by decide)) (lok_of letters6 (by decide) (by decide) (by decide)) (lok_of letters7 (by decide) (by decide) (by decide)) (lok_of letters8 (by decide) (by decide) (by decide)) (lok_of letters9 (by decide) (by decide) (by decide)) (lok_of letters10 (by decide) (by decide) (by decide)) (lok_of letters11 (by decide) (by decide) (by decide)) (lok_of letters12 (by decide) (by decide) (by decide)) (lok_of letters13 (by decide) (by decide) (by decide)) (lok_of letters14 (by decide) (by decide) (by decide)) (lok_of letters15 (by decide) (by decide) (by decide)) (lok_of letters16 (by decide) (by decide) (by decide)) (lok_of letters17 (by decide) (by decide) (by decide)) (lok_of letters18 (by decide) (by decide) (by decide)) (lok_of letters19 (by decide) (by decide) (by decide)) (lok_of letters20 (by decide) (by decide) (by decide)) (lok_of letters21 (by decide) (by decide) (by decide)) (lok_of letters22 (by decide) (by decide) (by decide)) (lok_of letters23 (by decide) (by decide) (by decide)) (lok_of letters24 (by decide) (by decide) (by decide)) (lok_of letters25 (by decide) (by decide) (by decide)) (lok_of letters26 (by decide) (by decide) (by decide)) (lok_of letters27 (by decide) (by decide) (by decide)) (lok_of letters28 (by decide) (by decide) (by decide)) (lok_of letters29 (by decide) (by decide) (by decide))) (fun op h => .inl (by rw [operands_out op (.inl h)]; rfl)) (fun op h => .inl (by rw [operands_out op (.inr h)]; rfl)) op
theorem iAt_some {p : Prg} {j q : Nat} {f : Fun} (hc : codeOf p j = f.code) (hq : q < f.code.length) : iAt p j q = some f.code[q] := by
 unfold iAt
 rw [hc, if_pos ⟨by omega, by omega⟩]
 simp [hq]
theorem iAt_out {p : Prg} {fn pc : Int} (h : ¬ (0 ≤ pc ∧ pc < (codeOf p fn).length)) : iAt p fn pc = none := by unfold iAt; rw [if_neg h]
theorem codeOf_out {p : Prg} {fn : Int} (h : withinB fn p.funcs.length = false) : codeOf p fn = [] := by unfold codeOf; rw [if_neg (by rw [h]; simp)]
set_option maxRecDepth 100000 in
set_option maxHeartbeats 6400000 in
theorem rinstrC_any (w : World) (D : Nat → Prop) (hD : ∀ k, D k → k < w.heap.size) (p : Prg) (c0 c1 c2 : Value) (hv : PrgVal w D p c0 c1 c2) (hp : PrgB p) (hq : PrgR p) (fn pc : Int) :
  Calls Tryz.prog 86 #[.agg #[c0, c1, c2], .int .i64 fn, .int .i64 pc] w fun e w' => e = .returned (.int .i64 (instrE p fn pc)) ∧ Below w.heap.size w w' := by
 obtain ⟨⟨a0, m0, rfl, _⟩, ⟨a1, m1, rfl, _⟩, a2, m2, rfl, hfn⟩ := hv
 have hbx := fun wr h => box1 w #[.slice a0 p.globals.length m0, .slice a1 p.shapes.length m1, .slice a2 p.funcs.length m2] 26 wr h
 have hz0 : (w.alloc (.cells #[.slice a0 p.globals.length m0, .slice a1 p.shapes.length m1, .slice a2 p.funcs.length m2] 26)).heap.size = w.heap.size + 1 := by simp
 obtain ⟨W, hW⟩ : ∃ W, W = (w.alloc (.cells #[.slice a0 p.globals.length m0, .slice a1 p.shapes.length m1, .slice a2 p.funcs.length m2] 26)) := ⟨_, rfl⟩
 rw [← hW] at hbx hz0
 have hs : ∀ wr, Below W.heap.size W wr → wr.cell? ⟨w.heap.size, 0, none⟩ = some (.slice a0 p.globals.length m0) ∧ wr.cell? ⟨w.heap.size, 1, none⟩ = some (.slice a1 p.shapes.length m1) ∧ wr.cell? ⟨w.heap.size, 2, none⟩ = some (.slice a2 p.funcs.length m2) := fun wr h => by
  rw [hz0] at h
  have hb := hbx wr h
  exact ⟨hb.1 0 _ rfl, hb.1 1 _ rfl, hb.1 2 _ rfl⟩
 have hbw : ∀ wr, Below W.heap.size W wr → Below w.heap.size w wr := fun wr h => by rw [hz0] at h; exact (hbx wr h).2.1
 have hw0 := Below.refl W.heap.size W
 have hb0 := hbw W hw0
 have hfn : ∀ wr, Below W.heap.size W wr → FnSl wr D a2 p.funcs := fun wr h => hfn.fr (Fr.of_below (hbw wr h) (fun _ => False)) (fun _ _ h => h)
 obtain ⟨k0, k1, k2⟩ := hs W hw0
 have HW := Lib.hid hW
 clear hW hbx hz0
 cases hin : withinB fn p.funcs.length
 ·rw [instrE_none (iAt_out (by rw [codeOf_out hin]; simp))]
  clear hs hbw hfn hw0
  have HB0 := Lib.hid hb0; clear hb0
  by_cases h0 : fn < 0
  ·clear hin
   go_enter Tryz.func86, Tryz.ntmps86
   go_upto_region 1 with fail
   rw [← HW.out]
   go_wp2_with fail
   go_ret
   exact ⟨rfl, HB0.out⟩
  ·have h1 : (p.funcs.length : Int) ≤ fn := by simp [withinB] at hin; omega
   clear hin
   go_enter Tryz.func86, Tryz.ntmps86
   go_upto_region 1 with fail
   rw [← HW.out]
   go_wp2_with fail
   go_ret
   exact ⟨rfl, HB0.out⟩
 obtain ⟨j, rfl, hj⟩ := within_nat hin
 obtain ⟨bb, o, rfl, _, y0, y1, y2, y3, y4, g0, g1, g2, g3, g4, hfv⟩ := hfn W hw0 j hj
 have hfb := hp.2.2 p.funcs[j] (List.getElem_mem hj)
 have hfr := hq.2.2.2.2 p.funcs[j] (List.getElem_mem hj)
 have hco : codeOf p j = p.funcs[j].code := by unfold codeOf; rw [if_pos hin]; simp [hj]
 have hget : (p.funcs[((j : Int)).toNat]?).getD fun0 = p.funcs[j] := by simp [hj]
 have hj0 : ¬ (j : Int) < 0 := by omega
 have hj1 : ¬ (p.funcs.length : Int) ≤ (j : Int) := by omega
 have hj2 : (j : Int) < p.funcs.length := by omega
 generalize p.funcs[j] = f at *
 obtain ⟨rfl, rfl, ⟨e0, e1, rfl, _⟩, ⟨e2, e3, rfl, _⟩, e4, e5, rfl, hcode⟩ := hfv
 by_cases hpc : 0 ≤ pc ∧ pc < f.code.length
 case neg =>
  rw [instrE_none (iAt_out (by rw [hco]; exact hpc))]
  clear hs hbw hfn hw0 hco hget hin hfb hfr hcode
  have HB0 := Lib.hid hb0; clear hb0
  by_cases h0 : pc < 0
  ·clear hpc
   go_enter Tryz.func86, Tryz.ntmps86
   go_upto_region 1 with fail
   rw [← HW.out]
   go_wp2_with fail
   go_ret
   exact ⟨rfl, HB0.out⟩
  ·have h1 : (f.code.length : Int) ≤ pc := by omega
   clear hpc
   go_enter Tryz.func86, Tryz.ntmps86
   go_upto_region 1 with fail
   rw [← HW.out]
   go_wp2_with fail
   go_ret
   exact ⟨rfl, HB0.out⟩
 obtain ⟨q, rfl, hqc⟩ : ∃ q : Nat, pc = q ∧ q < f.code.length := ⟨pc.toNat, by omega, by omega⟩
 have hsl : f.slots < 9223372036854775808 := by have := hfb.2.2.1.2; omega
 rw [instrE_some (iAt_some hco hqc), hget, ← ieq_any p f _ hsl]
 obtain ⟨b', o', rfl, _, z0, z1, z2, z3⟩ := hcode q hqc
 have hwf := hfb.2.2.2.2 f.code[q] (List.getElem_mem hqc)
 have hq0 : ¬ (q : Int) < 0 := by omega
 have hq1 : ¬ (f.code.length : Int) ≤ (q : Int) := by omega
 have hq2 : (q : Int) < f.code.length := by omega
 generalize f.code[q] = i at *
 obtain ⟨op, a, b, c⟩ := i
 dsimp only at z0 z1 z2 z3
 clear hpc hin hco hget hfb hqc hj
 have hx1 := fun wr h => box2 W #[.slice e0 f.args.length e1, .int .i64 f.result, .int .i64 f.slots, .slice e2 f.objects.length e3, .slice (some ⟨b', o', none⟩) f.code.length e5] #[.int .i64 op, .int .i64 a, .int .i64 b, .int .i64 c] 58 60 wr h
 have hx2 : ((W.alloc (.cells #[.slice e0 f.args.length e1, .int .i64 f.result, .int .i64 f.slots, .slice e2 f.objects.length e3, .slice (some ⟨b', o', none⟩) f.code.length e5] 58)).alloc (.cells #[.int .i64 op, .int .i64 a, .int .i64 b, .int .i64 c] 60)).heap.size = W.heap.size + 2 := by simp
 obtain ⟨X, hX⟩ : ∃ X, X = (W.alloc (.cells #[.slice e0 f.args.length e1, .int .i64 f.result, .int .i64 f.slots, .slice e2 f.objects.length e3, .slice (some ⟨b', o', none⟩) f.code.length e5] 58)).alloc (.cells #[.int .i64 op, .int .i64 a, .int .i64 b, .int .i64 c] 60) := ⟨_, rfl⟩
 rw [← hX] at hx1 hx2
 have ht : ∀ wr, Below X.heap.size X wr → (wr.cell? ⟨W.heap.size, 0, none⟩ = some (.slice e0 f.args.length e1) ∧ wr.cell? ⟨W.heap.size, 1, none⟩ = some (.int .i64 f.result) ∧ wr.cell? ⟨W.heap.size, 2, none⟩ = some (.int .i64 f.slots) ∧ wr.cell? ⟨W.heap.size, 3, none⟩ = some (.slice e2 f.objects.length e3) ∧ wr.cell? ⟨W.heap.size, 4, none⟩ = some (.slice (some ⟨b', o', none⟩) f.code.length e5)) ∧ (wr.cell? ⟨W.heap.size + 1, 0, none⟩ = some (.int .i64 op) ∧ wr.cell? ⟨W.heap.size + 1, 1, none⟩ = some (.int .i64 a) ∧ wr.cell? ⟨W.heap.size + 1, 2, none⟩ = some (.int .i64 b) ∧ wr.cell? ⟨W.heap.size + 1, 3, none⟩ = some (.int .i64 c)) := fun wr h => by
  rw [hx2] at h
  have hb := hx1 wr h
  exact ⟨⟨hb.1 0 _ rfl, hb.1 1 _ rfl, hb.1 2 _ rfl, hb.1 3 _ rfl, hb.1 4 _ rfl⟩, hb.2.1 0 _ rfl, hb.2.1 1 _ rfl, hb.2.1 2 _ rfl, hb.2.1 3 _ rfl⟩
 have htw : ∀ wr, Below X.heap.size X wr → Below W.heap.size W wr := fun wr h => by rw [hx2] at h; exact (hx1 wr h).2.2.1
 have hX0 := Below.refl X.heap.size X
 have ops := operands_any X op
 unfold OperandsSaid at ops
 have un : ∀ w, Calls Tryz.prog 101 #[.agg #[.int .i64 op, .int .i64 a, .int .i64 b, .int .i64 c]] w fun e w' => e = .returned (.bool (unusedB ⟨op, a, b, c⟩)) ∧ Below w.heap.size w w' := unused_any ⟨op, a, b, c⟩
 obtain ⟨E, hE⟩ : ∃ E, E = rInstrS p f ⟨op, a, b, c⟩ := ⟨_, rfl⟩
 rw [← hE]
 unfold rInstrS at hE
 dsimp only at hE
 have hlok := lok_any op
 unfold Lok at hlok
 have hemp := isEmpty_iff (operandsS op)
 obtain ⟨s, hs0⟩ : ∃ s, s = operandsS op := ⟨_, rfl⟩
 have hbad : badAll p f ⟨op, a, b, c⟩ = ((if gb s 0 = 114 then resultOf f (rcallee p ⟨op, a, b, c⟩) != 0 && !placeB p f 115 a 0 else !placeB p f (gb s 0) a (argsN (rcallee p ⟨op, a, b, c⟩))) || !placeB p f (gb s 1) b (argsN (rcallee p ⟨op, a, b, c⟩)) || !placeB p f (gb s 2) c (argsN (rcallee p ⟨op, a, b, c⟩))) := by rw [hs0]; rfl
 have hrc : rcallee p ⟨op, a, b, c⟩ = if gb s 1 = 102 ∧ withinB b p.funcs.length = true then p.funcs[b.toNat]? else none := by rw [hs0]; rfl
 rw [hbad] at hE
 rw [← hs0] at hE hlok hemp ops
 clear hbad hs0
 have HX := Lib.hid hX
 clear hX hx1 hx2
 have hsc := fun (w : World) (k v : Int) (args : Nat) => place_any w p f a0 a1 (some ⟨bb, o, none⟩) e0 e2 (some ⟨b', o', none⟩) m0 m1 m2 e1 e3 e5 k v args (by omega)
 generalize unusedB ⟨op, a, b, c⟩ = ub at *
 have HS := Lib.hid hs; clear hs
 have HBW := Lib.hid hbw; clear hbw
 have HFN := Lib.hid hfn; clear hfn
 have HB0 := Lib.hid hb0; clear hb0
 have HW0 := Lib.hid hw0; clear hw0
 have HT := Lib.hid ht; clear ht
 have HTW := Lib.hid htw; clear htw
 have HX0 := Lib.hid hX0; clear hX0
 have UN := Lib.hid un; clear un
 have HSC := Lib.hid hsc; clear hsc
 have HCODE := Lib.hid hcode; clear hcode
 have HD := Lib.hid hD; clear hD
 have HWF := Lib.hid hwf; clear hwf
 have HE := Lib.hid hE
 have HRC := Lib.hid hrc
 have HLOK := Lib.hid hlok
 clear hE hrc hlok
 go_enter Tryz.func86, Tryz.ntmps86
 go_upto_region 1 with fail
 rw [← HW.out]
 have bz := World.block_lt z0
 dsimp only at bz
 go_upto_region 5 with fail
 rw [← HX.out]
 clear bz
 clear k0 k1 k2 g0 g1 g2 g3 g4 z0 z1 z2 z3
 obtain ⟨k0, k1, k2⟩ := HS.out X (HTW.out X HX0.out)
 obtain ⟨⟨t0, t1, t2, t3, t4⟩, x0, x1, x2, x3⟩ := HT.out X HX0.out
 have OPS := Lib.hid ops
 clear ops
 rcases HLOK.out with h0 | ⟨h3, l1n, l2n, hl23⟩
 ·rw [h0] at hemp
  have he : s.toList.isEmpty = true := by rw [hemp]; rfl
  have e := HE.out
  rw [if_pos (.inl (by omega))] at e
  subst e
  have hbz := HBW.out X (HTW.out X HX0.out)
  clear h0 hemp
  have HBZ := Lib.hid hbz; clear hbz
  go_wp2_with fail
  refine OPS.out.mono ?_
  rintro e w9 ⟨rfl, rfl⟩
  go_wp2_with fail
  go_ret
  exact ⟨rfl, HBZ.out⟩
 rw [h3] at hemp
 have he : s.toList.isEmpty = false := by rw [hemp]; rfl
 cases ub
 ·have e := HE.out
  rw [if_pos (.inr rfl)] at e
  subst e
  clear hemp
  go_wp2_with fail
  refine OPS.out.mono ?_
  rintro e w9 ⟨rfl, rfl⟩
  go_wp2_with fail
  refine (UN.out _).mono ?_
  rintro e w9 ⟨rfl, hb9⟩
  have HBZ := Lib.hid (HBW.out _ (HTW.out _ hb9))
  clear hb9
  go_wp2_with fail
  go_ret
  exact ⟨rfl, HBZ.out⟩
 have hE := HE.out
 rw [if_neg (by rw [h3]; simp)] at hE
 have g0 := gb_get s 0 (by omega)
 have g1 := gb_get s 1 (by omega)
 have g2 := gb_get s 2 (by omega)
 have i0 : (0 : Int) < s.size := by omega
 have i1 : (1 : Int) < s.size := by omega
 have i2 : (2 : Int) < s.size := by omega
 have hRC := HRC.out
 generalize gb s 0 = l0 at *
 generalize gb s 1 = l1 at *
 generalize gb s 2 = l2 at *
 have HE := Lib.hid hE
 have HRC := Lib.hid hRC
 have HL23 := Lib.hid hl23
 clear hE hRC hemp hl23 HLOK
 go_wp2_with fail
 refine OPS.out.mono ?_
 rintro e w9 ⟨rfl, rfl⟩
 go_wp2_with fail
 refine (UN.out _).mono ?_
 rintro e w9 ⟨rfl, hb9⟩
 clear k0 k1 k2 t0 t1 t2 t3 t4 x0 x1 x2 x3
 obtain ⟨k0, k1, k2⟩ := HS.out w9 (HTW.out w9 hb9)
 obtain ⟨⟨t0, t1, t2, t3, t4⟩, x0, x1, x2, x3⟩ := HT.out w9 hb9
 go_upto_region 9 with fail
 have hy1 := fun wr h => box1 w9 #[.int .i64 a, .int .i64 b, .int .i64 c] 3 wr h
 have hy2 : (w9.alloc (.cells #[.int .i64 a, .int .i64 b, .int .i64 c] 3)).heap.size = w9.heap.size + 1 := by simp
 obtain ⟨Z, hZ⟩ : ∃ Z, Z = w9.alloc (.cells #[.int .i64 a, .int .i64 b, .int .i64 c] 3) := ⟨_, rfl⟩
 rw [← hZ] at hy1 hy2 ⊢
 clear hZ
 have hz : ∀ wr, Below Z.heap.size Z wr → wr.cell? ⟨w9.heap.size, 0, none⟩ = some (.int .i64 a) ∧ wr.cell? ⟨w9.heap.size, 1, none⟩ = some (.int .i64 b) ∧ wr.cell? ⟨w9.heap.size, 2, none⟩ = some (.int .i64 c) := fun wr h => by
  rw [hy2] at h
  have hb := (hy1 wr h).1
  exact ⟨hb 0 _ rfl, hb 1 _ rfl, hb 2 _ rfl⟩
 have hzx : ∀ wr, Below Z.heap.size Z wr → Below X.heap.size X wr := fun wr h => by
  rw [hy2] at h
  exact hb9.trans ((hy1 wr h).2.1.mono hb9.size)
 have hz0 := Below.refl Z.heap.size Z
 clear hy1 hy2 hb9 k0 k1 k2 t0 t1 t2 t3 t4 x0 x1 x2 x3
 obtain ⟨k0, k1, k2⟩ := HS.out Z (HTW.out Z (hzx Z hz0))
 obtain ⟨⟨t0, t1, t2, t3, t4⟩, x0, x1, x2, x3⟩ := HT.out Z (hzx Z hz0)
 have HZ := Lib.hid hz; clear hz
 have HZX := Lib.hid hzx; clear hzx
 have HZ0 := Lib.hid hz0; clear hz0
 by_cases hl1 : l1 = 102
 ·subst hl1
  cases hwb : withinB b p.funcs.length
  ·have e := HE.out
   rw [if_pos ⟨rfl, hwb⟩] at e
   subst e
   have HBZ := Lib.hid (HBW.out Z (HTW.out Z (HZX.out Z HZ0.out)))
   by_cases hb0 : 0 ≤ b
   ·have hb1 : ¬ b < p.funcs.length := by simp [withinB] at hwb; omega
    clear hwb
    go_wp2_with fail
    go_ret
    exact ⟨rfl, HBZ.out⟩
   ·clear hwb
    go_wp2_with fail
    go_ret
    exact ⟨rfl, HBZ.out⟩
  ·obtain ⟨m, rfl, hm⟩ := within_nat hwb
   have hrc := HRC.out
   rw [if_pos ⟨rfl, hwb⟩] at hrc
   obtain ⟨_, _, e9, _, d0, d1, d2, d3, d4, g0, g1, g2, g3, g4, hfv⟩ := HFN.out Z (HTW.out Z (HZX.out Z HZ0.out)) m hm
   injection e9 with e9
   injection e9 with e9 e10
   subst e9 e10
   rw [show p.funcs[((m : Int)).toNat]? = some p.funcs[m] from by simp [hm]] at hrc
   have hgl := hq.2.2.2.2 p.funcs[m] (List.getElem_mem hm)
   have hE := HE.out
   rw [if_neg (by rw [hwb]; simp), hrc] at hE
   generalize p.funcs[m] = g at *
   obtain ⟨rfl, rfl, ⟨n0, n1, rfl, hgi⟩, ⟨n2, n3, rfl, _⟩, n4, n5, rfl, _⟩ := hfv
   have hgc : ∀ wr, Below Z.heap.size Z wr → (wr.cell? ⟨bb, o + m * 5, none⟩ = some (.slice n0 g.args.length n1) ∧ wr.cell? ⟨bb, o + m * 5 + 1, none⟩ = some (.int .i64 g.result) ∧ wr.cell? ⟨bb, o + m * 5 + 2, none⟩ = some (.int .i64 g.slots) ∧ wr.cell? ⟨bb, o + m * 5 + 3, none⟩ = some (.slice n2 g.objects.length n3) ∧ wr.cell? ⟨bb, o + m * 5 + 4, none⟩ = some (.slice n4 g.code.length n5)) ∧ IntSl wr D n0 g.args := fun wr h => ⟨⟨below_cell h g0, below_cell h g1, below_cell h g2, below_cell h g3, below_cell h g4⟩, hgi.fr (Fr.of_below h (fun _ => False)) (fun _ _ h => h)⟩
   have hm0 : (0 : Int) ≤ (m : Int) := by omega
   have hm1 : (m : Int) < p.funcs.length := by omega
   obtain ⟨TL, hTL⟩ : ∃ TL, TL = (if (op = 23 ∨ op = 24) ∧ (g.args.any isLocB || g.result != 0) = true then (3 : Int) else if (op = 25 ∨ op = 26) ∧ p.shapes.length = 0 then 3 else 0) := ⟨_, rfl⟩
   obtain ⟨r, hrg⟩ : ∃ r, g.result = r := ⟨_, rfl⟩
   obtain ⟨A, hag⟩ : ∃ A, g.args.length = A := ⟨_, rfl⟩
   have hE2 : E = if l0 = 114 ∧ r = 0 ∧ a ≠ 0 then 2 else if ((if l0 = 114 then r != 0 && !placeB p f 115 a 0 else !placeB p f l0 a A) || !placeB p f 102 m A || !placeB p f l2 c A) = true then 4 else TL := by rw [hTL, ← hrg, ← hag]; exact hE
   rw [hrg] at hTL g1
   rw [hag] at g0
   have hgl := hgl.1
   rw [hag] at hgl
   clear hwb HE HRC hrc hm hgi g2 g3 g4 hE
   have HGC := Lib.hid hgc; clear hgc
   have HTL := Lib.hid hTL; clear hTL
   have HRG := Lib.hid hrg; clear hrg
   have HAG := Lib.hid hag; clear hag
   skip
   obtain ⟨B0, hB0'⟩ : ∃ B0, B0 = (if l0 = 114 then r != 0 && !placeB p f 115 a 0 else !placeB p f l0 a A) := ⟨_, rfl⟩
   obtain ⟨NE, hneq⟩ : ∃ NE : Prop, NE = ¬ (l0 = 114 ∧ r = 0 ∧ a ≠ 0) := ⟨_, rfl⟩
   obtain ⟨P1, hP1⟩ : ∃ P1, P1 = placeB p f 102 (m : Int) A := ⟨_, rfl⟩
   obtain ⟨P2, hP2⟩ : ∃ P2, P2 = placeB p f l2 c A := ⟨_, rfl⟩
   rw [← hB0', ← hP1, ← hP2] at hE2
   have pl0 : ∀ w, Calls Tryz.prog 102 #[.agg #[.slice a0 p.globals.length m0, .slice a1 p.shapes.length m1, .slice (some ⟨bb, o, none⟩) p.funcs.length m2], .agg #[.slice e0 f.args.length e1, .int .i64 f.result, .int .i64 f.slots, .slice e2 f.objects.length e3, .slice (some ⟨b', o', none⟩) f.code.length e5], .int .u8 l0, .int .i64 a, .int .i64 (A : Int)] w fun e w' => e = .returned (.bool (placeB p f l0 a A)) ∧ Below w.heap.size w w' := fun w => HSC.out w l0 a A
   have pls : ∀ w, Calls Tryz.prog 102 #[.agg #[.slice a0 p.globals.length m0, .slice a1 p.shapes.length m1, .slice (some ⟨bb, o, none⟩) p.funcs.length m2], .agg #[.slice e0 f.args.length e1, .int .i64 f.result, .int .i64 f.slots, .slice e2 f.objects.length e3, .slice (some ⟨b', o', none⟩) f.code.length e5], .int .u8 115, .int .i64 a, .int .i64 0] w fun e w' => e = .returned (.bool (placeB p f 115 a 0)) ∧ Below w.heap.size w w' := fun w => HSC.out w 115 a 0
   have pl1 : ∀ w, Calls Tryz.prog 102 #[.agg #[.slice a0 p.globals.length m0, .slice a1 p.shapes.length m1, .slice (some ⟨bb, o, none⟩) p.funcs.length m2], .agg #[.slice e0 f.args.length e1, .int .i64 f.result, .int .i64 f.slots, .slice e2 f.objects.length e3, .slice (some ⟨b', o', none⟩) f.code.length e5], .int .u8 102, .int .i64 (m : Int), .int .i64 (A : Int)] w fun e w' => e = .returned (.bool P1) ∧ Below w.heap.size w w' := fun w => by rw [hP1]; exact HSC.out w 102 (m : Int) A
   have pl2 : ∀ w, Calls Tryz.prog 102 #[.agg #[.slice a0 p.globals.length m0, .slice a1 p.shapes.length m1, .slice (some ⟨bb, o, none⟩) p.funcs.length m2], .agg #[.slice e0 f.args.length e1, .int .i64 f.result, .int .i64 f.slots, .slice e2 f.objects.length e3, .slice (some ⟨b', o', none⟩) f.code.length e5], .int .u8 l2, .int .i64 c, .int .i64 (A : Int)] w fun e w' => e = .returned (.bool P2) ∧ Below w.heap.size w w' := fun w => by rw [hP2]; exact HSC.out w l2 c A
   clear hP1 hP2
   have HB0' := Lib.hid hB0'; clear hB0'
   have HNEQ := Lib.hid hneq; clear hneq
   have HE2 := Lib.hid hE2; clear hE2
   have PL0 := Lib.hid pl0; clear pl0
   have PLS := Lib.hid pls; clear pls
   have PL1 := Lib.hid pl1; clear pl1
   have PL2 := Lib.hid pl2; clear pl2
   have f2 : (l2 == 114) = false := by simpa using l2n
   obtain ⟨v0, v1, v2⟩ := HZ.out Z HZ0.out
   go_wp2_with fail
   go_quiet (fail)
   go_wp2_with fail
   go_loopw [14, 15] (fun bd i wr => Below Z.heap.size Z wr ∧ ((i = .int .i64 0 ∧ bd = .bool false) ∨ NE ∧ ((i = .int .i64 1 ∧ bd = .bool B0) ∨ (i = .int .i64 2 ∧ bd = .bool (B0 || !P1)) ∨ (i = .int .i64 3 ∧ bd = .bool (B0 || !P1 || !P2))))) (fun _ i _ => 3 - (intOf i).toNat)
   case atStart => exact ⟨by first | exact HZ0.out | exact below_drewN HZ0.out _, .inl ⟨rfl, rfl⟩⟩
   case round =>
    obtain ⟨hR, hcase⟩ := hrel
    clear k0 k1 k2 t0 t1 t2 t3 t4 x0 x1 x2 x3 v0 v1 v2
    obtain ⟨k0, k1, k2⟩ := HS.out wr (HTW.out wr (HZX.out wr hR))
    obtain ⟨⟨t0, t1, t2, t3, t4⟩, x0, x1, x2, x3⟩ := HT.out wr (HZX.out wr hR)
    obtain ⟨v0, v1, v2⟩ := HZ.out wr hR
    have HR := Lib.hid hR; clear hR
    rcases hcase with ⟨rfl, rfl⟩ | ⟨hne, ⟨rfl, rfl⟩ | ⟨rfl, rfl⟩ | ⟨rfl, rfl⟩⟩
    ·by_cases h0 : l0 = 114
     ·subst h0
      by_cases hr : r = 0
      ·subst hr
       by_cases ha : a = 0
       ·subst ha
        have hv : B0 = false := by rw [HB0'.out]; simp
        have hne : NE := by rw [HNEQ.out]; simp
        have HV := Lib.hid hv; clear hv
        have HNE := Lib.hid hne; clear hne
        have PL := PLS
        go_upto_region 22 with fail
        have K0 := fun W : BelowW wr => W.cell k0
        have K1 := fun W : BelowW wr => W.cell k1
        have K2 := fun W : BelowW wr => W.cell k2
        have T0 := fun W : BelowW wr => W.cell t0
        have T1 := fun W : BelowW wr => W.cell t1
        have T2 := fun W : BelowW wr => W.cell t2
        have T3 := fun W : BelowW wr => W.cell t3
        have T4 := fun W : BelowW wr => W.cell t4
        have V0 := fun W : BelowW wr => W.cell v0
        have V1 := fun W : BelowW wr => W.cell v1
        have V2 := fun W : BelowW wr => W.cell v2
        clear k0 k1 k2 t0 t1 t2 t3 t4 v0 v1 v2 x0 x1 x2 x3
        refine wp_region_below (by kernel_rfl) (by kernel_rfl) ?_
        repeat (go_big_quiet_step (first | (go_at_call 102; exact Calls.below_of (PL.out _))))
        refine wpQuiet_nil ?_
        rintro _ ⟨WL, rfl⟩
        have HL := Lib.hid (HR.out.trans (WL.2.mono HR.out.size))
        go_wp2_with fail
        go_roundw
        case rel => exact ⟨HL.out, .inr ⟨HNE.out, .inl ⟨by first | rfl | go_num, by rw [HV.out]⟩⟩⟩
        case measure => simp [intOf]
       ·have e : E = 2 := by rw [HE2.out, if_pos ⟨rfl, rfl, ha⟩]
        subst e
        have ha1 : (a != 0) = true := bne_iff_ne.2 ha
        clear ha
        have HBZ := Lib.hid (HBW.out _ (HTW.out _ (HZX.out _ HR.out)))
        try clear HE2
        try clear HTL
        try clear HNEQ
        try clear HB0'
        clear PL0 PLS PL1 PL2 HSC
        go_wp2_with fail
        go_ret
        exact ⟨rfl, HBZ.out⟩
      ·have hr1 : (r != 0) = true := by simpa using hr
       have hne : NE := by rw [HNEQ.out]; exact fun h => hr h.2.1
       have hv0 := HB0'.out
       rw [if_pos rfl, hr1] at hv0
       have pl := PLS.out
       cases hps : placeB p f 115 a 0
       ·have hv : B0 = true := by rw [hv0, hps]; rfl
        rw [hps] at pl
        clear hr hv0 hps
        have HV := Lib.hid hv; clear hv
        have HNE := Lib.hid hne; clear hne
        have PL := Lib.hid pl; clear pl
        go_upto_region 22 with fail
        have K0 := fun W : BelowW wr => W.cell k0
        have K1 := fun W : BelowW wr => W.cell k1
        have K2 := fun W : BelowW wr => W.cell k2
        have T0 := fun W : BelowW wr => W.cell t0
        have T1 := fun W : BelowW wr => W.cell t1
        have T2 := fun W : BelowW wr => W.cell t2
        have T3 := fun W : BelowW wr => W.cell t3
        have T4 := fun W : BelowW wr => W.cell t4
        have V0 := fun W : BelowW wr => W.cell v0
        have V1 := fun W : BelowW wr => W.cell v1
        have V2 := fun W : BelowW wr => W.cell v2
        clear k0 k1 k2 t0 t1 t2 t3 t4 v0 v1 v2 x0 x1 x2 x3
        refine wp_region_below (by kernel_rfl) (by kernel_rfl) ?_
        repeat (go_big_quiet_step (first | (go_at_call 102; exact Calls.below_of (PL.out _))))
        refine wpQuiet_nil ?_
        rintro _ ⟨WL, rfl⟩
        have HL := Lib.hid (HR.out.trans (WL.2.mono HR.out.size))
        go_wp2_with fail
        go_roundw
        case rel => exact ⟨HL.out, .inr ⟨HNE.out, .inl ⟨by first | rfl | go_num, by rw [HV.out]⟩⟩⟩
        case measure => simp [intOf]
       ·have hv : B0 = false := by rw [hv0, hps]; rfl
        rw [hps] at pl
        clear hr hv0 hps
        have HV := Lib.hid hv; clear hv
        have HNE := Lib.hid hne; clear hne
        have PL := Lib.hid pl; clear pl
        go_upto_region 22 with fail
        have K0 := fun W : BelowW wr => W.cell k0
        have K1 := fun W : BelowW wr => W.cell k1
        have K2 := fun W : BelowW wr => W.cell k2
        have T0 := fun W : BelowW wr => W.cell t0
        have T1 := fun W : BelowW wr => W.cell t1
        have T2 := fun W : BelowW wr => W.cell t2
        have T3 := fun W : BelowW wr => W.cell t3
        have T4 := fun W : BelowW wr => W.cell t4
        have V0 := fun W : BelowW wr => W.cell v0
        have V1 := fun W : BelowW wr => W.cell v1
        have V2 := fun W : BelowW wr => W.cell v2
        clear k0 k1 k2 t0 t1 t2 t3 t4 v0 v1 v2 x0 x1 x2 x3
        refine wp_region_below (by kernel_rfl) (by kernel_rfl) ?_
        repeat (go_big_quiet_step (first | (go_at_call 102; exact Calls.below_of (PL.out _))))
        refine wpQuiet_nil ?_
        rintro _ ⟨WL, rfl⟩
        have HL := Lib.hid (HR.out.trans (WL.2.mono HR.out.size))
        go_wp2_with fail
        go_roundw
        case rel => exact ⟨HL.out, .inr ⟨HNE.out, .inl ⟨by first | rfl | go_num, by rw [HV.out]⟩⟩⟩
        case measure => simp [intOf]
     ·have hl0 : (l0 == 114) = false := by simpa using h0
      have hne : NE := by rw [HNEQ.out]; exact fun h => h0 h.1
      have hv0 := HB0'.out
      rw [if_neg h0] at hv0
      have pl := PL0.out
      cases hps : placeB p f l0 a A
      ·have hv : B0 = true := by rw [hv0, hps]; rfl
       rw [hps] at pl
       clear h0 hv0 hps
       have HV := Lib.hid hv; clear hv
       have HNE := Lib.hid hne; clear hne
       have PL := Lib.hid pl; clear pl
       go_upto_region 23 with fail
       have K0 := fun W : BelowW wr => W.cell k0
       have K1 := fun W : BelowW wr => W.cell k1
       have K2 := fun W : BelowW wr => W.cell k2
       have T0 := fun W : BelowW wr => W.cell t0
       have T1 := fun W : BelowW wr => W.cell t1
       have T2 := fun W : BelowW wr => W.cell t2
       have T3 := fun W : BelowW wr => W.cell t3
       have T4 := fun W : BelowW wr => W.cell t4
       have V0 := fun W : BelowW wr => W.cell v0
       have V1 := fun W : BelowW wr => W.cell v1
       have V2 := fun W : BelowW wr => W.cell v2
       clear k0 k1 k2 t0 t1 t2 t3 t4 v0 v1 v2 x0 x1 x2 x3
       refine wp_region_below (by kernel_rfl) (by kernel_rfl) ?_
       repeat (go_big_quiet_step (first | (go_at_call 102; exact Calls.below_of (PL.out _))))
       refine wpQuiet_nil ?_
       rintro _ ⟨WL, rfl⟩
       have HL := Lib.hid (HR.out.trans (WL.2.mono HR.out.size))
       go_wp2_with fail
       go_roundw
       case rel => exact ⟨HL.out, .inr ⟨HNE.out, .inl ⟨by first | rfl | go_num, by rw [HV.out]⟩⟩⟩
       case measure => simp [intOf]
      ·have hv : B0 = false := by rw [hv0, hps]; rfl
       rw [hps] at pl
       clear h0 hv0 hps
       have HV := Lib.hid hv; clear hv
       have HNE := Lib.hid hne; clear hne
       have PL := Lib.hid pl; clear pl
       go_upto_region 23 with fail
       have K0 := fun W : BelowW wr => W.cell k0
       have K1 := fun W : BelowW wr => W.cell k1
       have K2 := fun W : BelowW wr => W.cell k2
       have T0 := fun W : BelowW wr => W.cell t0
       have T1 := fun W : BelowW wr => W.cell t1
       have T2 := fun W : BelowW wr => W.cell t2
       have T3 := fun W : BelowW wr => W.cell t3
       have T4 := fun W : BelowW wr => W.cell t4
       have V0 := fun W : BelowW wr => W.cell v0
       have V1 := fun W : BelowW wr => W.cell v1
       have V2 := fun W : BelowW wr => W.cell v2
       clear k0 k1 k2 t0 t1 t2 t3 t4 v0 v1 v2 x0 x1 x2 x3
       refine wp_region_below (by kernel_rfl) (by kernel_rfl) ?_
       repeat (go_big_quiet_step (first | (go_at_call 102; exact Calls.below_of (PL.out _))))
       refine wpQuiet_nil ?_
       rintro _ ⟨WL, rfl⟩
       have HL := Lib.hid (HR.out.trans (WL.2.mono HR.out.size))
       go_wp2_with fail
       go_roundw
       case rel => exact ⟨HL.out, .inr ⟨HNE.out, .inl ⟨by first | rfl | go_num, by rw [HV.out]⟩⟩⟩
       case measure => simp [intOf]
    ·cases B0
     ·have pl := PL1.out
      cases P1
      ·skip
       have HNE := Lib.hid hne; clear hne
       have PL := Lib.hid pl; clear pl
       go_upto_region 23 with fail
       have K0 := fun W : BelowW wr => W.cell k0
       have K1 := fun W : BelowW wr => W.cell k1
       have K2 := fun W : BelowW wr => W.cell k2
       have T0 := fun W : BelowW wr => W.cell t0
       have T1 := fun W : BelowW wr => W.cell t1
       have T2 := fun W : BelowW wr => W.cell t2
       have T3 := fun W : BelowW wr => W.cell t3
       have T4 := fun W : BelowW wr => W.cell t4
       have V0 := fun W : BelowW wr => W.cell v0
       have V1 := fun W : BelowW wr => W.cell v1
       have V2 := fun W : BelowW wr => W.cell v2
       clear k0 k1 k2 t0 t1 t2 t3 t4 v0 v1 v2 x0 x1 x2 x3
       refine wp_region_below (by kernel_rfl) (by kernel_rfl) ?_
       repeat (go_big_quiet_step (first | (go_at_call 102; exact Calls.below_of (PL.out _))))
       refine wpQuiet_nil ?_
       rintro _ ⟨WL, rfl⟩
       have HL := Lib.hid (HR.out.trans (WL.2.mono HR.out.size))
       go_wp2_with fail
       go_roundw
       case rel => exact ⟨HL.out, .inr ⟨HNE.out, .inr (.inl ⟨by first | rfl | go_num, rfl⟩)⟩⟩
       case measure => simp [intOf]
      ·skip
       have HNE := Lib.hid hne; clear hne
       have PL := Lib.hid pl; clear pl
       go_upto_region 23 with fail
       have K0 := fun W : BelowW wr => W.cell k0
       have K1 := fun W : BelowW wr => W.cell k1
       have K2 := fun W : BelowW wr => W.cell k2
       have T0 := fun W : BelowW wr => W.cell t0
       have T1 := fun W : BelowW wr => W.cell t1
       have T2 := fun W : BelowW wr => W.cell t2
       have T3 := fun W : BelowW wr => W.cell t3
       have T4 := fun W : BelowW wr => W.cell t4
       have V0 := fun W : BelowW wr => W.cell v0
       have V1 := fun W : BelowW wr => W.cell v1
       have V2 := fun W : BelowW wr => W.cell v2
       clear k0 k1 k2 t0 t1 t2 t3 t4 v0 v1 v2 x0 x1 x2 x3
       refine wp_region_below (by kernel_rfl) (by kernel_rfl) ?_
       repeat (go_big_quiet_step (first | (go_at_call 102; exact Calls.below_of (PL.out _))))
       refine wpQuiet_nil ?_
       rintro _ ⟨WL, rfl⟩
       have HL := Lib.hid (HR.out.trans (WL.2.mono HR.out.size))
       go_wp2_with fail
       go_roundw
       case rel => exact ⟨HL.out, .inr ⟨HNE.out, .inr (.inl ⟨by first | rfl | go_num, rfl⟩)⟩⟩
       case measure => simp [intOf]
     ·skip
      have HNE := Lib.hid hne; clear hne
      have PL := PL1
      go_upto_region 23 with fail
      have K0 := fun W : BelowW wr => W.cell k0
      have K1 := fun W : BelowW wr => W.cell k1
      have K2 := fun W : BelowW wr => W.cell k2
      have T0 := fun W : BelowW wr => W.cell t0
      have T1 := fun W : BelowW wr => W.cell t1
      have T2 := fun W : BelowW wr => W.cell t2
      have T3 := fun W : BelowW wr => W.cell t3
      have T4 := fun W : BelowW wr => W.cell t4
      have V0 := fun W : BelowW wr => W.cell v0
      have V1 := fun W : BelowW wr => W.cell v1
      have V2 := fun W : BelowW wr => W.cell v2
      clear k0 k1 k2 t0 t1 t2 t3 t4 v0 v1 v2 x0 x1 x2 x3
      refine wp_region_below (by kernel_rfl) (by kernel_rfl) ?_
      repeat (go_big_quiet_step (first | (go_at_call 102; exact Calls.below_of (PL.out _))))
      refine wpQuiet_nil ?_
      rintro _ ⟨WL, rfl⟩
      have HL := Lib.hid (HR.out.trans (WL.2.mono HR.out.size))
      go_wp2_with fail
      go_roundw
      case rel => exact ⟨HL.out, .inr ⟨HNE.out, .inr (.inl ⟨by first | rfl | go_num, by rw [Bool.true_or]⟩)⟩⟩
      case measure => simp [intOf]
    ·generalize (B0 || !P1) = B1 at *
     cases B1
     ·have pl := PL2.out
      cases P2
      ·skip
       have HNE := Lib.hid hne; clear hne
       have PL := Lib.hid pl; clear pl
       go_upto_region 23 with fail
       have K0 := fun W : BelowW wr => W.cell k0
       have K1 := fun W : BelowW wr => W.cell k1
       have K2 := fun W : BelowW wr => W.cell k2
       have T0 := fun W : BelowW wr => W.cell t0
       have T1 := fun W : BelowW wr => W.cell t1
       have T2 := fun W : BelowW wr => W.cell t2
       have T3 := fun W : BelowW wr => W.cell t3
       have T4 := fun W : BelowW wr => W.cell t4
       have V0 := fun W : BelowW wr => W.cell v0
       have V1 := fun W : BelowW wr => W.cell v1
       have V2 := fun W : BelowW wr => W.cell v2
       clear k0 k1 k2 t0 t1 t2 t3 t4 v0 v1 v2 x0 x1 x2 x3
       refine wp_region_below (by kernel_rfl) (by kernel_rfl) ?_
       repeat (go_big_quiet_step (first | (go_at_call 102; exact Calls.below_of (PL.out _))))
       refine wpQuiet_nil ?_
       rintro _ ⟨WL, rfl⟩
       have HL := Lib.hid (HR.out.trans (WL.2.mono HR.out.size))
       go_wp2_with fail
       go_roundw
       case rel => exact ⟨HL.out, .inr ⟨HNE.out, .inr (.inr ⟨by first | rfl | go_num, rfl⟩)⟩⟩
       case measure => simp [intOf]
      ·skip
       have HNE := Lib.hid hne; clear hne
       have PL := Lib.hid pl; clear pl
       go_upto_region 23 with fail
       have K0 := fun W : BelowW wr => W.cell k0
       have K1 := fun W : BelowW wr => W.cell k1
       have K2 := fun W : BelowW wr => W.cell k2
       have T0 := fun W : BelowW wr => W.cell t0
       have T1 := fun W : BelowW wr => W.cell t1
       have T2 := fun W : BelowW wr => W.cell t2
       have T3 := fun W : BelowW wr => W.cell t3
       have T4 := fun W : BelowW wr => W.cell t4
       have V0 := fun W : BelowW wr => W.cell v0
       have V1 := fun W : BelowW wr => W.cell v1
       have V2 := fun W : BelowW wr => W.cell v2
       clear k0 k1 k2 t0 t1 t2 t3 t4 v0 v1 v2 x0 x1 x2 x3
       refine wp_region_below (by kernel_rfl) (by kernel_rfl) ?_
       repeat (go_big_quiet_step (first | (go_at_call 102; exact Calls.below_of (PL.out _))))
       refine wpQuiet_nil ?_
       rintro _ ⟨WL, rfl⟩
       have HL := Lib.hid (HR.out.trans (WL.2.mono HR.out.size))
       go_wp2_with fail
       go_roundw
       case rel => exact ⟨HL.out, .inr ⟨HNE.out, .inr (.inr ⟨by first | rfl | go_num, rfl⟩)⟩⟩
       case measure => simp [intOf]
     ·skip
      have HNE := Lib.hid hne; clear hne
      have PL := PL2
      go_upto_region 23 with fail
      have K0 := fun W : BelowW wr => W.cell k0
      have K1 := fun W : BelowW wr => W.cell k1
      have K2 := fun W : BelowW wr => W.cell k2
      have T0 := fun W : BelowW wr => W.cell t0
      have T1 := fun W : BelowW wr => W.cell t1
      have T2 := fun W : BelowW wr => W.cell t2
      have T3 := fun W : BelowW wr => W.cell t3
      have T4 := fun W : BelowW wr => W.cell t4
      have V0 := fun W : BelowW wr => W.cell v0
      have V1 := fun W : BelowW wr => W.cell v1
      have V2 := fun W : BelowW wr => W.cell v2
      clear k0 k1 k2 t0 t1 t2 t3 t4 v0 v1 v2 x0 x1 x2 x3
      refine wp_region_below (by kernel_rfl) (by kernel_rfl) ?_
      repeat (go_big_quiet_step (first | (go_at_call 102; exact Calls.below_of (PL.out _))))
      refine wpQuiet_nil ?_
      rintro _ ⟨WL, rfl⟩
      have HL := Lib.hid (HR.out.trans (WL.2.mono HR.out.size))
      go_wp2_with fail
      go_roundw
      case rel => exact ⟨HL.out, .inr ⟨HNE.out, .inr (.inr ⟨by first | rfl | go_num, by rw [Bool.true_or]⟩)⟩⟩
      case measure => simp [intOf]
    ·have hE3 := HE2.out
     rw [HNEQ.out] at hne
     rw [if_neg hne] at hE3
     generalize (B0 || !P1 || !P2) = B2 at *
     clear hne
     cases B2
     ·rw [if_neg (by simp)] at hE3
      subst hE3
      go_upto_region 26 with fail
      by_cases h23 : op = 23 ∨ op = 24
      ·obtain ⟨⟨g0, g1, g2, g3, g4⟩, hgi⟩ := HGC.out wr HR.out
       have hag := HAG.out
       subst hag
       rw [HRG.out] at g1
       have e25 : (op == 25) = false := by rw [beq_eq_false_iff_ne]; omega
       have e26 : (op == 26) = false := by rw [beq_eq_false_iff_ne]; omega
       have hT3 : (g.args.any isLocB || r != 0) = true → E = 3 := fun h => by rw [HTL.out, if_pos ⟨h23, h⟩]
       have hT0 : (g.args.any isLocB || r != 0) = false → E = 0 := fun h => by rw [HTL.out, if_neg (by rw [h]; simp), if_neg (by rintro ⟨h2 | h2, _⟩ <;> omega)]
       clear HTL HGC
       have bg := World.block_lt g0
       dsimp only at bg
       have HT3 := Lib.hid hT3; clear hT3
       have HT0 := Lib.hid hT0; clear hT0
       generalize wr = wo at *
       by_cases h24 : op = 23
       ·have e23 : (op == 23) = true := by simpa using h24
        clear h23 h24
        go_upto_region 28 with fail
        have hy0 := fun j => cell_new wo #[.slice n0 g.args.length n1, .int .i64 r, .int .i64 g.slots, .slice n2 g.objects.length n3, .slice n4 g.code.length n5] 58 (0, 0) j
        have hgy := hgi.fr ((Fr.refl (fun _ => False) wo).alloc (.cells #[.slice n0 g.args.length n1, .int .i64 r, .int .i64 g.slots, .slice n2 g.objects.length n3, .slice n4 g.code.length n5] 58)) (fun _ _ h => h)
        have hby := HBW.out _ (HTW.out _ (HZX.out _ (HR.out.alloc HR.out.size (.cells #[.slice n0 g.args.length n1, .int .i64 r, .int .i64 g.slots, .slice n2 g.objects.length n3, .slice n4 g.code.length n5] 58))))
        have x00 := (cell_under wo (.cells #[.slice n0 g.args.length n1, .int .i64 r, .int .i64 g.slots, .slice n2 g.objects.length n3, .slice n4 g.code.length n5] 58) (p := ⟨W.heap.size + 1, 0, none⟩) (World.block_lt x0)).trans x0
        have k11 := (cell_under wo (.cells #[.slice n0 g.args.length n1, .int .i64 r, .int .i64 g.slots, .slice n2 g.objects.length n3, .slice n4 g.code.length n5] 58) (p := ⟨w.heap.size, 1, none⟩) (World.block_lt k1)).trans k1
        obtain ⟨Y, hY⟩ : ∃ Y, Y = wo.alloc (.cells #[.slice n0 g.args.length n1, .int .i64 r, .int .i64 g.slots, .slice n2 g.objects.length n3, .slice n4 g.code.length n5] 58) := ⟨_, rfl⟩
        rw [← hY] at hy0 hgy hby x00 k11 ⊢
        clear hY
        have c0 : Y.cell? ⟨wo.heap.size, 0, none⟩ = some (.slice n0 g.args.length n1) := hy0 0
        have c1 : Y.cell? ⟨wo.heap.size, 1, none⟩ = some (.int .i64 r) := hy0 1
        clear hy0 hgi bg g0 g1 g2 g3 g4 k0 k1 k2 t0 t1 t2 t3 t4 x0 x1 x2 x3 v0 v1 v2
        have HGY := Lib.hid hgy; clear hgy
        have HBY := Lib.hid hby; clear hby
        go_wp2_with fail
        go_loopw [17] (fun i wz => ∃ k : Nat, k ≤ g.args.length ∧ i = .int .i64 k ∧ wz = Y ∧ (g.args.take k).any isLocB = false) (fun i _ => g.args.length - (intOf i).toNat)
        case atStart => exact ⟨0, Nat.zero_le _, rfl, by first | rfl | trivial, rfl⟩
        case round =>
         obtain ⟨k, hk, rfl, rfl, hall⟩ := hrel
         by_cases hlt : k < g.args.length
         ·obtain ⟨b9, o9, rfl, _, hx⟩ := HGY.out k hlt
          have il := fun w => risLoc_any w g.args[k]
          have hsn := take_snoc g.args k hlt
          have hmem := List.getElem_mem hlt
          generalize g.args[k] = x at *
          cases hw : isLocB x
          ·have hno : (g.args.take (k + 1)).any isLocB = false := by
            rw [hsn, List.any_append, hall]; simp [hw]
           rw [hw] at il
           clear hsn hmem hall hw
           have HNO := Lib.hid hno; clear hno
           have IL := Lib.hid il; clear il
           go_wp2_with fail
           refine (IL.out _).mono ?_
           rintro e w8 ⟨rfl, rfl⟩
           go_wp2_with fail
           go_roundw
           case rel => exact ⟨k + 1, by omega, by go_num, by first | rfl | trivial, HNO.out⟩
           case measure => simp [intOf]; omega
          ·have hyes : g.args.any isLocB = true := by rw [List.any_eq_true]; exact ⟨x, hmem, hw⟩
           have e := HT3.out (by rw [hyes]; rfl)
           subst e
           rw [hw] at il
           clear hsn hmem hall hw hyes
           have IL := Lib.hid il; clear il
           go_wp2_with fail
           refine (IL.out _).mono ?_
           rintro e w8 ⟨rfl, rfl⟩
           go_wp2_with fail
           go_ret
           exact ⟨rfl, HBY.out⟩
         ·have hk' : k = g.args.length := by omega
          subst hk'
          rw [List.take_length] at hall
          by_cases hr : r = 0
          ·have e := HT0.out (by rw [hall, hr]; rfl)
           subst e
           have hr2 : (r != 0) = false := by rw [hr]; rfl
           clear hall hr
           go_wp2_with fail
           go_ret
           exact ⟨rfl, HBY.out⟩
          ·have hr2 : (r != 0) = true := by simpa using hr
           have e := HT3.out (by rw [hall, hr2]; rfl)
           subst e
           clear hall hr
           go_wp2_with fail
           go_ret
           exact ⟨rfl, HBY.out⟩
       ·have e23 : (op == 23) = false := by simpa using h24
        have e24 : (op == 24) = true := by simpa using (h23.resolve_left h24)
        clear h23 h24
        go_upto_region 28 with fail
        have hy0 := fun j => cell_new wo #[.slice n0 g.args.length n1, .int .i64 r, .int .i64 g.slots, .slice n2 g.objects.length n3, .slice n4 g.code.length n5] 58 (0, 0) j
        have hgy := hgi.fr ((Fr.refl (fun _ => False) wo).alloc (.cells #[.slice n0 g.args.length n1, .int .i64 r, .int .i64 g.slots, .slice n2 g.objects.length n3, .slice n4 g.code.length n5] 58)) (fun _ _ h => h)
        have hby := HBW.out _ (HTW.out _ (HZX.out _ (HR.out.alloc HR.out.size (.cells #[.slice n0 g.args.length n1, .int .i64 r, .int .i64 g.slots, .slice n2 g.objects.length n3, .slice n4 g.code.length n5] 58))))
        have x00 := (cell_under wo (.cells #[.slice n0 g.args.length n1, .int .i64 r, .int .i64 g.slots, .slice n2 g.objects.length n3, .slice n4 g.code.length n5] 58) (p := ⟨W.heap.size + 1, 0, none⟩) (World.block_lt x0)).trans x0
        have k11 := (cell_under wo (.cells #[.slice n0 g.args.length n1, .int .i64 r, .int .i64 g.slots, .slice n2 g.objects.length n3, .slice n4 g.code.length n5] 58) (p := ⟨w.heap.size, 1, none⟩) (World.block_lt k1)).trans k1
        obtain ⟨Y, hY⟩ : ∃ Y, Y = wo.alloc (.cells #[.slice n0 g.args.length n1, .int .i64 r, .int .i64 g.slots, .slice n2 g.objects.length n3, .slice n4 g.code.length n5] 58) := ⟨_, rfl⟩
        rw [← hY] at hy0 hgy hby x00 k11 ⊢
        clear hY
        have c0 : Y.cell? ⟨wo.heap.size, 0, none⟩ = some (.slice n0 g.args.length n1) := hy0 0
        have c1 : Y.cell? ⟨wo.heap.size, 1, none⟩ = some (.int .i64 r) := hy0 1
        clear hy0 hgi bg g0 g1 g2 g3 g4 k0 k1 k2 t0 t1 t2 t3 t4 x0 x1 x2 x3 v0 v1 v2
        have HGY := Lib.hid hgy; clear hgy
        have HBY := Lib.hid hby; clear hby
        go_wp2_with fail
        go_loopw [17] (fun i wz => ∃ k : Nat, k ≤ g.args.length ∧ i = .int .i64 k ∧ wz = Y ∧ (g.args.take k).any isLocB = false) (fun i _ => g.args.length - (intOf i).toNat)
        case atStart => exact ⟨0, Nat.zero_le _, rfl, by first | rfl | trivial, rfl⟩
        case round =>
         obtain ⟨k, hk, rfl, rfl, hall⟩ := hrel
         by_cases hlt : k < g.args.length
         ·obtain ⟨b9, o9, rfl, _, hx⟩ := HGY.out k hlt
          have il := fun w => risLoc_any w g.args[k]
          have hsn := take_snoc g.args k hlt
          have hmem := List.getElem_mem hlt
          generalize g.args[k] = x at *
          cases hw : isLocB x
          ·have hno : (g.args.take (k + 1)).any isLocB = false := by
            rw [hsn, List.any_append, hall]; simp [hw]
           rw [hw] at il
           clear hsn hmem hall hw
           have HNO := Lib.hid hno; clear hno
           have IL := Lib.hid il; clear il
           go_wp2_with fail
           refine (IL.out _).mono ?_
           rintro e w8 ⟨rfl, rfl⟩
           go_wp2_with fail
           go_roundw
           case rel => exact ⟨k + 1, by omega, by go_num, by first | rfl | trivial, HNO.out⟩
           case measure => simp [intOf]; omega
          ·have hyes : g.args.any isLocB = true := by rw [List.any_eq_true]; exact ⟨x, hmem, hw⟩
           have e := HT3.out (by rw [hyes]; rfl)
           subst e
           rw [hw] at il
           clear hsn hmem hall hw hyes
           have IL := Lib.hid il; clear il
           go_wp2_with fail
           refine (IL.out _).mono ?_
           rintro e w8 ⟨rfl, rfl⟩
           go_wp2_with fail
           go_ret
           exact ⟨rfl, HBY.out⟩
         ·have hk' : k = g.args.length := by omega
          subst hk'
          rw [List.take_length] at hall
          by_cases hr : r = 0
          ·have e := HT0.out (by rw [hall, hr]; rfl)
           subst e
           have hr2 : (r != 0) = false := by rw [hr]; rfl
           clear hall hr
           go_wp2_with fail
           go_ret
           exact ⟨rfl, HBY.out⟩
          ·have hr2 : (r != 0) = true := by simpa using hr
           have e := HT3.out (by rw [hall, hr2]; rfl)
           subst e
           clear hall hr
           go_wp2_with fail
           go_ret
           exact ⟨rfl, HBY.out⟩
      ·have hTL := HTL.out
       rw [if_neg (fun h => h23 h.1)] at hTL
       have e23 : (op == 23) = false := by simpa using fun h => h23 (.inl h)
       have e24 : (op == 24) = false := by simpa using fun h => h23 (.inr h)
       clear HTL h23
       have HTL := Lib.hid hTL; clear hTL
       skip
       by_cases h25 : op = 25 ∨ op = 26
       ·have hs1 : p.shapes.length = 0 → E = 3 := fun h => by rw [HTL.out, if_pos ⟨h25, h⟩]
        have hs2 : p.shapes.length ≠ 0 → E = 0 := fun h => by rw [HTL.out, if_neg (fun h2 => h h2.2)]
        by_cases hsh : p.shapes.length = 0
        ·have e := hs1 hsh
         subst e
         have hs3 : ((p.shapes.length : Int) == 0) = true := by rw [hsh]; rfl
         generalize p.shapes.length = sl at *
         clear hs1 hs2
         by_cases h26 : op = 25
         ·have e25 : (op == 25) = true := by simpa using h26
          clear h25 h26
          have HBZ := Lib.hid (HBW.out _ (HTW.out _ (HZX.out _ HR.out)))
          try clear HE2
          try clear HTL
          try clear HNEQ
          try clear HB0'
          clear PL0 PLS PL1 PL2 HSC
          go_wp2_with fail
          go_ret
          exact ⟨rfl, HBZ.out⟩
         ·have e25 : (op == 25) = false := by simpa using h26
          have e26 : (op == 26) = true := by simpa using (h25.resolve_left h26)
          clear h25 h26
          have HBZ := Lib.hid (HBW.out _ (HTW.out _ (HZX.out _ HR.out)))
          try clear HE2
          try clear HTL
          try clear HNEQ
          try clear HB0'
          clear PL0 PLS PL1 PL2 HSC
          go_wp2_with fail
          go_ret
          exact ⟨rfl, HBZ.out⟩
        ·have e := hs2 hsh
         subst e
         have hs3 : ((p.shapes.length : Int) == 0) = false := by simpa using hsh
         generalize p.shapes.length = sl at *
         clear hs1 hs2
         by_cases h26 : op = 25
         ·have e25 : (op == 25) = true := by simpa using h26
          clear h25 h26
          have HBZ := Lib.hid (HBW.out _ (HTW.out _ (HZX.out _ HR.out)))
          try clear HE2
          try clear HTL
          try clear HNEQ
          try clear HB0'
          clear PL0 PLS PL1 PL2 HSC
          go_wp2_with fail
          go_ret
          exact ⟨rfl, HBZ.out⟩
         ·have e25 : (op == 25) = false := by simpa using h26
          have e26 : (op == 26) = true := by simpa using (h25.resolve_left h26)
          clear h25 h26
          have HBZ := Lib.hid (HBW.out _ (HTW.out _ (HZX.out _ HR.out)))
          try clear HE2
          try clear HTL
          try clear HNEQ
          try clear HB0'
          clear PL0 PLS PL1 PL2 HSC
          go_wp2_with fail
          go_ret
          exact ⟨rfl, HBZ.out⟩
       ·have e : E = 0 := by rw [HTL.out, if_neg (fun h2 => h25 h2.1)]
        subst e
        have e25 : (op == 25) = false := by simpa using fun h => h25 (.inl h)
        have e26 : (op == 26) = false := by simpa using fun h => h25 (.inr h)
        clear h25
        have HBZ := Lib.hid (HBW.out _ (HTW.out _ (HZX.out _ HR.out)))
        try clear HE2
        try clear HTL
        try clear HNEQ
        try clear HB0'
        clear PL0 PLS PL1 PL2 HSC
        go_wp2_with fail
        go_ret
        exact ⟨rfl, HBZ.out⟩
     ·rw [if_pos rfl] at hE3
      subst hE3
      have HBZ := Lib.hid (HBW.out _ (HTW.out _ (HZX.out _ HR.out)))
      try clear HE2
      try clear HTL
      try clear HNEQ
      try clear HB0'
      clear PL0 PLS PL1 PL2 HSC
      go_wp2_with fail
      go_ret
      exact ⟨rfl, HBZ.out⟩
 ·have f1 : (l1 == 102) = false := by simpa using hl1
  have f3 : (l1 == 114) = false := by simpa using l1n
  have h23 : ¬ (op = 23 ∨ op = 24) := fun h => hl1 (HL23.out h)
  have hrc := HRC.out
  rw [if_neg (fun h => hl1 h.1)] at hrc
  have hE := HE.out
  rw [if_neg (fun h => hl1 h.1), hrc] at hE
  obtain ⟨TL, hTL⟩ : ∃ TL, TL = (if (op = 25 ∨ op = 26) ∧ p.shapes.length = 0 then (3 : Int) else 0) := ⟨_, rfl⟩
  obtain ⟨r, hrf⟩ : ∃ r, f.result = r := ⟨_, rfl⟩
  obtain ⟨A, hA⟩ : ∃ A, A = 0 := ⟨_, rfl⟩
  have hE2 : E = if l0 = 114 ∧ r = 0 ∧ a ≠ 0 then 2 else if ((if l0 = 114 then r != 0 && !placeB p f 115 a 0 else !placeB p f l0 a A) || !placeB p f l1 b A || !placeB p f l2 c A) = true then 4 else TL := by
   rw [hTL, ← hrf, hA]
   rw [if_neg (c := (op = 23 ∨ op = 24) ∧ _) (fun h => h23 h.1)] at hE
   exact hE
  have e23 : (op == 23) = false := by simpa using fun h => h23 (.inl h)
  have e24 : (op == 24) = false := by simpa using fun h => h23 (.inr h)
  subst hA
  clear hE HE HRC hrc hl1 h23
  have HTL := Lib.hid hTL; clear hTL
  have HRF := Lib.hid hrf; clear hrf
  skip
  obtain ⟨B0, hB0'⟩ : ∃ B0, B0 = (if l0 = 114 then r != 0 && !placeB p f 115 a 0 else !placeB p f l0 a 0) := ⟨_, rfl⟩
  obtain ⟨NE, hneq⟩ : ∃ NE : Prop, NE = ¬ (l0 = 114 ∧ r = 0 ∧ a ≠ 0) := ⟨_, rfl⟩
  obtain ⟨P1, hP1⟩ : ∃ P1, P1 = placeB p f l1 b 0 := ⟨_, rfl⟩
  obtain ⟨P2, hP2⟩ : ∃ P2, P2 = placeB p f l2 c 0 := ⟨_, rfl⟩
  rw [← hB0', ← hP1, ← hP2] at hE2
  have pl0 : ∀ w, Calls Tryz.prog 102 #[.agg #[.slice a0 p.globals.length m0, .slice a1 p.shapes.length m1, .slice (some ⟨bb, o, none⟩) p.funcs.length m2], .agg #[.slice e0 f.args.length e1, .int .i64 f.result, .int .i64 f.slots, .slice e2 f.objects.length e3, .slice (some ⟨b', o', none⟩) f.code.length e5], .int .u8 l0, .int .i64 a, .int .i64 0] w fun e w' => e = .returned (.bool (placeB p f l0 a 0)) ∧ Below w.heap.size w w' := fun w => HSC.out w l0 a 0
  have pls : ∀ w, Calls Tryz.prog 102 #[.agg #[.slice a0 p.globals.length m0, .slice a1 p.shapes.length m1, .slice (some ⟨bb, o, none⟩) p.funcs.length m2], .agg #[.slice e0 f.args.length e1, .int .i64 f.result, .int .i64 f.slots, .slice e2 f.objects.length e3, .slice (some ⟨b', o', none⟩) f.code.length e5], .int .u8 115, .int .i64 a, .int .i64 0] w fun e w' => e = .returned (.bool (placeB p f 115 a 0)) ∧ Below w.heap.size w w' := fun w => HSC.out w 115 a 0
  have pl1 : ∀ w, Calls Tryz.prog 102 #[.agg #[.slice a0 p.globals.length m0, .slice a1 p.shapes.length m1, .slice (some ⟨bb, o, none⟩) p.funcs.length m2], .agg #[.slice e0 f.args.length e1, .int .i64 f.result, .int .i64 f.slots, .slice e2 f.objects.length e3, .slice (some ⟨b', o', none⟩) f.code.length e5], .int .u8 l1, .int .i64 b, .int .i64 0] w fun e w' => e = .returned (.bool P1) ∧ Below w.heap.size w w' := fun w => by rw [hP1]; exact HSC.out w l1 b 0
  have pl2 : ∀ w, Calls Tryz.prog 102 #[.agg #[.slice a0 p.globals.length m0, .slice a1 p.shapes.length m1, .slice (some ⟨bb, o, none⟩) p.funcs.length m2], .agg #[.slice e0 f.args.length e1, .int .i64 f.result, .int .i64 f.slots, .slice e2 f.objects.length e3, .slice (some ⟨b', o', none⟩) f.code.length e5], .int .u8 l2, .int .i64 c, .int .i64 0] w fun e w' => e = .returned (.bool P2) ∧ Below w.heap.size w w' := fun w => by rw [hP2]; exact HSC.out w l2 c 0
  clear hP1 hP2
  have HB0' := Lib.hid hB0'; clear hB0'
  have HNEQ := Lib.hid hneq; clear hneq
  have HE2 := Lib.hid hE2; clear hE2
  have PL0 := Lib.hid pl0; clear pl0
  have PLS := Lib.hid pls; clear pls
  have PL1 := Lib.hid pl1; clear pl1
  have PL2 := Lib.hid pl2; clear pl2
  have f2 : (l2 == 114) = false := by simpa using l2n
  obtain ⟨v0, v1, v2⟩ := HZ.out Z HZ0.out
  go_wp2_with fail
  rw [HRF.out]
  go_loopw [14, 15] (fun bd i wr => Below Z.heap.size Z wr ∧ ((i = .int .i64 0 ∧ bd = .bool false) ∨ NE ∧ ((i = .int .i64 1 ∧ bd = .bool B0) ∨ (i = .int .i64 2 ∧ bd = .bool (B0 || !P1)) ∨ (i = .int .i64 3 ∧ bd = .bool (B0 || !P1 || !P2))))) (fun _ i _ => 3 - (intOf i).toNat)
  case atStart => exact ⟨by first | exact HZ0.out | exact below_drewN HZ0.out _, .inl ⟨rfl, rfl⟩⟩
  case round =>
   obtain ⟨hR, hcase⟩ := hrel
   clear k0 k1 k2 t0 t1 t2 t3 t4 x0 x1 x2 x3 v0 v1 v2
   obtain ⟨k0, k1, k2⟩ := HS.out wr (HTW.out wr (HZX.out wr hR))
   obtain ⟨⟨t0, t1, t2, t3, t4⟩, x0, x1, x2, x3⟩ := HT.out wr (HZX.out wr hR)
   obtain ⟨v0, v1, v2⟩ := HZ.out wr hR
   have HR := Lib.hid hR; clear hR
   rcases hcase with ⟨rfl, rfl⟩ | ⟨hne, ⟨rfl, rfl⟩ | ⟨rfl, rfl⟩ | ⟨rfl, rfl⟩⟩
   ·by_cases h0 : l0 = 114
    ·subst h0
     by_cases hr : r = 0
     ·subst hr
      by_cases ha : a = 0
      ·subst ha
       have hv : B0 = false := by rw [HB0'.out]; simp
       have hne : NE := by rw [HNEQ.out]; simp
       have HV := Lib.hid hv; clear hv
       have HNE := Lib.hid hne; clear hne
       have PL := PLS
       go_upto_region 22 with fail
       have K0 := fun W : BelowW wr => W.cell k0
       have K1 := fun W : BelowW wr => W.cell k1
       have K2 := fun W : BelowW wr => W.cell k2
       have T0 := fun W : BelowW wr => W.cell t0
       have T1 := fun W : BelowW wr => W.cell t1
       have T2 := fun W : BelowW wr => W.cell t2
       have T3 := fun W : BelowW wr => W.cell t3
       have T4 := fun W : BelowW wr => W.cell t4
       have V0 := fun W : BelowW wr => W.cell v0
       have V1 := fun W : BelowW wr => W.cell v1
       have V2 := fun W : BelowW wr => W.cell v2
       clear k0 k1 k2 t0 t1 t2 t3 t4 v0 v1 v2 x0 x1 x2 x3
       refine wp_region_below (by kernel_rfl) (by kernel_rfl) ?_
       repeat (go_big_quiet_step (first | (go_at_call 102; exact Calls.below_of (PL.out _))))
       refine wpQuiet_nil ?_
       rintro _ ⟨WL, rfl⟩
       have HL := Lib.hid (HR.out.trans (WL.2.mono HR.out.size))
       go_wp2_with fail
       go_roundw
       case rel => exact ⟨HL.out, .inr ⟨HNE.out, .inl ⟨by first | rfl | go_num, by rw [HV.out]⟩⟩⟩
       case measure => simp [intOf]
      ·have e : E = 2 := by rw [HE2.out, if_pos ⟨rfl, rfl, ha⟩]
       subst e
       have ha1 : (a != 0) = true := bne_iff_ne.2 ha
       clear ha
       have HBZ := Lib.hid (HBW.out _ (HTW.out _ (HZX.out _ HR.out)))
       try clear HE2
       try clear HTL
       try clear HNEQ
       try clear HB0'
       clear PL0 PLS PL1 PL2 HSC
       go_wp2_with fail
       go_ret
       exact ⟨rfl, HBZ.out⟩
     ·have hr1 : (r != 0) = true := by simpa using hr
      have hne : NE := by rw [HNEQ.out]; exact fun h => hr h.2.1
      have hv0 := HB0'.out
      rw [if_pos rfl, hr1] at hv0
      have pl := PLS.out
      cases hps : placeB p f 115 a 0
      ·have hv : B0 = true := by rw [hv0, hps]; rfl
       rw [hps] at pl
       clear hr hv0 hps
       have HV := Lib.hid hv; clear hv
       have HNE := Lib.hid hne; clear hne
       have PL := Lib.hid pl; clear pl
       go_upto_region 22 with fail
       have K0 := fun W : BelowW wr => W.cell k0
       have K1 := fun W : BelowW wr => W.cell k1
       have K2 := fun W : BelowW wr => W.cell k2
       have T0 := fun W : BelowW wr => W.cell t0
       have T1 := fun W : BelowW wr => W.cell t1
       have T2 := fun W : BelowW wr => W.cell t2
       have T3 := fun W : BelowW wr => W.cell t3
       have T4 := fun W : BelowW wr => W.cell t4
       have V0 := fun W : BelowW wr => W.cell v0
       have V1 := fun W : BelowW wr => W.cell v1
       have V2 := fun W : BelowW wr => W.cell v2
       clear k0 k1 k2 t0 t1 t2 t3 t4 v0 v1 v2 x0 x1 x2 x3
       refine wp_region_below (by kernel_rfl) (by kernel_rfl) ?_
       repeat (go_big_quiet_step (first | (go_at_call 102; exact Calls.below_of (PL.out _))))
       refine wpQuiet_nil ?_
       rintro _ ⟨WL, rfl⟩
       have HL := Lib.hid (HR.out.trans (WL.2.mono HR.out.size))
       go_wp2_with fail
       go_roundw
       case rel => exact ⟨HL.out, .inr ⟨HNE.out, .inl ⟨by first | rfl | go_num, by rw [HV.out]⟩⟩⟩
       case measure => simp [intOf]
      ·have hv : B0 = false := by rw [hv0, hps]; rfl
       rw [hps] at pl
       clear hr hv0 hps
       have HV := Lib.hid hv; clear hv
       have HNE := Lib.hid hne; clear hne
       have PL := Lib.hid pl; clear pl
       go_upto_region 22 with fail
       have K0 := fun W : BelowW wr => W.cell k0
       have K1 := fun W : BelowW wr => W.cell k1
       have K2 := fun W : BelowW wr => W.cell k2
       have T0 := fun W : BelowW wr => W.cell t0
       have T1 := fun W : BelowW wr => W.cell t1
       have T2 := fun W : BelowW wr => W.cell t2
       have T3 := fun W : BelowW wr => W.cell t3
       have T4 := fun W : BelowW wr => W.cell t4
       have V0 := fun W : BelowW wr => W.cell v0
       have V1 := fun W : BelowW wr => W.cell v1
       have V2 := fun W : BelowW wr => W.cell v2
       clear k0 k1 k2 t0 t1 t2 t3 t4 v0 v1 v2 x0 x1 x2 x3
       refine wp_region_below (by kernel_rfl) (by kernel_rfl) ?_
       repeat (go_big_quiet_step (first | (go_at_call 102; exact Calls.below_of (PL.out _))))
       refine wpQuiet_nil ?_
       rintro _ ⟨WL, rfl⟩
       have HL := Lib.hid (HR.out.trans (WL.2.mono HR.out.size))
       go_wp2_with fail
       go_roundw
       case rel => exact ⟨HL.out, .inr ⟨HNE.out, .inl ⟨by first | rfl | go_num, by rw [HV.out]⟩⟩⟩
       case measure => simp [intOf]
    ·have hl0 : (l0 == 114) = false := by simpa using h0
     have hne : NE := by rw [HNEQ.out]; exact fun h => h0 h.1
     have hv0 := HB0'.out
     rw [if_neg h0] at hv0
     have pl := PL0.out
     cases hps : placeB p f l0 a 0
     ·have hv : B0 = true := by rw [hv0, hps]; rfl
      rw [hps] at pl
      clear h0 hv0 hps
      have HV := Lib.hid hv; clear hv
      have HNE := Lib.hid hne; clear hne
      have PL := Lib.hid pl; clear pl
      go_upto_region 23 with fail
      have K0 := fun W : BelowW wr => W.cell k0
      have K1 := fun W : BelowW wr => W.cell k1
      have K2 := fun W : BelowW wr => W.cell k2
      have T0 := fun W : BelowW wr => W.cell t0
      have T1 := fun W : BelowW wr => W.cell t1
      have T2 := fun W : BelowW wr => W.cell t2
      have T3 := fun W : BelowW wr => W.cell t3
      have T4 := fun W : BelowW wr => W.cell t4
      have V0 := fun W : BelowW wr => W.cell v0
      have V1 := fun W : BelowW wr => W.cell v1
      have V2 := fun W : BelowW wr => W.cell v2
      clear k0 k1 k2 t0 t1 t2 t3 t4 v0 v1 v2 x0 x1 x2 x3
      refine wp_region_below (by kernel_rfl) (by kernel_rfl) ?_
      repeat (go_big_quiet_step (first | (go_at_call 102; exact Calls.below_of (PL.out _))))
      refine wpQuiet_nil ?_
      rintro _ ⟨WL, rfl⟩
      have HL := Lib.hid (HR.out.trans (WL.2.mono HR.out.size))
      go_wp2_with fail
      go_roundw
      case rel => exact ⟨HL.out, .inr ⟨HNE.out, .inl ⟨by first | rfl | go_num, by rw [HV.out]⟩⟩⟩
      case measure => simp [intOf]
     ·have hv : B0 = false := by rw [hv0, hps]; rfl
      rw [hps] at pl
      clear h0 hv0 hps
      have HV := Lib.hid hv; clear hv
      have HNE := Lib.hid hne; clear hne
      have PL := Lib.hid pl; clear pl
      go_upto_region 23 with fail
      have K0 := fun W : BelowW wr => W.cell k0
      have K1 := fun W : BelowW wr => W.cell k1
      have K2 := fun W : BelowW wr => W.cell k2
      have T0 := fun W : BelowW wr => W.cell t0
      have T1 := fun W : BelowW wr => W.cell t1
      have T2 := fun W : BelowW wr => W.cell t2
      have T3 := fun W : BelowW wr => W.cell t3
      have T4 := fun W : BelowW wr => W.cell t4
      have V0 := fun W : BelowW wr => W.cell v0
      have V1 := fun W : BelowW wr => W.cell v1
      have V2 := fun W : BelowW wr => W.cell v2
      clear k0 k1 k2 t0 t1 t2 t3 t4 v0 v1 v2 x0 x1 x2 x3
      refine wp_region_below (by kernel_rfl) (by kernel_rfl) ?_
      repeat (go_big_quiet_step (first | (go_at_call 102; exact Calls.below_of (PL.out _))))
      refine wpQuiet_nil ?_
      rintro _ ⟨WL, rfl⟩
      have HL := Lib.hid (HR.out.trans (WL.2.mono HR.out.size))
      go_wp2_with fail
      go_roundw
      case rel => exact ⟨HL.out, .inr ⟨HNE.out, .inl ⟨by first | rfl | go_num, by rw [HV.out]⟩⟩⟩
      case measure => simp [intOf]
   ·cases B0
    ·have pl := PL1.out
     cases P1
     ·skip
      have HNE := Lib.hid hne; clear hne
      have PL := Lib.hid pl; clear pl
      go_upto_region 23 with fail
      have K0 := fun W : BelowW wr => W.cell k0
      have K1 := fun W : BelowW wr => W.cell k1
      have K2 := fun W : BelowW wr => W.cell k2
      have T0 := fun W : BelowW wr => W.cell t0
      have T1 := fun W : BelowW wr => W.cell t1
      have T2 := fun W : BelowW wr => W.cell t2
      have T3 := fun W : BelowW wr => W.cell t3
      have T4 := fun W : BelowW wr => W.cell t4
      have V0 := fun W : BelowW wr => W.cell v0
      have V1 := fun W : BelowW wr => W.cell v1
      have V2 := fun W : BelowW wr => W.cell v2
      clear k0 k1 k2 t0 t1 t2 t3 t4 v0 v1 v2 x0 x1 x2 x3
      refine wp_region_below (by kernel_rfl) (by kernel_rfl) ?_
      repeat (go_big_quiet_step (first | (go_at_call 102; exact Calls.below_of (PL.out _))))
      refine wpQuiet_nil ?_
      rintro _ ⟨WL, rfl⟩
      have HL := Lib.hid (HR.out.trans (WL.2.mono HR.out.size))
      go_wp2_with fail
      go_roundw
      case rel => exact ⟨HL.out, .inr ⟨HNE.out, .inr (.inl ⟨by first | rfl | go_num, rfl⟩)⟩⟩
      case measure => simp [intOf]
     ·skip
      have HNE := Lib.hid hne; clear hne
      have PL := Lib.hid pl; clear pl
      go_upto_region 23 with fail
      have K0 := fun W : BelowW wr => W.cell k0
      have K1 := fun W : BelowW wr => W.cell k1
      have K2 := fun W : BelowW wr => W.cell k2
      have T0 := fun W : BelowW wr => W.cell t0
      have T1 := fun W : BelowW wr => W.cell t1
      have T2 := fun W : BelowW wr => W.cell t2
      have T3 := fun W : BelowW wr => W.cell t3
      have T4 := fun W : BelowW wr => W.cell t4
      have V0 := fun W : BelowW wr => W.cell v0
      have V1 := fun W : BelowW wr => W.cell v1
      have V2 := fun W : BelowW wr => W.cell v2
      clear k0 k1 k2 t0 t1 t2 t3 t4 v0 v1 v2 x0 x1 x2 x3
      refine wp_region_below (by kernel_rfl) (by kernel_rfl) ?_
      repeat (go_big_quiet_step (first | (go_at_call 102; exact Calls.below_of (PL.out _))))
      refine wpQuiet_nil ?_
      rintro _ ⟨WL, rfl⟩
      have HL := Lib.hid (HR.out.trans (WL.2.mono HR.out.size))
      go_wp2_with fail
      go_roundw
      case rel => exact ⟨HL.out, .inr ⟨HNE.out, .inr (.inl ⟨by first | rfl | go_num, rfl⟩)⟩⟩
      case measure => simp [intOf]
    ·skip
     have HNE := Lib.hid hne; clear hne
     have PL := PL1
     go_upto_region 23 with fail
     have K0 := fun W : BelowW wr => W.cell k0
     have K1 := fun W : BelowW wr => W.cell k1
     have K2 := fun W : BelowW wr => W.cell k2
     have T0 := fun W : BelowW wr => W.cell t0
     have T1 := fun W : BelowW wr => W.cell t1
     have T2 := fun W : BelowW wr => W.cell t2
     have T3 := fun W : BelowW wr => W.cell t3
     have T4 := fun W : BelowW wr => W.cell t4
     have V0 := fun W : BelowW wr => W.cell v0
     have V1 := fun W : BelowW wr => W.cell v1
     have V2 := fun W : BelowW wr => W.cell v2
     clear k0 k1 k2 t0 t1 t2 t3 t4 v0 v1 v2 x0 x1 x2 x3
     refine wp_region_below (by kernel_rfl) (by kernel_rfl) ?_
     repeat (go_big_quiet_step (first | (go_at_call 102; exact Calls.below_of (PL.out _))))
     refine wpQuiet_nil ?_
     rintro _ ⟨WL, rfl⟩
     have HL := Lib.hid (HR.out.trans (WL.2.mono HR.out.size))
     go_wp2_with fail
     go_roundw
     case rel => exact ⟨HL.out, .inr ⟨HNE.out, .inr (.inl ⟨by first | rfl | go_num, by rw [Bool.true_or]⟩)⟩⟩
     case measure => simp [intOf]
   ·generalize (B0 || !P1) = B1 at *
    cases B1
    ·have pl := PL2.out
     cases P2
     ·skip
      have HNE := Lib.hid hne; clear hne
      have PL := Lib.hid pl; clear pl
      go_upto_region 23 with fail
      have K0 := fun W : BelowW wr => W.cell k0
      have K1 := fun W : BelowW wr => W.cell k1
      have K2 := fun W : BelowW wr => W.cell k2
      have T0 := fun W : BelowW wr => W.cell t0
      have T1 := fun W : BelowW wr => W.cell t1
      have T2 := fun W : BelowW wr => W.cell t2
      have T3 := fun W : BelowW wr => W.cell t3
      have T4 := fun W : BelowW wr => W.cell t4
      have V0 := fun W : BelowW wr => W.cell v0
      have V1 := fun W : BelowW wr => W.cell v1
      have V2 := fun W : BelowW wr => W.cell v2
      clear k0 k1 k2 t0 t1 t2 t3 t4 v0 v1 v2 x0 x1 x2 x3
      refine wp_region_below (by kernel_rfl) (by kernel_rfl) ?_
      repeat (go_big_quiet_step (first | (go_at_call 102; exact Calls.below_of (PL.out _))))
      refine wpQuiet_nil ?_
      rintro _ ⟨WL, rfl⟩
      have HL := Lib.hid (HR.out.trans (WL.2.mono HR.out.size))
      go_wp2_with fail
      go_roundw
      case rel => exact ⟨HL.out, .inr ⟨HNE.out, .inr (.inr ⟨by first | rfl | go_num, rfl⟩)⟩⟩
      case measure => simp [intOf]
     ·skip
      have HNE := Lib.hid hne; clear hne
      have PL := Lib.hid pl; clear pl
      go_upto_region 23 with fail
      have K0 := fun W : BelowW wr => W.cell k0
      have K1 := fun W : BelowW wr => W.cell k1
      have K2 := fun W : BelowW wr => W.cell k2
      have T0 := fun W : BelowW wr => W.cell t0
      have T1 := fun W : BelowW wr => W.cell t1
      have T2 := fun W : BelowW wr => W.cell t2
      have T3 := fun W : BelowW wr => W.cell t3
      have T4 := fun W : BelowW wr => W.cell t4
      have V0 := fun W : BelowW wr => W.cell v0
      have V1 := fun W : BelowW wr => W.cell v1
      have V2 := fun W : BelowW wr => W.cell v2
      clear k0 k1 k2 t0 t1 t2 t3 t4 v0 v1 v2 x0 x1 x2 x3
      refine wp_region_below (by kernel_rfl) (by kernel_rfl) ?_
      repeat (go_big_quiet_step (first | (go_at_call 102; exact Calls.below_of (PL.out _))))
      refine wpQuiet_nil ?_
      rintro _ ⟨WL, rfl⟩
      have HL := Lib.hid (HR.out.trans (WL.2.mono HR.out.size))
      go_wp2_with fail
      go_roundw
      case rel => exact ⟨HL.out, .inr ⟨HNE.out, .inr (.inr ⟨by first | rfl | go_num, rfl⟩)⟩⟩
      case measure => simp [intOf]
    ·skip
     have HNE := Lib.hid hne; clear hne
     have PL := PL2
     go_upto_region 23 with fail
     have K0 := fun W : BelowW wr => W.cell k0
     have K1 := fun W : BelowW wr => W.cell k1
     have K2 := fun W : BelowW wr => W.cell k2
     have T0 := fun W : BelowW wr => W.cell t0
     have T1 := fun W : BelowW wr => W.cell t1
     have T2 := fun W : BelowW wr => W.cell t2
     have T3 := fun W : BelowW wr => W.cell t3
     have T4 := fun W : BelowW wr => W.cell t4
     have V0 := fun W : BelowW wr => W.cell v0
     have V1 := fun W : BelowW wr => W.cell v1
     have V2 := fun W : BelowW wr => W.cell v2
     clear k0 k1 k2 t0 t1 t2 t3 t4 v0 v1 v2 x0 x1 x2 x3
     refine wp_region_below (by kernel_rfl) (by kernel_rfl) ?_
     repeat (go_big_quiet_step (first | (go_at_call 102; exact Calls.below_of (PL.out _))))
     refine wpQuiet_nil ?_
     rintro _ ⟨WL, rfl⟩
     have HL := Lib.hid (HR.out.trans (WL.2.mono HR.out.size))
     go_wp2_with fail
     go_roundw
     case rel => exact ⟨HL.out, .inr ⟨HNE.out, .inr (.inr ⟨by first | rfl | go_num, by rw [Bool.true_or]⟩)⟩⟩
     case measure => simp [intOf]
   ·have hE3 := HE2.out
    rw [HNEQ.out] at hne
    rw [if_neg hne] at hE3
    generalize (B0 || !P1 || !P2) = B2 at *
    clear hne
    cases B2
    ·rw [if_neg (by simp)] at hE3
     subst hE3
     go_upto_region 26 with fail
     by_cases h25 : op = 25 ∨ op = 26
     ·have hs1 : p.shapes.length = 0 → E = 3 := fun h => by rw [HTL.out, if_pos ⟨h25, h⟩]
      have hs2 : p.shapes.length ≠ 0 → E = 0 := fun h => by rw [HTL.out, if_neg (fun h2 => h h2.2)]
      by_cases hsh : p.shapes.length = 0
      ·have e := hs1 hsh
       subst e
       have hs3 : ((p.shapes.length : Int) == 0) = true := by rw [hsh]; rfl
       generalize p.shapes.length = sl at *
       clear hs1 hs2
       by_cases h26 : op = 25
       ·have e25 : (op == 25) = true := by simpa using h26
        clear h25 h26
        have HBZ := Lib.hid (HBW.out _ (HTW.out _ (HZX.out _ HR.out)))
        try clear HE2
        try clear HTL
        try clear HNEQ
        try clear HB0'
        clear PL0 PLS PL1 PL2 HSC
        go_wp2_with fail
        go_ret
        exact ⟨rfl, HBZ.out⟩
       ·have e25 : (op == 25) = false := by simpa using h26
        have e26 : (op == 26) = true := by simpa using (h25.resolve_left h26)
        clear h25 h26
        have HBZ := Lib.hid (HBW.out _ (HTW.out _ (HZX.out _ HR.out)))
        try clear HE2
        try clear HTL
        try clear HNEQ
        try clear HB0'
        clear PL0 PLS PL1 PL2 HSC
        go_wp2_with fail
        go_ret
        exact ⟨rfl, HBZ.out⟩
      ·have e := hs2 hsh
       subst e
       have hs3 : ((p.shapes.length : Int) == 0) = false := by simpa using hsh
       generalize p.shapes.length = sl at *
       clear hs1 hs2
       by_cases h26 : op = 25
       ·have e25 : (op == 25) = true := by simpa using h26
        clear h25 h26
        have HBZ := Lib.hid (HBW.out _ (HTW.out _ (HZX.out _ HR.out)))
        try clear HE2
        try clear HTL
        try clear HNEQ
        try clear HB0'
        clear PL0 PLS PL1 PL2 HSC
        go_wp2_with fail
        go_ret
        exact ⟨rfl, HBZ.out⟩
       ·have e25 : (op == 25) = false := by simpa using h26
        have e26 : (op == 26) = true := by simpa using (h25.resolve_left h26)
        clear h25 h26
        have HBZ := Lib.hid (HBW.out _ (HTW.out _ (HZX.out _ HR.out)))
        try clear HE2
        try clear HTL
        try clear HNEQ
        try clear HB0'
        clear PL0 PLS PL1 PL2 HSC
        go_wp2_with fail
        go_ret
        exact ⟨rfl, HBZ.out⟩
     ·have e : E = 0 := by rw [HTL.out, if_neg (fun h2 => h25 h2.1)]
      subst e
      have e25 : (op == 25) = false := by simpa using fun h => h25 (.inl h)
      have e26 : (op == 26) = false := by simpa using fun h => h25 (.inr h)
      clear h25
      have HBZ := Lib.hid (HBW.out _ (HTW.out _ (HZX.out _ HR.out)))
      try clear HE2
      try clear HTL
      try clear HNEQ
      try clear HB0'
      clear PL0 PLS PL1 PL2 HSC
      go_wp2_with fail
      go_ret
      exact ⟨rfl, HBZ.out⟩
    ·rw [if_pos rfl] at hE3
     subst hE3
     have HBZ := Lib.hid (HBW.out _ (HTW.out _ (HZX.out _ HR.out)))
     try clear HE2
     try clear HTL
     try clear HNEQ
     try clear HB0'
     clear PL0 PLS PL1 PL2 HSC
     go_wp2_with fail
     go_ret
     exact ⟨rfl, HBZ.out⟩
end Go.Proofs.YtjcjhfnjamphlaaGreat
