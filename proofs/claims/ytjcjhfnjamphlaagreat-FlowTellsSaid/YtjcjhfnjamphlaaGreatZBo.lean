import Derived.Test.YtjcjhfnjamphlaaGreatZBm
set_option linter.unusedVariables false
set_option linter.unusedSimpArgs false
namespace Go.Proofs.YtjcjhfnjamphlaaGreat
open Go.ChangeShapes Go.WideShapes Go.ChangeAt Go.RowKit
set_option maxRecDepth 100000 in
set_option maxHeartbeats 12800000 in
theorem rstep_b1 (w : World) (D : Nat → Prop) (p : Prg) (c0 c1 c2 : Value) (hv : PrgVal w D p c0 c1 c2) (hp : PrgB p) (hq : PrgR p) (hf : PrgFit p) (fn pc : Nat) (hfn : fn < p.funcs.length) (i : Ins) (hi : p.funcs[fn].code[pc]? = some i)
  (DK : Nat → Prop) (ka : Option Addr) (K : List Int) (kc : Nat) (hk : IntSl w DK ka K) (hok : StepOk p p.funcs[fn] i K.length) (hKb : ∀ x ∈ K, i64B x) (hKn : K.length ≤ 1000) (hop : i.op = 10 ∨ i.op = 29 ∨ i.op = 11 ∨ i.op = 13 ∨ i.op = 12) :
  Calls Tryz.prog 60 #[.agg #[c0, c1, c2], .int .i64 fn, .int .i64 pc, .slice ka K.length kc] w (RStepPostS (readsK p p.funcs[fn].result i K) (outK p p.funcs[fn] i K) w) := by
 have hP : ∀ wr, Below w.heap.size w wr → PrgVal wr D p c0 c1 c2 := fun wr hb => hv.fr (Fr.of_below hb (fun _ => False)) (fun _ _ h => h)
 have hff := hf.fn _ (List.getElem_mem hfn)
 have hv2 := hv
 obtain ⟨⟨a0, m0, rfl, hgs⟩, ⟨a1, m1, rfl, _⟩, a2, m2, rfl, hfs⟩ := hv2
 have hfs0 := hfs
 obtain ⟨bb, o, rfl, hDb, y0, y1, y2, y3, y4, g0, g1, g2, g3, g4, hfv⟩ := hfs fn hfn
 obtain ⟨rfl, rfl, ⟨e0, e1, rfl, _⟩, ⟨e2, e3, rfl, hobs⟩, e4, e5, rfl, hcs⟩ := hfv
 have hpc : pc < p.funcs[fn].code.length := by
  rcases Nat.lt_or_ge pc p.funcs[fn].code.length with h | h
  ·exact h
  ·rw [List.getElem?_eq_none h] at hi; cases hi
 obtain ⟨cb, co, rfl, _, q0, q1, q2, q3⟩ := hcs pc hpc
 rw [List.getElem?_eq_getElem hpc] at hi
 injection hi with hi
 rw [hi] at q0 q1 q2 q3
 have hfn1 : (fn : Int) < (p.funcs.length : Int) := by omega
 have hpc1 : (pc : Int) < (p.funcs[fn].code.length : Int) := by omega
 obtain ⟨op, a, b, c⟩ := i
 dsimp only at q0 q1 q2 q3
 obtain ⟨n, hn⟩ : ∃ n, n = K.length := ⟨_, rfl⟩
 have mk := fun w => make_fl w n (by omega)
 have hcp := fun (wx : World) (g : Nat) (hr : wx.heap[g]? = some (.cells (intsV (List.replicate n 0)).toArray 3)) (hx : IntSl wx DK ka K) => copy_fl wx 3 g n (List.replicate n 0) (by simp) hr DK ka K kc hx (by omega)
 rw [← hn] at hok hcp ⊢
 obtain ⟨f, hfe⟩ : ∃ f, f = p.funcs[fn] := ⟨_, rfl⟩
 rw [← hfe] at g0 g1 g2 g3 g4 hpc1 hok hobs hff ⊢
 clear hi hcs hfe
 -- the worlds of the prelude
 have hb1 := (Below.refl w.heap.size w).alloc (Nat.le_refl _) (.cells #[.slice a0 p.globals.length m0, .slice a1 p.shapes.length m1, .slice (some ⟨bb, o, none⟩) p.funcs.length m2] 26)
 have hr1 := heap_new w (.cells #[.slice a0 p.globals.length m0, .slice a1 p.shapes.length m1, .slice (some ⟨bb, o, none⟩) p.funcs.length m2] 26)
 obtain ⟨w1, hw1⟩ : ∃ w1, w1 = w.alloc (.cells #[.slice a0 p.globals.length m0, .slice a1 p.shapes.length m1, .slice (some ⟨bb, o, none⟩) p.funcs.length m2] 26) := ⟨_, rfl⟩
 rw [← hw1] at hb1 hr1
 obtain ⟨yb, hyb⟩ : ∃ yb, yb = w.heap.size := ⟨_, rfl⟩
 rw [← hyb] at hr1
 replace g0 := below_cell hb1 g0
 replace g1 := below_cell hb1 g1
 replace g2 := below_cell hb1 g2
 replace g3 := below_cell hb1 g3
 replace g4 := below_cell hb1 g4
 obtain ⟨k0, k1, k2⟩ : w1.cell? ⟨yb, 0, none⟩ = some (.slice a0 p.globals.length m0) ∧ w1.cell? ⟨yb, 1, none⟩ = some (.slice a1 p.shapes.length m1) ∧ w1.cell? ⟨yb, 2, none⟩ = some (.slice (some ⟨bb, o, none⟩) p.funcs.length m2) := ⟨(row_cell hr1 0).1, (row_cell hr1 1).1, (row_cell hr1 2).1⟩
 have HYB := Lib.hid hyb
 have HW1 := Lib.hid hw1
 have HB1 := Lib.hid hb1
 have HR1 := Lib.hid hr1
 have HP := Lib.hid hP
 have HPB := Lib.hid hp
 have HPR := Lib.hid hq
 have HFIT := Lib.hid hf
 have HFF := Lib.hid hff
 have HOK := Lib.hid hok
 have HKI := Lib.hid hKb
 have HNK := Lib.hid hn
 have HK0 := Lib.hid hk
 have HFS := Lib.hid hfs0
 have HGS := Lib.hid hgs
 have HOBS := Lib.hid hobs
 have HCP := Lib.hid hcp
 have Q0 := Lib.hid q0
 have Q1 := Lib.hid q1
 have Q2 := Lib.hid q2
 have Q3 := Lib.hid q3
 have hn1 : n ≤ 1000 := by omega
 obtain ⟨R, hR⟩ : ∃ R, R = readsK p f.result ⟨op, a, b, c⟩ K := ⟨_, rfl⟩
 obtain ⟨MID, hM⟩ : ∃ M, M = midK p f ⟨op, a, b, c⟩ K := ⟨_, rfl⟩
 obtain ⟨OUT, hOUT⟩ : ∃ M, M = outK p f ⟨op, a, b, c⟩ K := ⟨_, rfl⟩
 rw [← hR, ← hOUT]
 have hout : OUT = if R = false ∧ writesK p ⟨op, a, b, c⟩ = true then MID.set a.toNat 0 else MID := by rw [hOUT, hR, hM]; exact outK_mid _ _ _ _
 have hml : MID.length = n := by rw [hM, midK_len, hn]
 have HR := Lib.hid hR
 have HM := Lib.hid hM
 have HOUT := Lib.hid hout
 have HML := Lib.hid hml
 clear hyb hw1 hb1 hr1 hP hp hq hf hff hok hKb hn hk hfs hfs0 hgs hobs hcp q0 q1 q2 q3 hR hM hOUT hout hml hKn hv hDb
 generalize hal : f.args.length = al at *
 generalize hol : f.objects.length = ol at *
 generalize hcl : f.code.length = cl at *
 generalize hfr : f.result = fr at *
 generalize hfsl : f.slots = fs at *
 have HAL := Lib.hid hal
 have HOL := Lib.hid hol
 have HFRR := Lib.hid hfr
 clear hal hol hcl hfr hfsl
 go_enter Tryz.func60, Tryz.ntmps60
 go_upto_region 1 with fail
 rw [← HYB.out, ← HW1.out]
 go_upto_region 2 with fail
 have hb2 := (Below.refl w1.heap.size w1).alloc (Nat.le_refl _) (.cells #[.slice e0 al e1, .int .i64 fr, .int .i64 fs, .slice e2 ol e3, .slice (some ⟨cb, co, none⟩) cl e5] 58)
 have hr2 := heap_new w1 (.cells #[.slice e0 al e1, .int .i64 fr, .int .i64 fs, .slice e2 ol e3, .slice (some ⟨cb, co, none⟩) cl e5] 58)
 obtain ⟨zb, hzb⟩ : ∃ zb, zb = w1.heap.size := ⟨_, rfl⟩
 obtain ⟨w2, hw2⟩ : ∃ w2, w2 = w1.alloc (.cells #[.slice e0 al e1, .int .i64 fr, .int .i64 fs, .slice e2 ol e3, .slice (some ⟨cb, co, none⟩) cl e5] 58) := ⟨_, rfl⟩
 rw [← hw2] at hb2 hr2 ⊢
 rw [← hzb] at hr2 ⊢
 have h2z : w2.heap.size = zb + 1 := by rw [hw2, hzb]; simp
 have q0 := below_cell hb2 (below_cell HB1.out Q0.out)
 have q1 := below_cell hb2 (below_cell HB1.out Q1.out)
 have q2 := below_cell hb2 (below_cell HB1.out Q2.out)
 have q3 := below_cell hb2 (below_cell HB1.out Q3.out)
 have z4 : w2.cell? ⟨zb, 4, none⟩ = some (.slice (some ⟨cb, co, none⟩) cl e5) := (row_cell hr2 4).1
 have HB2 := Lib.hid hb2
 have HR2 := Lib.hid hr2
 have HZB := Lib.hid hzb
 have H2Z := Lib.hid h2z
 clear hw2 hb2 hr2 hzb h2z k0 k1 k2 g0 g1 g2 g3 g4
 go_upto_region 3 with fail
 have hb3 := (Below.refl w2.heap.size w2).alloc (Nat.le_refl _) (.cells #[.int .i64 op, .int .i64 a, .int .i64 b, .int .i64 c] 60)
 have hr3 := heap_new w2 (.cells #[.int .i64 op, .int .i64 a, .int .i64 b, .int .i64 c] 60)
 obtain ⟨ub, hub⟩ : ∃ ub, ub = w2.heap.size := ⟨_, rfl⟩
 obtain ⟨w3, hw3⟩ : ∃ w3, w3 = w2.alloc (.cells #[.int .i64 op, .int .i64 a, .int .i64 b, .int .i64 c] 60) := ⟨_, rfl⟩
 rw [← hw3] at hb3 hr3 ⊢
 rw [← hub] at hr3 ⊢
 have h3z : w3.heap.size = ub + 1 := by rw [hw3, hub]; simp
 have HB3 := Lib.hid hb3
 have HR3 := Lib.hid hr3
 have HUB := Lib.hid hub
 have H3Z := Lib.hid h3z
 clear hw3 hb3 hr3 hub h3z q0 q1 q2 q3 z4
 go_upto_region 4 with fail
 have hb4 := (Below.refl w3.heap.size w3).alloc (Nat.le_refl _) (.cells (intsV (List.replicate n 0)).toArray 3)
 have hr4 := heap_new w3 (.cells (intsV (List.replicate n 0)).toArray 3)
 obtain ⟨g, hg⟩ : ∃ g, g = w3.heap.size := ⟨_, rfl⟩
 obtain ⟨w4, hw4⟩ : ∃ w4, w4 = w3.alloc (.cells (intsV (List.replicate n 0)).toArray 3) := ⟨_, rfl⟩
 rw [← hw4] at hb4 hr4 ⊢
 rw [← hg] at hr4 ⊢
 clear hw4 mk
 have b13 := HB2.out.trans (HB3.out.mono HB2.out.size)
 have b14 := b13.trans (hb4.mono b13.size)
 have b04 := HB1.out.trans (b14.mono HB1.out.size)
 have b24 := HB3.out.trans (hb4.mono HB3.out.size)
 obtain ⟨w5, hrun, hr5, hf5⟩ := HCP.out w4 g hr4 (HK0.out.fr (Fr.of_below b04 (fun _ => False)) (fun _ _ h => h))
 have hl5 : K ++ (List.replicate n 0).drop n = K := by simp
 rw [hl5] at hr5
 have hyb2 := HYB.out
 have hzb2 := HZB.out
 have hub2 := HUB.out
 have hs1 := HB1.out.size
 have hs2 := HB2.out.size
 have hs3 := HB3.out.size
 have hH2 := H2Z.out
 have hH3 := H3Z.out
 have hl1 := heap_lt HR1.out
 have hne : g ≠ yb ∧ g ≠ zb ∧ g ≠ ub := ⟨by omega, by omega, by omega⟩
 have hB5 : Below w.heap.size w w5 := b04.trans (hf5.below b04.size (fun k hk => by unfold onB at hk; omega))
 have hR1 := hf5.heap ((Fr.of_below b14 (fun _ => False)).heap HR1.out (fun h => h)) (fun e => hne.1 e.symm)
 have hR2 := hf5.heap ((Fr.of_below b24 (fun _ => False)).heap HR2.out (fun h => h)) (fun e => hne.2.1 e.symm)
 have hR3 := hf5.heap ((Fr.of_below hb4 (fun _ => False)).heap HR3.out (fun h => h)) (fun e => hne.2.2 e.symm)
 have hown := own_row (B := w.heap.size) hr5 HNK.out.symm (by omega) (by omega)
 have k0 : w5.cell? ⟨yb, 0, none⟩ = some (.slice a0 p.globals.length m0) := (row_cell hR1 0).1
 have k1 : w5.cell? ⟨yb, 1, none⟩ = some (.slice a1 p.shapes.length m1) := (row_cell hR1 1).1
 have k2 : w5.cell? ⟨yb, 2, none⟩ = some (.slice (some ⟨bb, o, none⟩) p.funcs.length m2) := (row_cell hR1 2).1
 have z1 : w5.cell? ⟨zb, 1, none⟩ = some (.int .i64 fr) := (row_cell hR2 1).1
 have z3 : w5.cell? ⟨zb, 3, none⟩ = some (.slice e2 ol e3) := (row_cell hR2 3).1
 have u0 : w5.cell? ⟨ub, 0, none⟩ = some (.int .i64 op) := (row_cell hR3 0).1
 have u1 : w5.cell? ⟨ub, 1, none⟩ = some (.int .i64 a) := (row_cell hR3 1).1
 have u2 : w5.cell? ⟨ub, 2, none⟩ = some (.int .i64 b) := (row_cell hR3 2).1
 have u3 : w5.cell? ⟨ub, 3, none⟩ = some (.int .i64 c) := (row_cell hR3 3).1
 have hkg : ∀ {b o}, 0 < K.length → ka = some (⟨b, o, none⟩ : Addr) → b ≠ g := fun h0 e => by
  obtain ⟨b', o', e', _, hx⟩ := HK0.out 0 h0
  rw [e] at e'
  injection e' with e'
  injection e' with e1 e2
  subst e1 e2
  have := World.block_lt hx
  dsimp only at this
  omega
 obtain ⟨kb0, ko, hkd, hka⟩ : ∃ kb0 ko, (∀ j : Nat, j < n → w5.cell? ⟨kb0, ko + j, none⟩ = some (.int .i64 (kindA K j))) ∧ (0 < n → ka = some ⟨kb0, ko, none⟩ ∧ kb0 ≠ g) := by
  by_cases h0 : 0 < n
  ·obtain ⟨kb0, ko, e, _, _⟩ := HK0.out 0 (by rw [← HNK.out]; exact h0)
   refine ⟨kb0, ko, fun j hj => ?_, fun _ => ⟨e, hkg (by have := HNK.out; omega) e⟩⟩
   have hj' : j < K.length := by rw [← HNK.out]; exact hj
   obtain ⟨kb', ko', e', _, hx⟩ := HK0.out j hj'
   rw [e] at e'
   injection e' with e'
   injection e' with e1 e2
   subst e1 e2
   rw [below_cell hB5 hx, kindA_get K j (by omega)]
   simp [hj']
  ·exact ⟨0, 0, fun j hj => absurd hj (by omega), fun h => absurd h h0⟩
 have hki2 : ∀ j : Nat, i64B (kindA K (j : Int)) := fun j => by
  rw [kindA_get K j (by omega)]
  by_cases hj : j < K.length
  ·have := HKI.out _ (List.getElem_mem hj)
   simpa [hj] using this
  ·rw [List.getElem?_eq_none (by simp; omega)]
   exact ⟨by decide, by decide⟩
 rw [show K.length = n from HNK.out.symm] at hown
 have HOWN := Lib.hid hown
 have HB5 := Lib.hid hB5
 have HNE := Lib.hid hne
 have HKD := Lib.hid hkd
 have HKA := Lib.hid hka
 have HKI2 := Lib.hid hki2
 have HKN := Lib.hid HNK.out.symm
 have HPV := Lib.hid HP.out
 have HGB := Lib.hid (show w.heap.size ≤ g by omega)
 clear hg hb4 hr4 b13 b14 b04 b24 hr5 hf5 hl5 hyb2 hzb2 hub2 hs1 hs2 hs3 hH2 hH3 hl1 hne hB5 hR1 hR2 hR3 hown hkd hka hki2 hkg
 clear HB1 HB2 HB3 HR1 HR2 HR3 HYB HZB HUB H2Z H3Z HK0 HCP HW1 Q0 Q1 Q2 Q3 HKI HP
 go_upto_region 6 with fail
 clear hrun
 clear hfn1 hpc1
 dsimp only at hop
 have HOP := Lib.hid hop
 clear hop
 by_cases h10 : op = 10
 ·subst h10
  have han' := HOK.out.useA (by simp)
  dsimp only at han'
  obtain ⟨an, rfl⟩ : ∃ an : Nat, a = an := ⟨a.toNat, by omega⟩
  have han : (an : Int) < (n : Int) := han'.2
  clear han'
  obtain ⟨eka, hkbg⟩ := HKA.out (by omega)
  subst eka
  have ka := HKD.out an (by omega)
  obtain ⟨xa, hxa⟩ : ∃ x, x = kindA K (an : Int) := ⟨_, rfl⟩
  rw [← hxa] at ka
  have HRR := Lib.hid (show R = (xa == 1) from by rw [HR.out]; simp [readsK, hxa])
  have HMM := Lib.hid (show MID = K from by rw [HM.out]; simp [midK, writesK, writesS, setsK, hxa])
  clear HR HM
  clear hxa
  have HMO := Lib.hid HOWN.out
  have HMF := Lib.hid (show Fr (onB g) w5 w5 from (Fr.refl _ _))
  by_cases hx1 : xa = 1
  ·subst hx1
   go_upto_region 64 with fail
   have hrt : R = true := by rw [HRR.out]; first | done | (rfl)
   subst hrt
   have ho : OUT = K := by rw [HOUT.out, HMM.out]; simp
   subst ho
   replace u0 := HMF.out.cell u0 (fun e => HNE.out.2.2 e.symm)
   replace u1 := HMF.out.cell u1 (fun e => HNE.out.2.2 e.symm)
   replace u2 := HMF.out.cell u2 (fun e => HNE.out.2.2 e.symm)
   replace u3 := HMF.out.cell u3 (fun e => HNE.out.2.2 e.symm)
   have hmb : Below w.heap.size w w5 := HB5.out.trans (HMF.out.below HB5.out.size (fun q hq => by unfold onB at hq; have := HGB.out; omega))
   have HMB := Lib.hid hmb
   clear hmb
   try clear k0 k1 z1 z3
   go_wp2_with fail
   refine (wr_no _ _ _ _ _ (by decide)).mono ?_
   rintro e w9 ⟨rfl, hb9⟩
   have HMO9 := Lib.hid (HMO.out.below hb9)
   have HMB9 := Lib.hid (HMB.out.trans (hb9.mono HMB.out.size))
   replace u0 := below_cell hb9 u0
   replace u2 := below_cell hb9 u2
   have HB9 := Lib.hid hb9
   clear u1 u3 hb9
   go_wp2_with fail
   go_ret2
   exact ⟨_, _, rfl, HMO9.out, HMB9.out⟩
  ·have hx1' : (xa == 1) = false := by simpa using hx1
   clear hx1
   go_upto_region 64 with fail
   have hrt : R = false := by rw [HRR.out]; first | done | (exact hx1')
   subst hrt
   have ho : OUT = K := by rw [HOUT.out, HMM.out]; simp [writesK, writesS]
   subst ho
   replace u0 := HMF.out.cell u0 (fun e => HNE.out.2.2 e.symm)
   replace u1 := HMF.out.cell u1 (fun e => HNE.out.2.2 e.symm)
   replace u2 := HMF.out.cell u2 (fun e => HNE.out.2.2 e.symm)
   replace u3 := HMF.out.cell u3 (fun e => HNE.out.2.2 e.symm)
   have hmb : Below w.heap.size w w5 := HB5.out.trans (HMF.out.below HB5.out.size (fun q hq => by unfold onB at hq; have := HGB.out; omega))
   have HMB := Lib.hid hmb
   clear hmb
   try clear k0 k1 z1 z3
   go_wp2_with fail
   refine (wr_no _ _ _ _ _ (by decide)).mono ?_
   rintro e w9 ⟨rfl, hb9⟩
   have HMO9 := Lib.hid (HMO.out.below hb9)
   have HMB9 := Lib.hid (HMB.out.trans (hb9.mono HMB.out.size))
   replace u0 := below_cell hb9 u0
   replace u2 := below_cell hb9 u2
   have HB9 := Lib.hid hb9
   clear u1 u3 hb9
   go_wp2_with fail
   go_ret2
   exact ⟨_, _, rfl, HMO9.out, HMB9.out⟩
 by_cases h29 : op = 29
 ·subst h29
  have han' := HOK.out.useA (by simp)
  dsimp only at han'
  obtain ⟨an, rfl⟩ : ∃ an : Nat, a = an := ⟨a.toNat, by omega⟩
  have han : (an : Int) < (n : Int) := han'.2
  clear han'
  obtain ⟨eka, hkbg⟩ := HKA.out (by omega)
  subst eka
  have ka := HKD.out an (by omega)
  obtain ⟨xa, hxa⟩ : ∃ x, x = kindA K (an : Int) := ⟨_, rfl⟩
  rw [← hxa] at ka
  have HRR := Lib.hid (show R = (xa == 1) from by rw [HR.out]; simp [readsK, hxa])
  have HMM := Lib.hid (show MID = K from by rw [HM.out]; simp [midK, writesK, writesS, setsK, hxa])
  clear HR HM
  clear hxa
  have HMO := Lib.hid HOWN.out
  have HMF := Lib.hid (show Fr (onB g) w5 w5 from (Fr.refl _ _))
  by_cases hx1 : xa = 1
  ·subst hx1
   go_upto_region 64 with fail
   have hrt : R = true := by rw [HRR.out]; first | done | (rfl)
   subst hrt
   have ho : OUT = K := by rw [HOUT.out, HMM.out]; simp
   subst ho
   replace u0 := HMF.out.cell u0 (fun e => HNE.out.2.2 e.symm)
   replace u1 := HMF.out.cell u1 (fun e => HNE.out.2.2 e.symm)
   replace u2 := HMF.out.cell u2 (fun e => HNE.out.2.2 e.symm)
   replace u3 := HMF.out.cell u3 (fun e => HNE.out.2.2 e.symm)
   have hmb : Below w.heap.size w w5 := HB5.out.trans (HMF.out.below HB5.out.size (fun q hq => by unfold onB at hq; have := HGB.out; omega))
   have HMB := Lib.hid hmb
   clear hmb
   try clear k0 k1 z1 z3
   go_wp2_with fail
   refine (wr_no _ _ _ _ _ (by decide)).mono ?_
   rintro e w9 ⟨rfl, hb9⟩
   have HMO9 := Lib.hid (HMO.out.below hb9)
   have HMB9 := Lib.hid (HMB.out.trans (hb9.mono HMB.out.size))
   replace u0 := below_cell hb9 u0
   replace u2 := below_cell hb9 u2
   have HB9 := Lib.hid hb9
   clear u1 u3 hb9
   go_wp2_with fail
   go_ret2
   exact ⟨_, _, rfl, HMO9.out, HMB9.out⟩
  ·have hx1' : (xa == 1) = false := by simpa using hx1
   clear hx1
   go_upto_region 64 with fail
   have hrt : R = false := by rw [HRR.out]; first | done | (exact hx1')
   subst hrt
   have ho : OUT = K := by rw [HOUT.out, HMM.out]; simp [writesK, writesS]
   subst ho
   replace u0 := HMF.out.cell u0 (fun e => HNE.out.2.2 e.symm)
   replace u1 := HMF.out.cell u1 (fun e => HNE.out.2.2 e.symm)
   replace u2 := HMF.out.cell u2 (fun e => HNE.out.2.2 e.symm)
   replace u3 := HMF.out.cell u3 (fun e => HNE.out.2.2 e.symm)
   have hmb : Below w.heap.size w w5 := HB5.out.trans (HMF.out.below HB5.out.size (fun q hq => by unfold onB at hq; have := HGB.out; omega))
   have HMB := Lib.hid hmb
   clear hmb
   try clear k0 k1 z1 z3
   go_wp2_with fail
   refine (wr_no _ _ _ _ _ (by decide)).mono ?_
   rintro e w9 ⟨rfl, hb9⟩
   have HMO9 := Lib.hid (HMO.out.below hb9)
   have HMB9 := Lib.hid (HMB.out.trans (hb9.mono HMB.out.size))
   replace u0 := below_cell hb9 u0
   replace u2 := below_cell hb9 u2
   have HB9 := Lib.hid hb9
   clear u1 u3 hb9
   go_wp2_with fail
   go_ret2
   exact ⟨_, _, rfl, HMO9.out, HMB9.out⟩
 by_cases h11 : op = 11
 ·subst h11
  have han' := HOK.out.sets (by simp [writesK, writesS])
  dsimp only at han'
  obtain ⟨an, rfl⟩ : ∃ an : Nat, a = an := ⟨a.toNat, by omega⟩
  have han : (an : Int) < (n : Int) := han'.2
  clear han'
  have hb' := HOK.out.news (by simp)
  dsimp only at hb'
  have i1 : IntKind.i64.wrap (16 + b) = 16 + b := IntWalk.i64_in _ (by omega)
  have HRR := Lib.hid (show R = true from by rw [HR.out]; simp [readsK])
  have HMM := Lib.hid (show MID = K.set an (16 + b) from by rw [HM.out]; simp [midK, writesK, writesS, setsK])
  clear HR HM
  obtain ⟨q1, q2, _, hset⟩ := own_at HOWN.out an (by rw [HKN.out]; omega)
  have hmo := hset (16 + b)
  have hmf := ((Fr.refl (onB g) w5)).setCell (p := ⟨g, an, none⟩) (fun _ => rfl) (.int .i64 (16 + b))
  generalize (K[an]?).getD 0 = x0 at *
  obtain ⟨wX, hwX⟩ : ∃ wX, wX = w5.setCell ⟨g, an, none⟩ (.int .i64 (16 + b)) := ⟨_, rfl⟩
  have hmo : Own intE wX w.heap.size (.slice (some ⟨g, 0, none⟩) n n) (K.set an (16 + b)) := by rw [hwX]; exact hmo
  have hmf : Fr (onB g) w5 wX := by rw [hwX]; exact hmf
  have HMO := Lib.hid hmo
  have HMF := Lib.hid hmf
  have HWX := Lib.hid hwX
  clear hset hmo hmf hwX
  clear hb'
  go_upto_region 64 with fail
  rw [← HWX.out]
  have hrt : R = true := by rw [HRR.out]; first | done | (rfl)
  subst hrt
  have ho : OUT = K.set an (16 + b) := by rw [HOUT.out, HMM.out]; simp
  subst ho
  replace u0 := HMF.out.cell u0 (fun e => HNE.out.2.2 e.symm)
  replace u1 := HMF.out.cell u1 (fun e => HNE.out.2.2 e.symm)
  replace u2 := HMF.out.cell u2 (fun e => HNE.out.2.2 e.symm)
  replace u3 := HMF.out.cell u3 (fun e => HNE.out.2.2 e.symm)
  have hmb : Below w.heap.size w wX := HB5.out.trans (HMF.out.below HB5.out.size (fun q hq => by unfold onB at hq; have := HGB.out; omega))
  have HMB := Lib.hid hmb
  clear hmb
  try clear k0 k1 z1 z3
  go_wp2_with fail
  refine (wr_yes _ _ _ _ _ (by decide)).mono ?_
  rintro e w9 ⟨rfl, hb9⟩
  have HMO9 := Lib.hid (HMO.out.below hb9)
  have HMB9 := Lib.hid (HMB.out.trans (hb9.mono HMB.out.size))
  replace u0 := below_cell hb9 u0
  replace u2 := below_cell hb9 u2
  have HB9 := Lib.hid hb9
  clear u1 u3 hb9
  go_wp2_with fail
  go_ret2
  exact ⟨_, _, rfl, HMO9.out, HMB9.out⟩
 by_cases h13 : op = 13
 ·subst h13
  have han' := HOK.out.sets (by simp [writesK, writesS])
  dsimp only at han'
  obtain ⟨an, rfl⟩ : ∃ an : Nat, a = an := ⟨a.toNat, by omega⟩
  have han : (an : Int) < (n : Int) := han'.2
  clear han'
  have hb' := HOK.out.news (by simp)
  dsimp only at hb'
  have i1 : IntKind.i64.wrap (16 + b) = 16 + b := IntWalk.i64_in _ (by omega)
  have HRR := Lib.hid (show R = true from by rw [HR.out]; simp [readsK])
  have HMM := Lib.hid (show MID = K.set an (16 + b) from by rw [HM.out]; simp [midK, writesK, writesS, setsK])
  clear HR HM
  obtain ⟨q1, q2, _, hset⟩ := own_at HOWN.out an (by rw [HKN.out]; omega)
  have hmo := hset (16 + b)
  have hmf := ((Fr.refl (onB g) w5)).setCell (p := ⟨g, an, none⟩) (fun _ => rfl) (.int .i64 (16 + b))
  generalize (K[an]?).getD 0 = x0 at *
  obtain ⟨wX, hwX⟩ : ∃ wX, wX = w5.setCell ⟨g, an, none⟩ (.int .i64 (16 + b)) := ⟨_, rfl⟩
  have hmo : Own intE wX w.heap.size (.slice (some ⟨g, 0, none⟩) n n) (K.set an (16 + b)) := by rw [hwX]; exact hmo
  have hmf : Fr (onB g) w5 wX := by rw [hwX]; exact hmf
  have HMO := Lib.hid hmo
  have HMF := Lib.hid hmf
  have HWX := Lib.hid hwX
  clear hset hmo hmf hwX
  clear hb'
  go_upto_region 64 with fail
  rw [← HWX.out]
  have hrt : R = true := by rw [HRR.out]; first | done | (rfl)
  subst hrt
  have ho : OUT = K.set an (16 + b) := by rw [HOUT.out, HMM.out]; simp
  subst ho
  replace u0 := HMF.out.cell u0 (fun e => HNE.out.2.2 e.symm)
  replace u1 := HMF.out.cell u1 (fun e => HNE.out.2.2 e.symm)
  replace u2 := HMF.out.cell u2 (fun e => HNE.out.2.2 e.symm)
  replace u3 := HMF.out.cell u3 (fun e => HNE.out.2.2 e.symm)
  have hmb : Below w.heap.size w wX := HB5.out.trans (HMF.out.below HB5.out.size (fun q hq => by unfold onB at hq; have := HGB.out; omega))
  have HMB := Lib.hid hmb
  clear hmb
  try clear k0 k1 z1 z3
  go_wp2_with fail
  refine (wr_yes _ _ _ _ _ (by decide)).mono ?_
  rintro e w9 ⟨rfl, hb9⟩
  have HMO9 := Lib.hid (HMO.out.below hb9)
  have HMB9 := Lib.hid (HMB.out.trans (hb9.mono HMB.out.size))
  replace u0 := below_cell hb9 u0
  replace u2 := below_cell hb9 u2
  have HB9 := Lib.hid hb9
  clear u1 u3 hb9
  go_wp2_with fail
  go_ret2
  exact ⟨_, _, rfl, HMO9.out, HMB9.out⟩
 by_cases h12 : op = 12
 ·subst h12
  have han' := HOK.out.sets (by simp [writesK, writesS])
  dsimp only at han'
  obtain ⟨an, rfl⟩ : ∃ an : Nat, a = an := ⟨a.toNat, by omega⟩
  have han : (an : Int) < (n : Int) := han'.2
  clear han'
  have hbn' := HOK.out.useB (by simp)
  dsimp only at hbn'
  obtain ⟨bn, rfl⟩ : ∃ bn : Nat, b = bn := ⟨b.toNat, by omega⟩
  have hbn : (bn : Int) < (n : Int) := hbn'.2
  clear hbn'
  obtain ⟨eka, hkbg⟩ := HKA.out (by omega)
  subst eka
  have kb := HKD.out bn (by omega)
  obtain ⟨xb, hxb⟩ : ∃ x, x = kindA K (bn : Int) := ⟨_, rfl⟩
  rw [← hxb] at kb
  have HRR := Lib.hid (show R = (isPtrB xb) from by rw [HR.out]; simp [readsK, hxb])
  have HMM := Lib.hid (show MID = K.set an 1 from by rw [HM.out]; simp [midK, writesK, writesS, setsK, hxb])
  clear HR HM
  clear hxb
  have ip := fun W' => rIsPtr_any W' xb
  have IP := Lib.hid ip
  clear ip
  obtain ⟨q1, q2, _, hset⟩ := own_at HOWN.out an (by rw [HKN.out]; omega)
  have hmo := hset 1
  have hmf := ((Fr.refl (onB g) w5)).setCell (p := ⟨g, an, none⟩) (fun _ => rfl) (.int .i64 1)
  generalize (K[an]?).getD 0 = x0 at *
  obtain ⟨wX, hwX⟩ : ∃ wX, wX = w5.setCell ⟨g, an, none⟩ (.int .i64 1) := ⟨_, rfl⟩
  have hmo : Own intE wX w.heap.size (.slice (some ⟨g, 0, none⟩) n n) (K.set an 1) := by rw [hwX]; exact hmo
  have hmf : Fr (onB g) w5 wX := by rw [hwX]; exact hmf
  have HMO := Lib.hid hmo
  have HMF := Lib.hid hmf
  have HWX := Lib.hid hwX
  clear hset hmo hmf hwX
  go_wp2_with fail
  refine (IP.out _).mono ?_
  rintro e w' ⟨rfl, rfl⟩
  cases hip : isPtrB xb with
  | true =>
   go_upto_region 64 with fail
   rw [← HWX.out]
   have hrt : R = true := by rw [HRR.out]; first | done | (exact hip)
   subst hrt
   have ho : OUT = K.set an 1 := by rw [HOUT.out, HMM.out]; simp
   subst ho
   replace u0 := HMF.out.cell u0 (fun e => HNE.out.2.2 e.symm)
   replace u1 := HMF.out.cell u1 (fun e => HNE.out.2.2 e.symm)
   replace u2 := HMF.out.cell u2 (fun e => HNE.out.2.2 e.symm)
   replace u3 := HMF.out.cell u3 (fun e => HNE.out.2.2 e.symm)
   have hmb : Below w.heap.size w wX := HB5.out.trans (HMF.out.below HB5.out.size (fun q hq => by unfold onB at hq; have := HGB.out; omega))
   have HMB := Lib.hid hmb
   clear hmb
   try clear k0 k1 z1 z3
   go_wp2_with fail
   refine (wr_yes _ _ _ _ _ (by decide)).mono ?_
   rintro e w9 ⟨rfl, hb9⟩
   have HMO9 := Lib.hid (HMO.out.below hb9)
   have HMB9 := Lib.hid (HMB.out.trans (hb9.mono HMB.out.size))
   replace u0 := below_cell hb9 u0
   replace u2 := below_cell hb9 u2
   have HB9 := Lib.hid hb9
   clear u1 u3 hb9
   go_wp2_with fail
   go_ret2
   exact ⟨_, _, rfl, HMO9.out, HMB9.out⟩
  | false =>
   go_upto_region 64 with fail
   rw [← HWX.out]
   have hrt : R = false := by rw [HRR.out]; first | done | (exact hip)
   subst hrt
   have ho : OUT = (K.set an 1).set an 0 := by rw [HOUT.out, HMM.out]; simp [writesK, writesS]
   subst ho
   replace u0 := HMF.out.cell u0 (fun e => HNE.out.2.2 e.symm)
   replace u1 := HMF.out.cell u1 (fun e => HNE.out.2.2 e.symm)
   replace u2 := HMF.out.cell u2 (fun e => HNE.out.2.2 e.symm)
   replace u3 := HMF.out.cell u3 (fun e => HNE.out.2.2 e.symm)
   have hmb : Below w.heap.size w wX := HB5.out.trans (HMF.out.below HB5.out.size (fun q hq => by unfold onB at hq; have := HGB.out; omega))
   have HMB := Lib.hid hmb
   clear hmb
   try clear k0 k1 z1 z3
   go_wp2_with fail
   refine (wr_yes _ _ _ _ _ (by decide)).mono ?_
   rintro e w9 ⟨rfl, hb9⟩
   have HMO9 := Lib.hid (HMO.out.below hb9)
   have HMB9 := Lib.hid (HMB.out.trans (hb9.mono HMB.out.size))
   replace u0 := below_cell hb9 u0
   replace u2 := below_cell hb9 u2
   have HB9 := Lib.hid hb9
   clear u1 u3 hb9
   obtain ⟨q1, q2, hgB, hset⟩ := own_at HMO9.out an (by simp only [List.length_set, HKN.out]; omega)
   generalize ((K.set an 1)[an]?).getD 0 = x1 at *
   have HSO := Lib.hid (hset 0)
   have HSB := Lib.hid (below_put (j := an) HMB9.out hgB (.int .i64 0))
   clear hset hgB
   go_wp2_with fail
   go_ret2
   exact ⟨_, _, rfl, HSO.out, HSB.out⟩
 exact absurd HOP.out (by omega)
set_option maxRecDepth 100000 in
set_option maxHeartbeats 12800000 in
theorem rstep_b2 (w : World) (D : Nat → Prop) (p : Prg) (c0 c1 c2 : Value) (hv : PrgVal w D p c0 c1 c2) (hp : PrgB p) (hq : PrgR p) (hf : PrgFit p) (fn pc : Nat) (hfn : fn < p.funcs.length) (i : Ins) (hi : p.funcs[fn].code[pc]? = some i)
  (DK : Nat → Prop) (ka : Option Addr) (K : List Int) (kc : Nat) (hk : IntSl w DK ka K) (hok : StepOk p p.funcs[fn] i K.length) (hKb : ∀ x ∈ K, i64B x) (hKn : K.length ≤ 1000) (hop : i.op = 16 ∨ i.op = 17 ∨ i.op = 18) :
  Calls Tryz.prog 60 #[.agg #[c0, c1, c2], .int .i64 fn, .int .i64 pc, .slice ka K.length kc] w (RStepPostS (readsK p p.funcs[fn].result i K) (outK p p.funcs[fn] i K) w) := by
 have hP : ∀ wr, Below w.heap.size w wr → PrgVal wr D p c0 c1 c2 := fun wr hb => hv.fr (Fr.of_below hb (fun _ => False)) (fun _ _ h => h)
 have hff := hf.fn _ (List.getElem_mem hfn)
 have hv2 := hv
 obtain ⟨⟨a0, m0, rfl, hgs⟩, ⟨a1, m1, rfl, _⟩, a2, m2, rfl, hfs⟩ := hv2
 have hfs0 := hfs
 obtain ⟨bb, o, rfl, hDb, y0, y1, y2, y3, y4, g0, g1, g2, g3, g4, hfv⟩ := hfs fn hfn
 obtain ⟨rfl, rfl, ⟨e0, e1, rfl, _⟩, ⟨e2, e3, rfl, hobs⟩, e4, e5, rfl, hcs⟩ := hfv
 have hpc : pc < p.funcs[fn].code.length := by
  rcases Nat.lt_or_ge pc p.funcs[fn].code.length with h | h
  ·exact h
  ·rw [List.getElem?_eq_none h] at hi; cases hi
 obtain ⟨cb, co, rfl, _, q0, q1, q2, q3⟩ := hcs pc hpc
 rw [List.getElem?_eq_getElem hpc] at hi
 injection hi with hi
 rw [hi] at q0 q1 q2 q3
 have hfn1 : (fn : Int) < (p.funcs.length : Int) := by omega
 have hpc1 : (pc : Int) < (p.funcs[fn].code.length : Int) := by omega
 obtain ⟨op, a, b, c⟩ := i
 dsimp only at q0 q1 q2 q3
 obtain ⟨n, hn⟩ : ∃ n, n = K.length := ⟨_, rfl⟩
 have mk := fun w => make_fl w n (by omega)
 have hcp := fun (wx : World) (g : Nat) (hr : wx.heap[g]? = some (.cells (intsV (List.replicate n 0)).toArray 3)) (hx : IntSl wx DK ka K) => copy_fl wx 3 g n (List.replicate n 0) (by simp) hr DK ka K kc hx (by omega)
 rw [← hn] at hok hcp ⊢
 obtain ⟨f, hfe⟩ : ∃ f, f = p.funcs[fn] := ⟨_, rfl⟩
 rw [← hfe] at g0 g1 g2 g3 g4 hpc1 hok hobs hff ⊢
 clear hi hcs hfe
 -- the worlds of the prelude
 have hb1 := (Below.refl w.heap.size w).alloc (Nat.le_refl _) (.cells #[.slice a0 p.globals.length m0, .slice a1 p.shapes.length m1, .slice (some ⟨bb, o, none⟩) p.funcs.length m2] 26)
 have hr1 := heap_new w (.cells #[.slice a0 p.globals.length m0, .slice a1 p.shapes.length m1, .slice (some ⟨bb, o, none⟩) p.funcs.length m2] 26)
 obtain ⟨w1, hw1⟩ : ∃ w1, w1 = w.alloc (.cells #[.slice a0 p.globals.length m0, .slice a1 p.shapes.length m1, .slice (some ⟨bb, o, none⟩) p.funcs.length m2] 26) := ⟨_, rfl⟩
 rw [← hw1] at hb1 hr1
 obtain ⟨yb, hyb⟩ : ∃ yb, yb = w.heap.size := ⟨_, rfl⟩
 rw [← hyb] at hr1
 replace g0 := below_cell hb1 g0
 replace g1 := below_cell hb1 g1
 replace g2 := below_cell hb1 g2
 replace g3 := below_cell hb1 g3
 replace g4 := below_cell hb1 g4
 obtain ⟨k0, k1, k2⟩ : w1.cell? ⟨yb, 0, none⟩ = some (.slice a0 p.globals.length m0) ∧ w1.cell? ⟨yb, 1, none⟩ = some (.slice a1 p.shapes.length m1) ∧ w1.cell? ⟨yb, 2, none⟩ = some (.slice (some ⟨bb, o, none⟩) p.funcs.length m2) := ⟨(row_cell hr1 0).1, (row_cell hr1 1).1, (row_cell hr1 2).1⟩
 have HYB := Lib.hid hyb
 have HW1 := Lib.hid hw1
 have HB1 := Lib.hid hb1
 have HR1 := Lib.hid hr1
 have HP := Lib.hid hP
 have HPB := Lib.hid hp
 have HPR := Lib.hid hq
 have HFIT := Lib.hid hf
 have HFF := Lib.hid hff
 have HOK := Lib.hid hok
 have HKI := Lib.hid hKb
 have HNK := Lib.hid hn
 have HK0 := Lib.hid hk
 have HFS := Lib.hid hfs0
 have HGS := Lib.hid hgs
 have HOBS := Lib.hid hobs
 have HCP := Lib.hid hcp
 have Q0 := Lib.hid q0
 have Q1 := Lib.hid q1
 have Q2 := Lib.hid q2
 have Q3 := Lib.hid q3
 have hn1 : n ≤ 1000 := by omega
 obtain ⟨R, hR⟩ : ∃ R, R = readsK p f.result ⟨op, a, b, c⟩ K := ⟨_, rfl⟩
 obtain ⟨MID, hM⟩ : ∃ M, M = midK p f ⟨op, a, b, c⟩ K := ⟨_, rfl⟩
 obtain ⟨OUT, hOUT⟩ : ∃ M, M = outK p f ⟨op, a, b, c⟩ K := ⟨_, rfl⟩
 rw [← hR, ← hOUT]
 have hout : OUT = if R = false ∧ writesK p ⟨op, a, b, c⟩ = true then MID.set a.toNat 0 else MID := by rw [hOUT, hR, hM]; exact outK_mid _ _ _ _
 have hml : MID.length = n := by rw [hM, midK_len, hn]
 have HR := Lib.hid hR
 have HM := Lib.hid hM
 have HOUT := Lib.hid hout
 have HML := Lib.hid hml
 clear hyb hw1 hb1 hr1 hP hp hq hf hff hok hKb hn hk hfs hfs0 hgs hobs hcp q0 q1 q2 q3 hR hM hOUT hout hml hKn hv hDb
 generalize hal : f.args.length = al at *
 generalize hol : f.objects.length = ol at *
 generalize hcl : f.code.length = cl at *
 generalize hfr : f.result = fr at *
 generalize hfsl : f.slots = fs at *
 have HAL := Lib.hid hal
 have HOL := Lib.hid hol
 have HFRR := Lib.hid hfr
 clear hal hol hcl hfr hfsl
 go_enter Tryz.func60, Tryz.ntmps60
 go_upto_region 1 with fail
 rw [← HYB.out, ← HW1.out]
 go_upto_region 2 with fail
 have hb2 := (Below.refl w1.heap.size w1).alloc (Nat.le_refl _) (.cells #[.slice e0 al e1, .int .i64 fr, .int .i64 fs, .slice e2 ol e3, .slice (some ⟨cb, co, none⟩) cl e5] 58)
 have hr2 := heap_new w1 (.cells #[.slice e0 al e1, .int .i64 fr, .int .i64 fs, .slice e2 ol e3, .slice (some ⟨cb, co, none⟩) cl e5] 58)
 obtain ⟨zb, hzb⟩ : ∃ zb, zb = w1.heap.size := ⟨_, rfl⟩
 obtain ⟨w2, hw2⟩ : ∃ w2, w2 = w1.alloc (.cells #[.slice e0 al e1, .int .i64 fr, .int .i64 fs, .slice e2 ol e3, .slice (some ⟨cb, co, none⟩) cl e5] 58) := ⟨_, rfl⟩
 rw [← hw2] at hb2 hr2 ⊢
 rw [← hzb] at hr2 ⊢
 have h2z : w2.heap.size = zb + 1 := by rw [hw2, hzb]; simp
 have q0 := below_cell hb2 (below_cell HB1.out Q0.out)
 have q1 := below_cell hb2 (below_cell HB1.out Q1.out)
 have q2 := below_cell hb2 (below_cell HB1.out Q2.out)
 have q3 := below_cell hb2 (below_cell HB1.out Q3.out)
 have z4 : w2.cell? ⟨zb, 4, none⟩ = some (.slice (some ⟨cb, co, none⟩) cl e5) := (row_cell hr2 4).1
 have HB2 := Lib.hid hb2
 have HR2 := Lib.hid hr2
 have HZB := Lib.hid hzb
 have H2Z := Lib.hid h2z
 clear hw2 hb2 hr2 hzb h2z k0 k1 k2 g0 g1 g2 g3 g4
 go_upto_region 3 with fail
 have hb3 := (Below.refl w2.heap.size w2).alloc (Nat.le_refl _) (.cells #[.int .i64 op, .int .i64 a, .int .i64 b, .int .i64 c] 60)
 have hr3 := heap_new w2 (.cells #[.int .i64 op, .int .i64 a, .int .i64 b, .int .i64 c] 60)
 obtain ⟨ub, hub⟩ : ∃ ub, ub = w2.heap.size := ⟨_, rfl⟩
 obtain ⟨w3, hw3⟩ : ∃ w3, w3 = w2.alloc (.cells #[.int .i64 op, .int .i64 a, .int .i64 b, .int .i64 c] 60) := ⟨_, rfl⟩
 rw [← hw3] at hb3 hr3 ⊢
 rw [← hub] at hr3 ⊢
 have h3z : w3.heap.size = ub + 1 := by rw [hw3, hub]; simp
 have HB3 := Lib.hid hb3
 have HR3 := Lib.hid hr3
 have HUB := Lib.hid hub
 have H3Z := Lib.hid h3z
 clear hw3 hb3 hr3 hub h3z q0 q1 q2 q3 z4
 go_upto_region 4 with fail
 have hb4 := (Below.refl w3.heap.size w3).alloc (Nat.le_refl _) (.cells (intsV (List.replicate n 0)).toArray 3)
 have hr4 := heap_new w3 (.cells (intsV (List.replicate n 0)).toArray 3)
 obtain ⟨g, hg⟩ : ∃ g, g = w3.heap.size := ⟨_, rfl⟩
 obtain ⟨w4, hw4⟩ : ∃ w4, w4 = w3.alloc (.cells (intsV (List.replicate n 0)).toArray 3) := ⟨_, rfl⟩
 rw [← hw4] at hb4 hr4 ⊢
 rw [← hg] at hr4 ⊢
 clear hw4 mk
 have b13 := HB2.out.trans (HB3.out.mono HB2.out.size)
 have b14 := b13.trans (hb4.mono b13.size)
 have b04 := HB1.out.trans (b14.mono HB1.out.size)
 have b24 := HB3.out.trans (hb4.mono HB3.out.size)
 obtain ⟨w5, hrun, hr5, hf5⟩ := HCP.out w4 g hr4 (HK0.out.fr (Fr.of_below b04 (fun _ => False)) (fun _ _ h => h))
 have hl5 : K ++ (List.replicate n 0).drop n = K := by simp
 rw [hl5] at hr5
 have hyb2 := HYB.out
 have hzb2 := HZB.out
 have hub2 := HUB.out
 have hs1 := HB1.out.size
 have hs2 := HB2.out.size
 have hs3 := HB3.out.size
 have hH2 := H2Z.out
 have hH3 := H3Z.out
 have hl1 := heap_lt HR1.out
 have hne : g ≠ yb ∧ g ≠ zb ∧ g ≠ ub := ⟨by omega, by omega, by omega⟩
 have hB5 : Below w.heap.size w w5 := b04.trans (hf5.below b04.size (fun k hk => by unfold onB at hk; omega))
 have hR1 := hf5.heap ((Fr.of_below b14 (fun _ => False)).heap HR1.out (fun h => h)) (fun e => hne.1 e.symm)
 have hR2 := hf5.heap ((Fr.of_below b24 (fun _ => False)).heap HR2.out (fun h => h)) (fun e => hne.2.1 e.symm)
 have hR3 := hf5.heap ((Fr.of_below hb4 (fun _ => False)).heap HR3.out (fun h => h)) (fun e => hne.2.2 e.symm)
 have hown := own_row (B := w.heap.size) hr5 HNK.out.symm (by omega) (by omega)
 have k0 : w5.cell? ⟨yb, 0, none⟩ = some (.slice a0 p.globals.length m0) := (row_cell hR1 0).1
 have k1 : w5.cell? ⟨yb, 1, none⟩ = some (.slice a1 p.shapes.length m1) := (row_cell hR1 1).1
 have k2 : w5.cell? ⟨yb, 2, none⟩ = some (.slice (some ⟨bb, o, none⟩) p.funcs.length m2) := (row_cell hR1 2).1
 have z1 : w5.cell? ⟨zb, 1, none⟩ = some (.int .i64 fr) := (row_cell hR2 1).1
 have z3 : w5.cell? ⟨zb, 3, none⟩ = some (.slice e2 ol e3) := (row_cell hR2 3).1
 have u0 : w5.cell? ⟨ub, 0, none⟩ = some (.int .i64 op) := (row_cell hR3 0).1
 have u1 : w5.cell? ⟨ub, 1, none⟩ = some (.int .i64 a) := (row_cell hR3 1).1
 have u2 : w5.cell? ⟨ub, 2, none⟩ = some (.int .i64 b) := (row_cell hR3 2).1
 have u3 : w5.cell? ⟨ub, 3, none⟩ = some (.int .i64 c) := (row_cell hR3 3).1
 have hkg : ∀ {b o}, 0 < K.length → ka = some (⟨b, o, none⟩ : Addr) → b ≠ g := fun h0 e => by
  obtain ⟨b', o', e', _, hx⟩ := HK0.out 0 h0
  rw [e] at e'
  injection e' with e'
  injection e' with e1 e2
  subst e1 e2
  have := World.block_lt hx
  dsimp only at this
  omega
 obtain ⟨kb0, ko, hkd, hka⟩ : ∃ kb0 ko, (∀ j : Nat, j < n → w5.cell? ⟨kb0, ko + j, none⟩ = some (.int .i64 (kindA K j))) ∧ (0 < n → ka = some ⟨kb0, ko, none⟩ ∧ kb0 ≠ g) := by
  by_cases h0 : 0 < n
  ·obtain ⟨kb0, ko, e, _, _⟩ := HK0.out 0 (by rw [← HNK.out]; exact h0)
   refine ⟨kb0, ko, fun j hj => ?_, fun _ => ⟨e, hkg (by have := HNK.out; omega) e⟩⟩
   have hj' : j < K.length := by rw [← HNK.out]; exact hj
   obtain ⟨kb', ko', e', _, hx⟩ := HK0.out j hj'
   rw [e] at e'
   injection e' with e'
   injection e' with e1 e2
   subst e1 e2
   rw [below_cell hB5 hx, kindA_get K j (by omega)]
   simp [hj']
  ·exact ⟨0, 0, fun j hj => absurd hj (by omega), fun h => absurd h h0⟩
 have hki2 : ∀ j : Nat, i64B (kindA K (j : Int)) := fun j => by
  rw [kindA_get K j (by omega)]
  by_cases hj : j < K.length
  ·have := HKI.out _ (List.getElem_mem hj)
   simpa [hj] using this
  ·rw [List.getElem?_eq_none (by simp; omega)]
   exact ⟨by decide, by decide⟩
 rw [show K.length = n from HNK.out.symm] at hown
 have HOWN := Lib.hid hown
 have HB5 := Lib.hid hB5
 have HNE := Lib.hid hne
 have HKD := Lib.hid hkd
 have HKA := Lib.hid hka
 have HKI2 := Lib.hid hki2
 have HKN := Lib.hid HNK.out.symm
 have HPV := Lib.hid HP.out
 have HGB := Lib.hid (show w.heap.size ≤ g by omega)
 clear hg hb4 hr4 b13 b14 b04 b24 hr5 hf5 hl5 hyb2 hzb2 hub2 hs1 hs2 hs3 hH2 hH3 hl1 hne hB5 hR1 hR2 hR3 hown hkd hka hki2 hkg
 clear HB1 HB2 HB3 HR1 HR2 HR3 HYB HZB HUB H2Z H3Z HK0 HCP HW1 Q0 Q1 Q2 Q3 HKI HP
 go_upto_region 6 with fail
 clear hrun
 clear hfn1 hpc1
 dsimp only at hop
 have HOP := Lib.hid hop
 clear hop
 by_cases h16 : op = 16
 ·subst h16
  have han' := HOK.out.sets (by simp [writesK, writesS])
  dsimp only at han'
  obtain ⟨an, rfl⟩ : ∃ an : Nat, a = an := ⟨a.toNat, by omega⟩
  have han : (an : Int) < (n : Int) := han'.2
  clear han'
  have hb' := HOK.out.gload (by simp)
  dsimp only at hb'
  obtain ⟨bn, rfl⟩ : ∃ bn : Nat, b = bn := ⟨b.toNat, by omega⟩
  have hbn : (bn : Int) < (p.globals.length : Int) := hb'.2
  obtain ⟨gb, go, rfl, _, kg⟩ := HGS.out bn (by omega)
  have hgbg : gb ≠ g := fun e => by have h1 := World.block_lt kg; have h2 := HGB.out; dsimp only at h1; omega
  replace kg := below_cell HB5.out kg
  obtain ⟨x, hx⟩ : ∃ x, x = globA p bn := ⟨_, rfl⟩
  have hx2 : p.globals[bn]'(by omega) = x := by rw [hx]; unfold globA; simp [show bn < p.globals.length by omega]
  rw [hx2] at kg
  have HRR := Lib.hid (show R = true from by rw [HR.out]; simp [readsK, hx])
  have HMM := Lib.hid (show MID = K.set an x from by rw [HM.out]; simp [midK, writesK, writesS, setsK, hx])
  clear HR HM
  clear hx hx2 hb'
  go_upto_region 36 with fail
  obtain ⟨q1, q2, _, hset⟩ := own_at HOWN.out.drew an (by rw [HKN.out]; omega)
  have hmo := hset x
  have hmf := ((Fr.of_below (Below.refl w5.heap.size w5).drew (onB g))).setCell (p := ⟨g, an, none⟩) (fun _ => rfl) (.int .i64 x)
  generalize (K[an]?).getD 0 = x0 at *
  obtain ⟨wX, hwX⟩ : ∃ wX, wX = (w5.setCell ⟨g, an, none⟩ (.int .i64 x)).drew := ⟨_, rfl⟩
  have hmo : Own intE wX w.heap.size (.slice (some ⟨g, 0, none⟩) n n) (K.set an x) := by rw [hwX]; exact hmo
  have hmf : Fr (onB g) w5 wX := by rw [hwX]; exact hmf
  have HMO := Lib.hid hmo
  have HMF := Lib.hid hmf
  have HWX := Lib.hid hwX
  clear hset hmo hmf hwX
  have hS : w5.drew.cell? ⟨ub, 1, none⟩ = some (.int .i64 an) ∧ w5.drew.cell? ⟨ub, 2, none⟩ = some (.int .i64 bn) ∧ w5.drew.cell? ⟨gb, go + bn, none⟩ = some (.int .i64 x) ∧ w5.drew.cell? ⟨yb, 0, none⟩ = some (.slice (some ⟨gb, go, none⟩) p.globals.length m0) := ⟨u1, u2, kg, k0⟩
  have hf8 := ((Fr.of_below (Below.refl w5.heap.size w5).drew (onB g)).setCell (p := ⟨g, an, none⟩) (fun _ => rfl) (.int .i64 x))
  have hS8 : (w5.setCell ⟨g, an, none⟩ (.int .i64 x)).drew.cell? ⟨ub, 1, none⟩ = some (.int .i64 an) ∧ (w5.setCell ⟨g, an, none⟩ (.int .i64 x)).drew.cell? ⟨ub, 2, none⟩ = some (.int .i64 bn) ∧ (w5.setCell ⟨g, an, none⟩ (.int .i64 x)).drew.cell? ⟨gb, go + bn, none⟩ = some (.int .i64 x) ∧ (w5.setCell ⟨g, an, none⟩ (.int .i64 x)).drew.cell? ⟨yb, 0, none⟩ = some (.slice (some ⟨gb, go, none⟩) p.globals.length m0) := ⟨hf8.cell u1 (fun e => HNE.out.2.2 e.symm), hf8.cell u2 (fun e => HNE.out.2.2 e.symm), hf8.cell kg hgbg, hf8.cell k0 (fun e => HNE.out.1 e.symm)⟩
  clear hf8
  go_region_held3 (fun w' => w'.cell? ⟨ub, 1, none⟩ = some (.int .i64 an) ∧ w'.cell? ⟨ub, 2, none⟩ = some (.int .i64 bn) ∧ w'.cell? ⟨gb, go + bn, none⟩ = some (.int .i64 x) ∧ w'.cell? ⟨yb, 0, none⟩ = some (.slice (some ⟨gb, go, none⟩) p.globals.length m0)) (first | with_reducible exact hS | with_reducible exact hS8 | go_keep) (fail)
  all_goals
   go_upto_region 64 with fail
   rw [← HWX.out]
   clear kg
   have hrt : R = true := by rw [HRR.out]; first | done | (rfl)
   subst hrt
   have ho : OUT = K.set an x := by rw [HOUT.out, HMM.out]; simp
   subst ho
   replace u0 := HMF.out.cell u0 (fun e => HNE.out.2.2 e.symm)
   replace u1 := HMF.out.cell u1 (fun e => HNE.out.2.2 e.symm)
   replace u2 := HMF.out.cell u2 (fun e => HNE.out.2.2 e.symm)
   replace u3 := HMF.out.cell u3 (fun e => HNE.out.2.2 e.symm)
   have hmb : Below w.heap.size w wX := HB5.out.trans (HMF.out.below HB5.out.size (fun q hq => by unfold onB at hq; have := HGB.out; omega))
   have HMB := Lib.hid hmb
   clear hmb
   try clear k0 k1 z1 z3
   go_wp2_with fail
   refine (wr_yes _ _ _ _ _ (by decide)).mono ?_
   rintro e w9 ⟨rfl, hb9⟩
   have HMO9 := Lib.hid (HMO.out.below hb9)
   have HMB9 := Lib.hid (HMB.out.trans (hb9.mono HMB.out.size))
   replace u0 := below_cell hb9 u0
   replace u2 := below_cell hb9 u2
   have HB9 := Lib.hid hb9
   clear u1 u3 hb9
   go_wp2_with fail
   go_ret2
   exact ⟨_, _, rfl, HMO9.out, HMB9.out⟩
 by_cases h17 : op = 17
 ·subst h17
  have ha' := HOK.out.gstore (by simp)
  dsimp only at ha'
  obtain ⟨an, rfl⟩ : ∃ an : Nat, a = an := ⟨a.toNat, by omega⟩
  have han : (an : Int) < (p.globals.length : Int) := ha'.2
  have hbn' := HOK.out.useB (by simp)
  dsimp only at hbn'
  obtain ⟨bn, rfl⟩ : ∃ bn : Nat, b = bn := ⟨b.toNat, by omega⟩
  have hbn : (bn : Int) < (n : Int) := hbn'.2
  clear hbn'
  obtain ⟨eka, hkbg⟩ := HKA.out (by omega)
  subst eka
  have kb := HKD.out bn (by omega)
  obtain ⟨xb, hxb⟩ : ∃ x, x = kindA K (bn : Int) := ⟨_, rfl⟩
  rw [← hxb] at kb
  obtain ⟨gb, go, rfl, _, kg⟩ := HGS.out an (by omega)
  have hgbg : gb ≠ g := fun e => by have h1 := World.block_lt kg; have h2 := HGB.out; dsimp only at h1; omega
  replace kg := below_cell HB5.out kg
  obtain ⟨x, hx⟩ : ∃ x, x = globA p an := ⟨_, rfl⟩
  have hx2 : p.globals[an]'(by omega) = x := by rw [hx]; unfold globA; simp [show an < p.globals.length by omega]
  rw [hx2] at kg
  have HRR := Lib.hid (show R = (xb == x) from by rw [HR.out]; simp [readsK, hx, hxb])
  have HMM := Lib.hid (show MID = K from by rw [HM.out]; simp [midK, writesK, writesS, setsK, hx, hxb])
  clear HR HM
  clear hx hx2 ha' hxb
  by_cases hx1 : xb = x
  ·subst hx1
   go_upto_region 38 with fail
   go_quiet (fail)
   go_upto_region 64 with fail
   have HMO := Lib.hid (show Own intE (w5.drewN nq) _ _ _ from HOWN.out)
   have HMF := Lib.hid (show Fr (onB g) w5 (w5.drewN nq) from (Fr.of_below (below_drewN (Below.refl w5.heap.size w5) _) _))
   clear kb kg
   have hrt : R = true := by rw [HRR.out]; first | done | (simp)
   subst hrt
   have ho : OUT = K := by rw [HOUT.out, HMM.out]; simp
   subst ho
   replace u0 := HMF.out.cell u0 (fun e => HNE.out.2.2 e.symm)
   replace u1 := HMF.out.cell u1 (fun e => HNE.out.2.2 e.symm)
   replace u2 := HMF.out.cell u2 (fun e => HNE.out.2.2 e.symm)
   replace u3 := HMF.out.cell u3 (fun e => HNE.out.2.2 e.symm)
   have hmb : Below w.heap.size w (w5.drewN nq) := HB5.out.trans (HMF.out.below HB5.out.size (fun q hq => by unfold onB at hq; have := HGB.out; omega))
   have HMB := Lib.hid hmb
   clear hmb
   try clear k0 k1 z1 z3
   go_wp2_with fail
   refine (wr_no _ _ _ _ _ (by decide)).mono ?_
   rintro e w9 ⟨rfl, hb9⟩
   have HMO9 := Lib.hid (HMO.out.below hb9)
   have HMB9 := Lib.hid (HMB.out.trans (hb9.mono HMB.out.size))
   replace u0 := below_cell hb9 u0
   replace u2 := below_cell hb9 u2
   have HB9 := Lib.hid hb9
   clear u1 u3 hb9
   go_wp2_with fail
   go_ret2
   exact ⟨_, _, rfl, HMO9.out, HMB9.out⟩
  ·have hx1' : (xb == x) = false := by simpa using hx1
   clear hx1
   go_upto_region 38 with fail
   go_quiet (fail)
   go_upto_region 64 with fail
   have HMO := Lib.hid (show Own intE (w5.drewN nq) _ _ _ from HOWN.out)
   have HMF := Lib.hid (show Fr (onB g) w5 (w5.drewN nq) from (Fr.of_below (below_drewN (Below.refl w5.heap.size w5) _) _))
   clear kb kg
   have hrt : R = false := by rw [HRR.out]; first | done | (exact hx1')
   subst hrt
   have ho : OUT = K := by rw [HOUT.out, HMM.out]; simp [writesK, writesS]
   subst ho
   replace u0 := HMF.out.cell u0 (fun e => HNE.out.2.2 e.symm)
   replace u1 := HMF.out.cell u1 (fun e => HNE.out.2.2 e.symm)
   replace u2 := HMF.out.cell u2 (fun e => HNE.out.2.2 e.symm)
   replace u3 := HMF.out.cell u3 (fun e => HNE.out.2.2 e.symm)
   have hmb : Below w.heap.size w (w5.drewN nq) := HB5.out.trans (HMF.out.below HB5.out.size (fun q hq => by unfold onB at hq; have := HGB.out; omega))
   have HMB := Lib.hid hmb
   clear hmb
   try clear k0 k1 z1 z3
   go_wp2_with fail
   refine (wr_no _ _ _ _ _ (by decide)).mono ?_
   rintro e w9 ⟨rfl, hb9⟩
   have HMO9 := Lib.hid (HMO.out.below hb9)
   have HMB9 := Lib.hid (HMB.out.trans (hb9.mono HMB.out.size))
   replace u0 := below_cell hb9 u0
   replace u2 := below_cell hb9 u2
   have HB9 := Lib.hid hb9
   clear u1 u3 hb9
   go_wp2_with fail
   go_ret2
   exact ⟨_, _, rfl, HMO9.out, HMB9.out⟩
 by_cases h18 : op = 18
 ·subst h18
  have han' := HOK.out.sets (by simp [writesK, writesS])
  dsimp only at han'
  obtain ⟨an, rfl⟩ : ∃ an : Nat, a = an := ⟨a.toNat, by omega⟩
  have han : (an : Int) < (n : Int) := han'.2
  clear han'
  have hb' := HOK.out.addr (by simp)
  dsimp only at hb'
  obtain ⟨bn, rfl⟩ : ∃ bn : Nat, b = bn := ⟨b.toNat, by omega⟩
  have hbl : bn < f.objects.length := by omega
  have hbn : (bn : Int) < (ol : Int) := by have := HOL.out; omega
  obtain ⟨gb, go, rfl, _, kg⟩ := HOBS.out bn hbl
  have hgbg : gb ≠ g := fun e => by have h1 := World.block_lt kg; have h2 := HGB.out; dsimp only at h1; omega
  replace kg := below_cell HB5.out kg
  obtain ⟨x, hx⟩ : ∃ x, x = (f.objects[bn]?).getD 0 := ⟨_, rfl⟩
  have hx2 : f.objects[bn] = x := by rw [hx]; simp [hbl]
  have hx3 := withinB_of (HFF.out.objs _ (List.getElem_mem hbl))
  rw [hx2] at kg hx3
  have i1 : IntKind.i64.wrap (64 + x) = 64 + x := IntWalk.i64_in _ (by have := HFIT.out.shapes; omega)
  have HRR := Lib.hid (show R = true from by rw [HR.out]; simp [readsK, hx])
  have HMM := Lib.hid (show MID = K.set an (64 + x) from by rw [HM.out]; simp [midK, writesK, writesS, setsK, hx])
  clear HR HM
  clear hx hx2 hx3 hb' hbl
  go_upto_region 40 with fail
  obtain ⟨q1, q2, _, hset⟩ := own_at HOWN.out.drew an (by rw [HKN.out]; omega)
  have hmo := hset (64 + x)
  have hmf := ((Fr.of_below (Below.refl w5.heap.size w5).drew (onB g))).setCell (p := ⟨g, an, none⟩) (fun _ => rfl) (.int .i64 (64 + x))
  generalize (K[an]?).getD 0 = x0 at *
  obtain ⟨wX, hwX⟩ : ∃ wX, wX = (w5.setCell ⟨g, an, none⟩ (.int .i64 (64 + x))).drew := ⟨_, rfl⟩
  have hmo : Own intE wX w.heap.size (.slice (some ⟨g, 0, none⟩) n n) (K.set an (64 + x)) := by rw [hwX]; exact hmo
  have hmf : Fr (onB g) w5 wX := by rw [hwX]; exact hmf
  have HMO := Lib.hid hmo
  have HMF := Lib.hid hmf
  have HWX := Lib.hid hwX
  clear hset hmo hmf hwX
  have hS : w5.drew.cell? ⟨ub, 1, none⟩ = some (.int .i64 an) ∧ w5.drew.cell? ⟨ub, 2, none⟩ = some (.int .i64 bn) ∧ w5.drew.cell? ⟨gb, go + bn, none⟩ = some (.int .i64 x) ∧ w5.drew.cell? ⟨zb, 3, none⟩ = some (.slice (some ⟨gb, go, none⟩) ol e3) := ⟨u1, u2, kg, z3⟩
  have hf8 := ((Fr.of_below (Below.refl w5.heap.size w5).drew (onB g)).setCell (p := ⟨g, an, none⟩) (fun _ => rfl) (.int .i64 (64 + x)))
  have hS8 : (w5.setCell ⟨g, an, none⟩ (.int .i64 (64 + x))).drew.cell? ⟨ub, 1, none⟩ = some (.int .i64 an) ∧ (w5.setCell ⟨g, an, none⟩ (.int .i64 (64 + x))).drew.cell? ⟨ub, 2, none⟩ = some (.int .i64 bn) ∧ (w5.setCell ⟨g, an, none⟩ (.int .i64 (64 + x))).drew.cell? ⟨gb, go + bn, none⟩ = some (.int .i64 x) ∧ (w5.setCell ⟨g, an, none⟩ (.int .i64 (64 + x))).drew.cell? ⟨zb, 3, none⟩ = some (.slice (some ⟨gb, go, none⟩) ol e3) := ⟨hf8.cell u1 (fun e => HNE.out.2.2 e.symm), hf8.cell u2 (fun e => HNE.out.2.2 e.symm), hf8.cell kg hgbg, hf8.cell z3 (fun e => HNE.out.2.1 e.symm)⟩
  clear hf8
  go_region_held3 (fun w' => w'.cell? ⟨ub, 1, none⟩ = some (.int .i64 an) ∧ w'.cell? ⟨ub, 2, none⟩ = some (.int .i64 bn) ∧ w'.cell? ⟨gb, go + bn, none⟩ = some (.int .i64 x) ∧ w'.cell? ⟨zb, 3, none⟩ = some (.slice (some ⟨gb, go, none⟩) ol e3)) (first | with_reducible exact hS | with_reducible exact hS8 | go_keep) (fail)
  all_goals
   go_upto_region 64 with fail
   rw [← HWX.out]
   clear kg
   have hrt : R = true := by rw [HRR.out]; first | done | (rfl)
   subst hrt
   have ho : OUT = K.set an (64 + x) := by rw [HOUT.out, HMM.out]; simp
   subst ho
   replace u0 := HMF.out.cell u0 (fun e => HNE.out.2.2 e.symm)
   replace u1 := HMF.out.cell u1 (fun e => HNE.out.2.2 e.symm)
   replace u2 := HMF.out.cell u2 (fun e => HNE.out.2.2 e.symm)
   replace u3 := HMF.out.cell u3 (fun e => HNE.out.2.2 e.symm)
   have hmb : Below w.heap.size w wX := HB5.out.trans (HMF.out.below HB5.out.size (fun q hq => by unfold onB at hq; have := HGB.out; omega))
   have HMB := Lib.hid hmb
   clear hmb
   try clear k0 k1 z1 z3
   go_wp2_with fail
   refine (wr_yes _ _ _ _ _ (by decide)).mono ?_
   rintro e w9 ⟨rfl, hb9⟩
   have HMO9 := Lib.hid (HMO.out.below hb9)
   have HMB9 := Lib.hid (HMB.out.trans (hb9.mono HMB.out.size))
   replace u0 := below_cell hb9 u0
   replace u2 := below_cell hb9 u2
   have HB9 := Lib.hid hb9
   clear u1 u3 hb9
   go_wp2_with fail
   go_ret2
   exact ⟨_, _, rfl, HMO9.out, HMB9.out⟩
 exact absurd HOP.out (by omega)
end Go.Proofs.YtjcjhfnjamphlaaGreat
