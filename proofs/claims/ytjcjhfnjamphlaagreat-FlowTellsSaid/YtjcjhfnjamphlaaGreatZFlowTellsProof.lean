import Derived.Test.YtjcjhfnjamphlaaGreatZBw
import Derived.Test.YtjcjhfnjamphlaaGreatZBx
import Derived.Test.YtjcjhfnjamphlaaGreatZAd
import Derived.Laws.Cover3
import Derived.Test.YtjcjhfnjamphlaaGreatZAs
import Derived.Test.YtjcjhfnjamphlaaGreatRows
set_option linter.unusedVariables false
set_option linter.unusedSimpArgs false
namespace Go.Proofs.YtjcjhfnjamphlaaGreat.flowTells
open Go.ChangeShapes Go.WideShapes Go.ChangeAt Go.RowKit Go.Maps
theorem mapsAt_fr {F : Nat → Prop} {w w' : World} {B mb b nm : Nat} {V : Nat → Prop} {C : Pl → Option (List Int)} (h : MapsAt w B mb b nm V C) (hf : Fr F w w') (h1 : ¬ F mb) (h2 : ¬ F b) (h3 : ∀ q, V q → ¬ F q) : MapsAt w' B mb b nm V C := by
 obtain ⟨a1, a2, a3, a4, a5⟩ := h
 exact ⟨hf.heap a1 h1, a2.fr hf h2 h3, a3, a4, fun q hq => ⟨(a5 q hq).1, Nat.lt_of_lt_of_le (a5 q hq).2 hf.size⟩⟩
theorem allM_16 {p : Prg} {n : Nat} {Ms : Nat → Flo} (hp : PrgFit p) (hn : n = p.funcs.length) (hms : ∀ i, i < n → IsFlow p (fnAt p i) (Ms i) ∧ (flowE p (fnAt p i) (Ms i)).1 = 0) : ∀ x K, allM n Ms x = some K → K.length ≤ 16 := fun x K hx => by
 unfold allM at hx
 split at hx
 next hx1 =>
  split at hx
  ·have h1 := (hms x.1.1.toNat (by omega)).1.1.len _ _ hx
   have h2 := hp.fn (fnAt p x.1.1.toNat) (by unfold fnAt; rw [List.getElem?_eq_getElem (by omega)]; exact List.getElem_mem _)
   have := h2.slots
   omega
  ·cases hx
 next => cases hx
theorem none_sl (w : World) (D : Nat → Prop) (a : Option Addr) : IntSl w D a [] := fun j hj => by cases hj
theorem neq_nil (a : Option Addr) (n c : Nat) : ∀ wx : World, (binOp .neq 22 (.slice a n c) (.slice none 0 0)).run Tryz.prog wx = .ok (.bool (!a.isNone)) wx := fun wx => run_neq_slice_nil (P := Tryz.prog) wx 22 3 a n c Tryz.underlying22
theorem bookAt_up {w : World} {p B S S' : Nat} (h : BookAt w p B S) (hs : S ≤ S') : BookAt w p B S' := by
 obtain ⟨v, v', X, Y, hs', ls, h1, h2, h3, h4, h5, h6, h7, h8, h9⟩ := h
 exact ⟨v, v', X, Y, hs', ls, h1, h2, h3, h4, h5, h6, h7, by omega, fun k hk => Nat.lt_of_lt_of_le (h9 k hk) hs⟩
theorem bits_down (b : Int → Bool) (K : List Int) {s x T : Nat} (h : T = bitsP b K (s + 1) + 2 ^ (s + 1) * x) : T = bitsP b K s + 2 ^ s * (2 * x + if b ((K[s]?).getD 0) then 1 else 0) := by
 rw [h]
 show bitsP b K s + _ + _ = _
 rw [Nat.pow_succ, Nat.mul_add, Nat.mul_assoc]
 split <;> omega
set_option maxRecDepth 100000 in
set_option maxHeartbeats 6400000 in
theorem walk (w : World) (v : Value) (hv : ∃ (pr : Prg) (c0 c1 c2 : Value), v = .agg #[c0, c1, c2] ∧ PrgVal w (fun k => k < w.heap.size) pr c0 c1 c2 ∧ PrgB pr) :
  Calls Tryz.prog 3 #[v] w fun e w' => e = .returned (.bool true) ∧ Below w.heap.size w w' := by
 obtain ⟨p, c0, c1, c2, rfl, hp, hpb⟩ := hv
 have hPP : ∀ wr, Below w.heap.size w wr → PrgVal wr (fun k => k < w.heap.size) p c0 c1 c2 := fun wr hb => hp.fr (Fr.of_below hb (fun _ => False)) (fun _ _ h => h)
 obtain ⟨⟨a0, m0, rfl, _⟩, ⟨a1, m1, rfl, _⟩, a2, m2, rfl, hfn⟩ := hp
 have hbx := fun wr h => box1 w #[.slice a0 p.globals.length m0, .slice a1 p.shapes.length m1, .slice a2 p.funcs.length m2] 26 wr h
 have hz0 : (w.alloc (.cells #[.slice a0 p.globals.length m0, .slice a1 p.shapes.length m1, .slice a2 p.funcs.length m2] 26)).heap.size = w.heap.size + 1 := by simp
 obtain ⟨W, hW⟩ : ∃ W, W = (w.alloc (.cells #[.slice a0 p.globals.length m0, .slice a1 p.shapes.length m1, .slice a2 p.funcs.length m2] 26)) := ⟨_, rfl⟩
 rw [← hW] at hbx hz0
 have hs : ∀ wr, Below W.heap.size W wr → wr.cell? ⟨w.heap.size, 0, none⟩ = some (.slice a0 p.globals.length m0) ∧ wr.cell? ⟨w.heap.size, 1, none⟩ = some (.slice a1 p.shapes.length m1) ∧ wr.cell? ⟨w.heap.size, 2, none⟩ = some (.slice a2 p.funcs.length m2) := fun wr h => by
  rw [hz0] at h
  have hb := hbx wr h
  exact ⟨hb.1 0 _ rfl, hb.1 1 _ rfl, hb.1 2 _ rfl⟩
 have hbw : ∀ wr, Below W.heap.size W wr → Below w.heap.size w wr := fun wr h => by rw [hz0] at h; exact (hbx wr h).2.1
 have hw0 := Below.refl W.heap.size W
 have al := alive12
 have sm := small_any W _ p _ _ _ (hPP W (hbw W hw0))
 obtain ⟨k0, k1, k2⟩ := hs W hw0
 have HW := Lib.hid hW
 clear hW hbx hz0
 by_cases hsm : bulk p ≤ 3000
 case neg =>
  rw [decide_eq_false hsm] at sm
  clear hPP hfn hs hpb hsm
  have AL := Lib.hid al; clear al
  have SM := Lib.hid sm; clear sm
  have HBW := Lib.hid hbw; clear hbw
  have HW0 := Lib.hid hw0; clear hw0
  go_enter Tryz.func3, Tryz.ntmps3
  go_upto_region 1 with fail
  rw [← HW.out]
  go_wp2_with fail
  refine SM.out.mono ?_
  rintro e w1 ⟨rfl, hb1⟩
  have HB1 := Lib.hid hb1; clear hb1 k0 k1 k2
  go_wp2_with fail
  refine (AL.out _).mono ?_
  rintro e w2 ⟨rfl, hb2⟩
  have HB2 := Lib.hid (HBW.out _ (HB1.out.trans (hb2.mono HB1.out.size))); clear hb2
  go_wp2_with fail
  go_ret
  exact ⟨rfl, HB2.out⟩
 rw [decide_eq_true hsm] at sm
 have hpr := prgR_small hsm
 have hfn : ∀ wr, Below W.heap.size W wr → FnSl wr (fun k => k < w.heap.size) a2 p.funcs := fun wr h => hfn.fr (Fr.of_below (hbw wr h) (fun _ => False)) (fun _ _ h => h)
 have fp := fun wr (h : Below W.heap.size W wr) => flowProg_any wr (fun k => k < w.heap.size) (fun k hk => Nat.lt_of_lt_of_le hk (hbw wr h).size) p _ _ _ (hPP wr (hbw wr h)) hpb hpr
 have vf := fun wr (h : Below W.heap.size W wr) => rverify_any wr (fun k => k < w.heap.size) (fun k hk => Nat.lt_of_lt_of_le hk (hbw wr h).size) p _ _ _ (hPP wr (hbw wr h)) hpb hpr
 clear hsm
 have AL := Lib.hid al; clear al
 have SM := Lib.hid sm; clear sm
 have HBW := Lib.hid hbw; clear hbw
 have HW0 := Lib.hid hw0; clear hw0
 have HS := Lib.hid hs; clear hs
 have HFN := Lib.hid hfn; clear hfn
 have FP := Lib.hid fp; clear fp
 have VF := Lib.hid vf; clear vf
 have HPP := Lib.hid hPP; clear hPP
 have HPB := Lib.hid hpb; clear hpb
 have HPR := Lib.hid hpr; clear hpr
 go_enter Tryz.func3, Tryz.ntmps3
 go_upto_region 1 with fail
 rw [← HW.out]
 go_wp2_with fail
 refine SM.out.mono ?_
 rintro e w1 ⟨rfl, hb1⟩
 have HB1 := Lib.hid hb1; clear hb1 k0 k1 k2
 go_wp2_with fail
 refine (AL.out _).mono ?_
 rintro e w2 ⟨rfl, hb2⟩
 have hb2 := HB1.out.trans (hb2.mono HB1.out.size)
 obtain ⟨k0, k1, k2⟩ := HS.out w2 hb2
 have HB2 := Lib.hid hb2
 clear hb2
 go_wp2_with fail
 refine (FP.out w2 HB2.out).mono ?_
 rintro e w3 ⟨hb3, hpr3⟩
 have hb3' := HB2.out.trans (hb3.mono HB2.out.size)
 obtain ⟨A, E, x, y, hae, hA⟩ : ∃ A E, ∃ x y : Nat, e = .returned (.tuple #[A, .int .i64 E, .agg #[.int .i64 x, .int .i64 y]]) ∧ ((A = .pointer none ∧ FlowErr p E x y) ∨ (E = 0 ∧ x = 0 ∧ y = 0 ∧ (progS p).1 = 0 ∧ ∃ Ms mb b nm V, A = .pointer (some ⟨mb, 0, none⟩) ∧ (∀ i, i < p.funcs.length → IsFlow p (fnAt p i) (Ms i) ∧ (flowE p (fnAt p i) (Ms i)).1 = 0) ∧ MapsAt w3 w2.heap.size mb b nm V (allM p.funcs.length Ms))) := by
  rcases hpr3 with ⟨E, ea, eb, h1, rfl⟩ | ⟨h0, Ms, mb, b, nm, V, hms, rfl, hmp⟩
  ·exact ⟨_, E, ea, eb, rfl, .inl ⟨rfl, h1⟩⟩
  ·exact ⟨_, 0, 0, 0, rfl, .inr ⟨rfl, rfl, rfl, h0, Ms, mb, b, nm, V, rfl, hms, hmp⟩⟩
 subst hae
 have HA := Lib.hid hA
 have hB4 := hb3'.alloc hb3'.size (.cells #[.int .i64 x, .int .i64 y] 32)
 have hr4 := heap_new w3 (.cells #[.int .i64 x, .int .i64 y] 32)
 have hb34 := (Below.refl w3.heap.size w3).alloc (Nat.le_refl _) (.cells #[.int .i64 x, .int .i64 y] 32)
 obtain ⟨zb, hzb⟩ : ∃ zb, zb = w3.heap.size := ⟨_, rfl⟩
 obtain ⟨w4, hw4⟩ : ∃ w4, w4 = w3.alloc (.cells #[.int .i64 x, .int .i64 y] 32) := ⟨_, rfl⟩
 rw [← hw4] at hB4 hr4 hb34
 rw [← hzb] at hr4
 have HZB := Lib.hid hzb
 have HW4 := Lib.hid hw4
 have HB4 := Lib.hid hB4
 have HR4 := Lib.hid hr4
 have HB34 := Lib.hid hb34
 clear hA hpr3 hb3 hb3' hB4 hr4 hb34 hzb hw4 k0 k1 k2
 obtain ⟨ptr, hptr⟩ : ∃ P, A = .pointer P := by
  rcases HA.out with ⟨h, _⟩ | ⟨_, _, _, _, _, mb, _, _, _, h, _⟩
  ·exact ⟨_, h⟩
  ·exact ⟨_, h⟩
 subst hptr
 go_upto_region 4 with fail
 rw [← HZB.out, ← HW4.out]
 obtain ⟨k0, k1, k2⟩ := HS.out w4 HB4.out
 go_wp2_with fail
 refine (VF.out w4 HB4.out).mono ?_
 rintro e w5 ⟨hb5, hv⟩
 have HB5 := Lib.hid (HB4.out.trans (hb5.mono HB4.out.size))
 have HR5 := Lib.hid ((Fr.of_below hb5 (fun _ => False)).heap HR4.out (fun h => h))
 have HB45 := Lib.hid hb5
 clear hb5 k0 k1 k2
 rcases hv with ⟨E2, x2, y2, h2, rfl⟩ | ⟨h0, Ms2, r, hms2, rfl, hvo⟩
 ·rcases HA.out with ⟨hp1, h1⟩ | ⟨_, _, _, h0', Ms, mb, b, nm, V, _, hms, _⟩
  ·obtain ⟨rfl, rfl, rfl⟩ := h1.uniq h2
   injection hp1 with hp1
   subst hp1
   have hE := h1.1
   have hE1 : (E != 0) = true := by simpa using hE
   have hE2 : (E == 0) = false := by simpa using hE
   have z0 : w5.cell? ⟨zb, 0, none⟩ = some (.int .i64 x) := (row_cell HR5.out 0).1
   have z1 : w5.cell? ⟨zb, 1, none⟩ = some (.int .i64 y) := (row_cell HR5.out 1).1
   have HBF := Lib.hid (HBW.out _ HB5.out)
   clear h1 h2 HA hE
   go_wp2_with fail
   go_ret
   exact ⟨rfl, HBF.out⟩
  ·exact (h2.not_ok h0' hms).elim
 rcases HA.out with ⟨hp1, h1⟩ | ⟨rfl, rfl, rfl, h0', Ms, mb, b, nm, V, hp1, hms, hmp⟩
 ·exact (h1.not_ok h0 hms2).elim
 injection hp1 with hp1
 subst hp1
 have hsame : ∀ i, i < p.funcs.length → Ms2 i = Ms i := fun i hi => flow_same (hms2 i hi).1 (hms i hi).1
 have z0 : w5.cell? ⟨zb, 0, none⟩ = some (.int .i64 0) := (row_cell HR5.out 0).1
 have z1 : w5.cell? ⟨zb, 1, none⟩ = some (.int .i64 0) := (row_cell HR5.out 1).1
 have hmp5 := (hmp.below HB34.out).below HB45.out
 have hfit := prgFit h0
 obtain ⟨hs, hvr⟩ := hvo
 obtain ⟨ra, rc, hrv, hrj⟩ := own_elems hvr.1
 subst hrv
 have HSAME := Lib.hid hsame
 have HMP := Lib.hid hmp5
 have HFIT := Lib.hid hfit
 have HMS := Lib.hid hms
 have HVR := Lib.hid hvr
 have HRJ := Lib.hid hrj
 have HLEN := Lib.hid hvr.2.1
 have HCL := Lib.hid (allM_len hfit rfl hms)
 have HC16 := Lib.hid (allM_16 hfit rfl hms)
 clear hsame hmp5 hmp hfit hms hvr hrj HA h0 h0' hms2
 rw [show hs.length = p.funcs.length from HLEN.out]
 have hr6 := heap_new w5 (.cells (bkRow (.slice none 0 0) (.slice none 0 0)) 45)
 have hb56 := (Below.refl w5.heap.size w5).alloc (Nat.le_refl _) (.cells (bkRow (.slice none 0 0) (.slice none 0 0)) 45)
 obtain ⟨kb, hkb⟩ : ∃ kb, kb = w5.heap.size := ⟨_, rfl⟩
 obtain ⟨w6, hw6⟩ : ∃ w6, w6 = w5.alloc (.cells (bkRow (.slice none 0 0) (.slice none 0 0)) 45) := ⟨_, rfl⟩
 have hz6 : w6.heap.size = kb + 1 := by rw [hw6, hkb]; simp
 rw [← hw6] at hr6 hb56
 rw [← hkb] at hr6
 have HMF := Lib.hid (show ∀ u, Fr (fun q => kb ≤ q) w6 u → MapsAt u w2.heap.size mb b nm V (allM p.funcs.length Ms) from fun u hu => by
  have h5 := HMP.out
  have hlt := heap_lt h5.1
  have hlb := h5.2.1.lt
  exact mapsAt_fr (h5.below hb56) hu (fun e => by omega) (fun e => by omega) (fun q hq e => by have := (h5.2.2.2.2 q hq).2; omega))
 have HRW := Lib.hid (show ∀ k (hk : k < p.funcs.length), ∃ rb, ra = some ⟨rb, 0, none⟩ ∧ ∃ b1 b2 V1, (∀ q, V1 q → q < kb) ∧ ∀ u, Fr (fun q => kb ≤ q) w6 u → u.cell? ⟨rb, k, none⟩ = some (.slice (some ⟨b1, 0, none⟩) (fnAt p k).code.length (fnAt p k).code.length) ∧ Rf u (fnAt p k).code.length b1 b2 V1 (Ms k) from fun k hk => by
  have hk' : k < hs.length := by rw [HLEN.out]; exact hk
  obtain ⟨rb, e, hob, hc⟩ := HRJ.out k hk'
  obtain ⟨b1, b2, V1, eh, hrf, a1, a2, a3⟩ := HVR.out.2.2 k hk'
  have hc0 := hc 0 hs[k].val rfl
  rw [eh] at hc0
  have hc0 : w5.cell? ⟨rb, k, none⟩ = some (.slice (some ⟨b1, 0, none⟩) (fnAt p k).code.length (fnAt p k).code.length) := by
   have e1 : k * rowsE.size + 0 = k := by show k * 1 + 0 = k; omega
   rw [e1] at hc0
   exact hc0
  have hlt := World.block_lt hc0
  dsimp only at hlt
  rw [HSAME.out k hk] at hrf
  refine ⟨rb, e, b1, b2, V1, fun q hq => by have := (hrf.v q hq).2.2; omega, fun u hu => ⟨hu.cell (below_cell hb56 hc0) (fun e => by dsimp only at e; omega), (hrf.below hb56).fr hu (fun e => by omega) (fun e => by omega) (fun q hq e => by have := (hrf.v q hq).2.2; omega)⟩⟩)
 have HB6 := Lib.hid (HB5.out.trans (hb56.mono HB5.out.size))
 have hbk6 := BookAt.made (p := kb) (B := kb) (S := w6.heap.size) hr6 (Nat.le_refl _) (by omega)
 have HBK6 := Lib.hid hbk6
 have HKB := Lib.hid hkb
 have HW6 := Lib.hid hw6
 have HZ6 := Lib.hid hz6
 have HWK := Lib.hid (show W.heap.size ≤ kb from by have := HB5.out.size; omega)
 clear hr6 hb56 hkb hw6 hz6 hbk6
 go_upto_region 10 with fail
 rw [← HKB.out, show w5.alloc (.cells #[.slice none 0 0, .slice none 0 0, .slice none 0 0, .slice none 0 0, .slice none 0 0, .slice none 0 0, .slice none 0 0, .slice none 0 0, .slice none 0 0, .slice none 0 0] 45) = w6 from HW6.out.symm]
 go_upto_region 11 with fail
 go_loopw [11] (fun i wr => ∃ k : Nat, k ≤ p.funcs.length ∧ i = .int .i64 k ∧ BookAt wr kb kb wr.heap.size ∧ Fr (fun q => kb ≤ q) w6 wr) (fun i _ => p.funcs.length - (intOf i).toNat)
 case atStart => exact ⟨0, Nat.zero_le _, rfl, HBK6.out, Fr.refl _ _⟩
 case round =>
  obtain ⟨k, hk, rfl, hbk, hfr⟩ := hrel
  by_cases hlt : k < p.funcs.length
  case neg =>
   have hkn : ¬ (k : Int) < (p.funcs.length : Int) := by omega
   have hI0 : i64B (p.funcs.length : Int) ∧ i64B (0 : Int) := ⟨⟨by omega, by have := HFIT.out.funcs2; omega⟩, ⟨by decide, by decide⟩⟩
   have hC0 : allM p.funcs.length Ms ⟨((p.funcs.length : Int), (0 : Int)), hI0⟩ = none := allM_out _ _ _ rfl
   have km := kindsM_any wr _ mb b nm V _ (HMF.out wr hfr) (p.funcs.length : Int) 0 hI0 HCL.out
   rw [hC0] at km
   have km : Calls Tryz.prog 8 #[.pointer (some ⟨mb, 0, none⟩), .int .i64 (p.funcs.length : Int), .int .i64 0] wr fun e w' => ∃ v, e = .returned v ∧ Own intE w' wr.heap.size v [] ∧ Below wr.heap.size wr w' := km
   have hkw : kb ≤ wr.heap.size := by have h1 := hfr.size; have h2 := HZ6.out; omega
   have ap := fun u (h : Below wr.heap.size wr u) => apartB_any u kb kb wr.heap.size (hbk.below h) (Nat.le_trans hkw h.size)
   have hbw6 : Below W.heap.size W wr := HB6.out.trans (hfr.below HB6.out.size (fun q hq => Nat.le_trans HWK.out hq))
   have kn := fun u => kindsN_any u 0 0
   have rn := fun u => reachedN_any u 0 0
   have pn := fun u => npointers_any u 0 0
   have ln := fun u => nplaces_any u 0 0
   have HKM := Lib.hid km
   have HAP := Lib.hid ap
   have HBW6 := Lib.hid hbw6
   have KN := Lib.hid kn
   have RN := Lib.hid rn
   have PN := Lib.hid pn
   have LN := Lib.hid ln
   clear km ap hbw6 kn rn pn ln hbk hfr hC0 hkw hk
   go_wp2_with fail
   refine (KN.out _).mono ?_
   rintro e w' ⟨rfl, rfl⟩
   go_wp2_with fail
   refine (RN.out _).mono ?_
   rintro e w' ⟨rfl, rfl⟩
   go_wp2_with fail
   refine (PN.out _).mono ?_
   rintro e w' ⟨rfl, rfl⟩
   go_wp2_with fail
   refine (LN.out _).mono ?_
   rintro e w' ⟨rfl, rfl⟩
   go_wp2_with fail
   refine HKM.out.mono ?_
   rintro e w8 ⟨v8, rfl, ho8, hb8⟩
   obtain ⟨va, vc, hv8, _⟩ := own_int ho8
   subst hv8
   have ap8 := HAP.out w8 hb8
   have HAP8 := Lib.hid ap8
   have HB8 := Lib.hid (HBW6.out.trans (hb8.mono HBW6.out.size))
   clear ap8 ho8 hb8
   go_wp2_with fail
   refine HAP8.out.mono ?_
   rintro e w9 ⟨rfl, hb9⟩
   have HBE := Lib.hid (HBW.out _ (HB8.out.trans (hb9.mono HWK.out)))
   clear hb9
   go_wp2_with fail
   go_ret
   exact ⟨rfl, HBE.out⟩
  have hklt : (k : Int) < (p.funcs.length : Int) := by omega
  have hk16 : k < 16 := by have := HFIT.out.funcs2; omega
  obtain ⟨rb, rfl, b1, b2, V1, hv1, hrow⟩ := HRW.out k hlt
  have HV1 := Lib.hid hv1
  clear hv1
  have hff := HFIT.out.fn (fnAt p k) (by unfold fnAt; rw [List.getElem?_eq_getElem hlt]; exact List.getElem_mem _)
  have hflow := (HMS.out k hlt).1
  have hN64 := hff.code2
  obtain ⟨N, hN⟩ : ∃ N, N = (fnAt p k).code.length := ⟨_, rfl⟩
  rw [← hN] at hrow hN64
  have i1 : IntKind.i64.wrap ((k : Int) + 1) = (k : Int) + 1 := IntWalk.i64_in _ (by omega)
  have HII := Lib.hid i1
  have HROW := Lib.hid hrow
  have HFLOW := Lib.hid hflow
  have HN := Lib.hid hN
  have HN64 := Lib.hid hN64
  have HFR0 := Lib.hid hfr
  have HBK0 := Lib.hid hbk
  have HLT := Lib.hid hlt
  have HK16 := Lib.hid hk16
  have HFF := Lib.hid hff
  obtain ⟨r0, _⟩ := hrow wr hfr
  clear hrow hflow hN hN64 hfr hbk hlt hk16 hff i1
  go_upto_region 14 with fail
  clear r0
  go_loopw [12] (fun i wr => ∃ j : Nat, j ≤ N + 2 ∧ i = .int .i64 ((j : Int) - 1) ∧ BookAt wr kb kb wr.heap.size ∧ Fr (fun q => kb ≤ q) w6 wr) (fun i _ => N + 2 - (intOf i + 1).toNat)
  case atStart => exact ⟨0, Nat.zero_le _, rfl, HBK0.out, HFR0.out⟩
  case round =>
   obtain ⟨j, hj, rfl, hbk, hfr⟩ := hrel
   obtain ⟨r0, hrf⟩ := HROW.out wr hfr
   by_cases hjl : j ≤ N + 1
   case neg =>
    have hje : j = N + 2 := by omega
    have hjn : ¬ (j : Int) - 1 ≤ (N : Int) := by omega
    have i1 := HII.out
    have HBK := Lib.hid hbk
    have HFR := Lib.hid hfr
    clear hbk hfr hrf hje hj
    go_wp2_with fail
    go_roundw
    case rel => exact ⟨k + 1, HLT.out, by go_num, HBK.out, HFR.out⟩
    case measure => simp [intOf]; omega
   obtain ⟨pv, hpv⟩ : ∃ pv, pv = (j : Int) - 1 := ⟨_, rfl⟩
   rw [← hpv]
   have hjle : pv ≤ (N : Int) := by omega
   have i2 : IntKind.i64.wrap (pv + 1) = (j : Int) := by rw [IntWalk.i64_in _ (by have := HN64.out; omega)]; omega
   have hI : i64B (k : Int) ∧ i64B pv := ⟨⟨by omega, by have := HK16.out; omega⟩, ⟨by omega, by have := HN64.out; omega⟩⟩
   have HI2 := Lib.hid i2
   have HJL := Lib.hid hjl
   have HPV := Lib.hid hpv
   clear i2 hpv hj
   by_cases hneg : 0 ≤ pv
   case neg =>
    have hC : allM p.funcs.length Ms ⟨((k : Int), pv), hI⟩ = none := by
     unfold allM
     dsimp only
     have := HLT.out
     rw [if_pos (by omega), if_neg (by omega)]
    have km := kindsM_any wr _ mb b nm V _ (HMF.out wr hfr) k pv hI HCL.out
    rw [hC] at km
    have km : Calls Tryz.prog 8 #[.pointer (some ⟨mb, 0, none⟩), .int .i64 k, .int .i64 pv] wr fun e w' => ∃ v, e = .returned v ∧ Own intE w' wr.heap.size v [] ∧ Below wr.heap.size wr w' := km
    have HKM := Lib.hid km
    have HBK := Lib.hid hbk
    have HFR := Lib.hid hfr
    have HHC := Lib.hid hC
    clear km hbk hfr hC hrf
    go_wp2_with fail
    refine HKM.out.mono ?_
    rintro e w8 ⟨v8, rfl, ho8, hb8⟩
    obtain ⟨va, vc, hv8, _⟩ := own_int ho8
    subst hv8
    have kp := keep_any w8 kb kb wr.heap.size (HBK.out.below hb8) hb8.size va [] vc (ho8.base (fun q hq => by have h1 := (ho8.lt hq).1; have h2 := HFR.out.size; have h3 := HZ6.out; omega)) (fun q hq => (ho8.lt hq).1) (by decide)
    have HKP := Lib.hid kp
    have HFR8 := Lib.hid (HFR.out.trans (Fr.of_below hb8 (fun q => kb ≤ q)) (fun _ _ h => h))
    clear kp ho8 hb8 r0
    go_wp2_with fail
    refine HKP.out.mono ?_
    rintro e w9 ⟨rfl, hbk9, hf9⟩
    have hfr9 : Fr (fun q => kb ≤ q) w6 w9 := HFR8.out.trans hf9 (fun q _ h => h.1)
    have HBK9 := Lib.hid hbk9
    have HFR9 := Lib.hid hfr9
    have rm := reachedM_any w9 _ mb b nm V _ (HMF.out w9 hfr9) k pv hI
    rw [HHC.out] at rm
    have rm : Calls Tryz.prog 12 #[.pointer (some ⟨mb, 0, none⟩), .int .i64 k, .int .i64 pv] w9 fun e w' => e = .returned (.bool false) ∧ w9 = w' := rm
    have sm := sameInts_any w9 _ _ va none [] [] vc 0 (none_sl w9 (fun _ => False) va) (none_sl w9 (fun _ => False) none) (by decide) (by decide)
    rw [show decide (([] : List Int) = []) = true from rfl] at sm
    have sm : Calls Tryz.prog 13 #[.slice va 0 vc, .slice none 0 0] w9 fun e w' => e = .returned (.bool true) ∧ ∃ n, w' = w9.drewN n := sm
    have pm := fun u hu => mpointers_any u _ mb b nm V _ (HMF.out u hu) k pv hI HC16.out
    have lm := fun u hu => mplaces_any u _ mb b nm V _ (HMF.out u hu) k pv hI HC16.out
    rw [HHC.out] at pm lm
    have pm : ∀ u, Fr (fun q => kb ≤ q) w6 u → Calls Tryz.prog 14 #[.pointer (some ⟨mb, 0, none⟩), .int .i64 k, .int .i64 pv] u fun e w' => e = .returned (.int .u16 0) ∧ Below u.heap.size u w' := pm
    have lm : ∀ u, Fr (fun q => kb ≤ q) w6 u → Calls Tryz.prog 15 #[.pointer (some ⟨mb, 0, none⟩), .int .i64 k, .int .i64 pv] u fun e w' => e = .returned (.int .u16 0) ∧ Below u.heap.size u w' := lm
    have RM := Lib.hid rm
    have SMM := Lib.hid sm
    have PM := Lib.hid pm
    have LM := Lib.hid lm
    clear rm sm pm lm hbk9 hf9 hfr9
    go_upto_region 24 with fail
    go_loopw [16, 17, 18] (fun x y z wr => x = .int .i64 0 ∧ y = .int .i64 0 ∧ z = .int .i64 (-1) ∧ wr = w9) (fun _ _ _ _ => 0)
    case atStart => exact ⟨rfl, rfl, rfl, rfl⟩
    case round =>
     obtain ⟨rfl, rfl, rfl, rfl⟩ := hrel
     go_wp2_with fail
     refine RM.out.mono ?_
     rintro e w' ⟨rfl, rfl⟩
     go_wp2_with fail
     refine SMM.out.mono ?_
     rintro e w10 ⟨rfl, n10, rfl⟩
     have HFR10 := Lib.hid (HFR9.out.drewN n10)
     go_wp2_with fail
     refine (PM.out _ HFR10.out).mono ?_
     rintro e w11 ⟨rfl, hb11⟩
     have HFR11 := Lib.hid (HFR10.out.trans (Fr.of_below hb11 (fun q => kb ≤ q)) (fun _ _ h => h))
     have HSZ11 := Lib.hid hb11.size
     have HBK11 := Lib.hid ((HBK9.out.below (below_drewN (Below.refl _ _) n10)).below hb11)
     clear hb11
     go_wp2_with fail
     refine (LM.out _ HFR11.out).mono ?_
     rintro e w12 ⟨rfl, hb12⟩
     have HFR12 := Lib.hid (HFR11.out.trans (Fr.of_below hb12 (fun q => kb ≤ q)) (fun _ _ h => h))
     have hbk12 := HBK11.out.below hb12
     have HSZ12 := Lib.hid (Nat.le_trans HSZ11.out hb12.size)
     have HBK12 := Lib.hid hbk12
     clear hb12 hbk12
     have i2 := HI2.out
     go_wp2_with fail
     go_roundw
     case rel => exact ⟨j + 1, by have := HJL.out; omega, by rw [show (((j + 1 : Nat) : Int) - 1) = (j : Int) from by omega], bookAt_up HBK12.out HSZ12.out, HFR12.out⟩
     case measure => have h1 := HPV.out; have h2 := HJL.out; simp [intOf]; omega
   obtain ⟨q, rfl⟩ : ∃ q : Nat, pv = q := ⟨pv.toNat, by omega⟩
   by_cases hqN : q < N
   case neg =>
    have hC : allM p.funcs.length Ms ⟨((k : Int), (q : Int)), hI⟩ = none := by
     rw [allM_at HLT.out q hI]
     cases h : Ms k q with
     | none => rfl
     | some K => have h1 := (HFLOW.out.1.len q K h).1; have h2 := HN.out; omega
    have hqn : ¬ (q : Int) < (N : Int) := by omega
    have km := kindsM_any wr _ mb b nm V _ (HMF.out wr hfr) k (q : Int) hI HCL.out
    rw [hC] at km
    have km : Calls Tryz.prog 8 #[.pointer (some ⟨mb, 0, none⟩), .int .i64 k, .int .i64 (q : Int)] wr fun e w' => ∃ v, e = .returned v ∧ Own intE w' wr.heap.size v [] ∧ Below wr.heap.size wr w' := km
    have HKM := Lib.hid km
    have HBK := Lib.hid hbk
    have HFR := Lib.hid hfr
    have HHC := Lib.hid hC
    clear km hbk hfr hC hrf
    go_wp2_with fail
    refine HKM.out.mono ?_
    rintro e w8 ⟨v8, rfl, ho8, hb8⟩
    obtain ⟨va, vc, hv8, _⟩ := own_int ho8
    subst hv8
    have kp := keep_any w8 kb kb wr.heap.size (HBK.out.below hb8) hb8.size va [] vc (ho8.base (fun q hq => by have h1 := (ho8.lt hq).1; have h2 := HFR.out.size; have h3 := HZ6.out; omega)) (fun q hq => (ho8.lt hq).1) (by decide)
    have HKP := Lib.hid kp
    have HFR8 := Lib.hid (HFR.out.trans (Fr.of_below hb8 (fun q => kb ≤ q)) (fun _ _ h => h))
    clear kp ho8 hb8 r0
    go_wp2_with fail
    refine HKP.out.mono ?_
    rintro e w9 ⟨rfl, hbk9, hf9⟩
    have hfr9 : Fr (fun q => kb ≤ q) w6 w9 := HFR8.out.trans hf9 (fun q _ h => h.1)
    have HBK9 := Lib.hid hbk9
    have HFR9 := Lib.hid hfr9
    have rm := reachedM_any w9 _ mb b nm V _ (HMF.out w9 hfr9) k (q : Int) hI
    rw [HHC.out] at rm
    have rm : Calls Tryz.prog 12 #[.pointer (some ⟨mb, 0, none⟩), .int .i64 k, .int .i64 (q : Int)] w9 fun e w' => e = .returned (.bool false) ∧ w9 = w' := rm
    have sm := sameInts_any w9 _ _ va none [] [] vc 0 (none_sl w9 (fun _ => False) va) (none_sl w9 (fun _ => False) none) (by decide) (by decide)
    rw [show decide (([] : List Int) = []) = true from rfl] at sm
    have sm : Calls Tryz.prog 13 #[.slice va 0 vc, .slice none 0 0] w9 fun e w' => e = .returned (.bool true) ∧ ∃ n, w' = w9.drewN n := sm
    have pm := fun u hu => mpointers_any u _ mb b nm V _ (HMF.out u hu) k (q : Int) hI HC16.out
    have lm := fun u hu => mplaces_any u _ mb b nm V _ (HMF.out u hu) k (q : Int) hI HC16.out
    rw [HHC.out] at pm lm
    have pm : ∀ u, Fr (fun q => kb ≤ q) w6 u → Calls Tryz.prog 14 #[.pointer (some ⟨mb, 0, none⟩), .int .i64 k, .int .i64 (q : Int)] u fun e w' => e = .returned (.int .u16 0) ∧ Below u.heap.size u w' := pm
    have lm : ∀ u, Fr (fun q => kb ≤ q) w6 u → Calls Tryz.prog 15 #[.pointer (some ⟨mb, 0, none⟩), .int .i64 k, .int .i64 (q : Int)] u fun e w' => e = .returned (.int .u16 0) ∧ Below u.heap.size u w' := lm
    have RM := Lib.hid rm
    have SMM := Lib.hid sm
    have PM := Lib.hid pm
    have LM := Lib.hid lm
    clear rm sm pm lm hbk9 hf9 hfr9
    go_upto_region 24 with fail
    go_loopw [16, 17, 18] (fun x y z wr => x = .int .i64 0 ∧ y = .int .i64 0 ∧ z = .int .i64 (-1) ∧ wr = w9) (fun _ _ _ _ => 0)
    case atStart => exact ⟨rfl, rfl, rfl, rfl⟩
    case round =>
     obtain ⟨rfl, rfl, rfl, rfl⟩ := hrel
     go_wp2_with fail
     refine RM.out.mono ?_
     rintro e w' ⟨rfl, rfl⟩
     go_wp2_with fail
     refine SMM.out.mono ?_
     rintro e w10 ⟨rfl, n10, rfl⟩
     have HFR10 := Lib.hid (HFR9.out.drewN n10)
     go_wp2_with fail
     refine (PM.out _ HFR10.out).mono ?_
     rintro e w11 ⟨rfl, hb11⟩
     have HFR11 := Lib.hid (HFR10.out.trans (Fr.of_below hb11 (fun q => kb ≤ q)) (fun _ _ h => h))
     have HSZ11 := Lib.hid hb11.size
     have HBK11 := Lib.hid ((HBK9.out.below (below_drewN (Below.refl _ _) n10)).below hb11)
     clear hb11
     go_wp2_with fail
     refine (LM.out _ HFR11.out).mono ?_
     rintro e w12 ⟨rfl, hb12⟩
     have HFR12 := Lib.hid (HFR11.out.trans (Fr.of_below hb12 (fun q => kb ≤ q)) (fun _ _ h => h))
     have hbk12 := HBK11.out.below hb12
     have HSZ12 := Lib.hid (Nat.le_trans HSZ11.out hb12.size)
     have HBK12 := Lib.hid hbk12
     clear hb12 hbk12
     have i2 := HI2.out
     go_wp2_with fail
     go_roundw
     case rel => exact ⟨j + 1, by have := HJL.out; omega, by rw [show (((j + 1 : Nat) : Int) - 1) = (j : Int) from by omega], bookAt_up HBK12.out HSZ12.out, HFR12.out⟩
     case measure => have h1 := HPV.out; have h2 := HJL.out; simp [intOf]; omega
   have hqlt : (q : Int) < (N : Int) := by omega
   obtain ⟨ca, cn, cc, c1, _, c3, c4⟩ := hrf.cell hqN
   cases hM : Ms k q with
   | none =>
    have hC : allM p.funcs.length Ms ⟨((k : Int), (q : Int)), hI⟩ = none := by rw [allM_at HLT.out q hI, hM]
    obtain ⟨rfl, rfl, rfl⟩ := c3 hM
    clear c3 c4 hM
    have hneq := neq_nil none 0 0
    have hneq : ∀ wx : World, (binOp .neq 22 (.slice none 0 0) (.slice none 0 0)).run Tryz.prog wx = .ok (.bool false) wx := hneq
    have km := kindsM_any wr _ mb b nm V _ (HMF.out wr hfr) k (q : Int) hI HCL.out
    rw [hC] at km
    have km : Calls Tryz.prog 8 #[.pointer (some ⟨mb, 0, none⟩), .int .i64 k, .int .i64 (q : Int)] wr fun e w' => ∃ v, e = .returned v ∧ Own intE w' wr.heap.size v [] ∧ Below wr.heap.size wr w' := km
    have HKM := Lib.hid km
    have HBK := Lib.hid hbk
    have HFR := Lib.hid hfr
    have HHC := Lib.hid hC
    clear km hbk hfr hC hrf
    go_wp2_with fail
    refine HKM.out.mono ?_
    rintro e w8 ⟨v8, rfl, ho8, hb8⟩
    obtain ⟨va, vc, hv8, _⟩ := own_int ho8
    subst hv8
    have kp := keep_any w8 kb kb wr.heap.size (HBK.out.below hb8) hb8.size va [] vc (ho8.base (fun q hq => by have h1 := (ho8.lt hq).1; have h2 := HFR.out.size; have h3 := HZ6.out; omega)) (fun q hq => (ho8.lt hq).1) (by decide)
    have HKP := Lib.hid kp
    have HFR8 := Lib.hid (HFR.out.trans (Fr.of_below hb8 (fun q => kb ≤ q)) (fun _ _ h => h))
    clear kp ho8 hb8 r0
    go_wp2_with fail
    refine HKP.out.mono ?_
    rintro e w9 ⟨rfl, hbk9, hf9⟩
    have hfr9 : Fr (fun q => kb ≤ q) w6 w9 := HFR8.out.trans hf9 (fun q _ h => h.1)
    have HBK9 := Lib.hid hbk9
    have HFR9 := Lib.hid hfr9
    have rm := reachedM_any w9 _ mb b nm V _ (HMF.out w9 hfr9) k (q : Int) hI
    rw [HHC.out] at rm
    have rm : Calls Tryz.prog 12 #[.pointer (some ⟨mb, 0, none⟩), .int .i64 k, .int .i64 (q : Int)] w9 fun e w' => e = .returned (.bool false) ∧ w9 = w' := rm
    have sm := sameInts_any w9 _ _ va none [] [] vc 0 (none_sl w9 (fun _ => False) va) (none_sl w9 (fun _ => False) none) (by decide) (by decide)
    rw [show decide (([] : List Int) = []) = true from rfl] at sm
    have sm : Calls Tryz.prog 13 #[.slice va 0 vc, .slice none 0 0] w9 fun e w' => e = .returned (.bool true) ∧ ∃ n, w' = w9.drewN n := sm
    have pm := fun u hu => mpointers_any u _ mb b nm V _ (HMF.out u hu) k (q : Int) hI HC16.out
    have lm := fun u hu => mplaces_any u _ mb b nm V _ (HMF.out u hu) k (q : Int) hI HC16.out
    rw [HHC.out] at pm lm
    have pm : ∀ u, Fr (fun q => kb ≤ q) w6 u → Calls Tryz.prog 14 #[.pointer (some ⟨mb, 0, none⟩), .int .i64 k, .int .i64 (q : Int)] u fun e w' => e = .returned (.int .u16 0) ∧ Below u.heap.size u w' := pm
    have lm : ∀ u, Fr (fun q => kb ≤ q) w6 u → Calls Tryz.prog 15 #[.pointer (some ⟨mb, 0, none⟩), .int .i64 k, .int .i64 (q : Int)] u fun e w' => e = .returned (.int .u16 0) ∧ Below u.heap.size u w' := lm
    have RM := Lib.hid rm
    have SMM := Lib.hid sm
    have PM := Lib.hid pm
    have LM := Lib.hid lm
    clear rm sm pm lm hbk9 hf9 hfr9
    go_upto_region 24 with fail
    go_loopw [16, 17, 18] (fun x y z wr => x = .int .i64 0 ∧ y = .int .i64 0 ∧ z = .int .i64 (-1) ∧ wr = w9) (fun _ _ _ _ => 0)
    case atStart => exact ⟨rfl, rfl, rfl, rfl⟩
    case round =>
     obtain ⟨rfl, rfl, rfl, rfl⟩ := hrel
     go_wp2_with fail
     refine RM.out.mono ?_
     rintro e w' ⟨rfl, rfl⟩
     go_wp2_with fail
     refine SMM.out.mono ?_
     rintro e w10 ⟨rfl, n10, rfl⟩
     have HFR10 := Lib.hid (HFR9.out.drewN n10)
     go_wp2_with fail
     refine (PM.out _ HFR10.out).mono ?_
     rintro e w11 ⟨rfl, hb11⟩
     have HFR11 := Lib.hid (HFR10.out.trans (Fr.of_below hb11 (fun q => kb ≤ q)) (fun _ _ h => h))
     have HSZ11 := Lib.hid hb11.size
     have HBK11 := Lib.hid ((HBK9.out.below (below_drewN (Below.refl _ _) n10)).below hb11)
     clear hb11
     go_wp2_with fail
     refine (LM.out _ HFR11.out).mono ?_
     rintro e w12 ⟨rfl, hb12⟩
     have HFR12 := Lib.hid (HFR11.out.trans (Fr.of_below hb12 (fun q => kb ≤ q)) (fun _ _ h => h))
     have hbk12 := HBK11.out.below hb12
     have HSZ12 := Lib.hid (Nat.le_trans HSZ11.out hb12.size)
     have HBK12 := Lib.hid hbk12
     clear hb12 hbk12
     have i2 := HI2.out
     go_wp2_with fail
     go_roundw
     case rel => exact ⟨j + 1, by have := HJL.out; omega, by rw [show (((j + 1 : Nat) : Int) - 1) = (j : Int) from by omega], bookAt_up HBK12.out HSZ12.out, HFR12.out⟩
     case measure => have h1 := HPV.out; have h2 := HJL.out; simp [intOf]; omega
   | some K =>
    have hC : allM p.funcs.length Ms ⟨((k : Int), (q : Int)), hI⟩ = some K := by rw [allM_at HLT.out q hI, hM]
    obtain ⟨hcn, hks, hsm⟩ := c4 K hM
    subst hcn
    obtain ⟨a', ha'⟩ := Option.isSome_iff_exists.1 hsm
    subst ha'
    have hneq := neq_nil (some a') K.length cc
    have hneq : ∀ wx : World, (binOp .neq 22 (.slice (some a') K.length cc) (.slice none 0 0)).run Tryz.prog wx = .ok (.bool true) wx := hneq
    have hK16 : K.length ≤ 16 := HC16.out _ K hC
    have km := kindsM_any wr _ mb b nm V _ (HMF.out wr hfr) k (q : Int) hI HCL.out
    rw [hC] at km
    have km : Calls Tryz.prog 8 #[.pointer (some ⟨mb, 0, none⟩), .int .i64 k, .int .i64 (q : Int)] wr fun e w' => ∃ v, e = .returned v ∧ Own intE w' wr.heap.size v K ∧ Below wr.heap.size wr w' := km
    have HKM := Lib.hid km
    have HBK := Lib.hid hbk
    have HFR := Lib.hid hfr
    have HHC := Lib.hid hC
    have HKS := Lib.hid hks
    have HK16 := Lib.hid hK16
    have hapos : (some a' : Option Addr) ≠ none := by simp
    clear km hbk hfr hC hrf hks hK16 hM c3 c4 hsm
    go_wp2_with fail
    refine HKM.out.mono ?_
    rintro e w8 ⟨v8, rfl, ho8, hb8⟩
    obtain ⟨va, vc, hv8, hs8⟩ := own_int ho8
    subst hv8
    have kp := keep_any w8 kb kb wr.heap.size (HBK.out.below hb8) hb8.size va K vc (ho8.base (fun q hq => by have h1 := (ho8.lt hq).1; have h2 := HFR.out.size; have h3 := HZ6.out; omega)) (fun q hq => (ho8.lt hq).1) (by have := HK16.out; omega)
    have HKP := Lib.hid kp
    have HFR8 := Lib.hid (HFR.out.trans (Fr.of_below hb8 (fun q => kb ≤ q)) (fun _ _ h => h))
    have HS8 := Lib.hid (hs8.wide (D' := fun q => wr.heap.size ≤ q) (fun q hq => (ho8.lt hq).1))
    have HW8 := Lib.hid ((HKS.out.fr (Fr.of_below hb8 (fun _ => False)) (fun _ _ h => h)).wide (D' := fun q => q < kb) (fun q hq => HV1.out q hq))
    clear kp ho8 hb8 r0 hs8 c1
    go_wp2_with fail
    refine HKP.out.mono ?_
    rintro e w9 ⟨rfl, hbk9, hf9⟩
    have hfr9 : Fr (fun q => kb ≤ q) w6 w9 := HFR8.out.trans hf9 (fun q _ h => h.1)
    have hs9 := HS8.out.fr hf9 (fun q hq e => by omega)
    have hw9 := HW8.out.fr hf9 (fun q hq e => by omega)
    have HBK9 := Lib.hid hbk9
    have HFR9 := Lib.hid hfr9
    have HS9 := Lib.hid hs9
    have HW9 := Lib.hid hw9
    have rm := fun u hu => reachedM_any u _ mb b nm V _ (HMF.out u hu) k (q : Int) hI
    rw [HHC.out] at rm
    have rm : ∀ u, Fr (fun q => kb ≤ q) w6 u → Calls Tryz.prog 12 #[.pointer (some ⟨mb, 0, none⟩), .int .i64 k, .int .i64 (q : Int)] u fun e w' => e = .returned (.bool true) ∧ u = w' := rm
    have pm := fun u hu => mpointers_any u _ mb b nm V _ (HMF.out u hu) k (q : Int) hI HC16.out
    have lm := fun u hu => mplaces_any u _ mb b nm V _ (HMF.out u hu) k (q : Int) hI HC16.out
    rw [HHC.out] at pm lm
    obtain ⟨BP, hBP⟩ : ∃ x, x = bitsP isPtrB K K.length := ⟨_, rfl⟩
    obtain ⟨BL, hBL⟩ : ∃ x, x = bitsP isLocB K K.length := ⟨_, rfl⟩
    have pm : ∀ u, Fr (fun q => kb ≤ q) w6 u → Calls Tryz.prog 14 #[.pointer (some ⟨mb, 0, none⟩), .int .i64 k, .int .i64 (q : Int)] u fun e w' => e = .returned (.int .u16 BP) ∧ Below u.heap.size u w' := by rw [hBP]; exact pm
    have lm : ∀ u, Fr (fun q => kb ≤ q) w6 u → Calls Tryz.prog 15 #[.pointer (some ⟨mb, 0, none⟩), .int .i64 k, .int .i64 (q : Int)] u fun e w' => e = .returned (.int .u16 BL) ∧ Below u.heap.size u w' := by rw [hBL]; exact lm
    have hp16 : 2 ^ K.length ≤ 2 ^ 16 := Nat.pow_le_pow_right (by decide) HK16.out
    have h16 : (2 : Nat) ^ 16 = 65536 := by decide
    have hpl : BP < 65536 := by have := bitsP_lt isPtrB K K.length; omega
    have hll : BL < 65536 := by have := bitsP_lt isLocB K K.length; omega
    have HBP := Lib.hid hBP
    have HBL := Lib.hid hBL
    have HPL := Lib.hid hpl
    have HLL := Lib.hid hll
    have RM := Lib.hid rm
    have PM := Lib.hid pm
    have LM := Lib.hid lm
    have iw : IntKind.i64.wrap ((K.length : Int) - 1) = (K.length : Int) - 1 := IntWalk.i64_in _ (by have := HK16.out; omega)
    clear rm pm lm hbk9 hf9 hfr9 hs9 hw9 hp16 h16 hpl hll hBP hBL
    go_upto_region 24 with fail
    clear iw
    go_loopw [16, 17, 18] (fun x y z wr => ∃ s xn yn : Nat, s ≤ K.length ∧ z = .int .i64 ((s : Int) - 1) ∧ x = .int .i64 xn ∧ y = .int .i64 yn ∧ BP = bitsP isPtrB K s + 2 ^ s * xn ∧ BL = bitsP isLocB K s + 2 ^ s * yn ∧ Below w9.heap.size w9 wr) (fun _ _ z _ => (intOf z + 1).toNat)
    case atStart => exact ⟨K.length, 0, 0, Nat.le_refl _, rfl, rfl, rfl, by rw [HBP.out]; simp, by rw [HBL.out]; simp, Below.refl _ _⟩
    case round =>
     obtain ⟨s, xn, yn, hs, rfl, rfl, rfl, hxe, hye, hbr⟩ := hrel
     cases s with
     | zero =>
      have hx0 : xn = BP := by rw [hxe]; simp [bitsP]
      have hy0 : yn = BL := by rw [hye]; simp [bitsP]
      rw [hx0, hy0, show (((0 : Nat) : Int) - 1) = -1 from rfl]
      have hfr10 := HFR9.out.trans (Fr.of_below hbr (fun q => kb ≤ q)) (fun _ _ h => h)
      have sm := sameInts_any wr _ _ va (some a') K K vc cc (HS9.out.fr (Fr.of_below hbr (fun _ => False)) (fun _ _ h => h)) (HW9.out.fr (Fr.of_below hbr (fun _ => False)) (fun _ _ h => h)) (by have := HK16.out; omega) (by have := HK16.out; omega)
      rw [show decide (K = K) = true from by simp] at sm
      have SMM := Lib.hid sm
      have HFRA := Lib.hid hfr10
      have HBKA := Lib.hid (HBK9.out.below hbr)
      have HSZA := Lib.hid hbr.size
      have ib : IntKind.i64.wrap (BP : Int) = (BP : Int) := IntWalk.i64_in _ (by have := HPL.out; omega)
      have il : IntKind.i64.wrap (BL : Int) = (BL : Int) := IntWalk.i64_in _ (by have := HLL.out; omega)
      clear sm hfr10 hbr hx0 hy0 hxe hye hs
      go_wp2_with fail
      refine (RM.out _ HFRA.out).mono ?_
      rintro e w' ⟨rfl, rfl⟩
      go_wp2_with fail
      refine SMM.out.mono ?_
      rintro e w10 ⟨rfl, n10, rfl⟩
      have HFR10 := Lib.hid (HFRA.out.drewN n10)
      go_wp2_with fail
      refine (PM.out _ HFR10.out).mono ?_
      rintro e w11 ⟨rfl, hb11⟩
      have HFR11 := Lib.hid (HFR10.out.trans (Fr.of_below hb11 (fun q => kb ≤ q)) (fun _ _ h => h))
      have HSZ11 := Lib.hid (Nat.le_trans HSZA.out hb11.size)
      have HBK11 := Lib.hid ((HBKA.out.below (below_drewN (Below.refl _ _) n10)).below hb11)
      clear hb11
      go_wp2_with fail
      refine (LM.out _ HFR11.out).mono ?_
      rintro e w12 ⟨rfl, hb12⟩
      have HFR12 := Lib.hid (HFR11.out.trans (Fr.of_below hb12 (fun q => kb ≤ q)) (fun _ _ h => h))
      have hbk12 := HBK11.out.below hb12
      have HSZ12 := Lib.hid (Nat.le_trans HSZ11.out hb12.size)
      have HBK12 := Lib.hid hbk12
      clear hb12 hbk12
      have i2 := HI2.out
      go_wp2_with fail
      go_roundw
      case rel => exact ⟨j + 1, by have := HJL.out; omega, by rw [show (((j + 1 : Nat) : Int) - 1) = (j : Int) from by omega], bookAt_up HBK12.out HSZ12.out, HFR12.out⟩
      case measure => have h1 := HPV.out; have h2 := HJL.out; simp [intOf]; omega
     | succ s =>
      rw [show (((s + 1 : Nat) : Int) - 1) = (s : Int) from by omega]
      have hsl : s < K.length := by omega
      have hslt : (s : Int) < (K.length : Int) := by omega
      have hs0 : ¬ (s : Int) < 0 := by omega
      have hs0' : (0 : Int) ≤ (s : Int) := by omega
      obtain ⟨wb, wo', ewa, _, kx⟩ := HW9.out s hsl
      injection ewa with ewa
      subst ewa
      replace kx := below_cell hbr kx
      have hxd := bits_down isPtrB K hxe
      have hyd := bits_down isLocB K hye
      rw [show (K[s]?).getD 0 = K[s] from by simp [hsl]] at hxd hyd
      have hbx : 2 ^ (s + 1) * xn ≤ BP := by omega
      have hby : 2 ^ (s + 1) * yn ≤ BL := by omega
      have hx1 : xn ≤ BP := Nat.le_trans (Nat.le_mul_of_pos_left xn (Nat.two_pow_pos (s + 1))) hbx
      have hy1 : yn ≤ BL := Nat.le_trans (Nat.le_mul_of_pos_left yn (Nat.two_pow_pos (s + 1))) hby
      have hpl := HPL.out
      have hll := HLL.out
      have ix : IntKind.i64.wrap (2 * (xn : Int)) = ((2 * xn : Nat) : Int) := by rw [IntWalk.i64_in _ (by omega)]; omega
      have iy : IntKind.i64.wrap (2 * (yn : Int)) = ((2 * yn : Nat) : Int) := by rw [IntWalk.i64_in _ (by omega)]; omega
      have ix1 : IntKind.i64.wrap (((2 * xn : Nat) : Int) + 1) = ((2 * xn + 1 : Nat) : Int) := by rw [IntWalk.i64_in _ (by omega)]; omega
      have iy1 : IntKind.i64.wrap (((2 * yn : Nat) : Int) + 1) = ((2 * yn + 1 : Nat) : Int) := by rw [IntWalk.i64_in _ (by omega)]; omega
      have is1 : IntKind.i64.wrap ((s : Int) - 1) = (s : Int) - 1 := IntWalk.i64_in _ (by have := HK16.out; omega)
      generalize K[s] = yv at *
      have ip := rIsPtr_any wr yv
      have il := risLoc_any wr yv
      obtain ⟨x2, hx2⟩ : ∃ x2, x2 = 2 * xn := ⟨_, rfl⟩
      obtain ⟨y2, hy2⟩ : ∃ y2, y2 = 2 * yn := ⟨_, rfl⟩
      rw [← hx2] at ix ix1 hxd
      rw [← hy2] at iy iy1 hyd
      have HXD := Lib.hid hxd
      have HYD := Lib.hid hyd
      have HBR := Lib.hid hbr
      have HSL := Lib.hid hsl
      have IP := Lib.hid ip
      have IL := Lib.hid il
      clear hxd hyd hbr hsl ip il hbx hby hx1 hy1 hxe hye hpl hll hx2 hy2 hs
      go_wp2_with fail
      refine IP.out.mono ?_
      rintro e w' ⟨rfl, rfl⟩
      cases hP : isPtrB yv
      ·cases hL : isLocB yv
       ·skip
        have hxf := HXD.out
        have hyf := HYD.out
        rw [hP] at hxf
        rw [hL] at hyf
        have HXF := Lib.hid (show BP = bitsP isPtrB K s + 2 ^ s * x2 from hxf)
        have HYF := Lib.hid (show BL = bitsP isLocB K s + 2 ^ s * y2 from hyf)
        have ILL := Lib.hid IL.out
        have il2 := ILL.out
        rw [hL] at il2
        have IL2 := Lib.hid il2
        clear hxf hyf hP hL il2
        go_wp2_with fail
        refine IL2.out.mono ?_
        rintro e w' ⟨rfl, rfl⟩
        go_wp2_with fail
        go_roundw
        case rel => exact ⟨s, x2, y2, Nat.le_of_lt HSL.out, rfl, rfl, rfl, HXF.out, HYF.out, HBR.out⟩
        case measure => simp [intOf] <;> omega
       ·skip
        have hxf := HXD.out
        have hyf := HYD.out
        rw [hP] at hxf
        rw [hL] at hyf
        have HXF := Lib.hid (show BP = bitsP isPtrB K s + 2 ^ s * x2 from hxf)
        have HYF := Lib.hid (show BL = bitsP isLocB K s + 2 ^ s * (y2 + 1) from hyf)
        have ILL := Lib.hid IL.out
        have il2 := ILL.out
        rw [hL] at il2
        have IL2 := Lib.hid il2
        clear hxf hyf hP hL il2
        go_wp2_with fail
        refine IL2.out.mono ?_
        rintro e w' ⟨rfl, rfl⟩
        go_wp2_with fail
        go_roundw
        case rel => exact ⟨s, x2, (y2 + 1), Nat.le_of_lt HSL.out, rfl, rfl, rfl, HXF.out, HYF.out, HBR.out⟩
        case measure => simp [intOf] <;> omega
      ·cases hL : isLocB yv
       ·skip
        have hxf := HXD.out
        have hyf := HYD.out
        rw [hP] at hxf
        rw [hL] at hyf
        have HXF := Lib.hid (show BP = bitsP isPtrB K s + 2 ^ s * (x2 + 1) from hxf)
        have HYF := Lib.hid (show BL = bitsP isLocB K s + 2 ^ s * y2 from hyf)
        have ILL := Lib.hid IL.out
        have il2 := ILL.out
        rw [hL] at il2
        have IL2 := Lib.hid il2
        clear hxf hyf hP hL il2
        go_wp2_with fail
        refine IL2.out.mono ?_
        rintro e w' ⟨rfl, rfl⟩
        go_wp2_with fail
        go_roundw
        case rel => exact ⟨s, (x2 + 1), y2, Nat.le_of_lt HSL.out, rfl, rfl, rfl, HXF.out, HYF.out, HBR.out⟩
        case measure => simp [intOf] <;> omega
       ·skip
        have hxf := HXD.out
        have hyf := HYD.out
        rw [hP] at hxf
        rw [hL] at hyf
        have HXF := Lib.hid (show BP = bitsP isPtrB K s + 2 ^ s * (x2 + 1) from hxf)
        have HYF := Lib.hid (show BL = bitsP isLocB K s + 2 ^ s * (y2 + 1) from hyf)
        have ILL := Lib.hid IL.out
        have il2 := ILL.out
        rw [hL] at il2
        have IL2 := Lib.hid il2
        clear hxf hyf hP hL il2
        go_wp2_with fail
        refine IL2.out.mono ?_
        rintro e w' ⟨rfl, rfl⟩
        go_wp2_with fail
        go_roundw
        case rel => exact ⟨s, (x2 + 1), (y2 + 1), Nat.le_of_lt HSL.out, rfl, rfl, rfl, HXF.out, HYF.out, HBR.out⟩
        case measure => simp [intOf] <;> omega
theorem own : ownKnob Tryz.prog.godebug = none := by kernel_rfl
theorem laidOut : laidOutB Tryz.prog = true := by kernel_rfl
set_option maxRecDepth 100000 in
theorem lifted (os : Os) (started : os.Started) (H : Type) (enc : TypeId × Value → H) :
  ReturnsInHanded {} Tryz.checked os 3 .any (Rows.flowTellsSpec.pre6 enc Tryz.prog Tryz.f3 Rows.flowTellsRow.domain false) (Rows.flowTellsSpec.post enc Tryz.prog Tryz.f3 false true false false) := by
 refine returnsInHanded_of_change (C := Tryz.checked) own started (by kernel_rfl) Tryz.func3
  (ChangeSpec.witness6 (enc := enc) (C := Tryz.checked) false ⟨#[], #[.agg #[.slice none 0 0, .slice none 0 0, .slice none 0 0]], []⟩ 8 (by kernel_rfl) (by kernel_rfl) (by kernel_rfl) (by kernel_rfl)) ?_
 intro W base args ds gs before hval0 hW hcnd _
 have hval : ∀ (j : Nat) t v, Tryz.f3.params[j]? = some t → args[j]? = some v → Value.okWide Tryz.prog W .any base t v := hval0
 have hW' := hW
 obtain ⟨p, q, hA0, hV, rfl, hfz, hnd⟩ := hW
 have hA : DataW.TrodAll enc Tryz.prog W 0 (fun _ => true) true Tryz.f3.params.toList args.toList ds p := hA0
 rw [Tryz.params3] at hA hval
 obtain ⟨v0, vs0, d0, ds0, p0, q0, hargs, rfl, rfl, h0, r0⟩ := trodAll_cons hA
 obtain ⟨rfl, rfl, rfl⟩ := trodAll_nil r0
 obtain rfl : args = #[v0] := by cases args; simp_all
 have w0 := open_programB (hval 0 26 v0 rfl rfl) h0
 clear hA0 hval0
 simp only [List.append_nil] at hW'
 refine (walk W v0 w0).mono fun e W' ⟨he, hb⟩ => ?_
 subst he
 exact ⟨_, rfl, law_post laidOut (by kernel_rfl) rfl Tryz.underlying4 hW' rfl (fun ds h => by match ds, h with | [_], _ => rfl) hb⟩
theorem over : Rows.flowTellsRow.holds Tryz.pinned (OpenSpec.ofChange Rows.flowTellsSpec) :=
 OpenClaim.holds_of_wide 3 Tryz.f3 rfl rfl rfl rfl rfl rfl rfl ⟨rfl, rfl, rfl, rfl, rfl⟩ rfl rfl rfl rfl rfl (by kernel_rfl) Tryz.func3 (by kernel_rfl)
  (of_decide_eq_true (by kernel_rfl)) (by unfold Func.isWrapper; first | (rw [if_pos (by decide +kernel)]; kernel_rfl) | (rw [if_neg (by decide +kernel)]; exact ⟨rfl, rfl⟩))
  (fun os started H enc _ => lifted os started H enc)
theorem proved : Rows.FlowTellsSaid := over
#print axioms proved
end Go.Proofs.YtjcjhfnjamphlaaGreat.flowTells
