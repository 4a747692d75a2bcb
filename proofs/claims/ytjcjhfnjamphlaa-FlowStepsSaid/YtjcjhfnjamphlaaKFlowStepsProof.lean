/- FlowSteps: of every place of a program whose form may be, and every kinds: those behind it, or that it may not be; where it may go on; what two lists have in common; what is handed in stays. No condition. -/
import Derived.Test.YtjcjhfnjamphlaaKBn
import Derived.Test.YtjcjhfnjamphlaaKBs
import Derived.Test.YtjcjhfnjamphlaaKBm
import Derived.Test.YtjcjhfnjamphlaaKBt
import Derived.Test.YtjcjhfnjamphlaaKBw
import Derived.Test.YtjcjhfnjamphlaaKAe
import Derived.Test.YtjcjhfnjamphlaaRows
set_option linter.unusedVariables false
set_option linter.unusedSimpArgs false
/- FlowSteps: of every place of a program whose form may be, and every kinds: those behind it, or that it may not be; where it may go on; what two lists have in common; what is handed in stays. No condition. -/
namespace Go.Proofs.Ytjcjhfnjamphlaa.flowSteps
open Go.ChangeShapes Go.WideShapes Go.ChangeAt Go.RowKit Go.Maps
section
variable {H : Type} {enc : TypeId × Value → H}
set_option maxRecDepth 100000 in
/-- numbers that come in, with their bounds -/
theorem open_intsB {w : World} {base b : Nat} {v : Value} {sp : Nat → Bool} {d : DataW H} {p : List MemPlace} (hv : Value.okWide Try.prog w .any base 22 v)
    (h : DataW.Trod enc Try.prog w b sp true 22 v d p) : ∃ (a : Option Addr) (l : List Int) (c : Nat), v = .slice a l.length c ∧ IntSl w (fun k => k < w.heap.size) a l ∧ ∀ x ∈ l, i64B x := by
  obtain ⟨fuel, hf⟩ := h
  obtain ⟨a0, len0, cap0, rfl⟩ := okWide_slice Try.underlying22 hv
  obtain ⟨a, l, c, h1, h2, h3⟩ := trodB_ints hf
  simp [Value.cells] at h1
  obtain ⟨rfl, rfl, rfl⟩ := h1
  exact ⟨_, l, _, rfl, h2, h3⟩
end
theorem step_out {p : Prg} {fn pc : Int} {K : List Int} (h : ∀ i, iAt p fn pc = some i → (K.length : Int) ≠ (fnAt p fn.toNat).slots) : stepA p fn pc K = (1, []) := by
  unfold stepA
  cases hi : iAt p fn pc with
  | none => rfl
  | some i => exact if_pos (h i hi)
theorem iAt_over {p : Prg} {j m : Nat} {i : Ins} (hj : j < p.funcs.length) (h : p.funcs[j].code.length ≤ m) (hi : iAt p (j : Int) (m : Int) = some i) : False := by
  obtain ⟨j', m', e1, e2, hj', hc⟩ := iAt_in hi
  have ej : j = j' := by omega
  have em : m = m' := by omega
  subst ej em
  rw [List.getElem?_eq_none h] at hc
  cases hc
set_option maxRecDepth 100000 in
set_option maxHeartbeats 6400000 in
theorem walk (w : World) (v : Value) (hv : ∃ (pr : Prg) (c0 c1 c2 : Value), v = .agg #[c0, c1, c2] ∧ PrgVal w (fun k => k < w.heap.size) pr c0 c1 c2 ∧ PrgB pr) (fn : Int) (wfn : (Lit.int .i64 fn).wf = true) (pc : Int) (wpc : (Lit.int .i64 pc).wf = true)
    (vk : Value) (hk : ∃ (a : Option Addr) (l : List Int) (c : Nat), vk = .slice a l.length c ∧ IntSl w (fun k => k < w.heap.size) a l ∧ ∀ x ∈ l, i64B x) (vo : Value) (ho : ∃ (a : Option Addr) (l : List Int) (c : Nat), vo = .slice a l.length c ∧ IntSl w (fun k => k < w.heap.size) a l) :
    Calls Try.prog 3 #[v, .int .i64 fn, .int .i64 pc, vk, vo] w fun e w' => e = .returned (.bool true) ∧ Below w.heap.size w w' := by
  obtain ⟨p, c0, c1, c2, rfl, hp, hpb⟩ := hv
  obtain ⟨ka, K, kc, rfl, hks, hKb⟩ := hk
  obtain ⟨oa, O, oc, rfl, hos⟩ := ho
  have hfnB : i64B fn := bounds_i64 wfn
  have hpcB : i64B pc := bounds_i64 wpc
  clear wfn wpc
  have hPP : ∀ wr, Below w.heap.size w wr → PrgVal wr (fun k => k < w.heap.size) p c0 c1 c2 := fun wr hb => hp.fr (Fr.of_below hb (fun _ => False)) (fun _ _ h => h)
  obtain ⟨⟨a0, m0, rfl, _⟩, ⟨a1, m1, rfl, _⟩, a2, m2, rfl, hfn⟩ := hp
  have hbx := fun wr h => box1 w #[.slice a0 p.globals.length m0, .slice a1 p.shapes.length m1, .slice a2 p.funcs.length m2] 26 wr h
  have hz0 : (w.alloc (.cells #[.slice a0 p.globals.length m0, .slice a1 p.shapes.length m1, .slice a2 p.funcs.length m2] 26)).heap.size = w.heap.size + 1 := by simp
  obtain ⟨W, hW⟩ : ∃ W, W = (w.alloc (.cells #[.slice a0 p.globals.length m0, .slice a1 p.shapes.length m1, .slice a2 p.funcs.length m2] 26)) := ⟨_, rfl⟩
  rw [← hW] at hbx hz0
  have hs : ∀ wr, Below W.heap.size W wr → wr.cell? ⟨w.heap.size, 0, none⟩ = some (.slice a0 p.globals.length m0) ∧ wr.cell? ⟨w.heap.size, 1, none⟩ = some (.slice a1 p.shapes.length m1) ∧ wr.cell? ⟨w.heap.size, 2, none⟩ = some (.slice a2 p.funcs.length m2) := fun wr h => by
    rw [hz0] at h
    have hb := hbx wr h
    exact ⟨hb.1 0 _ rfl, hb.1 1 _ rfl, hb.1 2 _ rfl⟩
  have hbw : ∀ wr, Below W.heap.size W wr → Below w.heap.size w wr := fun wr h => by rw [hz0] at h; exact (hbx wr h).2.1
  have hw0 := Below.refl W.heap.size W
  have al := alive12
  have sm := small_any W _ p _ _ _ (hPP W (hbw W hw0))
  obtain ⟨k0, k1, k2⟩ := hs W hw0
  have HW := Lib.hid hW
  clear hW hbx hz0 hw0
  by_cases hsm : bulk p ≤ 3000
  case neg =>
    rw [decide_eq_false hsm] at sm
    clear hPP hfn hs hpb hsm hks hKb hos
    generalize K.length = kl at *
    generalize O.length = ol at *
    have AL := Lib.hid al; clear al
    have SM := Lib.hid sm; clear sm
    have HBW := Lib.hid hbw; clear hbw
    go_enter Try.func3, Try.ntmps3
    go_upto_region 1 with fail
    rw [← HW.out]
    go_wp2_with fail
    refine SM.out.mono ?_
    rintro e w1 ⟨rfl, hb1⟩
    have HB1 := Lib.hid hb1
    clear hb1
    clear k0 k1 k2
    go_wp2_with fail
    refine (AL.out _).mono ?_
    rintro e w2 ⟨rfl, hb2⟩
    have HB2 := Lib.hid (HBW.out _ (HB1.out.trans (hb2.mono HB1.out.size)))
    clear hb2
    go_wp2_with fail
    go_ret
    exact ⟨rfl, HB2.out⟩
  rw [decide_eq_true hsm] at sm
  have hpr := prgR_small hsm
  by_cases hl1 : 40 < K.length
  · have n1 : (40 : Int) < (K.length : Int) := by omega
    clear hPP hfn hs hpb hsm hks hKb hos hpr
    generalize K.length = kl at *
    generalize O.length = ol at *
    have AL := Lib.hid al; clear al
    have SM := Lib.hid sm; clear sm
    have HBW := Lib.hid hbw; clear hbw
    go_enter Try.func3, Try.ntmps3
    go_upto_region 1 with fail
    rw [← HW.out]
    go_wp2_with fail
    refine SM.out.mono ?_
    rintro e w1 ⟨rfl, hb1⟩
    have HB1 := Lib.hid hb1
    clear hb1
    clear k0 k1 k2
    go_wp2_with fail
    refine (AL.out _).mono ?_
    rintro e w2 ⟨rfl, hb2⟩
    have HB2 := Lib.hid (HBW.out _ (HB1.out.trans (hb2.mono HB1.out.size)))
    clear hb2
    go_wp2_with fail
    go_ret
    exact ⟨rfl, HB2.out⟩
  by_cases hl2 : 40 < O.length
  · have n1 : ¬ (40 : Int) < (K.length : Int) := by omega
    have n2 : (40 : Int) < (O.length : Int) := by omega
    clear hPP hfn hs hpb hsm hks hKb hos hpr
    generalize K.length = kl at *
    generalize O.length = ol at *
    have AL := Lib.hid al; clear al
    have SM := Lib.hid sm; clear sm
    have HBW := Lib.hid hbw; clear hbw
    go_enter Try.func3, Try.ntmps3
    go_upto_region 1 with fail
    rw [← HW.out]
    go_wp2_with fail
    refine SM.out.mono ?_
    rintro e w1 ⟨rfl, hb1⟩
    have HB1 := Lib.hid hb1
    clear hb1
    clear k0 k1 k2
    go_wp2_with fail
    refine (AL.out _).mono ?_
    rintro e w2 ⟨rfl, hb2⟩
    have HB2 := Lib.hid (HBW.out _ (HB1.out.trans (hb2.mono HB1.out.size)))
    clear hb2
    go_wp2_with fail
    go_ret
    exact ⟨rfl, HB2.out⟩
  have n1 : ¬ (40 : Int) < (K.length : Int) := by omega
  have n2 : ¬ (40 : Int) < (O.length : Int) := by omega
  have rck := fun wr (h : Below W.heap.size W wr) => rcheckC_any wr (fun k => k < w.heap.size) (fun k hk => Nat.lt_of_lt_of_le hk (hbw wr h).size) p _ _ _ (hPP wr (hbw wr h)) hpb hpr
  obtain ⟨⟨E, ea, eb⟩, hps⟩ : ∃ x : Int × Nat × Nat, x = progS p := ⟨_, rfl⟩
  unfold RCPost at rck
  rw [← hps] at rck
  have lnt := fun wr (h : Below W.heap.size W wr) => lentInts_any wr _ ka K kc (hks.fr (Fr.of_below (hbw wr h) (fun _ => False)) (fun _ _ h => h)) (by omega)
  have hfn : ∀ wr, Below W.heap.size W wr → FnSl wr (fun k => k < w.heap.size) a2 p.funcs := fun wr h => hfn.fr (Fr.of_below (hbw wr h) (fun _ => False)) (fun _ _ h => h)
  have hks : ∀ wr, Below W.heap.size W wr → IntSl wr (fun k => k < w.heap.size) ka K := fun wr h => hks.fr (Fr.of_below (hbw wr h) (fun _ => False)) (fun _ _ h => h)
  have hos : ∀ wr, Below W.heap.size W wr → IntSl wr (fun k => k < w.heap.size) oa O := fun wr h => hos.fr (Fr.of_below (hbw wr h) (fun _ => False)) (fun _ _ h => h)
  have nx := fun wr (h : Below W.heap.size W wr) => next_any wr (fun k => k < w.heap.size) (fun k hk => Nat.lt_of_lt_of_le hk (hbw wr h).size) p _ _ _ (hPP wr (hbw wr h)) hpb hpr fn pc hfnB hpcB
  have HKL := Lib.hid hl1
  have HOLL := Lib.hid hl2
  clear hsm hl1 hl2
  have HS := Lib.hid hs; clear hs
  have HFN := Lib.hid hfn; clear hfn
  have HPP := Lib.hid hPP; clear hPP
  have HPB := Lib.hid hpb; clear hpb
  have HPR := Lib.hid hpr; clear hpr
  have RCK := Lib.hid rck; clear rck
  have HPS := Lib.hid hps; clear hps
  have LNT := Lib.hid lnt; clear lnt
  have HKS := Lib.hid hks; clear hks
  have HOS := Lib.hid hos; clear hos
  have NX := Lib.hid nx; clear nx
  have HKB := Lib.hid hKb; clear hKb
  have HFNB := Lib.hid hfnB; clear hfnB
  have HPCB := Lib.hid hpcB; clear hpcB
  have AL := Lib.hid al; clear al
  have SM := Lib.hid sm; clear sm
  have HBW := Lib.hid hbw; clear hbw
  go_enter Try.func3, Try.ntmps3
  go_upto_region 1 with fail
  rw [← HW.out]
  go_wp2_with fail
  refine SM.out.mono ?_
  rintro e w1 ⟨rfl, hb1⟩
  have HB1 := Lib.hid hb1
  clear hb1
  clear k0 k1 k2
  go_wp2_with fail
  refine (AL.out _).mono ?_
  rintro e w2 ⟨rfl, hb2⟩
  have hb2 := HB1.out.trans (hb2.mono HB1.out.size)
  obtain ⟨k0, k1, k2⟩ := HS.out w2 hb2
  have HB2 := Lib.hid hb2
  clear hb2
  go_wp2_with fail
  refine (RCK.out w2 HB2.out).mono ?_
  rintro e w3 ⟨rfl, hb3⟩
  have HB3 := Lib.hid (HB2.out.trans (hb3.mono HB2.out.size))
  clear hb3 k0 k1 k2 n1 n2
  by_cases hE : E = 0
  case neg =>
    have hEb : (E != 0) = true := by simpa using hE
    have HB4 := Lib.hid (HBW.out _ HB3.out)
    clear hE
    go_wp2_with fail
    go_ret
    exact ⟨rfl, HB4.out⟩
  subst hE
  have hfit := prgFit (show (progS p).1 = 0 from by rw [← HPS.out])
  have HFIT := Lib.hid hfit
  clear hfit
  go_wp2_with fail
  refine (LNT.out w3 HB3.out).mono ?_
  rintro e w4 ⟨g, cap, rfl, hcap, hg, hmk, hms, hb4⟩
  have hB4 := HB3.out.trans (hb4.mono HB3.out.size)
  have hB5 := hB4.alloc hB4.size (.cells #[.int .i64 fn, .int .i64 pc] 34)
  have hb45 := (Below.refl w4.heap.size w4).alloc (Nat.le_refl _) (.cells #[.int .i64 fn, .int .i64 pc] 34)
  have hr5 := heap_new w4 (.cells #[.int .i64 fn, .int .i64 pc] 34)
  obtain ⟨zb, hzb⟩ : ∃ zb, zb = w4.heap.size := ⟨_, rfl⟩
  obtain ⟨w5, hw5⟩ : ∃ w5, w5 = w4.alloc (.cells #[.int .i64 fn, .int .i64 pc] 34) := ⟨_, rfl⟩
  rw [← hw5] at hB5 hb45 hr5
  rw [← hzb] at hr5
  have hmk5 := below_cell hb45 hmk
  have hms5 := hms.fr (Fr.of_below hb45 (fun _ => False)) (fun _ _ h => h)
  have hgl : g < w5.heap.size := World.block_lt hmk5
  have hst := step_any w5 (fun k => k < w5.heap.size) (fun k h => h) p _ _ _ ((HPP.out w5 (HBW.out w5 hB5)).wide (fun k hk => Nat.lt_of_lt_of_le hk (HBW.out w5 hB5).size)) HPB.out HPR.out HFIT.out fn pc HFNB.out HPCB.out (some ⟨g, 0, none⟩) K cap (hms5.wide (fun k hk => by rw [hk]; exact hgl)) (by have := HKL.out; omega)
  obtain ⟨⟨E2, L2⟩, hr⟩ : ∃ r : Int × List Int, r = stepA p fn pc K := ⟨_, rfl⟩
  rw [← hr] at hst
  unfold StepPost at hst
  have HR := Lib.hid hr
  have HST := Lib.hid hst
  have HZB := Lib.hid hzb
  have HW5 := Lib.hid hw5
  have HB5 := Lib.hid hB5
  have HMK := Lib.hid hmk5
  have HMS := Lib.hid hms5
  have HCAP := Lib.hid hcap
  have HZ5 := Lib.hid hr5
  clear hr hst hzb hw5 hB5 hmk5 hms5 hgl hB4 hb45 hr5 hcap hg hmk hms hb4
  go_upto_region 8 with fail
  rw [← HZB.out, ← HW5.out]
  obtain ⟨k0, k1, k2⟩ := HS.out w5 HB5.out
  have z0 : w5.cell? ⟨zb, 0, none⟩ = some (.int .i64 fn) := (row_cell HZ5.out 0).1
  have z1 : w5.cell? ⟨zb, 1, none⟩ = some (.int .i64 pc) := (row_cell HZ5.out 1).1
  go_wp2_with fail
  refine HST.out.mono ?_
  rintro e w6 ⟨v6, rfl, ho6, hb6⟩
  obtain ⟨sa, sc, rfl, hss⟩ := own_int ho6
  have hst := staysInts_any w6 (fun k => k < w.heap.size) g cap ka K kc HCAP.out (below_cell hb6 HMK.out) (HMS.out.fr (Fr.of_below hb6 (fun _ => False)) (fun _ _ h => h)) (HKS.out w6 (HB5.out.trans (hb6.mono HB5.out.size))) (by have := HKL.out; omega)
  have HB6 := Lib.hid (HB5.out.trans (hb6.mono HB5.out.size))
  have HZ6 := Lib.hid ((Fr.of_below hb6 (fun _ => False)).heap HZ5.out (fun h => h))
  have HSS := Lib.hid hss
  have HSTAY := Lib.hid hst
  clear hss hst ho6 hb6 k0 k1 k2 z0 z1
  go_wp2_with fail
  refine HSTAY.out.mono ?_
  rintro e w7 ⟨rfl, n7, rfl⟩
  have hB7 := below_drewN HB6.out n7
  have hss7 : IntSl (w6.drewN n7) _ sa L2 := HSS.out
  have hz7 : (w6.drewN n7).heap[zb]? = _ := HZ6.out
  obtain ⟨w7, hw7⟩ : ∃ w7, w7 = w6.drewN n7 := ⟨_, rfl⟩
  rw [← hw7] at hB7 hss7 hz7 ⊢
  have jn := join_any w7 _ _ ka oa K O kc oc (HKS.out w7 hB7) (HOS.out w7 hB7) (by have := HKL.out; omega) (by have := HOLL.out; omega)
  have HB7 := Lib.hid hB7
  have HSS7 := Lib.hid hss7
  have HZ7 := Lib.hid hz7
  have JN := Lib.hid jn
  clear hw7 hB7 hss7 hz7 jn HSTAY HSS HZ6 HB6
  go_wp2_with fail
  refine JN.out.mono ?_
  rintro e w8 ⟨v8, rfl, ho8, hb8⟩
  obtain ⟨xa, xc, rfl, hxs⟩ := own_int ho8
  have hB8 := HB7.out.trans (hb8.mono HB7.out.size)
  have jn := rjoin_any w8 _ _ ka oa K O kc oc (HKS.out w8 hB8) (HOS.out w8 hB8) (by have := HKL.out; omega) (by have := HOLL.out; omega)
  have HB8 := Lib.hid hB8
  have HSS8 := Lib.hid (HSS7.out.fr (Fr.of_below hb8 (fun _ => False)) (fun _ _ h => h))
  have HZ8 := Lib.hid ((Fr.of_below hb8 (fun _ => False)).heap HZ7.out (fun h => h))
  have HXS := Lib.hid hxs
  have RJN := Lib.hid jn
  clear hxs hB8 jn ho8 hb8 JN HSS7 HZ7 HB7
  go_wp2_with fail
  refine RJN.out.mono ?_
  rintro e w9 ⟨v9, rfl, ho9, hb9⟩
  obtain ⟨ya, yc, rfl, hys⟩ := own_int ho9
  have sm := sameInts_any w9 _ _ xa ya _ _ xc yc (HXS.out.fr (Fr.of_below hb9 (fun _ => False)) (fun _ _ h => h)) hys (by rw [joinL_len]; have := HKL.out; omega) (by rw [joinL_len]; have := HKL.out; omega)
  rw [show decide (joinL K O = joinL K O) = true from by simp] at sm
  have HB9 := Lib.hid (HB8.out.trans (hb9.mono HB8.out.size))
  have HSS9 := Lib.hid (HSS8.out.fr (Fr.of_below hb9 (fun _ => False)) (fun _ _ h => h))
  have HZ9 := Lib.hid ((Fr.of_below hb9 (fun _ => False)).heap HZ8.out (fun h => h))
  have SMJ := Lib.hid sm
  clear hys sm ho9 hb9 RJN HSS8 HZ8 HB8 HXS
  go_wp2_with fail
  refine SMJ.out.mono ?_
  rintro e w10 ⟨rfl, n10, rfl⟩
  have hB10 := below_drewN HB9.out n10
  have hss10 : IntSl (w9.drewN n10) _ sa L2 := HSS9.out
  have hz10 : (w9.drewN n10).heap[zb]? = _ := HZ9.out
  obtain ⟨w10, hw10⟩ : ∃ w10, w10 = w9.drewN n10 := ⟨_, rfl⟩
  rw [← hw10] at hB10 hss10 hz10 ⊢
  have HB10 := Lib.hid hB10
  have HSS10 := Lib.hid hss10
  have HZ10 := Lib.hid hz10
  have HBF := Lib.hid (HBW.out _ hB10)
  obtain ⟨k0, k1, k2⟩ := HS.out w10 hB10
  clear hw10 hB10 hss10 hz10 SMJ HSS9 HZ9 HB9
  go_upto_region 11 with fail
  by_cases h1 : fn < 0
  · have hb1 : decide (fn < 0) = true := decide_eq_true h1
    have hst : stepA p fn pc K = (1, []) := step_out (fun i hi => by
      obtain ⟨j, m, e1, _⟩ := iAt_in hi; omega)
    have he : E2 = 1 ∧ L2 = [] := by
      have := HR.out
      rw [hst] at this
      injection this with h1 h2
      exact ⟨h1, h2⟩
    obtain ⟨rfl, rfl⟩ := he
    clear hst
    go_wp2_with fail
    go_ret
    exact ⟨rfl, HBF.out⟩
  by_cases h2 : (p.funcs.length : Int) ≤ fn
  · skip
    have hst : stepA p fn pc K = (1, []) := step_out (fun i hi => by
      obtain ⟨j, m, e1, e2, hj, _⟩ := iAt_in hi; omega)
    have he : E2 = 1 ∧ L2 = [] := by
      have := HR.out
      rw [hst] at this
      injection this with h1 h2
      exact ⟨h1, h2⟩
    obtain ⟨rfl, rfl⟩ := he
    clear hst
    go_wp2_with fail
    go_ret
    exact ⟨rfl, HBF.out⟩
  by_cases h3 : pc < 0
  · have h2' : ¬ (p.funcs.length : Int) ≤ fn := h2
    have hst : stepA p fn pc K = (1, []) := step_out (fun i hi => by
      obtain ⟨j, m, e1, e2, hj, _⟩ := iAt_in hi; omega)
    have he : E2 = 1 ∧ L2 = [] := by
      have := HR.out
      rw [hst] at this
      injection this with h1 h2
      exact ⟨h1, h2⟩
    obtain ⟨rfl, rfl⟩ := he
    clear hst
    go_wp2_with fail
    go_ret
    exact ⟨rfl, HBF.out⟩
  obtain ⟨j, rfl⟩ : ∃ j : Nat, fn = j := ⟨fn.toNat, by omega⟩
  obtain ⟨m, rfl⟩ : ∃ m : Nat, pc = m := ⟨pc.toNat, by omega⟩
  have hj : j < p.funcs.length := by omega
  have hfs := HFN.out w10 HB10.out j hj
  have hfa : fnAt p ((j : Int)).toNat = p.funcs[j] := by unfold fnAt; simp [hj]
  have hff := HFIT.out.fn _ (List.getElem_mem hj)
  obtain ⟨f, hfe⟩ : ∃ f, f = p.funcs[j] := ⟨_, rfl⟩
  rw [← hfe] at hfs hfa hff
  have HFE := Lib.hid hfe
  have HFA := Lib.hid hfa
  clear hfe hfa
  obtain ⟨bb, o, rfl, _, y0, y1, y2, y3, y4, g0, g1, g2, g3, g4, hfv⟩ := hfs
  obtain ⟨rfl, rfl, ⟨e0, e1, rfl, _⟩, ⟨e2, e3, rfl, _⟩, e4, e5, rfl, hcs⟩ := hfv
  have h2' : ¬ (p.funcs.length : Int) ≤ (j : Int) := h2
  have hjlt : (j : Int) < (p.funcs.length : Int) := by omega
  have hj0 : ¬ (j : Int) < 0 := by omega
  have hm0 : ¬ (m : Int) < 0 := by omega
  by_cases h4 : (f.code.length : Int) ≤ (m : Int)
  · generalize hfcl : f.code.length = cl at *
    clear hcs
    have hst : stepA p (j : Int) (m : Int) K = (1, []) := step_out (fun i hi => by
      exact (iAt_over hj (by rw [← HFE.out]; omega) hi).elim)
    have he : E2 = 1 ∧ L2 = [] := by
      have := HR.out
      rw [hst] at this
      injection this with h1 h2
      exact ⟨h1, h2⟩
    obtain ⟨rfl, rfl⟩ := he
    clear hst
    go_wp2_with fail
    go_ret
    exact ⟨rfl, HBF.out⟩
  have hml : m < f.code.length := by omega
  have hmlt : (m : Int) < (f.code.length : Int) := by omega
  by_cases h5 : (K.length : Int) = f.slots
  case neg =>
    have h5b : ((K.length : Int) != f.slots) = true := by simpa using h5
    have hst : stepA p (j : Int) (m : Int) K = (1, []) := step_out (fun i hi => by
      rw [HFA.out]; exact h5)
    have he : E2 = 1 ∧ L2 = [] := by
      have := HR.out
      rw [hst] at this
      injection this with h1 h2
      exact ⟨h1, h2⟩
    obtain ⟨rfl, rfl⟩ := he
    clear hst
    go_wp2_with fail
    go_ret
    exact ⟨rfl, HBF.out⟩
  obtain ⟨i, hi⟩ : ∃ i, f.code[m]? = some i := ⟨_, List.getElem?_eq_getElem hml⟩
  have hiat : iAt p j m = some i := iAt_at hj (by rw [← HFE.out]; exact hi)
  have hstp : stepA p j m K = if readsK p f.result i K = true then (0, outK p f i K) else (3, []) := by
    unfold stepA
    rw [hiat]
    dsimp only
    rw [HFA.out, if_neg (by rw [h5]; simp)]
  have hnx : nextA p j m = nextK i m := by unfold nextA; rw [hiat]
  have hok := stepOk HFIT.out (hff.ins m i hi) (by have := hff.args; omega)
  rw [show f.slots.toNat = K.length from by omega] at hok
  have hrs := rstep_any w10 _ p _ _ _ (HPP.out w10 (HBW.out w10 HB10.out)) HPB.out HPR.out HFIT.out j m hj i (by rw [← HFE.out]; exact hi) _ ka K kc (HKS.out w10 HB10.out) (by rw [← HFE.out]; exact hok) HKB.out (by have := HKL.out; omega)
  rw [← HFE.out] at hrs
  have hnxx := fun u (h : Below W.heap.size W u) => NX.out u h
  rw [hnx] at hnxx
  have hrn := fun u => rnext_any u i m (by have := hff.code2; omega)
  have hnl := nextK_len i (m : Int)
  obtain ⟨cb, co, rfl, _, q0, q1, q2, q3⟩ := hcs m hml
  rw [List.getElem?_eq_getElem hml] at hi
  injection hi with hi
  rw [hi] at q0 q1 q2 q3
  have h5b : ((K.length : Int) != f.slots) = false := by simpa using h5
  have hr2 := HR.out
  rw [hstp] at hr2
  have hol : (outK p f i K).length ≤ 1000 := by rw [outK_len]; have := HKL.out; omega
  obtain ⟨OUT, hOUT⟩ : ∃ x, x = outK p f i K := ⟨_, rfl⟩
  obtain ⟨R, hRR⟩ : ∃ x, x = readsK p f.result i K := ⟨_, rfl⟩
  obtain ⟨NL, hNL⟩ : ∃ x, x = nextK i (m : Int) := ⟨_, rfl⟩
  rw [← hOUT, ← hRR] at hrs hr2
  rw [← hOUT] at hol
  rw [← hNL] at hnxx hrn hnl
  obtain ⟨iop, ia, ib, ic⟩ := i
  dsimp only at q0 q1 q2 q3 hrn
  have HR2 := Lib.hid hr2
  have HRS := Lib.hid hrs
  have HNXX := Lib.hid hnxx
  have HRN := Lib.hid hrn
  have HNL := Lib.hid hnl
  have HOL := Lib.hid hol
  have h4' : ¬ (f.code.length : Int) ≤ (m : Int) := h4
  have HSC := Lib.hid (show ∀ u, Below w10.heap.size w10 u → u.cell? ⟨bb, o + j * 5 + 4, none⟩ = some (.slice (some ⟨cb, co, none⟩) f.code.length e5) ∧ u.cell? ⟨cb, co + m * 4, none⟩ = some (.int .i64 iop) ∧ u.cell? ⟨cb, co + m * 4 + 1, none⟩ = some (.int .i64 ia) ∧ u.cell? ⟨cb, co + m * 4 + 2, none⟩ = some (.int .i64 ib) ∧ u.cell? ⟨cb, co + m * 4 + 3, none⟩ = some (.int .i64 ic) from fun u h => ⟨below_cell h g4, below_cell h q0, below_cell h q1, below_cell h q2, below_cell h q3⟩)
  clear hr2 hrs hnxx hrn hnl hol hOUT hRR hNL hi hiat hstp hnx hok hff hml q0 q1 q2 q3
  generalize f.code.length = cl at *
  generalize f.slots = fs at *
  go_wp2_with fail
  refine HRS.out.mono ?_
  rintro e w11 ⟨v11, rfl, ho11, hb11⟩
  obtain ⟨ba, bc, rfl, hbs⟩ := own_int ho11
  have hB11 := HB10.out.trans (hb11.mono HB10.out.size)
  have HBS := Lib.hid hbs
  have HB11 := Lib.hid hB11
  have HBA := Lib.hid hb11
  have HSS11 := Lib.hid (HSS10.out.fr (Fr.of_below hb11 (fun _ => False)) (fun _ _ h => h))
  have hz11 := (Fr.of_below hb11 (fun _ => False)).heap HZ10.out (fun h => h)
  have z0 : w11.cell? ⟨zb, 0, none⟩ = some (.int .i64 j) := (row_cell hz11 0).1
  have z1 : w11.cell? ⟨zb, 1, none⟩ = some (.int .i64 m) := (row_cell hz11 1).1
  clear k0 k1 k2 g0 g1 g2 g3 g4
  obtain ⟨k0, k1, k2⟩ := HS.out w11 hB11
  clear hbs ho11 hb11 hB11 hz11 h4 h5 h2 h3 h1
  go_wp2_with fail
  refine (HNXX.out w11 HB11.out).mono ?_
  rintro e w12 ⟨v12, rfl, ho12, hb12⟩
  obtain ⟨na, nc, rfl, hns⟩ := own_int ho12
  have hB12 := HB11.out.trans (hb12.mono HB11.out.size)
  have HNS := Lib.hid hns
  have HB12 := Lib.hid hB12
  have HBA := Lib.hid (HBA.out.trans (hb12.mono HBA.out.size))
  have HSS12 := Lib.hid (HSS11.out.fr (Fr.of_below hb12 (fun _ => False)) (fun _ _ h => h))
  have HBS := Lib.hid (HBS.out.fr (Fr.of_below hb12 (fun _ => False)) (fun _ _ h => h))
  clear k0 k1 k2 z0 z1
  obtain ⟨k0, k1, k2⟩ := HS.out w12 hB12
  obtain ⟨g4, q0, q1, q2, q3⟩ := HSC.out w12 HBA.out
  clear hns ho12 hb12 hB12
  cases R with
  | true =>
    have he : E2 = 0 ∧ L2 = OUT := by
      have := HR2.out
      rw [if_pos rfl] at this
      injection this with h1 h2
      exact ⟨h1, h2⟩
    obtain ⟨rfl, rfl⟩ := he
    have sm := sameInts_any w12 _ _ sa ba _ _ sc bc HSS12.out HBS.out (by have := HOL.out; omega) (by have := HOL.out; omega)
    rw [show decide (L2 = L2) = true from by simp] at sm
    have SMO := Lib.hid sm
    clear sm
    go_wp2_with fail
    refine SMO.out.mono ?_
    rintro e w13 ⟨rfl, n13, rfl⟩
    have hns : IntSl (w12.drewN n13) _ na NL := HNS.out
    have hB13 := below_drewN HB12.out n13
    have hBA := below_drewN HBA.out n13
    obtain ⟨w13, hw13⟩ : ∃ w13, w13 = w12.drewN n13 := ⟨_, rfl⟩
    clear k0 k1 k2 g4 q0 q1 q2 q3
    rw [← hw13] at hns hB13 hBA ⊢
    clear hw13
    obtain ⟨k0, k1, k2⟩ := HS.out w13 hB13
    obtain ⟨g4, q0, q1, q2, q3⟩ := HSC.out w13 hBA
    have HNS2 := Lib.hid hns
    have HB13 := Lib.hid hB13
    clear hns hB13 hBA
    go_wp2_with fail
    refine (HRN.out _).mono ?_
    rintro e w14 ⟨v14, rfl, ho14, hb14⟩
    obtain ⟨ra, rc, rfl, hrs⟩ := own_int ho14
    have sm := sameInts_any w14 _ _ na ra _ _ nc rc (HNS2.out.fr (Fr.of_below hb14 (fun _ => False)) (fun _ _ h => h)) hrs (by have := HNL.out; omega) (by have := HNL.out; omega)
    rw [show decide (NL = NL) = true from by simp] at sm
    have SML := Lib.hid sm
    have HB14 := Lib.hid (HB13.out.trans (hb14.mono HB13.out.size))
    clear sm hrs ho14 hb14 k0 k1 k2 g4 q0 q1 q2 q3
    go_wp2_with fail
    refine SML.out.mono ?_
    rintro e w15 ⟨rfl, n15, rfl⟩
    have HBE := Lib.hid (HBW.out _ (below_drewN HB14.out n15))
    go_wp2_with fail
    go_ret
    exact ⟨rfl, HBE.out⟩
  | false =>
    have he : E2 = 3 ∧ L2 = [] := by
      have := HR2.out
      rw [if_neg (by decide)] at this
      injection this with h1 h2
      exact ⟨h1, h2⟩
    obtain ⟨rfl, rfl⟩ := he
    have hns := HNS.out
    have hB13 := HB12.out
    have hBA := HBA.out
    clear k0 k1 k2 g4 q0 q1 q2 q3
    obtain ⟨k0, k1, k2⟩ := HS.out w12 hB13
    obtain ⟨g4, q0, q1, q2, q3⟩ := HSC.out w12 hBA
    have HNS2 := Lib.hid hns
    have HB13 := Lib.hid hB13
    clear hns hB13 hBA
    go_wp2_with fail
    refine (HRN.out _).mono ?_
    rintro e w14 ⟨v14, rfl, ho14, hb14⟩
    obtain ⟨ra, rc, rfl, hrs⟩ := own_int ho14
    have sm := sameInts_any w14 _ _ na ra _ _ nc rc (HNS2.out.fr (Fr.of_below hb14 (fun _ => False)) (fun _ _ h => h)) hrs (by have := HNL.out; omega) (by have := HNL.out; omega)
    rw [show decide (NL = NL) = true from by simp] at sm
    have SML := Lib.hid sm
    have HB14 := Lib.hid (HB13.out.trans (hb14.mono HB13.out.size))
    clear sm hrs ho14 hb14 k0 k1 k2 g4 q0 q1 q2 q3
    go_wp2_with fail
    refine SML.out.mono ?_
    rintro e w15 ⟨rfl, n15, rfl⟩
    have HBE := Lib.hid (HBW.out _ (below_drewN HB14.out n15))
    go_wp2_with fail
    go_ret
    exact ⟨rfl, HBE.out⟩
theorem own : ownKnob Try.prog.godebug = none := by kernel_rfl
theorem laidOut : laidOutB Try.prog = true := by kernel_rfl
set_option maxRecDepth 100000 in
theorem lifted (os : Os) (started : os.Started) (H : Type) (enc : TypeId × Value → H) :
    ReturnsInHanded {} Try.checked os 3 .any (Rows.flowStepsSpec.pre6 enc Try.prog Try.f3 Rows.flowStepsRow.domain false) (Rows.flowStepsSpec.post enc Try.prog Try.f3 false true false false) := by
  refine returnsInHanded_of_change (C := Try.checked) own started (by kernel_rfl) Try.func3
    (ChangeSpec.witness6 (enc := enc) (C := Try.checked) false ⟨#[], #[.agg #[.slice none 0 0, .slice none 0 0, .slice none 0 0], .int .i64 0, .int .i64 0, .slice none 0 0, .slice none 0 0], []⟩ 8 (by kernel_rfl) (by kernel_rfl) (by kernel_rfl) (by kernel_rfl)) ?_
  intro W base args ds gs before hval0 hW hcnd _
  have hval : ∀ (j : Nat) t v, Try.f3.params[j]? = some t → args[j]? = some v → Value.okWide Try.prog W .any base t v := hval0
  have hW' := hW
  obtain ⟨p, q, hA0, hV, rfl, hfz, hnd⟩ := hW
  have hA : DataW.TrodAll enc Try.prog W 0 (fun _ => true) true Try.f3.params.toList args.toList ds p := hA0
  rw [Try.params3] at hA hval
  obtain ⟨v0, vs0, d0, ds0, p0, q0, hargs, rfl, rfl, h0, r0⟩ := trodAll_cons hA
  obtain ⟨v1, vs1, d1, ds1, p1, q1, rfl, rfl, rfl, h1, r1⟩ := trodAll_cons r0
  obtain ⟨v2, vs2, d2, ds2, p2, q2, rfl, rfl, rfl, h2, r2⟩ := trodAll_cons r1
  obtain ⟨v3, vs3, d3, ds3, p3, q3, rfl, rfl, rfl, h3, r3⟩ := trodAll_cons r2
  obtain ⟨v4, vs4, d4, ds4, p4, q4, rfl, rfl, rfl, h4, r4⟩ := trodAll_cons r3
  obtain ⟨rfl, rfl, rfl⟩ := trodAll_nil r4
  obtain rfl : args = #[v0, v1, v2, v3, v4] := by cases args; simp_all
  have w0 := open_programB (hval 0 26 v0 rfl rfl) h0
  obtain ⟨a1, rfl, rfl, rfl, w1⟩ := open_int Try.underlying3 (hval 1 3 v1 rfl rfl) h1
  obtain ⟨a2, rfl, rfl, rfl, w2⟩ := open_int Try.underlying3 (hval 2 3 v2 rfl rfl) h2
  have w3 := open_intsB (hval 3 22 v3 rfl rfl) h3
  have w4 := open_ints (hval 4 22 v4 rfl rfl) h4
  clear hA0 hval0
  simp only [List.append_nil] at hW'
  refine (walk W v0 w0 a1 w1 a2 w2 v3 w3 v4 w4).mono fun e W' ⟨he, hb⟩ => ?_
  subst he
  exact ⟨_, rfl, law_post laidOut (by kernel_rfl) rfl Try.underlying4 hW' rfl (fun ds h => by match ds, h with | [_, _, _, _, _], _ => rfl) hb⟩
theorem over : Rows.flowStepsRow.holds Try.pinned (OpenSpec.ofChange Rows.flowStepsSpec) :=
  OpenClaim.holds_of_wide 3 Try.f3 rfl rfl rfl rfl rfl rfl rfl ⟨rfl, rfl, rfl, rfl, rfl⟩ rfl rfl rfl rfl rfl (by kernel_rfl) Try.func3 (by kernel_rfl)
    (of_decide_eq_true (by kernel_rfl)) (by unfold Func.isWrapper; first | (rw [if_pos (by decide +kernel)]; kernel_rfl) | (rw [if_neg (by decide +kernel)]; exact ⟨rfl, rfl⟩))
    (fun os started H enc _ => lifted os started H enc)
theorem proved : Rows.FlowStepsSaid := over
#print axioms proved
end Go.Proofs.Ytjcjhfnjamphlaa.flowSteps
