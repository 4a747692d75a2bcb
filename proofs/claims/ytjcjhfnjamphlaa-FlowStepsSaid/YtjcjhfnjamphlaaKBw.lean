/- Walk: the reference's Check. What comes in: numbers. -/
import Derived.Test.YtjcjhfnjamphlaaKBv
import Derived.Test.YtjcjhfnjamphlaaKBb
import Derived.Test.YtjcjhfnjamphlaaKBc
import Derived.Test.YtjcjhfnjamphlaaKAq
set_option linter.unusedVariables false
set_option linter.unusedSimpArgs false
namespace Go.Proofs.Ytjcjhfnjamphlaa
open Go.ChangeShapes Go.WideShapes Go.ChangeAt Go.RowKit Go.Maps
def RCPost (p : Prg) (w : World) (e : Ending) (w' : World) : Prop :=
  e = .returned (.tuple #[.int .i64 (progS p).1, .int .i64 (progS p).2.1, .int .i64 (progS p).2.2]) ∧ Below w.heap.size w w'
theorem rcPost_of {p : Prg} {E a b : Int} {x y : Nat} {w w' : World} (h : progS p = (E, x, y)) (hx : a = x) (hy : b = y) (hb : Below w.heap.size w w') : RCPost p w (.returned (.tuple #[.int .i64 E, .int .i64 a, .int .i64 b])) w' := by
  unfold RCPost
  rw [h, hx, hy]
  exact ⟨rfl, hb⟩
set_option maxRecDepth 100000 in
set_option maxHeartbeats 3200000 in
theorem rcheckC_any (w : World) (D : Nat → Prop) (hD : ∀ k, D k → k < w.heap.size) (p : Prg) (c0 c1 c2 : Value) (hv : PrgVal w D p c0 c1 c2) (hp : PrgB p) (hq : PrgR p) :
    Calls Try.prog 9 #[.agg #[c0, c1, c2]] w (RCPost p w) := by
  have hPP : ∀ wr, Below w.heap.size w wr → PrgVal wr D p c0 c1 c2 := fun wr hb => hv.fr (Fr.of_below hb (fun _ => False)) (fun _ _ h => h)
  obtain ⟨⟨a0, m0, rfl, hg⟩, ⟨a1, m1, rfl, hsh⟩, a2, m2, rfl, hfn⟩ := hv
  obtain ⟨q0, q1, q2, q3, q4⟩ := hq
  have hbx := fun wr h => box1 w #[.slice a0 p.globals.length m0, .slice a1 p.shapes.length m1, .slice a2 p.funcs.length m2] 26 wr h
  have hz0 : (w.alloc (.cells #[.slice a0 p.globals.length m0, .slice a1 p.shapes.length m1, .slice a2 p.funcs.length m2] 26)).heap.size = w.heap.size + 1 := by simp
  obtain ⟨W, hW⟩ : ∃ W, W = (w.alloc (.cells #[.slice a0 p.globals.length m0, .slice a1 p.shapes.length m1, .slice a2 p.funcs.length m2] 26)) := ⟨_, rfl⟩
  rw [← hW] at hbx hz0
  have hs : ∀ wr, Below W.heap.size W wr → wr.cell? ⟨w.heap.size, 0, none⟩ = some (.slice a0 p.globals.length m0) ∧ wr.cell? ⟨w.heap.size, 1, none⟩ = some (.slice a1 p.shapes.length m1) ∧ wr.cell? ⟨w.heap.size, 2, none⟩ = some (.slice a2 p.funcs.length m2) := fun wr h => by
    rw [hz0] at h
    have hb := hbx wr h
    exact ⟨hb.1 0 _ rfl, hb.1 1 _ rfl, hb.1 2 _ rfl⟩
  have hbw : ∀ wr, Below W.heap.size W wr → Below w.heap.size w wr := fun wr h => by rw [hz0] at h; exact (hbx wr h).2.1
  have hw0 := Below.refl W.heap.size W
  have hg : ∀ wr, Below W.heap.size W wr → IntSl wr D a0 p.globals := fun wr h => hg.fr (Fr.of_below (hbw wr h) (fun _ => False)) (fun _ _ h => h)
  have hfn : ∀ wr, Below W.heap.size W wr → FnSl wr D a2 p.funcs := fun wr h => hfn.fr (Fr.of_below (hbw wr h) (fun _ => False)) (fun _ _ h => h)
  have sc := rshapes_any W D a1 p.shapes m1 (hsh.fr (Fr.of_below (hbw W hw0) (fun _ => False)) (fun _ _ h => h)) q1 q3
  have rf := fun (w : World) (x : Int) => rfield_any w x p.shapes.length (by omega)
  have fu := fun wr (h : Below W.heap.size W wr) (k : Nat) => rfuncC_any wr D (fun q hq => Nat.lt_of_lt_of_le (hD q hq) (hbw wr h).size) p _ _ _ (hPP wr (hbw wr h)) hp ⟨q0, q1, q2, q3, q4⟩ k
  have wnz := @progS_whole p
  have wzh := @progS_hit p
  have wzo := @progS_ok p
  have hwe : wholeS p = _ := rfl
  conv at hwe => rhs; unfold wholeS
  generalize wholeS p = we at *
  generalize shapesErr p.shapes = se at *
  obtain ⟨k0, k1, k2⟩ := hs W hw0
  have HW := Lib.hid hW
  have HWE := Lib.hid hwe
  clear hW hbx hz0 hwe hsh q3 q4 hPP hp hD
  have HS := Lib.hid hs; clear hs
  have HBW := Lib.hid hbw; clear hbw
  have HW0 := Lib.hid hw0; clear hw0
  have HG := Lib.hid hg; clear hg
  have HFN := Lib.hid hfn; clear hfn
  have SC := Lib.hid sc; clear sc
  have RF := Lib.hid rf; clear rf
  have FU := Lib.hid fu; clear fu
  have WNZ := Lib.hid wnz; clear wnz
  have WZH := Lib.hid wzh; clear wzh
  have WZO := Lib.hid wzo; clear wzo
  go_enter Try.func9, Try.ntmps9
  go_upto_region 1 with fail
  rw [← HW.out]
  go_wp2_with fail
  refine SC.out.mono ?_
  rintro e w1 ⟨rfl, rfl⟩
  have hwe := HWE.out
  by_cases hse : se = 0
  case neg =>
    have hs1 : (se != 0) = true := bne_iff_ne.2 hse
    rw [if_pos hse] at hwe
    subst hwe
    have hP := rcPost_of (a := 0) (b := 0) (WNZ.out hse) rfl rfl (HBW.out W HW0.out)
    clear hse
    have HP := Lib.hid hP; clear hP
    go_wp2_with fail
    go_ret3
    exact HP.out
  subst hse
  rw [if_neg (by simp)] at hwe
  by_cases hc : 16 < p.globals.length ∨ p.funcs.length < 1 ∨ 16 < p.funcs.length
  case pos =>
    rw [if_pos hc] at hwe
    subst hwe
    by_cases c1 : (16 : Int) < p.globals.length
    · clear hc
      have hP := rcPost_of (a := 0) (b := 0) (WNZ.out (by first | assumption | decide)) rfl rfl (HBW.out W HW0.out)
      have HP := Lib.hid hP; clear hP
      go_wp2_with fail
      go_ret3
      exact HP.out
    by_cases c2 : (p.funcs.length : Int) < 1
    · clear hc
      have hP := rcPost_of (a := 0) (b := 0) (WNZ.out (by first | assumption | decide)) rfl rfl (HBW.out W HW0.out)
      have HP := Lib.hid hP; clear hP
      go_wp2_with fail
      go_ret3
      exact HP.out
    by_cases c3 : (16 : Int) < p.funcs.length
    · clear hc
      have hP := rcPost_of (a := 0) (b := 0) (WNZ.out (by first | assumption | decide)) rfl rfl (HBW.out W HW0.out)
      have HP := Lib.hid hP; clear hP
      go_wp2_with fail
      go_ret3
      exact HP.out
    exact absurd hc (by omega)
  rw [if_neg hc] at hwe
  have c1 : ¬ (16 : Int) < p.globals.length := by omega
  have c2 : ¬ (p.funcs.length : Int) < 1 := by omega
  have c3 : ¬ (16 : Int) < p.funcs.length := by omega
  clear HWE
  have HWE := Lib.hid hwe
  clear hwe hc
  go_wp2_with fail
  go_loopw [6] (fun i wr => ∃ k : Nat, k ≤ p.globals.length ∧ i = .int .i64 k ∧ Below W.heap.size W wr ∧ (p.globals.take k).all (fieldB · p.shapes.length) = true) (fun i _ => p.globals.length - (intOf i).toNat)
  case atStart => exact ⟨0, Nat.zero_le _, rfl, HW0.out, rfl⟩
  case round =>
    clear k0 k1 k2
    obtain ⟨k, hk, rfl, hR, hall⟩ := hrel
    obtain ⟨k0, k1, k2⟩ := HS.out wr hR
    by_cases hlt : k < p.globals.length
    · obtain ⟨b', o', rfl, _, hx⟩ := HG.out wr hR k hlt
      have fi := fun w => RF.out w p.globals[k]
      have hsn := all_take hlt hall
      have hno := all_no (P := (fieldB · p.shapes.length)) hlt
      try dsimp only at hsn hno
      generalize p.globals[k] = x at *
      cases hwx : fieldB x p.shapes.length
      · have hwe := HWE.out
        rw [if_pos (hno hwx)] at hwe
        subst hwe
        rw [hwx] at fi
        have hbz := HBW.out wr hR
        clear hsn hno hwx hall HWE
        have FI := Lib.hid fi; clear fi
        have HR := Lib.hid hR; clear hR
        have HBZ := Lib.hid hbz; clear hbz
        go_upto_region 9 with fail
        go_quiet ((go_at_call 24; exact Calls.quiet_of_same ((FI.out _).mono fun _ _ ⟨a, b⟩ => ⟨a, b.symm⟩)))
        have hP := rcPost_of (a := 0) (b := 0) (WNZ.out (by first | assumption | decide)) rfl rfl (below_drewN HBZ.out nq)
        have HP := Lib.hid hP; clear hP
        go_wp2_with fail
        go_ret3
        exact HP.out
      · rw [hwx] at fi hsn
        clear hno hwx hall
        have FI := Lib.hid fi; clear fi
        have HR := Lib.hid hR; clear hR
        have HSN := Lib.hid hsn; clear hsn
        go_upto_region 9 with fail
        go_quiet ((go_at_call 24; exact Calls.quiet_of_same ((FI.out _).mono fun _ _ ⟨a, b⟩ => ⟨a, b.symm⟩)))
        go_wp2_with fail
        go_roundw
        case rel => exact ⟨k + 1, by omega, by go_num, below_drewN HR.out _, HSN.out⟩
        case measure => simp [intOf]; omega
    · have hk' : k = p.globals.length := by omega
      subst hk'
      rw [List.take_length] at hall
      have hwe := HWE.out
      rw [if_neg (by rw [hall]; simp)] at hwe
      have h0 : 0 < p.funcs.length := by omega
      obtain ⟨b2, o2, rfl, _, y0, y1, y2, y3, y4, g0, g1, g2, g3, g4, hfv⟩ := HFN.out wr hR 0 h0
      obtain ⟨rfl, rfl, ⟨e0, e1, rfl, _⟩, _⟩ := hfv
      rw [show (p.funcs[0]?).getD fun0 = p.funcs[0] from by simp [h0]] at hwe
      generalize p.funcs[0] = f at *
      simp only [Nat.zero_mul, Nat.add_zero] at g0 g1 g2 g3 g4
      have hbz := HBW.out wr hR
      clear hall HWE g2 g3 g4
      have HBZ := Lib.hid hbz; clear hbz
      generalize f.args.length = la at *
      generalize f.result = fr at *
      by_cases d1 : la = 0
      · subst d1
        by_cases d2 : fr = 0
        · subst d2
          rw [if_neg (by rintro (h | h) <;> omega)] at hwe
          subst hwe
          have wzh2 := WZH.out (by first | rfl | trivial)
          have wzo2 := WZO.out (by first | rfl | trivial)
          clear WZH WZO WNZ
          have WZH2 := Lib.hid wzh2; clear wzh2
          have WZO2 := Lib.hid wzo2; clear wzo2
          have HR := Lib.hid hR; clear hR
          go_wp2_with fail
          go_loopw [7] (fun i wr => ∃ k : Nat, k ≤ p.funcs.length ∧ i = .int .i64 k ∧ Below W.heap.size W wr ∧ ∀ q : Nat, q < k → (funcS p (q : Int)).1 = 0) (fun i _ => p.funcs.length - (intOf i).toNat)
          case atStart => exact ⟨0, Nat.zero_le _, rfl, HR.out, fun q hq => absurd hq (by omega)⟩
          case round =>
            clear k0 k1 k2
            obtain ⟨k, hk, rfl, hR2, hall⟩ := hrel
            obtain ⟨k0, k1, k2⟩ := HS.out wr hR2
            have hbz := HBW.out wr hR2
            by_cases hlt : k < p.funcs.length
            · have fu := FU.out wr hR2 k
              have hhit := WZH2.out k hlt hall
              have hsu : (funcS p k).1 = 0 → ∀ q : Nat, q < k + 1 → (funcS p (q : Int)).1 = 0 := fun h q hq => by
                by_cases he : q = k
                · subst he; exact h
                · exact hall q (by omega)
              unfold RFPost at fu
              generalize funcS p (k : Int) = fs at *
              obtain ⟨ie, n⟩ := fs
              dsimp only at fu hhit hsu
              clear hall hbz
              have HHIT := Lib.hid hhit; clear hhit
              have HSU := Lib.hid hsu; clear hsu
              have HR2 := Lib.hid hR2; clear hR2
              have FU := Lib.hid fu; clear fu
              go_wp2_with fail
              refine FU.out.mono ?_
              rintro e w9 ⟨rfl, hb9⟩
              have hR9 := HR2.out.trans (hb9.mono HR2.out.size)
              clear hb9
              by_cases hie : ie = 0
              · subst hie
                have hsv := HSU.out (by first | rfl | trivial)
                clear HSU HHIT
                have HSV := Lib.hid hsv; clear hsv
                have HR9 := Lib.hid hR9; clear hR9
                go_wp2_with fail
                go_roundw
                case rel => exact ⟨k + 1, by omega, by go_num, HR9.out, HSV.out⟩
                case measure => simp [intOf]; omega
              · have hie1 : (ie != 0) = true := bne_iff_ne.2 hie
                have hP := rcPost_of (HHIT.out hie) rfl rfl (HBW.out w9 hR9)
                clear HHIT HSU hie hR9
                have HP := Lib.hid hP; clear hP
                go_wp2_with fail
                go_ret3
                exact HP.out
            · have hk' : k = p.funcs.length := by omega
              subst hk'
              have hP := rcPost_of (a := 0) (b := 0) (WZO2.out hall) rfl rfl hbz
              clear hall hR2 hbz
              have HP := Lib.hid hP; clear hP
              go_wp2_with fail
              go_ret3
              exact HP.out
        · have d3 : (fr != 0) = true := bne_iff_ne.2 d2
          rw [if_pos (Or.inr d2)] at hwe
          subst hwe
          clear d2
          have hP := rcPost_of (a := 0) (b := 0) (WNZ.out (by first | assumption | decide)) rfl rfl HBZ.out
          have HP := Lib.hid hP; clear hP
          go_wp2_with fail
          go_ret3
          exact HP.out
      · have d3 : 0 < la := by omega
        have d4 : (0 : Int) < la := by omega
        rw [if_pos (Or.inl d3)] at hwe
        subst hwe
        have hP := rcPost_of (a := 0) (b := 0) (WNZ.out (by first | assumption | decide)) rfl rfl HBZ.out
        have HP := Lib.hid hP; clear hP
        go_wp2_with fail
        go_ret3
        exact HP.out
end Go.Proofs.Ytjcjhfnjamphlaa
namespace Go.Proofs.Ytjcjhfnjamphlaa
open Go.ChangeShapes Go.WideShapes Go.ChangeAt Go.RowKit
variable {H : Type} {enc : TypeId × Value → H}
set_option maxRecDepth 100000 in
/-- numbers that come in -/
theorem open_ints {w : World} {base b : Nat} {v : Value} {sp : Nat → Bool} {d : DataW H} {p : List MemPlace} (hv : Value.okWide Try.prog w .any base 22 v)
    (h : DataW.Trod enc Try.prog w b sp true 22 v d p) : ∃ (a : Option Addr) (l : List Int) (c : Nat), v = .slice a l.length c ∧ IntSl w (fun k => k < w.heap.size) a l := by
  obtain ⟨fuel, hf⟩ := h
  obtain ⟨a0, len0, cap0, rfl⟩ := okWide_slice Try.underlying22 hv
  obtain ⟨a, l, c, h1, h2, _⟩ := trodB_ints hf
  simp [Value.cells] at h1
  obtain ⟨rfl, rfl, rfl⟩ := h1
  exact ⟨_, l, _, rfl, h2⟩
end Go.Proofs.Ytjcjhfnjamphlaa
