import Derived.Test.YtjcjhfnjamphlaaGreatZBu
import Derived.Test.YtjcjhfnjamphlaaGreatZBb
import Derived.Test.YtjcjhfnjamphlaaGreatZBc
import Derived.Test.YtjcjhfnjamphlaaGreatZBs
import Derived.Test.YtjcjhfnjamphlaaGreatZAf
set_option linter.unusedVariables false
set_option linter.unusedSimpArgs false
namespace Go.Proofs.YtjcjhfnjamphlaaGreat
open Go.ChangeShapes Go.WideShapes Go.ChangeAt Go.RowKit Go.Maps
def RCPost (p : Prg) (w : World) (e : Ending) (w' : World) : Prop :=
 e = .returned (.tuple #[.int .i64 (progS p).1, .int .i64 (progS p).2.1, .int .i64 (progS p).2.2]) ∧ Below w.heap.size w w'
theorem rcPost_of {p : Prg} {E a b : Int} {x y : Nat} {w w' : World} (h : progS p = (E, x, y)) (hx : a = x) (hy : b = y) (hb : Below w.heap.size w w') : RCPost p w (.returned (.tuple #[.int .i64 E, .int .i64 a, .int .i64 b])) w' := by
 unfold RCPost
 rw [h, hx, hy]
 exact ⟨rfl, hb⟩
set_option maxRecDepth 100000 in
set_option maxHeartbeats 3200000 in
theorem rcheckC_any (w : World) (D : Nat → Prop) (hD : ∀ k, D k → k < w.heap.size) (p : Prg) (c0 c1 c2 : Value) (hv : PrgVal w D p c0 c1 c2) (hp : PrgB p) (hq : PrgR p) :
  Calls Tryz.prog 23 #[.agg #[c0, c1, c2]] w (RCPost p w) := by
 have hPP : ∀ wr, Below w.heap.size w wr → PrgVal wr D p c0 c1 c2 := fun wr hb => hv.fr (Fr.of_below hb (fun _ => False)) (fun _ _ h => h)
 obtain ⟨⟨a0, m0, rfl, hg⟩, ⟨a1, m1, rfl, hsh⟩, a2, m2, rfl, hfn⟩ := hv
 obtain ⟨q0, q1, q2, q3, q4⟩ := hq
 have hbx := fun wr h => box1 w #[.slice a0 p.globals.length m0, .slice a1 p.shapes.length m1, .slice a2 p.funcs.length m2] 26 wr h
 have hz0 : (w.alloc (.cells #[.slice a0 p.globals.length m0, .slice a1 p.shapes.length m1, .slice a2 p.funcs.length m2] 26)).heap.size = w.heap.size + 1 := by simp
 obtain ⟨W, hW⟩ : ∃ W, W = (w.alloc (.cells #[.slice a0 p.globals.length m0, .slice a1 p.shapes.length m1, .slice a2 p.funcs.length m2] 26)) := ⟨_, rfl⟩
 rw [← hW] at hbx hz0
 have hs : ∀ wr, Below W.heap.size W wr → wr.cell? ⟨w.heap.size, 0, none⟩ = some (.slice a0 p.globals.length m0) ∧ wr.cell? ⟨w.heap.size, 1, none⟩ = some (.slice a1 p.shapes.length m1) ∧ wr.cell? ⟨w.heap.size, 2, none⟩ = some (.slice a2 p.funcs.length m2) := fun wr h => by
  rw [hz0] at h
  have hb := hbx wr h
  exact ⟨hb.1 0 _ rfl, hb.1 1 _ rfl, hb.1 2 _ rfl⟩
 have hbw : ∀ wr, Below W.heap.size W wr → Below w.heap.size w wr := fun wr h => by rw [hz0] at h; exact (hbx wr h).2.1
 have hw0 := Below.refl W.heap.size W
 have hg : ∀ wr, Below W.heap.size W wr → IntSl wr D a0 p.globals := fun wr h => hg.fr (Fr.of_below (hbw wr h) (fun _ => False)) (fun _ _ h => h)
 have hfn : ∀ wr, Below W.heap.size W wr → FnSl wr D a2 p.funcs := fun wr h => hfn.fr (Fr.of_below (hbw wr h) (fun _ => False)) (fun _ _ h => h)
 have sc := rshapes_any W D a1 p.shapes m1 (hsh.fr (Fr.of_below (hbw W hw0) (fun _ => False)) (fun _ _ h => h)) q1 q3
 have rf := fun (w : World) (x : Int) => rfield_any w x p.shapes.length (by omega)
 have fu := fun wr (h : Below W.heap.size W wr) (k : Nat) => rfuncC_any wr D (fun q hq => Nat.lt_of_lt_of_le (hD q hq) (hbw wr h).size) p _ _ _ (hPP wr (hbw wr h)) hp ⟨q0, q1, q2, q3, q4⟩ k
 have wnz := @progS_whole p
 have wzh := @progS_hit p
 have wzo := @progS_ok p
 have hwe : wholeS p = _ := rfl
 conv at hwe => rhs; unfold wholeS
 generalize wholeS p = we at *
 generalize shapesErr p.shapes = se at *
 obtain ⟨k0, k1, k2⟩ := hs W hw0
 have HW := Lib.hid hW
 have HWE := Lib.hid hwe
 clear hW hbx hz0 hwe hsh q3 q4 hPP hp hD
 have HS := Lib.hid hs; clear hs
 have HBW := Lib.hid hbw; clear hbw
 have HW0 := Lib.hid hw0; clear hw0
 have HG := Lib.hid hg; clear hg
 have HFN := Lib.hid hfn; clear hfn
 have SC := Lib.hid sc; clear sc
 have RF := Lib.hid rf; clear rf
 have FU := Lib.hid fu; clear fu
 have WNZ := Lib.hid wnz; clear wnz
 have WZH := Lib.hid wzh; clear wzh
 have WZO := Lib.hid wzo; clear wzo
 go_enter Tryz.func23, Tryz.ntmps23
 go_upto_region 1 with fail
 rw [← HW.out]
 go_wp2_with fail
 refine SC.out.mono ?_
 rintro e w1 ⟨rfl, rfl⟩
 have hwe := HWE.out
 by_cases hse : se = 0
 case neg =>
  have hs1 : (se != 0) = true := bne_iff_ne.2 hse
  rw [if_pos hse] at hwe
  subst hwe
  have hP := rcPost_of (a := 0) (b := 0) (WNZ.out hse) rfl rfl (HBW.out W HW0.out)
  clear hse
  have HP := Lib.hid hP; clear hP
  go_wp2_with fail
  go_ret3
  exact HP.out
 subst hse
 rw [if_neg (by simp)] at hwe
 by_cases hc : 16 < p.globals.length ∨ p.funcs.length < 1 ∨ 16 < p.funcs.length
 case pos =>
  rw [if_pos hc] at hwe
  subst hwe
  by_cases c1 : (16 : Int) < p.globals.length
  ·clear hc
   have hP := rcPost_of (a := 0) (b := 0) (WNZ.out (by first | assumption | decide)) rfl rfl (HBW.out W HW0.out)
   have HP := Lib.hid hP; clear hP
   go_wp2_with fail
   go_ret3
   exact HP.out
  by_cases c2 : (p.funcs.length : Int) < 1
  ·clear hc
   have hP := rcPost_of (a := 0) (b := 0) (WNZ.out (by first | assumption | decide)) rfl rfl (HBW.out W HW0.out)
   have HP := Lib.hid hP; clear hP
   go_wp2_with fail
   go_ret3
   exact HP.out
  by_cases c3 : (16 : Int) < p.funcs.length
  ·clear hc
   have hP := rcPost_of (a := 0) (b := 0) (WNZ.out (by first | assumption | decide)) rfl rfl (HBW.out W HW0.out)
   have HP := Lib.hid hP; clear hP
   go_wp2_with fail
   go_ret3
   exact HP.out
  exact absurd hc (by omega)
 rw [if_neg hc] at hwe
 have c1 : ¬ (16 : Int) < p.globals.length := by omega
 have c2 : ¬ (p.funcs.length : Int) < 1 := by omega
 have c3 : ¬ (16 : Int) < p.funcs.length := by omega
 clear HWE
 have HWE := Lib.hid hwe
 clear hwe hc
 go_wp2_with fail
 go_loopw [6] (fun i wr => ∃ k : Nat, k ≤ p.globals.length ∧ i = .int .i64 k ∧ Below W.heap.size W wr ∧ (p.globals.take k).all (fieldB · p.shapes.length) = true) (fun i _ => p.globals.length - (intOf i).toNat)
 case atStart => exact ⟨0, Nat.zero_le _, rfl, HW0.out, rfl⟩
 case round =>
  clear k0 k1 k2
  obtain ⟨k, hk, rfl, hR, hall⟩ := hrel
  obtain ⟨k0, k1, k2⟩ := HS.out wr hR
  by_cases hlt : k < p.globals.length
  ·obtain ⟨b', o', rfl, _, hx⟩ := HG.out wr hR k hlt
   have fi := fun w => RF.out w p.globals[k]
   have hsn := all_take hlt hall
   have hno := all_no (P := (fieldB · p.shapes.length)) hlt
   try dsimp only at hsn hno
   generalize p.globals[k] = x at *
   cases hwx : fieldB x p.shapes.length
   ·have hwe := HWE.out
    rw [if_pos (hno hwx)] at hwe
    subst hwe
    rw [hwx] at fi
    have hbz := HBW.out wr hR
    clear hsn hno hwx hall HWE
    have FI := Lib.hid fi; clear fi
    have HR := Lib.hid hR; clear hR
    have HBZ := Lib.hid hbz; clear hbz
    go_upto_region 9 with fail
    go_quiet ((go_at_call 58; exact Calls.quiet_of_same ((FI.out _).mono fun _ _ ⟨a, b⟩ => ⟨a, b.symm⟩)))
    have hP := rcPost_of (a := 0) (b := 0) (WNZ.out (by first | assumption | decide)) rfl rfl (below_drewN HBZ.out nq)
    have HP := Lib.hid hP; clear hP
    go_wp2_with fail
    go_ret3
    exact HP.out
   ·rw [hwx] at fi hsn
    clear hno hwx hall
    have FI := Lib.hid fi; clear fi
    have HR := Lib.hid hR; clear hR
    have HSN := Lib.hid hsn; clear hsn
    go_upto_region 9 with fail
    go_quiet ((go_at_call 58; exact Calls.quiet_of_same ((FI.out _).mono fun _ _ ⟨a, b⟩ => ⟨a, b.symm⟩)))
    go_wp2_with fail
    go_roundw
    case rel => exact ⟨k + 1, by omega, by go_num, below_drewN HR.out _, HSN.out⟩
    case measure => simp [intOf]; omega
  ·have hk' : k = p.globals.length := by omega
   subst hk'
   rw [List.take_length] at hall
   have hwe := HWE.out
   rw [if_neg (by rw [hall]; simp)] at hwe
   have h0 : 0 < p.funcs.length := by omega
   obtain ⟨b2, o2, rfl, _, y0, y1, y2, y3, y4, g0, g1, g2, g3, g4, hfv⟩ := HFN.out wr hR 0 h0
   obtain ⟨rfl, rfl, ⟨e0, e1, rfl, _⟩, _⟩ := hfv
   rw [show (p.funcs[0]?).getD fun0 = p.funcs[0] from by simp [h0]] at hwe
   generalize p.funcs[0] = f at *
   simp only [Nat.zero_mul, Nat.add_zero] at g0 g1 g2 g3 g4
   have hbz := HBW.out wr hR
   clear hall HWE g2 g3 g4
   have HBZ := Lib.hid hbz; clear hbz
   generalize f.args.length = la at *
   generalize f.result = fr at *
   by_cases d1 : la = 0
   ·subst d1
    by_cases d2 : fr = 0
    ·subst d2
     rw [if_neg (by rintro (h | h) <;> omega)] at hwe
     subst hwe
     have wzh2 := WZH.out (by first | rfl | trivial)
     have wzo2 := WZO.out (by first | rfl | trivial)
     clear WZH WZO WNZ
     have WZH2 := Lib.hid wzh2; clear wzh2
     have WZO2 := Lib.hid wzo2; clear wzo2
     have HR := Lib.hid hR; clear hR
     go_wp2_with fail
     go_loopw [7] (fun i wr => ∃ k : Nat, k ≤ p.funcs.length ∧ i = .int .i64 k ∧ Below W.heap.size W wr ∧ ∀ q : Nat, q < k → (funcS p (q : Int)).1 = 0) (fun i _ => p.funcs.length - (intOf i).toNat)
     case atStart => exact ⟨0, Nat.zero_le _, rfl, HR.out, fun q hq => absurd hq (by omega)⟩
     case round =>
      clear k0 k1 k2
      obtain ⟨k, hk, rfl, hR2, hall⟩ := hrel
      obtain ⟨k0, k1, k2⟩ := HS.out wr hR2
      have hbz := HBW.out wr hR2
      by_cases hlt : k < p.funcs.length
      ·have fu := FU.out wr hR2 k
       have hhit := WZH2.out k hlt hall
       have hsu : (funcS p k).1 = 0 → ∀ q : Nat, q < k + 1 → (funcS p (q : Int)).1 = 0 := fun h q hq => by
        by_cases he : q = k
        ·subst he; exact h
        ·exact hall q (by omega)
       unfold RFPost at fu
       generalize funcS p (k : Int) = fs at *
       obtain ⟨ie, n⟩ := fs
       dsimp only at fu hhit hsu
       clear hall hbz
       have HHIT := Lib.hid hhit; clear hhit
       have HSU := Lib.hid hsu; clear hsu
       have HR2 := Lib.hid hR2; clear hR2
       have FU := Lib.hid fu; clear fu
       go_wp2_with fail
       refine FU.out.mono ?_
       rintro e w9 ⟨rfl, hb9⟩
       have hR9 := HR2.out.trans (hb9.mono HR2.out.size)
       clear hb9
       by_cases hie : ie = 0
       ·subst hie
        have hsv := HSU.out (by first | rfl | trivial)
        clear HSU HHIT
        have HSV := Lib.hid hsv; clear hsv
        have HR9 := Lib.hid hR9; clear hR9
        go_wp2_with fail
        go_roundw
        case rel => exact ⟨k + 1, by omega, by go_num, HR9.out, HSV.out⟩
        case measure => simp [intOf]; omega
       ·have hie1 : (ie != 0) = true := bne_iff_ne.2 hie
        have hP := rcPost_of (HHIT.out hie) rfl rfl (HBW.out w9 hR9)
        clear HHIT HSU hie hR9
        have HP := Lib.hid hP; clear hP
        go_wp2_with fail
        go_ret3
        exact HP.out
      ·have hk' : k = p.funcs.length := by omega
       subst hk'
       have hP := rcPost_of (a := 0) (b := 0) (WZO2.out hall) rfl rfl hbz
       clear hall hR2 hbz
       have HP := Lib.hid hP; clear hP
       go_wp2_with fail
       go_ret3
       exact HP.out
    ·have d3 : (fr != 0) = true := bne_iff_ne.2 d2
     rw [if_pos (Or.inr d2)] at hwe
     subst hwe
     clear d2
     have hP := rcPost_of (a := 0) (b := 0) (WNZ.out (by first | assumption | decide)) rfl rfl HBZ.out
     have HP := Lib.hid hP; clear hP
     go_wp2_with fail
     go_ret3
     exact HP.out
   ·have d3 : 0 < la := by omega
    have d4 : (0 : Int) < la := by omega
    rw [if_pos (Or.inl d3)] at hwe
    subst hwe
    have hP := rcPost_of (a := 0) (b := 0) (WNZ.out (by first | assumption | decide)) rfl rfl HBZ.out
    have HP := Lib.hid hP; clear hP
    go_wp2_with fail
    go_ret3
    exact HP.out
end Go.Proofs.YtjcjhfnjamphlaaGreat
namespace Go.Proofs.YtjcjhfnjamphlaaGreat
open Go.ChangeShapes Go.WideShapes Go.ChangeAt Go.RowKit Go.Maps
def rowsE : Elem Tryz.prog Hd where
 e := 39
 t := 35
 size := 1
 bytes := 24
 zero := .slice none 0 0
 enc := fun h => [h.val]
 ht := Tryz.underlying35
 info := by kernel_rfl
 hzs := rfl
 hsz := by decide
 hby := by decide
 henc := fun _ => rfl
 hone := fun x u h => by simp at h; subst h; rfl
theorem le_same {K L : List Int} (h : Le K L) (h2 : Le L K) : K = L := by
 refine List.ext_getElem h.1 fun j hj hj2 => ?_
 have e := h.2 j
 have e2 := h2.2 j
 simp only [List.getElem?_eq_getElem hj, List.getElem?_eq_getElem hj2, Option.getD_some] at e e2
 omega
theorem flow_same {p : Prg} {f : Fun} {M N : Flo} (h : IsFlow p f M) (h2 : IsFlow p f N) : M = N := by
 funext q
 cases hm : M q with
 | none =>
  cases hn : N q with
  | none => rfl
  | some K =>
   obtain ⟨L, hL, _⟩ := h2.2 M h.1 q K hn
   rw [hm] at hL
   cases hL
 | some K =>
  obtain ⟨L, hL, hle⟩ := h.2 N h2.1 q K hm
  obtain ⟨K2, hK2, hle2⟩ := h2.2 M h.1 q L hL
  rw [hm] at hK2
  injection hK2 with e
  subst e
  rw [hL, le_same hle hle2]
theorem FlowErr.uniq {p : Prg} {E E' : Int} {fn fn' pc pc' : Nat} (h : FlowErr p E fn pc) (h2 : FlowErr p E' fn' pc') : E = E' ∧ fn = fn' ∧ pc = pc' := by
 obtain ⟨hE, h⟩ := h
 obtain ⟨hE', h2⟩ := h2
 rcases h with h | ⟨h0, hn, Ms, hf, hz, hx⟩
 ·rcases h2 with h2 | ⟨h0, _⟩
  ·rw [h] at h2
   injection h2 with e1 e2
   injection e2 with e2 e3
   exact ⟨e1, e2, e3⟩
  ·rw [h] at h0
   exact absurd h0 hE
 ·rcases h2 with h2 | ⟨h0', hn', Ms', hf', hz', hx'⟩
  ·rw [h2] at h0
   exact absurd h0 hE'
  ·rcases Nat.lt_trichotomy fn fn' with hlt | he | hlt
   ·have h1 := flow_same (hf fn (Nat.le_refl _)) (hf' fn (by omega))
    have h3 := hz' fn hlt
    rw [← h1, hx] at h3
    exact absurd h3 hE
   ·subst he
    have h1 := flow_same (hf fn (Nat.le_refl _)) (hf' fn (Nat.le_refl _))
    rw [h1, hx'] at hx
    injection hx with e1 e2
    exact ⟨e1.symm, rfl, e2.symm⟩
   ·have h1 := flow_same (hf' fn' (Nat.le_refl _)) (hf fn' (by omega))
    have h3 := hz fn' hlt
    rw [← h1, hx'] at h3
    exact absurd h3 hE'
theorem FlowErr.not_ok {p : Prg} {E : Int} {fn pc : Nat} {Ms : Nat → Flo} (h : FlowErr p E fn pc) (h0 : (progS p).1 = 0) (hms : ∀ i, i < p.funcs.length → IsFlow p (fnAt p i) (Ms i) ∧ (flowE p (fnAt p i) (Ms i)).1 = 0) : False := by
 obtain ⟨hE, h⟩ := h
 rcases h with h | ⟨_, hn, Ms', hf, _, hx⟩
 ·rw [h] at h0
  exact hE h0
 ·have h1 := flow_same (hf fn (Nat.le_refl _)) (hms fn hn).1
  have h2 := (hms fn hn).2
  rw [← h1, hx] at h2
  exact hE h2
def VerRow (p : Prg) (w : World) (B : Nat) (v : Value) (k : Nat) (Ms : Nat → Flo) (hs : List Hd) : Prop :=
 Own rowsE w B v hs ∧ hs.length = k ∧ ∀ i (h : i < hs.length), ∃ b1 b2 V, hs[i] = ⟨some ⟨b1, 0, none⟩, (fnAt p i).code.length, (fnAt p i).code.length⟩ ∧ Rf w (fnAt p i).code.length b1 b2 V (Ms i) ∧
  (B ≤ b1 ∧ b1 < w.heap.size ∧ v.ownBlock ≠ some b1) ∧ (B ≤ b2 ∧ b2 < w.heap.size ∧ v.ownBlock ≠ some b2) ∧ ∀ q, V q → B ≤ q ∧ v.ownBlock ≠ some q
def VerOk (p : Prg) (w : World) (B : Nat) (v : Value) (k : Nat) (Ms : Nat → Flo) : Prop := ∃ hs, VerRow p w B v k Ms hs
theorem VerOk.nil (p : Prg) (w : World) (B : Nat) (Ms : Nat → Flo) : VerOk p w B (.slice none 0 0) 0 Ms := ⟨[], Own.nil _ _ _, rfl, fun i h => by cases h⟩
theorem VerOk.below {p : Prg} {w w' : World} {B k : Nat} {v : Value} {Ms : Nat → Flo} (h : VerOk p w B v k Ms) (hb : Below w.heap.size w w') : VerOk p w' B v k Ms := by
 obtain ⟨hs, h1, h2, h3⟩ := h
 refine ⟨hs, h1.below hb, h2, fun i hi => ?_⟩
 obtain ⟨b1, b2, V, e, hr, a1, a2, a3⟩ := h3 i hi
 have := hb.size
 exact ⟨b1, b2, V, e, hr.below hb, ⟨a1.1, by omega, a1.2.2⟩, ⟨a2.1, by omega, a2.2.2⟩, a3⟩
theorem VerOk.base {p : Prg} {w : World} {B B' k : Nat} {v : Value} {Ms : Nat → Flo} (h : VerOk p w B v k Ms) (hb : B' ≤ B) : VerOk p w B' v k Ms := by
 obtain ⟨hs, h1, h2, h3⟩ := h
 refine ⟨hs, h1.base (fun k hk => Nat.le_trans hb (h1.lt hk).1), h2, fun i hi => ?_⟩
 obtain ⟨b1, b2, V, e, hr, a1, a2, a3⟩ := h3 i hi
 exact ⟨b1, b2, V, e, hr, ⟨by omega, a1.2⟩, ⟨by omega, a2.2⟩, fun q hq => ⟨by have := (a3 q hq).1; omega, (a3 q hq).2⟩⟩
theorem Rf.lt {w : World} {N b1 b2 : Nat} {V : Nat → Prop} {M : Flo} (h : Rf w N b1 b2 V M) : b1 < w.heap.size ∧ b2 < w.heap.size := by
 obtain ⟨R, r1, _⟩ := h.rows
 obtain ⟨I, i1, _⟩ := h.marks
 exact ⟨heap_lt r1, heap_lt i1⟩
theorem VerOk.snoc {p : Prg} {w w' : World} {B k b1 b2 : Nat} {v v' : Value} {Ms : Nat → Flo} {M : Flo} {V : Nat → Prop} {hs : List Hd} (h : VerRow p w B v k Ms hs) (hrf : Rf w (fnAt p k).code.length b1 b2 V M) (hb1 : B ≤ b1 ∧ v.ownBlock ≠ some b1) (hb2 : B ≤ b2 ∧ v.ownBlock ≠ some b2) (hV : ∀ q, V q → B ≤ q ∧ v.ownBlock ≠ some q)
  (hown : Own rowsE w' B v' (hs ++ [⟨some ⟨b1, 0, none⟩, (fnAt p k).code.length, (fnAt p k).code.length⟩])) (hg : w.grownBy w' v.ownBlock) (hf : Fresh w v v') : VerOk p w' B v' (k + 1) (fun i => if i = k then M else Ms i) := by
 obtain ⟨h1, h2, h3⟩ := h
 have hfr : Fr (fun q => v.ownBlock = some q) w w' := (Fr.refl (fun q => v.ownBlock = some q) w).grown hg (fun q hq _ => hq)
 have hne : ∀ q, q < w.heap.size → v.ownBlock ≠ some q → v'.ownBlock ≠ some q := fun q hq hn e => by
  rcases hf q e with e' | e'
  ·exact hn e'
  ·omega
 have hsz := hg.size
 refine ⟨hs ++ [⟨some ⟨b1, 0, none⟩, (fnAt p k).code.length, (fnAt p k).code.length⟩], hown, by simp [h2], fun i hi => ?_⟩
 by_cases hik : i < hs.length
 ·rw [List.getElem_append_left hik]
  obtain ⟨c1, c2, V', e, hr, a1, a2, a3⟩ := h3 i hik
  have hne' : i ≠ k := by omega
  refine ⟨c1, c2, V', e, ?_, ⟨a1.1, by omega, hne c1 a1.2.1 a1.2.2⟩, ⟨a2.1, by omega, hne c2 a2.2.1 a2.2.2⟩, fun q hq => ⟨(a3 q hq).1, hne q (hr.v q hq).2.2 (a3 q hq).2⟩⟩
  show Rf w' _ c1 c2 V' (if i = k then M else Ms i)
  rw [if_neg hne']
  exact hr.fr hfr a1.2.2 a2.2.2 (fun q hq => (a3 q hq).2)
 ·have hi' : i = k := by simp at hi; omega
  subst hi'
  rw [List.getElem_append_right (by omega)]
  have hl := hrf.lt
  refine ⟨b1, b2, V, by simp [h2], ?_, ⟨hb1.1, by omega, hne b1 hl.1 hb1.2⟩, ⟨hb2.1, by omega, hne b2 hl.2 hb2.2⟩, fun q hq => ⟨(hV q hq).1, hne q (hrf.v q hq).2.2 (hV q hq).2⟩⟩
  show Rf w' _ b1 b2 V (if i = i then M else Ms i)
  rw [if_pos rfl]
  exact hrf.fr hfr hb1.2 hb2.2 (fun q hq => (hV q hq).2)
def RVerPost (p : Prg) (w : World) (e : Ending) (w' : World) : Prop := Below w.heap.size w w' ∧
 ((∃ E fn pc, FlowErr p E fn pc ∧ e = .returned (.tuple #[.slice none 0 0, .int .i64 E, .int .i64 (fn : Nat), .int .i64 (pc : Nat)])) ∨
  ((progS p).1 = 0 ∧ ∃ Ms v, (∀ i, i < p.funcs.length → IsFlow p (fnAt p i) (Ms i) ∧ (flowE p (fnAt p i) (Ms i)).1 = 0) ∧ e = .returned (.tuple #[v, .int .i64 0, .int .i64 0, .int .i64 0]) ∧ VerOk p w' w.heap.size v p.funcs.length Ms))
theorem rverPost_err {p : Prg} {E : Int} {fn pc : Nat} {w w' : World} (h : FlowErr p E fn pc) (hb : Below w.heap.size w w') : RVerPost p w (.returned (.tuple #[.slice none 0 0, .int .i64 E, .int .i64 fn, .int .i64 pc])) w' := ⟨hb, .inl ⟨E, fn, pc, h, rfl⟩⟩
theorem rverPost_ok {p : Prg} {w w' : World} {Ms : Nat → Flo} {v : Value} (hb : Below w.heap.size w w') (h0 : (progS p).1 = 0) (hms : ∀ i, i < p.funcs.length → IsFlow p (fnAt p i) (Ms i) ∧ (flowE p (fnAt p i) (Ms i)).1 = 0) (hv : VerOk p w' w.heap.size v p.funcs.length Ms) :
  RVerPost p w (.returned (.tuple #[v, .int .i64 0, .int .i64 0, .int .i64 0])) w' := ⟨hb, .inr ⟨h0, Ms, v, hms, rfl, hv⟩⟩
set_option maxRecDepth 100000 in
set_option maxHeartbeats 6400000 in
theorem rverify_any (w : World) (D : Nat → Prop) (hD : ∀ k, D k → k < w.heap.size) (p : Prg) (c0 c1 c2 : Value) (hv : PrgVal w D p c0 c1 c2) (hp : PrgB p) (hq : PrgR p) :
  Calls Tryz.prog 7 #[.agg #[c0, c1, c2]] w (RVerPost p w) := by
 have hP : ∀ wr, Below w.heap.size w wr → PrgVal wr D p c0 c1 c2 := fun wr hb => hv.fr (Fr.of_below hb (fun _ => False)) (fun _ _ h => h)
 have ck := fun W' (h : Below w.heap.size w W') => rcheckC_any W' D (fun k hk => Nat.lt_of_lt_of_le (hD k hk) h.size) p c0 c1 c2 (hP W' h) hp hq
 unfold RCPost at ck
 have fl := fun W' (h : Below w.heap.size w W') (hf : PrgFit p) (k : Nat) (hk : k < p.funcs.length) => rflow_any W' D p c0 c1 c2 (hP W' h) hp hq hf k hk
 obtain ⟨⟨a0, m0, rfl, _⟩, ⟨a1, m1, rfl, _⟩, a2, m2, rfl, _⟩ := hv
 have hbx := fun wr h => box1 w #[.slice a0 p.globals.length m0, .slice a1 p.shapes.length m1, .slice a2 p.funcs.length m2] 26 wr h
 have hz0 : (w.alloc (.cells #[.slice a0 p.globals.length m0, .slice a1 p.shapes.length m1, .slice a2 p.funcs.length m2] 26)).heap.size = w.heap.size + 1 := by simp
 obtain ⟨W, hW⟩ : ∃ W, W = (w.alloc (.cells #[.slice a0 p.globals.length m0, .slice a1 p.shapes.length m1, .slice a2 p.funcs.length m2] 26)) := ⟨_, rfl⟩
 rw [← hW] at hbx hz0
 have hs : ∀ wr, Below W.heap.size W wr → wr.cell? ⟨w.heap.size, 0, none⟩ = some (.slice a0 p.globals.length m0) ∧ wr.cell? ⟨w.heap.size, 1, none⟩ = some (.slice a1 p.shapes.length m1) ∧ wr.cell? ⟨w.heap.size, 2, none⟩ = some (.slice a2 p.funcs.length m2) := fun wr h => by
  rw [hz0] at h
  have hb := hbx wr h
  exact ⟨hb.1 0 _ rfl, hb.1 1 _ rfl, hb.1 2 _ rfl⟩
 have hbw : ∀ wr, Below W.heap.size W wr → Below w.heap.size w wr := fun wr h => by rw [hz0] at h; exact (hbx wr h).2.1
 have hw0 := Below.refl W.heap.size W
 obtain ⟨⟨E, ea, eb⟩, hps⟩ : ∃ x : Int × Nat × Nat, x = progS p := ⟨_, rfl⟩
 rw [← hps] at ck
 obtain ⟨k0, k1, k2⟩ := hs W hw0
 have HW := Lib.hid hW
 have HZ0 := Lib.hid hz0
 clear hW hbx hz0 hP hp hq hD
 have HS := Lib.hid hs; clear hs
 have HBW := Lib.hid hbw; clear hbw
 have HPS := Lib.hid hps; clear hps
 have CK := Lib.hid ck; clear ck
 have FL := Lib.hid fl; clear fl
 have HW0 := Lib.hid hw0; clear hw0
 go_enter Tryz.func7, Tryz.ntmps7
 go_upto_region 1 with fail
 rw [← HW.out]
 go_wp2_with fail
 refine (CK.out W (HBW.out W HW0.out)).mono ?_
 rintro e w1 ⟨rfl, hb1⟩
 have HB1 := Lib.hid hb1
 clear hb1 k0 k1 k2
 by_cases hE : E = 0
 case neg =>
  have hEb : (E != 0) = true := by simpa using hE
  have HPP2 := Lib.hid (rverPost_err (show FlowErr p E ea eb from ⟨hE, .inl HPS.out.symm⟩) (HBW.out _ HB1.out))
  clear hE
  go_wp2_with (with_reducible refine bodyPost_ret ?_ rfl HPP2.out; simp [results, Tryz.results7, go_sem])
 subst hE
 have hp0 : (progS p).1 = 0 := by rw [← HPS.out]
 have HP0 := Lib.hid hp0
 have HFIT := Lib.hid (prgFit hp0)
 clear hp0
 go_upto_region 6 with fail
 go_loopw [9, 10] (fun v i wr => ∃ (k : Nat) (Ms : Nat → Flo), k ≤ p.funcs.length ∧ i = .int .i64 k ∧ VerOk p wr W.heap.size v k Ms ∧ (∀ i, i < k → IsFlow p (fnAt p i) (Ms i) ∧ (flowE p (fnAt p i) (Ms i)).1 = 0) ∧ Below W.heap.size W wr) (fun _ i _ => p.funcs.length - (intOf i).toNat)
 case atStart => exact ⟨0, fun _ _ => none, Nat.zero_le _, rfl, VerOk.nil _ _ _ _, fun i hi => absurd hi (Nat.not_lt_zero _), HB1.out⟩
 case round =>
  obtain ⟨k, Ms, hk, rfl, hvo, hms, hbr⟩ := hrel
  obtain ⟨k0, k1, k2⟩ := HS.out wr hbr
  by_cases hlt : k < p.funcs.length
  case neg =>
   have hk' : k = p.funcs.length := by omega
   rw [hk'] at hvo hms
   have HPP2 := Lib.hid (rverPost_ok (HBW.out wr hbr) HP0.out hms (hvo.base (by have := HZ0.out; omega)))
   have hkn : ¬ (k : Int) < (p.funcs.length : Int) := by omega
   clear hvo hms hbr hk hk'
   go_wp2_with (with_reducible refine bodyPost_ret ?_ rfl HPP2.out; simp [results, Tryz.results7, go_sem])
  have hklt : (k : Int) < (p.funcs.length : Int) := by omega
  have i1 : IntKind.i64.wrap ((k : Int) + 1) = (k : Int) + 1 := IntWalk.i64_in _ (by have := HFIT.out.funcs2; omega)
  have hfa : fnAt p k = p.funcs[k] := by unfold fnAt; simp [hlt]
  have hfl := FL.out wr (HBW.out wr hbr) HFIT.out k hlt
  rw [← hfa] at hfl
  have HFL := Lib.hid hfl
  have HVO := Lib.hid hvo
  have HMS := Lib.hid hms
  have HBR := Lib.hid hbr
  have HLT := Lib.hid hlt
  clear hfl hvo hms hbr hfa hlt
  go_wp2_with fail
  refine HFL.out.mono ?_
  rintro e w2 ⟨M, b1, b2, V, hflow, rfl, hrf, hb1, hb2, hV, hb⟩
  have hB2 := HBR.out.trans (hb.mono HBR.out.size)
  have hvo2 := HVO.out.below hb
  obtain ⟨⟨E2, q2⟩, hE2⟩ : ∃ x : Int × Nat, x = flowE p (fnAt p k) M := ⟨_, rfl⟩
  rw [← hE2]
  have hms2 : ∀ i, i ≤ k → IsFlow p (fnAt p i) (if i = k then M else Ms i) := fun i hi => by
   by_cases e : i = k
   ·subst e; rw [if_pos rfl]; exact hflow
   ·rw [if_neg e]; exact (HMS.out i (by omega)).1
  have hms3 : ∀ i, i < k → (flowE p (fnAt p i) (if i = k then M else Ms i)).1 = 0 := fun i hi => by rw [if_neg (by omega)]; exact (HMS.out i hi).2
  clear k0 k1 k2
  by_cases hE3 : E2 = 0
  case neg =>
   have hEb : (E2 != 0) = true := by simpa using hE3
   have HPP2 := Lib.hid (rverPost_err (show FlowErr p E2 k q2 from ⟨hE3, .inr ⟨HP0.out, HLT.out, fun i => if i = k then M else Ms i, hms2, hms3, by show flowE p (fnAt p k) (if k = k then M else Ms k) = _; rw [if_pos rfl]; exact hE2.symm⟩⟩) (HBW.out _ hB2))
   clear hE3 hE2 hms2 hms3 hflow hrf hb1 hb2 hV hb hB2 hvo2
   dsimp only
   go_wp2_with (with_reducible refine bodyPost_ret ?_ rfl HPP2.out; simp [results, Tryz.results7, go_sem])
  subst hE3
  have hb3 := (Below.refl w2.heap.size w2).alloc (Nat.le_refl _) (.cells #[.slice (some ⟨b1, 0, none⟩) (fnAt p k).code.length (fnAt p k).code.length] 39)
  have hB3 := hB2.trans (hb3.mono hB2.size)
  obtain ⟨hs, hvr⟩ := hvo2.below hb3
  have hrf3 := hrf.below hb3
  have hlt2 : ∀ q, wr.heap.size ≤ q → Value.ownBlock _ ≠ some q := fun q hq e => by
   obtain ⟨h0, hv0⟩ := HVO.out
   have := (hv0.1.lt e).2
   omega
  have hwr : W.heap.size ≤ wr.heap.size := HBR.out.size
  have hkl := hvr.2.1
  have HVR := Lib.hid hvr
  have HRF3 := Lib.hid hrf3
  have HB3 := Lib.hid hB3
  have HX1 := Lib.hid (And.intro (Nat.le_trans hwr hb1) (hlt2 b1 hb1))
  have HX2 := Lib.hid (And.intro (Nat.le_trans hwr hb2) (hlt2 b2 hb2))
  have HX3 := Lib.hid (fun q (hq : V q) => And.intro (Nat.le_trans hwr (hV q hq)) (hlt2 q (hV q hq)))
  have HFLOW := Lib.hid hflow
  have HE2 := Lib.hid hE2
  have HMS2 := Lib.hid hms2
  have HMS3 := Lib.hid hms3
  have HKL := Lib.hid hkl
  have HWSZ := Lib.hid hB3.size
  clear hb3 hB3 hvr hrf3 hlt2 hwr hkl hrf hb1 hb2 hV hb hB2 hvo2 hflow hE2 hms2 hms3
  go_wp2_with (at_builtin; refine append_fresh rowsE rfl (.tmp 44) (.tmp 46) rfl W.heap.size hs [⟨some ⟨b1, 0, none⟩, (fnAt p k).code.length, (fnAt p k).code.length⟩] _ rfl HVR.out.1 w2.heap.size 0 1 rfl (CellsAt.new _ _ _ _) ?c1 HWSZ.out ?_)
  case c1 => have := HKL.out; have := HFIT.out.funcs2; simp; omega
  intro v5 w5 hown5 hg5 hf5
  have hvo5 := VerOk.snoc (M := M) HVR.out HRF3.out HX1.out HX2.out HX3.out hown5 hg5 hf5
  have hB5 := HB3.out.grown hg5 HB3.out.size (fun q hq => (HVR.out.1.lt hq).1)
  have hms5 : ∀ i, i < k + 1 → IsFlow p (fnAt p i) (if i = k then M else Ms i) ∧ (flowE p (fnAt p i) (if i = k then M else Ms i)).1 = 0 := fun i hi => by
   refine ⟨HMS2.out i (by omega), ?_⟩
   by_cases e : i = k
   ·subst e
    rw [if_pos rfl, ← HE2.out]
   ·exact HMS3.out i (by omega)
  have HVO5 := Lib.hid hvo5
  have HB5 := Lib.hid hB5
  have HMS5 := Lib.hid hms5
  clear hvo5 hB5 hms5 hown5 hg5 hf5
  go_wp2_with fail
  go_roundw
  case rel => exact ⟨k + 1, fun i => if i = k then M else Ms i, HLT.out, by go_num, HVO5.out, HMS5.out, HB5.out⟩
  case measure => simp [intOf]; omega
end Go.Proofs.YtjcjhfnjamphlaaGreat
