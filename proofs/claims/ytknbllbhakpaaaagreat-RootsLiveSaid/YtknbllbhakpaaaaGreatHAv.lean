/- Walk: check.front: why a function may not be, but for its instructions. Walks: shape.Check, the reference's Shapes. Walk: check.whole: why a program may not be, but for its functions. -/
import Derived.Test.YtknbllbhakpaaaaGreatHAo
import Derived.Test.YtknbllbhakpaaaaGreatHAg
import Derived.Test.YtknbllbhakpaaaaGreatHAc
import Derived.BigRegion
set_option linter.unusedVariables false
set_option linter.unusedSimpArgs false
namespace Go.Proofs.YtknbllbhakpaaaaGreat
open Go.ChangeShapes Go.WideShapes Go.ChangeAt Go.RowKit Go.Maps
set_option maxRecDepth 100000 in
set_option maxHeartbeats 3200000 in
theorem frontC_any (w : World) (D : Nat → Prop) (hD : ∀ k, D k → k < w.heap.size) (p : Prg) (f : Fun) (c0 c1 c2 d0 d3 d4 : Value) (hv : PrgVal w D p c0 c1 c2) (hf : FunVal w D f d0 (.int .i64 f.result) (.int .i64 f.slots) d3 d4) (hB : FunB f) (hls : p.shapes.length ≤ 3000) (hla : f.args.length ≤ 3000) (hlo : f.objects.length ≤ 3000) (hlc : f.code.length ≤ 3000) :
    Calls Tryz.prog 111 #[.agg #[c0, c1, c2], .agg #[d0, .int .i64 f.result, .int .i64 f.slots, d3, d4]] w fun e w' => e = .returned (.int .i64 (frontS p f)) ∧ Below w.heap.size w w' := by
  obtain ⟨⟨a0, m0, rfl, _⟩, ⟨a1, m1, rfl, _⟩, a2, m2, rfl, _⟩ := hv
  obtain ⟨_, _, ⟨e0, e1, rfl, ha⟩, ⟨e2, e3, rfl, ho⟩, e4, e5, rfl, _⟩ := hf
  obtain ⟨fa, fr, fs, fo, fc⟩ := f
  obtain ⟨bv, br, _, bo, _⟩ := hB
  dsimp only at ha ho bv br bo hla hlo hlc ⊢
  have hbx := fun wr h => box2 w #[.slice a0 p.globals.length m0, .slice a1 p.shapes.length m1, .slice a2 p.funcs.length m2] #[.slice e0 fa.length e1, .int .i64 fr, .int .i64 fs, .slice e2 fo.length e3, .slice e4 fc.length e5] 34 31 wr h
  have hz0 : ((w.alloc (.cells #[.slice a0 p.globals.length m0, .slice a1 p.shapes.length m1, .slice a2 p.funcs.length m2] 34)).alloc (.cells #[.slice e0 fa.length e1, .int .i64 fr, .int .i64 fs, .slice e2 fo.length e3, .slice e4 fc.length e5] 31)).heap.size = w.heap.size + 2 := by simp
  obtain ⟨W, hW⟩ : ∃ W, W = (w.alloc (.cells #[.slice a0 p.globals.length m0, .slice a1 p.shapes.length m1, .slice a2 p.funcs.length m2] 34)).alloc (.cells #[.slice e0 fa.length e1, .int .i64 fr, .int .i64 fs, .slice e2 fo.length e3, .slice e4 fc.length e5] 31) := ⟨_, rfl⟩
  rw [← hW] at hbx hz0
  have hs : ∀ wr, Below W.heap.size W wr → wr.cell? ⟨w.heap.size, 0, none⟩ = some (.slice a0 p.globals.length m0) ∧ wr.cell? ⟨w.heap.size, 1, none⟩ = some (.slice a1 p.shapes.length m1) ∧ wr.cell? ⟨w.heap.size, 2, none⟩ = some (.slice a2 p.funcs.length m2) ∧ wr.cell? ⟨w.heap.size + 1, 0, none⟩ = some (.slice e0 fa.length e1) ∧ wr.cell? ⟨w.heap.size + 1, 1, none⟩ = some (.int .i64 fr) ∧ wr.cell? ⟨w.heap.size + 1, 2, none⟩ = some (.int .i64 fs) ∧ wr.cell? ⟨w.heap.size + 1, 3, none⟩ = some (.slice e2 fo.length e3) ∧ wr.cell? ⟨w.heap.size + 1, 4, none⟩ = some (.slice e4 fc.length e5) := fun wr h => by
    rw [hz0] at h
    have hb := hbx wr h
    exact ⟨hb.1 0 _ rfl, hb.1 1 _ rfl, hb.1 2 _ rfl, hb.2.1 0 _ rfl, hb.2.1 1 _ rfl, hb.2.1 2 _ rfl, hb.2.1 3 _ rfl, hb.2.1 4 _ rfl⟩
  have hbw : ∀ wr, Below W.heap.size W wr → Below w.heap.size w wr := fun wr h => by rw [hz0] at h; exact (hbx wr h).2.2.1
  have hw0 := Below.refl W.heap.size W
  have hb0 := hbw W hw0
  have ha : ∀ wr, Below W.heap.size W wr → IntSl wr D e0 fa := fun wr h => ha.fr (Fr.of_below (hbw wr h) (fun _ => False)) (fun _ _ h => h)
  have ho : ∀ wr, Below W.heap.size W wr → IntSl wr D e2 fo := fun wr h => ho.fr (Fr.of_below (hbw wr h) (fun _ => False)) (fun _ _ h => h)
  obtain ⟨E, hE⟩ : ∃ E, E = frontS p ⟨fa, fr, fs, fo, fc⟩ := ⟨_, rfl⟩
  rw [← hE]
  unfold frontS at hE
  dsimp only at hE
  obtain ⟨k0, k1, k2, k3, k4, k5, k6, k7⟩ := hs W hw0
  have HW := Lib.hid hW
  clear hW hbx hz0
  have HB0 := Lib.hid hb0; clear hb0
  have HS := Lib.hid hs; clear hs
  have HBW := Lib.hid hbw; clear hbw
  have HW0 := Lib.hid hw0; clear hw0
  by_cases hc : fs < fa.length ∨ 16 < fs ∨ 8 < fo.length ∨ fc.length < 1 ∨ 64 < fc.length
  case pos =>
    rw [if_pos hc] at hE
    subst hE
    by_cases c1 : fs < fa.length
    · skip
      clear hc ha ho bv bo br hD
      go_enter Tryz.func111, Tryz.ntmps111
      go_upto_region 1 with fail
      rw [← HW.out]
      go_wp2_with fail
      go_ret
      exact ⟨rfl, HB0.out⟩
    by_cases c2 : 16 < fs
    · skip
      clear hc ha ho bv bo br hD
      go_enter Tryz.func111, Tryz.ntmps111
      go_upto_region 1 with fail
      rw [← HW.out]
      go_wp2_with fail
      go_ret
      exact ⟨rfl, HB0.out⟩
    by_cases c3 : (8 : Int) < fo.length
    · skip
      clear hc ha ho bv bo br hD
      go_enter Tryz.func111, Tryz.ntmps111
      go_upto_region 1 with fail
      rw [← HW.out]
      go_wp2_with fail
      go_ret
      exact ⟨rfl, HB0.out⟩
    by_cases c4 : (fc.length : Int) < 1
    · skip
      clear hc ha ho bv bo br hD
      go_enter Tryz.func111, Tryz.ntmps111
      go_upto_region 1 with fail
      rw [← HW.out]
      go_wp2_with fail
      go_ret
      exact ⟨rfl, HB0.out⟩
    by_cases c5 : (64 : Int) < fc.length
    · skip
      clear hc ha ho bv bo br hD
      go_enter Tryz.func111, Tryz.ntmps111
      go_upto_region 1 with fail
      rw [← HW.out]
      go_wp2_with fail
      go_ret
      exact ⟨rfl, HB0.out⟩
    exact absurd hc (by omega)
  rw [if_neg hc] at hE
  have c1 : ¬ fs < fa.length := by omega
  have c2 : ¬ 16 < fs := by omega
  have c3 : ¬ (8 : Int) < fo.length := by omega
  have c4 : ¬ (fc.length : Int) < 1 := by omega
  have c5 : ¬ (64 : Int) < fc.length := by omega
  have HE := Lib.hid hE
  clear hc hE
  have HA := Lib.hid ha; clear ha
  have HO := Lib.hid ho; clear ho
  have BV := Lib.hid bv; clear bv
  have BO := Lib.hid bo; clear bo
  have BR := Lib.hid br; clear br
  have HD := Lib.hid hD; clear hD
  go_enter Tryz.func111, Tryz.ntmps111
  go_upto_region 1 with fail
  rw [← HW.out]
  go_wp2_with fail
  clear k0 k1 k2 k3 k4 k5 k6 k7
  go_loopw [41] (fun i wr => ∃ k : Nat, k ≤ fa.length ∧ i = .int .i64 k ∧ Below W.heap.size W wr ∧ (fa.take k).all (validB · p.shapes.length) = true) (fun i _ => fa.length - (intOf i).toNat)
  case atStart => exact ⟨0, Nat.zero_le _, rfl, HW0.out, rfl⟩
  case round =>
    obtain ⟨k, hk, rfl, hR, hall⟩ := hrel
    obtain ⟨k0, k1, k2, k3, k4, k5, k6, k7⟩ := HS.out wr hR
    have hbw := HBW.out wr hR
    by_cases hlt : k < fa.length
    · obtain ⟨b', o', rfl, _, hx⟩ := HA.out wr hR k hlt
      have va := fun w => valid_any w fa[k] p.shapes.length (by omega) (BV.out _ (List.getElem_mem hlt))
      have hsn := all_take hlt hall
      have hno := all_no (P := (validB · p.shapes.length)) hlt
      try dsimp only at hsn hno
      generalize fa[k] = x at *
      cases hwx : validB x p.shapes.length
      · have e := HE.out
        rw [if_pos (hno hwx)] at e
        subst e
        rw [hwx] at va
        clear hsn hno hwx hall
        have HBW2 := Lib.hid hbw
        clear hbw
        have VA := Lib.hid va; clear va
        have HR := Lib.hid hR; clear hR
        go_wp2_with fail
        refine (VA.out _).mono ?_
        rintro e w9 ⟨rfl, hb9⟩
        have HB9 := Lib.hid (HBW2.out.trans (hb9.mono HBW2.out.size))
        clear hb9
        go_wp2_with fail
        go_ret
        exact ⟨rfl, HB9.out⟩
      · rw [hwx] at va hsn
        clear hno hwx hall hbw
        have VA := Lib.hid va; clear va
        have HR := Lib.hid hR; clear hR
        have HSN := Lib.hid hsn; clear hsn
        go_wp2_with fail
        refine (VA.out _).mono ?_
        rintro e w9 ⟨rfl, hb9⟩
        have HB9 := Lib.hid (HR.out.trans (hb9.mono HR.out.size))
        clear hb9
        go_wp2_with fail
        go_roundw
        case rel => exact ⟨k + 1, by omega, by go_num, HB9.out, HSN.out⟩
        case measure => simp [intOf]; omega
    · have hk' : k = fa.length := by omega
      subst hk'
      rw [List.take_length] at hall
      have hE := HE.out
      rw [if_neg (by rw [hall]; simp)] at hE
      clear hall HE hbw
      have HR := Lib.hid hR
      clear hR
      by_cases hr : fr = 0
      · subst hr
        rw [if_neg (by simp)] at hE
        have HE := Lib.hid hE
        clear hE
        go_upto_region 11 with fail
        clear k0 k1 k2 k3 k4 k5 k6 k7
        obtain ⟨k0, k1, k2, k3, k4, k5, k6, k7⟩ := HS.out wr HR.out
        have hE := HE.out
        clear HE
        have hO := Lib.hid hE
        clear hE
        go_wp2_with fail
        go_loopw [67] (fun i wr => ∃ k : Nat, k ≤ fo.length ∧ i = .int .i64 k ∧ Below W.heap.size W wr ∧ (fo.take k).all (withinB · p.shapes.length) = true) (fun i _ => fo.length - (intOf i).toNat)
        case atStart => exact ⟨0, Nat.zero_le _, rfl, HR.out, rfl⟩
        case round =>
          obtain ⟨k, hk, rfl, hR, hall⟩ := hrel
          obtain ⟨k0, k1, k2, k3, k4, k5, k6, k7⟩ := HS.out wr hR
          have hbw := HBW.out wr hR
          by_cases hlt : k < fo.length
          · obtain ⟨b', o', rfl, _, hx⟩ := HO.out wr hR k hlt
            have wi := fun w => within_any w fo[k] p.shapes.length
            have hsn := all_take hlt hall
            have hno := all_no (P := (withinB · p.shapes.length)) hlt
            try dsimp only at hsn hno
            generalize fo[k] = x at *
            cases hwx : withinB x p.shapes.length
            · have e := hO.out
              rw [if_pos (hno hwx)] at e
              subst e
              rw [hwx] at wi
              clear hsn hno hwx hall
              have HBW2 := Lib.hid hbw; clear hbw
              have WI := Lib.hid wi; clear wi
              have HR := Lib.hid hR; clear hR
              go_wp2_with fail
              refine (WI.out _).mono ?_
              rintro e w9 ⟨rfl, rfl⟩
              go_wp2_with fail
              go_ret
              exact ⟨rfl, HBW2.out⟩
            · rw [hwx] at wi hsn
              clear hno hwx hall
              clear hbw
              have WI := Lib.hid wi; clear wi
              have HR := Lib.hid hR; clear hR
              have HSN := Lib.hid hsn; clear hsn
              go_wp2_with fail
              refine (WI.out _).mono ?_
              rintro e w9 ⟨rfl, rfl⟩
              go_wp2_with fail
              go_roundw
              case rel => exact ⟨k + 1, by omega, by go_num, HR.out, HSN.out⟩
              case measure => simp [intOf]; omega
          · have hk' : k = fo.length := by omega
            subst hk'
            rw [List.take_length] at hall
            have e := hO.out
            rw [if_neg (by rw [hall]; simp)] at e
            subst e
            clear hall
            have HBW2 := Lib.hid hbw; clear hbw
            have HR := Lib.hid hR; clear hR
            go_wp2_with fail
            go_ret
            exact ⟨rfl, HBW2.out⟩
      · have hr1 : (fr != 0) = true := by simpa using hr
        have fi := fun w => field_any w fr p.shapes.length (by omega) BR.out
        cases hfi : fieldB fr p.shapes.length
        · rw [if_pos ⟨hr, hfi⟩] at hE
          subst hE
          rw [hfi] at fi
          clear hfi hr
          have FI := Lib.hid fi; clear fi
          go_wp2_with fail
          refine (FI.out _).mono ?_
          rintro e w9 ⟨rfl, hb9⟩
          have HB9 := Lib.hid (HBW.out _ (HR.out.trans (hb9.mono HR.out.size)))
          clear hb9
          go_wp2_with fail
          go_ret
          exact ⟨rfl, HB9.out⟩
        · rw [if_neg (by rw [hfi]; simp)] at hE
          rw [hfi] at fi
          clear hfi hr
          have HE := Lib.hid hE
          clear hE
          have FI := Lib.hid fi; clear fi
          go_wp2_with fail
          refine (FI.out _).mono ?_
          rintro e w9 ⟨rfl, hb9⟩
          have HR9 := Lib.hid (HR.out.trans (hb9.mono HR.out.size))
          clear hb9 k0 k1 k2 k3 k4 k5 k6 k7
          obtain ⟨k0, k1, k2, k3, k4, k5, k6, k7⟩ := HS.out w9 HR9.out
          have hE := HE.out
          clear HE
          have hO := Lib.hid hE
          clear hE
          go_wp2_with fail
          go_loopw [67] (fun i wr => ∃ k : Nat, k ≤ fo.length ∧ i = .int .i64 k ∧ Below W.heap.size W wr ∧ (fo.take k).all (withinB · p.shapes.length) = true) (fun i _ => fo.length - (intOf i).toNat)
          case atStart => exact ⟨0, Nat.zero_le _, rfl, HR9.out, rfl⟩
          case round =>
            obtain ⟨k, hk, rfl, hR, hall⟩ := hrel
            obtain ⟨k0, k1, k2, k3, k4, k5, k6, k7⟩ := HS.out wr hR
            have hbw := HBW.out wr hR
            by_cases hlt : k < fo.length
            · obtain ⟨b', o', rfl, _, hx⟩ := HO.out wr hR k hlt
              have wi := fun w => within_any w fo[k] p.shapes.length
              have hsn := all_take hlt hall
              have hno := all_no (P := (withinB · p.shapes.length)) hlt
              try dsimp only at hsn hno
              generalize fo[k] = x at *
              cases hwx : withinB x p.shapes.length
              · have e := hO.out
                rw [if_pos (hno hwx)] at e
                subst e
                rw [hwx] at wi
                clear hsn hno hwx hall
                have HBW2 := Lib.hid hbw; clear hbw
                have WI := Lib.hid wi; clear wi
                have HR := Lib.hid hR; clear hR
                go_wp2_with fail
                refine (WI.out _).mono ?_
                rintro e w9 ⟨rfl, rfl⟩
                go_wp2_with fail
                go_ret
                exact ⟨rfl, HBW2.out⟩
              · rw [hwx] at wi hsn
                clear hno hwx hall
                clear hbw
                have WI := Lib.hid wi; clear wi
                have HR := Lib.hid hR; clear hR
                have HSN := Lib.hid hsn; clear hsn
                go_wp2_with fail
                refine (WI.out _).mono ?_
                rintro e w9 ⟨rfl, rfl⟩
                go_wp2_with fail
                go_roundw
                case rel => exact ⟨k + 1, by omega, by go_num, HR.out, HSN.out⟩
                case measure => simp [intOf]; omega
            · have hk' : k = fo.length := by omega
              subst hk'
              rw [List.take_length] at hall
              have e := hO.out
              rw [if_neg (by rw [hall]; simp)] at e
              subst e
              clear hall
              have HBW2 := Lib.hid hbw; clear hbw
              have HR := Lib.hid hR; clear hR
              go_wp2_with fail
              go_ret
              exact ⟨rfl, HBW2.out⟩
end Go.Proofs.YtknbllbhakpaaaaGreat
namespace Go.Proofs.YtknbllbhakpaaaaGreat
open Go.ChangeShapes Go.WideShapes Go.ChangeAt Go.RowKit Go.Maps
def ShOk (l : List (List Int)) (k : Nat) : Prop := ∀ j, j < k → shErr l.length (l[j]?.getD []) = 0
theorem shapes_hit (l : List (List Int)) (h16 : ¬ 16 < l.length) (i : Nat) (hi : i < l.length) (hp : ShOk l i) (hne : shErr l.length l[i] ≠ 0) : shapesErr l = shErr l.length l[i] := by
  unfold shapesErr
  rw [if_neg h16]
  have e : shErr l.length (l[i]?.getD []) = shErr l.length l[i] := by simp [hi]
  rw [firstAt_hit (k := i) hi hp (by rw [e]; exact hne), e]
theorem shapes_zero (l : List (List Int)) (h16 : ¬ 16 < l.length) (hp : ShOk l l.length) : shapesErr l = 0 := by
  unfold shapesErr
  rw [if_neg h16, firstAt_none hp]
theorem shOk_succ (l : List (List Int)) (k : Nat) (hk : k < l.length) (hp : ShOk l k) (h : shErr l.length l[k] = 0) : ShOk l (k + 1) := fun j hj => by
  by_cases he : j = k
  · subst he
    simpa [hk] using h
  · exact hp j (by omega)
theorem shErr_len {n : Nat} {x : List Int} (h : x.length < 1 ∨ 16 < x.length) : shErr n x = 1 := if_pos h
theorem shErr_no {n : Nat} {x : List Int} (h : ¬ (x.length < 1 ∨ 16 < x.length)) (h2 : x.all (fieldB · n) = false) : shErr n x = 3 := by unfold shErr; rw [if_neg h, if_neg (by rw [h2]; simp)]
theorem shErr_ok {n : Nat} {x : List Int} (h : ¬ (x.length < 1 ∨ 16 < x.length)) (h2 : x.all (fieldB · n) = true) : shErr n x = 0 := by unfold shErr; rw [if_neg h, if_pos h2]
theorem allF_take {P : Int → Bool} {l : List Int} {k : Nat} (hk : k < l.length) (h : (l.take k).all P = true) : (l.take (k + 1)).all P = P l[k] := by
  rw [take_snoc l k hk, List.all_append, h]
  simp
theorem allF_no {P : Int → Bool} {l : List Int} {k : Nat} (hk : k < l.length) (h : P l[k] = false) : l.all P = false := by
  rw [List.all_eq_false]
  exact ⟨l[k], List.getElem_mem hk, by simp [h]⟩
set_option maxRecDepth 100000 in
set_option maxHeartbeats 1600000 in
theorem shapeCheck_any (w : World) (D : Nat → Prop) (hD : ∀ k, D k → k < w.heap.size) (a : Option Addr) (l : List (List Int)) (c : Nat) (hl : ShSl w D a l) (hbd : ∀ s ∈ l, ∀ x ∈ s, i64B x) (hn : l.length ≤ 3000) (hne : ∀ s ∈ l, s.length ≤ 3000) :
    Calls Tryz.prog 108 #[.slice a l.length c] w fun e w' => e = .returned (.int .i64 (shapesErr l)) ∧ Below w.heap.size w w' := by
  by_cases h16 : 16 < l.length
  · rw [show shapesErr l = 1 from if_pos h16]
    have h17 : (16 : Int) < l.length := by omega
    go_enter Tryz.func108, Tryz.ntmps108
    go_wp2_with fail
    go_ret
    exact ⟨rfl, Below.refl _ _⟩
  have h17 : ¬ (16 : Int) < l.length := by omega
  obtain ⟨E, hE⟩ : ∃ E, E = shapesErr l := ⟨_, rfl⟩
  rw [← hE]
  have HIT := fun i hi hp hne => Lib.hid (shapes_hit l h16 i hi hp hne)
  have OKK := Lib.hid (shapes_zero l h16)
  have kn := kinds_any w l.length false (by omega)
  have hls : ∀ wr, Below w.heap.size w wr → ShSl wr D a l := fun wr h => hl.fr (Fr.of_below h (fun _ => False)) (fun _ _ h => h)
  have ht : Tryz.prog.underlying 99 = some (.map intK.k 3) := Tryz.underlying99
  have HE := Lib.hid hE
  clear h16 hE hl
  have HLS := Lib.hid hls; clear hls
  have KN := Lib.hid kn; clear kn
  have HT := Lib.hid ht; clear ht
  have HNE := Lib.hid hne; clear hne
  have HBD := Lib.hid hbd; clear hbd
  have HD := Lib.hid hD; clear hD
  go_enter Tryz.func108, Tryz.ntmps108
  go_wp2_with fail
  refine KN.out.mono ?_
  rintro e w1 ⟨b, m, rfl, hm, hbb, hB⟩
  have hm : ∀ wr, Below w1.heap.size w1 wr → IntMap wr b m (kindsF l.length false) := fun wr h => hm.below h
  have hB1 : ∀ wr, Below w1.heap.size w1 wr → Below w.heap.size w wr := fun wr h => hB.trans (h.mono hB.size)
  have HM := Lib.hid hm; clear hm
  have HB := Lib.hid hB; clear hB
  have HB1 := Lib.hid hB1; clear hB1
  go_wp2_with fail
  go_loopw [16] (fun i wr => ∃ k : Nat, k ≤ l.length ∧ i = .int .i64 k ∧ Below w1.heap.size w1 wr ∧ ShOk l k) (fun i _ => l.length - (intOf i).toNat)
  case atStart => exact ⟨0, Nat.zero_le _, rfl, Below.refl _ _, fun j hj => absurd hj (by omega)⟩
  case round =>
    obtain ⟨k, hk, rfl, hR, hall⟩ := hrel
    generalize wr = wo at *
    by_cases hlt : k < l.length
    · obtain ⟨b0, o, rfl, _, a', c', hcell, hints⟩ := HLS.out wo (HB1.out wo hR) k hlt
      have hints : ∀ wz, Below wo.heap.size wo wz → IntSl wz D a' l[k] := fun wz h => hints.fr (Fr.of_below h (fun _ => False)) (fun _ _ h => h)
      have hx := HNE.out l[k] (List.getElem_mem hlt)
      have hbx := HBD.out l[k] (List.getElem_mem hlt)
      have hit := fun hne => (HIT k hlt hall hne).out
      have suc := shOk_succ l k hlt hall
      generalize l[k] = x at *
      have hx0 : (x.length : Int) ≤ 3000 := by omega
      have hR2 : ∀ wz, Below (wo.heap.size + 1) (wo.alloc (.cells #[.slice a' x.length c'] 25)) wz → Below w1.heap.size w1 wz := fun wz h => (hR.alloc hR.size _).trans (h.mono (by have := hR.size; omega))
      have hR2' : ∀ wz, Below (wo.heap.size + 1) (wo.alloc (.cells #[.slice a' x.length c'] 25)) wz → Below wo.heap.size wo wz := fun wz h => ((Below.refl _ _).alloc (Nat.le_refl _) _).trans (h.mono (by omega))
      have hf0 := Below.refl (wo.heap.size + 1) (wo.alloc (.cells #[.slice a' x.length c'] 25))
      by_cases c1 : (x.length : Int) < 1
      · have e := HE.out
        have e1 : shErr l.length x = 1 := shErr_len (by omega)
        rw [hit (by rw [e1]; decide), e1] at e
        subst e
        have hbf := HB1.out _ (hR2 _ hf0)
        clear hit suc hall hints e1 hR hR2 hR2' hf0 hbx
        have HBF := Lib.hid hbf; clear hbf
        go_wp2_with fail
        go_ret
        exact ⟨rfl, HBF.out⟩
      by_cases c2 : (16 : Int) < x.length
      · have e := HE.out
        have e1 : shErr l.length x = 1 := shErr_len (by omega)
        rw [hit (by rw [e1]; decide), e1] at e
        subst e
        have hbf := HB1.out _ (hR2 _ hf0)
        clear hit suc hall hints e1 hR hR2 hR2' hf0 hbx
        have HBF := Lib.hid hbf; clear hbf
        go_wp2_with fail
        go_ret
        exact ⟨rfl, HBF.out⟩
      have hno := fun h => shErr_no (n := l.length) (x := x) (by omega) h
      have hyes := fun h => shErr_ok (n := l.length) (x := x) (by omega) h
      have hbw2 := HB1.out _ (hR2 _ hf0)
      have hrr := hR2 _ hf0
      have hm2 := HM.out _ hrr
      have hints := hints _ (hR2' _ hf0)
      clear hR2 hR2' hf0
      have HIT := Lib.hid hit; clear hit
      have SUC := Lib.hid suc; clear suc
      have HNO := Lib.hid hno; clear hno
      have HYES := Lib.hid hyes; clear hyes
      have HINTS := Lib.hid hints; clear hints
      have HR := Lib.hid hR; clear hR
      have HBW2 := Lib.hid hbw2; clear hbw2
      have HRR := Lib.hid hrr; clear hrr
      have HM2 := Lib.hid hm2; clear hm2
      have HBX := Lib.hid hbx; clear hbx
      have HALL := Lib.hid hall
      clear hall
      go_wp2_with fail
      go_loopw [33] (fun i wz => ∃ q : Nat, q ≤ x.length ∧ i = .int .i64 q ∧ wz = wo.alloc (.cells #[.slice a' x.length c'] 25) ∧ (x.take q).all (fieldB · l.length) = true) (fun i _ => x.length - (intOf i).toNat)
      case atStart => exact ⟨0, Nat.zero_le _, rfl, by first | rfl | trivial, rfl⟩
      case round =>
        obtain ⟨q, hq, rfl, hwz, hall⟩ := hrel
        have HWZ := Lib.hid hwz
        clear hwz
        by_cases hlq : q < x.length
        · obtain ⟨b', o', rfl, _, hy⟩ := HINTS.out q hlq
          have hy : wr.cell? ⟨b', o' + q, none⟩ = some (.int .i64 x[q]) := by rw [HWZ.out]; exact hy
          have hsn := allF_take hlq hall
          have hn2 := allF_no (P := (fieldB · l.length)) hlq
          try dsimp only at hsn hn2
          have hyb := HBX.out x[q] (List.getElem_mem hlq)
          generalize x[q] = y at *
          have hm3 : IntMap wr b m (kindsF l.length false) := by rw [HWZ.out]; exact HM2.out
          cases hf : fieldB y l.length
          · have e1 := HNO.out (hn2 hf)
            have e := HE.out
            rw [HIT.out (by rw [e1]; decide), e1] at e
            subst e
            have hkf : kindsF l.length false y = none := by
              have := field_kinds y l.length
              rw [hf] at this
              cases hh : kindsF l.length false y with
              | none => rfl
              | some v => rw [hh] at this; cases this
            have hbw3 : Below w.heap.size w wr := by rw [HWZ.out]; exact HBW2.out
            clear hsn hn2 hall hf e1
            have HKF := Lib.hid hkf; clear hkf
            have HM3 := Lib.hid hm3; clear hm3
            have HYB := Lib.hid hyb; clear hyb
            have HBW3 := Lib.hid hbw3; clear hbw3
            go_wp2_with (refine look_none rfl (.tmp 37) (.tmp 38) 99 3 rfl HM3.out HT.out (zero_int _) y HYB.out rfl rfl HKF.out ?_)
            go_ret
            exact ⟨rfl, HBW3.out⟩
          · rw [hf] at hsn
            obtain ⟨v, hkf⟩ : ∃ v, kindsF l.length false y = some v := by
              have := field_kinds y l.length
              rw [hf] at this
              cases hh : kindsF l.length false y with
              | none => rw [hh] at this; cases this
              | some v => exact ⟨v, rfl⟩
            have hv := kinds_one hkf
            subst hv
            clear hn2 hall hf
            have HKF := Lib.hid hkf; clear hkf
            have HM3 := Lib.hid hm3; clear hm3
            have HYB := Lib.hid hyb; clear hyb
            have HSN := Lib.hid hsn; clear hsn
            go_wp2_with (refine look_some rfl (.tmp 37) (.tmp 38) 99 3 rfl HM3.out HT.out (zero_int _) y HYB.out rfl rfl 1 HKF.out ?_)
            go_roundw
            case rel => exact ⟨q + 1, by omega, by go_num, HWZ.out, HSN.out⟩
            case measure => simp [intOf]; omega
        · have hq' : q = x.length := by omega
          subst hq'
          rw [List.take_length] at hall
          have hsu := SUC.out (HYES.out hall)
          have hrz : Below w1.heap.size w1 wr := by rw [HWZ.out]; exact HRR.out
          clear hall
          have HSU := Lib.hid hsu; clear hsu
          have HRZ := Lib.hid hrz; clear hrz
          go_wp2_with fail
          go_roundw
          case rel => exact ⟨k + 1, by omega, by go_num, HRZ.out, HSU.out⟩
          case measure => simp [intOf]; omega
    · have hk' : k = l.length := by omega
      subst hk'
      have e := HE.out
      rw [OKK.out hall] at e
      subst e
      have hbw2 := HB1.out _ hR
      clear hall hR
      have HBW2 := Lib.hid hbw2; clear hbw2
      go_wp2_with fail
      go_ret
      exact ⟨rfl, HBW2.out⟩
end Go.Proofs.YtknbllbhakpaaaaGreat
namespace Go.Proofs.YtknbllbhakpaaaaGreat
open Go.ChangeShapes Go.WideShapes Go.ChangeAt Go.RowKit Go.Maps
set_option maxRecDepth 100000 in
set_option maxHeartbeats 3200000 in
theorem wholeC_any (w : World) (D : Nat → Prop) (hD : ∀ k, D k → k < w.heap.size) (p : Prg) (c0 c1 c2 : Value) (hv : PrgVal w D p c0 c1 c2) (hp : PrgB p) (hq : PrgR p) :
    Calls Tryz.prog 74 #[.agg #[c0, c1, c2]] w fun e w' => e = .returned (.int .i64 (wholeS p)) ∧ Below w.heap.size w w' := by
  obtain ⟨⟨a0, m0, rfl, hg⟩, ⟨a1, m1, rfl, hsh⟩, a2, m2, rfl, hfn⟩ := hv
  obtain ⟨bg, bs, _⟩ := hp
  obtain ⟨q0, q1, q2, q3, q4⟩ := hq
  have hbx := fun wr h => box1 w #[.slice a0 p.globals.length m0, .slice a1 p.shapes.length m1, .slice a2 p.funcs.length m2] 34 wr h
  have hz0 : (w.alloc (.cells #[.slice a0 p.globals.length m0, .slice a1 p.shapes.length m1, .slice a2 p.funcs.length m2] 34)).heap.size = w.heap.size + 1 := by simp
  obtain ⟨W, hW⟩ : ∃ W, W = (w.alloc (.cells #[.slice a0 p.globals.length m0, .slice a1 p.shapes.length m1, .slice a2 p.funcs.length m2] 34)) := ⟨_, rfl⟩
  rw [← hW] at hbx hz0
  have hs : ∀ wr, Below W.heap.size W wr → wr.cell? ⟨w.heap.size, 0, none⟩ = some (.slice a0 p.globals.length m0) ∧ wr.cell? ⟨w.heap.size, 1, none⟩ = some (.slice a1 p.shapes.length m1) ∧ wr.cell? ⟨w.heap.size, 2, none⟩ = some (.slice a2 p.funcs.length m2) := fun wr h => by
    rw [hz0] at h
    have hb := hbx wr h
    exact ⟨hb.1 0 _ rfl, hb.1 1 _ rfl, hb.1 2 _ rfl⟩
  have hbw : ∀ wr, Below W.heap.size W wr → Below w.heap.size w wr := fun wr h => by rw [hz0] at h; exact (hbx wr h).2.1
  have hw0 := Below.refl W.heap.size W
  have hg : ∀ wr, Below W.heap.size W wr → IntSl wr D a0 p.globals := fun wr h => hg.fr (Fr.of_below (hbw wr h) (fun _ => False)) (fun _ _ h => h)
  have hfn : ∀ wr, Below W.heap.size W wr → FnSl wr D a2 p.funcs := fun wr h => hfn.fr (Fr.of_below (hbw wr h) (fun _ => False)) (fun _ _ h => h)
  have sc := fun wr (h : Below W.heap.size W wr) => shapeCheck_any wr D (fun k hk => Nat.lt_of_lt_of_le (hD k hk) (hbw wr h).size) a1 p.shapes m1 (hsh.fr (Fr.of_below (hbw wr h) (fun _ => False)) (fun _ _ h => h)) bs q1 q3
  obtain ⟨E, hE⟩ : ∃ E, E = wholeS p := ⟨_, rfl⟩
  rw [← hE]
  unfold wholeS at hE
  generalize shapesErr p.shapes = se at *
  obtain ⟨k0, k1, k2⟩ := hs W hw0
  have HW := Lib.hid hW
  have HE := Lib.hid hE
  clear hW hbx hz0 hE hsh bs q3 q4
  have HS := Lib.hid hs; clear hs
  have HBW := Lib.hid hbw; clear hbw
  have HW0 := Lib.hid hw0; clear hw0
  have HG := Lib.hid hg; clear hg
  have HFN := Lib.hid hfn; clear hfn
  have SC := Lib.hid sc; clear sc
  have HD := Lib.hid hD; clear hD
  have BG := Lib.hid bg; clear bg
  go_enter Tryz.func74, Tryz.ntmps74
  go_upto_region 1 with fail
  rw [← HW.out]
  go_wp2_with fail
  refine (SC.out W HW0.out).mono ?_
  rintro e w1 ⟨rfl, hb1⟩
  have HR1 := Lib.hid hb1
  have HB1 := Lib.hid (HBW.out w1 hb1)
  obtain ⟨k0, k1, k2⟩ := HS.out w1 hb1
  clear hb1
  have hE := HE.out
  clear HE
  by_cases hse : se = 0
  case neg =>
    have hs1 : (se != 0) = true := by simpa using hse
    rw [if_pos hse] at hE
    subst hE
    clear hse
    go_wp2_with fail
    go_ret
    exact ⟨rfl, HB1.out⟩
  subst hse
  rw [if_neg (by simp)] at hE
  by_cases hc : 16 < p.globals.length ∨ p.funcs.length < 1 ∨ 16 < p.funcs.length
  case pos =>
    rw [if_pos hc] at hE
    subst hE
    by_cases c1 : (16 : Int) < p.globals.length
    · clear hc
      go_wp2_with fail
      go_ret
      exact ⟨rfl, HB1.out⟩
    by_cases c2 : (p.funcs.length : Int) < 1
    · clear hc
      go_wp2_with fail
      go_ret
      exact ⟨rfl, HB1.out⟩
    by_cases c3 : (16 : Int) < p.funcs.length
    · clear hc
      go_wp2_with fail
      go_ret
      exact ⟨rfl, HB1.out⟩
    exact absurd hc (by omega)
  rw [if_neg hc] at hE
  have c1 : ¬ (16 : Int) < p.globals.length := by omega
  have c2 : ¬ (p.funcs.length : Int) < 1 := by omega
  have c3 : ¬ (16 : Int) < p.funcs.length := by omega
  have HE := Lib.hid hE
  clear hE hc
  go_wp2_with fail
  go_loopw [31] (fun i wr => ∃ k : Nat, k ≤ p.globals.length ∧ i = .int .i64 k ∧ Below W.heap.size W wr ∧ (p.globals.take k).all (fieldB · p.shapes.length) = true) (fun i _ => p.globals.length - (intOf i).toNat)
  case atStart => exact ⟨0, Nat.zero_le _, rfl, HR1.out, rfl⟩
  case round =>
    clear k0 k1 k2
    obtain ⟨k, hk, rfl, hR, hall⟩ := hrel
    obtain ⟨k0, k1, k2⟩ := HS.out wr hR
    by_cases hlt : k < p.globals.length
    · obtain ⟨b', o', rfl, _, hx⟩ := HG.out wr hR k hlt
      have fi := fun w => field_any w p.globals[k] p.shapes.length (by omega) (BG.out _ (List.getElem_mem hlt))
      have hsn := all_take hlt hall
      have hno := all_no (P := (fieldB · p.shapes.length)) hlt
      try dsimp only at hsn hno
      generalize p.globals[k] = x at *
      cases hwx : fieldB x p.shapes.length
      · have e := HE.out
        rw [if_pos (hno hwx)] at e
        subst e
        rw [hwx] at fi
        clear hsn hno hwx hall
        have FI := Lib.hid fi; clear fi
        have HR := Lib.hid hR; clear hR
        go_wp2_with fail
        refine (FI.out _).mono ?_
        rintro e w9 ⟨rfl, hb9⟩
        have HB9 := Lib.hid (HBW.out _ (HR.out.trans (hb9.mono HR.out.size)))
        clear hb9
        go_wp2_with fail
        go_ret
        exact ⟨rfl, HB9.out⟩
      · rw [hwx] at fi hsn
        clear hno hwx hall
        have FI := Lib.hid fi; clear fi
        have HR := Lib.hid hR; clear hR
        have HSN := Lib.hid hsn; clear hsn
        go_wp2_with fail
        refine (FI.out _).mono ?_
        rintro e w9 ⟨rfl, hb9⟩
        have HB9 := Lib.hid (HR.out.trans (hb9.mono HR.out.size))
        clear hb9
        go_wp2_with fail
        go_roundw
        case rel => exact ⟨k + 1, by omega, by go_num, HB9.out, HSN.out⟩
        case measure => simp [intOf]; omega
    · have hk' : k = p.globals.length := by omega
      subst hk'
      rw [List.take_length] at hall
      have hE := HE.out
      rw [if_neg (by rw [hall]; simp)] at hE
      have h0 : 0 < p.funcs.length := by omega
      obtain ⟨b2, o2, rfl, _, y0, y1, y2, y3, y4, g0, g1, g2, g3, g4, hfv⟩ := HFN.out wr hR 0 h0
      obtain ⟨rfl, rfl, ⟨e0, e1, rfl, _⟩, _⟩ := hfv
      rw [show (p.funcs[0]?).getD fun0 = p.funcs[0] from by simp [h0]] at hE
      generalize p.funcs[0] = f at *
      simp only [Nat.zero_mul, Nat.add_zero] at g0 g1 g2 g3 g4
      have HB9 := Lib.hid (HBW.out wr hR)
      clear hall HE hR g2 g3 g4
      generalize f.args.length = la at *
      generalize f.result = fr at *
      by_cases d1 : la = 0
      · subst d1
        by_cases d2 : fr = 0
        · subst d2
          rw [if_neg (by rintro (h | h) <;> omega)] at hE
          subst hE
          go_wp2_with fail
          go_ret
          exact ⟨rfl, HB9.out⟩
        · have d3 : (fr != 0) = true := by simpa using d2
          rw [if_pos (Or.inr d2)] at hE
          subst hE
          go_wp2_with fail
          go_ret
          exact ⟨rfl, HB9.out⟩
      · have d3 : 0 < la := by omega
        have d4 : (0 : Int) < la := by omega
        rw [if_pos (Or.inl d3)] at hE
        subst hE
        go_wp2_with fail
        go_ret
        exact ⟨rfl, HB9.out⟩
end Go.Proofs.YtknbllbhakpaaaaGreat
