/- MutatorPlaces: a stack object whose place is taken is empty; what is set there is read there; taken anew it is empty again. No condition. -/
import Derived.Test.YthkhgihjigmkoaaGreatSBt
import Derived.Test.YthkhgihjigmkoaaGreatRows
set_option linter.unusedVariables false
set_option linter.unusedSimpArgs false
/- MutatorPlaces: a stack object whose place is taken is empty; what is set there is read there; taken anew it is empty again. No condition. -/
namespace Go.Proofs.YthkhgihjigmkoaaGreat.mutatorPlaces
open Go.ChangeShapes Go.WideShapes Go.ChangeAt Go.RowKit Go.Maps Tk
theorem slot_six (slot : Int) : ∃ s : Nat, s < 6 ∧ (wrap64 (slot.tmod 6 + 6)).tmod 6 = (s : Int) := by
  have h1 := Int.lt_tmod_of_pos slot (show (0 : Int) < 6 by decide)
  have h2 := Int.tmod_lt_of_pos slot (show (0 : Int) < 6 by decide)
  generalize slot.tmod 6 = r at *
  have h3 : wrap64 (r + 6) = r + 6 := IntWalk.wrap64_in _ (by omega)
  rw [h3, Int.tmod_eq_emod_of_nonneg (by omega)]
  exact ⟨((r + 6) % 6).toNat, by omega, by omega⟩
/-- the base of the stack ahead of round i -/
def bas (d i : Nat) : Int := if i ≤ d then 1073741824 else 1073741824 + ((1 + d : Nat) : Int) * 8192
theorem bas_ok (d i : Nat) (hd : d < 6) : baseOk (bas d i) := by
  unfold bas baseOk
  split <;> omega
set_option maxRecDepth 100000 in
set_option maxHeartbeats 6400000 in
theorem walk (w : World) (v : Int) (w0 : (Lit.int .i64 v).wf = true) (again : Int) (w1 : (Lit.int .i64 again).wf = true) :
    Calls Tryz.prog 8 #[.int .i64 v, .int .i64 again] w fun e w' => e = .returned (.bool true) ∧ Below w.heap.size w w' := by
  have al := alive23
  clear w0 w1
  obtain ⟨d, hd6, hdm⟩ := slot_six again
  obtain ⟨x, hx⟩ : ∃ x, x = wrap32 v := ⟨_, rfl⟩
  have hx32 : wrap32 x = x := by rw [hx, w32_w32]
  have hxB : i64B x := by have := w32_bd v; unfold i64B; omega
  have ra := fun w => rof_any v w
  rw [← hx] at ra
  have hsB := plc_B x hxB
  have hst' := plc_tab x
  have RA := Lib.hid ra; clear ra
  clear hx hxB
  have AL := Lib.hid al; clear al
  have HSB := Lib.hid hsB; clear hsB
  have HST' := Lib.hid hst'; clear hst'
  have HX32 := Lib.hid hx32; clear hx32
  go_enter Tryz.func8, Tryz.ntmps8
  go_wp2_with fail
  refine (AL.out _).mono ?_
  rintro e w1 ⟨rfl, hb1⟩
  have HB1 := Lib.hid hb1
  clear hb1
  go_wp2_with fail
  refine (RA.out _).mono ?_
  rintro e w2 ⟨rfl, rfl⟩
  have hcd := CellsAt.new w1 #[.int .i64 18, .int .i64 0, .int .i64 0, .int .i64 0, .int .i64 1, .int .i64 1, .int .i64 x, .int .i64 0, .int .i64 20, .int .i64 0, .int .i64 0, .int .i64 1, .int .i64 19, .int .i64 2, .int .i64 0, .int .i64 0, .int .i64 18, .int .i64 0, .int .i64 0, .int .i64 0, .int .i64 19, .int .i64 1, .int .i64 0, .int .i64 0] 59 (0, 0)
  have hb2 := HB1.out.alloc HB1.out.size (.cells #[.int .i64 18, .int .i64 0, .int .i64 0, .int .i64 0, .int .i64 1, .int .i64 1, .int .i64 x, .int .i64 0, .int .i64 20, .int .i64 0, .int .i64 0, .int .i64 1, .int .i64 19, .int .i64 2, .int .i64 0, .int .i64 0, .int .i64 18, .int .i64 0, .int .i64 0, .int .i64 0, .int .i64 19, .int .i64 1, .int .i64 0, .int .i64 0] 59)
  have sg := singleS _ 3 (codeP x) w1.heap.size 0 6 hcd (by show 6 ≤ 1000; decide)
  clear hcd HB1
  have SG := Lib.hid sg; clear sg
  have HB2 := Lib.hid hb2; clear hb2
  go_wp2_with fail
  refine SG.out.mono ?_
  rintro e w4 ⟨a0, n0, m0, a1, m1, a2, m2, D, rfl, hD4, hpv, hpg, hb4⟩
  have hb4 := HB2.out.trans (hb4.mono HB2.out.size)
  obtain ⟨W, hW⟩ : ∃ W, W = w4.alloc (.cells #[.slice a0 n0 m0, .slice a1 1 m1, .slice a2 1 m2] 27) := ⟨_, rfl⟩
  obtain ⟨hC, hD, hba, bg⟩ := boxS hpv hpg hD4 (by omega) HSB.out HST'.out W hW
  obtain ⟨pb, hpb⟩ : ∃ pb, pb = w4.heap.size := ⟨_, rfl⟩
  rw [← hpb] at hC
  have HPVV := Lib.hid (fun wx (hw : Below W.heap.size W wx) => (hpv.below hba).below hw)
  have hW0 := hb4.trans (hba.mono hb4.size)
  obtain ⟨k0, k1, k2, _⟩ := hC W (Below.refl _ _)
  have HW := Lib.hid hW
  have HPB := Lib.hid hpb
  clear hW hpb hba hb4 hpv hpg hD4 HSB HST' SG
  have BG := Lib.hid bg; clear bg
  have HC := Lib.hid hC; clear hC
  have HD := Lib.hid hD; clear hD
  have HW0 := Lib.hid hW0; clear hW0
  go_upto_region 4 with fail
  rw [← HW.out, ← HPB.out]
  go_wp2_with fail
  refine BG.out.mono ?_
  rintro e w6 ⟨mb, tb, F, X, rfl, hT, hF, hMaps, hb6⟩
  clear k0 k1 k2
  have HT := Lib.hid hT; clear hT
  have HF := Lib.hid hF; clear hF
  have HB6 := Lib.hid hb6; clear hb6
  have HMAPS := Lib.hid hMaps; clear hMaps
  obtain ⟨wm, Bm, bm, nm, Vm, Ms, hMs, hmp, hNF, _, hbm⟩ := HMAPS.out
  have hmk := fun wr (hw : Below wm.heap.size wm wr) => hmp.below hw
  have hT0 : TaskAt w6 F tb (qS (3 : Nat)) (Tk.SG (bas d 0) ((0 : Nat) : Int) (pw (bas d 0) x 0)) X := HT.out
  have HN0 := Lib.hid hNF
  have HM0 := Lib.hid hbm
  clear hmp hNF hbm HMAPS HT
  have HMK := Lib.hid hmk; clear hmk
  have HMS := Lib.hid hMs; clear hMs
  have HT0 := Lib.hid hT0; clear hT0
  go_upto_region 7 with fail
  go_wp2_with fail
  go_loopw [8] (fun i wr => ∃ k : Nat, k ≤ 6 ∧ i = .int .i64 k ∧ ∃ F X, TaskAt wr F tb (qS (3 : Nat)) (Tk.SG (bas d k) k (pw (bas d k) x k)) X ∧ (∀ q, F q → W.heap.size ≤ q) ∧ (∀ q, F q → wm.heap.size ≤ q) ∧ Below W.heap.size W wr ∧ Below wm.heap.size wm wr) (fun i _ => 6 - (intOf i).toNat)
  case atStart => exact ⟨0, by omega, rfl, F, X, HT0.out, HF.out, HN0.out, HB6.out, HM0.out⟩
  case round =>
    clear HT0 HF HB6 HN0 HM0
    obtain ⟨k, hk, rfl, F1, X1, hT1, hF1, hN1, hB1, hM1⟩ := hrel
    by_cases hlt : k < 6
    · obtain ⟨k1, hk1⟩ : ∃ k1, k1 = k + 1 := ⟨_, rfl⟩
      have i1 : IntKind.i64.wrap ((k : Int) + 1) = (k1 : Int) := by rw [show ((k : Int) + 1) = (k1 : Int) from by omega]; exact IntWalk.i64_in _ (by omega)
      have i2 : IntKind.i64.wrap (1 + (k : Int)) = (k1 : Int) := by rw [show (1 + (k : Int)) = (k1 : Int) from by omega]; exact IntWalk.i64_in _ (by omega)
      obtain ⟨q0, q1, q2, hg⟩ := HC.out wr hB1
      have st := plcStep (ma := some ⟨mb, 0, none⟩) (bas_ok d k hd6) HX32.out k hlt hT1 D (fun k hk => ⟨fun h => by have := HD.out k hk; have := hF1 k h; omega, by have := HD.out k hk; have := hB1.size; omega⟩) _ _ _ hg (fun wx hx => HPVV.out wx (hB1.trans (hx.mono hB1.size)))
      rw [← hk1] at st
      have hle : k1 ≤ 6 := by omega
      clear hT1 hg
      have ST := Lib.hid st; clear st
      have HF1 := Lib.hid hF1; clear hF1
      have HB1 := Lib.hid hB1; clear hB1
      have HN1 := Lib.hid hN1; clear hN1
      have HM1 := Lib.hid hM1; clear hM1
      have HK1 := Lib.hid hk1; clear hk1
      go_wp2_with fail
      refine ST.out.mono ?_
      rintro e w7 ⟨rfl, F2, X2, hT2, _, hF2, hf2⟩
      unfold actV
      have fe := act_kind w7 0 0 0 0 0 false (.slice none 0 0)
      have hb7 := HB1.out.trans (hf2.below HB1.out.size (fun q hq => HF1.out q hq))
      have hm7 := HM1.out.trans (hf2.below HM1.out.size (fun q hq => HN1.out q hq))
      have hF3 : ∀ q, F2 q → W.heap.size ≤ q := fun q hq => (hF2 q hq).elim (HF1.out q) (fun h => by have := HB1.out.size; omega)
      have hN3 : ∀ q, F2 q → wm.heap.size ≤ q := fun q hq => (hF2 q hq).elim (HN1.out q) (fun h => by have := HM1.out.size; omega)
      clear q0 q1 q2 hF2 hf2 ST HF1 HB1 HN1 HM1
      by_cases hkd : k = d
      · subst hkd
        have cp := cap_any w7 F2 tb (qS (3 : Nat)) _ X2 hT2
        have cp : Calls Tryz.prog 37 #[.pointer (some ⟨tb, 0, none⟩)] w7 fun e w' => e = .returned (.int .i64 64) ∧ w7 = w' := by
          have e : (Tk.SG (bas k k) (k1 : Int) (pw (bas k k) x k1)).words.length = 64 := pw_len _ _ _
          rw [e] at cp
          exact cp
        have mv := moveP (bas_ok k k hd6) k1 (by have := HK1.out; omega) hle hT2 HMS.out (fun wr hw => HMK.out wr (hm7.trans (hw.mono hm7.size))) k1 (by omega)
        have hbe : (1073741824 + (k1 : Int) * 8192) = bas k k1 := by unfold bas; rw [if_neg (by have := HK1.out; omega)]; have := HK1.out; omega
        rw [hbe] at mv
        clear hT2 hbe
        have CP := Lib.hid cp; clear cp
        have MV := Lib.hid mv; clear mv
        have HB7 := Lib.hid hb7; clear hb7
        have HM7 := Lib.hid hm7; clear hm7
        have HF3 := Lib.hid hF3; clear hF3
        have HN3 := Lib.hid hN3; clear hN3
        go_wp2_with fail
        refine CP.out.mono ?_
        rintro e w8 ⟨rfl, rfl⟩
        go_wp2_with fail
        refine MV.out.mono ?_
        rintro e w9 ⟨rfl, F4, X4, hT4, hF4, hf4⟩
        have hb9 := HB7.out.trans (hf4.below HB7.out.size (fun q hq => HF3.out q hq))
        have hm9 := HM7.out.trans (hf4.below HM7.out.size (fun q hq => HN3.out q hq))
        have hF5 : ∀ q, F4 q → W.heap.size ≤ q := fun q hq => (hF4 q hq).elim (HF3.out q) (fun h => by have := HB7.out.size; omega)
        have hN5 : ∀ q, F4 q → wm.heap.size ≤ q := fun q hq => (hF4 q hq).elim (HN3.out q) (fun h => by have := HM7.out.size; omega)
        clear hF4 hf4 fe
        have HT4 := Lib.hid hT4; clear hT4
        have HB9 := Lib.hid hb9; clear hb9
        have HM9 := Lib.hid hm9; clear hm9
        have HF5 := Lib.hid hF5; clear hF5
        have HN5 := Lib.hid hN5; clear hN5
        go_wp2_with fail
        go_roundw
        case rel => exact ⟨k1, hle, by go_num, F4, X4, HT4.out, HF5.out, HN5.out, HB9.out, HM9.out⟩
        case measure => have := HK1.out; simp [intOf]; omega
      · have hbe : bas d k1 = bas d k := by unfold bas; have := HK1.out; split <;> split <;> omega
        have hT3 : TaskAt w7 F2 tb (qS (3 : Nat)) (Tk.SG (bas d k1) (k1 : Int) (pw (bas d k1) x k1)) X2 := by rw [hbe]; exact hT2
        have hkd2 : ((k : Int) == (d : Int)) = false := by rw [beq_eq_false_iff_ne]; omega
        clear hT2 hbe
        have HT3 := Lib.hid hT3; clear hT3
        have HB7 := Lib.hid hb7; clear hb7
        have HM7 := Lib.hid hm7; clear hm7
        have HF3 := Lib.hid hF3; clear hF3
        have HN3 := Lib.hid hN3; clear hN3
        go_wp2_with fail
        go_roundw
        case rel => exact ⟨k1, hle, by go_num, F2, X2, HT3.out, HF3.out, HN3.out, HB7.out, HM7.out⟩
        case measure => have := HK1.out; simp [intOf]; omega
    · have hk' : k = 6 := by omega
      subst hk'
      obtain ⟨B, hBe⟩ : ∃ B, B = bas d 6 := ⟨_, rfl⟩
      have hB := bas_ok d 6 hd6
      rw [← hBe] at hT1 hB
      have hlen := pw_len B x 6
      have hps := qS_small 3 (by omega)
      have sl : ∀ wx, Below wr.heap.size wr wx → ∀ k : Nat, k < 3 → ∀ y, (pw B x 6)[2 + k]? = some y → Calls Tryz.prog 33 #[.pointer (some ⟨tb, 0, none⟩), .int .i64 k] wx fun e w' => e = .returned (.int .i64 y) ∧ Below wx.heap.size wx w' := fun wx hx k hk y hy => by
        have hin : 0 + (2 + k) < (Tk.SG B (6 : Nat) (pw B x 6)).words.length := by show 0 + (2 + k) < (pw B x 6).length; omega
        have := slot_in wx F1 tb (qS (3 : Nat)) (Tk.SG B (6 : Nat) (pw B x 6)) X1 (hT1.below hx) (SG_ok B _ _ hlen) 0 rfl 0 (by decide) rfl 0 rfl k (by show (k : Int) < ((3 : Nat) : Int); omega) (by omega) hin
        have e : (Tk.SG B (6 : Nat) (pw B x 6)).words[0 + (2 + k)]'hin = y := by
          have e : (Tk.SG B (6 : Nat) (pw B x 6)).words[0 + (2 + k)]? = some y := by rw [Nat.zero_add]; exact hy
          rw [List.getElem?_eq_getElem hin] at e
          injection e
        rw [e] at this
        exact this
      have s0 := fun wx (hx : Below wr.heap.size wr wx) => sl wx hx 0 (by omega) (B + 5) rfl
      have s1 := fun wx (hx : Below wr.heap.size wr wx) => sl wx hx 1 (by omega) 0 rfl
      have s2 := fun wx (hx : Below wr.heap.size wr wx) => sl wx hx 2 (by omega) x rfl
      have pl : ∀ wx, Below wr.heap.size wr wx → Calls Tryz.prog 17 #[.pointer (some ⟨tb, 0, none⟩), .int .i64 0] wx fun e w' => e = .returned (.int .i64 (B + 5)) ∧ Below wx.heap.size wx w' := fun wx hx => by
        have := tkPlace_any wx F1 tb (qS (3 : Nat)) (Tk.SG B (6 : Nat) (pw B x 6)) X1 (hT1.below hx) hps (SG_ok B _ _ hlen) hB 0 rfl 0 (by decide) rfl 0 ⟨by decide, by decide⟩
        have e := Tk.placeS B (6 : Nat) (pw B x 6) hlen
        have e : placeN (qS (3 : Nat)) (Tk.SG B (6 : Nat) (pw B x 6)) ((Tk.SG B (6 : Nat) (pw B x 6)).parts[0]'(by show 0 < 1; decide)).base ((qS (3 : Nat)).funcs[0]'(by decide)) 0 = B + 5 := e
        rw [e] at this
        exact this
      have wd : ∀ wx, Below wr.heap.size wr wx → Calls Tryz.prog 24 #[.pointer (some ⟨tb, 0, none⟩), .int .i64 (B + 5)] wx fun e w' => e = .returned (.tuple #[.int .i64 0, .bool true]) ∧ Below wx.heap.size wx w' := fun wx hx => by
        have hk : 5 < (Tk.SG B (6 : Nat) (pw B x 6)).words.length := by show 5 < (pw B x 6).length; omega
        have := word_in wx F1 tb (qS (3 : Nat)) (Tk.SG B (6 : Nat) (pw B x 6)) X1 (hT1.below hx) hps (SG_ok B _ _ hlen) (SG_in B _ _ 3) hB (B + 5) (by have := SG_within B (6 : Nat) (pw B x 6) hlen 0 (by omega); simpa using this) 5 hk (by show B + 5 - B = 5; omega)
        have e : (Tk.SG B (6 : Nat) (pw B x 6)).words[5]'hk = 0 := rfl
        rw [e] at this
        exact this
      have hb7 := HW0.out.trans (hB1.mono HW0.out.size)
      have hr := Below.refl wr.heap.size wr
      clear hT1 sl hlen hps hB hBe hF1 hN1 hM1 hB1
      have S0 := Lib.hid s0; clear s0
      have S1 := Lib.hid s1; clear s1
      have S2 := Lib.hid s2; clear s2
      have PL := Lib.hid pl; clear pl
      have WD := Lib.hid wd; clear wd
      have HB7 := Lib.hid hb7; clear hb7
      have HR := Lib.hid hr; clear hr
      go_wp2_with fail
      refine (S0.out _ HR.out).mono ?_
      rintro e w8 ⟨rfl, hb8⟩
      have HB8 := Lib.hid (HR.out.trans hb8)
      clear hb8
      go_wp2_with fail
      refine (WD.out _ HB8.out).mono ?_
      rintro e w9 ⟨rfl, hb9⟩
      have HB9 := Lib.hid (HB8.out.trans (hb9.mono HB8.out.size))
      clear hb9
      go_wp2_with fail
      refine (S2.out _ HB9.out).mono ?_
      rintro e w10 ⟨rfl, hb10⟩
      have HB10 := Lib.hid (HB9.out.trans (hb10.mono HB9.out.size))
      clear hb10
      go_wp2_with fail
      refine (RA.out _).mono ?_
      rintro e w11 ⟨rfl, rfl⟩
      go_wp2_with fail
      refine (S1.out _ HB10.out).mono ?_
      rintro e w11 ⟨rfl, hb11⟩
      have HB11 := Lib.hid (HB10.out.trans (hb11.mono HB10.out.size))
      clear hb11
      go_wp2_with fail
      refine (S0.out _ HB11.out).mono ?_
      rintro e w12 ⟨rfl, hb12⟩
      have HB12 := Lib.hid (HB11.out.trans (hb12.mono HB11.out.size))
      clear hb12
      go_wp2_with fail
      refine (PL.out _ HB12.out).mono ?_
      rintro e w13 ⟨rfl, hb13⟩
      have hb14 := HB7.out.trans ((HB12.out.trans (hb13.mono HB12.out.size)).mono HB7.out.size)
      clear hb13
      have HB14 := Lib.hid hb14; clear hb14
      go_wp2_with fail
      go_ret
      exact ⟨rfl, HB14.out⟩
theorem own : ownKnob Tryz.prog.godebug = none := by kernel_rfl
theorem laidOut : laidOutB Tryz.prog = true := by kernel_rfl
set_option maxRecDepth 100000 in
theorem lifted (os : Os) (started : os.Started) (H : Type) (enc : TypeId × Value → H) :
    ReturnsInHanded {} Tryz.checked os 8 .any (Rows.mutatorPlacesSpec.pre6 enc Tryz.prog Tryz.f8 Rows.mutatorPlacesRow.domain false) (Rows.mutatorPlacesSpec.post enc Tryz.prog Tryz.f8 false true false false) := by
  refine returnsInHanded_of_change (C := Tryz.checked) own started (by kernel_rfl) Tryz.func8
    (ChangeSpec.witness6 (enc := enc) (C := Tryz.checked) false ⟨#[], #[.int .i64 0, .int .i64 0], []⟩ 8 (by kernel_rfl) (by kernel_rfl) (by kernel_rfl) (by kernel_rfl)) ?_
  intro W base args ds gs before hval0 hW hcnd _
  have hval : ∀ (j : Nat) t v, Tryz.f8.params[j]? = some t → args[j]? = some v → Value.okWide Tryz.prog W .any base t v := hval0
  have hW' := hW
  obtain ⟨p, q, hA0, hV, rfl, hfz, hnd⟩ := hW
  have hA : DataW.TrodAll enc Tryz.prog W 0 (fun _ => true) true Tryz.f8.params.toList args.toList ds p := hA0
  rw [Tryz.params8] at hA hval
  obtain ⟨v0, vs0, d0, ds0, p0, q0, hargs, rfl, rfl, h0, r0⟩ := trodAll_cons hA
  obtain ⟨v1, vs1, d1, ds1, p1, q1, rfl, rfl, rfl, h1, r1⟩ := trodAll_cons r0
  obtain ⟨rfl, rfl, rfl⟩ := trodAll_nil r1
  obtain rfl : args = #[v0, v1] := by cases args; simp_all
  obtain ⟨a0, rfl, rfl, rfl, w0⟩ := open_int Tryz.underlying3 (hval 0 3 v0 rfl rfl) h0
  obtain ⟨a1, rfl, rfl, rfl, w1⟩ := open_int Tryz.underlying3 (hval 1 3 v1 rfl rfl) h1
  clear hA0 hval0
  simp only [List.append_nil] at hW'
  refine (walk W a0 w0 a1 w1).mono fun e W' ⟨he, hb⟩ => ?_
  subst he
  exact ⟨_, rfl, law_post laidOut (by kernel_rfl) rfl Tryz.underlying4 hW' rfl (fun ds h => by match ds, h with | [_, _], _ => rfl) hb⟩
theorem over : Rows.mutatorPlacesRow.holds Tryz.pinned (OpenSpec.ofChange Rows.mutatorPlacesSpec) :=
  OpenClaim.holds_of_wide 8 Tryz.f8 rfl rfl rfl rfl rfl rfl rfl ⟨rfl, rfl, rfl, rfl, rfl⟩ rfl rfl rfl rfl rfl (by kernel_rfl) Tryz.func8 (by kernel_rfl)
    (of_decide_eq_true (by kernel_rfl)) (by unfold Func.isWrapper; first | (rw [if_pos (by decide +kernel)]; kernel_rfl) | (rw [if_neg (by decide +kernel)]; exact ⟨rfl, rfl⟩))
    (fun os started H enc _ => lifted os started H enc)
theorem proved : Rows.MutatorPlacesSaid := over
#print axioms proved
end Go.Proofs.YthkhgihjigmkoaaGreat.mutatorPlaces
