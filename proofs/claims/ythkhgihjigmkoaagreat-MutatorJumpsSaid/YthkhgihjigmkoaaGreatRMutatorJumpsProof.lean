import Derived.Test.YthkhgihjigmkoaaGreatRCa
import Derived.Test.YthkhgihjigmkoaaGreatRBz
import Derived.Test.YthkhgihjigmkoaaGreatRows
set_option linter.unusedVariables false
set_option linter.unusedSimpArgs false
namespace Go.Proofs.YthkhgihjigmkoaaGreat.mutatorJumps
open Go.ChangeShapes Go.WideShapes Go.ChangeAt Go.RowKit Go.Maps Tk
theorem slot_five (slot : Int) : ∃ s : Nat, s < 5 ∧ (wrap64 (slot.tmod 5 + 5)).tmod 5 = (s : Int) := by
 have h1 := Int.lt_tmod_of_pos slot (show (0 : Int) < 5 by decide)
 have h2 := Int.tmod_lt_of_pos slot (show (0 : Int) < 5 by decide)
 generalize slot.tmod 5 = r at *
 have h3 : wrap64 (r + 5) = r + 5 := IntWalk.wrap64_in _ (by omega)
 rw [h3, Int.tmod_eq_emod_of_nonneg (by omega)]
 exact ⟨((r + 5) % 5).toNat, by omega, by omega⟩
set_option maxRecDepth 100000 in
set_option maxHeartbeats 6400000 in
theorem walk (w : World) (v : Int) (w0 : (Lit.int .i64 v).wf = true) (ti : Int) (w1 : (Lit.int .i64 ti).wf = true) :
  Calls Tryz.prog 5 #[.int .i64 v, .int .i64 ti] w fun e w' => e = .returned (.bool true) ∧ Below w.heap.size w w' := by
 have al := alive23
 clear w0 w1
 obtain ⟨d, hd5, hdm⟩ := slot_five ti
 obtain ⟨x, hx⟩ : ∃ x, x = wrap32 v := ⟨_, rfl⟩
 have hx32 : wrap32 x = x := by rw [hx, w32_w32]
 have hxB : i64B x := by have := w32_bd v; unfold i64B; omega
 have ra := fun w => rof_any v w
 rw [← hx] at ra
 have hsB := jmp_B x d hxB hd5
 have hst' := jmp_tab x d hd5
 have RA := Lib.hid ra; clear ra
 clear hx hxB
 have AL := Lib.hid al; clear al
 have HSB := Lib.hid hsB; clear hsB
 have HST' := Lib.hid hst'; clear hst'
 have HX32 := Lib.hid hx32; clear hx32
 go_enter Tryz.func5, Tryz.ntmps5
 go_wp2_with fail
 refine (AL.out _).mono ?_
 rintro e w1 ⟨rfl, hb1⟩
 have HB1 := Lib.hid hb1
 clear hb1
 go_wp2_with fail
 refine (RA.out _).mono ?_
 rintro e w2 ⟨rfl, rfl⟩
 have hcd := CellsAt.new w1 #[.int .i64 1, .int .i64 0, .int .i64 x, .int .i64 0, .int .i64 10, .int .i64 0, .int .i64 d, .int .i64 0, .int .i64 9, .int .i64 0, .int .i64 d, .int .i64 0, .int .i64 0, .int .i64 0, .int .i64 0, .int .i64 0] 59 (0, 0)
 have hb2 := HB1.out.alloc HB1.out.size (.cells #[.int .i64 1, .int .i64 0, .int .i64 x, .int .i64 0, .int .i64 10, .int .i64 0, .int .i64 d, .int .i64 0, .int .i64 9, .int .i64 0, .int .i64 d, .int .i64 0, .int .i64 0, .int .i64 0, .int .i64 0, .int .i64 0] 59)
 have sg := singleS _ 1 (codeJ x d) w1.heap.size 0 4 hcd (by show 4 ≤ 1000; decide)
 clear hcd HB1
 have SG := Lib.hid sg; clear sg
 have HB2 := Lib.hid hb2; clear hb2
 go_wp2_with fail
 refine SG.out.mono ?_
 rintro e w4 ⟨a0, n0, m0, a1, m1, a2, m2, D, rfl, hD4, hpv, hpg, hb4⟩
 have hb4 := HB2.out.trans (hb4.mono HB2.out.size)
 obtain ⟨W, hW⟩ : ∃ W, W = w4.alloc (.cells #[.slice a0 n0 m0, .slice a1 1 m1, .slice a2 1 m2] 27) := ⟨_, rfl⟩
 obtain ⟨hC, hD, hba, bg⟩ := boxS hpv hpg hD4 (by omega) HSB.out HST'.out W hW
 obtain ⟨pb, hpb⟩ : ∃ pb, pb = w4.heap.size := ⟨_, rfl⟩
 rw [← hpb] at hC
 have hW0 := hb4.trans (hba.mono hb4.size)
 obtain ⟨k0, k1, k2, _⟩ := hC W (Below.refl _ _)
 have HW := Lib.hid hW
 have HPB := Lib.hid hpb
 clear hW hpb hba hb4 hpv hpg hD4 HSB HST' SG
 have BG := Lib.hid bg; clear bg
 have HC := Lib.hid hC; clear hC
 have HD := Lib.hid hD; clear hD
 have HW0 := Lib.hid hW0; clear hW0
 go_upto_region 5 with fail
 rw [← HW.out, ← HPB.out]
 go_wp2_with fail
 refine BG.out.mono ?_
 rintro e w6 ⟨mb, tb, F, X, rfl, hT, hF, hMaps, hb6⟩
 clear k0 k1 k2
 have HT := Lib.hid hT; clear hT
 have HF := Lib.hid hF; clear hF
 have HB6 := Lib.hid hb6; clear hb6
 have HMAPS := Lib.hid hMaps; clear hMaps
 have HT1 := HT
 have HF1 := HF
 have HB1 := HB6
 clear HT HF HB6
 obtain ⟨q0, q1, q2, hg⟩ := HC.out w6 HB1.out
 have st := jStep0 HX32.out HT1.out D (fun k hk => ⟨fun h => by have := HD.out k hk; have := HF1.out k h; omega, by have := HD.out k hk; have := HB1.out.size; omega⟩) _ _ _ (some ⟨mb, 0, none⟩) hg
 clear hg HT1
 have ST := Lib.hid st; clear st
 go_wp2_with fail
 refine ST.out.mono ?_
 rintro e w7 ⟨rfl, F2, X2, hT2, hXD, hF2, hf2⟩
 unfold actV
 have hb7 := HB1.out.trans (hf2.below HB1.out.size (fun q hq => HF1.out q hq))
 have hF3 : ∀ q, F2 q → W.heap.size ≤ q := fun q hq => (hF2 q hq).elim (HF1.out q) (fun h => by have := HB1.out.size; omega)
 clear q0 q1 q2 hF2 hf2 ST HF1 HB1 hXD
 have HT1 := Lib.hid hT2
 have HF1 := Lib.hid hF3
 have HB1 := Lib.hid hb7
 clear hT2 hF3 hb7
 obtain ⟨q0, q1, q2, hg⟩ := HC.out w7 HB1.out
 have st := jStep1 HT1.out D (fun k hk => ⟨fun h => by have := HD.out k hk; have := HF1.out k h; omega, by have := HD.out k hk; have := HB1.out.size; omega⟩) _ _ _ (some ⟨mb, 0, none⟩) hg
 clear hg HT1
 have ST := Lib.hid st; clear st
 go_wp2_with fail
 refine ST.out.mono ?_
 rintro e w8 ⟨rfl, F2, X2, hT2, hXD, hF2, hf2⟩
 unfold actV
 have hb7 := HB1.out.trans (hf2.below HB1.out.size (fun q hq => HF1.out q hq))
 have hF3 : ∀ q, F2 q → W.heap.size ≤ q := fun q hq => (hF2 q hq).elim (HF1.out q) (fun h => by have := HB1.out.size; omega)
 clear q0 q1 q2 hF2 hf2 ST HF1 HB1 hXD
 have ha := (Below.refl w8.heap.size w8).alloc (Nat.le_refl _) act0
 have hr8 := heap_new w8 act0
 obtain ⟨Y, hY⟩ : ∃ Y, Y = w8.alloc act0 := ⟨_, rfl⟩
 rw [← hY] at ha hr8
 have hTy := hT2.below ha
 have hby := hb7.trans (ha.mono hb7.size)
 have kk : Y.cell? ⟨w8.heap.size, 0, none⟩ = some (.int .i64 0) := (row_cell hr8 0).1
 unfold act0 at hY
 obtain ⟨z, hz⟩ : ∃ z, z = w8.heap.size := ⟨_, rfl⟩
 rw [← hz] at kk
 have HY := Lib.hid hY
 have HZ := Lib.hid hz
 clear ha hr8 hY hz hT2 hb7
 by_cases h0 : x = 0
 ·rw [if_pos h0] at hTy
  have HT1 := Lib.hid hTy
  have HF1 := Lib.hid hF3
  have HB1 := Lib.hid hby
  have hx0 : (x != 0) = false := by rw [h0]; rfl
  have pc := pcS hTy
  clear hTy hF3 hby
  subst h0
  have PC := Lib.hid pc; clear pc
  go_upto_region 10 with fail
  rw [← HY.out, ← HZ.out]
  go_wp2_with fail
  refine (RA.out _).mono ?_
  rintro e w2 ⟨rfl, rfl⟩
  go_wp2_with fail
  refine PC.out.mono ?_
  rintro e w9 ⟨rfl, m, rfl⟩
  have hT9 := HT1.out.below (below_drewN (Below.refl _ _) m)
  have hB9 := below_drewN HB1.out m
  have HT1 := Lib.hid hT9
  have HB1 := Lib.hid hB9
  clear hT9 hB9 kk
  generalize Y.drewN m = Y2 at *
  obtain ⟨q0, q1, q2, hg⟩ := HC.out Y2 HB1.out
  have st := jStep2 HT1.out D (fun k hk => ⟨fun h => by have := HD.out k hk; have := HF1.out k h; omega, by have := HD.out k hk; have := HB1.out.size; omega⟩) _ _ _ (some ⟨mb, 0, none⟩) hg
  clear hg HT1
  have ST := Lib.hid st; clear st
  go_wp2_with fail
  refine ST.out.mono ?_
  rintro e w10 ⟨rfl, F2, X2, hT2, hXD, hF2, hf2⟩
  unfold actV
  have hb7 := HB1.out.trans (hf2.below HB1.out.size (fun q hq => HF1.out q hq))
  have hF3 : ∀ q, F2 q → W.heap.size ≤ q := fun q hq => (hF2 q hq).elim (HF1.out q) (fun h => by have := HB1.out.size; omega)
  clear q0 q1 q2 hF2 hf2 ST HF1 HB1 hXD
  have pc := fun wr (hw : Below w10.heap.size w10 wr) => pcS (hT2.below hw)
  have ha := (Below.refl w10.heap.size w10).alloc (Nat.le_refl _) act0
  have hr8 := heap_new w10 act0
  obtain ⟨Y3, hY⟩ : ∃ Y3, Y3 = w10.alloc act0 := ⟨_, rfl⟩
  rw [← hY] at ha hr8
  have pc := pc _ ha
  have hby := hb7.trans (ha.mono hb7.size)
  have kk : Y3.cell? ⟨w10.heap.size, 0, none⟩ = some (.int .i64 0) := (row_cell hr8 0).1
  unfold act0 at hY
  obtain ⟨z3, hz⟩ : ∃ z3, z3 = w10.heap.size := ⟨_, rfl⟩
  rw [← hz] at kk
  have HY3 := Lib.hid hY
  have HZ3 := Lib.hid hz
  clear ha hr8 hY hz hT2 hb7 hF3
  have PC := Lib.hid pc; clear pc
  have HBY := Lib.hid hby; clear hby
  go_upto_region 17 with fail
  rw [← HY3.out, ← HZ3.out]
  go_wp2_with fail
  refine PC.out.mono ?_
  rintro e w11 ⟨rfl, m3, rfl⟩
  go_wp2_with fail
  go_ret
  exact ⟨rfl, below_drewN (HW0.out.trans (HBY.out.mono HW0.out.size)) m3⟩
 ·rw [if_neg h0] at hTy
  have hx0 : (x != 0) = true := by rw [bne_iff_ne]; exact h0
  have pc := pcS hTy
  have sl := fun wr (hw : Below Y.heap.size Y wr) => slotS (hTy.below hw) (jW_len x) (by omega) 0 (by omega) x rfl
  have hby := HW0.out.trans (hby.mono HW0.out.size)
  have hYY := Below.refl Y.heap.size Y
  clear hTy hF3
  have PC := Lib.hid pc; clear pc
  have SL := Lib.hid sl; clear sl
  have HBY := Lib.hid hby; clear hby
  have HYY := Lib.hid hYY; clear hYY
  go_upto_region 10 with fail
  rw [← HY.out, ← HZ.out]
  go_wp2_with fail
  refine (RA.out _).mono ?_
  rintro e w2 ⟨rfl, rfl⟩
  go_wp2_with fail
  refine PC.out.mono ?_
  rintro e w9 ⟨rfl, m, rfl⟩
  go_wp2_with fail
  refine (SL.out _ (below_drewN HYY.out m)).mono ?_
  rintro e w10 ⟨rfl, hb10⟩
  have hb10 := (below_drewN HYY.out m).trans (hb10.mono (below_drewN HYY.out m).size)
  have hb11 := HBY.out.trans (hb10.mono HBY.out.size)
  clear hb10
  have HB11 := Lib.hid hb11; clear hb11
  go_wp2_with fail
  refine (RA.out _).mono ?_
  rintro e w11 ⟨rfl, rfl⟩
  go_wp2_with fail
  go_ret
  exact ⟨rfl, HB11.out⟩
theorem own : ownKnob Tryz.prog.godebug = none := by kernel_rfl
theorem laidOut : laidOutB Tryz.prog = true := by kernel_rfl
set_option maxRecDepth 100000 in
theorem lifted (os : Os) (started : os.Started) (H : Type) (enc : TypeId × Value → H) :
  ReturnsInHanded {} Tryz.checked os 5 .any (Rows.mutatorJumpsSpec.pre6 enc Tryz.prog Tryz.f5 Rows.mutatorJumpsRow.domain false) (Rows.mutatorJumpsSpec.post enc Tryz.prog Tryz.f5 false true false false) := by
 refine returnsInHanded_of_change (C := Tryz.checked) own started (by kernel_rfl) Tryz.func5
  (ChangeSpec.witness6 (enc := enc) (C := Tryz.checked) false ⟨#[], #[.int .i64 0, .int .i64 0], []⟩ 8 (by kernel_rfl) (by kernel_rfl) (by kernel_rfl) (by kernel_rfl)) ?_
 intro W base args ds gs before hval0 hW hcnd _
 have hval : ∀ (j : Nat) t v, Tryz.f5.params[j]? = some t → args[j]? = some v → Value.okWide Tryz.prog W .any base t v := hval0
 have hW' := hW
 obtain ⟨p, q, hA0, hV, rfl, hfz, hnd⟩ := hW
 have hA : DataW.TrodAll enc Tryz.prog W 0 (fun _ => true) true Tryz.f5.params.toList args.toList ds p := hA0
 rw [Tryz.params5] at hA hval
 obtain ⟨v0, vs0, d0, ds0, p0, q0, hargs, rfl, rfl, h0, r0⟩ := trodAll_cons hA
 obtain ⟨v1, vs1, d1, ds1, p1, q1, rfl, rfl, rfl, h1, r1⟩ := trodAll_cons r0
 obtain ⟨rfl, rfl, rfl⟩ := trodAll_nil r1
 obtain rfl : args = #[v0, v1] := by cases args; simp_all
 obtain ⟨a0, rfl, rfl, rfl, w0⟩ := open_int Tryz.underlying3 (hval 0 3 v0 rfl rfl) h0
 obtain ⟨a1, rfl, rfl, rfl, w1⟩ := open_int Tryz.underlying3 (hval 1 3 v1 rfl rfl) h1
 clear hA0 hval0
 simp only [List.append_nil] at hW'
 refine (walk W a0 w0 a1 w1).mono fun e W' ⟨he, hb⟩ => ?_
 subst he
 exact ⟨_, rfl, law_post laidOut (by kernel_rfl) rfl Tryz.underlying4 hW' rfl (fun ds h => by match ds, h with | [_, _], _ => rfl) hb⟩
theorem over : Rows.mutatorJumpsRow.holds Tryz.pinned (OpenSpec.ofChange Rows.mutatorJumpsSpec) :=
 OpenClaim.holds_of_wide 5 Tryz.f5 rfl rfl rfl rfl rfl rfl rfl ⟨rfl, rfl, rfl, rfl, rfl⟩ rfl rfl rfl rfl rfl (by kernel_rfl) Tryz.func5 (by kernel_rfl)
  (of_decide_eq_true (by kernel_rfl)) (by unfold Func.isWrapper; first | (rw [if_pos (by decide +kernel)]; kernel_rfl) | (rw [if_neg (by decide +kernel)]; exact ⟨rfl, rfl⟩))
  (fun os started H enc _ => lifted os started H enc)
theorem proved : Rows.MutatorJumpsSaid := over
#print axioms proved
end Go.Proofs.YthkhgihjigmkoaaGreat.mutatorJumps
