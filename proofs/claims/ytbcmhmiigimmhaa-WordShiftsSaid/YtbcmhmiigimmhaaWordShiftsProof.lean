/- To shift twice is to shift by both, for every number and every two counts. No condition: for every input. -/
import Derived.Test.YtbcmhmiigimmhaaWordB
import Derived.Test.YtbcmhmiigimmhaaLaw
namespace Go.Proofs.Ytbcmhmiigimmhaa.wordShifts
open Go.ChangeShapes Go.WideShapes Go.ChangeAt Go.RowKit

theorem shB_of (m : Int) (h0 : 0 ≤ m) (h1 : m ≤ 31) : shB m = m.toNat := by unfold shB wrap32; omega
theorem both (a m n : Int) (hm : 0 ≤ m) (hn : 0 ≤ n) (h : m + n ≤ 31) :
    doV 6 (wrap32 (a * 2 ^ shB m)) n = (wrap32 (a * 2 ^ shB (m + n)), true) ∧ doV 7 (wrap32 a / 2 ^ shB m) n = (wrap32 a / 2 ^ shB (m + n), true) := by
  have hs : shB (m + n) = shB m + shB n := by
    rw [shB_of _ (by omega) h, shB_of _ hm (by omega), shB_of _ hn (by omega)]; omega
  constructor
  · show (wrap32 (wrap32 (a * 2 ^ shB m) * 2 ^ shB n), true) = _
    rw [w32_mul_l, hs, Int.pow_add, Int.mul_assoc]
  · show (wrap32 (wrap32 a / 2 ^ shB m) / 2 ^ shB n, true) = _
    rw [w32_in _ (shr_bd a _), Int.ediv_ediv_of_nonneg (Int.le_of_lt (Int.pow_pos (by decide))), ← Int.pow_add, hs]

set_option maxHeartbeats 1600000 in
theorem walk (a : Int) (_ : (Lit.int .i64 a).wf = true) (m : Int) (wm : (Lit.int .i64 m).wf = true) (n : Int) (wn : (Lit.int .i64 n).wf = true) (w : World) :
    Calls Try.prog 5 #[.int .i64 a, .int .i64 m, .int .i64 n] w fun e w' => e = .returned (.bool true) ∧ Below w.heap.size w w' := by
  have bm := bounds_i64 wm
  have bn := bounds_i64 wn
  have al := alive2
  by_cases h1 : m < 0
  · skip
    have AL := Lib.hid al; clear al
    go_enter Try.func5, Try.ntmps5
    go_wp2_with fail
    refine (AL.out _).mono ?_; rintro e w' ⟨rfl, rfl⟩
    go_wp2_with fail
    go_ret
    exact ⟨rfl, Below.refl _ _⟩
  by_cases h2 : n < 0
  · skip
    have AL := Lib.hid al; clear al
    go_enter Try.func5, Try.ntmps5
    go_wp2_with fail
    refine (AL.out _).mono ?_; rintro e w' ⟨rfl, rfl⟩
    go_wp2_with fail
    go_ret
    exact ⟨rfl, Below.refl _ _⟩
  by_cases h3 : 31 < m
  · skip
    have AL := Lib.hid al; clear al
    go_enter Try.func5, Try.ntmps5
    go_wp2_with fail
    refine (AL.out _).mono ?_; rintro e w' ⟨rfl, rfl⟩
    go_wp2_with fail
    go_ret
    exact ⟨rfl, Below.refl _ _⟩
  by_cases h4 : 31 - m < n
  · skip
    have AL := Lib.hid al; clear al
    go_enter Try.func5, Try.ntmps5
    go_wp2_with fail
    refine (AL.out _).mono ?_; rintro e w' ⟨rfl, rfl⟩
    go_wp2_with fail
    go_ret
    exact ⟨rfl, Below.refl _ _⟩
  obtain ⟨b1, b2⟩ := both a m n (by omega) (by omega) (by omega)
  have d1 := do_any 6 a m
  have d2 := do_any 6 (wrap32 (a * 2 ^ shB m)) n
  have d3 := do_any 6 a (m + n)
  have d4 := do_any 7 a m
  have d5 := do_any 7 (wrap32 a / 2 ^ shB m) n
  have d6 := do_any 7 a (m + n)
  have d7 := do_any 6 a 32
  have d8 := do_any 7 a 64
  have o1 := of_any a
  have e1 : doV 6 a m = (wrap32 (a * 2 ^ shB m), true) := rfl
  have e3 : doV 6 a (m + n) = (wrap32 (a * 2 ^ shB (m + n)), true) := rfl
  have e4 : doV 7 a m = (wrap32 a / 2 ^ shB m, true) := rfl
  have e6 : doV 7 a (m + n) = (wrap32 a / 2 ^ shB (m + n), true) := rfl
  have e7 : doV 6 a 32 = (wrap32 a, true) := by
    show (wrap32 (a * 2 ^ shB 32), true) = _
    rw [show shB 32 = 0 from by decide +kernel, Int.pow_zero, Int.mul_one]
  have e8 : doV 7 a 64 = (wrap32 a, true) := by
    show (wrap32 a / 2 ^ shB 64, true) = _
    rw [show shB 64 = 0 from by decide +kernel, Int.pow_zero, Int.ediv_one]
  rw [e1] at d1; rw [b1] at d2; rw [e3] at d3; rw [e4] at d4; rw [b2] at d5; rw [e6] at d6; rw [e7] at d7; rw [e8] at d8
  clear e1 e3 e4 e6 e7 e8 b1 b2
  generalize wrap32 (a * 2 ^ shB m) = x1 at *
  generalize wrap32 (a * 2 ^ shB (m + n)) = x2 at *
  generalize wrap32 a / 2 ^ shB m = x3 at *
  generalize wrap32 a / 2 ^ shB (m + n) = x4 at *
  generalize wrap32 a = x5 at *
  have AL := Lib.hid al; clear al
  have D1 := Lib.hid d1; clear d1
  have D2 := Lib.hid d2; clear d2
  have D3 := Lib.hid d3; clear d3
  have D4 := Lib.hid d4; clear d4
  have D5 := Lib.hid d5; clear d5
  have D6 := Lib.hid d6; clear d6
  have D7 := Lib.hid d7; clear d7
  have D8 := Lib.hid d8; clear d8
  have O1 := Lib.hid o1; clear o1
  go_enter Try.func5, Try.ntmps5
  go_wp2_with fail
  refine (AL.out _).mono ?_; rintro e w' ⟨rfl, rfl⟩
  go_wp2_with fail
  refine (D1.out _).mono ?_; rintro e w' ⟨rfl, rfl⟩
  go_wp2_with fail
  refine (D2.out _).mono ?_; rintro e w' ⟨rfl, rfl⟩
  go_wp2_with fail
  refine (D3.out _).mono ?_; rintro e w' ⟨rfl, rfl⟩
  go_wp2_with fail
  refine (D4.out _).mono ?_; rintro e w' ⟨rfl, rfl⟩
  go_wp2_with fail
  refine (D5.out _).mono ?_; rintro e w' ⟨rfl, rfl⟩
  go_wp2_with fail
  refine (D6.out _).mono ?_; rintro e w' ⟨rfl, rfl⟩
  go_wp2_with fail
  refine (D7.out _).mono ?_; rintro e w' ⟨rfl, rfl⟩
  go_wp2_with fail
  refine (D8.out _).mono ?_; rintro e w' ⟨rfl, rfl⟩
  go_wp2_with fail
  refine (O1.out _).mono ?_; rintro e w' ⟨rfl, rfl⟩
  go_wp2_with fail
  refine (O1.out _).mono ?_; rintro e w' ⟨rfl, rfl⟩
  go_wp2_with fail
  go_ret
  exact ⟨rfl, Below.refl _ _⟩
theorem own : ownKnob Try.prog.godebug = none := by kernel_rfl
theorem laidOut : laidOutB Try.prog = true := by kernel_rfl
set_option maxRecDepth 100000 in
theorem lifted (os : Os) (started : os.Started) (H : Type) (enc : TypeId × Value → H) :
    ReturnsInHanded {} Try.checked os 5 .any (Rows.wordShiftsSpec.pre6 enc Try.prog Try.f5 Rows.wordShiftsRow.domain false) (Rows.wordShiftsSpec.post enc Try.prog Try.f5 false true false false) := by
  refine returnsInHanded_of_change (C := Try.checked) own started (by kernel_rfl) Try.func5
    (ChangeSpec.witness6 (enc := enc) (C := Try.checked) false ⟨#[], #[.int .i64 0, .int .i64 0, .int .i64 0], []⟩ 8 (by kernel_rfl) (by kernel_rfl) (by kernel_rfl) (by kernel_rfl)) ?_
  intro W base args ds gs before hval0 hW hcnd _
  have hval : ∀ (j : Nat) t v, Try.f5.params[j]? = some t → args[j]? = some v → Value.okWide Try.prog W .any base t v := hval0
  have hW' := hW
  obtain ⟨p, q, hA0, hV, rfl, hfz, hnd⟩ := hW
  have hA : DataW.TrodAll enc Try.prog W 0 (fun _ => true) true Try.f5.params.toList args.toList ds p := hA0
  rw [Try.params5] at hA hval
  obtain ⟨v0, vs0, d0, ds0, p0, q0, hargs, rfl, rfl, h0, r0⟩ := trodAll_cons hA
  obtain ⟨v1, vs1, d1, ds1, p1, q1, rfl, rfl, rfl, h1, r1⟩ := trodAll_cons r0
  obtain ⟨v2, vs2, d2, ds2, p2, q2, rfl, rfl, rfl, h2, r2⟩ := trodAll_cons r1
  obtain ⟨rfl, rfl, rfl⟩ := trodAll_nil r2
  obtain rfl : args = #[v0, v1, v2] := by cases args; simp_all
  obtain ⟨a0, rfl, rfl, rfl, w0⟩ := open_int Try.underlying3 (hval 0 3 v0 rfl rfl) h0
  obtain ⟨a1, rfl, rfl, rfl, w1⟩ := open_int Try.underlying3 (hval 1 3 v1 rfl rfl) h1
  obtain ⟨a2, rfl, rfl, rfl, w2⟩ := open_int Try.underlying3 (hval 2 3 v2 rfl rfl) h2
  clear hA0 hval0
  simp only [List.append_nil] at hW'
  refine (walk a0 w0 a1 w1 a2 w2 W).mono fun e W' ⟨he, hb⟩ => ?_
  subst he
  exact ⟨_, rfl, law_post laidOut (by kernel_rfl) rfl Try.underlying4 hW' rfl (fun ds h => by match ds, h with | [_, _, _], _ => rfl) hb⟩
theorem over : Rows.wordShiftsRow.holds Try.pinned (OpenSpec.ofChange Rows.wordShiftsSpec) :=
  OpenClaim.holds_of_wide 5 Try.f5 rfl rfl rfl rfl rfl rfl rfl ⟨rfl, rfl, rfl, rfl, rfl⟩ rfl rfl rfl rfl rfl (by kernel_rfl) Try.func5 (by kernel_rfl)
    (of_decide_eq_true (by kernel_rfl)) (by unfold Func.isWrapper; first | (rw [if_pos (by decide +kernel)]; kernel_rfl) | (rw [if_neg (by decide +kernel)]; exact ⟨rfl, rfl⟩))
    (fun os started H enc _ => lifted os started H enc)
theorem proved : Rows.WordShiftsSaid := over
#print axioms proved
end Go.Proofs.Ytbcmhmiigimmhaa.wordShifts
