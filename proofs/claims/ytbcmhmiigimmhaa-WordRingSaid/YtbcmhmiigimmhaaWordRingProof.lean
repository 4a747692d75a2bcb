/- Numbers of 32 bits are a ring, for every three numbers. No condition: for every input. -/
import Derived.Test.YtbcmhmiigimmhaaWordB
import Derived.Test.YtbcmhmiigimmhaaLaw
namespace Go.Proofs.Ytbcmhmiigimmhaa.wordRing
open Go.ChangeShapes Go.WideShapes Go.ChangeAt Go.RowKit

set_option maxHeartbeats 1600000 in
theorem walk (a : Int) (_ : (Lit.int .i64 a).wf = true) (b : Int) (_ : (Lit.int .i64 b).wf = true) (c : Int) (_ : (Lit.int .i64 c).wf = true) (w : World) :
    Calls Try.prog 4 #[.int .i64 a, .int .i64 b, .int .i64 c] w fun e w' => e = .returned (.bool true) ∧ Below w.heap.size w w' := by
  have d1 := do_any 3 a b
  have d2 := do_any 5 (wrap32 (a + b)) c
  have d3 := do_any 5 a c
  have d4 := do_any 5 b c
  have d5 := do_any 3 (wrap32 (a * c)) (wrap32 (b * c))
  have d6 := do_any 5 a b
  have d7 := do_any 5 b a
  have d8 := do_any 4 0 a
  have d9 := do_any 3 a (wrap32 (0 - a))
  have o1 := of_any a
  have o2 := of_any (wrap32 a)
  have e1 : doV 3 a b = (wrap32 (a + b), true) := rfl
  have e2 : doV 5 (wrap32 (a + b)) c = (wrap32 ((a + b) * c), true) := by
    show (wrap32 (wrap32 (a + b) * c), true) = _
    rw [w32_mul_l]
  have e3 : doV 5 a c = (wrap32 (a * c), true) := rfl
  have e4 : doV 5 b c = (wrap32 (b * c), true) := rfl
  have e5 : doV 3 (wrap32 (a * c)) (wrap32 (b * c)) = (wrap32 ((a + b) * c), true) := by
    show (wrap32 (wrap32 (a * c) + wrap32 (b * c)), true) = _
    rw [w32_add, Int.add_mul]
  have e6 : doV 5 a b = (wrap32 (a * b), true) := rfl
  have e7 : doV 5 b a = (wrap32 (a * b), true) := by rw [Int.mul_comm a b]; rfl
  have e8 : doV 4 0 a = (wrap32 (0 - a), true) := rfl
  have e9 : doV 3 a (wrap32 (0 - a)) = (0, true) := by
    show (wrap32 (a + wrap32 (0 - a)), true) = _
    rw [w32_add_r, show a + (0 - a) = 0 from by omega, show wrap32 0 = 0 from by decide +kernel]
  rw [e1] at d1; rw [e2] at d2; rw [e3] at d3; rw [e4] at d4; rw [e5] at d5; rw [e6] at d6; rw [e7] at d7; rw [e8] at d8; rw [e9] at d9
  rw [w32_w32] at o2
  clear e1 e2 e3 e4 e5 e6 e7 e8 e9
  generalize wrap32 (a + b) = x1 at *
  generalize wrap32 ((a + b) * c) = x2 at *
  generalize wrap32 (a * c) = x3 at *
  generalize wrap32 (b * c) = x4 at *
  generalize wrap32 (a * b) = x5 at *
  generalize wrap32 (0 - a) = x6 at *
  generalize wrap32 a = x7 at *
  have al := alive2
  have AL := Lib.hid al; clear al
  have D1 := Lib.hid d1; clear d1
  have D2 := Lib.hid d2; clear d2
  have D3 := Lib.hid d3; clear d3
  have D4 := Lib.hid d4; clear d4
  have D5 := Lib.hid d5; clear d5
  have D6 := Lib.hid d6; clear d6
  have D7 := Lib.hid d7; clear d7
  have D8 := Lib.hid d8; clear d8
  have D9 := Lib.hid d9; clear d9
  have O1 := Lib.hid o1; clear o1
  have O2 := Lib.hid o2; clear o2
  go_enter Try.func4, Try.ntmps4
  go_wp2_with fail
  refine (AL.out _).mono ?_; rintro e w' ⟨rfl, rfl⟩
  go_wp2_with fail
  refine (D1.out _).mono ?_; rintro e w' ⟨rfl, rfl⟩
  go_wp2_with fail
  refine (D2.out _).mono ?_; rintro e w' ⟨rfl, rfl⟩
  go_wp2_with fail
  refine (D3.out _).mono ?_; rintro e w' ⟨rfl, rfl⟩
  go_wp2_with fail
  refine (D4.out _).mono ?_; rintro e w' ⟨rfl, rfl⟩
  go_wp2_with fail
  refine (D5.out _).mono ?_; rintro e w' ⟨rfl, rfl⟩
  go_wp2_with fail
  refine (D6.out _).mono ?_; rintro e w' ⟨rfl, rfl⟩
  go_wp2_with fail
  refine (D7.out _).mono ?_; rintro e w' ⟨rfl, rfl⟩
  go_wp2_with fail
  refine (D8.out _).mono ?_; rintro e w' ⟨rfl, rfl⟩
  go_wp2_with fail
  refine (D9.out _).mono ?_; rintro e w' ⟨rfl, rfl⟩
  go_wp2_with fail
  refine (O1.out _).mono ?_; rintro e w' ⟨rfl, rfl⟩
  go_wp2_with fail
  refine (O2.out _).mono ?_; rintro e w' ⟨rfl, rfl⟩
  go_wp2_with fail
  refine (O1.out _).mono ?_; rintro e w' ⟨rfl, rfl⟩
  go_wp2_with fail
  go_ret
  exact ⟨rfl, Below.refl _ _⟩
theorem own : ownKnob Try.prog.godebug = none := by kernel_rfl
theorem laidOut : laidOutB Try.prog = true := by kernel_rfl
set_option maxRecDepth 100000 in
theorem lifted (os : Os) (started : os.Started) (H : Type) (enc : TypeId × Value → H) :
    ReturnsInHanded {} Try.checked os 4 .any (Rows.wordRingSpec.pre6 enc Try.prog Try.f4 Rows.wordRingRow.domain false) (Rows.wordRingSpec.post enc Try.prog Try.f4 false true false false) := by
  refine returnsInHanded_of_change (C := Try.checked) own started (by kernel_rfl) Try.func4
    (ChangeSpec.witness6 (enc := enc) (C := Try.checked) false ⟨#[], #[.int .i64 0, .int .i64 0, .int .i64 0], []⟩ 8 (by kernel_rfl) (by kernel_rfl) (by kernel_rfl) (by kernel_rfl)) ?_
  intro W base args ds gs before hval0 hW hcnd _
  have hval : ∀ (j : Nat) t v, Try.f4.params[j]? = some t → args[j]? = some v → Value.okWide Try.prog W .any base t v := hval0
  have hW' := hW
  obtain ⟨p, q, hA0, hV, rfl, hfz, hnd⟩ := hW
  have hA : DataW.TrodAll enc Try.prog W 0 (fun _ => true) true Try.f4.params.toList args.toList ds p := hA0
  rw [Try.params4] at hA hval
  obtain ⟨v0, vs0, d0, ds0, p0, q0, hargs, rfl, rfl, h0, r0⟩ := trodAll_cons hA
  obtain ⟨v1, vs1, d1, ds1, p1, q1, rfl, rfl, rfl, h1, r1⟩ := trodAll_cons r0
  obtain ⟨v2, vs2, d2, ds2, p2, q2, rfl, rfl, rfl, h2, r2⟩ := trodAll_cons r1
  obtain ⟨rfl, rfl, rfl⟩ := trodAll_nil r2
  obtain rfl : args = #[v0, v1, v2] := by cases args; simp_all
  obtain ⟨a0, rfl, rfl, rfl, w0⟩ := open_int Try.underlying3 (hval 0 3 v0 rfl rfl) h0
  obtain ⟨a1, rfl, rfl, rfl, w1⟩ := open_int Try.underlying3 (hval 1 3 v1 rfl rfl) h1
  obtain ⟨a2, rfl, rfl, rfl, w2⟩ := open_int Try.underlying3 (hval 2 3 v2 rfl rfl) h2
  clear hA0 hval0
  simp only [List.append_nil] at hW'
  refine (walk a0 w0 a1 w1 a2 w2 W).mono fun e W' ⟨he, hb⟩ => ?_
  subst he
  exact ⟨_, rfl, law_post laidOut (by kernel_rfl) rfl Try.underlying4 hW' rfl (fun ds h => by match ds, h with | [_, _, _], _ => rfl) hb⟩
theorem over : Rows.wordRingRow.holds Try.pinned (OpenSpec.ofChange Rows.wordRingSpec) :=
  OpenClaim.holds_of_wide 4 Try.f4 rfl rfl rfl rfl rfl rfl rfl ⟨rfl, rfl, rfl, rfl, rfl⟩ rfl rfl rfl rfl rfl (by kernel_rfl) Try.func4 (by kernel_rfl)
    (of_decide_eq_true (by kernel_rfl)) (by unfold Func.isWrapper; first | (rw [if_pos (by decide +kernel)]; kernel_rfl) | (rw [if_neg (by decide +kernel)]; exact ⟨rfl, rfl⟩))
    (fun os started H enc _ => lifted os started H enc)
theorem proved : Rows.WordRingSaid := over
#print axioms proved
end Go.Proofs.Ytbcmhmiigimmhaa.wordRing
