/- Numbers of 32 bits go round, for every two numbers. No condition: for every input. -/
import Derived.Test.YtbcmhmiigimmhaaWordB
namespace Go.Proofs.Ytbcmhmiigimmhaa.wordLaws
open Go.ChangeShapes Go.WideShapes Go.ChangeAt Go.RowKit

set_option maxHeartbeats 1600000 in
theorem walk (a : Int) (wa : (Lit.int .i64 a).wf = true) (b : Int) (wb : (Lit.int .i64 b).wf = true) (w : World) :
    Calls Try.prog 3 #[.int .i64 a, .int .i64 b] w fun e w' => e = .returned (.bool true) ∧ Grown w w' := by
  have hA := w32_bd a
  have hB := w32_bd b
  have d1 := do_any 3 a b
  have d2 := do_any 4 (wrap32 (a + b)) b
  have d3 := do_any 6 a 1
  have d4 := do_any 3 a a
  have d5 := do_any 7 a 1
  have d6 := do_any 8 a b
  have o1 := of_any a
  have o2 := of_any b
  have e1 : doV 3 a b = (wrap32 (a + b), true) := rfl
  have e2 : doV 4 (wrap32 (a + b)) b = (wrap32 a, true) := by
    show (wrap32 (wrap32 (a + b) - b), true) = _
    rw [w32_sub_l, show a + b - b = a from by omega]
  have s1 : shB 1 = 1 := by decide +kernel
  have e3 : doV 6 a 1 = (wrap32 (a + a), true) := by
    show (wrap32 (a * 2 ^ shB 1), true) = _
    rw [s1, show a * 2 ^ 1 = a + a from by omega]
  have e4 : doV 3 a a = (wrap32 (a + a), true) := rfl
  have e5 : doV 7 a 1 = (wrap32 a / 2, true) := by
    show (wrap32 a / 2 ^ shB 1, true) = _
    rw [s1]; rfl
  rw [e1] at d1; rw [e2] at d2; rw [e3] at d3; rw [e4] at d4; rw [e5] at d5
  have hq : 2 * (wrap32 a / 2) = wrap32 a ∨ 2 * (wrap32 a / 2) = wrap32 a - 1 := by omega
  obtain ⟨n, hn⟩ : ∃ n, n = wrap32 a := ⟨_, rfl⟩
  obtain ⟨m, hm⟩ : ∃ m, m = wrap32 b := ⟨_, rfl⟩
  have e6 : doV 8 a b = (if n < m then 1 else 0, true) := by rw [hn, hm]; rfl
  rw [e6] at d6
  rw [← hn] at hA hq d2 d5 o1
  rw [← hm] at hB o2
  obtain ⟨s, hs⟩ : ∃ s, s = wrap32 (a + b) := ⟨_, rfl⟩
  obtain ⟨v, hv⟩ : ∃ v, v = wrap32 (a + a) := ⟨_, rfl⟩
  rw [← hs] at d1 d2
  rw [← hv] at d3 d4
  clear e1 e2 e3 e4 e5 e6 s1 hn hm hs hv
  have A := Lib.hid (alive2 w)
  have D1 := Lib.hid d1; have D2 := Lib.hid d2; have D3 := Lib.hid d3; have D4 := Lib.hid d4; have D5 := Lib.hid d5; have O1 := Lib.hid o1; have O2 := Lib.hid o2
  clear d1 d2 d3 d4 d5 o1 o2
  by_cases hlt : n < m
  all_goals
    (first | rw [if_pos hlt] at d6 | rw [if_neg hlt] at d6)
    have D6 := Lib.hid d6
    clear d6
    have hlt' := hlt
    rcases hq with hq | hq
    all_goals
      go_enter Try.func3, Try.ntmps3
      go_wp2_with fail
      refine A.out.mono ?_; rintro e w' ⟨rfl, rfl⟩
      go_wp2_with fail
      refine (D1.out _).mono ?_; rintro e w' ⟨rfl, rfl⟩
      go_wp2_with fail
      refine (D2.out _).mono ?_; rintro e w' ⟨rfl, rfl⟩
      go_wp2_with fail
      refine (D3.out _).mono ?_; rintro e w' ⟨rfl, rfl⟩
      go_wp2_with fail
      refine (D4.out _).mono ?_; rintro e w' ⟨rfl, rfl⟩
      go_wp2_with fail
      refine (D5.out _).mono ?_; rintro e w' ⟨rfl, rfl⟩
      go_wp2_with fail
      refine (D6.out _).mono ?_; rintro e w' ⟨rfl, rfl⟩
      go_wp2_with fail
      refine (O1.out _).mono ?_; rintro e w' ⟨rfl, rfl⟩
      go_wp2_with fail
      refine (O2.out _).mono ?_; rintro e w' ⟨rfl, rfl⟩
      go_wp2_with fail
      go_ret
      exact ⟨by simp [hlt'], Grown.refl _⟩
theorem own : ownKnob Try.prog.godebug = none := by kernel_rfl
set_option maxRecDepth 100000 in
theorem lifted (os : Os) (started : os.Started) (H : Type) (enc : TypeId × Value → H) :
    ReturnsInHanded {} Try.checked os 3 .any (Rows.wordLawsSpec.pre6 enc Try.prog Try.f3 Rows.wordLawsRow.domain false) (Rows.wordLawsSpec.post enc Try.prog Try.f3 false true false false) := by
  refine returnsInHanded_of_change (C := Try.checked) own started (by kernel_rfl) Try.func3
    (ChangeSpec.witness6 (enc := enc) (C := Try.checked) false ⟨#[], #[.int .i64 0, .int .i64 0], []⟩ 8 (by kernel_rfl) (by kernel_rfl) (by kernel_rfl) (by kernel_rfl)) ?_
  intro W base args ds gs before hval0 hW hcnd _
  have hval : ∀ (j : Nat) t v, Try.f3.params[j]? = some t → args[j]? = some v → Value.okWide Try.prog W .any base t v := hval0
  have hW' := hW
  obtain ⟨p, q, hA0, hV, rfl, hfz, hnd⟩ := hW
  have hA : DataW.TrodAll enc Try.prog W 0 (fun _ => true) true Try.f3.params.toList args.toList ds p := hA0
  rw [Try.params3] at hA hval
  obtain ⟨v0, vs0, d0, ds0, p0, q0, hargs, rfl, rfl, h0, r0⟩ := trodAll_cons hA
  obtain ⟨v1, vs1, d1, ds1, p1, q1, rfl, rfl, rfl, h1, r1⟩ := trodAll_cons r0
  obtain ⟨rfl, rfl, rfl⟩ := trodAll_nil r1
  obtain rfl : args = #[v0, v1] := by cases args; simp_all
  obtain ⟨rfl, rfl⟩ := trodVars_none hV
  obtain ⟨a0, rfl, rfl, rfl, w0⟩ := open_int Try.underlying3 (hval 0 3 v0 rfl rfl) h0
  obtain ⟨a1, rfl, rfl, rfl, w1⟩ := open_int Try.underlying3 (hval 1 3 v1 rfl rfl) h1
  clear hA0 hval0
  simp only [List.append_nil] at hW'
  refine (walk a0 w0 a1 w1 W).mono fun e W' ⟨he, hg⟩ => ?_
  subst he
  exact ⟨_, rfl, post_of_same (pa := []) (pv := []) hW' (fun _ _ _ => (trodAll_cons_mk (shut_bool Try.underlying4 _) trodAll_mk0)) (fun sp _ => (trodAll_cons_mk (shut_int Try.underlying3 w0) (trodAll_cons_mk (shut_int Try.underlying3 w1) trodAll_mk0))) (fun _ _ => rfl) rfl
    (hg.frame _) hg.2.1 (ok_one (by kernel_rfl) rfl (okWide_bool_mk Try.underlying4 _))⟩
theorem over : Rows.wordLawsRow.holds Try.pinned (OpenSpec.ofChange Rows.wordLawsSpec) :=
  OpenClaim.holds_of_wide 3 Try.f3 rfl rfl rfl rfl rfl rfl rfl ⟨rfl, rfl, rfl, rfl, rfl⟩ rfl rfl rfl rfl rfl (by kernel_rfl) Try.func3 (by kernel_rfl)
    (of_decide_eq_true (by kernel_rfl)) (by unfold Func.isWrapper; first | (rw [if_pos (by decide +kernel)]; kernel_rfl) | (rw [if_neg (by decide +kernel)]; exact ⟨rfl, rfl⟩))
    (fun os started H enc _ => lifted os started H enc)
theorem proved : Rows.WordLawsSaid := over
#print axioms proved
end Go.Proofs.Ytbcmhmiigimmhaa.wordLaws
