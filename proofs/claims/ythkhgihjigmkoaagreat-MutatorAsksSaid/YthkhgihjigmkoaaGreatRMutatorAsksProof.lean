import Derived.Test.YthkhgihjigmkoaaGreatRBy
import Derived.Test.YthkhgihjigmkoaaGreatRBz
import Derived.Test.YthkhgihjigmkoaaGreatRows
import Derived.Deep.Light
set_option linter.unusedVariables false
set_option linter.unusedSimpArgs false
namespace Go.Proofs.YthkhgihjigmkoaaGreat.mutatorAsks
open Go.ChangeShapes Go.WideShapes Go.ChangeAt Go.RowKit Go.Maps Tk
set_option maxRecDepth 100000 in
set_option maxHeartbeats 3200000 in
theorem walk (w : World) (kind : Int) (w0 : (Lit.int .i64 kind).wf = true) (v : Int) (w1 : (Lit.int .i64 v).wf = true) (times : Int) (w2 : (Lit.int .i64 times).wf = true) :
  Calls Tryz.prog 7 #[.int .i64 kind, .int .i64 v, .int .i64 times] w fun e w' => e = .returned (.bool true) ∧ Below w.heap.size w w' := by
 clear w0 w1 w2
 by_cases hout : times < 1 ∨ 20 < times
 case pos =>
  have al := alive23
  have AL := Lib.hid al; clear al
  by_cases c3 : times < 1
  ·skip
   go_enter Tryz.func7, Tryz.ntmps7
   go_wp2_with fail
   refine (AL.out _).mono ?_
   rintro e w1 ⟨rfl, hb⟩
   have HB := Lib.hid hb
   clear hb
   go_wp2_with fail
   go_ret
   exact ⟨rfl, HB.out⟩
  by_cases c4 : 20 < times
  ·skip
   go_enter Tryz.func7, Tryz.ntmps7
   go_wp2_with fail
   refine (AL.out _).mono ?_
   rintro e w1 ⟨rfl, hb⟩
   have HB := Lib.hid hb
   clear hb
   go_wp2_with fail
   go_ret
   exact ⟨rfl, HB.out⟩
  exact absurd hout (by omega)
 obtain ⟨tm, rfl⟩ : ∃ tm : Nat, times = tm := ⟨times.toNat, by omega⟩
 obtain ⟨d, hd5, hdm⟩ := slot_five kind
 have hd2 : d = 0 ∨ d = 1 ∨ d = 2 ∨ d = 3 ∨ d = 4 := by omega
 rcases hd2 with rfl | rfl | rfl | rfl | rfl
 ·exact walk0 w kind v tm hdm (by omega) (by omega)
 ·exact walk1 w kind v tm hdm (by omega) (by omega)
 ·exact walk2 w kind v tm hdm (by omega) (by omega)
 ·exact walk3 w kind v tm hdm (by omega) (by omega)
 ·exact walk4 w kind v tm hdm (by omega) (by omega)
theorem own : ownKnob Tryz.prog.godebug = none := by kernel_rfl
theorem laidOut : laidOutB Tryz.prog = true := by kernel_rfl
set_option maxRecDepth 100000 in
theorem lifted (os : Os) (started : os.Started) (H : Type) (enc : TypeId × Value → H) :
  ReturnsInHanded {} Tryz.checked os 7 .any (Rows.mutatorAsksSpec.pre6 enc Tryz.prog Tryz.f7 Rows.mutatorAsksRow.domain false) (Rows.mutatorAsksSpec.post enc Tryz.prog Tryz.f7 false true false false) := by
 refine returnsInHanded_of_change (C := Tryz.checked) own started (by kernel_rfl) Tryz.func7
  (ChangeSpec.witness6 (enc := enc) (C := Tryz.checked) false ⟨#[], #[.int .i64 0, .int .i64 0, .int .i64 0], []⟩ 8 (by kernel_rfl) (by kernel_rfl) (by kernel_rfl) (by kernel_rfl)) ?_
 intro W base args ds gs before hval0 hW hcnd _
 have hval : ∀ (j : Nat) t v, Tryz.f7.params[j]? = some t → args[j]? = some v → Value.okWide Tryz.prog W .any base t v := hval0
 have hW' := hW
 obtain ⟨p, q, hA0, hV, rfl, hfz, hnd⟩ := hW
 have hA : DataW.TrodAll enc Tryz.prog W 0 (fun _ => true) true Tryz.f7.params.toList args.toList ds p := hA0
 rw [Tryz.params7] at hA hval
 obtain ⟨v0, vs0, d0, ds0, p0, q0, hargs, rfl, rfl, h0, r0⟩ := trodAll_cons hA
 obtain ⟨v1, vs1, d1, ds1, p1, q1, rfl, rfl, rfl, h1, r1⟩ := trodAll_cons r0
 obtain ⟨v2, vs2, d2, ds2, p2, q2, rfl, rfl, rfl, h2, r2⟩ := trodAll_cons r1
 obtain ⟨rfl, rfl, rfl⟩ := trodAll_nil r2
 obtain rfl : args = #[v0, v1, v2] := by cases args; simp_all
 obtain ⟨a0, rfl, rfl, rfl, w0⟩ := open_int Tryz.underlying3 (hval 0 3 v0 rfl rfl) h0
 obtain ⟨a1, rfl, rfl, rfl, w1⟩ := open_int Tryz.underlying3 (hval 1 3 v1 rfl rfl) h1
 obtain ⟨a2, rfl, rfl, rfl, w2⟩ := open_int Tryz.underlying3 (hval 2 3 v2 rfl rfl) h2
 clear hA0 hval0
 simp only [List.append_nil] at hW'
 refine (walk W a0 w0 a1 w1 a2 w2).mono fun e W' ⟨he, hb⟩ => ?_
 subst he
 exact ⟨_, rfl, law_post laidOut (by kernel_rfl) rfl Tryz.underlying4 hW' rfl (fun ds h => by match ds, h with | [_, _, _], _ => rfl) hb⟩
theorem over : Rows.mutatorAsksRow.holds Tryz.pinned (OpenSpec.ofChange Rows.mutatorAsksSpec) :=
 OpenClaim.holds_of_wide 7 Tryz.f7 rfl rfl rfl rfl rfl rfl rfl ⟨rfl, rfl, rfl, rfl, rfl⟩ rfl rfl rfl rfl rfl (by kernel_rfl) Tryz.func7 (by kernel_rfl)
  (of_decide_eq_true (by kernel_rfl)) (by unfold Func.isWrapper; first | (rw [if_pos (by decide +kernel)]; kernel_rfl) | (rw [if_neg (by decide +kernel)]; exact ⟨rfl, rfl⟩))
  (fun os started H enc _ => lifted os started H enc)
theorem proved : Rows.MutatorAsksSaid := over
#print axioms proved
end Go.Proofs.YthkhgihjigmkoaaGreat.mutatorAsks
