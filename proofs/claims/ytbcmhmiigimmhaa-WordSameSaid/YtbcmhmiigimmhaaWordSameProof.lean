/- Two numbers have the same bytes just if they are the same in 32 bits. No condition: for every input. -/
import Derived.Test.YtbcmhmiigimmhaaWordC
import Derived.Test.YtbcmhmiigimmhaaLaw
import Derived.Deep.QuietTactic
import Derived.BigQuiet
namespace Go.Proofs.Ytbcmhmiigimmhaa.wordSame
open Go.ChangeShapes Go.WideShapes Go.ChangeAt Go.RowKit

def allB (a b : Int) (k : Nat) : Bool := (decide (k ≤ 0) || byteOf a 0 == byteOf b 0) && (decide (k ≤ 1) || byteOf a 1 == byteOf b 1) && (decide (k ≤ 2) || byteOf a 2 == byteOf b 2) && (decide (k ≤ 3) || byteOf a 3 == byteOf b 3)
theorem all_4 (a b : Int) : allB a b 4 = (wrap32 a == wrap32 b) := by
  rw [Bool.eq_iff_iff]
  simp [allB, byteOf]
  unfold wrap32
  omega
theorem all_mono (a b : Int) (k : Nat) (hk : k ≤ 4) (h : allB a b k = false) : allB a b 4 = false := by
  have hc : k = 0 ∨ k = 1 ∨ k = 2 ∨ k = 3 ∨ k = 4 := by omega
  rcases hc with rfl | rfl | rfl | rfl | rfl <;> simp_all [allB]
theorem all_step (a b : Int) (k : Nat) (hk : k < 4) (h : allB a b k = true) : allB a b (k + 1) = (byteOf a k == byteOf b k) := by
  have hc : k = 0 ∨ k = 1 ∨ k = 2 ∨ k = 3 := by omega
  rcases hc with rfl | rfl | rfl | rfl <;> simp_all [allB]

set_option maxHeartbeats 1600000 in
theorem walk (a : Int) (_ : (Lit.int .i64 a).wf = true) (b : Int) (_ : (Lit.int .i64 b).wf = true) (w : World) :
    Calls Try.prog 7 #[.int .i64 a, .int .i64 b] w fun e w' => e = .returned (.bool true) ∧ Below w.heap.size w w' := by
  have al := alive2
  have p1 := bytes_any a
  have p2 := bytes_any b
  have o1 := of_any a
  have o2 := of_any b
  rw [laid_4] at p1 p2
  have e4 := all_4 a b
  have em := all_mono a b
  have es := all_step a b
  have e0 : allB a b 0 = true := by simp [allB]
  generalize wrap32 a = m at *
  generalize wrap32 b = n at *
  have hbel : ∀ A B, Below w.heap.size w ((w.alloc (.cells A 5)).alloc (.cells B 5)) := fun A B => ((Below.refl _ _).alloc (Nat.le_refl _) _).alloc (by simp) _
  have AL := Lib.hid al; clear al
  have P1 := Lib.hid p1; clear p1
  have P2 := Lib.hid p2; clear p2
  have O1 := Lib.hid o1; clear o1
  have O2 := Lib.hid o2; clear o2
  have E4 := Lib.hid e4; clear e4
  have EM := Lib.hid em; clear em
  have ES := Lib.hid es; clear es
  have E0 := Lib.hid e0; clear e0
  have HBEL := Lib.hid hbel; clear hbel
  go_enter Try.func7, Try.ntmps7
  go_wp2_with fail
  refine (AL.out _).mono ?_; rintro e w' ⟨rfl, rfl⟩
  go_wp2_with fail
  refine (P1.out _).mono ?_; rintro e w1 ⟨rfl, rfl⟩
  go_wp2_with fail
  refine (P2.out _).mono ?_; rintro e w2 ⟨rfl, rfl⟩
  go_wp2_with fail
  obtain ⟨W0, hW0⟩ : ∃ W0, W0 = ((w.alloc (.cells #[.int .u8 (byteOf a 0), .int .u8 (byteOf a 1), .int .u8 (byteOf a 2), .int .u8 (byteOf a 3)] 5)).alloc (.cells #[.int .u8 (byteOf b 0), .int .u8 (byteOf b 1), .int .u8 (byteOf b 2), .int .u8 (byteOf b 3)] 5)) := ⟨_, rfl⟩
  rw [← hW0]
  have hB0 : Hid (Below w.heap.size w W0) := by rw [hW0]; exact HBEL.out _ _
  have hc : W0.cell? ⟨w.heap.size, 0, none⟩ = some (.int .u8 (byteOf a 0)) ∧ W0.cell? ⟨w.heap.size, 1, none⟩ = some (.int .u8 (byteOf a 1)) ∧ W0.cell? ⟨w.heap.size, 2, none⟩ = some (.int .u8 (byteOf a 2)) ∧ W0.cell? ⟨w.heap.size, 3, none⟩ = some (.int .u8 (byteOf a 3))
      ∧ W0.cell? ⟨w.heap.size + 1, 0, none⟩ = some (.int .u8 (byteOf b 0)) ∧ W0.cell? ⟨w.heap.size + 1, 1, none⟩ = some (.int .u8 (byteOf b 1)) ∧ W0.cell? ⟨w.heap.size + 1, 2, none⟩ = some (.int .u8 (byteOf b 2)) ∧ W0.cell? ⟨w.heap.size + 1, 3, none⟩ = some (.int .u8 (byteOf b 3)) := by
    subst hW0
    refine ⟨?_, ?_, ?_, ?_, ?_, ?_, ?_, ?_⟩ <;> first | (rw [cell_under _ _ (by simp), cell_new]; rfl) | (rw [show w.heap.size + 1 = (w.alloc (.cells #[.int .u8 (byteOf a 0), .int .u8 (byteOf a 1), .int .u8 (byteOf a 2), .int .u8 (byteOf a 3)] 5)).heap.size from by simp, cell_new]; rfl)
  clear hW0
  have HC := Lib.hid hc; clear hc
  go_loopw [7, 8] (fun s i wr => ∃ k : Nat, k ≤ 4 ∧ i = .int .i64 k ∧ s = .bool (allB a b k) ∧ ∃ d, wr = W0.drewN d) (fun _ i _ => 4 - (intOf i).toNat)
  case atStart => exact ⟨0, by omega, rfl, by rw [E0.out], 0, rfl⟩
  case round =>
    obtain ⟨k, hk, rfl, rfl, d, hwr⟩ := hrel
    have hB1 : Hid (Below w.heap.size w wr) := by rw [hwr]; exact below_drewN hB0.out d
    cases hall : allB a b k
    · have h4 := EM.out k hk hall
      have h4' := E4.out
      rw [h4] at h4'
      clear h4 hall
      have H4 := Lib.hid h4'; clear h4'
      have HW := Lib.hid hwr; clear hwr
      go_wp2_with fail
      refine (O1.out _).mono ?_; rintro e w3 ⟨rfl, rfl⟩
      go_wp2_with fail
      refine (O2.out _).mono ?_; rintro e w3 ⟨rfl, rfl⟩
      go_wp2_with fail
      go_ret
      exact ⟨by rw [← H4.out]; rfl, hB1.out⟩
    · have hc : k = 0 ∨ k = 1 ∨ k = 2 ∨ k = 3 ∨ k = 4 := by omega
      have hs := Lib.hid (fun h => ES.out k h hall)
      have hd : wr.cell? ⟨w.heap.size, 0, none⟩ = some (.int .u8 (byteOf a 0)) ∧ wr.cell? ⟨w.heap.size, 1, none⟩ = some (.int .u8 (byteOf a 1)) ∧ wr.cell? ⟨w.heap.size, 2, none⟩ = some (.int .u8 (byteOf a 2)) ∧ wr.cell? ⟨w.heap.size, 3, none⟩ = some (.int .u8 (byteOf a 3))
      ∧ wr.cell? ⟨w.heap.size + 1, 0, none⟩ = some (.int .u8 (byteOf b 0)) ∧ wr.cell? ⟨w.heap.size + 1, 1, none⟩ = some (.int .u8 (byteOf b 1)) ∧ wr.cell? ⟨w.heap.size + 1, 2, none⟩ = some (.int .u8 (byteOf b 2)) ∧ wr.cell? ⟨w.heap.size + 1, 3, none⟩ = some (.int .u8 (byteOf b 3)) := by rw [hwr]; exact HC.out
      obtain ⟨q0, q1, q2, q3, q4, q5, q6, q7⟩ := hd
      have HW := Lib.hid hwr; clear hwr
      rcases hc with rfl | rfl | rfl | rfl | rfl
      · clear hall
        go_wp2
        go_quiet (fail)
        go_wp2
        go_roundw
        case rel => exact ⟨1, by omega, rfl, by rw [hs.out (by omega)], by rw [HW.out]; exact ⟨_, by first | rfl | (simp; rfl)⟩⟩
        case measure => simp [intOf]
      · clear hall
        go_wp2
        go_quiet (fail)
        go_wp2
        go_roundw
        case rel => exact ⟨2, by omega, rfl, by rw [hs.out (by omega)], by rw [HW.out]; exact ⟨_, by first | rfl | (simp; rfl)⟩⟩
        case measure => simp [intOf]
      · clear hall
        go_wp2
        go_quiet (fail)
        go_wp2
        go_roundw
        case rel => exact ⟨3, by omega, rfl, by rw [hs.out (by omega)], by rw [HW.out]; exact ⟨_, by first | rfl | (simp; rfl)⟩⟩
        case measure => simp [intOf]
      · clear hall
        go_wp2
        go_quiet (fail)
        go_wp2
        go_roundw
        case rel => exact ⟨4, by omega, rfl, by rw [hs.out (by omega)], by rw [HW.out]; exact ⟨_, by first | rfl | (simp; rfl)⟩⟩
        case measure => simp [intOf]
      · have h4 := E4.out
        rw [hall] at h4
        clear hall
        have H4 := Lib.hid h4; clear h4
        go_wp2_with fail
        refine (O1.out _).mono ?_; rintro e w3 ⟨rfl, rfl⟩
        go_wp2_with fail
        refine (O2.out _).mono ?_; rintro e w3 ⟨rfl, rfl⟩
        go_wp2_with fail
        go_ret
        exact ⟨by rw [← H4.out]; rfl, hB1.out⟩
theorem own : ownKnob Try.prog.godebug = none := by kernel_rfl
theorem laidOut : laidOutB Try.prog = true := by kernel_rfl
set_option maxRecDepth 100000 in
theorem lifted (os : Os) (started : os.Started) (H : Type) (enc : TypeId × Value → H) :
    ReturnsInHanded {} Try.checked os 7 .any (Rows.wordSameSpec.pre6 enc Try.prog Try.f7 Rows.wordSameRow.domain false) (Rows.wordSameSpec.post enc Try.prog Try.f7 false true false false) := by
  refine returnsInHanded_of_change (C := Try.checked) own started (by kernel_rfl) Try.func7
    (ChangeSpec.witness6 (enc := enc) (C := Try.checked) false ⟨#[], #[.int .i64 0, .int .i64 0], []⟩ 8 (by kernel_rfl) (by kernel_rfl) (by kernel_rfl) (by kernel_rfl)) ?_
  intro W base args ds gs before hval0 hW hcnd _
  have hval : ∀ (j : Nat) t v, Try.f7.params[j]? = some t → args[j]? = some v → Value.okWide Try.prog W .any base t v := hval0
  have hW' := hW
  obtain ⟨p, q, hA0, hV, rfl, hfz, hnd⟩ := hW
  have hA : DataW.TrodAll enc Try.prog W 0 (fun _ => true) true Try.f7.params.toList args.toList ds p := hA0
  rw [Try.params7] at hA hval
  obtain ⟨v0, vs0, d0, ds0, p0, q0, hargs, rfl, rfl, h0, r0⟩ := trodAll_cons hA
  obtain ⟨v1, vs1, d1, ds1, p1, q1, rfl, rfl, rfl, h1, r1⟩ := trodAll_cons r0
  obtain ⟨rfl, rfl, rfl⟩ := trodAll_nil r1
  obtain rfl : args = #[v0, v1] := by cases args; simp_all
  obtain ⟨a0, rfl, rfl, rfl, w0⟩ := open_int Try.underlying3 (hval 0 3 v0 rfl rfl) h0
  obtain ⟨a1, rfl, rfl, rfl, w1⟩ := open_int Try.underlying3 (hval 1 3 v1 rfl rfl) h1
  clear hA0 hval0
  simp only [List.append_nil] at hW'
  refine (walk a0 w0 a1 w1 W).mono fun e W' ⟨he, hb⟩ => ?_
  subst he
  exact ⟨_, rfl, law_post laidOut (by kernel_rfl) rfl Try.underlying4 hW' rfl (fun ds h => by match ds, h with | [_, _], _ => rfl) hb⟩
theorem over : Rows.wordSameRow.holds Try.pinned (OpenSpec.ofChange Rows.wordSameSpec) :=
  OpenClaim.holds_of_wide 7 Try.f7 rfl rfl rfl rfl rfl rfl rfl ⟨rfl, rfl, rfl, rfl, rfl⟩ rfl rfl rfl rfl rfl (by kernel_rfl) Try.func7 (by kernel_rfl)
    (of_decide_eq_true (by kernel_rfl)) (by unfold Func.isWrapper; first | (rw [if_pos (by decide +kernel)]; kernel_rfl) | (rw [if_neg (by decide +kernel)]; exact ⟨rfl, rfl⟩))
    (fun os started H enc _ => lifted os started H enc)
theorem proved : Rows.WordSameSaid := over
#print axioms proved
end Go.Proofs.Ytbcmhmiigimmhaa.wordSame
