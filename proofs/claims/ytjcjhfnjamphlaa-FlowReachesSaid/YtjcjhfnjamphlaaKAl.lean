/- Walks: shape.Places, check.places, slices.IndexFunc and ContainsFunc of it. -/
import Derived.Test.YtjcjhfnjamphlaaKAh
import Derived.Test.YtjcjhfnjamphlaaKAc
set_option linter.unusedVariables false
set_option linter.unusedSimpArgs false
namespace Go.Proofs.Ytjcjhfnjamphlaa
open Go.ChangeShapes Go.WideShapes Go.ChangeAt Go.RowKit
set_option maxRecDepth 100000 in
theorem placesS_any (w : World) (x : Int) :
    Calls Try.prog 77 #[.int .i64 x] w fun e w' => ∃ y : Int, e = .returned (.tuple #[.int .i64 y, .bool (isLocB x)]) ∧ w = w' := by
  unfold isLocB
  by_cases h : x < 64
  · have h1 : decide (64 ≤ x) = false := by simpa using h
    rw [h1, Bool.false_and]
    clear h1
    go_enter Try.func77, Try.ntmps77
    go_wp2_with fail
    go_ret2
    first | exact ⟨0, rfl, rfl⟩ | exact ⟨⟨0, rfl⟩, rfl⟩ | exact ⟨⟨x - 64, rfl⟩, rfl⟩ | exact ⟨x - 64, rfl, rfl⟩
  · have h1 : decide (64 ≤ x) = true := by simpa using h
    rw [h1, Bool.true_and]
    clear h1
    by_cases h2 : 80 ≤ x
    · have h3 : decide (x < 80) = false := by simpa using h2
      rw [h3]
      clear h3
      go_enter Try.func77, Try.ntmps77
      go_wp2_with fail
      go_ret2
      first | exact ⟨0, rfl, rfl⟩ | exact ⟨⟨0, rfl⟩, rfl⟩ | exact ⟨⟨x - 64, rfl⟩, rfl⟩ | exact ⟨x - 64, rfl, rfl⟩
    · have h3 : decide (x < 80) = true := by simpa using h2
      rw [h3]
      clear h3
      have i1 : IntKind.i64.wrap (x - 64) = x - 64 := IntWalk.i64_in _ (by omega)
      go_enter Try.func77, Try.ntmps77
      go_wp2_with fail
      go_ret2
      first | exact ⟨0, rfl, rfl⟩ | exact ⟨⟨0, rfl⟩, rfl⟩ | exact ⟨⟨x - 64, rfl⟩, rfl⟩ | exact ⟨x - 64, rfl, rfl⟩
set_option maxRecDepth 100000 in
theorem places_any (w : World) (x : Int) :
    Calls Try.prog 64 #[.int .i64 x] w fun e w' => e = .returned (.bool (isLocB x)) ∧ w = w' := by
  have pl := placesS_any w x
  generalize isLocB x = z at *
  have PL := Lib.hid pl; clear pl
  go_enter Try.func64, Try.ntmps64
  go_wp2_with fail
  refine PL.out.mono ?_
  rintro e w' ⟨y, rfl, rfl⟩
  go_wp2_with fail
  go_ret
  exact ⟨rfl, rfl⟩
set_option maxRecDepth 100000 in
set_option maxHeartbeats 800000 in
theorem indexFunc_any (w : World) (D : Nat → Prop) (a : Option Addr) (l : List Int) (c : Nat) (hsl : IntSl w D a l) (hn : l.length ≤ 100000) :
    Calls Try.prog 76 #[.slice a l.length c, .func (.func 64) #[] #[]] w fun e w' => ∃ k : Int, e = .returned (.int .i64 k) ∧ decide (0 ≤ k) = l.any isLocB ∧ w = w' := by
  have pl := fun x => places_any w x
  have PL := Lib.hid pl; clear pl
  have HSL := Lib.hid hsl; clear hsl
  go_enter Try.func76, Try.ntmps76
  go_wp2_with fail
  go_loopw [8] (fun i wr => ∃ k : Nat, k ≤ l.length ∧ i = .int .i64 k ∧ wr = w ∧ (l.take k).any isLocB = false) (fun i _ => l.length - (intOf i).toNat)
  case atStart => exact ⟨0, Nat.zero_le _, by first | rfl | trivial, by first | rfl | trivial, by first | rfl | trivial | simp⟩
  case round =>
    obtain ⟨k, hk, rfl, rfl, hall⟩ := hrel
    by_cases hlt : k < l.length
    · obtain ⟨b', o', rfl, _, hx⟩ := HSL.out k hlt
      have hsn := take_snoc l k hlt
      have hmem := List.getElem_mem hlt
      generalize l[k] = x at *
      have WX := Lib.hid (PL.out x)
      cases hw : isLocB x
      · have hno : (l.take (k + 1)).any isLocB = false := by
          rw [hsn, List.any_append, hall]; simp [hw]
        rw [hw] at WX
        clear hsn hmem hall hw
        have HNO := Lib.hid hno; clear hno
        go_wp2_with fail
        refine WX.out.mono ?_
        rintro e w9 ⟨rfl, rfl⟩
        go_wp2_with fail
        go_roundw
        case rel => exact ⟨k + 1, by omega, by go_num, by first | rfl | trivial, HNO.out⟩
        case measure => simp [intOf]; omega
      · have hyes : l.any isLocB = true := by
          rw [List.any_eq_true]; exact ⟨x, hmem, hw⟩
        have hk0 : decide ((0 : Int) ≤ (k : Int)) = true := by simp
        rw [hw] at WX
        clear hsn hmem hall hw
        have HYES := Lib.hid hyes; clear hyes
        have HK0 := Lib.hid hk0; clear hk0
        go_wp2_with fail
        refine WX.out.mono ?_
        rintro e w9 ⟨rfl, rfl⟩
        go_wp2_with fail
        go_ret
        exact ⟨k, rfl, by rw [HYES.out]; exact HK0.out, by first | rfl | trivial⟩
    · have hk' : k = l.length := by omega
      subst hk'
      rw [List.take_length] at hall
      have HALL := Lib.hid hall; clear hall
      go_wp2_with fail
      go_ret
      exact ⟨-1, rfl, by rw [HALL.out]; rfl, by first | rfl | trivial⟩
set_option maxRecDepth 100000 in
theorem containsFunc_any (w : World) (D : Nat → Prop) (a : Option Addr) (l : List Int) (c : Nat) (hsl : IntSl w D a l) (hn : l.length ≤ 100000) :
    Calls Try.prog 63 #[.slice a l.length c, .func (.func 64) #[] #[]] w fun e w' => e = .returned (.bool (l.any isLocB)) ∧ w = w' := by
  have ix := indexFunc_any w D a l c hsl hn
  clear hsl
  generalize l.any isLocB = z at *
  have IX := Lib.hid ix; clear ix
  go_enter Try.func63, Try.ntmps63
  go_wp2_with fail
  refine IX.out.mono ?_
  rintro e w' ⟨k, rfl, hk, rfl⟩
  have HK := Lib.hid hk; clear hk
  go_wp2_with fail
  go_ret
  exact ⟨by rw [← HK.out]; rfl, rfl⟩
end Go.Proofs.Ytjcjhfnjamphlaa
