/- Walks: the reference's numbers; the laws' own 'alive'. -/
import Derived.Test.YtmmdppjbofbjhaaWord
import Derived.Lib.Hide
namespace Go.Proofs.Ytmmdppjbofbjhaa
open Go.ChangeShapes Go.WideShapes Go.ChangeAt Go.RowKit

theorem rof_any (a : Int) (w : World) :
    Calls Try.prog 26 #[.int .i64 a] w fun e w' => e = .returned (.int .i64 (wrap32 a)) ∧ w = w' := by
  have h1 := i64_and32 a
  have h2 : 0 ≤ a % 4294967296 ∧ a % 4294967296 < 4294967296 := by omega
  have hw : wrap32 a = if a % 4294967296 < 2147483648 then a % 4294967296 else a % 4294967296 - 4294967296 := by unfold wrap32; split <;> omega
  by_cases h : a % 4294967296 < 2147483648
  · rw [hw, if_pos h]; clear hw
    go_enter Try.func26, Try.ntmps26
    go_wp2
    go_ret
    exact ⟨rfl, rfl⟩
  · rw [hw, if_neg h]; clear hw
    go_enter Try.func26, Try.ntmps26
    go_wp2
    go_ret
    exact ⟨rfl, rfl⟩

theorem rdo_shl (a b : Int) (w : World) :
    Calls Try.prog 25 #[.int .i64 6, .int .i64 a, .int .i64 b] w fun e w' => e = .returned (.tuple #[.int .i64 (wrap32 (a * 2 ^ shB b)), .bool true]) ∧ w = w' := by
  have hk := shB_lt b
  have h31 := i64_and31_sh b
  go_enter Try.func25, Try.ntmps25
  go_wp2_with (first | (go_at_call 26; refine (rof_any _ _).mono ?_; rintro e w' ⟨rfl, rfl⟩))
  clear h31
  go_loop [1, 9] (fun x i => ∃ k : Nat, k ≤ shB b ∧ i = .int .i64 k ∧ x = .int .i64 (wrap32 (a * 2 ^ k))) (fun _ i => shB b - (intOf i).toNat)
  case atStart => exact ⟨0, Nat.zero_le _, rfl, by simp⟩
  case round =>
    obtain ⟨k, hk2, rfl, rfl⟩ := hrel
    have hbd := w32_bd (a * 2 ^ k)
    have hr := Lib.hid (shl_round a k)
    by_cases hlt : k < shB b
    · go_wp2_with (first | (go_at_call 26; refine (rof_any _ _).mono ?_; rintro e w' ⟨rfl, rfl⟩))
      go_round
      case rel => exact ⟨k + 1, by omega, by go_num, by rw [hr.out]⟩
      case measure => simp [intOf]; omega
    · go_wp2
      go_ret2
      have : k = shB b := by omega
      exact ⟨by rw [this]; rfl, rfl⟩

theorem rdo_shr (a b : Int) (w : World) :
    Calls Try.prog 25 #[.int .i64 7, .int .i64 a, .int .i64 b] w fun e w' => e = .returned (.tuple #[.int .i64 (wrap32 a / 2 ^ shB b), .bool true]) ∧ w = w' := by
  have hk := shB_lt b
  have h31 := i64_and31_sh b
  go_enter Try.func25, Try.ntmps25
  go_wp2_with (first | (go_at_call 26; refine (rof_any _ _).mono ?_; rintro e w' ⟨rfl, rfl⟩))
  clear h31
  go_loop [1, 10] (fun x i => ∃ k : Nat, k ≤ shB b ∧ i = .int .i64 k ∧ x = .int .i64 (wrap32 a / 2 ^ k)) (fun _ i => shB b - (intOf i).toNat)
  case atStart => exact ⟨0, Nat.zero_le _, rfl, by simp⟩
  case round =>
    obtain ⟨k, hk2, rfl, hx⟩ := hrel
    have hbd := shr_bd a k
    have hr := Lib.hid (shr_round (wrap32 a) k)
    obtain ⟨v, hv⟩ : ∃ v, v = wrap32 a / 2 ^ k := ⟨_, rfl⟩
    rw [← hv] at hx hbd hr
    subst hx
    have HV := Lib.hid hv; clear hv
    by_cases hlt : k < shB b
    · by_cases hn : v < 0
      · have hq := Lib.hid (shr_neg v hn)
        go_wp2
        go_round
        case rel => exact ⟨k + 1, by omega, by go_num, by rw [← hr.out]; first | rfl | rw [hq.out]⟩
        case measure => simp [intOf]; omega
      · go_wp2
        go_round
        case rel => exact ⟨k + 1, by omega, by go_num, by rw [← hr.out]⟩
        case measure => simp [intOf]; omega
    · go_wp2
      go_ret2
      have : k = shB b := by omega
      exact ⟨by rw [← this, ← HV.out]; rfl, rfl⟩

theorem rdo_any (op a b : Int) (w : World) :
    Calls Try.prog 25 #[.int .i64 op, .int .i64 a, .int .i64 b] w fun e w' => e = .returned (.tuple #[.int .i64 (doV op a b).1, .bool (doV op a b).2]) ∧ w = w' := by
  have hA := w32_bd a
  have hB := w32_bd b
  have h31 := i64_and31_sh b
  by_cases h3 : op = 3
  · subst h3
    go_enter Try.func25, Try.ntmps25
    go_wp2_with (first | (go_at_call 26; refine (rof_any _ _).mono ?_; rintro e w' ⟨rfl, rfl⟩))
    go_ret2
    exact ⟨by simp [doV, w32_add], rfl⟩
  by_cases h4 : op = 4
  · subst h4
    go_enter Try.func25, Try.ntmps25
    go_wp2_with (first | (go_at_call 26; refine (rof_any _ _).mono ?_; rintro e w' ⟨rfl, rfl⟩))
    go_ret2
    exact ⟨by simp [doV, w32_sub], rfl⟩
  by_cases h5 : op = 5
  · subst h5
    go_enter Try.func25, Try.ntmps25
    go_wp2_with (first | (go_at_call 26; refine (rof_any _ _).mono ?_; rintro e w' ⟨rfl, rfl⟩))
    go_ret2
    exact ⟨by simp [doV, w32_w64, w32_mul], rfl⟩
  by_cases h6 : op = 6
  · subst h6
    exact (rdo_shl a b w).mono fun e w' ⟨h, h'⟩ => ⟨by simp [doV, h], h'⟩
  by_cases h7 : op = 7
  · subst h7
    exact (rdo_shr a b w).mono fun e w' ⟨h, h'⟩ => ⟨by simp [doV, h], h'⟩
  by_cases h8 : op = 8
  · subst h8
    go_enter Try.func25, Try.ntmps25
    go_wp2_with (first | (go_at_call 26; refine (rof_any _ _).mono ?_; rintro e w' ⟨rfl, rfl⟩))
    all_goals
      go_ret2
      exact ⟨by simp [doV, *], rfl⟩
  · have g3 : (op == 3) = false := by simpa using h3
    have g4 : (op == 4) = false := by simpa using h4
    have g5 : (op == 5) = false := by simpa using h5
    have g6 : (op == 6) = false := by simpa using h6
    have g7 : (op == 7) = false := by simpa using h7
    have g8 : (op == 8) = false := by simpa using h8
    have hd : doV op a b = (0, false) := by simp [doV, h3, h4, h5, h6, h7, h8]
    rw [hd]
    clear hd
    go_enter Try.func25, Try.ntmps25
    go_wp2_with (first | (go_at_call 26; refine (rof_any _ _).mono ?_; rintro e w' ⟨rfl, rfl⟩))
    go_ret2
    exact ⟨rfl, rfl⟩

def heapB (v : Int) : Bool := decide (1048576 ≤ v) && decide (v < 1050624)
theorem heap_any (v : Int) (w : World) :
    Calls Try.prog 27 #[.int .i64 v] w fun e w' => e = .returned (.bool (heapB v)) ∧ w = w' := by
  unfold heapB
  go_enter Try.func27, Try.ntmps27
  go_wp2
  all_goals
    go_ret
    exact ⟨by simp [*]; try omega, rfl⟩
theorem rheap_any (v : Int) (w : World) :
    Calls Try.prog 28 #[.int .i64 v] w fun e w' => e = .returned (.bool (heapB v)) ∧ w = w' := by
  unfold heapB
  go_enter Try.func28, Try.ntmps28
  go_wp2
  all_goals
    go_ret
    exact ⟨by simp [*]; try omega, rfl⟩
theorem stack_any (v : Int) (w : World) :
    Calls Try.prog 29 #[.int .i64 v] w fun e w' => e = .returned (.bool (decide (1073741824 ≤ v))) ∧ w = w' := by
  go_enter Try.func29, Try.ntmps29
  go_wp2
  all_goals
    go_ret
    exact ⟨by simp [*], rfl⟩

theorem alive2 (w : World) :
    Calls Try.prog 22 #[] w fun e w' => e = .returned (.bool true) ∧ w = w' := by
  have e1 : doV 7 (-8) 33 = (-4, true) := by decide +kernel
  have d1 := do_any 7 (-8) 33
  rw [e1] at d1
  have e2 : wrap32 2147483648 = -2147483648 := by decide +kernel
  have o1 := of_any 2147483648
  rw [e2] at o1
  have e3 : heapB 1048576 = true := by decide +kernel
  have p1 := heap_any 1048576
  rw [e3] at p1
  have e4 : heapB 5 = false := by decide +kernel
  have p2 := heap_any 5
  rw [e4] at p2
  have D1 := Lib.hid d1; have O1 := Lib.hid o1; have P1 := Lib.hid p1; have P2 := Lib.hid p2
  clear d1 o1 p1 p2 e1 e2 e3 e4
  go_enter Try.func22, Try.ntmps22
  go_wp2_with fail
  refine (D1.out _).mono ?_
  rintro e w' ⟨rfl, rfl⟩
  go_wp2_with fail
  refine (O1.out _).mono ?_
  rintro e w' ⟨rfl, rfl⟩
  go_wp2_with fail
  refine (P1.out _).mono ?_
  rintro e w' ⟨rfl, rfl⟩
  go_wp2_with fail
  refine (P2.out _).mono ?_
  rintro e w' ⟨rfl, rfl⟩
  go_wp2_with fail
  go_ret
  exact ⟨rfl, rfl⟩
end Go.Proofs.Ytmmdppjbofbjhaa
