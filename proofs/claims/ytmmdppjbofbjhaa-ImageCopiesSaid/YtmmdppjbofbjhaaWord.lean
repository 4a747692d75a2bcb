/- Walks: package word and the reference's chapter 2: each function returns what the plain functions say. -/
import Derived.Test.YtmmdppjbofbjhaaRows
import Derived.Test.YtmmdppjbofbjhaaPlain
import Derived.ProofKit
import Derived.OpenShut
namespace Go.Proofs.Ytmmdppjbofbjhaa
open Go.ChangeShapes Go.WideShapes Go.ChangeAt Go.RowKit

theorem of_any (a : Int) (w : World) :
    Calls Try.prog 24 #[.int .i64 a] w fun e w' => e = .returned (.int .i64 (wrap32 a)) ∧ w = w' := by
  go_enter Try.func24, Try.ntmps24
  go_wp2
  go_ret
  exact ⟨by simp [of_plain], rfl⟩

theorem do_any (op a b : Int) (w : World) :
    Calls Try.prog 23 #[.int .i64 op, .int .i64 a, .int .i64 b] w fun e w' => e = .returned (.tuple #[.int .i64 (doV op a b).1, .bool (doV op a b).2]) ∧ w = w' := by
  have hA := w32_bd a
  have hB := w32_bd b
  have hk := shB_lt b
  have hsh := shr_bd a (shB b)
  have h31 := and31_sh b
  have hP := w32_w32 a
  by_cases h3 : op = 3
  · subst h3
    go_enter Try.func23, Try.ntmps23
    go_wp2_with (first | (go_at_call 24; refine (of_any _ _).mono ?_; rintro e w' ⟨rfl, rfl⟩))
    go_ret2
    exact ⟨by simp [doV, w32_add], rfl⟩
  by_cases h4 : op = 4
  · subst h4
    go_enter Try.func23, Try.ntmps23
    go_wp2_with (first | (go_at_call 24; refine (of_any _ _).mono ?_; rintro e w' ⟨rfl, rfl⟩))
    go_ret2
    exact ⟨by simp [doV, w32_sub], rfl⟩
  by_cases h5 : op = 5
  · subst h5
    go_enter Try.func23, Try.ntmps23
    go_wp2_with (first | (go_at_call 24; refine (of_any _ _).mono ?_; rintro e w' ⟨rfl, rfl⟩))
    go_ret2
    exact ⟨by simp [doV, w32_w64, w32_mul], rfl⟩
  by_cases h6 : op = 6
  · subst h6
    go_enter Try.func23, Try.ntmps23
    go_wp2_with (first | (go_at_call 24; refine (of_any _ _).mono ?_; rintro e w' ⟨rfl, rfl⟩))
    go_ret2
    exact ⟨by simp [doV, w64_w32, w32_mul_l], rfl⟩
  by_cases h7 : op = 7
  · subst h7
    go_enter Try.func23, Try.ntmps23
    go_wp2_with (first | (go_at_call 24; refine (of_any _ _).mono ?_; rintro e w' ⟨rfl, rfl⟩))
    go_ret2
    exact ⟨by simp [doV], rfl⟩
  by_cases h8 : op = 8
  · subst h8
    go_enter Try.func23, Try.ntmps23
    go_wp2_with (first | (go_at_call 24; refine (of_any _ _).mono ?_; rintro e w' ⟨rfl, rfl⟩))
    all_goals
      go_ret2
      exact ⟨by simp [doV, *], rfl⟩
  · have g3 : (op == 3) = false := by simpa using h3
    have g4 : (op == 4) = false := by simpa using h4
    have g5 : (op == 5) = false := by simpa using h5
    have g6 : (op == 6) = false := by simpa using h6
    have g7 : (op == 7) = false := by simpa using h7
    have g8 : (op == 8) = false := by simpa using h8
    have hd : doV op a b = (0, false) := by simp [doV, h3, h4, h5, h6, h7, h8]
    rw [hd]
    clear hd
    go_enter Try.func23, Try.ntmps23
    go_wp2_with (first | (go_at_call 24; refine (of_any _ _).mono ?_; rintro e w' ⟨rfl, rfl⟩))
    go_ret2
    exact ⟨rfl, rfl⟩
end Go.Proofs.Ytmmdppjbofbjhaa
