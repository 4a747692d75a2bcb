/- Walks: whether an instruction may be laid. -/
import Derived.Test.YtmmdppjbofbjhaaInstrB
namespace Go.Proofs.Ytmmdppjbofbjhaa
open Go.ChangeShapes Go.WideShapes Go.ChangeAt Go.RowKit

def boxI (x : Ins) : Obj := .cells #[.int .i64 x.op, .int .i64 x.a, .int .i64 x.b, .int .i64 x.c] 58

set_option maxHeartbeats 1600000 in
theorem unused_any (x : Ins) (w : World) :
    Calls Try.prog 89 #[x.val] w fun e w' => e = .returned (.bool (unusedB x)) ∧ Below w.heap.size w w' := by
  obtain ⟨op, a, b, c⟩ := x
  show Calls Try.prog 89 #[.agg #[.int .i64 op, .int .i64 a, .int .i64 b, .int .i64 c]] w _
  have ru := fun w => ruses_any w op
  unfold RUsesSaid at ru
  have hu : unusedB ⟨op, a, b, c⟩ = (mayB a (usesS op).1 && mayB b (usesS op).2.1 && mayB c (usesS op).2.2) := rfl
  rw [hu]
  clear hu
  generalize usesS op = u at *
  obtain ⟨u1, u2, u3⟩ := u
  dsimp only at ru
  have RU := Lib.hid ru; clear ru
  cases u1 <;> cases u2 <;> cases u3
  all_goals
    go_enter Try.func89, Try.ntmps89
    go_wp2_with fail
    refine (RU.out _).mono ?_; rintro e w' ⟨rfl, n, rfl⟩
    go_wp2
    all_goals
      go_ret
      exact ⟨by simp [mayB, *], below_drewN ((Below.refl _ _).alloc (Nat.le_refl _) _) _⟩

set_option maxHeartbeats 4000000 in
theorem right_any (x : Ins) (w : World) :
    Calls Try.prog 88 #[x.val] w fun e w' => e = .returned (.bool (rightB x)) ∧ Below w.heap.size w w' := by
  obtain ⟨op, a, b, c⟩ := x
  show Calls Try.prog 88 #[.agg #[.int .i64 op, .int .i64 a, .int .i64 b, .int .i64 c]] w _
  have us := fun w => uses_any w op
  unfold UsesSaid at us
  have kn := known_any op
  have o1 := of_any b
  have hr : rightB ⟨op, a, b, c⟩ = (knownS op && decide (0 ≤ a) && decide (a ≤ 255) && decide (0 ≤ c) && decide (c ≤ 255) && decide (wrap32 b = b) && (mayB a (usesS op).1 && mayB b (usesS op).2.1 && mayB c (usesS op).2.2)) := rfl
  rw [hr]
  clear hr
  generalize usesS op = u at *
  obtain ⟨u1, u2, u3⟩ := u
  dsimp only at us
  have hB := w32_bd b
  generalize hwb : wrap32 b = b' at *
  clear hwb
  generalize knownS op = kn0 at *
  have OF := Lib.hid o1; have US := Lib.hid us; have KN := Lib.hid kn
  clear o1 us kn
  cases kn0
  · skip
    go_enter Try.func88, Try.ntmps88
    go_wp2_with fail
    refine (US.out _).mono ?_; rintro e w' ⟨rfl, rfl⟩
    go_wp2_with fail
    go_quiet (first | (go_at_call 51; exact Calls.quiet_of_same ((KN.out _).mono fun _ _ ⟨a, b⟩ => ⟨a, b.symm⟩)) | (go_at_call 24; exact Calls.quiet_of_same ((OF.out _).mono fun _ _ ⟨a, b⟩ => ⟨a, b.symm⟩)) | (go_at_call 149; exact Calls.quiet_of_same ((may_any _ _ _).mono fun _ _ ⟨a, b⟩ => ⟨a, b.symm⟩)))
    go_wp2
    go_ret
    exact ⟨by simp [*], below_drewN ((Below.refl _ _).alloc (Nat.le_refl _) _) _⟩
  by_cases h1 : 0 ≤ a
  case neg =>
    have h1' : decide (0 ≤ a) = false := by simpa using h1
    go_enter Try.func88, Try.ntmps88
    go_wp2_with fail
    refine (US.out _).mono ?_; rintro e w' ⟨rfl, rfl⟩
    go_wp2_with fail
    go_quiet (first | (go_at_call 51; exact Calls.quiet_of_same ((KN.out _).mono fun _ _ ⟨a, b⟩ => ⟨a, b.symm⟩)) | (go_at_call 24; exact Calls.quiet_of_same ((OF.out _).mono fun _ _ ⟨a, b⟩ => ⟨a, b.symm⟩)) | (go_at_call 149; exact Calls.quiet_of_same ((may_any _ _ _).mono fun _ _ ⟨a, b⟩ => ⟨a, b.symm⟩)))
    go_wp2
    go_ret
    exact ⟨by simp [*], below_drewN ((Below.refl _ _).alloc (Nat.le_refl _) _) _⟩
  by_cases h2 : a ≤ 255
  case neg =>
    have h2' : decide (a ≤ 255) = false := by simpa using h2
    go_enter Try.func88, Try.ntmps88
    go_wp2_with fail
    refine (US.out _).mono ?_; rintro e w' ⟨rfl, rfl⟩
    go_wp2_with fail
    go_quiet (first | (go_at_call 51; exact Calls.quiet_of_same ((KN.out _).mono fun _ _ ⟨a, b⟩ => ⟨a, b.symm⟩)) | (go_at_call 24; exact Calls.quiet_of_same ((OF.out _).mono fun _ _ ⟨a, b⟩ => ⟨a, b.symm⟩)) | (go_at_call 149; exact Calls.quiet_of_same ((may_any _ _ _).mono fun _ _ ⟨a, b⟩ => ⟨a, b.symm⟩)))
    go_wp2
    go_ret
    exact ⟨by simp [*], below_drewN ((Below.refl _ _).alloc (Nat.le_refl _) _) _⟩
  by_cases h3 : 0 ≤ c
  case neg =>
    have h3' : decide (0 ≤ c) = false := by simpa using h3
    go_enter Try.func88, Try.ntmps88
    go_wp2_with fail
    refine (US.out _).mono ?_; rintro e w' ⟨rfl, rfl⟩
    go_wp2_with fail
    go_quiet (first | (go_at_call 51; exact Calls.quiet_of_same ((KN.out _).mono fun _ _ ⟨a, b⟩ => ⟨a, b.symm⟩)) | (go_at_call 24; exact Calls.quiet_of_same ((OF.out _).mono fun _ _ ⟨a, b⟩ => ⟨a, b.symm⟩)) | (go_at_call 149; exact Calls.quiet_of_same ((may_any _ _ _).mono fun _ _ ⟨a, b⟩ => ⟨a, b.symm⟩)))
    go_wp2
    go_ret
    exact ⟨by simp [*], below_drewN ((Below.refl _ _).alloc (Nat.le_refl _) _) _⟩
  by_cases h4 : c ≤ 255
  case neg =>
    have h4' : decide (c ≤ 255) = false := by simpa using h4
    go_enter Try.func88, Try.ntmps88
    go_wp2_with fail
    refine (US.out _).mono ?_; rintro e w' ⟨rfl, rfl⟩
    go_wp2_with fail
    go_quiet (first | (go_at_call 51; exact Calls.quiet_of_same ((KN.out _).mono fun _ _ ⟨a, b⟩ => ⟨a, b.symm⟩)) | (go_at_call 24; exact Calls.quiet_of_same ((OF.out _).mono fun _ _ ⟨a, b⟩ => ⟨a, b.symm⟩)) | (go_at_call 149; exact Calls.quiet_of_same ((may_any _ _ _).mono fun _ _ ⟨a, b⟩ => ⟨a, b.symm⟩)))
    go_wp2
    go_ret
    exact ⟨by simp [*], below_drewN ((Below.refl _ _).alloc (Nat.le_refl _) _) _⟩
  by_cases h5 : b' = b
  case neg =>
    have h5' : (b' == b) = false := by simpa using h5
    go_enter Try.func88, Try.ntmps88
    go_wp2_with fail
    refine (US.out _).mono ?_; rintro e w' ⟨rfl, rfl⟩
    go_wp2_with fail
    go_quiet (first | (go_at_call 51; exact Calls.quiet_of_same ((KN.out _).mono fun _ _ ⟨a, b⟩ => ⟨a, b.symm⟩)) | (go_at_call 24; exact Calls.quiet_of_same ((OF.out _).mono fun _ _ ⟨a, b⟩ => ⟨a, b.symm⟩)) | (go_at_call 149; exact Calls.quiet_of_same ((may_any _ _ _).mono fun _ _ ⟨a, b⟩ => ⟨a, b.symm⟩)))
    go_wp2
    go_ret
    exact ⟨by simp [*], below_drewN ((Below.refl _ _).alloc (Nat.le_refl _) _) _⟩
  subst h5
  cases h6 : mayB a u1
  · skip
    go_enter Try.func88, Try.ntmps88
    go_wp2_with fail
    refine (US.out _).mono ?_; rintro e w' ⟨rfl, rfl⟩
    go_wp2_with fail
    go_quiet (first | (go_at_call 51; exact Calls.quiet_of_same ((KN.out _).mono fun _ _ ⟨a, b⟩ => ⟨a, b.symm⟩)) | (go_at_call 24; exact Calls.quiet_of_same ((OF.out _).mono fun _ _ ⟨a, b⟩ => ⟨a, b.symm⟩)) | (go_at_call 149; exact Calls.quiet_of_same ((may_any _ _ _).mono fun _ _ ⟨a, b⟩ => ⟨a, b.symm⟩)))
    go_wp2
    go_ret
    exact ⟨by simp [*], below_drewN ((Below.refl _ _).alloc (Nat.le_refl _) _) _⟩
  cases h7 : mayB b' u2
  · skip
    go_enter Try.func88, Try.ntmps88
    go_wp2_with fail
    refine (US.out _).mono ?_; rintro e w' ⟨rfl, rfl⟩
    go_wp2_with fail
    go_quiet (first | (go_at_call 51; exact Calls.quiet_of_same ((KN.out _).mono fun _ _ ⟨a, b⟩ => ⟨a, b.symm⟩)) | (go_at_call 24; exact Calls.quiet_of_same ((OF.out _).mono fun _ _ ⟨a, b⟩ => ⟨a, b.symm⟩)) | (go_at_call 149; exact Calls.quiet_of_same ((may_any _ _ _).mono fun _ _ ⟨a, b⟩ => ⟨a, b.symm⟩)))
    go_wp2
    go_ret
    exact ⟨by simp [*], below_drewN ((Below.refl _ _).alloc (Nat.le_refl _) _) _⟩
  go_enter Try.func88, Try.ntmps88
  go_wp2_with fail
  refine (US.out _).mono ?_; rintro e w' ⟨rfl, rfl⟩
  go_wp2_with fail
  go_quiet (first | (go_at_call 51; exact Calls.quiet_of_same ((KN.out _).mono fun _ _ ⟨a, b⟩ => ⟨a, b.symm⟩)) | (go_at_call 24; exact Calls.quiet_of_same ((OF.out _).mono fun _ _ ⟨a, b⟩ => ⟨a, b.symm⟩)) | (go_at_call 149; exact Calls.quiet_of_same ((may_any _ _ _).mono fun _ _ ⟨a, b⟩ => ⟨a, b.symm⟩)))
  go_wp2
  go_ret
  exact ⟨by simp [*], below_drewN ((Below.refl _ _).alloc (Nat.le_refl _) _) _⟩
end Go.Proofs.Ytmmdppjbofbjhaa
