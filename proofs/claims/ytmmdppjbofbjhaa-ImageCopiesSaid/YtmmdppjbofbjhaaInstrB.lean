/- Walks: whether an instruction may be laid (package instr and the reference); what it sets; safe points. -/
import Derived.Test.YtmmdppjbofbjhaaInstrA
namespace Go.Proofs.Ytmmdppjbofbjhaa
open Go.ChangeShapes Go.WideShapes Go.ChangeAt Go.RowKit

/-- an instruction -/
structure Ins where (op a b c : Int)
def Ins.val (x : Ins) : Value := .agg #[.int .i64 x.op, .int .i64 x.a, .int .i64 x.b, .int .i64 x.c]
def Ins.cells (x : Ins) : List Value := [.int .i64 x.op, .int .i64 x.a, .int .i64 x.b, .int .i64 x.c]
def mayB (n : Int) (used : Bool) : Bool := used || n == 0
def unusedB (x : Ins) : Bool := mayB x.a (usesS x.op).1 && mayB x.b (usesS x.op).2.1 && mayB x.c (usesS x.op).2.2
def rightB (x : Ins) : Bool := knownS x.op && decide (0 ≤ x.a) && decide (x.a ≤ 255) && decide (0 ≤ x.c) && decide (x.c ≤ 255) && decide (wrap32 x.b = x.b) && unusedB x

theorem may_any (n : Int) (u : Bool) (w : World) :
    Calls Try.prog 149 #[.int .i64 n, .bool u] w fun e w' => e = .returned (.bool (mayB n u)) ∧ w = w' := by
  cases u
  all_goals
    go_enter Try.func149, Try.ntmps149
    go_wp2
    all_goals
      go_ret
      exact ⟨by simp [mayB, *], rfl⟩

theorem known_iff (op : Int) : knownS op = !(operandsS op).toList.isEmpty := by
  refine op_cases (p := fun op => knownS op = !(operandsS op).toList.isEmpty) ?_ (fun op h => ?_) (fun op h => ?_) op
  · apply ops_all <;> decide +kernel
  all_goals
    rw [operands_out op (by omega)]
    have : knownS op = false := by simp [knownS]; omega
    rw [this, ByteArray.toList_eq]; rfl
/-- of a known op: three letters -/
theorem operands_of (op : Int) (h : knownS op = true) : ∃ x y z : UInt8, operandsS op = ⟨#[x, y, z]⟩ ∧ ((x.toNat : Int) != 45) = (usesS op).1 ∧ ((y.toNat : Int) != 45) = (usesS op).2.1 ∧ ((z.toNat : Int) != 45) = (usesS op).2.2 := by
  have hop : op ∈ opsAll := by
    simp [knownS] at h
    simp only [opsAll, List.mem_cons, List.not_mem_nil, or_false]
    omega
  revert op
  intro op _ hop
  revert op
  suffices ∀ op ∈ opsAll, ∃ x y z : UInt8, operandsS op = ⟨#[x, y, z]⟩ ∧ ((x.toNat : Int) != 45) = (usesS op).1 ∧ ((y.toNat : Int) != 45) = (usesS op).2.1 ∧ ((z.toNat : Int) != 45) = (usesS op).2.2 from fun op _ hop => this op hop
  apply ops_all <;> exact ⟨_, _, _, rfl, by decide +kernel, by decide +kernel, by decide +kernel⟩
def RKnownSaid (w : World) (op : Int) : Prop := Calls Try.prog 44 #[.int .i64 op] w fun e w' => e = .returned (.bool (knownS op)) ∧ w = w'
theorem rknown_any (w : World) (op : Int) : RKnownSaid w op := by
  unfold RKnownSaid
  have h1 := known_iff op
  have h2 := operands_any w op
  unfold OperandsSaid at h2
  rw [h1]
  generalize operandsS op = s at *
  clear h1
  have H2 := Lib.hid h2; clear h2
  go_enter Try.func44, Try.ntmps44
  go_wp2_with fail
  refine H2.out.mono ?_; rintro e w' ⟨rfl, rfl⟩
  go_wp2
  all_goals
    go_ret
    exact ⟨by simp [*], rfl⟩

def RUsesSaid (w : World) (op : Int) : Prop := Calls Try.prog 46 #[.int .i64 op] w fun e w' => e = .returned (.tuple #[.bool (usesS op).1, .bool (usesS op).2.1, .bool (usesS op).2.2]) ∧ ∃ n, w' = w.drewN n
theorem ruses_any (w : World) (op : Int) : RUsesSaid w op := by
  unfold RUsesSaid
  have h2 := operands_any w op
  unfold OperandsSaid at h2
  cases hk : knownS op
  · have ho : op < 0 ∨ 29 < op := by simp [knownS] at hk; omega
    rw [operands_out op ho] at h2
    rw [uses_out op ho]
    have he : (⟨#[]⟩ : ByteArray).toList.isEmpty = true := by rw [ByteArray.toList_eq]; rfl
    clear ho hk
    have H2 := Lib.hid h2; clear h2
    go_enter Try.func46, Try.ntmps46
    go_wp2_with fail
    refine H2.out.mono ?_; rintro e w' ⟨rfl, rfl⟩
    go_wp2
    go_ret3
    exact ⟨rfl, 0, rfl⟩
  · obtain ⟨x, y, z, ho, e1, e2, e3⟩ := operands_of op hk
    rw [ho] at h2
    rw [← e1, ← e2, ← e3]
    have he : (⟨#[x, y, z]⟩ : ByteArray).toList.isEmpty = false := by rw [ByteArray.toList_eq]; rfl
    clear ho hk e1 e2 e3
    have H2 := Lib.hid h2; clear h2
    go_enter Try.func46, Try.ntmps46
    go_wp2_with fail
    refine H2.out.mono ?_; rintro e w' ⟨rfl, rfl⟩
    go_wp2
    go_quiet (fail)
    go_wp2
    go_ret3
    exact ⟨rfl, _, rfl⟩
end Go.Proofs.Ytmmdppjbofbjhaa
