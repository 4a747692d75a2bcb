/- Walks: what an op is (package instr and the reference): Known, Uses, Safe, may, right, unused. -/
import Derived.Test.YtmmdppjbofbjhaaWordB
import Derived.Test.YtmmdppjbofbjhaaRegion
namespace Go.Proofs.Ytmmdppjbofbjhaa
open Go.ChangeShapes Go.WideShapes Go.ChangeAt Go.RowKit

def knownS (op : Int) : Bool := decide (0 ≤ op) && decide (op ≤ 29)
/-- which operands an op uses -/
def usesS (op : Int) : Bool × Bool × Bool :=
  if op = 1 ∨ op = 2 ∨ op = 10 ∨ op = 11 ∨ op = 12 ∨ op = 13 ∨ op = 16 ∨ op = 17 ∨ op = 18 ∨ op = 25 ∨ op = 26 then (true, true, false)
  else if op = 3 ∨ op = 4 ∨ op = 5 ∨ op = 6 ∨ op = 7 ∨ op = 8 ∨ op = 14 ∨ op = 15 ∨ op = 19 ∨ op = 20 ∨ op = 21 then (true, true, true)
  else if op = 9 then (false, true, false)
  else if op = 22 ∨ op = 29 then (true, false, false)
  else if op = 23 ∨ op = 24 then (false, true, true)
  else (false, false, false)
/-- what the operands of an op are: a letter each -/
def operandsS (op : Int) : ByteArray :=
  if op = 0 ∨ op = 27 ∨ op = 28 then ⟨#[45, 45, 45]⟩
  else if op = 1 then ⟨#[115, 110, 45]⟩
  else if op = 2 ∨ op = 12 then ⟨#[115, 115, 45]⟩
  else if op = 3 ∨ op = 4 ∨ op = 5 ∨ op = 6 ∨ op = 7 ∨ op = 8 then ⟨#[115, 115, 115]⟩
  else if op = 9 then ⟨#[45, 116, 45]⟩
  else if op = 10 then ⟨#[115, 116, 45]⟩
  else if op = 11 ∨ op = 13 then ⟨#[115, 112, 45]⟩
  else if op = 14 ∨ op = 19 then ⟨#[115, 115, 105]⟩
  else if op = 15 ∨ op = 20 then ⟨#[115, 105, 115]⟩
  else if op = 16 then ⟨#[115, 103, 45]⟩
  else if op = 17 then ⟨#[103, 115, 45]⟩
  else if op = 18 then ⟨#[115, 111, 45]⟩
  else if op = 21 then ⟨#[114, 102, 97]⟩
  else if op = 22 then ⟨#[114, 45, 45]⟩
  else if op = 23 ∨ op = 24 then ⟨#[45, 102, 97]⟩
  else if op = 25 ∨ op = 26 then ⟨#[115, 115, 45]⟩
  else if op = 29 then ⟨#[115, 45, 45]⟩
  else ⟨#[]⟩
def opsAll : List Int := [0, 1, 2, 3, 4, 5, 6, 7, 8, 9, 10, 11, 12, 13, 14, 15, 16, 17, 18, 19, 20, 21, 22, 23, 24, 25, 26, 27, 28, 29]
theorem op_cases {p : Int → Prop} (h : ∀ op ∈ opsAll, p op) (hlo : ∀ op, op < 0 → p op) (hhi : ∀ op, 29 < op → p op) (op : Int) : p op := by
  rcases Int.lt_or_le op 0 with h1 | h1
  · exact hlo op h1
  rcases Int.lt_or_le 29 op with h2 | h2
  · exact hhi op h2
  · refine h op ?_
    simp only [opsAll, List.mem_cons, List.not_mem_nil, or_false]
    omega
theorem ops_all {p : Int → Prop} (h0 : p 0) (h1 : p 1) (h2 : p 2) (h3 : p 3) (h4 : p 4) (h5 : p 5) (h6 : p 6) (h7 : p 7) (h8 : p 8) (h9 : p 9) (h10 : p 10) (h11 : p 11) (h12 : p 12) (h13 : p 13) (h14 : p 14) (h15 : p 15) (h16 : p 16) (h17 : p 17) (h18 : p 18) (h19 : p 19) (h20 : p 20) (h21 : p 21) (h22 : p 22) (h23 : p 23) (h24 : p 24) (h25 : p 25) (h26 : p 26) (h27 : p 27) (h28 : p 28) (h29 : p 29) : ∀ op ∈ opsAll, p op := by
  intro op hop
  simp only [opsAll, List.mem_cons, List.not_mem_nil, or_false] at hop
  rcases hop with rfl | rfl | rfl | rfl | rfl | rfl | rfl | rfl | rfl | rfl | rfl | rfl | rfl | rfl | rfl | rfl | rfl | rfl | rfl | rfl | rfl | rfl | rfl | rfl | rfl | rfl | rfl | rfl | rfl | rfl <;> assumption
theorem uses_out (op : Int) (h : op < 0 ∨ 29 < op) : usesS op = (false, false, false) := by
  unfold usesS
  rw [if_neg (by omega), if_neg (by omega), if_neg (by omega), if_neg (by omega), if_neg (by omega)]
theorem operands_out (op : Int) (h : op < 0 ∨ 29 < op) : operandsS op = ⟨#[]⟩ := by
  unfold operandsS
  repeat rw [if_neg (by omega)]

theorem known_any (op : Int) (w : World) :
    Calls Try.prog 51 #[.int .i64 op] w fun e w' => e = .returned (.bool (knownS op)) ∧ w = w' := by
  unfold knownS
  go_enter Try.func51, Try.ntmps51
  go_wp2
  all_goals
    go_ret
    exact ⟨by simp [*]; try omega, rfl⟩

def UsesSaid (w : World) (op : Int) : Prop := Calls Try.prog 45 #[.int .i64 op] w fun e w' => e = .returned (.tuple #[.bool (usesS op).1, .bool (usesS op).2.1, .bool (usesS op).2.2]) ∧ w = w'
set_option maxHeartbeats 4000000 in
theorem uses_in (w : World) : ∀ op ∈ opsAll, UsesSaid w op := by
  apply ops_all <;> (unfold UsesSaid; go_enter Try.func45, Try.ntmps45; go_wp2; go_ret3; exact ⟨rfl, rfl⟩)
theorem uses_any (w : World) (op : Int) : UsesSaid w op := by
  refine op_cases (uses_in w) (fun op h => ?_) (fun op h => ?_) op
  all_goals
    unfold UsesSaid
    rw [uses_out op (by omega)]
    go_enter Try.func45, Try.ntmps45
    go_wp2
    go_ret3
    exact ⟨rfl, rfl⟩

def OperandsSaid (w : World) (op : Int) : Prop := Calls Try.prog 110 #[.int .i64 op] w fun e w' => e = .returned (.string (operandsS op)) ∧ w = w'
set_option maxHeartbeats 4000000 in
theorem operands_in (w : World) : ∀ op ∈ opsAll, OperandsSaid w op := by
  apply ops_all <;> (unfold OperandsSaid; go_enter Try.func110, Try.ntmps110; go_wp2; go_ret; exact ⟨rfl, rfl⟩)
theorem operands_any (w : World) (op : Int) : OperandsSaid w op := by
  refine op_cases (operands_in w) (fun op h => ?_) (fun op h => ?_) op
  all_goals
    unfold OperandsSaid
    rw [operands_out op (by omega)]
    go_enter Try.func110, Try.ntmps110
    go_wp2
    go_ret
    exact ⟨rfl, rfl⟩
end Go.Proofs.Ytmmdppjbofbjhaa
