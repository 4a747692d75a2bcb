/- Laws on memory that the walks share: bytes as a string, rows of cells. Nothing of the program stands here. Walks: what an op is (package instr and the reference): Known, Uses, Safe, may, right, unused. Walks: whether an instruction may be laid (package instr and the reference); what it sets; safe points. -/
import Derived.WalkKit
import Derived.Handy
import Derived.WalkSpells
import Derived.Lib.Hide
import Derived.Deep.Draws
import Derived.Test.YtjcjhfnjamphlaaRows
import Derived.ProofKit
import Derived.OpenShut
import Derived.Deep.QuietTactic
import Derived.BigQuiet
set_option linter.unusedVariables false
set_option linter.unusedSimpArgs false
namespace Go.Proofs.Ytjcjhfnjamphlaa
open Go.RowKit
theorem heap_new (w : World) (o : Obj) : (w.alloc o).heap[w.heap.size]? = some o := by
  show (w.heap.push _)[w.heap.size]? = _
  simp
theorem cell_new (w : World) (c : Array Value) (t : TypeId) (fz : Nat × Nat) (j : Nat) : (w.alloc (.cells c t fz)).cell? ⟨w.heap.size, j, none⟩ = c[j]? := by
  unfold World.cell?
  rw [heap_new]
  rfl
theorem cell_under (w : World) (o : Obj) {p : Addr} (h : p.block < w.heap.size) : (w.alloc o).cell? p = w.cell? p :=
  World.cell?_of_block (w := w) (Below.heap_alloc w o _ h)
theorem below_drewN {B : Nat} {a w : World} (h : Below B a w) (n : Nat) : Below B a (w.drewN n) := h.trans ⟨rfl, rfl, rfl, Nat.le_refl _, fun _ _ => rfl⟩
end Go.Proofs.Ytjcjhfnjamphlaa
namespace Go.Proofs.Ytjcjhfnjamphlaa
open Go.ChangeShapes Go.WideShapes Go.ChangeAt Go.RowKit
def knownS (op : Int) : Bool := decide (0 ≤ op) && decide (op ≤ 29)
/-- which operands an op uses -/
def usesS (op : Int) : Bool × Bool × Bool :=
  if op = 1 ∨ op = 2 ∨ op = 10 ∨ op = 11 ∨ op = 12 ∨ op = 13 ∨ op = 16 ∨ op = 17 ∨ op = 18 ∨ op = 25 ∨ op = 26 then (true, true, false)
  else if op = 3 ∨ op = 4 ∨ op = 5 ∨ op = 6 ∨ op = 7 ∨ op = 8 ∨ op = 14 ∨ op = 15 ∨ op = 19 ∨ op = 20 ∨ op = 21 then (true, true, true)
  else if op = 9 then (false, true, false)
  else if op = 22 ∨ op = 29 then (true, false, false)
  else if op = 23 ∨ op = 24 then (false, true, true)
  else (false, false, false)
def opsAll : List Int := [0, 1, 2, 3, 4, 5, 6, 7, 8, 9, 10, 11, 12, 13, 14, 15, 16, 17, 18, 19, 20, 21, 22, 23, 24, 25, 26, 27, 28, 29]
theorem op_cases {p : Int → Prop} (h : ∀ op ∈ opsAll, p op) (hlo : ∀ op, op < 0 → p op) (hhi : ∀ op, 29 < op → p op) (op : Int) : p op := by
  rcases Int.lt_or_le op 0 with h1 | h1
  · exact hlo op h1
  rcases Int.lt_or_le 29 op with h2 | h2
  · exact hhi op h2
  · refine h op ?_
    simp only [opsAll, List.mem_cons, List.not_mem_nil, or_false]
    omega
theorem ops_all {p : Int → Prop} (h0 : p 0) (h1 : p 1) (h2 : p 2) (h3 : p 3) (h4 : p 4) (h5 : p 5) (h6 : p 6) (h7 : p 7) (h8 : p 8) (h9 : p 9) (h10 : p 10) (h11 : p 11) (h12 : p 12) (h13 : p 13) (h14 : p 14) (h15 : p 15) (h16 : p 16) (h17 : p 17) (h18 : p 18) (h19 : p 19) (h20 : p 20) (h21 : p 21) (h22 : p 22) (h23 : p 23) (h24 : p 24) (h25 : p 25) (h26 : p 26) (h27 : p 27) (h28 : p 28) (h29 : p 29) : ∀ op ∈ opsAll, p op := by
  intro op hop
  simp only [opsAll, List.mem_cons, List.not_mem_nil, or_false] at hop
  rcases hop with rfl | rfl | rfl | rfl | rfl | rfl | rfl | rfl | rfl | rfl | rfl | rfl | rfl | rfl | rfl | rfl | rfl | rfl | rfl | rfl | rfl | rfl | rfl | rfl | rfl | rfl | rfl | rfl | rfl | rfl <;> assumption
theorem uses_out (op : Int) (h : op < 0 ∨ 29 < op) : usesS op = (false, false, false) := by
  unfold usesS
  rw [if_neg (by omega), if_neg (by omega), if_neg (by omega), if_neg (by omega), if_neg (by omega)]
theorem known_any (op : Int) (w : World) :
    Calls Try.prog 59 #[.int .i64 op] w fun e w' => e = .returned (.bool (knownS op)) ∧ w = w' := by
  unfold knownS
  go_enter Try.func59, Try.ntmps59
  go_wp2
  all_goals
    go_ret
    exact ⟨by simp [*]; try omega, rfl⟩

def UsesSaid (w : World) (op : Int) : Prop := Calls Try.prog 57 #[.int .i64 op] w fun e w' => e = .returned (.tuple #[.bool (usesS op).1, .bool (usesS op).2.1, .bool (usesS op).2.2]) ∧ w = w'
set_option maxHeartbeats 4000000 in
theorem uses_in (w : World) : ∀ op ∈ opsAll, UsesSaid w op := by
  apply ops_all <;> (unfold UsesSaid; go_enter Try.func57, Try.ntmps57; go_wp2; go_ret3; exact ⟨rfl, rfl⟩)
theorem uses_any (w : World) (op : Int) : UsesSaid w op := by
  refine op_cases (uses_in w) (fun op h => ?_) (fun op h => ?_) op
  all_goals
    unfold UsesSaid
    rw [uses_out op (by omega)]
    go_enter Try.func57, Try.ntmps57
    go_wp2
    go_ret3
    exact ⟨rfl, rfl⟩

end Go.Proofs.Ytjcjhfnjamphlaa
namespace Go.Proofs.Ytjcjhfnjamphlaa
open Go.ChangeShapes Go.WideShapes Go.ChangeAt Go.RowKit
/-- an instruction -/
structure Ins where (op a b c : Int)
def Ins.val (x : Ins) : Value := .agg #[.int .i64 x.op, .int .i64 x.a, .int .i64 x.b, .int .i64 x.c]
def Ins.cells (x : Ins) : List Value := [.int .i64 x.op, .int .i64 x.a, .int .i64 x.b, .int .i64 x.c]
def mayB (n : Int) (used : Bool) : Bool := used || n == 0
def unusedB (x : Ins) : Bool := mayB x.a (usesS x.op).1 && mayB x.b (usesS x.op).2.1 && mayB x.c (usesS x.op).2.2
def rightB (x : Ins) : Bool := knownS x.op && decide (0 ≤ x.a) && decide (x.a ≤ 255) && decide (0 ≤ x.c) && decide (x.c ≤ 255) && decide (wrap32 x.b = x.b) && unusedB x

end Go.Proofs.Ytjcjhfnjamphlaa
