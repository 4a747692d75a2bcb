import Derived.WalkKit
import Derived.Handy
import Derived.WalkSpells
import Derived.Lib.Hide
import Derived.Deep.Draws
import Derived.Deep.QuietTactic
import Derived.BigQuiet
import Derived.Test.YtjcjhfnjamphlaaGreatRows
import Derived.ProofKit
import Derived.OpenShut
import Derived.Laws.IdiomStrings
set_option linter.unusedVariables false
set_option linter.unusedSimpArgs false
namespace Go.Proofs.YtjcjhfnjamphlaaGreat
open Go.RowKit
theorem heap_new (w : World) (o : Obj) : (w.alloc o).heap[w.heap.size]? = some o := by
 show (w.heap.push _)[w.heap.size]? = _
 simp
theorem cell_new (w : World) (c : Array Value) (t : TypeId) (fz : Nat × Nat) (j : Nat) : (w.alloc (.cells c t fz)).cell? ⟨w.heap.size, j, none⟩ = c[j]? := by
 unfold World.cell?
 rw [heap_new]
 rfl
theorem cell_under (w : World) (o : Obj) {p : Addr} (h : p.block < w.heap.size) : (w.alloc o).cell? p = w.cell? p :=
 World.cell?_of_block (w := w) (Below.heap_alloc w o _ h)
theorem below_drewN {B : Nat} {a w : World} (h : Below B a w) (n : Nat) : Below B a (w.drewN n) := h.trans ⟨rfl, rfl, rfl, Nat.le_refl _, fun _ _ => rfl⟩
end Go.Proofs.YtjcjhfnjamphlaaGreat
namespace Go.Proofs.YtjcjhfnjamphlaaGreat
open Go.RowKit
def BelowW (w : World) : Type := { W : World // Below w.heap.size w W }
instance (w : World) : Nonempty (BelowW w) := ⟨⟨w, Below.refl _ _⟩⟩
theorem BelowW.cell {w : World} (W : BelowW w) {a : Addr} {v : Value} (h : w.cell? a = some v) : W.val.cell? a = some v := by
 have hlt : a.block < w.heap.size := by
  unfold World.cell? at h
  rcases Nat.lt_or_ge a.block w.heap.size with h' | h'
  ·exact h'
  ·rw [Array.getElem?_eq_none h'] at h; cases h
 rw [W.2.cell hlt]; exact h
theorem wp_region_below {P : Program} {id : Nat} {Q : Exit → Act → World → Prop} {a : Act} {w : World} {l : List Oper} (hm : P.follows .mixedOrders = true) (hB : Region.lexB .any l.toArray = true)
  (h : wpQuiet P l.toArray (fun w' => ∃ W : BelowW w, w' = W.val) (fun a' => ∀ w', (∃ W : BelowW w, w' = W.val) → Q .normal a' w') l a) : (Code.region id l.toArray true).wp P Q a w :=
 wp_region_quiet (C := fun w' => ∃ W : BelowW w, w' = W.val) hm hB ⟨⟨{ w with drawn := w.drawn + 1 }, (Below.refl w.heap.size w).drew⟩, rfl⟩ (by simpa using h)
theorem Calls.below_of {P : Program} {f : FuncId} {args : Array Value} {w : World} {W : BelowW w} {v : Value}
  (h : Calls P f args W.val fun e w' => e = .returned v ∧ Below W.val.heap.size W.val w') : Calls P f args W.val fun e w'' => e = .returned v ∧ ∃ W' : BelowW w, w'' = W'.val :=
 h.mono fun _ w' ⟨he, hb⟩ => ⟨he, ⟨w', W.2.trans (hb.mono W.2.size)⟩, rfl⟩
end Go.Proofs.YtjcjhfnjamphlaaGreat
namespace Go.Proofs.YtjcjhfnjamphlaaGreat
open Go.ChangeShapes Go.WideShapes Go.ChangeAt Go.RowKit
def knownS (op : Int) : Bool := decide (0 ≤ op) && decide (op ≤ 29)
def usesS (op : Int) : Bool × Bool × Bool :=
 if op = 1 ∨ op = 2 ∨ op = 10 ∨ op = 11 ∨ op = 12 ∨ op = 13 ∨ op = 16 ∨ op = 17 ∨ op = 18 ∨ op = 25 ∨ op = 26 then (true, true, false)
 else if op = 3 ∨ op = 4 ∨ op = 5 ∨ op = 6 ∨ op = 7 ∨ op = 8 ∨ op = 14 ∨ op = 15 ∨ op = 19 ∨ op = 20 ∨ op = 21 then (true, true, true)
 else if op = 9 then (false, true, false)
 else if op = 22 ∨ op = 29 then (true, false, false)
 else if op = 23 ∨ op = 24 then (false, true, true)
 else (false, false, false)
def operandsS (op : Int) : ByteArray :=
 if op = 0 ∨ op = 27 ∨ op = 28 then ⟨#[45, 45, 45]⟩
 else if op = 1 then ⟨#[115, 110, 45]⟩
 else if op = 2 ∨ op = 12 then ⟨#[115, 115, 45]⟩
 else if op = 3 ∨ op = 4 ∨ op = 5 ∨ op = 6 ∨ op = 7 ∨ op = 8 then ⟨#[115, 115, 115]⟩
 else if op = 9 then ⟨#[45, 116, 45]⟩
 else if op = 10 then ⟨#[115, 116, 45]⟩
 else if op = 11 ∨ op = 13 then ⟨#[115, 112, 45]⟩
 else if op = 14 ∨ op = 19 then ⟨#[115, 115, 105]⟩
 else if op = 15 ∨ op = 20 then ⟨#[115, 105, 115]⟩
 else if op = 16 then ⟨#[115, 103, 45]⟩
 else if op = 17 then ⟨#[103, 115, 45]⟩
 else if op = 18 then ⟨#[115, 111, 45]⟩
 else if op = 21 then ⟨#[114, 102, 97]⟩
 else if op = 22 then ⟨#[114, 45, 45]⟩
 else if op = 23 ∨ op = 24 then ⟨#[45, 102, 97]⟩
 else if op = 25 ∨ op = 26 then ⟨#[115, 115, 45]⟩
 else if op = 29 then ⟨#[115, 45, 45]⟩
 else ⟨#[]⟩
def opsAll : List Int := [0, 1, 2, 3, 4, 5, 6, 7, 8, 9, 10, 11, 12, 13, 14, 15, 16, 17, 18, 19, 20, 21, 22, 23, 24, 25, 26, 27, 28, 29]
theorem op_cases {p : Int → Prop} (h : ∀ op ∈ opsAll, p op) (hlo : ∀ op, op < 0 → p op) (hhi : ∀ op, 29 < op → p op) (op : Int) : p op := by
 rcases Int.lt_or_le op 0 with h1 | h1
 ·exact hlo op h1
 rcases Int.lt_or_le 29 op with h2 | h2
 ·exact hhi op h2
 ·refine h op ?_
  simp only [opsAll, List.mem_cons, List.not_mem_nil, or_false]
  omega
theorem ops_all {p : Int → Prop} (h0 : p 0) (h1 : p 1) (h2 : p 2) (h3 : p 3) (h4 : p 4) (h5 : p 5) (h6 : p 6) (h7 : p 7) (h8 : p 8) (h9 : p 9) (h10 : p 10) (h11 : p 11) (h12 : p 12) (h13 : p 13) (h14 : p 14) (h15 : p 15) (h16 : p 16) (h17 : p 17) (h18 : p 18) (h19 : p 19) (h20 : p 20) (h21 : p 21) (h22 : p 22) (h23 : p 23) (h24 : p 24) (h25 : p 25) (h26 : p 26) (h27 : p 27) (h28 : p 28) (h29 : p 29) : ∀ op ∈ opsAll, p op := by
 intro op hop
 simp only [opsAll, List.mem_cons, List.not_mem_nil, or_false] at hop
 rcases hop with rfl | rfl | rfl | rfl | rfl | rfl | rfl | rfl | rfl | rfl | rfl | rfl | rfl | rfl | rfl | rfl | rfl | rfl | rfl | rfl | rfl | rfl | rfl | rfl | rfl | rfl | rfl | rfl | rfl | rfl <;> assumption
theorem uses_out (op : Int) (h : op < 0 ∨ 29 < op) : usesS op = (false, false, false) := by
 unfold usesS
 rw [if_neg (by omega), if_neg (by omega), if_neg (by omega), if_neg (by omega), if_neg (by omega)]
theorem operands_out (op : Int) (h : op < 0 ∨ 29 < op) : operandsS op = ⟨#[]⟩ := by
 unfold operandsS
 repeat rw [if_neg (by omega)]
theorem known_any (op : Int) (w : World) :
  Calls Tryz.prog 105 #[.int .i64 op] w fun e w' => e = .returned (.bool (knownS op)) ∧ w = w' := by
 unfold knownS
 go_enter Tryz.func105, Tryz.ntmps105
 go_wp2
 all_goals
  go_ret
  exact ⟨by simp [*]; try omega, rfl⟩
def UsesSaid (w : World) (op : Int) : Prop := Calls Tryz.prog 103 #[.int .i64 op] w fun e w' => e = .returned (.tuple #[.bool (usesS op).1, .bool (usesS op).2.1, .bool (usesS op).2.2]) ∧ w = w'
set_option maxHeartbeats 4000000 in
theorem uses_in (w : World) : ∀ op ∈ opsAll, UsesSaid w op := by
 apply ops_all <;> (unfold UsesSaid; go_enter Tryz.func103, Tryz.ntmps103; go_wp2; go_ret3; exact ⟨rfl, rfl⟩)
theorem uses_any (w : World) (op : Int) : UsesSaid w op := by
 refine op_cases (uses_in w) (fun op h => ?_) (fun op h => ?_) op
 all_goals
  unfold UsesSaid
  rw [uses_out op (by omega)]
  go_enter Tryz.func103, Tryz.ntmps103
  go_wp2
  go_ret3
  exact ⟨rfl, rfl⟩
def OperandsSaid (w : World) (op : Int) : Prop := Calls Tryz.prog 100 #[.int .i64 op] w fun e w' => e = .returned (.string (operandsS op)) ∧ w = w'
set_option maxHeartbeats 4000000 in
theorem operands_in (w : World) : ∀ op ∈ opsAll, OperandsSaid w op := by
 apply ops_all <;> (unfold OperandsSaid; go_enter Tryz.func100, Tryz.ntmps100; go_wp2; go_ret; exact ⟨rfl, rfl⟩)
theorem operands_any (w : World) (op : Int) : OperandsSaid w op := by
 refine op_cases (operands_in w) (fun op h => ?_) (fun op h => ?_) op
 all_goals
  unfold OperandsSaid
  rw [operands_out op (by omega)]
  go_enter Tryz.func100, Tryz.ntmps100
  go_wp2
  go_ret
  exact ⟨rfl, rfl⟩
end Go.Proofs.YtjcjhfnjamphlaaGreat
namespace Go.Proofs.YtjcjhfnjamphlaaGreat
open Go.ChangeShapes Go.WideShapes Go.ChangeAt Go.RowKit
structure Ins where (op a b c : Int)
def Ins.val (x : Ins) : Value := .agg #[.int .i64 x.op, .int .i64 x.a, .int .i64 x.b, .int .i64 x.c]
def Ins.cells (x : Ins) : List Value := [.int .i64 x.op, .int .i64 x.a, .int .i64 x.b, .int .i64 x.c]
def mayB (n : Int) (used : Bool) : Bool := used || n == 0
def unusedB (x : Ins) : Bool := mayB x.a (usesS x.op).1 && mayB x.b (usesS x.op).2.1 && mayB x.c (usesS x.op).2.2
def rightB (x : Ins) : Bool := knownS x.op && decide (0 ≤ x.a) && decide (x.a ≤ 255) && decide (0 ≤ x.c) && decide (x.c ≤ 255) && decide (wrap32 x.b = x.b) && unusedB x
theorem operands_of (op : Int) (h : knownS op = true) : ∃ x y z : UInt8, operandsS op = ⟨#[x, y, z]⟩ ∧ ((x.toNat : Int) != 45) = (usesS op).1 ∧ ((y.toNat : Int) != 45) = (usesS op).2.1 ∧ ((z.toNat : Int) != 45) = (usesS op).2.2 := by
 have hop : op ∈ opsAll := by
  simp [knownS] at h
  simp only [opsAll, List.mem_cons, List.not_mem_nil, or_false]
  omega
 revert op
 intro op _ hop
 revert op
 suffices ∀ op ∈ opsAll, ∃ x y z : UInt8, operandsS op = ⟨#[x, y, z]⟩ ∧ ((x.toNat : Int) != 45) = (usesS op).1 ∧ ((y.toNat : Int) != 45) = (usesS op).2.1 ∧ ((z.toNat : Int) != 45) = (usesS op).2.2 from fun op _ hop => this op hop
 apply ops_all <;> exact ⟨_, _, _, rfl, by decide +kernel, by decide +kernel, by decide +kernel⟩
def RUsesSaid (w : World) (op : Int) : Prop := Calls Tryz.prog 111 #[.int .i64 op] w fun e w' => e = .returned (.tuple #[.bool (usesS op).1, .bool (usesS op).2.1, .bool (usesS op).2.2]) ∧ ∃ n, w' = w.drewN n
theorem ruses_any (w : World) (op : Int) : RUsesSaid w op := by
 unfold RUsesSaid
 have h2 := operands_any w op
 unfold OperandsSaid at h2
 cases hk : knownS op
 ·have ho : op < 0 ∨ 29 < op := by simp [knownS] at hk; omega
  rw [operands_out op ho] at h2
  rw [uses_out op ho]
  have he : (⟨#[]⟩ : ByteArray).toList.isEmpty = true := by rw [ByteArray.toList_eq]; rfl
  clear ho hk
  have H2 := Lib.hid h2; clear h2
  go_enter Tryz.func111, Tryz.ntmps111
  go_wp2_with fail
  refine H2.out.mono ?_; rintro e w' ⟨rfl, rfl⟩
  go_wp2
  go_ret3
  exact ⟨rfl, 0, rfl⟩
 ·obtain ⟨x, y, z, ho, e1, e2, e3⟩ := operands_of op hk
  rw [ho] at h2
  rw [← e1, ← e2, ← e3]
  have he : (⟨#[x, y, z]⟩ : ByteArray).toList.isEmpty = false := by rw [ByteArray.toList_eq]; rfl
  clear ho hk e1 e2 e3
  have H2 := Lib.hid h2; clear h2
  go_enter Tryz.func111, Tryz.ntmps111
  go_wp2_with fail
  refine H2.out.mono ?_; rintro e w' ⟨rfl, rfl⟩
  go_wp2
  go_quiet (fail)
  go_wp2
  go_ret3
  exact ⟨rfl, _, rfl⟩
end Go.Proofs.YtjcjhfnjamphlaaGreat
namespace Go.Proofs.YtjcjhfnjamphlaaGreat
open Go.ChangeShapes Go.WideShapes Go.ChangeAt Go.RowKit
set_option maxHeartbeats 1600000 in
theorem unused_any (x : Ins) (w : World) :
  Calls Tryz.prog 101 #[x.val] w fun e w' => e = .returned (.bool (unusedB x)) ∧ Below w.heap.size w w' := by
 obtain ⟨op, a, b, c⟩ := x
 show Calls Tryz.prog 101 #[.agg #[.int .i64 op, .int .i64 a, .int .i64 b, .int .i64 c]] w _
 have ru := fun w => ruses_any w op
 unfold RUsesSaid at ru
 have hu : unusedB ⟨op, a, b, c⟩ = (mayB a (usesS op).1 && mayB b (usesS op).2.1 && mayB c (usesS op).2.2) := rfl
 rw [hu]
 clear hu
 generalize usesS op = u at *
 obtain ⟨u1, u2, u3⟩ := u
 dsimp only at ru
 have RU := Lib.hid ru; clear ru
 cases u1 <;> cases u2 <;> cases u3
 all_goals
  go_enter Tryz.func101, Tryz.ntmps101
  go_wp2_with fail
  refine (RU.out _).mono ?_; rintro e w' ⟨rfl, n, rfl⟩
  go_wp2
  all_goals
   go_ret
   exact ⟨by simp [mayB, *], below_drewN ((Below.refl _ _).alloc (Nat.le_refl _) _) _⟩
end Go.Proofs.YtjcjhfnjamphlaaGreat
namespace Go.Proofs.YtjcjhfnjamphlaaGreat
open Go.ChangeShapes Go.WideShapes Go.ChangeAt Go.RowKit
def bv (n : Int) : Value := .int .u8 n
def readV (b0 b1 b2 b3 : Int) : Int := wrap32 (b0 + 256 * b1 + 65536 * b2 + 16777216 * b3)
end Go.Proofs.YtjcjhfnjamphlaaGreat
