/- Plain functions of chapter 2 (numbers of 32 bits) and their laws. Nothing of the program stands here. Walks: package word and the reference's chapter 2: each function returns what the plain functions say. Walks: the reference's numbers; the laws' own 'alive'. Laws on memory that the walks share: bytes as a string, rows of cells. Nothing of the program stands here. Regions that draw their order, whose operations leave what lay below alone (they may make memory): one walk of the text's order. Nothing of the program stands here. Walks: what an op is (package instr and the reference): Known, Uses, Safe, may, right, unused. -/
import Derived.WalkKit
import Derived.Handy
import Derived.Test.YthkhgihjigmkoaaGreatRows
import Derived.ProofKit
import Derived.OpenShut
import Derived.Lib.Hide
import Derived.WalkSpells
import Derived.Deep.Draws
import Derived.Deep.QuietTactic
import Derived.BigQuiet
set_option linter.unusedVariables false
set_option linter.unusedSimpArgs false
namespace Go.Proofs.YthkhgihjigmkoaaGreat
open Go.RowKit
theorem w32_bd (a : Int) : -2147483648 ≤ wrap32 a ∧ wrap32 a ≤ 2147483647 := by unfold wrap32; omega
theorem w32_w32 (a : Int) : wrap32 (wrap32 a) = wrap32 a := by unfold wrap32; omega
theorem of_plain (a : Int) : wrap64 (wrap32 (IntKind.u64.wrap a % 4294967296)) = wrap32 a := by
  rw [IntKind.wrap_u64]; unfold wrap64 wrap32; omega
theorem i64_and32 (n : Int) : bits .and .i64 n 4294967295 = n % 4294967296 := by
  have h127 : (BitVec.ofInt 64 4294967295).toNat = 2 ^ 32 - 1 := by decide
  have key : (BitVec.ofInt 64 n &&& BitVec.ofInt 64 4294967295).toNat = (n % ((2 ^ 64 : Nat) : Int)).toNat % 2 ^ 32 := by
    rw [BitVec.toNat_and, BitVec.toNat_ofInt, h127, Nat.and_two_pow_sub_one_eq_mod]
  show IntKind.i64.wrap ((BitVec.ofInt 64 n &&& BitVec.ofInt 64 4294967295).toNat : Nat) = n % 4294967296
  rw [key, IntKind.wrap_i64]
  omega

end Go.Proofs.YthkhgihjigmkoaaGreat
namespace Go.Proofs.YthkhgihjigmkoaaGreat
open Go.ChangeShapes Go.WideShapes Go.ChangeAt Go.RowKit
theorem of_any (a : Int) (w : World) :
    Calls Tryz.prog 96 #[.int .i64 a] w fun e w' => e = .returned (.int .i64 (wrap32 a)) ∧ w = w' := by
  go_enter Tryz.func96, Tryz.ntmps96
  go_wp2
  go_ret
  exact ⟨by simp [of_plain], rfl⟩

end Go.Proofs.YthkhgihjigmkoaaGreat
namespace Go.Proofs.YthkhgihjigmkoaaGreat
open Go.ChangeShapes Go.WideShapes Go.ChangeAt Go.RowKit
theorem rof_any (a : Int) (w : World) :
    Calls Tryz.prog 28 #[.int .i64 a] w fun e w' => e = .returned (.int .i64 (wrap32 a)) ∧ w = w' := by
  have h1 := i64_and32 a
  have h2 : 0 ≤ a % 4294967296 ∧ a % 4294967296 < 4294967296 := by omega
  have hw : wrap32 a = if a % 4294967296 < 2147483648 then a % 4294967296 else a % 4294967296 - 4294967296 := by unfold wrap32; split <;> omega
  by_cases h : a % 4294967296 < 2147483648
  · rw [hw, if_pos h]; clear hw
    go_enter Tryz.func28, Tryz.ntmps28
    go_wp2
    go_ret
    exact ⟨rfl, rfl⟩
  · rw [hw, if_neg h]; clear hw
    go_enter Tryz.func28, Tryz.ntmps28
    go_wp2
    go_ret
    exact ⟨rfl, rfl⟩

end Go.Proofs.YthkhgihjigmkoaaGreat
namespace Go.Proofs.YthkhgihjigmkoaaGreat
open Go.RowKit
theorem heap_new (w : World) (o : Obj) : (w.alloc o).heap[w.heap.size]? = some o := by
  show (w.heap.push _)[w.heap.size]? = _
  simp
theorem cell_new (w : World) (c : Array Value) (t : TypeId) (fz : Nat × Nat) (j : Nat) : (w.alloc (.cells c t fz)).cell? ⟨w.heap.size, j, none⟩ = c[j]? := by
  unfold World.cell?
  rw [heap_new]
  rfl
theorem cell_under (w : World) (o : Obj) {p : Addr} (h : p.block < w.heap.size) : (w.alloc o).cell? p = w.cell? p :=
  World.cell?_of_block (w := w) (Below.heap_alloc w o _ h)
theorem below_drewN {B : Nat} {a w : World} (h : Below B a w) (n : Nat) : Below B a (w.drewN n) := h.trans ⟨rfl, rfl, rfl, Nat.le_refl _, fun _ _ => rfl⟩
end Go.Proofs.YthkhgihjigmkoaaGreat
namespace Go.Proofs.YthkhgihjigmkoaaGreat
open Go.RowKit
/-- the worlds that are as w below w's end -/
def BelowW (w : World) : Type := { W : World // Below w.heap.size w W }
instance (w : World) : Nonempty (BelowW w) := ⟨⟨w, Below.refl _ _⟩⟩
theorem BelowW.cell {w : World} (W : BelowW w) {a : Addr} {v : Value} (h : w.cell? a = some v) : W.val.cell? a = some v := by
  have hlt : a.block < w.heap.size := by
    unfold World.cell? at h
    rcases Nat.lt_or_ge a.block w.heap.size with h' | h'
    · exact h'
    · rw [Array.getElem?_eq_none h'] at h; cases h
  rw [W.2.cell hlt]; exact h
theorem wp_region_below {P : Program} {id : Nat} {Q : Exit → Act → World → Prop} {a : Act} {w : World} {l : List Oper} (hm : P.follows .mixedOrders = true) (hB : Region.lexB .any l.toArray = true)
    (h : wpQuiet P l.toArray (fun w' => ∃ W : BelowW w, w' = W.val) (fun a' => ∀ w', (∃ W : BelowW w, w' = W.val) → Q .normal a' w') l a) : (Code.region id l.toArray true).wp P Q a w :=
  wp_region_quiet (C := fun w' => ∃ W : BelowW w, w' = W.val) hm hB ⟨⟨{ w with drawn := w.drawn + 1 }, (Below.refl w.heap.size w).drew⟩, rfl⟩ (by simpa using h)
theorem Calls.below_of {P : Program} {f : FuncId} {args : Array Value} {w : World} {W : BelowW w} {v : Value}
    (h : Calls P f args W.val fun e w' => e = .returned v ∧ Below W.val.heap.size W.val w') : Calls P f args W.val fun e w'' => e = .returned v ∧ ∃ W' : BelowW w, w'' = W'.val :=
  h.mono fun _ w' ⟨he, hb⟩ => ⟨he, ⟨w', W.2.trans (hb.mono W.2.size)⟩, rfl⟩
theorem Calls.below_same {P : Program} {f : FuncId} {args : Array Value} {w : World} {W : BelowW w} {v : Value}
    (h : Calls P f args W.val fun e w' => e = .returned v ∧ W.val = w') : Calls P f args W.val fun e w'' => e = .returned v ∧ ∃ W' : BelowW w, w'' = W'.val :=
  h.mono fun _ _ ⟨he, hb⟩ => ⟨he, W, hb.symm⟩
end Go.Proofs.YthkhgihjigmkoaaGreat
namespace Go.Proofs.YthkhgihjigmkoaaGreat
open Go.ChangeShapes Go.WideShapes Go.ChangeAt Go.RowKit
def knownS (op : Int) : Bool := decide (0 ≤ op) && decide (op ≤ 29)
/-- which operands an op uses -/
def usesS (op : Int) : Bool × Bool × Bool :=
  if op = 1 ∨ op = 2 ∨ op = 10 ∨ op = 11 ∨ op = 12 ∨ op = 13 ∨ op = 16 ∨ op = 17 ∨ op = 18 ∨ op = 25 ∨ op = 26 then (true, true, false)
  else if op = 3 ∨ op = 4 ∨ op = 5 ∨ op = 6 ∨ op = 7 ∨ op = 8 ∨ op = 14 ∨ op = 15 ∨ op = 19 ∨ op = 20 ∨ op = 21 then (true, true, true)
  else if op = 9 then (false, true, false)
  else if op = 22 ∨ op = 29 then (true, false, false)
  else if op = 23 ∨ op = 24 then (false, true, true)
  else (false, false, false)
def opsAll : List Int := [0, 1, 2, 3, 4, 5, 6, 7, 8, 9, 10, 11, 12, 13, 14, 15, 16, 17, 18, 19, 20, 21, 22, 23, 24, 25, 26, 27, 28, 29]
theorem op_cases {p : Int → Prop} (h : ∀ op ∈ opsAll, p op) (hlo : ∀ op, op < 0 → p op) (hhi : ∀ op, 29 < op → p op) (op : Int) : p op := by
  rcases Int.lt_or_le op 0 with h1 | h1
  · exact hlo op h1
  rcases Int.lt_or_le 29 op with h2 | h2
  · exact hhi op h2
  · refine h op ?_
    simp only [opsAll, List.mem_cons, List.not_mem_nil, or_false]
    omega
theorem ops_all {p : Int → Prop} (h0 : p 0) (h1 : p 1) (h2 : p 2) (h3 : p 3) (h4 : p 4) (h5 : p 5) (h6 : p 6) (h7 : p 7) (h8 : p 8) (h9 : p 9) (h10 : p 10) (h11 : p 11) (h12 : p 12) (h13 : p 13) (h14 : p 14) (h15 : p 15) (h16 : p 16) (h17 : p 17) (h18 : p 18) (h19 : p 19) (h20 : p 20) (h21 : p 21) (h22 : p 22) (h23 : p 23) (h24 : p 24) (h25 : p 25) (h26 : p 26) (h27 : p 27) (h28 : p 28) (h29 : p 29) : ∀ op ∈ opsAll, p op := by
  intro op hop
  simp only [opsAll, List.mem_cons, List.not_mem_nil, or_false] at hop
  rcases hop with rfl | rfl | rfl | rfl | rfl | rfl | rfl | rfl | rfl | rfl | rfl | rfl | rfl | rfl | rfl | rfl | rfl | rfl | rfl | rfl | rfl | rfl | rfl | rfl | rfl | rfl | rfl | rfl | rfl | rfl <;> assumption
theorem uses_out (op : Int) (h : op < 0 ∨ 29 < op) : usesS op = (false, false, false) := by
  unfold usesS
  rw [if_neg (by omega), if_neg (by omega), if_neg (by omega), if_neg (by omega), if_neg (by omega)]
theorem known_any (op : Int) (w : World) :
    Calls Tryz.prog 150 #[.int .i64 op] w fun e w' => e = .returned (.bool (knownS op)) ∧ w = w' := by
  unfold knownS
  go_enter Tryz.func150, Tryz.ntmps150
  go_wp2
  all_goals
    go_ret
    exact ⟨by simp [*]; try omega, rfl⟩

def UsesSaid (w : World) (op : Int) : Prop := Calls Tryz.prog 148 #[.int .i64 op] w fun e w' => e = .returned (.tuple #[.bool (usesS op).1, .bool (usesS op).2.1, .bool (usesS op).2.2]) ∧ w = w'
set_option maxHeartbeats 4000000 in
theorem uses_in (w : World) : ∀ op ∈ opsAll, UsesSaid w op := by
  apply ops_all <;> (unfold UsesSaid; go_enter Tryz.func148, Tryz.ntmps148; go_wp2; go_ret3; exact ⟨rfl, rfl⟩)
theorem uses_any (w : World) (op : Int) : UsesSaid w op := by
  refine op_cases (uses_in w) (fun op h => ?_) (fun op h => ?_) op
  all_goals
    unfold UsesSaid
    rw [uses_out op (by omega)]
    go_enter Tryz.func148, Tryz.ntmps148
    go_wp2
    go_ret3
    exact ⟨rfl, rfl⟩

end Go.Proofs.YthkhgihjigmkoaaGreat
