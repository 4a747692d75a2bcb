import Derived.WalkKit
import Derived.Handy
import Derived.Test.YthkhgihjigmkoaaGreatRows
import Derived.ProofKit
import Derived.OpenShut
import Derived.Lib.Hide
import Derived.WalkSpells
import Derived.Deep.Draws
import Derived.Deep.QuietTactic
import Derived.BigQuiet
set_option linter.unusedVariables false
set_option linter.unusedSimpArgs false
namespace Go.Proofs.YthkhgihjigmkoaaGreat
open Go.RowKit
theorem w32_bd (a : Int) : -2147483648 ≤ wrap32 a ∧ wrap32 a ≤ 2147483647 := by unfold wrap32; omega
theorem w32_w64 (a : Int) : wrap32 (wrap64 a) = wrap32 a := by unfold wrap64 wrap32; omega
theorem w64_w32 (a : Int) : wrap64 (wrap32 a) = wrap32 a := by unfold wrap64 wrap32; omega
theorem w32_w32 (a : Int) : wrap32 (wrap32 a) = wrap32 a := by unfold wrap32; omega
theorem of_plain (a : Int) : wrap64 (wrap32 (IntKind.u64.wrap a % 4294967296)) = wrap32 a := by
 rw [IntKind.wrap_u64]; unfold wrap64 wrap32; omega
theorem w32_congr {a b : Int} (h : a % 4294967296 = b % 4294967296) : wrap32 a = wrap32 b := by unfold wrap32; omega
theorem w32_mod (a : Int) : wrap32 a % 4294967296 = a % 4294967296 := by unfold wrap32; omega
theorem w32_add (a b : Int) : wrap32 (wrap32 a + wrap32 b) = wrap32 (a + b) := by unfold wrap32; omega
theorem w32_sub (a b : Int) : wrap32 (wrap32 a - wrap32 b) = wrap32 (a - b) := by unfold wrap32; omega
theorem w32_mul (a b : Int) : wrap32 (wrap32 a * wrap32 b) = wrap32 (a * b) := by
 apply w32_congr; rw [Int.mul_emod, w32_mod, w32_mod, ← Int.mul_emod]
theorem w32_mul_l (a b : Int) : wrap32 (wrap32 a * b) = wrap32 (a * b) := by
 apply w32_congr; rw [Int.mul_emod, w32_mod, ← Int.mul_emod]
theorem w32_mul_r (a b : Int) : wrap32 (a * wrap32 b) = wrap32 (a * b) := by
 rw [Int.mul_comm, w32_mul_l, Int.mul_comm]
def shB (b : Int) : Nat := (wrap32 b % 32).toNat
theorem shB_lt (b : Int) : shB b < 32 := by unfold shB; omega
theorem and31 (x : Int) : bits .and .u64 (x % 4294967296) 31 = x % 32 := by
 have h := bits_mask .u64 64 (by decide) (fun n h0 h1 => by rw [IntKind.wrap_u64]; omega) 5 (by decide) (x % 4294967296) (by omega) (by omega)
 have : (2 : Int) ^ 5 - 1 = 31 := by decide
 rw [this] at h
 rw [h]; omega
theorem and31_sh (b : Int) : bits .and .u64 (wrap32 b % 4294967296) 31 = (shB b : Int) := by
 rw [and31]; unfold shB; omega
theorem i64_and31 (n : Int) : bits .and .i64 n 31 = n % 32 := by
 have h127 : (BitVec.ofInt 64 31).toNat = 2 ^ 5 - 1 := by decide
 have key : (BitVec.ofInt 64 n &&& BitVec.ofInt 64 31).toNat = (n % ((2 ^ 64 : Nat) : Int)).toNat % 2 ^ 5 := by
  rw [BitVec.toNat_and, BitVec.toNat_ofInt, h127, Nat.and_two_pow_sub_one_eq_mod]
 show IntKind.i64.wrap ((BitVec.ofInt 64 n &&& BitVec.ofInt 64 31).toNat : Nat) = n % 32
 rw [key, IntKind.wrap_i64]
 omega
theorem i64_and31_sh (b : Int) : bits .and .i64 (wrap32 b) 31 = (shB b : Int) := by
 rw [i64_and31]; unfold shB; omega
theorem i64_and32 (n : Int) : bits .and .i64 n 4294967295 = n % 4294967296 := by
 have h127 : (BitVec.ofInt 64 4294967295).toNat = 2 ^ 32 - 1 := by decide
 have key : (BitVec.ofInt 64 n &&& BitVec.ofInt 64 4294967295).toNat = (n % ((2 ^ 64 : Nat) : Int)).toNat % 2 ^ 32 := by
  rw [BitVec.toNat_and, BitVec.toNat_ofInt, h127, Nat.and_two_pow_sub_one_eq_mod]
 show IntKind.i64.wrap ((BitVec.ofInt 64 n &&& BitVec.ofInt 64 4294967295).toNat : Nat) = n % 4294967296
 rw [key, IntKind.wrap_i64]
 omega
def doV (op a b : Int) : Int × Bool :=
 if op = 3 then (wrap32 (a + b), true)
 else if op = 4 then (wrap32 (a - b), true)
 else if op = 5 then (wrap32 (a * b), true)
 else if op = 6 then (wrap32 (a * 2 ^ shB b), true)
 else if op = 7 then (wrap32 a / 2 ^ shB b, true)
 else if op = 8 then (if wrap32 a < wrap32 b then 1 else 0, true)
 else (0, false)
theorem shr_bd (a : Int) (k : Nat) : -2147483648 ≤ wrap32 a / 2 ^ k ∧ wrap32 a / 2 ^ k ≤ 2147483647 := by
 have := w32_bd a
 have hp : (0 : Int) < 2 ^ k := Int.pow_pos (by decide)
 constructor
 ·rcases Int.lt_or_le (wrap32 a) 0 with h | h
  ·rw [Int.le_ediv_iff_mul_le hp]
   have : (2147483648 : Int) * 1 ≤ 2147483648 * 2 ^ k := Int.mul_le_mul_of_nonneg_left (by omega) (by decide)
   omega
  ·have := Int.ediv_nonneg h (Int.le_of_lt hp); omega
 ·rcases Int.lt_or_le (wrap32 a) 0 with h | h
  ·have := Int.ediv_neg_of_neg_of_pos h hp; omega
  ·have := Int.ediv_le_self (2 ^ k) h; omega
theorem shl_round (a : Int) (k : Nat) : wrap32 (2 * wrap32 (a * 2 ^ k)) = wrap32 (a * 2 ^ (k + 1)) := by
 rw [w32_mul_r]
 have : 2 * (a * 2 ^ k) = a * 2 ^ (k + 1) := by
  rw [Int.pow_succ, Int.mul_left_comm, Int.mul_comm 2]
 rw [this]
theorem shr_round (a : Int) (k : Nat) : (a / 2 ^ k) / 2 = a / 2 ^ (k + 1) := by
 rw [Int.ediv_ediv_of_nonneg (Int.le_of_lt (Int.pow_pos (by decide))), Int.pow_succ]
theorem shr_neg (x : Int) (h : x < 0) : (x - 1).tdiv 2 = x / 2 := by
 rw [tdiv_eq_if]; split <;> omega
end Go.Proofs.YthkhgihjigmkoaaGreat
namespace Go.Proofs.YthkhgihjigmkoaaGreat
open Go.ChangeShapes Go.WideShapes Go.ChangeAt Go.RowKit
theorem of_any (a : Int) (w : World) :
  Calls Tryz.prog 96 #[.int .i64 a] w fun e w' => e = .returned (.int .i64 (wrap32 a)) ∧ w = w' := by
 go_enter Tryz.func96, Tryz.ntmps96
 go_wp2
 go_ret
 exact ⟨by simp [of_plain], rfl⟩
theorem do_any (op a b : Int) (w : World) :
  Calls Tryz.prog 97 #[.int .i64 op, .int .i64 a, .int .i64 b] w fun e w' => e = .returned (.tuple #[.int .i64 (doV op a b).1, .bool (doV op a b).2]) ∧ w = w' := by
 have hA := w32_bd a
 have hB := w32_bd b
 have hk := shB_lt b
 have hsh := shr_bd a (shB b)
 have h31 := and31_sh b
 have hP := w32_w32 a
 by_cases h3 : op = 3
 ·subst h3
  go_enter Tryz.func97, Tryz.ntmps97
  go_wp2_with (first | (go_at_call 96; refine (of_any _ _).mono ?_; rintro e w' ⟨rfl, rfl⟩))
  go_ret2
  exact ⟨by simp [doV, w32_add], rfl⟩
 by_cases h4 : op = 4
 ·subst h4
  go_enter Tryz.func97, Tryz.ntmps97
  go_wp2_with (first | (go_at_call 96; refine (of_any _ _).mono ?_; rintro e w' ⟨rfl, rfl⟩))
  go_ret2
  exact ⟨by simp [doV, w32_sub], rfl⟩
 by_cases h5 : op = 5
 ·subst h5
  go_enter Tryz.func97, Tryz.ntmps97
  go_wp2_with (first | (go_at_call 96; refine (of_any _ _).mono ?_; rintro e w' ⟨rfl, rfl⟩))
  go_ret2
  exact ⟨by simp [doV, w32_w64, w32_mul], rfl⟩
 by_cases h6 : op = 6
 ·subst h6
  go_enter Tryz.func97, Tryz.ntmps97
  go_wp2_with (first | (go_at_call 96; refine (of_any _ _).mono ?_; rintro e w' ⟨rfl, rfl⟩))
  go_ret2
  exact ⟨by simp [doV, w64_w32, w32_mul_l], rfl⟩
 by_cases h7 : op = 7
 ·subst h7
  go_enter Tryz.func97, Tryz.ntmps97
  go_wp2_with (first | (go_at_call 96; refine (of_any _ _).mono ?_; rintro e w' ⟨rfl, rfl⟩))
  go_ret2
  exact ⟨by simp [doV], rfl⟩
 by_cases h8 : op = 8
 ·subst h8
  go_enter Tryz.func97, Tryz.ntmps97
  go_wp2_with (first | (go_at_call 96; refine (of_any _ _).mono ?_; rintro e w' ⟨rfl, rfl⟩))
  all_goals
   go_ret2
   exact ⟨by simp [doV, *], rfl⟩
 ·have g3 : (op == 3) = false := by simpa using h3
  have g4 : (op == 4) = false := by simpa using h4
  have g5 : (op == 5) = false := by simpa using h5
  have g6 : (op == 6) = false := by simpa using h6
  have g7 : (op == 7) = false := by simpa using h7
  have g8 : (op == 8) = false := by simpa using h8
  have hd : doV op a b = (0, false) := by simp [doV, h3, h4, h5, h6, h7, h8]
  rw [hd]
  clear hd
  go_enter Tryz.func97, Tryz.ntmps97
  go_wp2_with (first | (go_at_call 96; refine (of_any _ _).mono ?_; rintro e w' ⟨rfl, rfl⟩))
  go_ret2
  exact ⟨rfl, rfl⟩
end Go.Proofs.YthkhgihjigmkoaaGreat
namespace Go.Proofs.YthkhgihjigmkoaaGreat
open Go.ChangeShapes Go.WideShapes Go.ChangeAt Go.RowKit
theorem rof_any (a : Int) (w : World) :
  Calls Tryz.prog 28 #[.int .i64 a] w fun e w' => e = .returned (.int .i64 (wrap32 a)) ∧ w = w' := by
 have h1 := i64_and32 a
 have h2 : 0 ≤ a % 4294967296 ∧ a % 4294967296 < 4294967296 := by omega
 have hw : wrap32 a = if a % 4294967296 < 2147483648 then a % 4294967296 else a % 4294967296 - 4294967296 := by unfold wrap32; split <;> omega
 by_cases h : a % 4294967296 < 2147483648
 ·rw [hw, if_pos h]; clear hw
  go_enter Tryz.func28, Tryz.ntmps28
  go_wp2
  go_ret
  exact ⟨rfl, rfl⟩
 ·rw [hw, if_neg h]; clear hw
  go_enter Tryz.func28, Tryz.ntmps28
  go_wp2
  go_ret
  exact ⟨rfl, rfl⟩
theorem rdo_shl (a b : Int) (w : World) :
  Calls Tryz.prog 32 #[.int .i64 6, .int .i64 a, .int .i64 b] w fun e w' => e = .returned (.tuple #[.int .i64 (wrap32 (a * 2 ^ shB b)), .bool true]) ∧ w = w' := by
 have hk := shB_lt b
 have h31 := i64_and31_sh b
 go_enter Tryz.func32, Tryz.ntmps32
 go_wp2_with (first | (go_at_call 28; refine (rof_any _ _).mono ?_; rintro e w' ⟨rfl, rfl⟩))
 clear h31
 go_loop [1, 9] (fun x i => ∃ k : Nat, k ≤ shB b ∧ i = .int .i64 k ∧ x = .int .i64 (wrap32 (a * 2 ^ k))) (fun _ i => shB b - (intOf i).toNat)
 case atStart => exact ⟨0, Nat.zero_le _, rfl, by simp⟩
 case round =>
  obtain ⟨k, hk2, rfl, rfl⟩ := hrel
  have hbd := w32_bd (a * 2 ^ k)
  have hr := Lib.hid (shl_round a k)
  by_cases hlt : k < shB b
  ·go_wp2_with (first | (go_at_call 28; refine (rof_any _ _).mono ?_; rintro e w' ⟨rfl, rfl⟩))
   go_round
   case rel => exact ⟨k + 1, by omega, by go_num, by rw [hr.out]⟩
   case measure => simp [intOf]; omega
  ·go_wp2
   go_ret2
   have : k = shB b := by omega
   exact ⟨by rw [this]; rfl, rfl⟩
theorem rdo_shr (a b : Int) (w : World) :
  Calls Tryz.prog 32 #[.int .i64 7, .int .i64 a, .int .i64 b] w fun e w' => e = .returned (.tuple #[.int .i64 (wrap32 a / 2 ^ shB b), .bool true]) ∧ w = w' := by
 have hk := shB_lt b
 have h31 := i64_and31_sh b
 go_enter Tryz.func32, Tryz.ntmps32
 go_wp2_with (first | (go_at_call 28; refine (rof_any _ _).mono ?_; rintro e w' ⟨rfl, rfl⟩))
 clear h31
 go_loop [1, 10] (fun x i => ∃ k : Nat, k ≤ shB b ∧ i = .int .i64 k ∧ x = .int .i64 (wrap32 a / 2 ^ k)) (fun _ i => shB b - (intOf i).toNat)
 case atStart => exact ⟨0, Nat.zero_le _, rfl, by simp⟩
 case round =>
  obtain ⟨k, hk2, rfl, hx⟩ := hrel
  have hbd := shr_bd a k
  have hr := Lib.hid (shr_round (wrap32 a) k)
  obtain ⟨v, hv⟩ : ∃ v, v = wrap32 a / 2 ^ k := ⟨_, rfl⟩
  rw [← hv] at hx hbd hr
  subst hx
  have HV := Lib.hid hv; clear hv
  by_cases hlt : k < shB b
  ·by_cases hn : v < 0
   ·have hq := Lib.hid (shr_neg v hn)
    go_wp2
    go_round
    case rel => exact ⟨k + 1, by omega, by go_num, by rw [← hr.out]; first | rfl | rw [hq.out]⟩
    case measure => simp [intOf]; omega
   ·go_wp2
    go_round
    case rel => exact ⟨k + 1, by omega, by go_num, by rw [← hr.out]⟩
    case measure => simp [intOf]; omega
  ·go_wp2
   go_ret2
   have : k = shB b := by omega
   exact ⟨by rw [← this, ← HV.out]; rfl, rfl⟩
theorem rdo_any (op a b : Int) (w : World) :
  Calls Tryz.prog 32 #[.int .i64 op, .int .i64 a, .int .i64 b] w fun e w' => e = .returned (.tuple #[.int .i64 (doV op a b).1, .bool (doV op a b).2]) ∧ w = w' := by
 have hA := w32_bd a
 have hB := w32_bd b
 have h31 := i64_and31_sh b
 by_cases h3 : op = 3
 ·subst h3
  go_enter Tryz.func32, Tryz.ntmps32
  go_wp2_with (first | (go_at_call 28; refine (rof_any _ _).mono ?_; rintro e w' ⟨rfl, rfl⟩))
  go_ret2
  exact ⟨by simp [doV, w32_add], rfl⟩
 by_cases h4 : op = 4
 ·subst h4
  go_enter Tryz.func32, Tryz.ntmps32
  go_wp2_with (first | (go_at_call 28; refine (rof_any _ _).mono ?_; rintro e w' ⟨rfl, rfl⟩))
  go_ret2
  exact ⟨by simp [doV, w32_sub], rfl⟩
 by_cases h5 : op = 5
 ·subst h5
  go_enter Tryz.func32, Tryz.ntmps32
  go_wp2_with (first | (go_at_call 28; refine (rof_any _ _).mono ?_; rintro e w' ⟨rfl, rfl⟩))
  go_ret2
  exact ⟨by simp [doV, w32_w64, w32_mul], rfl⟩
 by_cases h6 : op = 6
 ·subst h6
  exact (rdo_shl a b w).mono fun e w' ⟨h, h'⟩ => ⟨by simp [doV, h], h'⟩
 by_cases h7 : op = 7
 ·subst h7
  exact (rdo_shr a b w).mono fun e w' ⟨h, h'⟩ => ⟨by simp [doV, h], h'⟩
 by_cases h8 : op = 8
 ·subst h8
  go_enter Tryz.func32, Tryz.ntmps32
  go_wp2_with (first | (go_at_call 28; refine (rof_any _ _).mono ?_; rintro e w' ⟨rfl, rfl⟩))
  all_goals
   go_ret2
   exact ⟨by simp [doV, *], rfl⟩
 ·have g3 : (op == 3) = false := by simpa using h3
  have g4 : (op == 4) = false := by simpa using h4
  have g5 : (op == 5) = false := by simpa using h5
  have g6 : (op == 6) = false := by simpa using h6
  have g7 : (op == 7) = false := by simpa using h7
  have g8 : (op == 8) = false := by simpa using h8
  have hd : doV op a b = (0, false) := by simp [doV, h3, h4, h5, h6, h7, h8]
  rw [hd]
  clear hd
  go_enter Tryz.func32, Tryz.ntmps32
  go_wp2_with (first | (go_at_call 28; refine (rof_any _ _).mono ?_; rintro e w' ⟨rfl, rfl⟩))
  go_ret2
  exact ⟨rfl, rfl⟩
end Go.Proofs.YthkhgihjigmkoaaGreat
namespace Go.Proofs.YthkhgihjigmkoaaGreat
open Go.RowKit
theorem heap_new (w : World) (o : Obj) : (w.alloc o).heap[w.heap.size]? = some o := by
 show (w.heap.push _)[w.heap.size]? = _
 simp
theorem cell_new (w : World) (c : Array Value) (t : TypeId) (fz : Nat × Nat) (j : Nat) : (w.alloc (.cells c t fz)).cell? ⟨w.heap.size, j, none⟩ = c[j]? := by
 unfold World.cell?
 rw [heap_new]
 rfl
theorem cell_under (w : World) (o : Obj) {p : Addr} (h : p.block < w.heap.size) : (w.alloc o).cell? p = w.cell? p :=
 World.cell?_of_block (w := w) (Below.heap_alloc w o _ h)
theorem below_drewN {B : Nat} {a w : World} (h : Below B a w) (n : Nat) : Below B a (w.drewN n) := h.trans ⟨rfl, rfl, rfl, Nat.le_refl _, fun _ _ => rfl⟩
end Go.Proofs.YthkhgihjigmkoaaGreat
namespace Go.Proofs.YthkhgihjigmkoaaGreat
open Go.RowKit
def BelowW (w : World) : Type := { W : World // Below w.heap.size w W }
instance (w : World) : Nonempty (BelowW w) := ⟨⟨w, Below.refl _ _⟩⟩
theorem BelowW.cell {w : World} (W : BelowW w) {a : Addr} {v : Value} (h : w.cell? a = some v) : W.val.cell? a = some v := by
 have hlt : a.block < w.heap.size := by
  unfold World.cell? at h
  rcases Nat.lt_or_ge a.block w.heap.size with h' | h'
  ·exact h'
  ·rw [Array.getElem?_eq_none h'] at h; cases h
 rw [W.2.cell hlt]; exact h
theorem wp_region_below {P : Program} {id : Nat} {Q : Exit → Act → World → Prop} {a : Act} {w : World} {l : List Oper} (hm : P.follows .mixedOrders = true) (hB : Region.lexB .any l.toArray = true)
  (h : wpQuiet P l.toArray (fun w' => ∃ W : BelowW w, w' = W.val) (fun a' => ∀ w', (∃ W : BelowW w, w' = W.val) → Q .normal a' w') l a) : (Code.region id l.toArray true).wp P Q a w :=
 wp_region_quiet (C := fun w' => ∃ W : BelowW w, w' = W.val) hm hB ⟨⟨{ w with drawn := w.drawn + 1 }, (Below.refl w.heap.size w).drew⟩, rfl⟩ (by simpa using h)
theorem Calls.below_of {P : Program} {f : FuncId} {args : Array Value} {w : World} {W : BelowW w} {v : Value}
  (h : Calls P f args W.val fun e w' => e = .returned v ∧ Below W.val.heap.size W.val w') : Calls P f args W.val fun e w'' => e = .returned v ∧ ∃ W' : BelowW w, w'' = W'.val :=
 h.mono fun _ w' ⟨he, hb⟩ => ⟨he, ⟨w', W.2.trans (hb.mono W.2.size)⟩, rfl⟩
theorem Calls.below_same {P : Program} {f : FuncId} {args : Array Value} {w : World} {W : BelowW w} {v : Value}
  (h : Calls P f args W.val fun e w' => e = .returned v ∧ W.val = w') : Calls P f args W.val fun e w'' => e = .returned v ∧ ∃ W' : BelowW w, w'' = W'.val :=
 h.mono fun _ _ ⟨he, hb⟩ => ⟨he, W, hb.symm⟩
end Go.Proofs.YthkhgihjigmkoaaGreat
namespace Go.Proofs.YthkhgihjigmkoaaGreat
open Go.ChangeShapes Go.WideShapes Go.ChangeAt Go.RowKit
def knownS (op : Int) : Bool := decide (0 ≤ op) && decide (op ≤ 29)
def usesS (op : Int) : Bool × Bool × Bool :=
 if op = 1 ∨ op = 2 ∨ op = 10 ∨ op = 11 ∨ op = 12 ∨ op = 13 ∨ op = 16 ∨ op = 17 ∨ op = 18 ∨ op = 25 ∨ op = 26 then (true, true, false)
 else if op = 3 ∨ op = 4 ∨ op = 5 ∨ op = 6 ∨ op = 7 ∨ op = 8 ∨ op = 14 ∨ op = 15 ∨ op = 19 ∨ op = 20 ∨ op = 21 then (true, true, true)
 else if op = 9 then (false, true, false)
 else if op = 22 ∨ op = 29 then (true, false, false)
 else if op = 23 ∨ op = 24 then (false, true, true)
 else (false, false, false)
def opsAll : List Int := [0, 1, 2, 3, 4, 5, 6, 7, 8, 9, 10, 11, 12, 13, 14, 15, 16, 17, 18, 19, 20, 21, 22, 23, 24, 25, 26, 27, 28, 29]
theorem op_cases {p : Int → Prop} (h : ∀ op ∈ opsAll, p op) (hlo : ∀ op, op < 0 → p op) (hhi : ∀ op, 29 < op → p op) (op : Int) : p op := by
 rcases Int.lt_or_le op 0 with h1 | h1
 ·exact hlo op h1
 rcases Int.lt_or_le 29 op with h2 | h2
 ·exact hhi op h2
 ·refine h op ?_
  simp only [opsAll, List.mem_cons, List.not_mem_nil, or_false]
  omega
theorem ops_all {p : Int → Prop} (h0 : p 0) (h1 : p 1) (h2 : p 2) (h3 : p 3) (h4 : p 4) (h5 : p 5) (h6 : p 6) (h7 : p 7) (h8 : p 8) (h9 : p 9) (h10 : p 10) (h11 : p 11) (h12 : p 12) (h13 : p 13) (h14 : p 14) (h15 : p 15) (h16 : p 16) (h17 : p 17) (h18 : p 18) (h19 : p 19) (h20 : p 20) (h21 : p 21) (h22 : p 22) (h23 : p 23) (h24 : p 24) (h25 : p 25) (h26 : p 26) (h27 : p 27) (h28 : p 28) (h29 : p 29) : ∀ op ∈ opsAll, p op := by
 intro op hop
 simp only [opsAll, List.mem_cons, List.not_mem_nil, or_false] at hop
 rcases hop with rfl | rfl | rfl | rfl | rfl | rfl | rfl | rfl | rfl | rfl | rfl | rfl | rfl | rfl | rfl | rfl | rfl | rfl | rfl | rfl | rfl | rfl | rfl | rfl | rfl | rfl | rfl | rfl | rfl | rfl <;> assumption
theorem uses_out (op : Int) (h : op < 0 ∨ 29 < op) : usesS op = (false, false, false) := by
 unfold usesS
 rw [if_neg (by omega), if_neg (by omega), if_neg (by omega), if_neg (by omega), if_neg (by omega)]
theorem known_any (op : Int) (w : World) :
  Calls Tryz.prog 150 #[.int .i64 op] w fun e w' => e = .returned (.bool (knownS op)) ∧ w = w' := by
 unfold knownS
 go_enter Tryz.func150, Tryz.ntmps150
 go_wp2
 all_goals
  go_ret
  exact ⟨by simp [*]; try omega, rfl⟩
def UsesSaid (w : World) (op : Int) : Prop := Calls Tryz.prog 148 #[.int .i64 op] w fun e w' => e = .returned (.tuple #[.bool (usesS op).1, .bool (usesS op).2.1, .bool (usesS op).2.2]) ∧ w = w'
set_option maxHeartbeats 4000000 in
theorem uses_in (w : World) : ∀ op ∈ opsAll, UsesSaid w op := by
 apply ops_all <;> (unfold UsesSaid; go_enter Tryz.func148, Tryz.ntmps148; go_wp2; go_ret3; exact ⟨rfl, rfl⟩)
theorem uses_any (w : World) (op : Int) : UsesSaid w op := by
 refine op_cases (uses_in w) (fun op h => ?_) (fun op h => ?_) op
 all_goals
  unfold UsesSaid
  rw [uses_out op (by omega)]
  go_enter Tryz.func148, Tryz.ntmps148
  go_wp2
  go_ret3
  exact ⟨rfl, rfl⟩
end Go.Proofs.YthkhgihjigmkoaaGreat
