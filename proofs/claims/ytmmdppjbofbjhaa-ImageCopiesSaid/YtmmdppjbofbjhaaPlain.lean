/- Plain functions of chapter 2 (numbers of 32 bits) and their laws. Nothing of the program stands here. -/
import Derived.WalkKit
import Derived.Handy
namespace Go.Proofs.Ytmmdppjbofbjhaa
open Go.RowKit

theorem w32_bd (a : Int) : -2147483648 ≤ wrap32 a ∧ wrap32 a ≤ 2147483647 := by unfold wrap32; omega
theorem w32_in (a : Int) (h : -2147483648 ≤ a ∧ a ≤ 2147483647) : wrap32 a = a := by unfold wrap32; omega
theorem w32_w64 (a : Int) : wrap32 (wrap64 a) = wrap32 a := by unfold wrap64 wrap32; omega
theorem w64_w32 (a : Int) : wrap64 (wrap32 a) = wrap32 a := by unfold wrap64 wrap32; omega
theorem w32_w32 (a : Int) : wrap32 (wrap32 a) = wrap32 a := by unfold wrap32; omega
theorem of_plain (a : Int) : wrap64 (wrap32 (IntKind.u64.wrap a % 4294967296)) = wrap32 a := by
  rw [IntKind.wrap_u64]; unfold wrap64 wrap32; omega
theorem w32_congr {a b : Int} (h : a % 4294967296 = b % 4294967296) : wrap32 a = wrap32 b := by unfold wrap32; omega
theorem w32_mod (a : Int) : wrap32 a % 4294967296 = a % 4294967296 := by unfold wrap32; omega
theorem w32_inj {a b : Int} : wrap32 a = wrap32 b ↔ a % 4294967296 = b % 4294967296 :=
  ⟨fun h => by rw [← w32_mod a, ← w32_mod b, h], w32_congr⟩
theorem w32_add (a b : Int) : wrap32 (wrap32 a + wrap32 b) = wrap32 (a + b) := by unfold wrap32; omega
theorem w32_add_l (a b : Int) : wrap32 (wrap32 a + b) = wrap32 (a + b) := by unfold wrap32; omega
theorem w32_add_r (a b : Int) : wrap32 (a + wrap32 b) = wrap32 (a + b) := by unfold wrap32; omega
theorem w32_sub (a b : Int) : wrap32 (wrap32 a - wrap32 b) = wrap32 (a - b) := by unfold wrap32; omega
theorem w32_sub_l (a b : Int) : wrap32 (wrap32 a - b) = wrap32 (a - b) := by unfold wrap32; omega
theorem w32_mul (a b : Int) : wrap32 (wrap32 a * wrap32 b) = wrap32 (a * b) := by
  apply w32_congr; rw [Int.mul_emod, w32_mod, w32_mod, ← Int.mul_emod]
theorem w32_mul_l (a b : Int) : wrap32 (wrap32 a * b) = wrap32 (a * b) := by
  apply w32_congr; rw [Int.mul_emod, w32_mod, ← Int.mul_emod]
theorem w32_mul_r (a b : Int) : wrap32 (a * wrap32 b) = wrap32 (a * b) := by
  rw [Int.mul_comm, w32_mul_l, Int.mul_comm]

/-- how far is shifted -/
def shB (b : Int) : Nat := (wrap32 b % 32).toNat
theorem shB_lt (b : Int) : shB b < 32 := by unfold shB; omega
theorem and31 (x : Int) : bits .and .u64 (x % 4294967296) 31 = x % 32 := by
  have h := bits_mask .u64 64 (by decide) (fun n h0 h1 => by rw [IntKind.wrap_u64]; omega) 5 (by decide) (x % 4294967296) (by omega) (by omega)
  have : (2 : Int) ^ 5 - 1 = 31 := by decide
  rw [this] at h
  rw [h]; omega
theorem and31_sh (b : Int) : bits .and .u64 (wrap32 b % 4294967296) 31 = (shB b : Int) := by
  rw [and31]; unfold shB; omega
theorem i64_and31 (n : Int) : bits .and .i64 n 31 = n % 32 := by
  have h127 : (BitVec.ofInt 64 31).toNat = 2 ^ 5 - 1 := by decide
  have key : (BitVec.ofInt 64 n &&& BitVec.ofInt 64 31).toNat = (n % ((2 ^ 64 : Nat) : Int)).toNat % 2 ^ 5 := by
    rw [BitVec.toNat_and, BitVec.toNat_ofInt, h127, Nat.and_two_pow_sub_one_eq_mod]
  show IntKind.i64.wrap ((BitVec.ofInt 64 n &&& BitVec.ofInt 64 31).toNat : Nat) = n % 32
  rw [key, IntKind.wrap_i64]
  omega
theorem i64_and31_sh (b : Int) : bits .and .i64 (wrap32 b) 31 = (shB b : Int) := by
  rw [i64_and31]; unfold shB; omega
theorem i64_and32 (n : Int) : bits .and .i64 n 4294967295 = n % 4294967296 := by
  have h127 : (BitVec.ofInt 64 4294967295).toNat = 2 ^ 32 - 1 := by decide
  have key : (BitVec.ofInt 64 n &&& BitVec.ofInt 64 4294967295).toNat = (n % ((2 ^ 64 : Nat) : Int)).toNat % 2 ^ 32 := by
    rw [BitVec.toNat_and, BitVec.toNat_ofInt, h127, Nat.and_two_pow_sub_one_eq_mod]
  show IntKind.i64.wrap ((BitVec.ofInt 64 n &&& BitVec.ofInt 64 4294967295).toNat : Nat) = n % 4294967296
  rw [key, IntKind.wrap_i64]
  omega

def doV (op a b : Int) : Int × Bool :=
  if op = 3 then (wrap32 (a + b), true)
  else if op = 4 then (wrap32 (a - b), true)
  else if op = 5 then (wrap32 (a * b), true)
  else if op = 6 then (wrap32 (a * 2 ^ shB b), true)
  else if op = 7 then (wrap32 a / 2 ^ shB b, true)
  else if op = 8 then (if wrap32 a < wrap32 b then 1 else 0, true)
  else (0, false)

theorem shr_bd (a : Int) (k : Nat) : -2147483648 ≤ wrap32 a / 2 ^ k ∧ wrap32 a / 2 ^ k ≤ 2147483647 := by
  have := w32_bd a
  have hp : (0 : Int) < 2 ^ k := Int.pow_pos (by decide)
  constructor
  · rcases Int.lt_or_le (wrap32 a) 0 with h | h
    · rw [Int.le_ediv_iff_mul_le hp]
      have : (2147483648 : Int) * 1 ≤ 2147483648 * 2 ^ k := Int.mul_le_mul_of_nonneg_left (by omega) (by decide)
      omega
    · have := Int.ediv_nonneg h (Int.le_of_lt hp); omega
  · rcases Int.lt_or_le (wrap32 a) 0 with h | h
    · have := Int.ediv_neg_of_neg_of_pos h hp; omega
    · have := Int.ediv_le_self (2 ^ k) h; omega
/-- one round of the reference's shift to the left -/
theorem shl_round (a : Int) (k : Nat) : wrap32 (2 * wrap32 (a * 2 ^ k)) = wrap32 (a * 2 ^ (k + 1)) := by
  rw [w32_mul_r]
  have : 2 * (a * 2 ^ k) = a * 2 ^ (k + 1) := by
    rw [Int.pow_succ, Int.mul_left_comm, Int.mul_comm 2]
  rw [this]
/-- and of that to the right -/
theorem shr_round (a : Int) (k : Nat) : (a / 2 ^ k) / 2 = a / 2 ^ (k + 1) := by
  rw [Int.ediv_ediv_of_nonneg (Int.le_of_lt (Int.pow_pos (by decide))), Int.pow_succ]
theorem shr_neg (x : Int) (h : x < 0) : (x - 1).tdiv 2 = x / 2 := by
  rw [tdiv_eq_if]; split <;> omega
end Go.Proofs.Ytmmdppjbofbjhaa
