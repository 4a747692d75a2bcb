/- Plain functions of chapter 2 (numbers of 32 bits) and their laws. Nothing of the program stands here. Walks: package word and the reference's chapter 2: each function returns what the plain functions say. Walks: the reference's numbers; the laws' own 'alive'. Laws on memory that the walks share: bytes as a string, rows of cells. Nothing of the program stands here. -/
import Derived.WalkKit
import Derived.Handy
import Derived.Test.YtmmdppjbofbjhaaRows
import Derived.ProofKit
import Derived.OpenShut
import Derived.Lib.Hide
import Derived.WalkSpells
import Derived.Deep.Draws
namespace Go.Proofs.Ytmmdppjbofbjhaa
open Go.RowKit

theorem w32_bd (a : Int) : -2147483648 ≤ wrap32 a ∧ wrap32 a ≤ 2147483647 := by unfold wrap32; omega
theorem w32_in (a : Int) (h : -2147483648 ≤ a ∧ a ≤ 2147483647) : wrap32 a = a := by unfold wrap32; omega
theorem w32_w64 (a : Int) : wrap32 (wrap64 a) = wrap32 a := by unfold wrap64 wrap32; omega
theorem w64_w32 (a : Int) : wrap64 (wrap32 a) = wrap32 a := by unfold wrap64 wrap32; omega
theorem w32_w32 (a : Int) : wrap32 (wrap32 a) = wrap32 a := by unfold wrap32; omega
theorem of_plain (a : Int) : wrap64 (wrap32 (IntKind.u64.wrap a % 4294967296)) = wrap32 a := by
  rw [IntKind.wrap_u64]; unfold wrap64 wrap32; omega
theorem w32_congr {a b : Int} (h : a % 4294967296 = b % 4294967296) : wrap32 a = wrap32 b := by unfold wrap32; omega
theorem w32_mod (a : Int) : wrap32 a % 4294967296 = a % 4294967296 := by unfold wrap32; omega
theorem w32_inj {a b : Int} : wrap32 a = wrap32 b ↔ a % 4294967296 = b % 4294967296 :=
  ⟨fun h => by rw [← w32_mod a, ← w32_mod b, h], w32_congr⟩
theorem w32_add (a b : Int) : wrap32 (wrap32 a + wrap32 b) = wrap32 (a + b) := by unfold wrap32; omega
theorem w32_add_l (a b : Int) : wrap32 (wrap32 a + b) = wrap32 (a + b) := by unfold wrap32; omega
theorem w32_add_r (a b : Int) : wrap32 (a + wrap32 b) = wrap32 (a + b) := by unfold wrap32; omega
theorem w32_sub (a b : Int) : wrap32 (wrap32 a - wrap32 b) = wrap32 (a - b) := by unfold wrap32; omega
theorem w32_sub_l (a b : Int) : wrap32 (wrap32 a - b) = wrap32 (a - b) := by unfold wrap32; omega
theorem w32_mul (a b : Int) : wrap32 (wrap32 a * wrap32 b) = wrap32 (a * b) := by
  apply w32_congr; rw [Int.mul_emod, w32_mod, w32_mod, ← Int.mul_emod]
theorem w32_mul_l (a b : Int) : wrap32 (wrap32 a * b) = wrap32 (a * b) := by
  apply w32_congr; rw [Int.mul_emod, w32_mod, ← Int.mul_emod]
theorem w32_mul_r (a b : Int) : wrap32 (a * wrap32 b) = wrap32 (a * b) := by
  rw [Int.mul_comm, w32_mul_l, Int.mul_comm]

/-- how far is shifted -/
def shB (b : Int) : Nat := (wrap32 b % 32).toNat
theorem shB_lt (b : Int) : shB b < 32 := by unfold shB; omega
theorem and31 (x : Int) : bits .and .u64 (x % 4294967296) 31 = x % 32 := by
  have h := bits_mask .u64 64 (by decide) (fun n h0 h1 => by rw [IntKind.wrap_u64]; omega) 5 (by decide) (x % 4294967296) (by omega) (by omega)
  have : (2 : Int) ^ 5 - 1 = 31 := by decide
  rw [this] at h
  rw [h]; omega
theorem and31_sh (b : Int) : bits .and .u64 (wrap32 b % 4294967296) 31 = (shB b : Int) := by
  rw [and31]; unfold shB; omega
theorem i64_and31 (n : Int) : bits .and .i64 n 31 = n % 32 := by
  have h127 : (BitVec.ofInt 64 31).toNat = 2 ^ 5 - 1 := by decide
  have key : (BitVec.ofInt 64 n &&& BitVec.ofInt 64 31).toNat = (n % ((2 ^ 64 : Nat) : Int)).toNat % 2 ^ 5 := by
    rw [BitVec.toNat_and, BitVec.toNat_ofInt, h127, Nat.and_two_pow_sub_one_eq_mod]
  show IntKind.i64.wrap ((BitVec.ofInt 64 n &&& BitVec.ofInt 64 31).toNat : Nat) = n % 32
  rw [key, IntKind.wrap_i64]
  omega
theorem i64_and31_sh (b : Int) : bits .and .i64 (wrap32 b) 31 = (shB b : Int) := by
  rw [i64_and31]; unfold shB; omega
theorem i64_and32 (n : Int) : bits .and .i64 n 4294967295 = n % 4294967296 := by
  have h127 : (BitVec.ofInt 64 4294967295).toNat = 2 ^ 32 - 1 := by decide
  have key : (BitVec.ofInt 64 n &&& BitVec.ofInt 64 4294967295).toNat = (n % ((2 ^ 64 : Nat) : Int)).toNat % 2 ^ 32 := by
    rw [BitVec.toNat_and, BitVec.toNat_ofInt, h127, Nat.and_two_pow_sub_one_eq_mod]
  show IntKind.i64.wrap ((BitVec.ofInt 64 n &&& BitVec.ofInt 64 4294967295).toNat : Nat) = n % 4294967296
  rw [key, IntKind.wrap_i64]
  omega

def doV (op a b : Int) : Int × Bool :=
  if op = 3 then (wrap32 (a + b), true)
  else if op = 4 then (wrap32 (a - b), true)
  else if op = 5 then (wrap32 (a * b), true)
  else if op = 6 then (wrap32 (a * 2 ^ shB b), true)
  else if op = 7 then (wrap32 a / 2 ^ shB b, true)
  else if op = 8 then (if wrap32 a < wrap32 b then 1 else 0, true)
  else (0, false)

theorem shr_bd (a : Int) (k : Nat) : -2147483648 ≤ wrap32 a / 2 ^ k ∧ wrap32 a / 2 ^ k ≤ 2147483647 := by
  have := w32_bd a
  have hp : (0 : Int) < 2 ^ k := Int.pow_pos (by decide)
  constructor
  · rcases Int.lt_or_le (wrap32 a) 0 with h | h
    · rw [Int.le_ediv_iff_mul_le hp]
      have : (2147483648 : Int) * 1 ≤ 2147483648 * 2 ^ k := Int.mul_le_mul_of_nonneg_left (by omega) (by decide)
      omega
    · have := Int.ediv_nonneg h (Int.le_of_lt hp); omega
  · rcases Int.lt_or_le (wrap32 a) 0 with h | h
    · have := Int.ediv_neg_of_neg_of_pos h hp; omega
    · have := Int.ediv_le_self (2 ^ k) h; omega
/-- one round of the reference's shift to the left -/
theorem shl_round (a : Int) (k : Nat) : wrap32 (2 * wrap32 (a * 2 ^ k)) = wrap32 (a * 2 ^ (k + 1)) := by
  rw [w32_mul_r]
  have : 2 * (a * 2 ^ k) = a * 2 ^ (k + 1) := by
    rw [Int.pow_succ, Int.mul_left_comm, Int.mul_comm 2]
  rw [this]
/-- and of that to the right -/
theorem shr_round (a : Int) (k : Nat) : (a / 2 ^ k) / 2 = a / 2 ^ (k + 1) := by
  rw [Int.ediv_ediv_of_nonneg (Int.le_of_lt (Int.pow_pos (by decide))), Int.pow_succ]
theorem shr_neg (x : Int) (h : x < 0) : (x - 1).tdiv 2 = x / 2 := by
  rw [tdiv_eq_if]; split <;> omega
end Go.Proofs.Ytmmdppjbofbjhaa
namespace Go.Proofs.Ytmmdppjbofbjhaa
open Go.ChangeShapes Go.WideShapes Go.ChangeAt Go.RowKit

theorem of_any (a : Int) (w : World) :
    Calls Try.prog 24 #[.int .i64 a] w fun e w' => e = .returned (.int .i64 (wrap32 a)) ∧ w = w' := by
  go_enter Try.func24, Try.ntmps24
  go_wp2
  go_ret
  exact ⟨by simp [of_plain], rfl⟩

theorem do_any (op a b : Int) (w : World) :
    Calls Try.prog 23 #[.int .i64 op, .int .i64 a, .int .i64 b] w fun e w' => e = .returned (.tuple #[.int .i64 (doV op a b).1, .bool (doV op a b).2]) ∧ w = w' := by
  have hA := w32_bd a
  have hB := w32_bd b
  have hk := shB_lt b
  have hsh := shr_bd a (shB b)
  have h31 := and31_sh b
  have hP := w32_w32 a
  by_cases h3 : op = 3
  · subst h3
    go_enter Try.func23, Try.ntmps23
    go_wp2_with (first | (go_at_call 24; refine (of_any _ _).mono ?_; rintro e w' ⟨rfl, rfl⟩))
    go_ret2
    exact ⟨by simp [doV, w32_add], rfl⟩
  by_cases h4 : op = 4
  · subst h4
    go_enter Try.func23, Try.ntmps23
    go_wp2_with (first | (go_at_call 24; refine (of_any _ _).mono ?_; rintro e w' ⟨rfl, rfl⟩))
    go_ret2
    exact ⟨by simp [doV, w32_sub], rfl⟩
  by_cases h5 : op = 5
  · subst h5
    go_enter Try.func23, Try.ntmps23
    go_wp2_with (first | (go_at_call 24; refine (of_any _ _).mono ?_; rintro e w' ⟨rfl, rfl⟩))
    go_ret2
    exact ⟨by simp [doV, w32_w64, w32_mul], rfl⟩
  by_cases h6 : op = 6
  · subst h6
    go_enter Try.func23, Try.ntmps23
    go_wp2_with (first | (go_at_call 24; refine (of_any _ _).mono ?_; rintro e w' ⟨rfl, rfl⟩))
    go_ret2
    exact ⟨by simp [doV, w64_w32, w32_mul_l], rfl⟩
  by_cases h7 : op = 7
  · subst h7
    go_enter Try.func23, Try.ntmps23
    go_wp2_with (first | (go_at_call 24; refine (of_any _ _).mono ?_; rintro e w' ⟨rfl, rfl⟩))
    go_ret2
    exact ⟨by simp [doV], rfl⟩
  by_cases h8 : op = 8
  · subst h8
    go_enter Try.func23, Try.ntmps23
    go_wp2_with (first | (go_at_call 24; refine (of_any _ _).mono ?_; rintro e w' ⟨rfl, rfl⟩))
    all_goals
      go_ret2
      exact ⟨by simp [doV, *], rfl⟩
  · have g3 : (op == 3) = false := by simpa using h3
    have g4 : (op == 4) = false := by simpa using h4
    have g5 : (op == 5) = false := by simpa using h5
    have g6 : (op == 6) = false := by simpa using h6
    have g7 : (op == 7) = false := by simpa using h7
    have g8 : (op == 8) = false := by simpa using h8
    have hd : doV op a b = (0, false) := by simp [doV, h3, h4, h5, h6, h7, h8]
    rw [hd]
    clear hd
    go_enter Try.func23, Try.ntmps23
    go_wp2_with (first | (go_at_call 24; refine (of_any _ _).mono ?_; rintro e w' ⟨rfl, rfl⟩))
    go_ret2
    exact ⟨rfl, rfl⟩
end Go.Proofs.Ytmmdppjbofbjhaa
namespace Go.Proofs.Ytmmdppjbofbjhaa
open Go.ChangeShapes Go.WideShapes Go.ChangeAt Go.RowKit

theorem rof_any (a : Int) (w : World) :
    Calls Try.prog 26 #[.int .i64 a] w fun e w' => e = .returned (.int .i64 (wrap32 a)) ∧ w = w' := by
  have h1 := i64_and32 a
  have h2 : 0 ≤ a % 4294967296 ∧ a % 4294967296 < 4294967296 := by omega
  have hw : wrap32 a = if a % 4294967296 < 2147483648 then a % 4294967296 else a % 4294967296 - 4294967296 := by unfold wrap32; split <;> omega
  by_cases h : a % 4294967296 < 2147483648
  · rw [hw, if_pos h]; clear hw
    go_enter Try.func26, Try.ntmps26
    go_wp2
    go_ret
    exact ⟨rfl, rfl⟩
  · rw [hw, if_neg h]; clear hw
    go_enter Try.func26, Try.ntmps26
    go_wp2
    go_ret
    exact ⟨rfl, rfl⟩

theorem rdo_shl (a b : Int) (w : World) :
    Calls Try.prog 25 #[.int .i64 6, .int .i64 a, .int .i64 b] w fun e w' => e = .returned (.tuple #[.int .i64 (wrap32 (a * 2 ^ shB b)), .bool true]) ∧ w = w' := by
  have hk := shB_lt b
  have h31 := i64_and31_sh b
  go_enter Try.func25, Try.ntmps25
  go_wp2_with (first | (go_at_call 26; refine (rof_any _ _).mono ?_; rintro e w' ⟨rfl, rfl⟩))
  clear h31
  go_loop [1, 9] (fun x i => ∃ k : Nat, k ≤ shB b ∧ i = .int .i64 k ∧ x = .int .i64 (wrap32 (a * 2 ^ k))) (fun _ i => shB b - (intOf i).toNat)
  case atStart => exact ⟨0, Nat.zero_le _, rfl, by simp⟩
  case round =>
    obtain ⟨k, hk2, rfl, rfl⟩ := hrel
    have hbd := w32_bd (a * 2 ^ k)
    have hr := Lib.hid (shl_round a k)
    by_cases hlt : k < shB b
    · go_wp2_with (first | (go_at_call 26; refine (rof_any _ _).mono ?_; rintro e w' ⟨rfl, rfl⟩))
      go_round
      case rel => exact ⟨k + 1, by omega, by go_num, by rw [hr.out]⟩
      case measure => simp [intOf]; omega
    · go_wp2
      go_ret2
      have : k = shB b := by omega
      exact ⟨by rw [this]; rfl, rfl⟩

theorem rdo_shr (a b : Int) (w : World) :
    Calls Try.prog 25 #[.int .i64 7, .int .i64 a, .int .i64 b] w fun e w' => e = .returned (.tuple #[.int .i64 (wrap32 a / 2 ^ shB b), .bool true]) ∧ w = w' := by
  have hk := shB_lt b
  have h31 := i64_and31_sh b
  go_enter Try.func25, Try.ntmps25
  go_wp2_with (first | (go_at_call 26; refine (rof_any _ _).mono ?_; rintro e w' ⟨rfl, rfl⟩))
  clear h31
  go_loop [1, 10] (fun x i => ∃ k : Nat, k ≤ shB b ∧ i = .int .i64 k ∧ x = .int .i64 (wrap32 a / 2 ^ k)) (fun _ i => shB b - (intOf i).toNat)
  case atStart => exact ⟨0, Nat.zero_le _, rfl, by simp⟩
  case round =>
    obtain ⟨k, hk2, rfl, hx⟩ := hrel
    have hbd := shr_bd a k
    have hr := Lib.hid (shr_round (wrap32 a) k)
    obtain ⟨v, hv⟩ : ∃ v, v = wrap32 a / 2 ^ k := ⟨_, rfl⟩
    rw [← hv] at hx hbd hr
    subst hx
    have HV := Lib.hid hv; clear hv
    by_cases hlt : k < shB b
    · by_cases hn : v < 0
      · have hq := Lib.hid (shr_neg v hn)
        go_wp2
        go_round
        case rel => exact ⟨k + 1, by omega, by go_num, by rw [← hr.out]; first | rfl | rw [hq.out]⟩
        case measure => simp [intOf]; omega
      · go_wp2
        go_round
        case rel => exact ⟨k + 1, by omega, by go_num, by rw [← hr.out]⟩
        case measure => simp [intOf]; omega
    · go_wp2
      go_ret2
      have : k = shB b := by omega
      exact ⟨by rw [← this, ← HV.out]; rfl, rfl⟩

theorem rdo_any (op a b : Int) (w : World) :
    Calls Try.prog 25 #[.int .i64 op, .int .i64 a, .int .i64 b] w fun e w' => e = .returned (.tuple #[.int .i64 (doV op a b).1, .bool (doV op a b).2]) ∧ w = w' := by
  have hA := w32_bd a
  have hB := w32_bd b
  have h31 := i64_and31_sh b
  by_cases h3 : op = 3
  · subst h3
    go_enter Try.func25, Try.ntmps25
    go_wp2_with (first | (go_at_call 26; refine (rof_any _ _).mono ?_; rintro e w' ⟨rfl, rfl⟩))
    go_ret2
    exact ⟨by simp [doV, w32_add], rfl⟩
  by_cases h4 : op = 4
  · subst h4
    go_enter Try.func25, Try.ntmps25
    go_wp2_with (first | (go_at_call 26; refine (rof_any _ _).mono ?_; rintro e w' ⟨rfl, rfl⟩))
    go_ret2
    exact ⟨by simp [doV, w32_sub], rfl⟩
  by_cases h5 : op = 5
  · subst h5
    go_enter Try.func25, Try.ntmps25
    go_wp2_with (first | (go_at_call 26; refine (rof_any _ _).mono ?_; rintro e w' ⟨rfl, rfl⟩))
    go_ret2
    exact ⟨by simp [doV, w32_w64, w32_mul], rfl⟩
  by_cases h6 : op = 6
  · subst h6
    exact (rdo_shl a b w).mono fun e w' ⟨h, h'⟩ => ⟨by simp [doV, h], h'⟩
  by_cases h7 : op = 7
  · subst h7
    exact (rdo_shr a b w).mono fun e w' ⟨h, h'⟩ => ⟨by simp [doV, h], h'⟩
  by_cases h8 : op = 8
  · subst h8
    go_enter Try.func25, Try.ntmps25
    go_wp2_with (first | (go_at_call 26; refine (rof_any _ _).mono ?_; rintro e w' ⟨rfl, rfl⟩))
    all_goals
      go_ret2
      exact ⟨by simp [doV, *], rfl⟩
  · have g3 : (op == 3) = false := by simpa using h3
    have g4 : (op == 4) = false := by simpa using h4
    have g5 : (op == 5) = false := by simpa using h5
    have g6 : (op == 6) = false := by simpa using h6
    have g7 : (op == 7) = false := by simpa using h7
    have g8 : (op == 8) = false := by simpa using h8
    have hd : doV op a b = (0, false) := by simp [doV, h3, h4, h5, h6, h7, h8]
    rw [hd]
    clear hd
    go_enter Try.func25, Try.ntmps25
    go_wp2_with (first | (go_at_call 26; refine (rof_any _ _).mono ?_; rintro e w' ⟨rfl, rfl⟩))
    go_ret2
    exact ⟨rfl, rfl⟩

def heapB (v : Int) : Bool := decide (1048576 ≤ v) && decide (v < 1050624)
theorem heap_any (v : Int) (w : World) :
    Calls Try.prog 27 #[.int .i64 v] w fun e w' => e = .returned (.bool (heapB v)) ∧ w = w' := by
  unfold heapB
  go_enter Try.func27, Try.ntmps27
  go_wp2
  all_goals
    go_ret
    exact ⟨by simp [*]; try omega, rfl⟩
theorem rheap_any (v : Int) (w : World) :
    Calls Try.prog 28 #[.int .i64 v] w fun e w' => e = .returned (.bool (heapB v)) ∧ w = w' := by
  unfold heapB
  go_enter Try.func28, Try.ntmps28
  go_wp2
  all_goals
    go_ret
    exact ⟨by simp [*]; try omega, rfl⟩
theorem stack_any (v : Int) (w : World) :
    Calls Try.prog 29 #[.int .i64 v] w fun e w' => e = .returned (.bool (decide (1073741824 ≤ v))) ∧ w = w' := by
  go_enter Try.func29, Try.ntmps29
  go_wp2
  all_goals
    go_ret
    exact ⟨by simp [*], rfl⟩

theorem alive2 (w : World) :
    Calls Try.prog 22 #[] w fun e w' => e = .returned (.bool true) ∧ w = w' := by
  have e1 : doV 7 (-8) 33 = (-4, true) := by decide +kernel
  have d1 := do_any 7 (-8) 33
  rw [e1] at d1
  have e2 : wrap32 2147483648 = -2147483648 := by decide +kernel
  have o1 := of_any 2147483648
  rw [e2] at o1
  have e3 : heapB 1048576 = true := by decide +kernel
  have p1 := heap_any 1048576
  rw [e3] at p1
  have e4 : heapB 5 = false := by decide +kernel
  have p2 := heap_any 5
  rw [e4] at p2
  have D1 := Lib.hid d1; have O1 := Lib.hid o1; have P1 := Lib.hid p1; have P2 := Lib.hid p2
  clear d1 o1 p1 p2 e1 e2 e3 e4
  go_enter Try.func22, Try.ntmps22
  go_wp2_with fail
  refine (D1.out _).mono ?_
  rintro e w' ⟨rfl, rfl⟩
  go_wp2_with fail
  refine (O1.out _).mono ?_
  rintro e w' ⟨rfl, rfl⟩
  go_wp2_with fail
  refine (P1.out _).mono ?_
  rintro e w' ⟨rfl, rfl⟩
  go_wp2_with fail
  refine (P2.out _).mono ?_
  rintro e w' ⟨rfl, rfl⟩
  go_wp2_with fail
  go_ret
  exact ⟨rfl, rfl⟩
end Go.Proofs.Ytmmdppjbofbjhaa
namespace Go.Proofs.Ytmmdppjbofbjhaa
open Go.RowKit

/-- numbers as bytes -/
def bytesS (ns : List Int) : ByteArray := ⟨(ns.map fun n => UInt8.ofNat n.toNat).toArray⟩
theorem fold_push (ns : List Int) : ∀ (s : ByteArray), ns.foldl (fun r n => r.push (UInt8.ofNat n.toNat)) s = ⟨s.data ++ (ns.map fun n => UInt8.ofNat n.toNat).toArray⟩ := by
  induction ns with
  | nil => intro s; simp
  | cons n ns ih =>
    intro s
    rw [List.foldl_cons, ih]
    congr 1
    show s.data.push _ ++ _ = _
    apply Array.ext'
    simp
theorem run_str {P : Program} (w : World) (src dst e : TypeId) (a : Addr) (cap : Nat) (ns : List Int)
    (hs : P.underlying src = some (.slice e)) (he : P.underlying e = some (.int .u8)) (hd : P.underlying dst = some .string)
    (h : ∀ j v, (ns.map (Value.int .u8))[j]? = some v → w.cell? (a.add j) = some v) :
    (convert src dst (.slice (some a) ns.length cap)).run P w = .ok (.string (bytesS ns)) w := by
  rw [run_convert_bytes_string w src dst e _ _ _ hs he hd]
  have hl := run_loadCells_list (P := P) (w := w) a (ns.map (Value.int .u8)) h
  rw [List.length_map] at hl
  rw [run_bytesToString w a ns.length cap ns hl, fold_push]
  show Result.ok (Value.string ⟨#[] ++ _⟩) w = _
  simp [bytesS]
theorem heap_new (w : World) (o : Obj) : (w.alloc o).heap[w.heap.size]? = some o := by
  show (w.heap.push _)[w.heap.size]? = _
  simp
theorem cell_new (w : World) (c : Array Value) (t : TypeId) (fz : Nat × Nat) (j : Nat) : (w.alloc (.cells c t fz)).cell? ⟨w.heap.size, j, none⟩ = c[j]? := by
  unfold World.cell?
  rw [heap_new]
  rfl
theorem cell_under (w : World) (o : Obj) {p : Addr} (h : p.block < w.heap.size) : (w.alloc o).cell? p = w.cell? p :=
  World.cell?_of_block (w := w) (Below.heap_alloc w o _ h)
theorem below_drewN {B : Nat} {a w : World} (h : Below B a w) (n : Nat) : Below B a (w.drewN n) := h.trans ⟨rfl, rfl, rfl, Nat.le_refl _, fun _ _ => rfl⟩
/-- four new bytes as a string -/
theorem run_str4 {P : Program} (w : World) (src dst e : TypeId) (cap : Nat) (x0 x1 x2 x3 : Int) (t : TypeId)
    (hs : P.underlying src = some (.slice e)) (he : P.underlying e = some (.int .u8)) (hd : P.underlying dst = some .string) :
    (convert src dst (.slice (some ⟨w.heap.size, 0, none⟩) 4 cap)).run P (w.alloc (.cells #[.int .u8 x0, .int .u8 x1, .int .u8 x2, .int .u8 x3] t)) = .ok (.string (bytesS [x0, x1, x2, x3])) (w.alloc (.cells #[.int .u8 x0, .int .u8 x1, .int .u8 x2, .int .u8 x3] t)) := by
  refine run_str (P := P) _ src dst e _ cap [x0, x1, x2, x3] hs he hd ?_
  intro j v hv
  match j, hv with
  | 0, hv => show World.cell? _ ⟨w.heap.size, 0, none⟩ = _; rw [cell_new]; exact hv
  | 1, hv => show World.cell? _ ⟨w.heap.size, 1, none⟩ = _; rw [cell_new]; exact hv
  | 2, hv => show World.cell? _ ⟨w.heap.size, 2, none⟩ = _; rw [cell_new]; exact hv
  | 3, hv => show World.cell? _ ⟨w.heap.size, 3, none⟩ = _; rw [cell_new]; exact hv
end Go.Proofs.Ytmmdppjbofbjhaa
