/- Walks: the bytes of a number (package word and the reference). -/
import Derived.Test.YtmmdppjbofbjhaaWordB
import Derived.Test.YtmmdppjbofbjhaaRegion
import Derived.Laws.IdiomStrings
namespace Go.Proofs.Ytmmdppjbofbjhaa
open Go.ChangeShapes Go.WideShapes Go.ChangeAt Go.RowKit

/-- byte k of a number -/
def byteOf (v : Int) (k : Nat) : Int := v / 256 ^ k % 256
def bv (n : Int) : Value := .int .u8 n
/-- four bytes, of which k are laid -/
def laid4 (v : Int) (k : Nat) : Array Value := #[if 0 < k then bv (byteOf v 0) else bv 0, if 1 < k then bv (byteOf v 1) else bv 0, if 2 < k then bv (byteOf v 2) else bv 0, if 3 < k then bv (byteOf v 3) else bv 0]


theorem laid_0 (v : Int) : laid4 v 0 = #[.int .u8 0, .int .u8 0, .int .u8 0, .int .u8 0] := rfl
theorem laid_1 (v : Int) : laid4 v 1 = #[.int .u8 (byteOf v 0), .int .u8 0, .int .u8 0, .int .u8 0] := rfl
theorem laid_2 (v : Int) : laid4 v 2 = #[.int .u8 (byteOf v 0), .int .u8 (byteOf v 1), .int .u8 0, .int .u8 0] := rfl
theorem laid_3 (v : Int) : laid4 v 3 = #[.int .u8 (byteOf v 0), .int .u8 (byteOf v 1), .int .u8 (byteOf v 2), .int .u8 0] := rfl
theorem laid_4 (v : Int) : laid4 v 4 = #[.int .u8 (byteOf v 0), .int .u8 (byteOf v 1), .int .u8 (byteOf v 2), .int .u8 (byteOf v 3)] := rfl
theorem byte_0 (v : Int) : byteOf v 0 = wrap32 v % 256 := by unfold byteOf wrap32; omega
theorem byte_1 (v : Int) : byteOf v 1 = wrap32 v % 4294967296 / 256 % 256 := by unfold byteOf wrap32; omega
theorem byte_2 (v : Int) : byteOf v 2 = wrap32 v % 4294967296 / 65536 % 256 := by unfold byteOf wrap32; omega
theorem byte_3 (v : Int) : byteOf v 3 = wrap32 v % 4294967296 / 16777216 := by unfold byteOf wrap32; omega

set_option maxHeartbeats 1600000 in
theorem bytes_any (v : Int) (w : World) :
    Calls Try.prog 30 #[.int .i64 v] w fun e w' => e = .returned (.slice (some ⟨w.heap.size, 0, none⟩) 4 4) ∧ w' = w.alloc (.cells (laid4 v 4) 5) := by
  have hb := w32_bd v
  have hmk : ∀ w, (Instr.makeSlice 29 (.int .i64 4) (.int .i64 4)).run Try.prog w = .ok (.slice (some ⟨w.heap.size, 0, none⟩) 4 4) (w.alloc (.cells #[.int .u8 0, .int .u8 0, .int .u8 0, .int .u8 0] 5)) := fun _ => by kernel_rfl
  go_enter Try.func30, Try.ntmps30
  go_wp2_with (first | (go_at_call 24; refine (of_any _ _).mono ?_; rintro e w' ⟨rfl, rfl⟩))
  go_loopw [13] (fun i wr => ∃ k : Nat, k ≤ 4 ∧ i = .int .i64 k ∧ wr = w.alloc (.cells (laid4 v k) 5)) (fun i _ => 4 - (intOf i).toNat)
  case atStart => exact ⟨0, by omega, rfl, rfl⟩
  case round =>
    obtain ⟨k, hk, rfl, rfl⟩ := hrel
    have hc : k = 0 ∨ k = 1 ∨ k = 2 ∨ k = 3 ∨ k = 4 := by omega
    rcases hc with rfl | rfl | rfl | rfl | rfl
    · rw [laid_0]
      go_wp2
      go_roundw
      case rel => exact ⟨1, by omega, rfl, by rw [laid_1, byte_0]⟩
      case measure => simp [intOf]
    · rw [laid_1]
      go_wp2
      go_roundw
      case rel => exact ⟨2, by omega, rfl, by rw [laid_2, byte_1]⟩
      case measure => simp [intOf]
    · rw [laid_2]
      go_wp2
      go_roundw
      case rel => exact ⟨3, by omega, rfl, by rw [laid_3, byte_2]⟩
      case measure => simp [intOf]
    · rw [laid_3]
      go_wp2
      go_roundw
      case rel => exact ⟨4, by omega, rfl, by rw [laid_4, byte_3]⟩
      case measure => simp [intOf]
    · go_wp2
      go_ret
      exact ⟨rfl, rfl⟩


/-- the four bytes of a number, as a string -/
def bytes4 (v : Int) : ByteArray := bytesS [byteOf v 0, byteOf v 1, byteOf v 2, byteOf v 3]
theorem bs_0 (v : Int) : byteOf v 0 = v % 256 := by unfold byteOf; omega
theorem bs_1 (v : Int) : byteOf v 1 = v % 4294967296 / 256 % 256 := by unfold byteOf; omega
theorem bs_2 (v : Int) : byteOf v 2 = v % 4294967296 / 65536 % 256 := by unfold byteOf; omega
theorem bs_3 (v : Int) : byteOf v 3 = v % 4294967296 / 16777216 % 256 := by unfold byteOf; omega
/-- the reference's bytes lie in a new block -/
def byteBlock (v : Int) : Obj := .cells #[.int .u8 (byteOf v 0), .int .u8 (byteOf v 1), .int .u8 (byteOf v 2), .int .u8 (byteOf v 3)] 5
set_option maxHeartbeats 1600000 in
theorem rbytes_any (v : Int) (w : World) :
    Calls Try.prog 32 #[.int .i64 v] w fun e w' => e = .returned (.string (bytes4 v)) ∧ w' = w.alloc (byteBlock v) := by
  have h32 := i64_and32 v
  have h0 : 0 ≤ v % 4294967296 := by omega
  have hcv := fun (w : World) x0 x1 x2 x3 => run_str4 (P := Try.prog) w 29 9 5 4 x0 x1 x2 x3 5 Try.underlying29 Try.underlying5 Try.underlying9
  go_enter Try.func32, Try.ntmps32
  go_wp2
  go_ret
  exact ⟨by unfold bytes4; rw [bs_0, bs_1, bs_2, bs_3]; rfl, by unfold byteBlock; rw [bs_0, bs_1, bs_2, bs_3]⟩

theorem or_join (x y : Int) (i : Nat) (hx0 : 0 ≤ x) (hx : x < 2 ^ i) (hx1 : x < 2 ^ 32) (hy0 : 0 ≤ y) (hy : y % 2 ^ i = 0) (hy1 : y < 2 ^ 32) : bits .or .u32 x y = x + y := by
  have hc : bits .or .u32 x y = bits .or .u32 y x := by simp only [bits, BitVec.or_comm]
  rw [hc, bits_join .u32 32 (by decide) (fun n h0 h1 => by rw [IntKind.wrap_u32]; omega) i y x hy0 hy hy1 hx0 hx hx1]
  omega
/-- the number of four bytes -/
def readV (b0 b1 b2 b3 : Int) : Int := wrap32 (b0 + 256 * b1 + 65536 * b2 + 16777216 * b3)
def partV (b0 b1 b2 b3 : Int) (k : Nat) : Int := if k = 0 then 0 else if k = 1 then b0 else if k = 2 then b0 + 256 * b1 else if k = 3 then b0 + 256 * b1 + 65536 * b2 else b0 + 256 * b1 + 65536 * b2 + 16777216 * b3

theorem read_short (a : Option Addr) (n c : Nat) (w : World) (h : n < 4) :
    Calls Try.prog 31 #[.slice a n c] w fun e w' => e = .returned (.tuple #[.int .i64 0, .bool false]) ∧ w = w' := by
  go_enter Try.func31, Try.ntmps31
  go_wp2
  go_ret2
  exact ⟨rfl, rfl⟩

set_option maxHeartbeats 1600000 in
theorem read_any (b o n c : Nat) (w : World) (b0 b1 b2 b3 : Int) (hn : 4 ≤ n) (hn2 : n ≤ 9223372036854775807)
    (hb : 0 ≤ b0 ∧ b0 < 256 ∧ 0 ≤ b1 ∧ b1 < 256 ∧ 0 ≤ b2 ∧ b2 < 256 ∧ 0 ≤ b3 ∧ b3 < 256)
    (c0 : w.cell? ⟨b, o, none⟩ = some (.int .u8 b0)) (c1 : w.cell? ⟨b, o + 1, none⟩ = some (.int .u8 b1)) (c2 : w.cell? ⟨b, o + 2, none⟩ = some (.int .u8 b2)) (c3 : w.cell? ⟨b, o + 3, none⟩ = some (.int .u8 b3)) :
    Calls Try.prog 31 #[.slice (some ⟨b, o, none⟩) n c] w fun e w' => e = .returned (.tuple #[.int .i64 (readV b0 b1 b2 b3), .bool true]) ∧ w = w' := by
  have j0 : bits .or .u32 0 b0 = b0 := by rw [or_join 0 b0 0 (by omega) (by omega) (by omega) (by omega) (by omega) (by omega)]; omega
  have j1 : bits .or .u32 b0 (b1 * 256) = b0 + 256 * b1 := by rw [or_join b0 _ 8 (by omega) (by omega) (by omega) (by omega) (by omega) (by omega)]; omega
  have j2 : bits .or .u32 (b0 + 256 * b1) (b2 * 65536) = b0 + 256 * b1 + 65536 * b2 := by rw [or_join _ _ 16 (by omega) (by omega) (by omega) (by omega) (by omega) (by omega)]; omega
  have j3 : bits .or .u32 (b0 + 256 * b1 + 65536 * b2) (b3 * 16777216) = b0 + 256 * b1 + 65536 * b2 + 16777216 * b3 := by rw [or_join _ _ 24 (by omega) (by omega) (by omega) (by omega) (by omega) (by omega)]; omega
  go_enter Try.func31, Try.ntmps31
  go_wp2
  go_loop [4, 9] (fun u i => ∃ k : Nat, k ≤ 4 ∧ i = .int .i64 k ∧ u = .int .u32 (partV b0 b1 b2 b3 k)) (fun _ i => 4 - (intOf i).toNat)
  case atStart => exact ⟨0, by omega, rfl, rfl⟩
  case round =>
    obtain ⟨k, hk, rfl, rfl⟩ := hrel
    have hc : k = 0 ∨ k = 1 ∨ k = 2 ∨ k = 3 ∨ k = 4 := by omega
    rcases hc with rfl | rfl | rfl | rfl | rfl
    · rw [show partV b0 b1 b2 b3 0 = 0 from rfl]
      go_wp2
      go_round
      case rel => exact ⟨1, by omega, rfl, rfl⟩
      case measure => simp [intOf]
    · rw [show partV b0 b1 b2 b3 1 = b0 from rfl]
      go_wp2
      go_round
      case rel => exact ⟨2, by omega, rfl, rfl⟩
      case measure => simp [intOf]
    · rw [show partV b0 b1 b2 b3 2 = b0 + 256 * b1 from rfl]
      go_wp2
      go_round
      case rel => exact ⟨3, by omega, rfl, rfl⟩
      case measure => simp [intOf]
    · rw [show partV b0 b1 b2 b3 3 = b0 + 256 * b1 + 65536 * b2 from rfl]
      go_wp2
      go_round
      case rel => exact ⟨4, by omega, rfl, rfl⟩
      case measure => simp [intOf]
    · rw [show partV b0 b1 b2 b3 4 = b0 + 256 * b1 + 65536 * b2 + 16777216 * b3 from rfl]
      go_wp2
      go_ret2
      exact ⟨by simp [readV, w64_w32], rfl⟩
theorem read_bytes (v : Int) : readV (byteOf v 0) (byteOf v 1) (byteOf v 2) (byteOf v 3) = wrap32 v := by
  unfold readV byteOf
  unfold wrap32
  omega
theorem rword_any (s : ByteArray) (h4 : s.size = 4) (w : World) :
    Calls Try.prog 33 #[.string s] w fun e w' => e = .returned (.int .i64 (readV (s[0].toNat) (s[1].toNat) (s[2].toNat) (s[3].toNat))) ∧ ∃ n, w' = w.drewN n := by
  have b0 := s[0].toNat_lt
  have b1 := s[1].toNat_lt
  have b2 := s[2].toNat_lt
  have b3 := s[3].toNat_lt
  have l0 : 0 < s.size := by omega
  have l1 : 1 < s.size := by omega
  have l2 : 2 < s.size := by omega
  have l3 : 3 < s.size := by omega
  have h4 := Lib.hid h4
  go_enter Try.func33, Try.ntmps33
  go_wp2_with fail
  go_quiet ((go_at_call 26; exact Calls.quiet_of_same ((rof_any _ _).mono fun _ _ ⟨a, b⟩ => ⟨a, b.symm⟩)))
  go_wp2
  go_ret
  exact ⟨rfl, nq, rfl⟩

theorem bytesRow_get (s : ByteArray) (cap j : Nat) (h : j < s.size) : (bytesRow s cap)[j]? = some (.int .u8 (s[j]).toNat) := by
  unfold bytesRow
  rw [Array.getElem?_append_left (by simpa using h)]
  simp [h]
  rfl

theorem conv_bytes (w : World) (s : ByteArray) : ∃ c W1, (convert 9 29 (.string s)).run Try.prog w = .ok (.slice (some ⟨w.heap.size, 0, none⟩) s.size c) W1
    ∧ Below w.heap.size w W1 ∧ ∀ j (h : j < s.size), W1.cell? ⟨w.heap.size, j, none⟩ = some (.int .u8 (s[j]).toNat) := by
  refine ⟨_, _, run_bytes_of_string w 9 29 5 s Try.underlying9 Try.underlying29 Try.underlying5, ?_, fun j h => ?_⟩
  · exact ((Below.refl _ _).drew).alloc (Nat.le_refl _) _
  · have e : w.heap.size = w.drew.heap.size := rfl
    rw [e, cell_new]
    exact bytesRow_get s _ j h
end Go.Proofs.Ytmmdppjbofbjhaa
