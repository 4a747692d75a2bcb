/- Walks: the bytes of a number (package word and the reference). Slices: what they read as, and what one owns. Nothing of the program stands here. The element types: bytes, numbers, instructions. Walk: instr.Lay. -/
import Derived.Test.YtmmdppjbofbjhaaEAa
import Derived.Test.YtmmdppjbofbjhaaEAb
import Derived.Laws.IdiomStrings
namespace Go.Proofs.Ytmmdppjbofbjhaa
open Go.ChangeShapes Go.WideShapes Go.ChangeAt Go.RowKit

/-- byte k of a number -/
def byteOf (v : Int) (k : Nat) : Int := v / 256 ^ k % 256
def bv (n : Int) : Value := .int .u8 n
/-- four bytes, of which k are laid -/
def laid4 (v : Int) (k : Nat) : Array Value := #[if 0 < k then bv (byteOf v 0) else bv 0, if 1 < k then bv (byteOf v 1) else bv 0, if 2 < k then bv (byteOf v 2) else bv 0, if 3 < k then bv (byteOf v 3) else bv 0]


theorem laid_0 (v : Int) : laid4 v 0 = #[.int .u8 0, .int .u8 0, .int .u8 0, .int .u8 0] := rfl
theorem laid_1 (v : Int) : laid4 v 1 = #[.int .u8 (byteOf v 0), .int .u8 0, .int .u8 0, .int .u8 0] := rfl
theorem laid_2 (v : Int) : laid4 v 2 = #[.int .u8 (byteOf v 0), .int .u8 (byteOf v 1), .int .u8 0, .int .u8 0] := rfl
theorem laid_3 (v : Int) : laid4 v 3 = #[.int .u8 (byteOf v 0), .int .u8 (byteOf v 1), .int .u8 (byteOf v 2), .int .u8 0] := rfl
theorem laid_4 (v : Int) : laid4 v 4 = #[.int .u8 (byteOf v 0), .int .u8 (byteOf v 1), .int .u8 (byteOf v 2), .int .u8 (byteOf v 3)] := rfl
theorem byte_0 (v : Int) : byteOf v 0 = wrap32 v % 256 := by unfold byteOf wrap32; omega
theorem byte_1 (v : Int) : byteOf v 1 = wrap32 v % 4294967296 / 256 % 256 := by unfold byteOf wrap32; omega
theorem byte_2 (v : Int) : byteOf v 2 = wrap32 v % 4294967296 / 65536 % 256 := by unfold byteOf wrap32; omega
theorem byte_3 (v : Int) : byteOf v 3 = wrap32 v % 4294967296 / 16777216 := by unfold byteOf wrap32; omega

set_option maxHeartbeats 1600000 in
theorem bytes_any (v : Int) (w : World) :
    Calls Try.prog 30 #[.int .i64 v] w fun e w' => e = .returned (.slice (some ⟨w.heap.size, 0, none⟩) 4 4) ∧ w' = w.alloc (.cells (laid4 v 4) 5) := by
  have hb := w32_bd v
  have hmk : ∀ w, (Instr.makeSlice 29 (.int .i64 4) (.int .i64 4)).run Try.prog w = .ok (.slice (some ⟨w.heap.size, 0, none⟩) 4 4) (w.alloc (.cells #[.int .u8 0, .int .u8 0, .int .u8 0, .int .u8 0] 5)) := fun _ => by kernel_rfl
  go_enter Try.func30, Try.ntmps30
  go_wp2_with (first | (go_at_call 24; refine (of_any _ _).mono ?_; rintro e w' ⟨rfl, rfl⟩))
  go_loopw [13] (fun i wr => ∃ k : Nat, k ≤ 4 ∧ i = .int .i64 k ∧ wr = w.alloc (.cells (laid4 v k) 5)) (fun i _ => 4 - (intOf i).toNat)
  case atStart => exact ⟨0, by omega, rfl, rfl⟩
  case round =>
    obtain ⟨k, hk, rfl, rfl⟩ := hrel
    have hc : k = 0 ∨ k = 1 ∨ k = 2 ∨ k = 3 ∨ k = 4 := by omega
    rcases hc with rfl | rfl | rfl | rfl | rfl
    · rw [laid_0]
      go_wp2
      go_roundw
      case rel => exact ⟨1, by omega, rfl, by rw [laid_1, byte_0]⟩
      case measure => simp [intOf]
    · rw [laid_1]
      go_wp2
      go_roundw
      case rel => exact ⟨2, by omega, rfl, by rw [laid_2, byte_1]⟩
      case measure => simp [intOf]
    · rw [laid_2]
      go_wp2
      go_roundw
      case rel => exact ⟨3, by omega, rfl, by rw [laid_3, byte_2]⟩
      case measure => simp [intOf]
    · rw [laid_3]
      go_wp2
      go_roundw
      case rel => exact ⟨4, by omega, rfl, by rw [laid_4, byte_3]⟩
      case measure => simp [intOf]
    · go_wp2
      go_ret
      exact ⟨rfl, rfl⟩


/-- the four bytes of a number, as a string -/
def bytes4 (v : Int) : ByteArray := bytesS [byteOf v 0, byteOf v 1, byteOf v 2, byteOf v 3]
theorem bs_0 (v : Int) : byteOf v 0 = v % 256 := by unfold byteOf; omega
theorem bs_1 (v : Int) : byteOf v 1 = v % 4294967296 / 256 % 256 := by unfold byteOf; omega
theorem bs_2 (v : Int) : byteOf v 2 = v % 4294967296 / 65536 % 256 := by unfold byteOf; omega
theorem bs_3 (v : Int) : byteOf v 3 = v % 4294967296 / 16777216 % 256 := by unfold byteOf; omega
/-- the reference's bytes lie in a new block -/
def byteBlock (v : Int) : Obj := .cells #[.int .u8 (byteOf v 0), .int .u8 (byteOf v 1), .int .u8 (byteOf v 2), .int .u8 (byteOf v 3)] 5
set_option maxHeartbeats 1600000 in
theorem rbytes_any (v : Int) (w : World) :
    Calls Try.prog 32 #[.int .i64 v] w fun e w' => e = .returned (.string (bytes4 v)) ∧ w' = w.alloc (byteBlock v) := by
  have h32 := i64_and32 v
  have h0 : 0 ≤ v % 4294967296 := by omega
  have hcv := fun (w : World) x0 x1 x2 x3 => run_str4 (P := Try.prog) w 29 9 5 4 x0 x1 x2 x3 5 Try.underlying29 Try.underlying5 Try.underlying9
  go_enter Try.func32, Try.ntmps32
  go_wp2
  go_ret
  exact ⟨by unfold bytes4; rw [bs_0, bs_1, bs_2, bs_3]; rfl, by unfold byteBlock; rw [bs_0, bs_1, bs_2, bs_3]⟩

theorem or_join (x y : Int) (i : Nat) (hx0 : 0 ≤ x) (hx : x < 2 ^ i) (hx1 : x < 2 ^ 32) (hy0 : 0 ≤ y) (hy : y % 2 ^ i = 0) (hy1 : y < 2 ^ 32) : bits .or .u32 x y = x + y := by
  have hc : bits .or .u32 x y = bits .or .u32 y x := by simp only [bits, BitVec.or_comm]
  rw [hc, bits_join .u32 32 (by decide) (fun n h0 h1 => by rw [IntKind.wrap_u32]; omega) i y x hy0 hy hy1 hx0 hx hx1]
  omega
/-- the number of four bytes -/
def readV (b0 b1 b2 b3 : Int) : Int := wrap32 (b0 + 256 * b1 + 65536 * b2 + 16777216 * b3)
def partV (b0 b1 b2 b3 : Int) (k : Nat) : Int := if k = 0 then 0 else if k = 1 then b0 else if k = 2 then b0 + 256 * b1 else if k = 3 then b0 + 256 * b1 + 65536 * b2 else b0 + 256 * b1 + 65536 * b2 + 16777216 * b3

theorem read_short (a : Option Addr) (n c : Nat) (w : World) (h : n < 4) :
    Calls Try.prog 31 #[.slice a n c] w fun e w' => e = .returned (.tuple #[.int .i64 0, .bool false]) ∧ w = w' := by
  go_enter Try.func31, Try.ntmps31
  go_wp2
  go_ret2
  exact ⟨rfl, rfl⟩

set_option maxHeartbeats 1600000 in
theorem read_any (b o n c : Nat) (w : World) (b0 b1 b2 b3 : Int) (hn : 4 ≤ n) (hn2 : n ≤ 9223372036854775807)
    (hb : 0 ≤ b0 ∧ b0 < 256 ∧ 0 ≤ b1 ∧ b1 < 256 ∧ 0 ≤ b2 ∧ b2 < 256 ∧ 0 ≤ b3 ∧ b3 < 256)
    (c0 : w.cell? ⟨b, o, none⟩ = some (.int .u8 b0)) (c1 : w.cell? ⟨b, o + 1, none⟩ = some (.int .u8 b1)) (c2 : w.cell? ⟨b, o + 2, none⟩ = some (.int .u8 b2)) (c3 : w.cell? ⟨b, o + 3, none⟩ = some (.int .u8 b3)) :
    Calls Try.prog 31 #[.slice (some ⟨b, o, none⟩) n c] w fun e w' => e = .returned (.tuple #[.int .i64 (readV b0 b1 b2 b3), .bool true]) ∧ w = w' := by
  have j0 : bits .or .u32 0 b0 = b0 := by rw [or_join 0 b0 0 (by omega) (by omega) (by omega) (by omega) (by omega) (by omega)]; omega
  have j1 : bits .or .u32 b0 (b1 * 256) = b0 + 256 * b1 := by rw [or_join b0 _ 8 (by omega) (by omega) (by omega) (by omega) (by omega) (by omega)]; omega
  have j2 : bits .or .u32 (b0 + 256 * b1) (b2 * 65536) = b0 + 256 * b1 + 65536 * b2 := by rw [or_join _ _ 16 (by omega) (by omega) (by omega) (by omega) (by omega) (by omega)]; omega
  have j3 : bits .or .u32 (b0 + 256 * b1 + 65536 * b2) (b3 * 16777216) = b0 + 256 * b1 + 65536 * b2 + 16777216 * b3 := by rw [or_join _ _ 24 (by omega) (by omega) (by omega) (by omega) (by omega) (by omega)]; omega
  go_enter Try.func31, Try.ntmps31
  go_wp2
  go_loop [4, 9] (fun u i => ∃ k : Nat, k ≤ 4 ∧ i = .int .i64 k ∧ u = .int .u32 (partV b0 b1 b2 b3 k)) (fun _ i => 4 - (intOf i).toNat)
  case atStart => exact ⟨0, by omega, rfl, rfl⟩
  case round =>
    obtain ⟨k, hk, rfl, rfl⟩ := hrel
    have hc : k = 0 ∨ k = 1 ∨ k = 2 ∨ k = 3 ∨ k = 4 := by omega
    rcases hc with rfl | rfl | rfl | rfl | rfl
    · rw [show partV b0 b1 b2 b3 0 = 0 from rfl]
      go_wp2
      go_round
      case rel => exact ⟨1, by omega, rfl, rfl⟩
      case measure => simp [intOf]
    · rw [show partV b0 b1 b2 b3 1 = b0 from rfl]
      go_wp2
      go_round
      case rel => exact ⟨2, by omega, rfl, rfl⟩
      case measure => simp [intOf]
    · rw [show partV b0 b1 b2 b3 2 = b0 + 256 * b1 from rfl]
      go_wp2
      go_round
      case rel => exact ⟨3, by omega, rfl, rfl⟩
      case measure => simp [intOf]
    · rw [show partV b0 b1 b2 b3 3 = b0 + 256 * b1 + 65536 * b2 from rfl]
      go_wp2
      go_round
      case rel => exact ⟨4, by omega, rfl, rfl⟩
      case measure => simp [intOf]
    · rw [show partV b0 b1 b2 b3 4 = b0 + 256 * b1 + 65536 * b2 + 16777216 * b3 from rfl]
      go_wp2
      go_ret2
      exact ⟨by simp [readV, w64_w32], rfl⟩
theorem read_bytes (v : Int) : readV (byteOf v 0) (byteOf v 1) (byteOf v 2) (byteOf v 3) = wrap32 v := by
  unfold readV byteOf
  unfold wrap32
  omega
theorem rword_any (s : ByteArray) (h4 : s.size = 4) (w : World) :
    Calls Try.prog 33 #[.string s] w fun e w' => e = .returned (.int .i64 (readV (s[0].toNat) (s[1].toNat) (s[2].toNat) (s[3].toNat))) ∧ ∃ n, w' = w.drewN n := by
  have b0 := s[0].toNat_lt
  have b1 := s[1].toNat_lt
  have b2 := s[2].toNat_lt
  have b3 := s[3].toNat_lt
  have l0 : 0 < s.size := by omega
  have l1 : 1 < s.size := by omega
  have l2 : 2 < s.size := by omega
  have l3 : 3 < s.size := by omega
  have h4 := Lib.hid h4
  go_enter Try.func33, Try.ntmps33
  go_wp2_with fail
  go_quiet ((go_at_call 26; exact Calls.quiet_of_same ((rof_any _ _).mono fun _ _ ⟨a, b⟩ => ⟨a, b.symm⟩)))
  go_wp2
  go_ret
  exact ⟨rfl, nq, rfl⟩

theorem bytesRow_get (s : ByteArray) (cap j : Nat) (h : j < s.size) : (bytesRow s cap)[j]? = some (.int .u8 (s[j]).toNat) := by
  unfold bytesRow
  rw [Array.getElem?_append_left (by simpa using h)]
  simp [h]
  rfl

theorem conv_bytes (w : World) (s : ByteArray) : ∃ c W1, (convert 9 29 (.string s)).run Try.prog w = .ok (.slice (some ⟨w.heap.size, 0, none⟩) s.size c) W1
    ∧ Below w.heap.size w W1 ∧ ∀ j (h : j < s.size), W1.cell? ⟨w.heap.size, j, none⟩ = some (.int .u8 (s[j]).toNat) := by
  refine ⟨_, _, run_bytes_of_string w 9 29 5 s Try.underlying9 Try.underlying29 Try.underlying5, ?_, fun j h => ?_⟩
  · exact ((Below.refl _ _).drew).alloc (Nat.le_refl _) _
  · have e : w.heap.size = w.drew.heap.size := rfl
    rw [e, cell_new]
    exact bytesRow_get s _ j h
end Go.Proofs.Ytmmdppjbofbjhaa
namespace Go.Proofs.Ytmmdppjbofbjhaa
open Go.RowKit

theorem World.block_lt {w : World} {a : Addr} {v : Value} (h : w.cell? a = some v) : a.block < w.heap.size := by
  unfold World.cell? at h
  rcases Nat.lt_or_ge a.block w.heap.size with h' | h'
  · exact h'
  · rw [Array.getElem?_eq_none h'] at h; cases h
theorem below_cell {w w' : World} (hb : Below w.heap.size w w') {a : Addr} {v : Value} (h : w.cell? a = some v) : w'.cell? a = some v := by
  rw [hb.cell (World.block_lt h)]; exact h
/-- what one owns stays, where what was there stays -/
theorem owns_below {w w' : World} {base : Nat} {e : TypeId} {size : Nat} {v : Value} {n : Nat} {xs : List Value} (h : w.ownsRow base e size v n xs) (hb : Below w.heap.size w w') : w'.ownsRow base e size v n xs := by
  obtain ⟨h1, h2⟩ := h
  refine ⟨h1, ?_⟩
  rcases h2 with h2 | ⟨g, cap, cur, hv, hg, hh, hr⟩
  · exact .inl h2
  · have hlt : g < w.heap.size := by
      rcases Nat.lt_or_ge g w.heap.size with h' | h'
      · exact h'
      · rw [Array.getElem?_eq_none h'] at hh; cases hh
    exact .inr ⟨g, cap, cur, hv, hg, by rw [hb.block g hlt]; exact hh, hr⟩
/-- behind an append onto what one owns from 'base' on: what lay below 'base' has stayed -/
theorem below_grown {B : Nat} {a w w' : World} {base : Nat} {e : TypeId} {size : Nat} {v : Value} {n : Nat} {xs : List Value} (h : Below B a w) (hown : w.ownsRow base e size v n xs) (hg : w.grownBy w' v.ownBlock) (hB : B ≤ w.heap.size) (hb : B ≤ base) : Below B a w' :=
  h.grown hg hB (fun k hk => Nat.le_trans hb (hown.lt k hk).1)
/-- another block stays where one appends -/
theorem cell_grown {w w' : World} {row : Option Nat} (hg : w.grownBy w' row) {a : Addr} {v : Value} (h : w.cell? a = some v) (hne : row ≠ some a.block) : w'.cell? a = some v :=
  hg.cell h (fun e => hne e.symm)

/-- an element type: how its values lie in cells -/
structure Elem (P : Program) (α : Type) where
  e : TypeId
  t : TypeId
  size : Nat
  bytes : Nat
  zero : Value
  enc : α → List Value
  ht : P.underlying t = some (.slice e)
  info : (P.info? e).map (fun i => (i.zero, i.size, i.bytes)) = some (some zero, size, bytes)
  hzs : zero.cells.size = size
  hsz : 0 < size
  hby : bytes ≤ 1000
  henc : ∀ x, (enc x).length = size
  hone : ∀ x, ∀ u ∈ enc x, u.oneCell' = true

variable {P : Program} {α : Type}
theorem Elem.len (E : Elem P α) (l : List α) : (l.flatMap E.enc).length = l.length * E.size := by
  induction l with
  | nil => simp
  | cons x l ih => rw [List.flatMap_cons, List.length_append, ih, E.henc, List.length_cons, Nat.add_mul]; omega
/-- v is a slice of one's own, from block B on, that holds l -/
def Own (E : Elem P α) (w : World) (B : Nat) (v : Value) (l : List α) : Prop := w.ownsRow B E.e E.size v l.length (l.flatMap E.enc)
theorem Own.nil (E : Elem P α) (w : World) (B : Nat) : Own E w B (.slice none 0 0) [] := World.ownsRow_nil _ _ _ _
theorem Own.below {E : Elem P α} {w w' : World} {B : Nat} {v : Value} {l : List α} (h : Own E w B v l) (hb : Below w.heap.size w w') : Own E w' B v l := owns_below h hb
theorem Own.alloc {E : Elem P α} {w : World} {B : Nat} {v : Value} {l : List α} (h : Own E w B v l) (o : Obj) : Own E (w.alloc o) B v l := World.ownsRow.alloc h o
theorem Own.drew {E : Elem P α} {w : World} {B : Nat} {v : Value} {l : List α} (h : Own E w B v l) : Own E w.drew B v l := h
/-- cells from an address on -/
def CellsAt (w : World) (b o : Nat) (cs : List Value) : Prop := ∀ j u, cs[j]? = some u → w.cell? ⟨b, o + j, none⟩ = some u
theorem CellsAt.below {w w' : World} {b o : Nat} {cs : List Value} (h : CellsAt w b o cs) (hb : Below w.heap.size w w') : CellsAt w' b o cs := fun j u hj => below_cell hb (h j u hj)
theorem CellsAt.new (w : World) (cs : Array Value) (t : TypeId) (fz : Nat × Nat) : CellsAt (w.alloc (.cells cs t fz)) w.heap.size 0 cs.toList := fun j u hj => by
  rw [Nat.zero_add, cell_new]; simpa using hj
theorem CellsAt.new' {w : World} {g : Nat} (cs : Array Value) (t : TypeId) (fz : Nat × Nat) (hg : g = w.heap.size) : CellsAt (w.alloc (.cells cs t fz)) g 0 cs.toList := by
  subst hg; exact CellsAt.new w cs t fz
theorem CellsAt.under {w : World} {b o : Nat} {cs : List Value} (h : CellsAt w b o cs) (ob : Obj) : CellsAt (w.alloc ob) b o cs := fun j u hj => by
  rw [cell_under _ _ (World.block_lt (h j u hj))]; exact h j u hj
/-- an append onto one's own -/
theorem append_own (E : Elem P α) {ops : Array Oper} {rest : List Oper} {o : Oper} {a : Act} {Q : Exit → Act → World → Prop} {w : World} (hgd : o.guard = none) (s x : Operand)
    (ho : o.op = .call { callee := .builtin .append, args := #[s, x], argTypes := #[E.t, E.t] })
    (B : Nat) (l m : List α) (v : Value) (hs : a.eval s = v) (hown : Own E w B v l) (b of c : Nat) (hx : a.eval x = .slice (some ⟨b, of, none⟩) m.length c)
    (hm : CellsAt w b of (m.flatMap E.enc)) (hlen : l.length + m.length ≤ 100000000) (hB : B ≤ w.heap.size)
    (h : ∀ v' w', Own E w' B v' (l ++ m) → w.grownBy w' v.ownBlock → wpList P ops Q rest (a.put o.dst v') w') : wpList P ops Q (o :: rest) a w := by
  obtain ⟨i0, hi, hz0, hz1, hz2⟩ := info_parts E.info
  refine wpList_append_own _ hgd s x E.t ho B E.e i0 E.zero E.size E.bytes E.ht hi hz0 hz1 hz2 E.hzs E.hsz v l.length (l.flatMap E.enc) hs hown ⟨b, of, none⟩ m.length c (m.flatMap E.enc) hx (E.len m) ?_ ?_ ?_ ?_ hB ?_
  · intro j u hj
    have := hm j u hj
    unfold Addr.add
    by_cases h0 : j = 0
    · subst h0; rw [if_pos rfl]; exact this
    · rw [if_neg h0]; exact this
  · intro u hu
    obtain ⟨y, _, hy⟩ := List.mem_flatMap.1 hu
    exact E.hone y u hy
  · unfold maxLen; omega
  · have h1 := E.hby
    have h2 : (l.length + m.length) * E.bytes ≤ 100000000 * 1000 := Nat.mul_le_mul hlen h1
    omega
  · intro v' w' ho' hg _
    refine h v' w' ?_ hg
    unfold Own
    rw [List.length_append, List.flatMap_append]
    exact ho'
end Go.Proofs.Ytmmdppjbofbjhaa
namespace Go.Proofs.Ytmmdppjbofbjhaa
open Go.ChangeShapes Go.WideShapes Go.ChangeAt Go.RowKit

def u8E : Elem Try.prog Int where
  e := 5
  t := 29
  size := 1
  bytes := 1
  zero := .int .u8 0
  enc := fun n => [.int .u8 n]
  ht := Try.underlying29
  info := by kernel_rfl
  hzs := rfl
  hsz := by decide
  hby := by decide
  henc := fun _ => rfl
  hone := fun x u h => by simp at h; subst h; rfl
def intE : Elem Try.prog Int where
  e := 3
  t := 63
  size := 1
  bytes := 8
  zero := .int .i64 0
  enc := fun n => [.int .i64 n]
  ht := Try.underlying63
  info := by kernel_rfl
  hzs := rfl
  hsz := by decide
  hby := by decide
  henc := fun _ => rfl
  hone := fun x u h => by simp at h; subst h; rfl
def insE : Elem Try.prog Ins where
  e := 58
  t := 35
  size := 4
  bytes := 32
  zero := .agg #[.int .i64 0, .int .i64 0, .int .i64 0, .int .i64 0]
  enc := Ins.cells
  ht := Try.underlying35
  info := by kernel_rfl
  hzs := rfl
  hsz := by decide
  hby := by decide
  henc := fun _ => rfl
  hone := fun x u h => by simp [Ins.cells] at h; rcases h with rfl | rfl | rfl | rfl <;> rfl

theorem u8_map (l : List Int) : l.flatMap u8E.enc = l.map (Value.int .u8) := by
  induction l with
  | nil => rfl
  | cons x l ih => rw [List.flatMap_cons, ih]; rfl
/-- one's own bytes as a string -/
theorem own_str {w : World} {B : Nat} {v : Value} {l : List Int} (h : Own u8E w B v l) : (convert 29 9 v).run Try.prog w = .ok (.string (bytesS l)) w := by
  have hc := fun g hg => World.ownsRow.cells (g := g) h hg
  obtain ⟨h1, h2⟩ := h
  rcases h2 with ⟨rfl, h0⟩ | ⟨g, cap, cur, rfl, hg, hh, hr⟩
  · have : l = [] := List.length_eq_zero_iff.1 h0
    subst this
    rw [run_convert_bytes_string w 29 9 5 _ _ _ Try.underlying29 Try.underlying5 Try.underlying9]
    rfl
  · exact run_str w 29 9 5 ⟨g, 0, none⟩ cap l Try.underlying29 Try.underlying5 Try.underlying9 (by
      have := hc g rfl
      rw [u8_map] at this
      exact this)

def InsAt (w : World) (b o : Nat) (x : Ins) : Prop := w.cell? ⟨b, o, none⟩ = some (.int .i64 x.op) ∧ w.cell? ⟨b, o + 1, none⟩ = some (.int .i64 x.a) ∧ w.cell? ⟨b, o + 2, none⟩ = some (.int .i64 x.b) ∧ w.cell? ⟨b, o + 3, none⟩ = some (.int .i64 x.c)
/-- a slice of instructions -/
def InsSl (w : World) (a : Option Addr) (l : List Ins) : Prop := ∀ j (hj : j < l.length), ∃ b o, a = some ⟨b, o, none⟩ ∧ InsAt w b (o + j * 4) l[j]
theorem InsAt.below {w w' : World} {b o : Nat} {x : Ins} (h : InsAt w b o x) (hb : Below w.heap.size w w') : InsAt w' b o x :=
  ⟨below_cell hb h.1, below_cell hb h.2.1, below_cell hb h.2.2.1, below_cell hb h.2.2.2⟩
theorem InsSl.below {w w' : World} {a : Option Addr} {l : List Ins} (h : InsSl w a l) (hb : Below w.heap.size w w') : InsSl w' a l := fun j hj => by
  obtain ⟨b, o, h1, h2⟩ := h j hj
  exact ⟨b, o, h1, h2.below hb⟩
theorem take_snoc {α : Type} (l : List α) (k : Nat) (h : k < l.length) : l.take (k + 1) = l.take k ++ [l[k]] := by
  rw [List.take_succ_eq_append_getElem h]
theorem flat_cells (l : List Ins) (j r : Nat) (hj : j < l.length) (hr : r < 4) : (l.flatMap Ins.cells)[j * 4 + r]? = (l[j].cells)[r]? := by
  induction l generalizing j with
  | nil => cases hj
  | cons x l ih =>
    rw [List.flatMap_cons]
    cases j with
    | zero =>
      rw [List.getElem?_append_left (by simpa [Ins.cells] using hr)]; simp
    | succ j =>
      rw [List.getElem?_append_right (by simp [Ins.cells]; omega)]
      have : (j + 1) * 4 + r - x.cells.length = j * 4 + r := by simp [Ins.cells]; omega
      rw [this, ih j (by simpa using hj)]
      rfl
/-- one's own instructions, to be read -/
theorem own_ins {w : World} {B : Nat} {v : Value} {l : List Ins} (h : Own insE w B v l) : ∃ a c, v = .slice a l.length c ∧ InsSl w a l := by
  have hc := fun g hg => World.ownsRow.cells (g := g) h hg
  obtain ⟨h1, h2⟩ := h
  rcases h2 with ⟨rfl, h0⟩ | ⟨g, cap, cur, rfl, hg, hh, hr⟩
  · have : l = [] := List.length_eq_zero_iff.1 h0
    subst this
    exact ⟨none, 0, rfl, fun j hj => by cases hj⟩
  · refine ⟨_, cap, rfl, fun j hj => ⟨g, 0, rfl, ?_⟩⟩
    have hg := hc g rfl
    have hf := flat_cells l j
    have hadd : ∀ n, (⟨g, 0, none⟩ : Addr).add n = ⟨g, n, none⟩ := fun n => by
      unfold Addr.add; split
      · subst n; rfl
      · simp
    have q : ∀ r (hr : r < 4) u, (l[j].cells)[r]? = some u → w.cell? ⟨g, j * 4 + r, none⟩ = some u := fun r hr u hu => by
      have := hg (j * 4 + r) u (by rw [← hu]; exact hf r hj hr)
      rw [hadd] at this; exact this
    have e : (0 : Nat) + j * 4 = j * 4 := by omega
    rw [e]
    exact ⟨q 0 (by omega) _ rfl, q 1 (by omega) _ rfl, q 2 (by omega) _ rfl, q 3 (by omega) _ rfl⟩
end Go.Proofs.Ytmmdppjbofbjhaa
namespace Go.Proofs.Ytmmdppjbofbjhaa
open Go.ChangeShapes Go.WideShapes Go.ChangeAt Go.RowKit
def layI (x : Ins) : List Int := [x.op % 256, x.a % 256, x.c % 256, byteOf x.b 0, byteOf x.b 1, byteOf x.b 2, byteOf x.b 3]
def layL (l : List Ins) : List Int := l.flatMap layI
def laid (l : List Ins) : Bool := l.all rightB
/-- what Lay answers -/
def layRes (l : List Ins) : Value := if laid l then .tuple #[.string (bytesS (layL l)), .int .i64 0] else .tuple #[.string ⟨#[]⟩, .int .i64 1]
theorem layRes_no (l : List Ins) (k : Nat) (hk : k < l.length) (h : rightB l[k] = false) : layRes l = .tuple #[.string ⟨#[]⟩, .int .i64 1] := by
  have : laid l = false := by
    unfold laid
    rw [List.all_eq_false]
    exact ⟨l[k], List.getElem_mem hk, by simp [h]⟩
  simp [layRes, this]
theorem layL_snoc (l : List Ins) (x : Ins) : layL (l ++ [x]) = layL l ++ layI x := by simp [layL]
theorem laid_snoc (l : List Ins) (x : Ins) : laid (l ++ [x]) = (laid l && rightB x) := by simp [laid]
theorem layL_len (l : List Ins) : (layL l).length = 7 * l.length := by
  induction l with
  | nil => rfl
  | cons x l ih => simp [layL, layI] at *; omega
set_option maxRecDepth 100000 in
set_option maxHeartbeats 1600000 in
theorem lay_any (l : List Ins) (a : Option Addr) (c : Nat) (w : World) (hl : l.length ≤ 100000) (hc : InsSl w a l) :
    Calls Try.prog 36 #[.slice a l.length c] w fun e w' => e = .returned (layRes l) ∧ Below w.heap.size w w' := by
  have HC := Lib.hid hc; clear hc
  have hby := bytes_any
  have HBY := Lib.hid hby; clear hby
  go_enter Try.func36, Try.ntmps36
  go_wp2_with fail
  go_loopw [4, 9] (fun v i wr => ∃ k : Nat, k ≤ l.length ∧ i = .int .i64 k ∧ Own u8E wr w.heap.size v (layL (l.take k)) ∧ Below w.heap.size w wr ∧ laid (l.take k) = true) (fun _ i _ => l.length - (intOf i).toNat)
  case atStart => exact ⟨0, Nat.zero_le _, rfl, Own.nil _ _ _, Below.refl _ _, rfl⟩
  case round =>
    obtain ⟨k, hk, rfl, hown, hB, hlaid⟩ := hrel
    by_cases hlt : k < l.length
    · have hx := HC.out.below hB k hlt
      obtain ⟨b, o, rfl, hx0, hx1, hx2, hx3⟩ := hx
      have HB := Lib.hid hB; clear hB
      have HL := Lib.hid hlaid; clear hlaid
      have HO := Lib.hid hown; clear hown
      obtain ⟨x, hxe⟩ : ∃ x, x = l[k] := ⟨_, rfl⟩
      rw [← hxe] at hx0 hx1 hx2 hx3
      have HXE := Lib.hid hxe; clear hxe
      have hr := right_any x
      obtain ⟨xop, xa, xb, xc⟩ := x
      have hr : ∀ w, Calls Try.prog 88 #[.agg #[.int .i64 xop, .int .i64 xa, .int .i64 xb, .int .i64 xc]] w fun e w' => e = .returned (.bool (rightB ⟨xop, xa, xb, xc⟩)) ∧ Below w.heap.size w w' := hr
      obtain ⟨rb, hrb⟩ : ∃ rb, rb = rightB ⟨xop, xa, xb, xc⟩ := ⟨_, rfl⟩
      rw [← hrb] at hr
      have HRB := Lib.hid hrb; clear hrb
      have HR := Lib.hid hr; clear hr
      dsimp only at hx0 hx1 hx2 hx3
      go_wp2_with fail
      refine (HR.out _).mono ?_
      rintro e w1 ⟨rfl, hb1⟩
      cases rb
      · clear hx0 hx1 hx2 hx3
        go_wp2_with fail
        go_ret2
        exact ⟨by rw [layRes_no l k hlt (by rw [← HXE.out, ← HRB.out])]; rfl, (HB.out.alloc HB.out.size _).trans (hb1.mono (by have := HB.out.size; simp; omega))⟩
      · have hown1 := Own.below (HO.out.alloc (.cells #[.int .i64 xop, .int .i64 xa, .int .i64 xb, .int .i64 xc] 58)) hb1
        have q0 := below_cell hb1 (cell_new wr #[.int .i64 xop, .int .i64 xa, .int .i64 xb, .int .i64 xc] 58 (0, 0) 0)
        have q1 := below_cell hb1 (cell_new wr #[.int .i64 xop, .int .i64 xa, .int .i64 xb, .int .i64 xc] 58 (0, 0) 1)
        have q2 := below_cell hb1 (cell_new wr #[.int .i64 xop, .int .i64 xa, .int .i64 xb, .int .i64 xc] 58 (0, 0) 2)
        have q3 := below_cell hb1 (cell_new wr #[.int .i64 xop, .int .i64 xa, .int .i64 xb, .int .i64 xc] 58 (0, 0) 3)
        have hB1 : Below w.heap.size w w1 := (HB.out.alloc HB.out.size _).trans (hb1.mono (by have := HB.out.size; simp; omega))
        have HB1 := Lib.hid hB1; clear hB1
        have HO1 := Lib.hid hown1; clear hown1
        clear hb1
        go_wp2_with (at_builtin; refine append_own u8E rfl (.tmp 16) (.tmp 26) rfl w.heap.size (layL (l.take k)) [xop % 256, xa % 256, xc % 256] _ rfl (HO1.out.alloc _) w1.heap.size 0 3 rfl (CellsAt.new _ _ _ _) ?c1 ?c2 ?_)
        case c1 => rw [layL_len]; simp; omega
        case c2 => have := HB1.out.size; simp; omega
        intro v2 w2 hown2 hg2
        have hB2 := Lib.hid (below_grown (HB1.out.alloc HB1.out.size _) (HO1.out.alloc _) hg2 (by have := HB1.out.size; simp; omega) (Nat.le_refl _))
        have r2 := cell_grown hg2 ((cell_under _ (.cells #[.int .u8 (xop % 256), .int .u8 (xa % 256), .int .u8 (xc % 256)] 5) (World.block_lt q2)).trans q2) (fun e => absurd (World.ownsRow.lt HO.out _ e).2 (Nat.lt_irrefl _))
        have HO2 := Lib.hid hown2; clear hown2
        clear q0 q1 q2 q3 hg2 hx0 hx1 hx2 hx3
        go_wp2_with fail
        refine (HBY.out _ _).mono ?_
        rintro e w3 ⟨rfl, rfl⟩
        go_wp2_with (at_builtin; refine append_own u8E rfl (.tmp 28) (.tmp 31) rfl w.heap.size (layL (l.take k) ++ [xop % 256, xa % 256, xc % 256]) [byteOf xb 0, byteOf xb 1, byteOf xb 2, byteOf xb 3] _ rfl (HO2.out.alloc _) w2.heap.size 0 4 rfl (CellsAt.new _ _ _ _) ?d1 ?d2 ?_)
        case d1 => rw [List.length_append, layL_len]; simp; omega
        case d2 => have := hB2.out.size; simp; omega
        intro v3 w3 hown3 hg3
        have hB3 := Lib.hid (below_grown (hB2.out.alloc hB2.out.size _) (HO2.out.alloc _) hg3 (by have := hB2.out.size; simp; omega) (Nat.le_refl _))
        have HO3 := Lib.hid hown3; clear hown3
        clear hg3 r2
        go_wp2_with fail
        go_roundw
        case rel =>
          refine ⟨k + 1, by omega, by go_num, ?_, hB3.out, ?_⟩
          · rw [take_snoc l k hlt, layL_snoc, ← HXE.out]
            exact HO3.out
          · rw [take_snoc l k hlt, laid_snoc, ← HXE.out, ← HRB.out, HL.out]; rfl
        case measure => simp [intOf]; omega
    · have hk' : k = l.length := by omega
      subst hk'
      rw [List.take_length] at hown hlaid
      have hcv := own_str hown
      have hres : layRes l = .tuple #[.string (bytesS (layL l)), .int .i64 0] := by simp [layRes, hlaid]
      have HR := Lib.hid hres
      have HB := Lib.hid hB
      clear hres hB hown hlaid
      go_wp2_with fail
      go_ret2
      exact ⟨by rw [HR.out]; rfl, HB.out⟩
end Go.Proofs.Ytmmdppjbofbjhaa
