/- Laws on memory that the walks share: bytes as a string, rows of cells. Nothing of the program stands here. Walks: what an op is (package instr and the reference): Known, Uses, Safe, may, right, unused. Walks: whether an instruction may be laid (package instr and the reference); what it sets; safe points. Walks: the bytes of a number (package word and the reference). Slices: what they read as, and what one owns. Nothing of the program stands here. The element types: bytes, numbers, instructions. -/
import Derived.WalkKit
import Derived.Handy
import Derived.WalkSpells
import Derived.Lib.Hide
import Derived.Deep.Draws
import Derived.Test.YtknbllbhakpaaaaGreatRows
import Derived.ProofKit
import Derived.OpenShut
import Derived.Deep.QuietTactic
import Derived.BigQuiet
import Derived.Laws.IdiomStrings
set_option linter.unusedVariables false
set_option linter.unusedSimpArgs false
namespace Go.Proofs.YtknbllbhakpaaaaGreat
open Go.RowKit
theorem heap_new (w : World) (o : Obj) : (w.alloc o).heap[w.heap.size]? = some o := by
  show (w.heap.push _)[w.heap.size]? = _
  simp
theorem cell_new (w : World) (c : Array Value) (t : TypeId) (fz : Nat × Nat) (j : Nat) : (w.alloc (.cells c t fz)).cell? ⟨w.heap.size, j, none⟩ = c[j]? := by
  unfold World.cell?
  rw [heap_new]
  rfl
theorem cell_under (w : World) (o : Obj) {p : Addr} (h : p.block < w.heap.size) : (w.alloc o).cell? p = w.cell? p :=
  World.cell?_of_block (w := w) (Below.heap_alloc w o _ h)
theorem below_drewN {B : Nat} {a w : World} (h : Below B a w) (n : Nat) : Below B a (w.drewN n) := h.trans ⟨rfl, rfl, rfl, Nat.le_refl _, fun _ _ => rfl⟩
end Go.Proofs.YtknbllbhakpaaaaGreat
namespace Go.Proofs.YtknbllbhakpaaaaGreat
open Go.ChangeShapes Go.WideShapes Go.ChangeAt Go.RowKit
def knownS (op : Int) : Bool := decide (0 ≤ op) && decide (op ≤ 29)
/-- which operands an op uses -/
def usesS (op : Int) : Bool × Bool × Bool :=
  if op = 1 ∨ op = 2 ∨ op = 10 ∨ op = 11 ∨ op = 12 ∨ op = 13 ∨ op = 16 ∨ op = 17 ∨ op = 18 ∨ op = 25 ∨ op = 26 then (true, true, false)
  else if op = 3 ∨ op = 4 ∨ op = 5 ∨ op = 6 ∨ op = 7 ∨ op = 8 ∨ op = 14 ∨ op = 15 ∨ op = 19 ∨ op = 20 ∨ op = 21 then (true, true, true)
  else if op = 9 then (false, true, false)
  else if op = 22 ∨ op = 29 then (true, false, false)
  else if op = 23 ∨ op = 24 then (false, true, true)
  else (false, false, false)
def opsAll : List Int := [0, 1, 2, 3, 4, 5, 6, 7, 8, 9, 10, 11, 12, 13, 14, 15, 16, 17, 18, 19, 20, 21, 22, 23, 24, 25, 26, 27, 28, 29]
theorem op_cases {p : Int → Prop} (h : ∀ op ∈ opsAll, p op) (hlo : ∀ op, op < 0 → p op) (hhi : ∀ op, 29 < op → p op) (op : Int) : p op := by
  rcases Int.lt_or_le op 0 with h1 | h1
  · exact hlo op h1
  rcases Int.lt_or_le 29 op with h2 | h2
  · exact hhi op h2
  · refine h op ?_
    simp only [opsAll, List.mem_cons, List.not_mem_nil, or_false]
    omega
theorem ops_all {p : Int → Prop} (h0 : p 0) (h1 : p 1) (h2 : p 2) (h3 : p 3) (h4 : p 4) (h5 : p 5) (h6 : p 6) (h7 : p 7) (h8 : p 8) (h9 : p 9) (h10 : p 10) (h11 : p 11) (h12 : p 12) (h13 : p 13) (h14 : p 14) (h15 : p 15) (h16 : p 16) (h17 : p 17) (h18 : p 18) (h19 : p 19) (h20 : p 20) (h21 : p 21) (h22 : p 22) (h23 : p 23) (h24 : p 24) (h25 : p 25) (h26 : p 26) (h27 : p 27) (h28 : p 28) (h29 : p 29) : ∀ op ∈ opsAll, p op := by
  intro op hop
  simp only [opsAll, List.mem_cons, List.not_mem_nil, or_false] at hop
  rcases hop with rfl | rfl | rfl | rfl | rfl | rfl | rfl | rfl | rfl | rfl | rfl | rfl | rfl | rfl | rfl | rfl | rfl | rfl | rfl | rfl | rfl | rfl | rfl | rfl | rfl | rfl | rfl | rfl | rfl | rfl <;> assumption
theorem uses_out (op : Int) (h : op < 0 ∨ 29 < op) : usesS op = (false, false, false) := by
  unfold usesS
  rw [if_neg (by omega), if_neg (by omega), if_neg (by omega), if_neg (by omega), if_neg (by omega)]
theorem known_any (op : Int) (w : World) :
    Calls Tryz.prog 159 #[.int .i64 op] w fun e w' => e = .returned (.bool (knownS op)) ∧ w = w' := by
  unfold knownS
  go_enter Tryz.func159, Tryz.ntmps159
  go_wp2
  all_goals
    go_ret
    exact ⟨by simp [*]; try omega, rfl⟩

def UsesSaid (w : World) (op : Int) : Prop := Calls Tryz.prog 157 #[.int .i64 op] w fun e w' => e = .returned (.tuple #[.bool (usesS op).1, .bool (usesS op).2.1, .bool (usesS op).2.2]) ∧ w = w'
set_option maxHeartbeats 4000000 in
theorem uses_in (w : World) : ∀ op ∈ opsAll, UsesSaid w op := by
  apply ops_all <;> (unfold UsesSaid; go_enter Tryz.func157, Tryz.ntmps157; go_wp2; go_ret3; exact ⟨rfl, rfl⟩)
theorem uses_any (w : World) (op : Int) : UsesSaid w op := by
  refine op_cases (uses_in w) (fun op h => ?_) (fun op h => ?_) op
  all_goals
    unfold UsesSaid
    rw [uses_out op (by omega)]
    go_enter Tryz.func157, Tryz.ntmps157
    go_wp2
    go_ret3
    exact ⟨rfl, rfl⟩

end Go.Proofs.YtknbllbhakpaaaaGreat
namespace Go.Proofs.YtknbllbhakpaaaaGreat
open Go.ChangeShapes Go.WideShapes Go.ChangeAt Go.RowKit
/-- an instruction -/
structure Ins where (op a b c : Int)
def Ins.val (x : Ins) : Value := .agg #[.int .i64 x.op, .int .i64 x.a, .int .i64 x.b, .int .i64 x.c]
def Ins.cells (x : Ins) : List Value := [.int .i64 x.op, .int .i64 x.a, .int .i64 x.b, .int .i64 x.c]
def mayB (n : Int) (used : Bool) : Bool := used || n == 0
def unusedB (x : Ins) : Bool := mayB x.a (usesS x.op).1 && mayB x.b (usesS x.op).2.1 && mayB x.c (usesS x.op).2.2
def rightB (x : Ins) : Bool := knownS x.op && decide (0 ≤ x.a) && decide (x.a ≤ 255) && decide (0 ≤ x.c) && decide (x.c ≤ 255) && decide (wrap32 x.b = x.b) && unusedB x

end Go.Proofs.YtknbllbhakpaaaaGreat
namespace Go.Proofs.YtknbllbhakpaaaaGreat
open Go.ChangeShapes Go.WideShapes Go.ChangeAt Go.RowKit
def bv (n : Int) : Value := .int .u8 n
/-- the number of four bytes -/
def readV (b0 b1 b2 b3 : Int) : Int := wrap32 (b0 + 256 * b1 + 65536 * b2 + 16777216 * b3)
end Go.Proofs.YtknbllbhakpaaaaGreat
namespace Go.Proofs.YtknbllbhakpaaaaGreat
open Go.RowKit
theorem World.block_lt {w : World} {a : Addr} {v : Value} (h : w.cell? a = some v) : a.block < w.heap.size := by
  unfold World.cell? at h
  rcases Nat.lt_or_ge a.block w.heap.size with h' | h'
  · exact h'
  · rw [Array.getElem?_eq_none h'] at h; cases h
theorem below_cell {w w' : World} (hb : Below w.heap.size w w') {a : Addr} {v : Value} (h : w.cell? a = some v) : w'.cell? a = some v := by
  rw [hb.cell (World.block_lt h)]; exact h
/-- what one owns stays, where what was there stays -/
theorem owns_below {w w' : World} {base : Nat} {e : TypeId} {size : Nat} {v : Value} {n : Nat} {xs : List Value} (h : w.ownsRow base e size v n xs) (hb : Below w.heap.size w w') : w'.ownsRow base e size v n xs := by
  obtain ⟨h1, h2⟩ := h
  refine ⟨h1, ?_⟩
  rcases h2 with h2 | ⟨g, cap, cur, hv, hg, hh, hr⟩
  · exact .inl h2
  · have hlt : g < w.heap.size := by
      rcases Nat.lt_or_ge g w.heap.size with h' | h'
      · exact h'
      · rw [Array.getElem?_eq_none h'] at hh; cases hh
    exact .inr ⟨g, cap, cur, hv, hg, by rw [hb.block g hlt]; exact hh, hr⟩
/-- behind an append onto what one owns from 'base' on: what lay below 'base' has stayed -/
theorem below_grown {B : Nat} {a w w' : World} {base : Nat} {e : TypeId} {size : Nat} {v : Value} {n : Nat} {xs : List Value} (h : Below B a w) (hown : w.ownsRow base e size v n xs) (hg : w.grownBy w' v.ownBlock) (hB : B ≤ w.heap.size) (hb : B ≤ base) : Below B a w' :=
  h.grown hg hB (fun k hk => Nat.le_trans hb (hown.lt k hk).1)
/-- an element type: how its values lie in cells -/
structure Elem (P : Program) (α : Type) where
  e : TypeId
  t : TypeId
  size : Nat
  bytes : Nat
  zero : Value
  enc : α → List Value
  ht : P.underlying t = some (.slice e)
  info : (P.info? e).map (fun i => (i.zero, i.size, i.bytes)) = some (some zero, size, bytes)
  hzs : zero.cells.size = size
  hsz : 0 < size
  hby : bytes ≤ 1000
  henc : ∀ x, (enc x).length = size
  hone : ∀ x, ∀ u ∈ enc x, u.oneCell' = true

variable {P : Program} {α : Type}
theorem Elem.len (E : Elem P α) (l : List α) : (l.flatMap E.enc).length = l.length * E.size := by
  induction l with
  | nil => simp
  | cons x l ih => rw [List.flatMap_cons, List.length_append, ih, E.henc, List.length_cons, Nat.add_mul]; omega
/-- v is a slice of one's own, from block B on, that holds l -/
def Own (E : Elem P α) (w : World) (B : Nat) (v : Value) (l : List α) : Prop := w.ownsRow B E.e E.size v l.length (l.flatMap E.enc)
theorem Own.nil (E : Elem P α) (w : World) (B : Nat) : Own E w B (.slice none 0 0) [] := World.ownsRow_nil _ _ _ _
theorem Own.below {E : Elem P α} {w w' : World} {B : Nat} {v : Value} {l : List α} (h : Own E w B v l) (hb : Below w.heap.size w w') : Own E w' B v l := owns_below h hb
theorem Own.alloc {E : Elem P α} {w : World} {B : Nat} {v : Value} {l : List α} (h : Own E w B v l) (o : Obj) : Own E (w.alloc o) B v l := World.ownsRow.alloc h o
theorem Own.drew {E : Elem P α} {w : World} {B : Nat} {v : Value} {l : List α} (h : Own E w B v l) : Own E w.drew B v l := h
/-- cells from an address on -/
def CellsAt (w : World) (b o : Nat) (cs : List Value) : Prop := ∀ j u, cs[j]? = some u → w.cell? ⟨b, o + j, none⟩ = some u
theorem CellsAt.below {w w' : World} {b o : Nat} {cs : List Value} (h : CellsAt w b o cs) (hb : Below w.heap.size w w') : CellsAt w' b o cs := fun j u hj => below_cell hb (h j u hj)
theorem CellsAt.new (w : World) (cs : Array Value) (t : TypeId) (fz : Nat × Nat) : CellsAt (w.alloc (.cells cs t fz)) w.heap.size 0 cs.toList := fun j u hj => by
  rw [Nat.zero_add, cell_new]; simpa using hj
/-- an append onto one's own -/
theorem append_own (E : Elem P α) {ops : Array Oper} {rest : List Oper} {o : Oper} {a : Act} {Q : Exit → Act → World → Prop} {w : World} (hgd : o.guard = none) (s x : Operand)
    (ho : o.op = .call { callee := .builtin .append, args := #[s, x], argTypes := #[E.t, E.t] })
    (B : Nat) (l m : List α) (v : Value) (hs : a.eval s = v) (hown : Own E w B v l) (b of c : Nat) (hx : a.eval x = .slice (some ⟨b, of, none⟩) m.length c)
    (hm : CellsAt w b of (m.flatMap E.enc)) (hlen : l.length + m.length ≤ 100000000) (hB : B ≤ w.heap.size)
    (h : ∀ v' w', Own E w' B v' (l ++ m) → w.grownBy w' v.ownBlock → wpList P ops Q rest (a.put o.dst v') w') : wpList P ops Q (o :: rest) a w := by
  obtain ⟨i0, hi, hz0, hz1, hz2⟩ := info_parts E.info
  refine wpList_append_own _ hgd s x E.t ho B E.e i0 E.zero E.size E.bytes E.ht hi hz0 hz1 hz2 E.hzs E.hsz v l.length (l.flatMap E.enc) hs hown ⟨b, of, none⟩ m.length c (m.flatMap E.enc) hx (E.len m) ?_ ?_ ?_ ?_ hB ?_
  · intro j u hj
    have := hm j u hj
    unfold Addr.add
    by_cases h0 : j = 0
    · subst h0; rw [if_pos rfl]; exact this
    · rw [if_neg h0]; exact this
  · intro u hu
    obtain ⟨y, _, hy⟩ := List.mem_flatMap.1 hu
    exact E.hone y u hy
  · unfold maxLen; omega
  · have h1 := E.hby
    have h2 : (l.length + m.length) * E.bytes ≤ 100000000 * 1000 := Nat.mul_le_mul hlen h1
    omega
  · intro v' w' ho' hg _
    refine h v' w' ?_ hg
    unfold Own
    rw [List.length_append, List.flatMap_append]
    exact ho'
end Go.Proofs.YtknbllbhakpaaaaGreat
namespace Go.Proofs.YtknbllbhakpaaaaGreat
open Go.ChangeShapes Go.WideShapes Go.ChangeAt Go.RowKit
def intE : Elem Tryz.prog Int where
  e := 3
  t := 23
  size := 1
  bytes := 8
  zero := .int .i64 0
  enc := fun n => [.int .i64 n]
  ht := Tryz.underlying23
  info := by kernel_rfl
  hzs := rfl
  hsz := by decide
  hby := by decide
  henc := fun _ => rfl
  hone := fun x u h => by simp at h; subst h; rfl
def InsAt (w : World) (b o : Nat) (x : Ins) : Prop := w.cell? ⟨b, o, none⟩ = some (.int .i64 x.op) ∧ w.cell? ⟨b, o + 1, none⟩ = some (.int .i64 x.a) ∧ w.cell? ⟨b, o + 2, none⟩ = some (.int .i64 x.b) ∧ w.cell? ⟨b, o + 3, none⟩ = some (.int .i64 x.c)
/-- a slice of instructions -/
def InsSl (w : World) (a : Option Addr) (l : List Ins) : Prop := ∀ j (hj : j < l.length), ∃ b o, a = some ⟨b, o, none⟩ ∧ InsAt w b (o + j * 4) l[j]
theorem InsAt.below {w w' : World} {b o : Nat} {x : Ins} (h : InsAt w b o x) (hb : Below w.heap.size w w') : InsAt w' b o x :=
  ⟨below_cell hb h.1, below_cell hb h.2.1, below_cell hb h.2.2.1, below_cell hb h.2.2.2⟩
theorem InsSl.below {w w' : World} {a : Option Addr} {l : List Ins} (h : InsSl w a l) (hb : Below w.heap.size w w') : InsSl w' a l := fun j hj => by
  obtain ⟨b, o, h1, h2⟩ := h j hj
  exact ⟨b, o, h1, h2.below hb⟩
theorem take_snoc {α : Type} (l : List α) (k : Nat) (h : k < l.length) : l.take (k + 1) = l.take k ++ [l[k]] := by
  rw [List.take_succ_eq_append_getElem h]
theorem flat_cells (l : List Ins) (j r : Nat) (hj : j < l.length) (hr : r < 4) : (l.flatMap Ins.cells)[j * 4 + r]? = (l[j].cells)[r]? := by
  induction l generalizing j with
  | nil => cases hj
  | cons x l ih =>
    rw [List.flatMap_cons]
    cases j with
    | zero =>
      rw [List.getElem?_append_left (by simpa [Ins.cells] using hr)]; simp
    | succ j =>
      rw [List.getElem?_append_right (by simp [Ins.cells]; omega)]
      have : (j + 1) * 4 + r - x.cells.length = j * 4 + r := by simp [Ins.cells]; omega
      rw [this, ih j (by simpa using hj)]
      rfl
end Go.Proofs.YtknbllbhakpaaaaGreat
