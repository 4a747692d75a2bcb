import Derived.Test.YthkhgihjigmkoaaGreatCAa
import Derived.Laws.IdiomStrings
import Derived.RegionTactic
import Derived.ChangeAlike
import Derived.ProofKit
import Derived.Deep.Slices
set_option linter.unusedVariables false
set_option linter.unusedSimpArgs false
namespace Go.Proofs.YthkhgihjigmkoaaGreat
open Go.ChangeShapes Go.WideShapes Go.ChangeAt Go.RowKit
structure Ins where (op a b c : Int)
def Ins.val (x : Ins) : Value := .agg #[.int .i64 x.op, .int .i64 x.a, .int .i64 x.b, .int .i64 x.c]
def Ins.cells (x : Ins) : List Value := [.int .i64 x.op, .int .i64 x.a, .int .i64 x.b, .int .i64 x.c]
def mayB (n : Int) (used : Bool) : Bool := used || n == 0
def unusedB (x : Ins) : Bool := mayB x.a (usesS x.op).1 && mayB x.b (usesS x.op).2.1 && mayB x.c (usesS x.op).2.2
def rightB (x : Ins) : Bool := knownS x.op && decide (0 ≤ x.a) && decide (x.a ≤ 255) && decide (0 ≤ x.c) && decide (x.c ≤ 255) && decide (wrap32 x.b = x.b) && unusedB x
end Go.Proofs.YthkhgihjigmkoaaGreat
namespace Go.Proofs.YthkhgihjigmkoaaGreat
open Go.ChangeShapes Go.WideShapes Go.ChangeAt Go.RowKit
def bv (n : Int) : Value := .int .u8 n
def readV (b0 b1 b2 b3 : Int) : Int := wrap32 (b0 + 256 * b1 + 65536 * b2 + 16777216 * b3)
end Go.Proofs.YthkhgihjigmkoaaGreat
namespace Go.Proofs.YthkhgihjigmkoaaGreat
open Go.RowKit
theorem World.block_lt {w : World} {a : Addr} {v : Value} (h : w.cell? a = some v) : a.block < w.heap.size := by
 unfold World.cell? at h
 rcases Nat.lt_or_ge a.block w.heap.size with h' | h'
 ·exact h'
 ·rw [Array.getElem?_eq_none h'] at h; cases h
theorem below_cell {w w' : World} (hb : Below w.heap.size w w') {a : Addr} {v : Value} (h : w.cell? a = some v) : w'.cell? a = some v := by
 rw [hb.cell (World.block_lt h)]; exact h
theorem owns_below {w w' : World} {base : Nat} {e : TypeId} {size : Nat} {v : Value} {n : Nat} {xs : List Value} (h : w.ownsRow base e size v n xs) (hb : Below w.heap.size w w') : w'.ownsRow base e size v n xs := by
 obtain ⟨h1, h2⟩ := h
 refine ⟨h1, ?_⟩
 rcases h2 with h2 | ⟨g, cap, cur, hv, hg, hh, hr⟩
 ·exact .inl h2
 ·have hlt : g < w.heap.size := by
   rcases Nat.lt_or_ge g w.heap.size with h' | h'
   ·exact h'
   ·rw [Array.getElem?_eq_none h'] at hh; cases hh
  exact .inr ⟨g, cap, cur, hv, hg, by rw [hb.block g hlt]; exact hh, hr⟩
theorem below_grown {B : Nat} {a w w' : World} {base : Nat} {e : TypeId} {size : Nat} {v : Value} {n : Nat} {xs : List Value} (h : Below B a w) (hown : w.ownsRow base e size v n xs) (hg : w.grownBy w' v.ownBlock) (hB : B ≤ w.heap.size) (hb : B ≤ base) : Below B a w' :=
 h.grown hg hB (fun k hk => Nat.le_trans hb (hown.lt k hk).1)
structure Elem (P : Program) (α : Type) where
 e : TypeId
 t : TypeId
 size : Nat
 bytes : Nat
 zero : Value
 enc : α → List Value
 ht : P.underlying t = some (.slice e)
 info : (P.info? e).map (fun i => (i.zero, i.size, i.bytes)) = some (some zero, size, bytes)
 hzs : zero.cells.size = size
 hsz : 0 < size
 hby : bytes ≤ 1000
 henc : ∀ x, (enc x).length = size
 hone : ∀ x, ∀ u ∈ enc x, u.oneCell' = true
variable {P : Program} {α : Type}
theorem Elem.len (E : Elem P α) (l : List α) : (l.flatMap E.enc).length = l.length * E.size := by
 induction l with
 | nil => simp
 | cons x l ih => rw [List.flatMap_cons, List.length_append, ih, E.henc, List.length_cons, Nat.add_mul]; omega
def Own (E : Elem P α) (w : World) (B : Nat) (v : Value) (l : List α) : Prop := w.ownsRow B E.e E.size v l.length (l.flatMap E.enc)
theorem Own.nil (E : Elem P α) (w : World) (B : Nat) : Own E w B (.slice none 0 0) [] := World.ownsRow_nil _ _ _ _
theorem Own.below {E : Elem P α} {w w' : World} {B : Nat} {v : Value} {l : List α} (h : Own E w B v l) (hb : Below w.heap.size w w') : Own E w' B v l := owns_below h hb
theorem Own.alloc {E : Elem P α} {w : World} {B : Nat} {v : Value} {l : List α} (h : Own E w B v l) (o : Obj) : Own E (w.alloc o) B v l := World.ownsRow.alloc h o
theorem Own.drew {E : Elem P α} {w : World} {B : Nat} {v : Value} {l : List α} (h : Own E w B v l) : Own E w.drew B v l := h
def CellsAt (w : World) (b o : Nat) (cs : List Value) : Prop := ∀ j u, cs[j]? = some u → w.cell? ⟨b, o + j, none⟩ = some u
theorem CellsAt.below {w w' : World} {b o : Nat} {cs : List Value} (h : CellsAt w b o cs) (hb : Below w.heap.size w w') : CellsAt w' b o cs := fun j u hj => below_cell hb (h j u hj)
theorem CellsAt.new (w : World) (cs : Array Value) (t : TypeId) (fz : Nat × Nat) : CellsAt (w.alloc (.cells cs t fz)) w.heap.size 0 cs.toList := fun j u hj => by
 rw [Nat.zero_add, cell_new]; simpa using hj
theorem append_own (E : Elem P α) {ops : Array Oper} {rest : List Oper} {o : Oper} {a : Act} {Q : Exit → Act → World → Prop} {w : World} (hgd : o.guard = none) (s x : Operand)
  (ho : o.op = .call { callee := .builtin .append, args := #[s, x], argTypes := #[E.t, E.t] })
  (B : Nat) (l m : List α) (v : Value) (hs : a.eval s = v) (hown : Own E w B v l) (b of c : Nat) (hx : a.eval x = .slice (some ⟨b, of, none⟩) m.length c)
  (hm : CellsAt w b of (m.flatMap E.enc)) (hlen : l.length + m.length ≤ 100000000) (hB : B ≤ w.heap.size)
  (h : ∀ v' w', Own E w' B v' (l ++ m) → w.grownBy w' v.ownBlock → wpList P ops Q rest (a.put o.dst v') w') : wpList P ops Q (o :: rest) a w := by
 obtain ⟨i0, hi, hz0, hz1, hz2⟩ := info_parts E.info
 refine wpList_append_own _ hgd s x E.t ho B E.e i0 E.zero E.size E.bytes E.ht hi hz0 hz1 hz2 E.hzs E.hsz v l.length (l.flatMap E.enc) hs hown ⟨b, of, none⟩ m.length c (m.flatMap E.enc) hx (E.len m) ?_ ?_ ?_ ?_ hB ?_
 ·intro j u hj
  have := hm j u hj
  unfold Addr.add
  by_cases h0 : j = 0
  ·subst h0; rw [if_pos rfl]; exact this
  ·rw [if_neg h0]; exact this
 ·intro u hu
  obtain ⟨y, _, hy⟩ := List.mem_flatMap.1 hu
  exact E.hone y u hy
 ·unfold maxLen; omega
 ·have h1 := E.hby
  have h2 : (l.length + m.length) * E.bytes ≤ 100000000 * 1000 := Nat.mul_le_mul hlen h1
  omega
 ·intro v' w' ho' hg _
  refine h v' w' ?_ hg
  unfold Own
  rw [List.length_append, List.flatMap_append]
  exact ho'
end Go.Proofs.YthkhgihjigmkoaaGreat
namespace Go.Proofs.YthkhgihjigmkoaaGreat
open Go.ChangeShapes Go.WideShapes Go.ChangeAt Go.RowKit
def intE : Elem Tryz.prog Int where
 e := 3
 t := 23
 size := 1
 bytes := 8
 zero := .int .i64 0
 enc := fun n => [.int .i64 n]
 ht := Tryz.underlying23
 info := by kernel_rfl
 hzs := rfl
 hsz := by decide
 hby := by decide
 henc := fun _ => rfl
 hone := fun x u h => by simp at h; subst h; rfl
def insE : Elem Tryz.prog Ins where
 e := 59
 t := 70
 size := 4
 bytes := 32
 zero := .agg #[.int .i64 0, .int .i64 0, .int .i64 0, .int .i64 0]
 enc := Ins.cells
 ht := Tryz.underlying70
 info := by kernel_rfl
 hzs := rfl
 hsz := by decide
 hby := by decide
 henc := fun _ => rfl
 hone := fun x u h => by simp [Ins.cells] at h; rcases h with rfl | rfl | rfl | rfl <;> rfl
def InsAt (w : World) (b o : Nat) (x : Ins) : Prop := w.cell? ⟨b, o, none⟩ = some (.int .i64 x.op) ∧ w.cell? ⟨b, o + 1, none⟩ = some (.int .i64 x.a) ∧ w.cell? ⟨b, o + 2, none⟩ = some (.int .i64 x.b) ∧ w.cell? ⟨b, o + 3, none⟩ = some (.int .i64 x.c)
def InsSl (w : World) (a : Option Addr) (l : List Ins) : Prop := ∀ j (hj : j < l.length), ∃ b o, a = some ⟨b, o, none⟩ ∧ InsAt w b (o + j * 4) l[j]
theorem InsAt.below {w w' : World} {b o : Nat} {x : Ins} (h : InsAt w b o x) (hb : Below w.heap.size w w') : InsAt w' b o x :=
 ⟨below_cell hb h.1, below_cell hb h.2.1, below_cell hb h.2.2.1, below_cell hb h.2.2.2⟩
theorem InsSl.below {w w' : World} {a : Option Addr} {l : List Ins} (h : InsSl w a l) (hb : Below w.heap.size w w') : InsSl w' a l := fun j hj => by
 obtain ⟨b, o, h1, h2⟩ := h j hj
 exact ⟨b, o, h1, h2.below hb⟩
theorem take_snoc {α : Type} (l : List α) (k : Nat) (h : k < l.length) : l.take (k + 1) = l.take k ++ [l[k]] := by
 rw [List.take_succ_eq_append_getElem h]
end Go.Proofs.YthkhgihjigmkoaaGreat
namespace Go.Proofs.YthkhgihjigmkoaaGreat
open Go.ChangeShapes Go.WideShapes Go.ChangeAt Go.RowKit
def gb (b : ByteArray) (i : Nat) : Int := (b.data.getD i 0).toNat
def rdAt (b : ByteArray) (i : Nat) : Ins := ⟨gb b i, gb b (i + 1), readV (gb b (i + 3)) (gb b (i + 4)) (gb b (i + 5)) (gb b (i + 6)), gb b (i + 2)⟩
def rdAll (b : ByteArray) (n : Nat) : List Ins := (List.range n).map fun k => rdAt b (7 * k)
def readOk (b : ByteArray) : Bool := b.size % 7 == 0 && (rdAll b (b.size / 7)).all rightB
def readL (b : ByteArray) : List Ins := if readOk b then rdAll b (b.size / 7) else []
end Go.Proofs.YthkhgihjigmkoaaGreat
namespace Go.Proofs.YthkhgihjigmkoaaGreat
open Go.ChangeShapes Go.WideShapes Go.ChangeAt Go.RowKit
def Ins.wf (x : Ins) : Prop := (-9223372036854775808 ≤ x.op ∧ x.op ≤ 9223372036854775807) ∧ (-9223372036854775808 ≤ x.a ∧ x.a ≤ 9223372036854775807) ∧ (-9223372036854775808 ≤ x.b ∧ x.b ≤ 9223372036854775807) ∧ (-9223372036854775808 ≤ x.c ∧ x.c ≤ 9223372036854775807)
instance : Inhabited Ins := ⟨⟨0, 0, 0, 0⟩⟩
variable {H : Type} {enc : TypeId × Value → H}
theorem plain_addr {w : World} {a : Addr} {v : Value} (h : w.cell? a = some v) : a = ⟨a.block, a.off, none⟩ := by
 obtain ⟨b, o, s⟩ := a
 cases s with
 | none => rfl
 | some s =>
  unfold World.cell? at h
  split at h
  ·cases h
  ·cases h
theorem addr_add (a : Addr) (hs : a.spot = none) (n : Nat) : a.add n = ⟨a.block, a.off + n, none⟩ := by
 unfold Addr.add
 split
 ·subst n; obtain ⟨b, o, s⟩ := a; dsimp only at hs; subst hs; rfl
 ·obtain ⟨b, o, s⟩ := a; dsimp only at hs; subst hs; rfl
end Go.Proofs.YthkhgihjigmkoaaGreat
