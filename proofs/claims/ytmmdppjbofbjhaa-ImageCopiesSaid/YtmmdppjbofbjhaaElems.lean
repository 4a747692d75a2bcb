/- The element types: bytes, numbers, instructions. -/
import Derived.Test.YtmmdppjbofbjhaaInstrC
import Derived.Test.YtmmdppjbofbjhaaWordC
import Derived.Test.YtmmdppjbofbjhaaSlice
namespace Go.Proofs.Ytmmdppjbofbjhaa
open Go.ChangeShapes Go.WideShapes Go.ChangeAt Go.RowKit

def u8E : Elem Try.prog Int where
  e := 5
  t := 29
  size := 1
  bytes := 1
  zero := .int .u8 0
  enc := fun n => [.int .u8 n]
  ht := Try.underlying29
  info := by kernel_rfl
  hzs := rfl
  hsz := by decide
  hby := by decide
  henc := fun _ => rfl
  hone := fun x u h => by simp at h; subst h; rfl
def intE : Elem Try.prog Int where
  e := 3
  t := 63
  size := 1
  bytes := 8
  zero := .int .i64 0
  enc := fun n => [.int .i64 n]
  ht := Try.underlying63
  info := by kernel_rfl
  hzs := rfl
  hsz := by decide
  hby := by decide
  henc := fun _ => rfl
  hone := fun x u h => by simp at h; subst h; rfl
def insE : Elem Try.prog Ins where
  e := 58
  t := 35
  size := 4
  bytes := 32
  zero := .agg #[.int .i64 0, .int .i64 0, .int .i64 0, .int .i64 0]
  enc := Ins.cells
  ht := Try.underlying35
  info := by kernel_rfl
  hzs := rfl
  hsz := by decide
  hby := by decide
  henc := fun _ => rfl
  hone := fun x u h => by simp [Ins.cells] at h; rcases h with rfl | rfl | rfl | rfl <;> rfl

theorem u8_map (l : List Int) : l.flatMap u8E.enc = l.map (Value.int .u8) := by
  induction l with
  | nil => rfl
  | cons x l ih => rw [List.flatMap_cons, ih]; rfl
/-- one's own bytes as a string -/
theorem own_str {w : World} {B : Nat} {v : Value} {l : List Int} (h : Own u8E w B v l) : (convert 29 9 v).run Try.prog w = .ok (.string (bytesS l)) w := by
  have hc := fun g hg => World.ownsRow.cells (g := g) h hg
  obtain ⟨h1, h2⟩ := h
  rcases h2 with ⟨rfl, h0⟩ | ⟨g, cap, cur, rfl, hg, hh, hr⟩
  · have : l = [] := List.length_eq_zero_iff.1 h0
    subst this
    rw [run_convert_bytes_string w 29 9 5 _ _ _ Try.underlying29 Try.underlying5 Try.underlying9]
    rfl
  · exact run_str w 29 9 5 ⟨g, 0, none⟩ cap l Try.underlying29 Try.underlying5 Try.underlying9 (by
      have := hc g rfl
      rw [u8_map] at this
      exact this)

def InsAt (w : World) (b o : Nat) (x : Ins) : Prop := w.cell? ⟨b, o, none⟩ = some (.int .i64 x.op) ∧ w.cell? ⟨b, o + 1, none⟩ = some (.int .i64 x.a) ∧ w.cell? ⟨b, o + 2, none⟩ = some (.int .i64 x.b) ∧ w.cell? ⟨b, o + 3, none⟩ = some (.int .i64 x.c)
/-- a slice of instructions -/
def InsSl (w : World) (a : Option Addr) (l : List Ins) : Prop := ∀ j (hj : j < l.length), ∃ b o, a = some ⟨b, o, none⟩ ∧ InsAt w b (o + j * 4) l[j]
theorem InsAt.below {w w' : World} {b o : Nat} {x : Ins} (h : InsAt w b o x) (hb : Below w.heap.size w w') : InsAt w' b o x :=
  ⟨below_cell hb h.1, below_cell hb h.2.1, below_cell hb h.2.2.1, below_cell hb h.2.2.2⟩
theorem InsSl.below {w w' : World} {a : Option Addr} {l : List Ins} (h : InsSl w a l) (hb : Below w.heap.size w w') : InsSl w' a l := fun j hj => by
  obtain ⟨b, o, h1, h2⟩ := h j hj
  exact ⟨b, o, h1, h2.below hb⟩
theorem take_snoc {α : Type} (l : List α) (k : Nat) (h : k < l.length) : l.take (k + 1) = l.take k ++ [l[k]] := by
  rw [List.take_succ_eq_append_getElem h]
theorem flat_cells (l : List Ins) (j r : Nat) (hj : j < l.length) (hr : r < 4) : (l.flatMap Ins.cells)[j * 4 + r]? = (l[j].cells)[r]? := by
  induction l generalizing j with
  | nil => cases hj
  | cons x l ih =>
    rw [List.flatMap_cons]
    cases j with
    | zero =>
      rw [List.getElem?_append_left (by simpa [Ins.cells] using hr)]; simp
    | succ j =>
      rw [List.getElem?_append_right (by simp [Ins.cells]; omega)]
      have : (j + 1) * 4 + r - x.cells.length = j * 4 + r := by simp [Ins.cells]; omega
      rw [this, ih j (by simpa using hj)]
      rfl
/-- one's own instructions, to be read -/
theorem own_ins {w : World} {B : Nat} {v : Value} {l : List Ins} (h : Own insE w B v l) : ∃ a c, v = .slice a l.length c ∧ InsSl w a l := by
  have hc := fun g hg => World.ownsRow.cells (g := g) h hg
  obtain ⟨h1, h2⟩ := h
  rcases h2 with ⟨rfl, h0⟩ | ⟨g, cap, cur, rfl, hg, hh, hr⟩
  · have : l = [] := List.length_eq_zero_iff.1 h0
    subst this
    exact ⟨none, 0, rfl, fun j hj => by cases hj⟩
  · refine ⟨_, cap, rfl, fun j hj => ⟨g, 0, rfl, ?_⟩⟩
    have hg := hc g rfl
    have hf := flat_cells l j
    have hadd : ∀ n, (⟨g, 0, none⟩ : Addr).add n = ⟨g, n, none⟩ := fun n => by
      unfold Addr.add; split
      · subst n; rfl
      · simp
    have q : ∀ r (hr : r < 4) u, (l[j].cells)[r]? = some u → w.cell? ⟨g, j * 4 + r, none⟩ = some u := fun r hr u hu => by
      have := hg (j * 4 + r) u (by rw [← hu]; exact hf r hj hr)
      rw [hadd] at this; exact this
    have e : (0 : Nat) + j * 4 = j * 4 := by omega
    rw [e]
    exact ⟨q 0 (by omega) _ rfl, q 1 (by omega) _ rfl, q 2 (by omega) _ rfl, q 3 (by omega) _ rfl⟩
end Go.Proofs.Ytmmdppjbofbjhaa
