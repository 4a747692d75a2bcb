/- Walk: image.Lay: a program's bytes. Walks: package image's reader: take, num, list. Walk: package image's reader: a function. Walk: image.Read: the program of bytes. New blocks that stay: what a call boxes first. Nothing of the program stands here. Families of lists that one owns, none of which lies in another's memory. Nothing of the program's text stands here. -/
import Derived.Test.YtknbllbhakpaaaaGreatHAb
import Derived.Deep.RegionLaw
set_option linter.unusedVariables false
set_option linter.unusedSimpArgs false
namespace Go.Proofs.YtknbllbhakpaaaaGreat
open Go.ChangeShapes Go.WideShapes Go.ChangeAt Go.RowKit
def ShSl (w : World) (D : Nat → Prop) (a : Option Addr) (l : List (List Int)) : Prop := ∀ j (hj : j < l.length), ∃ b o, a = some ⟨b, o, none⟩ ∧ D b ∧ ∃ a' c', w.cell? ⟨b, o + j, none⟩ = some (.slice a' l[j].length c') ∧ IntSl w D a' l[j]
theorem ShSl.fr {F : Nat → Prop} {w w' : World} {D : Nat → Prop} {a : Option Addr} {l : List (List Int)} (h : ShSl w D a l) (hf : Fr F w w') (hd : ∀ k, D k → ¬ F k) : ShSl w' D a l := fun j hj => by
  obtain ⟨b, o, h1, h2, a', c', h3, h4⟩ := h j hj
  exact ⟨b, o, h1, h2, a', c', hf.cell h3 (hd b h2), h4.fr hf hd⟩
def FnSl (w : World) (D : Nat → Prop) (a : Option Addr) (l : List Fun) : Prop := ∀ j (hj : j < l.length), ∃ b o, a = some ⟨b, o, none⟩ ∧ D b ∧ ∃ c0 c1 c2 c3 c4, w.cell? ⟨b, o + j * 5, none⟩ = some c0 ∧ w.cell? ⟨b, o + j * 5 + 1, none⟩ = some c1 ∧ w.cell? ⟨b, o + j * 5 + 2, none⟩ = some c2 ∧ w.cell? ⟨b, o + j * 5 + 3, none⟩ = some c3 ∧ w.cell? ⟨b, o + j * 5 + 4, none⟩ = some c4 ∧ FunVal w D l[j] c0 c1 c2 c3 c4
theorem FnSl.fr {F : Nat → Prop} {w w' : World} {D : Nat → Prop} {a : Option Addr} {l : List Fun} (h : FnSl w D a l) (hf : Fr F w w') (hd : ∀ k, D k → ¬ F k) : FnSl w' D a l := fun j hj => by
  obtain ⟨b, o, h1, h2, c0, c1, c2, c3, c4, q0, q1, q2, q3, q4, h4⟩ := h j hj
  have hn := hd b h2
  exact ⟨b, o, h1, h2, c0, c1, c2, c3, c4, hf.cell q0 hn, hf.cell q1 hn, hf.cell q2 hn, hf.cell q3 hn, hf.cell q4 hn, h4.fr hf hd⟩
/-- a program's three cells -/
def PrgVal (w : World) (D : Nat → Prop) (p : Prg) (c0 c1 c2 : Value) : Prop :=
  (∃ a c, c0 = .slice a p.globals.length c ∧ IntSl w D a p.globals) ∧ (∃ a c, c1 = .slice a p.shapes.length c ∧ ShSl w D a p.shapes) ∧ ∃ a c, c2 = .slice a p.funcs.length c ∧ FnSl w D a p.funcs
theorem PrgVal.fr {F : Nat → Prop} {w w' : World} {D : Nat → Prop} {p : Prg} {c0 c1 c2 : Value} (h : PrgVal w D p c0 c1 c2) (hf : Fr F w w') (hd : ∀ k, D k → ¬ F k) : PrgVal w' D p c0 c1 c2 := by
  obtain ⟨⟨a, c, h1, h2⟩, ⟨a', c', h3, h4⟩, a'', c'', h5, h6⟩ := h
  exact ⟨⟨a, c, h1, h2.fr hf hd⟩, ⟨a', c', h3, h4.fr hf hd⟩, a'', c'', h5, h6.fr hf hd⟩
theorem PrgVal.dom {w : World} {D D' : Nat → Prop} {p : Prg} {c0 c1 c2 : Value} (h : PrgVal w D p c0 c1 c2) (hd : ∀ k, D k → D' k) : PrgVal w D' p c0 c1 c2 := by
  have hi : ∀ {a : Option Addr} {l : List Int}, IntSl w D a l → IntSl w D' a l := fun h j hj => by
    obtain ⟨b, o, h1, h2, h3⟩ := h j hj
    exact ⟨b, o, h1, hd b h2, h3⟩
  obtain ⟨⟨a, c, h1, h2⟩, ⟨a', c', h3, h4⟩, a'', c'', h5, h6⟩ := h
  refine ⟨⟨a, c, h1, hi h2⟩, ⟨a', c', h3, fun j hj => ?_⟩, a'', c'', h5, fun j hj => ?_⟩
  · obtain ⟨b, o, g1, g2, x, y, g3, g4⟩ := h4 j hj
    exact ⟨b, o, g1, hd b g2, x, y, g3, hi g4⟩
  · obtain ⟨b, o, g1, g2, c0, c1, c2, c3, c4, q0, q1, q2, q3, q4, e1, e2, ⟨x0, y0, e3, e4⟩, ⟨x1, y1, e5, e6⟩, x2, y2, e7, e8⟩ := h6 j hj
    refine ⟨b, o, g1, hd b g2, c0, c1, c2, c3, c4, q0, q1, q2, q3, q4, e1, e2, ⟨x0, y0, e3, hi e4⟩, ⟨x1, y1, e5, hi e6⟩, x2, y2, e7, fun i hi => ?_⟩
    obtain ⟨b', o', r1, r2, r3⟩ := e8 i hi
    exact ⟨b', o', r1, hd b' r2, r3⟩

end Go.Proofs.YtknbllbhakpaaaaGreat
namespace Go.Proofs.YtknbllbhakpaaaaGreat
open Go.ChangeShapes Go.WideShapes Go.ChangeAt Go.RowKit
/-- a reader's state: what is left, and whether it was too little -/
abbrev RS := ByteArray × Bool
def rTake (s : RS) (n : Nat) : ByteArray × RS := if s.1.size < n then (⟨#[]⟩, (⟨#[]⟩, true)) else (s.1.extract 0 n, (s.1.extract n s.1.size, s.2))
def rNum (s : RS) : Int × RS := if s.1.size < 1 then (0, (⟨#[]⟩, true)) else (gb s.1 0, (s.1.extract 1 s.1.size, s.2))
def rNums (s : RS) : Nat → List Int × RS
  | 0 => ([], s)
  | n + 1 => ((rNums s n).1 ++ [(rNum (rNums s n).2).1], (rNum (rNums s n).2).2)
def rList (s : RS) : List Int × RS := rNums (rNum s).2 (rNum s).1.toNat
def onB (p : Nat) : Nat → Prop := fun k => k = p
end Go.Proofs.YtknbllbhakpaaaaGreat
namespace Go.Proofs.YtknbllbhakpaaaaGreat
open Go.ChangeShapes Go.WideShapes Go.ChangeAt Go.RowKit
def rFn (s : RS) : Fun × RS :=
  let a := rList s
  let r := rNum a.2
  let l := rNum r.2
  let o := rList l.2
  let n := rNum o.2
  let c := rTake n.2 (n.1.toNat * 7)
  (⟨a.1, r.1, l.1, o.1, readL c.1⟩, (c.2.1, c.2.2 || !readOk c.1))
theorem row_cell {w : World} {q : Nat} {cs : Array Value} {t : TypeId} (h : w.heap[q]? = some (.cells cs t)) (j : Nat) : w.cell? ⟨q, j, none⟩ = cs[j]? ∧ w.frozen? ⟨q, j, none⟩ = false := by
  simp [World.cell?, World.frozen?, h]
theorem row_set {w : World} {q : Nat} {cs : Array Value} {t : TypeId} (h : w.heap[q]? = some (.cells cs t)) (j : Nat) (u : Value) : (w.setCell ⟨q, j, none⟩ u).heap[q]? = some (.cells (cs.setIfInBounds j u) t) := by
  simp only [World.setCell, Array.getElem?_modify, if_pos rfl, h, Option.map]
  rfl
/-- five cells of a block -/
theorem five_cells {w : World} {q : Nat} {x0 x1 x2 x3 x4 : Value} {t : TypeId} (h : w.heap[q]? = some (.cells #[x0, x1, x2, x3, x4] t)) :
    (w.cell? ⟨q, 0, none⟩ = some x0 ∧ w.cell? ⟨q, 1, none⟩ = some x1 ∧ w.cell? ⟨q, 2, none⟩ = some x2 ∧ w.cell? ⟨q, 3, none⟩ = some x3 ∧ w.cell? ⟨q, 4, none⟩ = some x4) ∧
    (w.frozen? ⟨q, 0, none⟩ = false ∧ w.frozen? ⟨q, 1, none⟩ = false ∧ w.frozen? ⟨q, 2, none⟩ = false ∧ w.frozen? ⟨q, 3, none⟩ = false ∧ w.frozen? ⟨q, 4, none⟩ = false) :=
  ⟨⟨(row_cell h 0).1, (row_cell h 1).1, (row_cell h 2).1, (row_cell h 3).1, (row_cell h 4).1⟩, (row_cell h 0).2, (row_cell h 1).2, (row_cell h 2).2, (row_cell h 3).2, (row_cell h 4).2⟩
end Go.Proofs.YtknbllbhakpaaaaGreat
namespace Go.Proofs.YtknbllbhakpaaaaGreat
open Go.ChangeShapes Go.WideShapes Go.ChangeAt Go.RowKit
/-- a slice's head -/
structure Hd where (a : Option Addr) (n c : Nat)
def Hd.val (h : Hd) : Value := .slice h.a h.n h.c
/-- one's own numbers, to be read -/
theorem own_int {w : World} {B : Nat} {v : Value} {l : List Int} (h : Own intE w B v l) : ∃ a c, v = .slice a l.length c ∧ IntSl w (fun k => v.ownBlock = some k) a l := by
  have hc := fun g hg => World.ownsRow.cells (g := g) h hg
  obtain ⟨h1, h2⟩ := h
  rcases h2 with ⟨rfl, h0⟩ | ⟨g, cap, cur, rfl, hg, hh, hr⟩
  · have : l = [] := List.length_eq_zero_iff.1 h0
    subst this
    exact ⟨none, 0, rfl, fun j hj => by cases hj⟩
  · refine ⟨_, cap, rfl, fun j hj => ⟨g, 0, rfl, rfl, ?_⟩⟩
    have := hc g rfl j (.int .i64 l[j]) (by
      have : l.flatMap intE.enc = l.map (Value.int .i64) := by
        clear hc h1 hr hj
        induction l with
        | nil => rfl
        | cons x l ih => rw [List.flatMap_cons, ih]; rfl
      rw [this]; simp [hj])
    unfold Addr.add at this
    rw [Nat.zero_add]
    split at this
    · subst j; exact this
    · simpa using this
def rShapes (s : RS) : Nat → List (List Int) × RS
  | 0 => ([], s)
  | n + 1 => ((rShapes s n).1 ++ [(rList (rShapes s n).2).1], (rList (rShapes s n).2).2)
def rFuncs (s : RS) : Nat → List Fun × RS
  | 0 => ([], s)
  | n + 1 => ((rFuncs s n).1 ++ [(rFn (rFuncs s n).2).1], (rFn (rFuncs s n).2).2)
theorem IntSl.dom {w : World} {D D' : Nat → Prop} {a : Option Addr} {l : List Int} (h : IntSl w D a l) (hd : ∀ k, D k → D' k) : IntSl w D' a l := fun j hj => by
  obtain ⟨b, o, h1, h2, h3⟩ := h j hj
  exact ⟨b, o, h1, hd b h2, h3⟩
theorem InsSlD.dom {w : World} {D D' : Nat → Prop} {a : Option Addr} {l : List Ins} (h : InsSlD w D a l) (hd : ∀ k, D k → D' k) : InsSlD w D' a l := fun j hj => by
  obtain ⟨b, o, h1, h2, h3⟩ := h j hj
  exact ⟨b, o, h1, hd b h2, h3⟩
end Go.Proofs.YtknbllbhakpaaaaGreat
namespace Go.Proofs.YtknbllbhakpaaaaGreat
open Go.RowKit
theorem box1 (w : World) (cs : Array Value) (t : TypeId) (wr : World) (h : Below (w.heap.size + 1) (w.alloc (.cells cs t)) wr) :
    (∀ j u, cs[j]? = some u → wr.cell? ⟨w.heap.size, j, none⟩ = some u) ∧ Below w.heap.size w wr ∧ w.heap.size + 1 ≤ wr.heap.size := by
  refine ⟨fun j u hj => ?_, ((Below.refl _ _).alloc (Nat.le_refl _) _).trans (h.mono (by simp)), by have := h.size; simpa using this⟩
  rw [h.cell (by simp), cell_new]; exact hj
theorem box2 (w : World) (cs cs' : Array Value) (t t' : TypeId) (wr : World) (h : Below (w.heap.size + 2) ((w.alloc (.cells cs t)).alloc (.cells cs' t')) wr) :
    (∀ j u, cs[j]? = some u → wr.cell? ⟨w.heap.size, j, none⟩ = some u) ∧ (∀ j u, cs'[j]? = some u → wr.cell? ⟨w.heap.size + 1, j, none⟩ = some u) ∧ Below w.heap.size w wr ∧ w.heap.size + 2 ≤ wr.heap.size := by
  refine ⟨fun j u hj => ?_, fun j u hj => ?_, (((Below.refl _ _).alloc (Nat.le_refl _) _).alloc (by simp) _).trans (h.mono (by simp)), by have := h.size; simpa using this⟩
  · rw [h.cell (by simp), cell_under _ _ (by simp), cell_new]; exact hj
  · rw [h.cell (by simp)]
    have := cell_new (w.alloc (.cells cs t)) cs' t' (0, 0) j
    rw [show (w.alloc (.cells cs t)).heap.size = w.heap.size + 1 from by simp] at this
    rw [this]; exact hj
/-- a new row that one owns -/
theorem own_new {P : Program} {α : Type} (E : Elem P α) (w : World) (l : List α) (cs : Array Value) (h : cs.toList = l.flatMap E.enc) (hl : l.length ≤ maxLen) : Own E (w.alloc (.cells cs E.e)) w.heap.size (.slice (some ⟨w.heap.size, 0, none⟩) l.length l.length) l := by
  refine ⟨E.len l, .inr ⟨w.heap.size, l.length, cs, rfl, Nat.le_refl _, heap_new w _, Nat.le_refl _, hl, ?_, ?_⟩⟩
  · rw [← E.len l, ← h]; simp
  · rw [h, List.take_of_length_le]; rw [E.len l]; exact Nat.le_refl _
end Go.Proofs.YtknbllbhakpaaaaGreat
namespace Go.Proofs.YtknbllbhakpaaaaGreat
open Go.RowKit
variable {P : Program} {α : Type}
/-- one's own elements, as cells -/
theorem Own.cells {E : Elem P α} {w : World} {B : Nat} {v : Value} {l : List α} (h : Own E w B v l) (hne : 1 ≤ l.length) : ∃ g c, v = .slice (some ⟨g, 0, none⟩) l.length c ∧ B ≤ g ∧ g < w.heap.size ∧ CellsAt w g 0 (l.flatMap E.enc) := by
  have hc := fun g hg => World.ownsRow.cells (g := g) h hg
  have hlt := fun k hk => h.lt (k := k) hk
  obtain ⟨h1, h2⟩ := h
  rcases h2 with ⟨rfl, h0⟩ | ⟨g, cap, cur, rfl, hg, hh, hr⟩
  · omega
  · refine ⟨g, cap, rfl, hg, (hlt g rfl).2, fun j u hj => ?_⟩
    have := hc g rfl j u hj
    unfold Addr.add at this
    split at this
    · subst j; exact this
    · simpa using this
variable {E : Elem P α} {HE : Elem P Hd} {w w' : World} {B : Nat} {X : Nat → Prop} {v : Value} {hs : List Hd} {ls : List (List α)}
end Go.Proofs.YtknbllbhakpaaaaGreat
