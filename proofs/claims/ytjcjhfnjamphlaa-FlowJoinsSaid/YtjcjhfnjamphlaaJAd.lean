/- Walks: package image's writer. Walks: package image's writer: lists, functions. An append of a string onto bytes of one's own. -/
import Derived.Test.YtjcjhfnjamphlaaJAc
import Derived.Lib.AppendStr
set_option linter.unusedVariables false
set_option linter.unusedSimpArgs false
namespace Go.Proofs.Ytjcjhfnjamphlaa
open Go.ChangeShapes Go.WideShapes Go.ChangeAt Go.RowKit
/-- a slice of numbers, in blocks of D -/
def IntSl (w : World) (D : Nat → Prop) (a : Option Addr) (l : List Int) : Prop := ∀ j (hj : j < l.length), ∃ b o, a = some ⟨b, o, none⟩ ∧ D b ∧ w.cell? ⟨b, o + j, none⟩ = some (.int .i64 l[j])
theorem IntSl.fr {F : Nat → Prop} {w w' : World} {D : Nat → Prop} {a : Option Addr} {l : List Int} (h : IntSl w D a l) (hf : Fr F w w') (hd : ∀ k, D k → ¬ F k) : IntSl w' D a l := fun j hj => by
  obtain ⟨b, o, h1, h2, h3⟩ := h j hj
  exact ⟨b, o, h1, h2, hf.cell h3 (hd b h2)⟩
theorem two_cells {w : World} {p : Nat} {x y : Value} {t : TypeId} (h : w.heap[p]? = some (.cells #[x, y] t)) :
    w.cell? ⟨p, 0, none⟩ = some x ∧ w.cell? ⟨p, 1, none⟩ = some y ∧ w.frozen? ⟨p, 0, none⟩ = false ∧ w.frozen? ⟨p, 1, none⟩ = false := by
  simp [World.cell?, World.frozen?, h]
theorem Fresh.trans {a b : World} {v1 v2 v3 : Value} (h : Fresh a v1 v2) (k : Fresh b v2 v3) (hs : a.heap.size ≤ b.heap.size) : Fresh a v1 v3 := fun n hn => by
  rcases k n hn with h' | h'
  · exact h n h'
  · exact .inr (by omega)

end Go.Proofs.Ytjcjhfnjamphlaa
namespace Go.Proofs.Ytjcjhfnjamphlaa
open Go.ChangeShapes Go.WideShapes Go.ChangeAt Go.RowKit
/-- a new slice of numbers -/
theorem int_new (w : World) (l : List Int) : IntSl (w.alloc (.cells (l.map (Value.int .i64)).toArray 3)) (fun k => k = w.heap.size) (some ⟨w.heap.size, 0, none⟩) l := fun j hj =>
  ⟨w.heap.size, 0, rfl, rfl, by rw [Nat.zero_add, cell_new]; simp [hj]⟩
end Go.Proofs.Ytjcjhfnjamphlaa
namespace Go.Proofs.Ytjcjhfnjamphlaa
open Go.ChangeShapes Go.WideShapes Go.ChangeAt Go.RowKit
/-- a function, a program -/
structure Fun where (args : List Int) (result slots : Int) (objects : List Int) (code : List Ins)
structure Prg where (globals : List Int) (shapes : List (List Int)) (funcs : List Fun)
def InsSlD (w : World) (D : Nat → Prop) (a : Option Addr) (l : List Ins) : Prop := ∀ j (hj : j < l.length), ∃ b o, a = some ⟨b, o, none⟩ ∧ D b ∧ InsAt w b (o + j * 4) l[j]
theorem InsSlD.fr {F : Nat → Prop} {w w' : World} {D : Nat → Prop} {a : Option Addr} {l : List Ins} (h : InsSlD w D a l) (hf : Fr F w w') (hd : ∀ k, D k → ¬ F k) : InsSlD w' D a l := fun j hj => by
  obtain ⟨b, o, h1, h2, h3⟩ := h j hj
  have hn := hd b h2
  exact ⟨b, o, h1, h2, hf.cell h3.1 hn, hf.cell h3.2.1 hn, hf.cell h3.2.2.1 hn, hf.cell h3.2.2.2 hn⟩
theorem InsSlD.plain {w : World} {D : Nat → Prop} {a : Option Addr} {l : List Ins} (h : InsSlD w D a l) : InsSl w a l := fun j hj => by
  obtain ⟨b, o, h1, _, h3⟩ := h j hj
  exact ⟨b, o, h1, h3⟩
/-- a function's five cells -/
def FunVal (w : World) (D : Nat → Prop) (f : Fun) (c0 c1 c2 c3 c4 : Value) : Prop :=
  c1 = .int .i64 f.result ∧ c2 = .int .i64 f.slots ∧ (∃ a c, c0 = .slice a f.args.length c ∧ IntSl w D a f.args) ∧ (∃ a c, c3 = .slice a f.objects.length c ∧ IntSl w D a f.objects) ∧ ∃ a c, c4 = .slice a f.code.length c ∧ InsSlD w D a f.code
theorem FunVal.fr {F : Nat → Prop} {w w' : World} {D : Nat → Prop} {f : Fun} {c0 c1 c2 c3 c4 : Value} (h : FunVal w D f c0 c1 c2 c3 c4) (hf : Fr F w w') (hd : ∀ k, D k → ¬ F k) : FunVal w' D f c0 c1 c2 c3 c4 := by
  obtain ⟨h1, h2, ⟨a, c, h3, h4⟩, ⟨a', c', h5, h6⟩, a'', c'', h7, h8⟩ := h
  exact ⟨h1, h2, ⟨a, c, h3, h4.fr hf hd⟩, ⟨a', c', h5, h6.fr hf hd⟩, a'', c'', h7, h8.fr hf hd⟩
end Go.Proofs.Ytjcjhfnjamphlaa
