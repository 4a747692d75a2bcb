/- What comes in: a program. The bytes of a program: what reads some bytes wholly reads them ahead of others too; so no cut and no addition is a program. Nothing of the program's text stands here. Walks: the book's lists: copies, marks; are they still what they were? -/
import Derived.Test.YtjcjhfnjamphlaaJAg
import Derived.Test.YtjcjhfnjamphlaaJAf
import Derived.Lib.SmallJoins
import Derived.BigRegion
import Derived.Deep.DeepCutAuto
import Derived.Deep.RegionLaw
import Derived.Deep.RegionHeld3
set_option linter.unusedVariables false
set_option linter.unusedSimpArgs false
namespace Go.Proofs.Ytjcjhfnjamphlaa
open Go.ChangeShapes Go.WideShapes Go.ChangeAt Go.RowKit
variable {H : Type} {enc : TypeId × Value → H}
set_option maxRecDepth 100000 in
/-- a slice that comes in, element by element -/
theorem open_elems {α : Type} [Inhabited α] {w : World} {base : Nat} {sp : Nat → Bool} {hd : Bool} {m : Nat} {t e size : Nat} {cs : List Value} {x : DataW H × List MemPlace} (ht : Try.prog.underlying t = some (.slice e)) (hce : Try.prog.cellsOf e = size) (hsz : 0 < size)
    (R : List Value → α → Prop) (hR : ∀ n ds y, DataW.trod enc Try.prog w base sp hd n e ds = some y → ∃ z, R ds z) (h : DataW.trod enc Try.prog w base sp hd m t cs = some x) :
    ∃ (a : Option Addr) (l : List α) (c : Nat), cs = [.slice a l.length c] ∧ ∀ j (hj : j < l.length), ∃ b o ds, a = some ⟨b, o, none⟩ ∧ R ds l[j] ∧ ds.length = size ∧ ∀ r u, ds[r]? = some u → w.cell? ⟨b, o + j * size + r, none⟩ = some u := by
  rcases Go.Deep.open_slice ht h with ⟨hcs, hx⟩ | ⟨a, len, cap, m, n, D, Pl, hcs, hb, hl, hm, hmm, hx, hel⟩
  · exact ⟨none, [], 0, hcs, fun j hj => by cases hj⟩
  · have hle : len ≤ m := by rw [hmm]; split <;> omega
    rw [hce] at hel
    obtain ⟨f, hF⟩ := Go.Deep.choose_lt (α := α × List Value) (p := fun i y => w.cells? base (a.add (i * size)) size = some y.2 ∧ R y.2 y.1) (n := len) (fun i hi => by
      obtain ⟨cs', h1, h2⟩ := hel i (by omega)
      obtain ⟨z, hz⟩ := hR _ _ _ h2
      exact ⟨(z, cs'), h1, hz⟩)
    refine ⟨some a, (List.range len).map fun i => (f i).1, cap, by rw [hcs]; simp, fun j hj => ?_⟩
    simp at hj
    have hspot : ∀ i, i < len → (a.add (i * size)).spot = none := fun i hi => by
      obtain ⟨_, hlen, hc⟩ := World.cells?_some (hF i hi).1
      have h0 := hc 0 hsz
      have hp : (a.add (i * size)).add 0 = a.add (i * size) := rfl
      rw [hp, List.getElem?_eq_getElem (by omega)] at h0
      have := plain_addr h0
      rw [this]
    have ha : a.spot = none := by
      have := hspot 0 (by omega)
      rw [Nat.zero_mul] at this
      exact this
    obtain ⟨_, hlen, hc⟩ := World.cells?_some (hF j hj).1
    obtain ⟨bb, oo, ss⟩ := a
    dsimp only at ha
    subst ha
    refine ⟨bb, oo, (f j).2, rfl, by simpa using (hF j hj).2, hlen, fun r u hu => ?_⟩
    have hr : r < size := by
      rcases Nat.lt_or_ge r size with h' | h'
      · exact h'
      · rw [List.getElem?_eq_none (by omega)] at hu; cases hu
    have h1 := hc r hr
    rw [addr_add ⟨bb, oo, none⟩ rfl (j * size), addr_add ⟨bb, oo + j * size, none⟩ rfl r] at h1
    dsimp only at h1
    rw [h1, hu]
instance : Inhabited Fun := ⟨⟨[], 0, 0, [], []⟩⟩
end Go.Proofs.Ytjcjhfnjamphlaa
namespace Go.Proofs.Ytjcjhfnjamphlaa
def f5 (a : List Int) (r l : Int) (o : List Int) (n : Int) (s : RS) : Fun × RS := (⟨a, r, l, o, readL (rTake s (n.toNat * 7)).1⟩, ((rTake s (n.toNat * 7)).2.1, (rTake s (n.toNat * 7)).2.2 || !readOk (rTake s (n.toNat * 7)).1))
def f4 (a : List Int) (r l : Int) (o : List Int) (s : RS) : Fun × RS := f5 a r l o (rNum s).1 (rNum s).2
def f3 (a : List Int) (r l : Int) (s : RS) : Fun × RS := f4 a r l (rList s).1 (rList s).2
def f2 (a : List Int) (r : Int) (s : RS) : Fun × RS := f3 a r (rNum s).1 (rNum s).2
def f1 (a : List Int) (s : RS) : Fun × RS := f2 a (rNum s).1 (rNum s).2
def p3 (g : List Int) (sh : List (List Int)) (m : Int) (s : RS) : Prg × RS := (⟨g, sh, (rFuncs s m.toNat).1⟩, (rFuncs s m.toNat).2)
def p2 (g : List Int) (sh : List (List Int)) (s : RS) : Prg × RS := p3 g sh (rNum s).1 (rNum s).2
def p1 (g : List Int) (n : Int) (s : RS) : Prg × RS := p2 g (rShapes s n.toNat).1 (rShapes s n.toNat).2
def p0 (g : List Int) (s : RS) : Prg × RS := p1 g (rNum s).1 (rNum s).2
end Go.Proofs.Ytjcjhfnjamphlaa
namespace Go.Proofs.Ytjcjhfnjamphlaa
open Go.ChangeShapes Go.WideShapes Go.ChangeAt Go.RowKit
theorem int_map (l : List Int) : l.flatMap intE.enc = l.map (Value.int .i64) := by
  induction l with
  | nil => rfl
  | cons x l ih => rw [List.flatMap_cons, ih]; rfl
theorem sl_cellsInts {w : World} {D : Nat → Prop} {a : Option Addr} {l : List Int} (h : IntSl w D a l) (hn : 1 ≤ l.length) : ∃ b o, a = some ⟨b, o, none⟩ ∧ CellsAt w b o (l.flatMap intE.enc) := by
  obtain ⟨b, o, rfl, _, _⟩ := h 0 (by omega)
  refine ⟨b, o, rfl, fun j u hj => ?_⟩
  rw [int_map] at hj
  rcases Nat.lt_or_ge j l.length with hlt | hge
  · obtain ⟨b', o', h1, _, h3⟩ := h j hlt
    injection h1 with h1
    injection h1 with h1 h2 _
    subst h1 h2
    rw [List.getElem?_map, List.getElem?_eq_getElem hlt] at hj
    injection hj with hj
    rw [← hj]; exact h3
  · rw [List.getElem?_eq_none (by simpa using hge)] at hj; cases hj
end Go.Proofs.Ytjcjhfnjamphlaa
