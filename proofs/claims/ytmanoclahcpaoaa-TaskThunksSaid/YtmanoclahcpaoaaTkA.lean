/- What a task reads of a program: how many arguments, slots, which stack objects; how many fields a shape has. Nothing of the program's text stands here. -/
import Derived.Test.YtmanoclahcpaoaaBox
namespace Go.Proofs.Ytmanoclahcpaoaa
open Go.ChangeShapes Go.WideShapes Go.ChangeAt Go.RowKit

theorem take_snoc {α : Type} (l : List α) (k : Nat) (hk : k < l.length) : l.take (k + 1) = l.take k ++ [l[k]] := by
  rw [List.take_add_one, List.getElem?_eq_getElem hk]
  rfl
structure TFun where (nargs : Nat) (slots : Int) (objects : List Int)
structure TPrg where (shapes : List Nat) (funcs : List TFun)
def IntSl (w : World) (D : Nat → Prop) (a : Option Addr) (l : List Int) : Prop := ∀ j (hj : j < l.length), ∃ b o, a = some ⟨b, o, none⟩ ∧ D b ∧ w.cell? ⟨b, o + j, none⟩ = some (.int .i64 l[j])
theorem IntSl.fr {F : Nat → Prop} {w w' : World} {D : Nat → Prop} {a : Option Addr} {l : List Int} (h : IntSl w D a l) (hf : Fr F w w') (hd : ∀ k, D k → ¬ F k) : IntSl w' D a l := fun j hj => by
  obtain ⟨b, o, h1, h2, h3⟩ := h j hj
  exact ⟨b, o, h1, h2, hf.cell h3 (hd b h2)⟩
def ShL (w : World) (D : Nat → Prop) (a : Option Addr) (l : List Nat) : Prop := ∀ j (hj : j < l.length), ∃ b o, a = some ⟨b, o, none⟩ ∧ D b ∧ ∃ a' c', w.cell? ⟨b, o + j, none⟩ = some (.slice a' l[j] c')
theorem ShL.fr {F : Nat → Prop} {w w' : World} {D : Nat → Prop} {a : Option Addr} {l : List Nat} (h : ShL w D a l) (hf : Fr F w w') (hd : ∀ k, D k → ¬ F k) : ShL w' D a l := fun j hj => by
  obtain ⟨b, o, h1, h2, a', c', h3⟩ := h j hj
  exact ⟨b, o, h1, h2, a', c', hf.cell h3 (hd b h2)⟩
def FunV (w : World) (D : Nat → Prop) (f : TFun) (c0 c1 c2 c3 c4 : Value) : Prop :=
  (∃ a c, c0 = .slice a f.nargs c) ∧ (∃ r, c1 = .int .i64 r) ∧ c2 = .int .i64 f.slots ∧ (∃ a c, c3 = .slice a f.objects.length c ∧ IntSl w D a f.objects) ∧ ∃ a n c, c4 = .slice a n c
theorem FunV.fr {F : Nat → Prop} {w w' : World} {D : Nat → Prop} {f : TFun} {c0 c1 c2 c3 c4 : Value} (h : FunV w D f c0 c1 c2 c3 c4) (hf : Fr F w w') (hd : ∀ k, D k → ¬ F k) : FunV w' D f c0 c1 c2 c3 c4 := by
  obtain ⟨h1, h2, h3, ⟨a, c, h4, h5⟩, h6⟩ := h
  exact ⟨h1, h2, h3, ⟨a, c, h4, h5.fr hf hd⟩, h6⟩
def FnL (w : World) (D : Nat → Prop) (a : Option Addr) (l : List TFun) : Prop := ∀ j (hj : j < l.length), ∃ b o, a = some ⟨b, o, none⟩ ∧ D b ∧ ∃ c0 c1 c2 c3 c4, w.cell? ⟨b, o + j * 5, none⟩ = some c0 ∧ w.cell? ⟨b, o + j * 5 + 1, none⟩ = some c1 ∧ w.cell? ⟨b, o + j * 5 + 2, none⟩ = some c2 ∧ w.cell? ⟨b, o + j * 5 + 3, none⟩ = some c3 ∧ w.cell? ⟨b, o + j * 5 + 4, none⟩ = some c4 ∧ FunV w D l[j] c0 c1 c2 c3 c4
theorem FnL.fr {F : Nat → Prop} {w w' : World} {D : Nat → Prop} {a : Option Addr} {l : List TFun} (h : FnL w D a l) (hf : Fr F w w') (hd : ∀ k, D k → ¬ F k) : FnL w' D a l := fun j hj => by
  obtain ⟨b, o, h1, h2, c0, c1, c2, c3, c4, q0, q1, q2, q3, q4, h4⟩ := h j hj
  have hn := hd b h2
  exact ⟨b, o, h1, h2, c0, c1, c2, c3, c4, hf.cell q0 hn, hf.cell q1 hn, hf.cell q2 hn, hf.cell q3 hn, hf.cell q4 hn, h4.fr hf hd⟩
/-- a program's three cells -/
def PV (w : World) (D : Nat → Prop) (p : TPrg) (c0 c1 c2 : Value) : Prop :=
  (∃ a n c, c0 = .slice a n c) ∧ (∃ a c, c1 = .slice a p.shapes.length c ∧ ShL w D a p.shapes) ∧ ∃ a c, c2 = .slice a p.funcs.length c ∧ FnL w D a p.funcs
theorem PV.fr {F : Nat → Prop} {w w' : World} {D : Nat → Prop} {p : TPrg} {c0 c1 c2 : Value} (h : PV w D p c0 c1 c2) (hf : Fr F w w') (hd : ∀ k, D k → ¬ F k) : PV w' D p c0 c1 c2 := by
  obtain ⟨h0, ⟨a', c', h3, h4⟩, a'', c'', h5, h6⟩ := h
  exact ⟨h0, ⟨a', c', h3, h4.fr hf hd⟩, a'', c'', h5, h6.fr hf hd⟩
theorem PV.below {w w' : World} {D : Nat → Prop} {p : TPrg} {c0 c1 c2 : Value} (h : PV w D p c0 c1 c2) (hb : Below w.heap.size w w') : PV w' D p c0 c1 c2 := h.fr (Fr.of_below hb (fun _ => False)) (fun _ _ h => h)
def withinB (n m : Int) : Bool := decide (0 ≤ n) && decide (n < m)
theorem within_nat {b : Int} {n : Nat} (h : withinB b n = true) : ∃ k : Nat, b = k ∧ k < n := by
  simp [withinB] at h
  exact ⟨b.toNat, by omega, by omega⟩
/-- how many words an object of a shape has -/
def fieldsN (p : TPrg) (s : Int) : Nat := if withinB s p.shapes.length = true then (p.shapes[s.toNat]?).getD 0 else 0
def objsN (p : TPrg) (l : List Int) : Nat := (l.map (fieldsN p)).sum
/-- how many words a frame of a function has -/
def frameN (p : TPrg) (f : TFun) : Nat := 2 + f.slots.toNat + objsN p f.objects
def wordsN (p : TPrg) (fn : Int) : Nat := if withinB fn p.funcs.length = true then ((p.funcs[fn.toNat]?).map (frameN p)).getD 0 else 0
/-- what is small enough to be reckoned with -/
def PSmall (p : TPrg) : Prop := p.shapes.length ≤ 3000 ∧ p.funcs.length ≤ 3000 ∧ (∀ s ∈ p.shapes, s ≤ 3000) ∧ ∀ f ∈ p.funcs, f.nargs ≤ 3000 ∧ f.slots ≤ 3000 ∧ f.objects.length ≤ 3000
theorem fieldsN_le {p : TPrg} (h : PSmall p) (s : Int) : fieldsN p s ≤ 3000 := by
  unfold fieldsN
  split
  · cases hq : p.shapes[s.toNat]? with
    | none => simp
    | some n => exact h.2.2.1 n (List.mem_of_getElem? hq)
  · simp
theorem objsN_le {p : TPrg} (h : PSmall p) (l : List Int) : objsN p l ≤ 3000 * l.length := by
  unfold objsN
  induction l with
  | nil => simp
  | cons x l ih =>
    have := fieldsN_le h x
    simp only [List.map_cons, List.sum_cons, List.length_cons]
    omega
theorem objsN_snoc (p : TPrg) (l : List Int) (k : Nat) (hk : k < l.length) : objsN p (l.take (k + 1)) = objsN p (l.take k) + fieldsN p l[k] := by
  unfold objsN
  rw [take_snoc l k hk, List.map_append, List.sum_append]
  simp
theorem wordsN_at {p : TPrg} (k : Nat) (hk : k < p.funcs.length) : wordsN p k = frameN p p.funcs[k] := by
  have h : withinB (k : Int) p.funcs.length = true := by simp [withinB]; omega
  unfold wordsN
  rw [if_pos h]
  simp [hk]
theorem wordsN_out {p : TPrg} {fn : Int} (h : withinB fn p.funcs.length = false) : wordsN p fn = 0 := by unfold wordsN; rw [h]; rfl
theorem frameN_le {p : TPrg} (h : PSmall p) (f : TFun) (hf : f ∈ p.funcs) : frameN p f ≤ 10000000 := by
  have h1 := h.2.2.2 f hf
  have h2 := objsN_le h f.objects
  unfold frameN
  omega
theorem wordsN_le {p : TPrg} (h : PSmall p) (fn : Int) : wordsN p fn ≤ 10000000 := by
  unfold wordsN
  split
  · cases hq : p.funcs[fn.toNat]? with
    | none => simp
    | some f => exact frameN_le h f (List.mem_of_getElem? hq)
  · simp
end Go.Proofs.Ytmanoclahcpaoaa
