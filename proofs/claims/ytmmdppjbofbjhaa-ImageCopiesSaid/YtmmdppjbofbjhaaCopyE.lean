/- A program that one owns whole, between two blocks; what writes into it leave. -/
import Derived.Test.YtmmdppjbofbjhaaCopyC
namespace Go.Proofs.Ytmmdppjbofbjhaa
open Go.RowKit

theorem PrgOwn.frT {F : Nat → Prop} {w w' : World} {B : Nat} {p : Prg} {c0 c1 c2 : Value} (h : PrgOwn w B p c0 c1 c2) (hf : Fr F w w') (h0 : TyNe w F intE.e) (h1 : TyNe w F insE.e) (h2 : TyNe w F shE.e) (h3 : TyNe w F fnE.e) : PrgOwn w' B p c0 c1 c2 := by
  obtain ⟨a, ⟨hs, b⟩, xs, c⟩ := h
  exact ⟨a.frT hf h0, ⟨hs, b.frT hf h2 h0⟩, xs, c.frT hf h3 h0 h1⟩
theorem PrgOwn.below {w w' : World} {B : Nat} {p : Prg} {c0 c1 c2 : Value} (h : PrgOwn w B p c0 c1 c2) (hb : Below w.heap.size w w') : PrgOwn w' B p c0 c1 c2 :=
  h.frT (Fr.of_below hb (fun _ => False)) TyNe.no TyNe.no TyNe.no TyNe.no
/-- a block of another type is written -/
theorem PrgOwn.other {w w' : World} {B q : Nat} {p : Prg} {c0 c1 c2 : Value} {cs : Array Value} (h : PrgOwn w B p c0 c1 c2) (hf : Fr (onB q) w w') (hq : w.heap[q]? = some (.cells cs 71)) : PrgOwn w' B p c0 c1 c2 := by
  obtain ⟨t1, t2, t3, t4, t5, t6, t7, t8, t9, t10⟩ := ty_ne
  exact h.frT hf (TyNe.one hq (Ne.symm t4)) (TyNe.one hq (Ne.symm t7)) (TyNe.one hq (Ne.symm t9)) (TyNe.one hq (Ne.symm t10))
def HdIn (M : Nat) (h : Hd) : Prop := ∀ k, h.val.ownBlock = some k → k < M
def FnIn (M : Nat) (x : FnH) : Prop := HdIn M x.h0 ∧ HdIn M x.h3 ∧ HdIn M x.h4
/-- a program that one owns whole, all of it ahead of block M -/
def PrgOwnM (w : World) (B M : Nat) (p : Prg) (c0 c1 c2 : Value) : Prop :=
  (Own intE w B c0 p.globals ∧ ∀ k, c0.ownBlock = some k → k < M) ∧
  (∃ hs, ShRow w B c1 hs p.shapes ∧ (∀ k, c1.ownBlock = some k → k < M) ∧ ∀ h ∈ hs, HdIn M h) ∧
  ∃ xs, FnRow w B c2 xs p.funcs ∧ (∀ k, c2.ownBlock = some k → k < M) ∧ ∀ x ∈ xs, FnIn M x
theorem PrgOwn.bound {w : World} {B : Nat} {p : Prg} {c0 c1 c2 : Value} (h : PrgOwn w B p c0 c1 c2) : PrgOwnM w B w.heap.size p c0 c1 c2 := by
  obtain ⟨a, ⟨hs, b⟩, xs, c⟩ := h
  refine ⟨⟨a, fun k hk => (a.lt hk).2⟩, ⟨hs, b, fun k hk => (b.1.lt hk).2, fun h hh => ?_⟩, xs, c, fun k hk => (c.1.lt hk).2, fun x hx => ?_⟩
  · obtain ⟨j, hj, rfl⟩ := List.mem_iff_getElem.1 hh
    exact fun k hk => ((b.2.2 j hj (by rw [← b.2.1]; exact hj)).2.lt hk).2
  · obtain ⟨j, hj, rfl⟩ := List.mem_iff_getElem.1 hx
    have h := c.2.2 j hj (by rw [← c.2.1]; exact hj)
    exact ⟨fun k hk => (h.2.2.1.2.lt hk).2, fun k hk => (h.2.2.2.1.2.lt hk).2, fun k hk => (h.2.2.2.2.2.lt hk).2⟩
theorem PrgOwnM.own {w : World} {B M : Nat} {p : Prg} {c0 c1 c2 : Value} (h : PrgOwnM w B M p c0 c1 c2) : PrgOwn w B p c0 c1 c2 := by
  obtain ⟨a, ⟨hs, b, _⟩, xs, c, _⟩ := h
  exact ⟨a.1, ⟨hs, b⟩, xs, c⟩
theorem PrgOwnM.frT {F : Nat → Prop} {w w' : World} {B M : Nat} {p : Prg} {c0 c1 c2 : Value} (h : PrgOwnM w B M p c0 c1 c2) (hf : Fr F w w') (h0 : TyNe w F intE.e) (h1 : TyNe w F insE.e) (h2 : TyNe w F shE.e) (h3 : TyNe w F fnE.e) : PrgOwnM w' B M p c0 c1 c2 := by
  obtain ⟨a, ⟨hs, b, b1, b2⟩, xs, c, c1, c2⟩ := h
  exact ⟨⟨a.1.frT hf h0, a.2⟩, ⟨hs, b.frT hf h2 h0, b1, b2⟩, xs, c.frT hf h3 h0 h1, c1, c2⟩
theorem PrgOwnM.below {w w' : World} {B M : Nat} {p : Prg} {c0 c1 c2 : Value} (h : PrgOwnM w B M p c0 c1 c2) (hb : Below w.heap.size w w') : PrgOwnM w' B M p c0 c1 c2 :=
  h.frT (Fr.of_below hb (fun _ => False)) TyNe.no TyNe.no TyNe.no TyNe.no
theorem PrgOwnM.other {w w' : World} {B M q : Nat} {p : Prg} {c0 c1 c2 : Value} {cs : Array Value} (h : PrgOwnM w B M p c0 c1 c2) (hf : Fr (onB q) w w') (hq : w.heap[q]? = some (.cells cs 71)) : PrgOwnM w' B M p c0 c1 c2 := by
  obtain ⟨t1, t2, t3, t4, t5, t6, t7, t8, t9, t10⟩ := ty_ne
  exact h.frT hf (TyNe.one hq (Ne.symm t4)) (TyNe.one hq (Ne.symm t7)) (TyNe.one hq (Ne.symm t9)) (TyNe.one hq (Ne.symm t10))
end Go.Proofs.Ytmmdppjbofbjhaa
