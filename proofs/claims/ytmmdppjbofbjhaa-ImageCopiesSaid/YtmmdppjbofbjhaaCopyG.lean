/- Rows that may be written, whatever they hold. -/
import Derived.Test.YtmmdppjbofbjhaaCopyE
namespace Go.Proofs.Ytmmdppjbofbjhaa
open Go.RowKit

variable {P : Program} {α : Type}
theorem own_n {E : Elem P α} {w : World} {B n c : Nat} {a : Option Addr} {l : List α} (h : Own E w B (.slice a n c) l) : n = l.length := by
  obtain ⟨h1, h2⟩ := h
  rcases h2 with ⟨he, h0⟩ | ⟨g, cap, cur, he, _⟩
  · injection he with _ he _; omega
  · injection he with _ he _
/-- a row of elements, whatever they are -/
def Row (E : Elem P α) (w : World) (B M : Nat) (v : Value) : Prop := (∃ l, Own E w B v l) ∧ ∀ k, v.ownBlock = some k → B ≤ k ∧ k < M
theorem Row.of {E : Elem P α} {w : World} {B M : Nat} {v : Value} {l : List α} (h : Own E w B v l) (hb : ∀ k, v.ownBlock = some k → k < M) : Row E w B M v := ⟨⟨l, h⟩, fun k hk => ⟨(h.lt hk).1, hb k hk⟩⟩
theorem Row.frT {E : Elem P α} {F : Nat → Prop} {w w' : World} {B M : Nat} {v : Value} (h : Row E w B M v) (hf : Fr F w w') (hF : TyNe w F E.e) : Row E w' B M v := by
  obtain ⟨⟨l, h⟩, hb⟩ := h
  exact ⟨⟨l, h.frT hf hF⟩, hb⟩
theorem Row.nil (E : Elem P α) (w : World) (B M : Nat) : Row E w B M (.slice none 0 0) := Row.of (Own.nil E w B) (fun k hk => by cases hk)
theorem Row.max {E : Elem P α} {w : World} {B M n c : Nat} {a : Option Addr} (h : Row E w B M (.slice a n c)) : n ≤ maxLen := by
  obtain ⟨⟨l, h1, h2⟩, _⟩ := h
  rcases h2 with ⟨he, h0⟩ | ⟨g, cap, cur, he, hbg, hg, hnc, hcm, hcs, htake⟩
  · injection he with _ he _; omega
  · injection he with _ he _; omega
/-- where a row's element lies -/
theorem Row.slot {E : Elem P α} {w : World} {B M n c : Nat} {a : Option Addr} (h : Row E w B M (.slice a n c)) (k : Nat) (hk : k < n) :
    ∃ g, a = some ⟨g, 0, none⟩ ∧ B ≤ g ∧ g < M ∧ (∃ cs, w.heap[g]? = some (.cells cs E.e)) ∧ ∀ r, r < E.size → (∃ u, w.cell? ⟨g, k * E.size + r, none⟩ = some u) ∧ w.frozen? ⟨g, k * E.size + r, none⟩ = false := by
  obtain ⟨⟨l, h⟩, hb⟩ := h
  have hn := own_n h
  obtain ⟨g, c', he, hg, hgl, _⟩ := h.cells (by omega)
  injection he with he _ _
  subst he
  refine ⟨g, rfl, hg, (hb g rfl).2, h.typed rfl, fun r hr => h.slot _ ?_⟩
  have h1 : (k + 1) * E.size ≤ l.length * E.size := Nat.mul_le_mul_right _ (by omega)
  rw [Nat.add_mul] at h1
  omega
/-- a number is written into a block of numbers -/
theorem Row.setInt {w : World} {B M g m : Nat} {x : Int} {v : Value} (h : Row intE w B M v) : Row intE (w.setCell ⟨g, m, none⟩ (.int .i64 x)) B M v := by
  obtain ⟨⟨l, h⟩, hb⟩ := h
  refine ⟨?_, hb⟩
  by_cases he : v.ownBlock = some g
  · by_cases h0 : 1 ≤ l.length
    · obtain ⟨g', c, rfl, _⟩ := h.cells h0
      have : g' = g := by injection he
      subst this
      by_cases hm : m < l.length
      · exact ⟨_, set_int h m hm x⟩
      · have h1 := ownsRow_set (show w.ownsRow B intE.e intE.size _ l.length (l.flatMap intE.enc) from h) m (.int .i64 x)
        rw [List.set_eq_of_length_le (by rw [intE.len]; show l.length * 1 ≤ m; omega)] at h1
        exact ⟨l, h1⟩
    · have hl : l = [] := List.length_eq_zero_iff.1 (by omega)
      subst hl
      obtain ⟨h1, h2⟩ := h
      rcases h2 with ⟨rfl, _⟩ | ⟨g', cap, cur, rfl, h3, h4, h5⟩
      · cases he
      · have : g' = g := by injection he
        subst this
        have h6 := ownsRow_set (show w.ownsRow B intE.e intE.size (.slice (some ⟨g', 0, none⟩) 0 cap) 0 [] from ⟨h1, .inr ⟨g', cap, cur, rfl, h3, h4, h5⟩⟩) m (.int .i64 x)
        exact ⟨[], h6⟩
  · exact ⟨l, h.fr (Fr.setAt w g m _) (fun k hk e => he (by unfold onB at e; rw [← e]; exact hk))⟩
/-- an op is written into a block of instructions -/
theorem Row.setOp {w : World} {B M g m : Nat} {x : Int} {v : Value} (h : Row insE w B M v) : Row insE (w.setCell ⟨g, m * 4, none⟩ (.int .i64 x)) B M v := by
  obtain ⟨⟨l, h⟩, hb⟩ := h
  refine ⟨?_, hb⟩
  by_cases he : v.ownBlock = some g
  · by_cases h0 : 1 ≤ l.length
    · obtain ⟨g', c, rfl, _⟩ := h.cells h0
      have : g' = g := by injection he
      subst this
      by_cases hm : m < l.length
      · exact ⟨_, h.set1 m hm 0 (by decide) (.int .i64 x) { l[m] with op := x } rfl⟩
      · have h1 := ownsRow_set (show w.ownsRow B insE.e insE.size _ l.length (l.flatMap insE.enc) from h) (m * 4) (.int .i64 x)
        rw [List.set_eq_of_length_le (by rw [insE.len]; show l.length * 4 ≤ m * 4; omega)] at h1
        exact ⟨l, h1⟩
    · have hl : l = [] := List.length_eq_zero_iff.1 (by omega)
      subst hl
      obtain ⟨h1, h2⟩ := h
      rcases h2 with ⟨rfl, _⟩ | ⟨g', cap, cur, rfl, h3, h4, h5⟩
      · cases he
      · have : g' = g := by injection he
        subst this
        have h6 := ownsRow_set (show w.ownsRow B insE.e insE.size (.slice (some ⟨g', 0, none⟩) 0 cap) 0 [] from ⟨h1, .inr ⟨g', cap, cur, rfl, h3, h4, h5⟩⟩) (m * 4) (.int .i64 x)
        exact ⟨[], h6⟩
  · exact ⟨l, h.fr (Fr.setAt w g (m * 4) _) (fun k hk e => he (by unfold onB at e; rw [← e]; exact hk))⟩
/-- shapes that may be written -/
def MutS (w : World) (B M : Nat) (v : Value) (hs : List Hd) : Prop := Own shE w B v hs ∧ (∀ k, v.ownBlock = some k → k < M) ∧ ∀ j (h : j < hs.length), Row intE w B M hs[j].val
def FnMut (w : World) (B M : Nat) (x : FnH) : Prop := Row intE w B M x.h0.val ∧ Row intE w B M x.h3.val ∧ Row insE w B M x.h4.val
def MutF (w : World) (B M : Nat) (v : Value) (xs : List FnH) : Prop := Own fnE w B v xs ∧ (∀ k, v.ownBlock = some k → k < M) ∧ ∀ j (h : j < xs.length), FnMut w B M xs[j]
/-- a program that may be written -/
def Mut (w : World) (B M : Nat) (c0 c1 c2 : Value) (hs : List Hd) (xs : List FnH) : Prop := Row intE w B M c0 ∧ MutS w B M c1 hs ∧ MutF w B M c2 xs
theorem PrgOwnM.mut {w : World} {B M : Nat} {p : Prg} {c0 c1 c2 : Value} (h : PrgOwnM w B M p c0 c1 c2) : ∃ hs xs, hs.length = p.shapes.length ∧ xs.length = p.funcs.length ∧ Mut w B M c0 c1 c2 hs xs := by
  obtain ⟨⟨a, a1⟩, ⟨hs, b, b1, b2⟩, xs, c, c1, c2⟩ := h
  refine ⟨hs, xs, b.2.1, c.2.1, Row.of a a1, ⟨b.1, b1, fun j hj => Row.of (b.2.2 j hj (by rw [← b.2.1]; exact hj)).2 (b2 _ (List.getElem_mem hj))⟩, c.1, c1, fun j hj => ?_⟩
  have h1 := c.2.2 j hj (by rw [← c.2.1]; exact hj)
  have h2 := c2 _ (List.getElem_mem hj)
  exact ⟨Row.of h1.2.2.1.2 h2.1, Row.of h1.2.2.2.1.2 h2.2.1, Row.of h1.2.2.2.2.2 h2.2.2⟩
theorem Mut.setInt {w : World} {B M g m : Nat} {x : Int} {c0 c1 c2 : Value} {hs : List Hd} {xs : List FnH} {cs : Array Value} (h : Mut w B M c0 c1 c2 hs xs) (hg : w.heap[g]? = some (.cells cs 3)) : Mut (w.setCell ⟨g, m, none⟩ (.int .i64 x)) B M c0 c1 c2 hs xs := by
  obtain ⟨a, ⟨b1, b2, b3⟩, d1, d2, d3⟩ := h
  obtain ⟨t1, t2, t3, t4, t5, t6, t7, t8, t9, t10⟩ := ty_ne
  have hf := Fr.setAt w g m (.int .i64 x)
  exact ⟨a.setInt, ⟨b1.frT hf (TyNe.one hg t2), b2, fun j hj => (b3 j hj).setInt⟩, d1.frT hf (TyNe.one hg t3), d2, fun j hj => ⟨(d3 j hj).1.setInt, (d3 j hj).2.1.setInt, (d3 j hj).2.2.frT hf (TyNe.one hg t1)⟩⟩
theorem Mut.setOp {w : World} {B M g m : Nat} {x : Int} {c0 c1 c2 : Value} {hs : List Hd} {xs : List FnH} {cs : Array Value} (h : Mut w B M c0 c1 c2 hs xs) (hg : w.heap[g]? = some (.cells cs 58)) : Mut (w.setCell ⟨g, m * 4, none⟩ (.int .i64 x)) B M c0 c1 c2 hs xs := by
  obtain ⟨a, ⟨b1, b2, b3⟩, d1, d2, d3⟩ := h
  obtain ⟨t1, t2, t3, t4, t5, t6, t7, t8, t9, t10⟩ := ty_ne
  have hf := Fr.setAt w g (m * 4) (.int .i64 x)
  have hI : TyNe w (onB g) intE.e := TyNe.one hg (Ne.symm t1)
  exact ⟨a.frT hf hI, ⟨b1.frT hf (TyNe.one hg t5), b2, fun j hj => (b3 j hj).frT hf hI⟩, d1.frT hf (TyNe.one hg t6), d2, fun j hj => ⟨(d3 j hj).1.frT hf hI, (d3 j hj).2.1.frT hf hI, (d3 j hj).2.2.setOp⟩⟩
theorem Mut.setSh {w : World} {B M g k : Nat} {c0 c2 : Value} {n c : Nat} {hs : List Hd} {xs : List FnH} (h : Mut w B M c0 (.slice (some ⟨g, 0, none⟩) n c) c2 hs xs) (hk : k < hs.length) : Mut (w.setCell ⟨g, k, none⟩ (.slice none 0 0)) B M c0 (.slice (some ⟨g, 0, none⟩) n c) c2 (hs.set k ⟨none, 0, 0⟩) xs := by
  obtain ⟨a, ⟨b1, b2, b3⟩, d1, d2, d3⟩ := h
  obtain ⟨t1, t2, t3, t4, t5, t6, t7, t8, t9, t10⟩ := ty_ne
  have hn := own_n b1
  subst hn
  obtain ⟨cs, hg⟩ := b1.typed (k := g) rfl
  have hf := Fr.setAt w g k (.slice none 0 0)
  have hI : TyNe w (onB g) intE.e := TyNe.one hg (Ne.symm t2)
  have hb : Own shE (w.setCell ⟨g, k, none⟩ (.slice none 0 0)) B (.slice (some ⟨g, 0, none⟩) hs.length c) (hs.set k ⟨none, 0, 0⟩) := by
    have := b1.set1 k hk 0 (by decide) (.slice none 0 0) ⟨none, 0, 0⟩ rfl
    rw [show k * shE.size + 0 = k from by show k * 1 + 0 = k; omega] at this
    exact this
  refine ⟨a.frT hf hI, ⟨hb, b2, fun j hj => ?_⟩, d1.frT hf (TyNe.one hg t8), d2, fun j hj => ⟨(d3 j hj).1.frT hf hI, (d3 j hj).2.1.frT hf hI, (d3 j hj).2.2.frT hf (TyNe.one hg (Ne.symm t5))⟩⟩
  rw [List.getElem_set]
  split
  · exact Row.nil _ _ _ _
  · exact (b3 j (by simpa using hj)).frT hf hI
theorem Mut.setFn {w : World} {B M g k : Nat} {x : Int} {c0 c1 : Value} {n c : Nat} {hs : List Hd} {xs : List FnH} (h : Mut w B M c0 c1 (.slice (some ⟨g, 0, none⟩) n c) hs xs) (hk : k < xs.length) : Mut (w.setCell ⟨g, k * 5 + 2, none⟩ (.int .i64 x)) B M c0 c1 (.slice (some ⟨g, 0, none⟩) n c) hs (xs.set k { xs[k] with s := x }) := by
  obtain ⟨a, ⟨b1, b2, b3⟩, d1, d2, d3⟩ := h
  obtain ⟨t1, t2, t3, t4, t5, t6, t7, t8, t9, t10⟩ := ty_ne
  have hn := own_n d1
  subst hn
  obtain ⟨cs, hg⟩ := d1.typed (k := g) rfl
  have hf := Fr.setAt w g (k * 5 + 2) (.int .i64 x)
  have hI : TyNe w (onB g) intE.e := TyNe.one hg (Ne.symm t3)
  have hC : TyNe w (onB g) insE.e := TyNe.one hg (Ne.symm t6)
  have hd := d1.set1 k hk 2 (by decide) (.int .i64 x) { xs[k] with s := x } rfl
  refine ⟨a.frT hf hI, ⟨b1.frT hf (TyNe.one hg (Ne.symm t8)), b2, fun j hj => (b3 j hj).frT hf hI⟩, hd, d2, fun j hj => ?_⟩
  rw [List.getElem_set]
  split
  · rename_i e
    subst e
    exact ⟨(d3 k hk).1.frT hf hI, (d3 k hk).2.1.frT hf hI, (d3 k hk).2.2.frT hf hC⟩
  · have h := d3 j (by simpa using hj)
    exact ⟨h.1.frT hf hI, h.2.1.frT hf hI, h.2.2.frT hf hC⟩
theorem Mut.below {w w' : World} {B M : Nat} {c0 c1 c2 : Value} {hs : List Hd} {xs : List FnH} (h : Mut w B M c0 c1 c2 hs xs) (hb : Below w.heap.size w w') : Mut w' B M c0 c1 c2 hs xs := by
  obtain ⟨a, ⟨b1, b2, b3⟩, d1, d2, d3⟩ := h
  have hf := Fr.of_below hb (fun _ => False)
  exact ⟨a.frT hf TyNe.no, ⟨b1.frT hf TyNe.no, b2, fun j hj => (b3 j hj).frT hf TyNe.no⟩, d1.frT hf TyNe.no, d2, fun j hj => ⟨(d3 j hj).1.frT hf TyNe.no, (d3 j hj).2.1.frT hf TyNe.no, (d3 j hj).2.2.frT hf TyNe.no⟩⟩
/-- a head among the shapes -/
theorem MutS.at {w : World} {B M : Nat} {a : Option Addr} {n c : Nat} {hs : List Hd} (h : MutS w B M (.slice a n c) hs) (k : Nat) (hk : k < hs.length) :
    ∃ g, a = some ⟨g, 0, none⟩ ∧ B ≤ g ∧ g < M ∧ w.cell? ⟨g, k, none⟩ = some (.slice hs[k].a hs[k].n hs[k].c) ∧ w.frozen? ⟨g, k, none⟩ = false := by
  obtain ⟨b1, b2, b3⟩ := h
  obtain ⟨a', c', he, hx⟩ := own_elems b1
  obtain ⟨g, h1, h2, h3⟩ := hx k hk
  injection he with e1 e2 e3
  subst e1
  subst h1
  have h4 := h3 0 _ rfl
  have e : k * shE.size + 0 = k := by show k * 1 + 0 = k; omega
  rw [e] at h4
  exact ⟨g, rfl, (b1.lt h2).1, b2 g h2, h4, ((b1.slot k (by show k < hs.length * 1; omega))).2⟩
/-- a function's five cells -/
theorem MutF.at {w : World} {B M : Nat} {a : Option Addr} {n c : Nat} {xs : List FnH} (h : MutF w B M (.slice a n c) xs) (k : Nat) (hk : k < xs.length) :
    ∃ g, a = some ⟨g, 0, none⟩ ∧ B ≤ g ∧ g < M ∧ (w.cell? ⟨g, k * 5, none⟩ = some (.slice xs[k].h0.a xs[k].h0.n xs[k].h0.c) ∧ w.cell? ⟨g, k * 5 + 1, none⟩ = some (.int .i64 xs[k].r) ∧ w.cell? ⟨g, k * 5 + 2, none⟩ = some (.int .i64 xs[k].s) ∧ w.cell? ⟨g, k * 5 + 3, none⟩ = some (.slice xs[k].h3.a xs[k].h3.n xs[k].h3.c) ∧ w.cell? ⟨g, k * 5 + 4, none⟩ = some (.slice xs[k].h4.a xs[k].h4.n xs[k].h4.c)) ∧ w.frozen? ⟨g, k * 5 + 2, none⟩ = false := by
  obtain ⟨b1, b2, b3⟩ := h
  obtain ⟨a', c', he, hx⟩ := own_elems b1
  obtain ⟨g, h1, h2, h3⟩ := hx k hk
  injection he with e1 e2 e3
  subst e1
  subst h1
  exact ⟨g, rfl, (b1.lt h2).1, b2 g h2, ⟨h3 0 _ rfl, h3 1 _ rfl, h3 2 _ rfl, h3 3 _ rfl, h3 4 _ rfl⟩, ((b1.slot (k * 5 + 2) (by show k * 5 + 2 < xs.length * 5; omega))).2⟩
end Go.Proofs.Ytmmdppjbofbjhaa
