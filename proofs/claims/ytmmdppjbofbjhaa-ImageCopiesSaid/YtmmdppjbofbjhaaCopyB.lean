/- Rows of rows that one owns whole: shapes, functions, programs; what a write leaves of them. -/
import Derived.Test.YtmmdppjbofbjhaaReadP
import Derived.Test.YtmmdppjbofbjhaaBookC
import Derived.Test.YtmmdppjbofbjhaaCopyA
namespace Go.Proofs.Ytmmdppjbofbjhaa
open Go.RowKit

variable {P : Program} {α β : Type}
theorem Own.typed {E : Elem P α} {w : World} {B : Nat} {v : Value} {l : List α} (h : Own E w B v l) {k : Nat} (hk : v.ownBlock = some k) : ∃ cs, w.heap[k]? = some (.cells cs E.e) := by
  obtain ⟨h1, h2⟩ := h
  rcases h2 with ⟨rfl, h0⟩ | ⟨g, cap, cur, rfl, hg, hh, hr⟩
  · cases hk
  · have : g = k := by injection hk
    subst this
    exact ⟨cur, hh⟩
/-- the blocks of F have other types than e -/
def TyNe (w : World) (F : Nat → Prop) (e : TypeId) : Prop := ∀ k, F k → k < w.heap.size → ∃ cs t, w.heap[k]? = some (.cells cs t) ∧ t ≠ e
theorem Own.frT {E : Elem P α} {F : Nat → Prop} {w w' : World} {B : Nat} {v : Value} {l : List α} (h : Own E w B v l) (hf : Fr F w w') (hF : TyNe w F E.e) : Own E w' B v l :=
  h.fr hf (fun k hk hFk => by
    obtain ⟨cs, t, h1, h2⟩ := hF k hFk (h.lt hk).2
    obtain ⟨cs', h3⟩ := h.typed hk
    rw [h1] at h3
    injection h3 with h3
    injection h3 with _ h3
    exact h2 h3)
theorem TyNe.own {E : Elem P α} {w : World} {B : Nat} {v : Value} {l : List α} (h : Own E w B v l) {e : TypeId} (he : E.e ≠ e) : TyNe w (fun k => v.ownBlock = some k) e := fun k hk _ => by
  obtain ⟨cs, h1⟩ := h.typed hk
  exact ⟨cs, E.e, h1, he⟩
theorem TyNe.one {w : World} {q : Nat} {cs : Array Value} {t e : TypeId} (h : w.heap[q]? = some (.cells cs t)) (he : t ≠ e) : TyNe w (fun k => k = q) e := fun k hk _ => by
  subst hk; exact ⟨cs, t, h, he⟩
theorem TyNe.or {w : World} {F G : Nat → Prop} {e : TypeId} (h : TyNe w F e) (h' : TyNe w G e) : TyNe w (fun k => F k ∨ G k) e := fun k hk hlt => hk.elim (fun h1 => h k h1 hlt) (fun h1 => h' k h1 hlt)
theorem TyNe.no {w : World} {e : TypeId} : TyNe w (fun _ => False) e := fun _ h _ => h.elim
theorem Own.off {E : Elem P α} {w : World} {B q : Nat} {v : Value} {l : List α} {cs : Array Value} {t : TypeId} (h : Own E w B v l) (hq : w.heap[q]? = some (.cells cs t)) (hne : E.e ≠ t) : v.ownBlock ≠ some q := fun e => by
  obtain ⟨cs', h1⟩ := h.typed e
  rw [hq] at h1
  injection h1 with h1
  injection h1 with _ h1
  exact hne h1.symm
/-- one cell of an element is set -/
theorem flat_set1 (E : Elem P α) (l : List α) (k : Nat) (hk : k < l.length) (r : Nat) (hr : r < E.size) (u : Value) (x : α) (hx : (E.enc l[k]).set r u = E.enc x) : (l.flatMap E.enc).set (k * E.size + r) u = (l.set k x).flatMap E.enc := by
  induction l generalizing k with
  | nil => cases hk
  | cons y l ih =>
    cases k with
    | zero =>
      simp only [List.flatMap_cons, List.set_cons_zero, Nat.zero_mul, Nat.zero_add]
      rw [List.set_append_left _ _ (by rw [E.henc]; exact hr)]
      simp only [List.getElem_cons_zero] at hx
      rw [hx]
    | succ k =>
      have h := ih k (by simpa using hk) (by simpa using hx)
      simp only [List.flatMap_cons, List.set_cons_succ]
      have e : (k + 1) * E.size + r = (E.enc y).length + (k * E.size + r) := by rw [E.henc, Nat.add_mul]; omega
      rw [e, List.set_append_right _ _ (Nat.le_add_right _ _), Nat.add_sub_cancel_left, h]
theorem Own.set1 {E : Elem P α} {w : World} {B g c : Nat} {l : List α} (h : Own E w B (.slice (some ⟨g, 0, none⟩) l.length c) l) (k : Nat) (hk : k < l.length) (r : Nat) (hr : r < E.size) (u : Value) (x : α) (hx : (E.enc l[k]).set r u = E.enc x) :
    Own E (w.setCell ⟨g, k * E.size + r, none⟩ u) B (.slice (some ⟨g, 0, none⟩) l.length c) (l.set k x) := by
  have h1 := ownsRow_set (show w.ownsRow B E.e E.size _ l.length (l.flatMap E.enc) from h) (k * E.size + r) u
  unfold Own
  rw [List.length_set, ← flat_set1 E l k hk r hr u x hx]
  exact h1

/-- shapes that one owns whole -/
def ShRow (w : World) (B : Nat) (v : Value) (hs : List Hd) (ls : List (List Int)) : Prop :=
  Own shE w B v hs ∧ hs.length = ls.length ∧ ∀ j (h : j < hs.length) (h' : j < ls.length), hs[j].n = ls[j].length ∧ Own intE w B hs[j].val ls[j]
/-- a function's lists that one owns -/
def FnOwn (w : World) (B : Nat) (x : FnH) (f : Fun) : Prop :=
  x.r = f.result ∧ x.s = f.slots ∧ (x.h0.n = f.args.length ∧ Own intE w B x.h0.val f.args) ∧ (x.h3.n = f.objects.length ∧ Own intE w B x.h3.val f.objects) ∧ (x.h4.n = f.code.length ∧ Own insE w B x.h4.val f.code)
/-- functions that one owns whole -/
def FnRow (w : World) (B : Nat) (v : Value) (xs : List FnH) (fs : List Fun) : Prop :=
  Own fnE w B v xs ∧ xs.length = fs.length ∧ ∀ j (h : j < xs.length) (h' : j < fs.length), FnOwn w B xs[j] fs[j]
theorem FnOwn.frT {F : Nat → Prop} {w w' : World} {B : Nat} {x : FnH} {f : Fun} (h : FnOwn w B x f) (hf : Fr F w w') (h1 : TyNe w F intE.e) (h2 : TyNe w F insE.e) : FnOwn w' B x f :=
  ⟨h.1, h.2.1, ⟨h.2.2.1.1, h.2.2.1.2.frT hf h1⟩, ⟨h.2.2.2.1.1, h.2.2.2.1.2.frT hf h1⟩, h.2.2.2.2.1, h.2.2.2.2.2.frT hf h2⟩
theorem ShRow.frT {F : Nat → Prop} {w w' : World} {B : Nat} {v : Value} {hs : List Hd} {ls : List (List Int)} (h : ShRow w B v hs ls) (hf : Fr F w w') (h0 : TyNe w F shE.e) (h1 : TyNe w F intE.e) : ShRow w' B v hs ls :=
  ⟨h.1.frT hf h0, h.2.1, fun j hj hj' => ⟨(h.2.2 j hj hj').1, (h.2.2 j hj hj').2.frT hf h1⟩⟩
theorem FnRow.frT {F : Nat → Prop} {w w' : World} {B : Nat} {v : Value} {xs : List FnH} {fs : List Fun} (h : FnRow w B v xs fs) (hf : Fr F w w') (h0 : TyNe w F fnE.e) (h1 : TyNe w F intE.e) (h2 : TyNe w F insE.e) : FnRow w' B v xs fs :=
  ⟨h.1.frT hf h0, h.2.1, fun j hj hj' => (h.2.2 j hj hj').frT hf h1 h2⟩
theorem ShRow.nil (w : World) (B : Nat) : ShRow w B (.slice none 0 0) [] [] := ⟨Own.nil _ _ _, rfl, fun j hj => by cases hj⟩
theorem FnRow.nil (w : World) (B : Nat) : FnRow w B (.slice none 0 0) [] [] := ⟨Own.nil _ _ _, rfl, fun j hj => by cases hj⟩
theorem rows_snoc {R : Hd → List Int → Prop} {hs : List Hd} {ls : List (List Int)} (hlen : hs.length = ls.length) (h : ∀ j (h : j < hs.length) (h' : j < ls.length), R hs[j] ls[j]) {x : Hd} {l : List Int} (hx : R x l) : ∀ j (h : j < (hs ++ [x]).length) (h' : j < (ls ++ [l]).length), R (hs ++ [x])[j] (ls ++ [l])[j] := by
  intro j hj hj'
  by_cases hlt : j < hs.length
  · rw [List.getElem_append_left hlt, List.getElem_append_left (by omega)]
    exact h j hlt (by omega)
  · have : j = hs.length := by simp at hj; omega
    subst this
    have e1 : (hs ++ [x])[hs.length] = x := by simp
    have e2 : (ls ++ [l])[hs.length]'hj' = l := by simp [hlen]
    rw [e1, e2]; exact hx
theorem fnrows_snoc {R : FnH → Fun → Prop} {hs : List FnH} {ls : List Fun} (hlen : hs.length = ls.length) (h : ∀ j (h : j < hs.length) (h' : j < ls.length), R hs[j] ls[j]) {x : FnH} {l : Fun} (hx : R x l) : ∀ j (h : j < (hs ++ [x]).length) (h' : j < (ls ++ [l]).length), R (hs ++ [x])[j] (ls ++ [l])[j] := by
  intro j hj hj'
  by_cases hlt : j < hs.length
  · rw [List.getElem_append_left hlt, List.getElem_append_left (by omega)]
    exact h j hlt (by omega)
  · have : j = hs.length := by simp at hj; omega
    subst this
    have e1 : (hs ++ [x])[hs.length] = x := by simp
    have e2 : (ls ++ [l])[hs.length]'hj' = l := by simp [hlen]
    rw [e1, e2]; exact hx
/-- the types are others -/
theorem ty_ne : (3 : TypeId) ≠ 58 ∧ (3 : TypeId) ≠ 84 ∧ (3 : TypeId) ≠ 86 ∧ (3 : TypeId) ≠ 71 ∧
    (58 : TypeId) ≠ 84 ∧ (58 : TypeId) ≠ 86 ∧ (58 : TypeId) ≠ 71 ∧
    (84 : TypeId) ≠ 86 ∧ (84 : TypeId) ≠ 71 ∧ (86 : TypeId) ≠ 71 := by decide
/-- a program that one owns whole -/
def PrgOwn (w : World) (B : Nat) (p : Prg) (c0 c1 c2 : Value) : Prop :=
  Own intE w B c0 p.globals ∧ (∃ hs, ShRow w B c1 hs p.shapes) ∧ ∃ xs, FnRow w B c2 xs p.funcs
theorem ShRow.inv {w : World} {B : Nat} {v : Value} {hs : List Hd} {ls : List (List Int)} (h : ShRow w B v hs ls) : ShInv w (fun k => B ≤ k ∧ k < w.heap.size) hs ls :=
  ⟨h.2.1, fun j hj hj' => ⟨(h.2.2 j hj hj').1, by
    obtain ⟨a, c, he, hsl⟩ := own_int (h.2.2 j hj hj').2
    have : hs[j].a = a := by injection he
    rw [this]
    exact hsl.dom (fun k hk => (h.2.2 j hj hj').2.lt hk)⟩⟩
theorem FnOwn.ok {w : World} {B : Nat} {x : FnH} {f : Fun} (h : FnOwn w B x f) : FnOk w (fun k => B ≤ k ∧ k < w.heap.size) x f := by
  obtain ⟨h1, h2, ⟨h3, h4⟩, ⟨h5, h6⟩, h7, h8⟩ := h
  refine ⟨h1, h2, ⟨h3, ?_⟩, ⟨h5, ?_⟩, h7, ?_⟩
  · obtain ⟨a, c, he, hsl⟩ := own_int h4
    have : x.h0.a = a := by injection he
    rw [this]; exact hsl.dom (fun k hk => h4.lt hk)
  · obtain ⟨a, c, he, hsl⟩ := own_int h6
    have : x.h3.a = a := by injection he
    rw [this]; exact hsl.dom (fun k hk => h6.lt hk)
  · obtain ⟨a, c, he, hsl⟩ := own_insD h8
    have : x.h4.a = a := by injection he
    rw [this]; exact hsl.dom (fun k hk => h8.lt hk)
theorem PrgOwn.val {w : World} {B : Nat} {p : Prg} {c0 c1 c2 : Value} (h : PrgOwn w B p c0 c1 c2) : PrgVal w (fun k => B ≤ k ∧ k < w.heap.size) p c0 c1 c2 := by
  obtain ⟨h1, ⟨hs, h2⟩, xs, h3⟩ := h
  refine ⟨?_, own_sh h2.1 h2.inv (fun _ h => h) (fun k hk => h2.1.lt hk), own_fn h3.1 (D := fun k => B ≤ k ∧ k < w.heap.size) ⟨h3.2.1, fun j hj hj' => (h3.2.2 j hj hj').ok⟩ (fun _ h => h) (fun k hk => h3.1.lt hk)⟩
  obtain ⟨a, c, he, hsl⟩ := own_int h1
  exact ⟨a, c, he, hsl.dom (fun k hk => h1.lt hk)⟩
end Go.Proofs.Ytmmdppjbofbjhaa
