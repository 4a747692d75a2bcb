/- Types, and what their cells read as; lists of them that one owns. Nothing of the program stands here. -/
import Derived.Test.YtmanoclahcpaoaaFrame
namespace Go.Proofs.Ytmanoclahcpaoaa
open Go.RowKit

/-- cells that stay -/
def Stay (D : Nat → Prop) (w w' : World) : Prop := ∀ b o v, D b → w.cell? ⟨b, o, none⟩ = some v → w'.cell? ⟨b, o, none⟩ = some v
theorem Fr.stay {F : Nat → Prop} {w w' : World} (h : Fr F w w') {D : Nat → Prop} (hd : ∀ k, D k → ¬ F k) : Stay D w w' := fun b _ _ hb hc => h.cell hc (hd b hb)
theorem stay_below {w w' : World} (h : Below w.heap.size w w') (D : Nat → Prop) : Stay D w w' := fun _ _ _ _ hc => below_cell h hc
theorem Stay.of_grown {w w' : World} {row : Option Nat} (hg : w.grownBy w' row) {D : Nat → Prop} (hd : ∀ k, D k → row ≠ some k) : Stay D w w' := fun b _ _ hb hc => cell_grown hg hc (hd b hb)

/-- a type: how many cells its values have, and what cells read as; what they lead to lies in D -/
structure Ty (α : Type) where
  size : Nat
  rd : World → (Nat → Prop) → List Value → α → Prop
  len : ∀ {w D cs x}, rd w D cs x → cs.length = size
  fr : ∀ {w w' : World} {D D' : Nat → Prop} {cs x}, rd w D cs x → Stay D w w' → (∀ k, D k → D' k) → rd w' D' cs x
  one : ∀ {w D cs x}, rd w D cs x → ∀ u ∈ cs, u.oneCell' = true
namespace Ty
def int : Ty Int where
  size := 1
  rd _ _ cs x := cs = [.int .i64 x]
  len h := by rw [h]; rfl
  fr h _ _ := h
  one h u hu := by rw [h] at hu; simp at hu; subst hu; rfl
def bool : Ty Bool where
  size := 1
  rd _ _ cs x := cs = [.bool x]
  len h := by rw [h]; rfl
  fr h _ _ := h
  one h u hu := by rw [h] at hu; simp at hu; subst hu; rfl
def str : Ty ByteArray where
  size := 1
  rd _ _ cs x := cs = [.string x]
  len h := by rw [h]; rfl
  fr h _ _ := h
  one h u hu := by rw [h] at hu; simp at hu; subst hu; rfl
def pair {α β : Type} (s : Ty α) (t : Ty β) : Ty (α × β) where
  size := s.size + t.size
  rd w D cs x := ∃ c d, cs = c ++ d ∧ s.rd w D c x.1 ∧ t.rd w D d x.2
  len := fun ⟨_, _, h, h1, h2⟩ => by rw [h, List.length_append, s.len h1, t.len h2]
  fr := fun ⟨_, _, h, h1, h2⟩ hs hd => ⟨_, _, h, s.fr h1 hs hd, t.fr h2 hs hd⟩
  one := fun ⟨_, _, h, h1, h2⟩ u hu => by
    rw [h] at hu
    rcases List.mem_append.1 hu with hu | hu
    · exact s.one h1 u hu
    · exact t.one h2 u hu
def iso {α β : Type} (t : Ty α) (f : β → α) : Ty β where
  size := t.size
  rd w D cs x := t.rd w D cs (f x)
  len h := t.len h
  fr h hs hd := t.fr h hs hd
  one h := t.one h
end Ty
/-- the cells of element j of a list that lies at a -/
def At {α : Type} (t : Ty α) (w : World) (D : Nat → Prop) (a : Option Addr) (j : Nat) (x : α) : Prop :=
  ∃ b o, a = some ⟨b, o, none⟩ ∧ D b ∧ ∃ es, t.rd w D es x ∧ ∀ r u, es[r]? = some u → w.cell? ⟨b, o + j * t.size + r, none⟩ = some u
/-- a list lies at a -/
def Sl {α : Type} (t : Ty α) (w : World) (D : Nat → Prop) (a : Option Addr) (l : List α) : Prop := ∀ j (hj : j < l.length), At t w D a j l[j]
theorem At.fr {α : Type} {t : Ty α} {w w' : World} {D D' : Nat → Prop} {a : Option Addr} {j : Nat} {x : α} (h : At t w D a j x) (hs : Stay D w w') (hd : ∀ k, D k → D' k) : At t w' D' a j x := by
  obtain ⟨b, o, h1, h2, es, h3, h4⟩ := h
  exact ⟨b, o, h1, hd b h2, es, t.fr h3 hs hd, fun r u hu => hs _ _ _ h2 (h4 r u hu)⟩
theorem Sl.fr {α : Type} {t : Ty α} {w w' : World} {D D' : Nat → Prop} {a : Option Addr} {l : List α} (h : Sl t w D a l) (hs : Stay D w w') (hd : ∀ k, D k → D' k) : Sl t w' D' a l := fun j hj => (h j hj).fr hs hd
theorem Sl.below {α : Type} {t : Ty α} {w w' : World} {D : Nat → Prop} {a : Option Addr} {l : List α} (h : Sl t w D a l) (hb : Below w.heap.size w w') : Sl t w' D a l := h.fr (stay_below hb D) (fun _ h => h)
theorem Sl.dom {α : Type} {t : Ty α} {w : World} {D D' : Nat → Prop} {a : Option Addr} {l : List α} (h : Sl t w D a l) (hd : ∀ k, D k → D' k) : Sl t w D' a l := h.fr (fun _ _ _ _ h => h) hd
theorem Sl.nil {α : Type} (t : Ty α) (w : World) (D : Nat → Prop) (a : Option Addr) : Sl t w D a [] := fun j hj => by cases hj
def Ty.list {α : Type} (t : Ty α) : Ty (List α) where
  size := 1
  rd w D cs l := ∃ a c, cs = [.slice a l.length c] ∧ Sl t w D a l
  len := fun ⟨_, _, h, _⟩ => by rw [h]; rfl
  fr := fun ⟨_, _, h, h1⟩ hs hd => ⟨_, _, h, h1.fr hs hd⟩
  one := fun ⟨_, _, h, _⟩ u hu => by rw [h] at hu; simp at hu; subst hu; rfl
theorem Ty.below {α : Type} {t : Ty α} {w w' : World} {D : Nat → Prop} {cs : List Value} {x : α} (h : t.rd w D cs x) (hb : Below w.heap.size w w') : t.rd w' D cs x := t.fr h (stay_below hb D) (fun _ h => h)
theorem Ty.dom {α : Type} {t : Ty α} {w : World} {D D' : Nat → Prop} {cs : List Value} {x : α} (h : t.rd w D cs x) (hd : ∀ k, D k → D' k) : t.rd w D' cs x := t.fr h (fun _ _ _ _ h => h) hd

/-- cells of an element, as they lie -/
def Raw (n : Nat) : Type := { cs : List Value // cs.length = n ∧ ∀ u ∈ cs, u.oneCell' = true }
/-- an element type of the program -/
structure Slot (P : Program) where
  e : TypeId
  t : TypeId
  size : Nat
  bytes : Nat
  zero : Value
  ht : P.underlying t = some (.slice e)
  info : (P.info? e).map (fun i => (i.zero, i.size, i.bytes)) = some (some zero, size, bytes)
  hzs : zero.cells.size = size
  hsz : 0 < size
  hby : bytes ≤ 1000
variable {P : Program}
def Slot.elem (S : Slot P) : Elem P (Raw S.size) where
  e := S.e
  t := S.t
  size := S.size
  bytes := S.bytes
  zero := S.zero
  enc := Subtype.val
  ht := S.ht
  info := S.info
  hzs := S.hzs
  hsz := S.hsz
  hby := S.hby
  henc x := x.2.1
  hone x := x.2.2
/-- a list that one owns, from block B on; what its elements lead to lies in D -/
def OwnT (S : Slot P) {α : Type} (t : Ty α) (w : World) (B : Nat) (D : Nat → Prop) (v : Value) (l : List α) : Prop :=
  ∃ rs : List (Raw S.size), Own S.elem w B v rs ∧ rs.length = l.length ∧ (∀ j (h : j < rs.length) (h' : j < l.length), t.rd w D rs[j].1 l[j]) ∧ ∀ k, D k → v.ownBlock ≠ some k
variable {S : Slot P} {α : Type} {t : Ty α}
theorem OwnT.nil (S : Slot P) (t : Ty α) (w : World) (B : Nat) (D : Nat → Prop) : OwnT S t w B D (.slice none 0 0) [] := ⟨[], Own.nil _ _ _, rfl, fun j hj _ => (by cases hj), fun k _ h => (by simp [Value.ownBlock] at h)⟩
theorem OwnT.lt {w : World} {B : Nat} {D : Nat → Prop} {v : Value} {l : List α} (h : OwnT S t w B D v l) {k : Nat} (hk : v.ownBlock = some k) : B ≤ k ∧ k < w.heap.size := by
  obtain ⟨rs, h1, _⟩ := h
  exact h1.lt hk
theorem OwnT.off {w : World} {B : Nat} {D : Nat → Prop} {v : Value} {l : List α} (h : OwnT S t w B D v l) {k : Nat} (hk : D k) : v.ownBlock ≠ some k := h.choose_spec.2.2.2 k hk
theorem OwnT.fr {F : Nat → Prop} {w w' : World} {B : Nat} {D D' : Nat → Prop} {v : Value} {l : List α} (h : OwnT S t w B D v l) (hf : Fr F w w') (hn : ∀ k, v.ownBlock = some k → ¬ F k) (hd : ∀ k, D k → ¬ F k) (hd1 : ∀ k, D k → D' k) (hd2 : ∀ k, D' k → v.ownBlock ≠ some k) : OwnT S t w' B D' v l := by
  obtain ⟨rs, h1, h2, h3, _⟩ := h
  exact ⟨rs, h1.fr hf hn, h2, fun j hj hj' => t.fr (h3 j hj hj') (hf.stay hd) hd1, hd2⟩
theorem OwnT.below {w w' : World} {B : Nat} {D : Nat → Prop} {v : Value} {l : List α} (h : OwnT S t w B D v l) (hb : Below w.heap.size w w') : OwnT S t w' B D v l :=
  h.fr (Fr.of_below hb (fun _ => False)) (fun _ _ h => h) (fun _ _ h => h) (fun _ h => h) (fun _ hk => h.off hk)
theorem OwnT.base {w : World} {B B' : Nat} {D : Nat → Prop} {v : Value} {l : List α} (h : OwnT S t w B D v l) (hb : ∀ k, v.ownBlock = some k → B' ≤ k) : OwnT S t w B' D v l := by
  obtain ⟨rs, h1, h2⟩ := h
  exact ⟨rs, h1.base hb, h2⟩
theorem OwnT.slice {w : World} {B : Nat} {D : Nat → Prop} {v : Value} {l : List α} (h : OwnT S t w B D v l) : ∃ a c, v = .slice a l.length c := by
  obtain ⟨rs, h1, h2, _⟩ := h
  obtain ⟨a, c, h3, _⟩ := own_elems h1
  exact ⟨a, c, by rw [h3, h2]⟩
/-- to be read -/
theorem OwnT.rd {w : World} {B : Nat} {D : Nat → Prop} {v : Value} {l : List α} (h : OwnT S t w B D v l) (ht : t.size = S.size) : ∃ a c, v = .slice a l.length c ∧ Sl t w (fun k => D k ∨ v.ownBlock = some k) a l := by
  obtain ⟨rs, h1, h2, h3, h4⟩ := h
  obtain ⟨a, c, h5, h6⟩ := own_elems h1
  refine ⟨a, c, by rw [h5, h2], fun j hj => ?_⟩
  obtain ⟨b, h7, h8, h9⟩ := h6 j (by omega)
  refine ⟨b, 0, h7, .inr h8, rs[j].1, Ty.dom (h3 j (by omega) hj) (fun _ h => .inl h), fun r u hu => ?_⟩
  rw [ht, Nat.zero_add]
  exact h9 r u hu
theorem snoc_get {α : Type} (l : List α) (x : α) (j : Nat) (h : j < (l ++ [x]).length) : (∃ h' : j < l.length, (l ++ [x])[j] = l[j]) ∨ (j = l.length ∧ (l ++ [x])[j] = x) := by
  by_cases hlt : j < l.length
  · exact .inl ⟨hlt, List.getElem_append_left hlt⟩
  · have : j = l.length := by simp at h; omega
    subst this
    exact .inr ⟨rfl, by simp⟩
theorem OwnT.snoc {w w' : World} {B : Nat} {D : Nat → Prop} {v v' : Value} {l : List α} {x : α} {rs : List (Raw S.size)} {r : Raw S.size} (h2 : rs.length = l.length) (h3 : ∀ j (h : j < rs.length) (h' : j < l.length), t.rd w D rs[j].1 l[j]) (h4 : ∀ k, D k → v.ownBlock ≠ some k)
    (hx : t.rd w D r.1 x) (hD : ∀ k, D k → k < w.heap.size) (ho : Own S.elem w' B v' (rs ++ [r])) (hg : w.grownBy w' v.ownBlock) (hf : Fresh w v v') : OwnT S t w' B D v' (l ++ [x]) := by
  have hst : Stay D w w' := Stay.of_grown hg h4
  refine ⟨rs ++ [r], ho, by simp [h2], fun j hj hj' => ?_, fun k hk e => ?_⟩
  · rcases snoc_get rs r j hj with ⟨h5, h6⟩ | ⟨h5, h6⟩
    · rcases snoc_get l x j hj' with ⟨h7, h8⟩ | ⟨h7, h8⟩
      · rw [h6, h8]; exact t.fr (h3 j h5 h7) hst (fun _ h => h)
      · omega
    · rcases snoc_get l x j hj' with ⟨h7, h8⟩ | ⟨h7, h8⟩
      · omega
      · rw [h6, h8]; exact t.fr hx hst (fun _ h => h)
  · rcases hf k e with h | h
    · exact h4 k hk h
    · have := hD k hk; omega
/-- an append of one more element -/
theorem run_appendT (w : World) (ty : TypeId) (B : Nat) (D : Nat → Prop) (l : List α) (y : α) (cs : List Value) (v : Value) (hown : OwnT S t w B D v l) (b of c : Nat)
    (hm : CellsAt w b of cs) (hcs : t.rd w D cs y) (hsz : t.size = S.size) (hD : ∀ k, D k → k < w.heap.size) (hlen : l.length + 1 ≤ 100000000) (hB : B ≤ w.heap.size) :
    ∃ a' c' w', (Builtin.append_ #[S.t, S.t] ty #[v, .slice (some ⟨b, of, none⟩) 1 c]).run P w = .ok (.slice a' (l.length + 1) c') w' ∧ OwnT S t w' B D (.slice a' (l.length + 1) c') (l ++ [y]) ∧ w.grownBy w' v.ownBlock ∧ Fresh w v (.slice a' (l.length + 1) c') := by
  obtain ⟨rs, h1, h2, h3, h4⟩ := hown
  have hcl : cs.length = S.size := by rw [t.len hcs, hsz]
  obtain ⟨v', w', hr, h5, h6, h7⟩ := run_append_fresh S.elem w ty B rs [⟨cs, hcl, t.one hcs⟩] v h1 b of c (by show CellsAt w b of (cs ++ []); rw [List.append_nil]; exact hm) (by show rs.length + 1 ≤ _; omega) hB
  have hT := OwnT.snoc h2 h3 h4 (r := ⟨cs, hcl, t.one hcs⟩) hcs hD h5 h6 h7
  obtain ⟨a', c', rfl⟩ := hT.slice
  rw [List.length_append, List.length_singleton] at *
  exact ⟨a', c', w', hr, hT, h6, h7⟩
/-- as an operation -/
theorem appendT {ops : Array Oper} {rest : List Oper} {o : Oper} {a : Act} {Q : Exit → Act → World → Prop} {w : World} (hgd : o.guard = none) (s x : Operand)
    (ho : o.op = .call { callee := .builtin .append, args := #[s, x], argTypes := #[S.t, S.t] })
    (B : Nat) (D : Nat → Prop) (l : List α) (y : α) (cs : List Value) (v : Value) (hs : a.eval s = v) (hown : OwnT S t w B D v l) (b of c : Nat) (hx : a.eval x = .slice (some ⟨b, of, none⟩) 1 c)
    (hm : CellsAt w b of cs) (hcs : t.rd w D cs y) (hsz : t.size = S.size) (hD : ∀ k, D k → k < w.heap.size) (hlen : l.length + 1 ≤ 100000000) (hB : B ≤ w.heap.size)
    (h : ∀ a' c' w', OwnT S t w' B D (.slice a' (l.length + 1) c') (l ++ [y]) → w.grownBy w' v.ownBlock → Fresh w v (.slice a' (l.length + 1) c') → wpList P ops Q rest (a.put o.dst (.slice a' (l.length + 1) c')) w') : wpList P ops Q (o :: rest) a w :=
  wpList_plain hgd fun _ hK => by
    obtain ⟨a', c', w', hr, h2, h3, h4⟩ := run_appendT w o.type B D l y cs v hown b of c hm hcs hsz hD hlen hB
    unfold Oper.wp execOp
    simp only [ho, resolve, invoke, builtin, Sem.run_bind, Sem.run_pure, Result.andThen_ok, List.map_toArray, List.map_cons, List.map_nil, hs, hx, hr]
    exact hK _ _ (h a' c' w' h2 h3 h4)
/-- as an operation inside a region that draws its order -/
theorem step_appendT {ops : Array Oper} {o : Oper} {a : Act} {w : World} {K : Act → World → Prop} {Q : Exit → Act → World → Prop} {F : Prop} (hgd : o.guard = none) (s x : Operand)
    (ho : o.op = .call { callee := .builtin .append, args := #[s, x], argTypes := #[S.t, S.t] })
    (B : Nat) (D : Nat → Prop) (l : List α) (y : α) (cs : List Value) (v : Value) (hs : a.eval s = v) (hown : OwnT S t w B D v l) (b of c : Nat) (hx : a.eval x = .slice (some ⟨b, of, none⟩) 1 c)
    (hm : CellsAt w b of cs) (hcs : t.rd w D cs y) (hsz : t.size = S.size) (hD : ∀ k, D k → k < w.heap.size) (hlen : l.length + 1 ≤ 100000000) (hB : B ≤ w.heap.size)
    (h : ∀ a' c' w', OwnT S t w' B D (.slice a' (l.length + 1) c') (l ++ [y]) → w.grownBy w' v.ownBlock → Fresh w v (.slice a' (l.length + 1) c') → K (a.put o.dst (.slice a' (l.length + 1) c')) w') : if Region.wanted o (yielded ops a.tmps) = true then Oper.wp P o a w K Q else F := by
  have hw : Region.wanted o (yielded ops a.tmps) = true := by simp [Region.wanted, hgd]
  rw [if_pos hw]
  obtain ⟨a', c', w', hr, h2, h3, h4⟩ := run_appendT w o.type B D l y cs v hown b of c hm hcs hsz hD hlen hB
  unfold Oper.wp execOp
  simp only [ho, resolve, invoke, builtin, Sem.run_bind, Sem.run_pure, Result.andThen_ok, List.map_toArray, List.map_cons, List.map_nil, hs, hx, hr]
  exact h a' c' w' h2 h3 h4
end Go.Proofs.Ytmanoclahcpaoaa
