/- An append of a string onto bytes of one's own. -/
import Derived.Test.YtmmdppjbofbjhaaWriterB
namespace Go.Proofs.Ytmmdppjbofbjhaa
open Go.ChangeShapes Go.WideShapes Go.ChangeAt Go.RowKit

def strInts (s : ByteArray) : List Int := s.data.toList.map fun b => (b.toNat : Int)
theorem strInts_len (s : ByteArray) : (strInts s).length = s.size := by
  unfold strInts; rw [List.length_map]; rfl
theorem strCells_ints (s : ByteArray) : Lib.strCells s = (strInts s).flatMap u8E.enc := by
  rw [u8_map]
  unfold strInts Lib.strCells
  rw [List.map_map]; rfl
theorem strInts_bytesS (l : List Int) (h : ∀ x ∈ l, 0 ≤ x ∧ x < 256) : strInts (bytesS l) = l := by
  unfold strInts bytesS
  simp only [List.map_map]
  conv => rhs; rw [← List.map_id l]
  apply List.map_congr_left
  intro x hx
  have := h x hx
  simp
  omega
theorem run_append_str (w : World) (ty : TypeId) (B : Nat) (l : List Int) (v : Value) (hown : Own u8E w B v l) (s : ByteArray)
    (hlen : l.length + s.size ≤ 100000000) (hB : B ≤ w.heap.size) :
    ∃ v' w', (Builtin.append_ #[29, 9] ty #[v, .string s]).run Try.prog w = .ok v' w' ∧ Own u8E w' B v' (l ++ strInts s) ∧ w.grownBy w' v.ownBlock ∧ Fresh w v v' := by
  obtain ⟨i0, hi, hz0, hz1, hz2⟩ := info_parts u8E.info
  have hml : l.length + s.size ≤ maxLen := by unfold maxLen; omega
  have go : ∀ B', B' ≤ w.heap.size → Own u8E w B' v l → ∃ v' w', (Builtin.append_ #[29, 9] ty #[v, .string s]).run Try.prog w = .ok v' w' ∧ Own u8E w' B' v' (l ++ strInts s) ∧ w.grownBy w' v.ownBlock := fun B' hB' ho => by
    obtain ⟨v', w', hr, h2, h3, _⟩ := Lib.run_append_own_string (P := Try.prog) w B' 29 9 ty 5 i0 Try.underlying29 Try.underlying9 hi hz0 hz1 hz2 v l.length (l.flatMap u8E.enc) ho s hml (by omega) hB'
    refine ⟨v', w', hr, ?_, h3⟩
    unfold Own
    rw [List.length_append, List.flatMap_append, strInts_len, ← strCells_ints]
    exact h2
  obtain ⟨v', w', hr, h2, h3⟩ := go B hB hown
  refine ⟨v', w', hr, h2, h3, ?_⟩
  rcases hown.2 with ⟨rfl, h0⟩ | ⟨g, cap, cur, rfl, hbg, hg, hnc, hcm, hcs, htake⟩
  · have hl0 : l = [] := List.length_eq_zero_iff.1 h0
    subst hl0
    obtain ⟨v2, w2, hr2, h22, _⟩ := go w.heap.size (Nat.le_refl _) (Own.nil _ _ _)
    rw [hr] at hr2
    injection hr2 with e1 e2
    subst e1 e2
    exact fun k hk => .inr (h22.lt hk).1
  · by_cases hroom : l.length + s.size ≤ cap
    · have hcs' : cur.size = cap := by rw [hcs]; show cap * 1 = cap; omega
      have hr2 := Lib.run_append_room_string (P := Try.prog) w 29 9 ty 5 i0 Try.underlying29 Try.underlying9 hi hz1 g l.length cap cur hg s hroom (by omega)
      rw [hr] at hr2
      injection hr2 with e1 e2
      subst e1
      exact fun k hk => .inl hk
    · have holds : ∀ j u, (l.flatMap u8E.enc)[j]? = some u → w.cell? ((⟨g, 0, none⟩ : Addr).add j) = some u := World.ownsRow.cells (g := g) hown rfl
      have hr2 := Lib.run_append_grow_string (P := Try.prog) w 29 9 ty 5 i0 (.int .u8 0) Try.underlying29 Try.underlying9 hi hz0 ⟨g, 0, none⟩ l.length cap (l.flatMap u8E.enc) (by rw [hz1]; exact u8E.len l) holds s (by omega) (by omega) (by rw [hz2]; exact growslice_fits (by omega) (by show (l.length + s.size) * 1 ≤ _; omega))
      rw [hr] at hr2
      injection hr2 with e1 e2
      subst e1
      intro k hk
      simp [Value.ownBlock] at hk
      exact .inr (by omega)
theorem append_str {ops : Array Oper} {rest : List Oper} {o : Oper} {a : Act} {Q : Exit → Act → World → Prop} {w : World} (hgd : o.guard = none) (sl x : Operand)
    (ho : o.op = .call { callee := .builtin .append, args := #[sl, x], argTypes := #[29, 9] })
    (B : Nat) (l : List Int) (v : Value) (hs : a.eval sl = v) (hown : Own u8E w B v l) (s : ByteArray) (hx : a.eval x = .string s)
    (hlen : l.length + s.size ≤ 100000000) (hB : B ≤ w.heap.size)
    (h : ∀ v' w', Own u8E w' B v' (l ++ strInts s) → w.grownBy w' v.ownBlock → Fresh w v v' → wpList Try.prog ops Q rest (a.put o.dst v') w') : wpList Try.prog ops Q (o :: rest) a w :=
  wpList_plain hgd fun _ hK => by
    obtain ⟨v', w', hr, h2, h3, h4⟩ := run_append_str w o.type B l v hown s hlen hB
    unfold Oper.wp execOp
    simp only [ho, resolve, invoke, builtin, Sem.run_bind, Sem.run_pure, Result.andThen_ok, List.map_toArray, List.map_cons, List.map_nil, hs, hx, hr]
    exact hK _ _ (h v' w' h2 h3 h4)

/-- a function, a program -/
structure Fun where (args : List Int) (result slots : Int) (objects : List Int) (code : List Ins)
structure Prg where (globals : List Int) (shapes : List (List Int)) (funcs : List Fun)
def InsSlD (w : World) (D : Nat → Prop) (a : Option Addr) (l : List Ins) : Prop := ∀ j (hj : j < l.length), ∃ b o, a = some ⟨b, o, none⟩ ∧ D b ∧ InsAt w b (o + j * 4) l[j]
theorem InsSlD.fr {F : Nat → Prop} {w w' : World} {D : Nat → Prop} {a : Option Addr} {l : List Ins} (h : InsSlD w D a l) (hf : Fr F w w') (hd : ∀ k, D k → ¬ F k) : InsSlD w' D a l := fun j hj => by
  obtain ⟨b, o, h1, h2, h3⟩ := h j hj
  have hn := hd b h2
  exact ⟨b, o, h1, h2, hf.cell h3.1 hn, hf.cell h3.2.1 hn, hf.cell h3.2.2.1 hn, hf.cell h3.2.2.2 hn⟩
theorem InsSlD.plain {w : World} {D : Nat → Prop} {a : Option Addr} {l : List Ins} (h : InsSlD w D a l) : InsSl w a l := fun j hj => by
  obtain ⟨b, o, h1, _, h3⟩ := h j hj
  exact ⟨b, o, h1, h3⟩
/-- a function's five cells -/
def FunVal (w : World) (D : Nat → Prop) (f : Fun) (c0 c1 c2 c3 c4 : Value) : Prop :=
  c1 = .int .i64 f.result ∧ c2 = .int .i64 f.slots ∧ (∃ a c, c0 = .slice a f.args.length c ∧ IntSl w D a f.args) ∧ (∃ a c, c3 = .slice a f.objects.length c ∧ IntSl w D a f.objects) ∧ ∃ a c, c4 = .slice a f.code.length c ∧ InsSlD w D a f.code
theorem FunVal.fr {F : Nat → Prop} {w w' : World} {D : Nat → Prop} {f : Fun} {c0 c1 c2 c3 c4 : Value} (h : FunVal w D f c0 c1 c2 c3 c4) (hf : Fr F w w') (hd : ∀ k, D k → ¬ F k) : FunVal w' D f c0 c1 c2 c3 c4 := by
  obtain ⟨h1, h2, ⟨a, c, h3, h4⟩, ⟨a', c', h5, h6⟩, a'', c'', h7, h8⟩ := h
  exact ⟨h1, h2, ⟨a, c, h3, h4.fr hf hd⟩, ⟨a', c', h5, h6.fr hf hd⟩, a'', c'', h7, h8.fr hf hd⟩
def wFn (s : List Int × Bool) (f : Fun) : List Int × Bool :=
  let t := wNums (wList (wNums (wList s f.args) [f.result, f.slots]) f.objects) [(f.code.length : Int)]
  (t.1 ++ (if laid f.code then layL f.code else []), t.2 || !laid f.code)
end Go.Proofs.Ytmmdppjbofbjhaa
