/- What comes in: a program. -/
import Derived.Test.YtmmdppjbofbjhaaAlive10
import Derived.Lib.SmallJoins
namespace Go.Proofs.Ytmmdppjbofbjhaa
open Go.ChangeShapes Go.WideShapes Go.ChangeAt Go.RowKit

variable {H : Type} {enc : TypeId × Value → H}
set_option maxRecDepth 100000 in
/-- a slice that comes in, element by element -/
theorem open_elems {α : Type} [Inhabited α] {w : World} {base : Nat} {sp : Nat → Bool} {hd : Bool} {m : Nat} {t e size : Nat} {cs : List Value} {x : DataW H × List MemPlace} (ht : Try.prog.underlying t = some (.slice e)) (hce : Try.prog.cellsOf e = size) (hsz : 0 < size)
    (R : List Value → α → Prop) (hR : ∀ n ds y, DataW.trod enc Try.prog w base sp hd n e ds = some y → ∃ z, R ds z) (h : DataW.trod enc Try.prog w base sp hd m t cs = some x) :
    ∃ (a : Option Addr) (l : List α) (c : Nat), cs = [.slice a l.length c] ∧ ∀ j (hj : j < l.length), ∃ b o ds, a = some ⟨b, o, none⟩ ∧ R ds l[j] ∧ ds.length = size ∧ ∀ r u, ds[r]? = some u → w.cell? ⟨b, o + j * size + r, none⟩ = some u := by
  rcases Go.Deep.open_slice ht h with ⟨hcs, hx⟩ | ⟨a, len, cap, m, n, D, Pl, hcs, hb, hl, hm, hmm, hx, hel⟩
  · exact ⟨none, [], 0, hcs, fun j hj => by cases hj⟩
  · have hle : len ≤ m := by rw [hmm]; split <;> omega
    rw [hce] at hel
    obtain ⟨f, hF⟩ := Go.Deep.choose_lt (α := α × List Value) (p := fun i y => w.cells? base (a.add (i * size)) size = some y.2 ∧ R y.2 y.1) (n := len) (fun i hi => by
      obtain ⟨cs', h1, h2⟩ := hel i (by omega)
      obtain ⟨z, hz⟩ := hR _ _ _ h2
      exact ⟨(z, cs'), h1, hz⟩)
    refine ⟨some a, (List.range len).map fun i => (f i).1, cap, by rw [hcs]; simp, fun j hj => ?_⟩
    simp at hj
    have hspot : ∀ i, i < len → (a.add (i * size)).spot = none := fun i hi => by
      obtain ⟨_, hlen, hc⟩ := World.cells?_some (hF i hi).1
      have h0 := hc 0 hsz
      have hp : (a.add (i * size)).add 0 = a.add (i * size) := rfl
      rw [hp, List.getElem?_eq_getElem (by omega)] at h0
      have := plain_addr h0
      rw [this]
    have ha : a.spot = none := by
      have := hspot 0 (by omega)
      rw [Nat.zero_mul] at this
      exact this
    obtain ⟨_, hlen, hc⟩ := World.cells?_some (hF j hj).1
    obtain ⟨bb, oo, ss⟩ := a
    dsimp only at ha
    subst ha
    refine ⟨bb, oo, (f j).2, rfl, by simpa using (hF j hj).2, hlen, fun r u hu => ?_⟩
    have hr : r < size := by
      rcases Nat.lt_or_ge r size with h' | h'
      · exact h'
      · rw [List.getElem?_eq_none (by omega)] at hu; cases hu
    have h1 := hc r hr
    rw [addr_add ⟨bb, oo, none⟩ rfl (j * size), addr_add ⟨bb, oo + j * size, none⟩ rfl r] at h1
    dsimp only at h1
    rw [h1, hu]
theorem trod_ints {w : World} {base : Nat} {sp : Nat → Bool} {hd : Bool} {m : Nat} {cs : List Value} {x : DataW H × List MemPlace} (h : DataW.trod enc Try.prog w base sp hd m 63 cs = some x) :
    ∃ a l c, cs = [.slice a (List.length l) c] ∧ IntSl w (fun k => k < w.heap.size) a l := by
  obtain ⟨a, l, c, h1, h2⟩ := open_elems (α := Int) Try.underlying63 cells_ints.1 (by decide) (fun ds z => ∀ u, ds = [u] → u = .int .i64 z) (fun n ds y hy => by
    rcases Nat.lt_or_ge 1 ds.length with h | h
    · exact ⟨0, fun u hu => by rw [hu] at h; simp at h⟩
    · match ds, h with
      | [], _ => exact ⟨0, fun u hu => by cases hu⟩
      | [u], _ =>
        obtain ⟨z, hz, _⟩ := trod_one hy
        exact ⟨z, fun v hv => by simp at hv; rw [← hv]; exact hz⟩) h
  refine ⟨a, l, c, h1, fun j hj => ?_⟩
  obtain ⟨b, o, ds, h3, h4, h5, h6⟩ := h2 j hj
  match ds, h5 with
  | [u], _ =>
    have hu := h4 u rfl
    have hc := h6 0 u rfl
    rw [hu, Nat.mul_one] at hc
    exact ⟨b, o, h3, World.block_lt hc, hc⟩
theorem trod_instrs {w : World} {base : Nat} {sp : Nat → Bool} {hd : Bool} {m : Nat} {cs : List Value} {x : DataW H × List MemPlace} (h : DataW.trod enc Try.prog w base sp hd m 35 cs = some x) :
    ∃ a l c, cs = [.slice a (List.length l) c] ∧ InsSlD w (fun k => k < w.heap.size) a l := by
  obtain ⟨a, l, c, h1, h2⟩ := open_elems (α := Ins) Try.underlying35 cells_ints.2 (by decide) (fun ds z => ds = z.cells) (fun n ds y hy => by
    obtain ⟨z, hz, _⟩ := trod_ins hy
    exact ⟨z, hz⟩) h
  refine ⟨a, l, c, h1, fun j hj => ?_⟩
  obtain ⟨b, o, ds, h3, rfl, h5, h6⟩ := h2 j hj
  exact ⟨b, o, h3, World.block_lt (h6 0 _ rfl), h6 0 _ rfl, h6 1 _ rfl, h6 2 _ rfl, h6 3 _ rfl⟩
theorem cells_more : Try.prog.cellsOf 84 = 1 ∧ Try.prog.cellsOf 86 = 5 ∧ Try.prog.cellsOf 71 = 3 ∧ Try.prog.cellsOf 63 = 1 ∧ Try.prog.cellsOf 35 = 1 ∧ Try.prog.cellsOf 68 = 1 ∧ Try.prog.cellsOf 69 = 1 := ⟨by kernel_rfl, by kernel_rfl, by kernel_rfl, by kernel_rfl, by kernel_rfl, by kernel_rfl, by kernel_rfl⟩
instance : Inhabited Fun := ⟨⟨[], 0, 0, [], []⟩⟩
set_option maxRecDepth 100000 in
theorem trod_shape {w : World} {base : Nat} {sp : Nat → Bool} {hd : Bool} {n : Nat} {cs : List Value} {x : DataW H × List MemPlace} (h : DataW.trod enc Try.prog w base sp hd n 84 cs = some x) :
    ∃ l : List Int, ∃ a c, cs = [.slice a l.length c] ∧ IntSl w (fun k => k < w.heap.size) a l := by
  obtain ⟨xs, m, _, _, hl, hlen, hf⟩ := DataW.trod_struct Try.underlying84 h
  rw [cells_more.1] at hl
  match cs, hl, xs, hlen with
  | [c0], _, [y0], _ =>
    have f0 : DataW.trod enc Try.prog w base sp hd m 63 (([c0].drop 0).take (Try.prog.cellsOf 63)) = some y0 := hf 0 _ rfl
    rw [cells_more.2.2.2.1] at f0
    obtain ⟨a, l, c, h1, h2⟩ := trod_ints f0
    exact ⟨l, a, c, h1, h2⟩
set_option maxRecDepth 100000 in
theorem trod_func {w : World} {base : Nat} {sp : Nat → Bool} {hd : Bool} {n : Nat} {cs : List Value} {x : DataW H × List MemPlace} (h : DataW.trod enc Try.prog w base sp hd n 86 cs = some x) :
    ∃ f : Fun, ∃ c0 c1 c2 c3 c4, cs = [c0, c1, c2, c3, c4] ∧ FunVal w (fun k => k < w.heap.size) f c0 c1 c2 c3 c4 := by
  obtain ⟨xs, m, _, _, hl, hlen, hf⟩ := DataW.trod_struct Try.underlying86 h
  rw [cells_more.2.1] at hl
  match cs, hl, xs, hlen with
  | [c0, c1, c2, c3, c4], _, [y0, y1, y2, y3, y4], _ =>
    have f0 : DataW.trod enc Try.prog w base sp hd m 63 (([c0, c1, c2, c3, c4].drop 0).take (Try.prog.cellsOf 63)) = some y0 := hf 0 _ rfl
    have f1 : DataW.trod enc Try.prog w base sp hd m 3 (([c0, c1, c2, c3, c4].drop 1).take (Try.prog.cellsOf 3)) = some y1 := hf 1 _ rfl
    have f2 : DataW.trod enc Try.prog w base sp hd m 3 (([c0, c1, c2, c3, c4].drop 2).take (Try.prog.cellsOf 3)) = some y2 := hf 2 _ rfl
    have f3 : DataW.trod enc Try.prog w base sp hd m 63 (([c0, c1, c2, c3, c4].drop 3).take (Try.prog.cellsOf 63)) = some y3 := hf 3 _ rfl
    have f4 : DataW.trod enc Try.prog w base sp hd m 35 (([c0, c1, c2, c3, c4].drop 4).take (Try.prog.cellsOf 35)) = some y4 := hf 4 _ rfl
    rw [cells_more.2.2.2.1] at f0 f3
    rw [cells_ints.1] at f1 f2
    rw [cells_more.2.2.2.2.1] at f4
    obtain ⟨a0, l0, n0, h0, s0⟩ := trod_ints f0
    obtain ⟨z1, h1, _⟩ := trod_one f1
    obtain ⟨z2, h2, _⟩ := trod_one f2
    obtain ⟨a3, l3, n3, h3, s3⟩ := trod_ints f3
    obtain ⟨a4, l4, n4, h4, s4⟩ := trod_instrs f4
    simp at h0 h3 h4
    exact ⟨⟨l0, z1, z2, l3, l4⟩, _, _, _, _, _, rfl, h1, h2, ⟨a0, n0, h0, s0⟩, ⟨a3, n3, h3, s3⟩, a4, n4, h4, s4⟩
theorem trod_shapes {w : World} {base : Nat} {sp : Nat → Bool} {hd : Bool} {m : Nat} {cs : List Value} {x : DataW H × List MemPlace} (h : DataW.trod enc Try.prog w base sp hd m 68 cs = some x) :
    ∃ a l c, cs = [.slice a (List.length l) c] ∧ ShSl w (fun k => k < w.heap.size) a l := by
  obtain ⟨a, l, c, h1, h2⟩ := open_elems (α := List Int) Try.underlying68 cells_more.1 (by decide) (fun ds z => ∃ a c, ds = [.slice a z.length c] ∧ IntSl w (fun k => k < w.heap.size) a z) (fun n ds y hy => trod_shape hy) h
  refine ⟨a, l, c, h1, fun j hj => ?_⟩
  obtain ⟨b, o, ds, h3, ⟨a', c', rfl, h4⟩, h5, h6⟩ := h2 j hj
  have hc := h6 0 _ rfl
  rw [Nat.mul_one] at hc
  exact ⟨b, o, h3, World.block_lt hc, a', c', hc, h4⟩
theorem trod_funcs {w : World} {base : Nat} {sp : Nat → Bool} {hd : Bool} {m : Nat} {cs : List Value} {x : DataW H × List MemPlace} (h : DataW.trod enc Try.prog w base sp hd m 69 cs = some x) :
    ∃ a l c, cs = [.slice a (List.length l) c] ∧ FnSl w (fun k => k < w.heap.size) a l := by
  obtain ⟨a, l, c, h1, h2⟩ := open_elems (α := Fun) Try.underlying69 cells_more.2.1 (by decide) (fun ds z => ∃ c0 c1 c2 c3 c4, ds = [c0, c1, c2, c3, c4] ∧ FunVal w (fun k => k < w.heap.size) z c0 c1 c2 c3 c4) (fun n ds y hy => trod_func hy) h
  refine ⟨a, l, c, h1, fun j hj => ?_⟩
  obtain ⟨b, o, ds, h3, ⟨c0, c1, c2, c3, c4, rfl, h4⟩, h5, h6⟩ := h2 j hj
  exact ⟨b, o, h3, World.block_lt (h6 0 _ rfl), c0, c1, c2, c3, c4, h6 0 _ rfl, h6 1 _ rfl, h6 2 _ rfl, h6 3 _ rfl, h6 4 _ rfl, h4⟩
set_option maxRecDepth 100000 in
/-- a program that comes in -/
theorem open_program {w : World} {base b : Nat} {v : Value} {sp : Nat → Bool} {d : DataW H} {p : List MemPlace} (hv : Value.okWide Try.prog w .any base 71 v)
    (h : DataW.Trod enc Try.prog w b sp true 71 v d p) : ∃ (pr : Prg) (c0 c1 c2 : Value), v = .agg #[c0, c1, c2] ∧ PrgVal w (fun k => k < w.heap.size) pr c0 c1 c2 := by
  obtain ⟨v0, v1, v2, y0, y1, y2, n, rfl, _, _, h0, h1, h2⟩ := Joins.open_agg3 Try.underlying71 (by kernel_rfl) cells_more.2.2.1 hv h
  obtain ⟨a0, l0, n0, e0, s0⟩ := trod_ints h0
  obtain ⟨a1, l1, n1, e1, s1⟩ := trod_shapes h1
  obtain ⟨a2, l2, n2, e2, s2⟩ := trod_funcs h2
  simp at e0 e1 e2
  exact ⟨⟨l0, l1, l2⟩, v0, v1, v2, rfl, ⟨a0, n0, e0, s0⟩, ⟨a1, n1, e1, s1⟩, a2, n2, e2, s2⟩
end Go.Proofs.Ytmmdppjbofbjhaa
