/- What a task reads of a program: how many arguments, slots, which stack objects; how many fields a shape has. Nothing of the program's text stands here. The key type of a stack object. Walks: frames: where each stack object of a function lies (spans as a map), frame.Object, frame.At. -/
import Derived.Test.YtknbllbhakpaaaaGreatHAa
import Derived.Test.YtknbllbhakpaaaaGreatHAb
import Derived.Test.YtknbllbhakpaaaaGreatHAc
import Derived.Test.YtknbllbhakpaaaaGreatHAf
import Derived.Test.YtknbllbhakpaaaaGreatHAi
import Derived.Test.YtknbllbhakpaaaaGreatHAg
import Derived.Test.YtknbllbhakpaaaaGreatHAt
import Derived.Test.YtknbllbhakpaaaaGreatChecked
import Derived.Test.YtknbllbhakpaaaaGreatHBf
import Derived.Maps.Keyed
import Derived.DeepKeys4
set_option linter.unusedVariables false
set_option linter.unusedSimpArgs false
namespace Go.Proofs.YtknbllbhakpaaaaGreat.Tk
open Go.ChangeShapes Go.WideShapes Go.ChangeAt Go.RowKit
theorem take_snoc {α : Type} (l : List α) (k : Nat) (hk : k < l.length) : l.take (k + 1) = l.take k ++ [l[k]] := by
  rw [List.take_add_one, List.getElem?_eq_getElem hk]
  rfl
structure TFun where (nargs : Nat) (slots : Int) (objects : List Int)
structure TPrg where (shapes : List Nat) (funcs : List TFun)
def ShL (w : World) (D : Nat → Prop) (a : Option Addr) (l : List Nat) : Prop := ∀ j (hj : j < l.length), ∃ b o, a = some ⟨b, o, none⟩ ∧ D b ∧ ∃ a' c', w.cell? ⟨b, o + j, none⟩ = some (.slice a' l[j] c')
theorem ShL.fr {F : Nat → Prop} {w w' : World} {D : Nat → Prop} {a : Option Addr} {l : List Nat} (h : ShL w D a l) (hf : Fr F w w') (hd : ∀ k, D k → ¬ F k) : ShL w' D a l := fun j hj => by
  obtain ⟨b, o, h1, h2, a', c', h3⟩ := h j hj
  exact ⟨b, o, h1, h2, a', c', hf.cell h3 (hd b h2)⟩
def FunV (w : World) (D : Nat → Prop) (f : TFun) (c0 c1 c2 c3 c4 : Value) : Prop :=
  (∃ a c, c0 = .slice a f.nargs c) ∧ (∃ r, c1 = .int .i64 r) ∧ c2 = .int .i64 f.slots ∧ (∃ a c, c3 = .slice a f.objects.length c ∧ IntSl w D a f.objects) ∧ ∃ a n c, c4 = .slice a n c
theorem FunV.fr {F : Nat → Prop} {w w' : World} {D : Nat → Prop} {f : TFun} {c0 c1 c2 c3 c4 : Value} (h : FunV w D f c0 c1 c2 c3 c4) (hf : Fr F w w') (hd : ∀ k, D k → ¬ F k) : FunV w' D f c0 c1 c2 c3 c4 := by
  obtain ⟨h1, h2, h3, ⟨a, c, h4, h5⟩, h6⟩ := h
  exact ⟨h1, h2, h3, ⟨a, c, h4, h5.fr hf hd⟩, h6⟩
def FnL (w : World) (D : Nat → Prop) (a : Option Addr) (l : List TFun) : Prop := ∀ j (hj : j < l.length), ∃ b o, a = some ⟨b, o, none⟩ ∧ D b ∧ ∃ c0 c1 c2 c3 c4, w.cell? ⟨b, o + j * 5, none⟩ = some c0 ∧ w.cell? ⟨b, o + j * 5 + 1, none⟩ = some c1 ∧ w.cell? ⟨b, o + j * 5 + 2, none⟩ = some c2 ∧ w.cell? ⟨b, o + j * 5 + 3, none⟩ = some c3 ∧ w.cell? ⟨b, o + j * 5 + 4, none⟩ = some c4 ∧ FunV w D l[j] c0 c1 c2 c3 c4
theorem FnL.fr {F : Nat → Prop} {w w' : World} {D : Nat → Prop} {a : Option Addr} {l : List TFun} (h : FnL w D a l) (hf : Fr F w w') (hd : ∀ k, D k → ¬ F k) : FnL w' D a l := fun j hj => by
  obtain ⟨b, o, h1, h2, c0, c1, c2, c3, c4, q0, q1, q2, q3, q4, h4⟩ := h j hj
  have hn := hd b h2
  exact ⟨b, o, h1, h2, c0, c1, c2, c3, c4, hf.cell q0 hn, hf.cell q1 hn, hf.cell q2 hn, hf.cell q3 hn, hf.cell q4 hn, h4.fr hf hd⟩
/-- a program's three cells -/
def PV (w : World) (D : Nat → Prop) (p : TPrg) (c0 c1 c2 : Value) : Prop :=
  (∃ a n c, c0 = .slice a n c) ∧ (∃ a c, c1 = .slice a p.shapes.length c ∧ ShL w D a p.shapes) ∧ ∃ a c, c2 = .slice a p.funcs.length c ∧ FnL w D a p.funcs
theorem PV.fr {F : Nat → Prop} {w w' : World} {D : Nat → Prop} {p : TPrg} {c0 c1 c2 : Value} (h : PV w D p c0 c1 c2) (hf : Fr F w w') (hd : ∀ k, D k → ¬ F k) : PV w' D p c0 c1 c2 := by
  obtain ⟨h0, ⟨a', c', h3, h4⟩, a'', c'', h5, h6⟩ := h
  exact ⟨h0, ⟨a', c', h3, h4.fr hf hd⟩, a'', c'', h5, h6.fr hf hd⟩
theorem PV.below {w w' : World} {D : Nat → Prop} {p : TPrg} {c0 c1 c2 : Value} (h : PV w D p c0 c1 c2) (hb : Below w.heap.size w w') : PV w' D p c0 c1 c2 := h.fr (Fr.of_below hb (fun _ => False)) (fun _ _ h => h)
/-- how many words an object of a shape has -/
def fieldsN (p : TPrg) (s : Int) : Nat := if withinB s p.shapes.length = true then (p.shapes[s.toNat]?).getD 0 else 0
def objsN (p : TPrg) (l : List Int) : Nat := (l.map (fieldsN p)).sum
/-- how many words a frame of a function has -/
def frameN (p : TPrg) (f : TFun) : Nat := 2 + f.slots.toNat + objsN p f.objects
def wordsN (p : TPrg) (fn : Int) : Nat := if withinB fn p.funcs.length = true then ((p.funcs[fn.toNat]?).map (frameN p)).getD 0 else 0
/-- what is small enough to be reckoned with -/
def PSmall (p : TPrg) : Prop := p.shapes.length ≤ 3000 ∧ p.funcs.length ≤ 3000 ∧ (∀ s ∈ p.shapes, s ≤ 3000) ∧ ∀ f ∈ p.funcs, f.nargs ≤ 3000 ∧ f.slots ≤ 3000 ∧ f.objects.length ≤ 3000
theorem fieldsN_le {p : TPrg} (h : PSmall p) (s : Int) : fieldsN p s ≤ 3000 := by
  unfold fieldsN
  split
  · cases hq : p.shapes[s.toNat]? with
    | none => simp
    | some n => exact h.2.2.1 n (List.mem_of_getElem? hq)
  · simp
theorem objsN_le {p : TPrg} (h : PSmall p) (l : List Int) : objsN p l ≤ 3000 * l.length := by
  unfold objsN
  induction l with
  | nil => simp
  | cons x l ih =>
    have := fieldsN_le h x
    simp only [List.map_cons, List.sum_cons, List.length_cons]
    omega
theorem objsN_snoc (p : TPrg) (l : List Int) (k : Nat) (hk : k < l.length) : objsN p (l.take (k + 1)) = objsN p (l.take k) + fieldsN p l[k] := by
  unfold objsN
  rw [take_snoc l k hk, List.map_append, List.sum_append]
  simp
theorem wordsN_at {p : TPrg} (k : Nat) (hk : k < p.funcs.length) : wordsN p k = frameN p p.funcs[k] := by
  have h : withinB (k : Int) p.funcs.length = true := by simp [withinB]; omega
  unfold wordsN
  rw [if_pos h]
  simp [hk]
end Go.Proofs.YtknbllbhakpaaaaGreat.Tk
namespace Go.Proofs.YtknbllbhakpaaaaGreat.Tk
open Go.ChangeShapes Go.WideShapes Go.ChangeAt Go.RowKit Go.Maps
set_option maxRecDepth 100000 in
theorem obrow : (217 : TypeId) < Tryz.prog.types.size := of_decide_eq_true (by kernel_rfl)
set_option maxRecDepth 100000 in
theorem obwide : (match Tryz.prog.underlying 217 with | some (.array _ _) | some (.struct _) => true | _ => false) = true := by kernel_rfl
set_option maxRecDepth 100000 in
theorem obkeyed : Keyed Tryz.prog 217 := Keyed.of_law (deep_law_laid plaidOut (m := 2) (by omega) obrow (by kernel_rfl) obwide)
set_option maxRecDepth 100000 in
theorem obkey (a b : Int) (ha : i64B a) (hb : i64B b) : ∃ l, keyOf Tryz.prog 217 (.agg #[.int .i64 a, .int .i64 b]) = some l := by
  have hc : Tryz.prog.cellsOf 217 = 2 := by kernel_rfl
  have hk : Tryz.prog.keyType 217 = true := by kernel_rfl
  have hf : (Value.agg #[.int .i64 a, .int .i64 b]).formed Tryz.prog 217 = true := by simp [Value.formed, Tryz.underlying217, hc]
  have h1 : ∀ d x, i64B x → Tryz.prog.keyLits (d + 1) 3 [.int .i64 x] = some [.int .i64 x] := fun d x hx => by
    unfold Program.keyLits
    simp [Tryz.underlying3, i64_wf hx]
  have hci : Tryz.prog.cellsOf 3 = 1 := by kernel_rfl
  have h2 : ∀ d, Tryz.prog.keyLits (d + 2) 217 [.int .i64 a, .int .i64 b] = some [.int .i64 a, .int .i64 b] := fun d => by
    unfold Program.keyLits
    simp [Tryz.underlying217, hc, hci, h1 d a ha, h1 d b hb]
  obtain ⟨n, hn⟩ : ∃ n, Tryz.prog.types.size + 1 = n + 2 := ⟨Tryz.prog.types.size - 1, by have : 0 < Tryz.prog.types.size := Nat.lt_of_le_of_lt (Nat.zero_le _) obrow; omega⟩
  unfold keyOf
  rw [Tryz.underlying217]
  simp only [hk, hf, Bool.and_self, if_true]
  refine ⟨.string (keyBytes [.int .i64 a, .int .i64 b]), ?_⟩
  rw [hn]
  show Option.map (fun ls => Lit.string (keyBytes ls)) (Tryz.prog.keyLits (n + 2) 217 [.int .i64 a, .int .i64 b]) = _
  rw [h2]
  rfl
noncomputable def obK : KeyTy Tryz.prog { x : Int × Int // i64B x.1 ∧ i64B x.2 } where
  k := 217
  law := obkeyed
  key := fun x => .agg #[.int .i64 x.1.1, .int .i64 x.1.2]
  lit := fun x => (keyOf Tryz.prog 217 (.agg #[.int .i64 x.1.1, .int .i64 x.1.2])).getD (.bool true)
  wf := fun _ => True
  hkey := fun x _ => by
    obtain ⟨l, h⟩ := obkey x.1.1 x.1.2 x.2.1 x.2.2
    rw [h]; rfl
  inj := fun x y h => by
    obtain ⟨l, h1⟩ := obkey x.1.1 x.1.2 x.2.1 x.2.2
    obtain ⟨m, h2⟩ := obkey y.1.1 y.1.2 y.2.1 y.2.2
    rw [h1, h2] at h
    have e : l = m := h
    subst e
    have h3 := obkeyed.inj h1 h2
    obtain ⟨⟨x1, x2⟩, _⟩ := x
    obtain ⟨⟨y1, y2⟩, _⟩ := y
    simp at h3
    obtain ⟨rfl, rfl⟩ := h3
    rfl
def spanVal (x : Int × Int) : Value := .agg #[.int .i64 x.1, .int .i64 x.2]
end Go.Proofs.YtknbllbhakpaaaaGreat.Tk
namespace Go.Proofs.YtknbllbhakpaaaaGreat.Tk
open Go.ChangeShapes Go.WideShapes Go.ChangeAt Go.RowKit Go.Maps
/-- where the k-th stack object begins -/
def atN (p : TPrg) (f : TFun) (k : Nat) : Nat := 2 + f.slots.toNat + objsN p (f.objects.take k)
/-- the spans of the first k stack objects -/
def spanK (p : TPrg) (f : TFun) (j k : Nat) : { x : Int × Int // i64B x.1 ∧ i64B x.2 } → Option (Int × Int) := fun q =>
  if q.1.1 = j ∧ 0 ≤ q.1.2 ∧ q.1.2 < k then some ((atN p f q.1.2.toNat : Int), (fieldsN p (f.objects.getD q.1.2.toNat 0) : Int)) else none
def spanF (p : TPrg) (f : TFun) (j : Nat) : { x : Int × Int // i64B x.1 ∧ i64B x.2 } → Option (Int × Int) := spanK p f j f.objects.length
theorem spanK_zero (p : TPrg) (f : TFun) (j : Nat) (a) : spanK p f j 0 a = none := by
  unfold spanK
  rw [if_neg (by omega)]
theorem spanK_next (p : TPrg) (f : TFun) (j k : Nat) (h : i64B (j : Int)) (hk : i64B (k : Int)) : (spanK p f j k ⟨((j : Int), (k : Int)), h, hk⟩) = none := by
  unfold spanK
  rw [if_neg (by simp)]
theorem spanK_step (p : TPrg) (f : TFun) (j k : Nat) (hlt : k < f.objects.length) (h : i64B (j : Int)) (hk : i64B (k : Int)) (a) : upd (spanK p f j k) ⟨((j : Int), (k : Int)), h, hk⟩ (some ((atN p f k : Int), (fieldsN p f.objects[k] : Int))) a = spanK p f j (k + 1) a := by
  obtain ⟨⟨x, y⟩, hx, hy⟩ := a
  unfold upd spanK
  by_cases e : x = j ∧ y = k
  · obtain ⟨rfl, rfl⟩ := e
    rw [if_pos rfl, if_pos ⟨rfl, by simp; omega⟩]
    simp [hlt]
  · rw [if_neg (fun he => e (by injection he with he; injection he with h1 h2; exact ⟨h1, h2⟩))]
    by_cases h1 : x = j ∧ 0 ≤ y ∧ y < k
    · rw [if_pos h1, if_pos ⟨h1.1, h1.2.1, by have := h1.2.2; simp; omega⟩]
    · rw [if_neg h1, if_neg (fun h2 => h1 ⟨h2.1, h2.2.1, by have h3 := h2.2.2; have h4 : ¬ y = k := fun h4 => e ⟨h2.1, h4⟩; simp at h3; simp; omega⟩)]
set_option maxRecDepth 100000 in
set_option maxHeartbeats 3200000 in
theorem spansM_any (w : World) (D : Nat → Prop) (hD : ∀ k, D k → k < w.heap.size) (p : TPrg) (c0 c1 c2 : Value) (j : Nat) (hj : j < p.funcs.length) (hv : PV w D p c0 c1 c2) (hp : PSmall p) :
    Calls Tryz.prog 151 #[.agg #[c0, c1, c2], .int .i64 j] w fun e w' => ∃ b, e = .returned (.tuple #[.map (some b), .int .i64 (wordsN p j)]) ∧ MapIs obK spanVal w' b p.funcs[j].objects.length (spanF p p.funcs[j] j) ∧ Below w.heap.size w w' := by
  obtain ⟨⟨a0, n0, m0, rfl⟩, ⟨a1, m1, rfl, hsh⟩, a2, m2, rfl, hfn⟩ := hv
  have hb0 := ((Below.refl w.heap.size w).alloc (Nat.le_refl _) (.cells #[.slice a0 n0 m0, .slice a1 p.shapes.length m1, .slice a2 p.funcs.length m2] 34))
  have hmk : MapIs obK spanVal ((w.alloc (.cells #[.slice a0 n0 m0, .slice a1 p.shapes.length m1, .slice a2 p.funcs.length m2] 34)).alloc (.map #[] 0)) (w.alloc (.cells #[.slice a0 n0 m0, .slice a1 p.shapes.length m1, .slice a2 p.funcs.length m2] 34)).heap.size 0 (fun _ => none) := MapIs.made obK _ _
  have hz1 : (w.alloc (.cells #[.slice a0 n0 m0, .slice a1 p.shapes.length m1, .slice a2 p.funcs.length m2] 34)).heap.size = w.heap.size + 1 := by simp
  rw [hz1] at hmk
  have hb1 := hb0.alloc (by simp) (.map #[] 0)
  have hmake : ∀ w, (Instr.makeMap 211 none).run Tryz.prog w = .ok (.map (some w.heap.size)) (w.alloc (.map #[] 0)) := fun w => run_makeMap _ w
  have ht : Tryz.prog.underlying 211 = some (.map obK.k 215) := Tryz.underlying211
  have hq : ∀ j u, #[Value.slice a0 n0 m0, .slice a1 p.shapes.length m1, .slice a2 p.funcs.length m2][j]? = some u → ((w.alloc (.cells #[.slice a0 n0 m0, .slice a1 p.shapes.length m1, .slice a2 p.funcs.length m2] 34)).alloc (.map #[] 0)).cell? ⟨w.heap.size, j, none⟩ = some u := fun j u h => by
    rw [cell_under _ _ (by simp), cell_new]; exact h
  have hsz : ((w.alloc (.cells #[.slice a0 n0 m0, .slice a1 p.shapes.length m1, .slice a2 p.funcs.length m2] 34)).alloc (.map #[] 0)).heap.size = w.heap.size + 2 := by simp
  obtain ⟨W, hW⟩ : ∃ W, W = (w.alloc (.cells #[.slice a0 n0 m0, .slice a1 p.shapes.length m1, .slice a2 p.funcs.length m2] 34)).alloc (.map #[] 0) := ⟨_, rfl⟩
  rw [← hW] at hmk hb1 hq hsz
  have k0 := hq 0 _ rfl
  have k1 := hq 1 _ rfl
  have k2 := hq 2 _ rfl
  have hfn := hfn.fr (Fr.of_below hb1 (fun _ => False)) (fun _ _ h => h)
  have hsh := hsh.fr (Fr.of_below hb1 (fun _ => False)) (fun _ _ h => h)
  have HW := Lib.hid hW
  clear hW hb0 hz1 hq
  rw [wordsN_at j hj]
  obtain ⟨bb, o, rfl, _, y0, y1, y2, y3, y4, g0, g1, g2, g3, g4, hfv⟩ := hfn j hj
  have hfp := hp.2.2.2 p.funcs[j] (List.getElem_mem hj)
  generalize p.funcs[j] = f at *
  obtain ⟨G, hG⟩ : ∃ G, G = spanK p f j := ⟨_, rfl⟩
  have hg0 := spanK_zero p f j
  have hgn := spanK_next p f j
  have hgs := spanK_step p f j
  have hgl : G f.objects.length = spanF p f j := by rw [hG]; rfl
  rw [← hG] at hg0 hgn hgs
  rw [← hgl]
  clear hG hgl
  obtain ⟨⟨e0, e1, rfl⟩, ⟨e2, rfl⟩, rfl, ⟨e3, e4, rfl, hobj⟩, e5, e6, e7, rfl⟩ := hfv
  have hj0 : ¬ (j : Int) < 0 := by omega
  have hj1 : ¬ (p.funcs.length : Int) ≤ (j : Int) := by omega
  have hj2 : (j : Int) < p.funcs.length := by omega
  have hjb : i64B (j : Int) := by unfold i64B; have := hp.2.1; omega
  obtain ⟨f0, f1, f2⟩ := hfp
  obtain ⟨A0, hA0⟩ : ∃ A0 : Nat, A0 = f.slots.toNat := ⟨_, rfl⟩
  obtain ⟨acc, hacc⟩ : ∃ acc : Nat → Nat, acc = fun k => 2 + A0 + objsN p (f.objects.take k) := ⟨_, rfl⟩
  have hat : atN p f = acc := by rw [hacc, hA0]; rfl
  rw [hat] at hgs
  clear hat
  have hfull : frameN p f = acc f.objects.length := by rw [hacc, hA0]; simp [frameN]
  have hac0 : acc 0 = 2 + A0 := by rw [hacc]; simp [objsN]
  have hacs : ∀ k (hk : k < f.objects.length), acc (k + 1) = acc k + fieldsN p f.objects[k] := fun k hk => by
    rw [hacc]
    simp only
    rw [objsN_snoc p _ k hk]
    omega
  have hacl : ∀ k, k ≤ f.objects.length → acc k ≤ 9100000 := fun k hk => by
    rw [hacc]
    simp only
    have h1 := objsN_le hp (f.objects.take k)
    have h2 : (f.objects.take k).length ≤ 3000 := by rw [List.length_take]; omega
    omega
  rw [hfull]
  have hfl := fun s => fieldsN_le hp s
  have hx1 := fun wr h => box1 W #[.slice e0 f.nargs e1, .int .i64 e2, .int .i64 f.slots, .slice e3 f.objects.length e4, .slice e5 e6 e7] 31 wr h
  have hx2 : (W.alloc (.cells #[.slice e0 f.nargs e1, .int .i64 e2, .int .i64 f.slots, .slice e3 f.objects.length e4, .slice e5 e6 e7] 31)).heap.size = W.heap.size + 1 := by simp
  have hmk := hmk.congr (g := G 0) (fun a _ => (hg0 a).symm)
  have hm0 := hmk.fr ((Fr.refl (fun _ => False) W).alloc (.cells #[.slice e0 f.nargs e1, .int .i64 e2, .int .i64 f.slots, .slice e3 f.objects.length e4, .slice e5 e6 e7] 31)) (fun h => h)
  have hbX := hb1.alloc hb1.size (.cells #[.slice e0 f.nargs e1, .int .i64 e2, .int .i64 f.slots, .slice e3 f.objects.length e4, .slice e5 e6 e7] 31)
  have hfX := (Fr.refl (fun _ => False) W).alloc (.cells #[.slice e0 f.nargs e1, .int .i64 e2, .int .i64 f.slots, .slice e3 f.objects.length e4, .slice e5 e6 e7] 31)
  obtain ⟨X, hX⟩ : ∃ X, X = W.alloc (.cells #[.slice e0 f.nargs e1, .int .i64 e2, .int .i64 f.slots, .slice e3 f.objects.length e4, .slice e5 e6 e7] 31) := ⟨_, rfl⟩
  rw [← hX] at hx1 hx2 hm0 hbX hfX
  have hxb := hx1 X (by rw [← hx2]; exact Below.refl _ _)
  have t2 := hxb.1 2 _ rfl
  have t3 := hxb.1 3 _ rfl
  have kk1 := hfX.cell k1 (fun h => h)
  have hobj := hobj.fr hfX (fun _ _ h => h)
  have hsh := hsh.fr hfX (fun _ _ h => h)
  have bg := World.block_lt g0
  dsimp only at bg
  have HX := Lib.hid hX
  have hlj : (p.shapes.length : Int) ≤ 3000 := by have := hp.1; omega
  have hzX : w.heap.size + 1 < X.heap.size := by omega
  clear hX hx1 hxb hfX hmk hb1 hacc hfull hp hj hg0
  generalize f.slots = sl at *
  have hac1 := hacl 0 (Nat.zero_le _)
  clear hsz hx2
  have HGN := Lib.hid hgn; clear hgn
  have HGS := Lib.hid hgs; clear hgs
  have HACS := Lib.hid hacs; clear hacs
  have HACL := Lib.hid hacl; clear hacl
  have HFL := Lib.hid hfl; clear hfl
  have HM0 := Lib.hid hm0; clear hm0
  have HBX := Lib.hid hbX; clear hbX
  have HOBJ := Lib.hid hobj; clear hobj
  have HSH := Lib.hid hsh; clear hsh
  have HAC0 := Lib.hid hac0; clear hac0
  have HZX := Lib.hid hzX; clear hzX
  have HD := Lib.hid hD; clear hD
  have HT := Lib.hid ht; clear ht
  have HJB := Lib.hid hjb; clear hjb
  by_cases hs : 0 ≤ sl
  · have hA : sl = (A0 : Int) := by omega
    subst hA
    clear hA0
    have hac : (acc 0 : Int) = 2 + (A0 : Int) := by rw [HAC0.out]; omega
    have i0 : IntKind.i64.wrap (2 + (A0 : Int)) = (acc 0 : Int) := by rw [← hac]; exact IntWalk.i64_in _ (by omega)
    have HAC := Lib.hid hac; clear hac
    go_enter Tryz.func151, Tryz.ntmps151
    go_upto_region 2 with fail
    rw [← HW.out]
    go_upto_region 5 with fail
    rw [← HX.out]
    clear k0 k1 k2 g0 g1 g2 g3 g4 bg
    go_wp2_with fail
    clear t2 i0
    go_loopw [8, 35] (fun at_ i wr => ∃ k, k ≤ f.objects.length ∧ i = .int .i64 (k : Nat) ∧ at_ = .int .i64 (acc k) ∧ MapIs obK spanVal wr (w.heap.size + 1) k (G k) ∧ Fr (fun q => q = w.heap.size + 1) X wr) (fun _ i _ => f.objects.length - (intOf i).toNat)
    case atStart => exact ⟨0, Nat.zero_le _, rfl, by first | rfl | (rw [HAC.out]; rfl), HM0.out, Fr.refl _ _⟩
    case round =>
      obtain ⟨k, hk, rfl, rfl, hm, hf⟩ := hrel
      have hfx := hf.below (N := w.heap.size + 1) (Nat.le_of_lt HZX.out) (fun q hq => by omega)
      have hbr := HBX.out.trans (hfx.mono (by omega))
      have k1 := hf.cell kk1 (by show ¬ w.heap.size = w.heap.size + 1; omega)
      by_cases hlt : k < f.objects.length
      · obtain ⟨b9, o9, rfl, hd9, hx⟩ := HOBJ.out k hlt
        have hx := hf.cell hx (by have := HD.out _ hd9; show ¬ b9 = _; omega)
        have hsu := HACS.out k hlt
        have hal := HACL.out k hk
        have hal2 := HACL.out (k + 1) hlt
        have hfls := HFL.out f.objects[k]
        have hkb : i64B (k : Int) := by unfold i64B; omega
        have HHN := Lib.hid hm
        have hgs := HGS.out k hlt HJB.out hkb
        clear hm
        cases hws : withinB f.objects[k] p.shapes.length
        · have hfz : fieldsN p f.objects[k] = 0 := by unfold fieldsN; rw [hws]; rfl
          rw [hfz] at hsu hgs
          have HS := Lib.hid hgs; clear hgs
          generalize f.objects[k] = x at *
          clear hfz hfls
          by_cases hx0 : 0 ≤ x
          · have hx1 : ¬ x < p.shapes.length := by simp [withinB] at hws; omega
            clear hws
            have i3 : IntKind.i64.wrap ((acc k : Int) + 0) = (acc (k + 1) : Int) := by rw [hsu]; exact IntWalk.i64_in _ (by omega)
            have HSU := Lib.hid hsu
            clear hsu
            have HF := Lib.hid hf; clear hf
            have HBR := Lib.hid hbr; clear hbr
            go_wp2_with (refine put_map rfl (.tmp 56) (.tmp 59) (.tmp 62) 211 215 rfl HHN.out HT.out (by unfold maxLen; omega) ⟨((j : Int), (k : Int)), HJB.out, hkb⟩ trivial ((acc k : Int), 0) rfl rfl rfl ?_; intro w1 hm1 ht1)
            rw [HGN.out k HJB.out hkb] at hm1
            have hm1 := hm1.congr (g := G (k + 1)) (fun a _ => HS.out a)
            have hf3 := HF.out.trans (turned_fr ht1) (fun _ _ h => h)
            clear ht1
            have HM1 := Lib.hid hm1; clear hm1
            have HF3 := Lib.hid hf3; clear hf3
            go_wp2_with fail
            go_roundw
            case rel => exact ⟨k + 1, by omega, by go_num, by first | rfl | (rw [HSU.out]; simp; done) | go_num, HM1.out, HF3.out⟩
            case measure => simp [intOf]; omega
          · clear hws
            have i3 : IntKind.i64.wrap ((acc k : Int) + 0) = (acc (k + 1) : Int) := by rw [hsu]; exact IntWalk.i64_in _ (by omega)
            have HSU := Lib.hid hsu
            clear hsu
            have HF := Lib.hid hf; clear hf
            have HBR := Lib.hid hbr; clear hbr
            go_wp2_with (refine put_map rfl (.tmp 56) (.tmp 59) (.tmp 62) 211 215 rfl HHN.out HT.out (by unfold maxLen; omega) ⟨((j : Int), (k : Int)), HJB.out, hkb⟩ trivial ((acc k : Int), 0) rfl rfl rfl ?_; intro w1 hm1 ht1)
            rw [HGN.out k HJB.out hkb] at hm1
            have hm1 := hm1.congr (g := G (k + 1)) (fun a _ => HS.out a)
            have hf3 := HF.out.trans (turned_fr ht1) (fun _ _ h => h)
            clear ht1
            have HM1 := Lib.hid hm1; clear hm1
            have HF3 := Lib.hid hf3; clear hf3
            go_wp2_with fail
            go_roundw
            case rel => exact ⟨k + 1, by omega, by go_num, by first | rfl | (rw [HSU.out]; simp; done) | go_num, HM1.out, HF3.out⟩
            case measure => simp [intOf]; omega
        · obtain ⟨y, hy, hyl⟩ := within_nat hws
          have hfz : fieldsN p f.objects[k] = p.shapes[y] := by unfold fieldsN; rw [if_pos hws, hy]; simp [hyl]
          rw [hfz] at hsu hfls hgs
          have HS := Lib.hid hgs; clear hgs
          rw [hy] at hx
          obtain ⟨b8, o8, rfl, hd8, a8, c8, hq⟩ := HSH.out y hyl
          have hq := hf.cell hq (by have := HD.out _ hd8; show ¬ b8 = _; omega)
          generalize p.shapes[y] = ny at *
          have hy0 : (0 : Int) ≤ (y : Int) := by omega
          have hy1 : (y : Int) < p.shapes.length := by omega
          clear hws hfz hy
          have i3 : IntKind.i64.wrap ((acc k : Int) + (ny : Int)) = (acc (k + 1) : Int) := by rw [hsu]; exact IntWalk.i64_in _ (by omega)
          have HSU := Lib.hid hsu
          clear hsu
          have HF := Lib.hid hf; clear hf
          have HBR := Lib.hid hbr; clear hbr
          go_wp2_with (refine put_map rfl (.tmp 56) (.tmp 59) (.tmp 62) 211 215 rfl HHN.out HT.out (by unfold maxLen; omega) ⟨((j : Int), (k : Int)), HJB.out, hkb⟩ trivial ((acc k : Int), (ny : Int)) rfl rfl rfl ?_; intro w1 hm1 ht1)
          rw [HGN.out k HJB.out hkb] at hm1
          have hm1 := hm1.congr (g := G (k + 1)) (fun a _ => HS.out a)
          have hf3 := HF.out.trans (turned_fr ht1) (fun _ _ h => h)
          clear ht1
          have HM1 := Lib.hid hm1; clear hm1
          have HF3 := Lib.hid hf3; clear hf3
          go_wp2_with fail
          go_roundw
          case rel => exact ⟨k + 1, by omega, by go_num, by first | rfl | (rw [HSU.out]; simp; done) | go_num, HM1.out, HF3.out⟩
          case measure => simp [intOf]; omega
      · have hk' : k = f.objects.length := by omega
        subst hk'
        clear hfx hf
        have HBR := Lib.hid hbr; clear hbr
        have HM := Lib.hid hm; clear hm
        go_wp2_with fail
        go_ret2
        first | exact ⟨_, rfl, HM.out, HBR.out⟩ | exact ⟨_, ⟨rfl, HM.out⟩, HBR.out⟩
  · have hA : A0 = 0 := by omega
    subst hA
    clear hA0
    have hac : (acc 0 : Int) = 2 + ((0 : Nat) : Int) := by rw [HAC0.out]; omega
    have i0 : IntKind.i64.wrap (2 + ((0 : Nat) : Int)) = (acc 0 : Int) := by rw [← hac]; exact IntWalk.i64_in _ (by omega)
    have hmx : max sl 0 = 0 := by omega
    have HAC := Lib.hid hac; clear hac
    go_enter Tryz.func151, Tryz.ntmps151
    go_upto_region 2 with fail
    rw [← HW.out]
    go_upto_region 5 with fail
    rw [← HX.out]
    clear k0 k1 k2 g0 g1 g2 g3 g4 bg
    go_wp2_with fail
    clear t2 i0
    go_loopw [8, 35] (fun at_ i wr => ∃ k, k ≤ f.objects.length ∧ i = .int .i64 (k : Nat) ∧ at_ = .int .i64 (acc k) ∧ MapIs obK spanVal wr (w.heap.size + 1) k (G k) ∧ Fr (fun q => q = w.heap.size + 1) X wr) (fun _ i _ => f.objects.length - (intOf i).toNat)
    case atStart => exact ⟨0, Nat.zero_le _, rfl, by first | rfl | (rw [HAC.out]; rfl), HM0.out, Fr.refl _ _⟩
    case round =>
      obtain ⟨k, hk, rfl, rfl, hm, hf⟩ := hrel
      have hfx := hf.below (N := w.heap.size + 1) (Nat.le_of_lt HZX.out) (fun q hq => by omega)
      have hbr := HBX.out.trans (hfx.mono (by omega))
      have k1 := hf.cell kk1 (by show ¬ w.heap.size = w.heap.size + 1; omega)
      by_cases hlt : k < f.objects.length
      · obtain ⟨b9, o9, rfl, hd9, hx⟩ := HOBJ.out k hlt
        have hx := hf.cell hx (by have := HD.out _ hd9; show ¬ b9 = _; omega)
        have hsu := HACS.out k hlt
        have hal := HACL.out k hk
        have hal2 := HACL.out (k + 1) hlt
        have hfls := HFL.out f.objects[k]
        have hkb : i64B (k : Int) := by unfold i64B; omega
        have HHN := Lib.hid hm
        have hgs := HGS.out k hlt HJB.out hkb
        clear hm
        cases hws : withinB f.objects[k] p.shapes.length
        · have hfz : fieldsN p f.objects[k] = 0 := by unfold fieldsN; rw [hws]; rfl
          rw [hfz] at hsu hgs
          have HS := Lib.hid hgs; clear hgs
          generalize f.objects[k] = x at *
          clear hfz hfls
          by_cases hx0 : 0 ≤ x
          · have hx1 : ¬ x < p.shapes.length := by simp [withinB] at hws; omega
            clear hws
            have i3 : IntKind.i64.wrap ((acc k : Int) + 0) = (acc (k + 1) : Int) := by rw [hsu]; exact IntWalk.i64_in _ (by omega)
            have HSU := Lib.hid hsu
            clear hsu
            have HF := Lib.hid hf; clear hf
            have HBR := Lib.hid hbr; clear hbr
            go_wp2_with (refine put_map rfl (.tmp 56) (.tmp 59) (.tmp 62) 211 215 rfl HHN.out HT.out (by unfold maxLen; omega) ⟨((j : Int), (k : Int)), HJB.out, hkb⟩ trivial ((acc k : Int), 0) rfl rfl rfl ?_; intro w1 hm1 ht1)
            rw [HGN.out k HJB.out hkb] at hm1
            have hm1 := hm1.congr (g := G (k + 1)) (fun a _ => HS.out a)
            have hf3 := HF.out.trans (turned_fr ht1) (fun _ _ h => h)
            clear ht1
            have HM1 := Lib.hid hm1; clear hm1
            have HF3 := Lib.hid hf3; clear hf3
            go_wp2_with fail
            go_roundw
            case rel => exact ⟨k + 1, by omega, by go_num, by first | rfl | (rw [HSU.out]; simp; done) | go_num, HM1.out, HF3.out⟩
            case measure => simp [intOf]; omega
          · clear hws
            have i3 : IntKind.i64.wrap ((acc k : Int) + 0) = (acc (k + 1) : Int) := by rw [hsu]; exact IntWalk.i64_in _ (by omega)
            have HSU := Lib.hid hsu
            clear hsu
            have HF := Lib.hid hf; clear hf
            have HBR := Lib.hid hbr; clear hbr
            go_wp2_with (refine put_map rfl (.tmp 56) (.tmp 59) (.tmp 62) 211 215 rfl HHN.out HT.out (by unfold maxLen; omega) ⟨((j : Int), (k : Int)), HJB.out, hkb⟩ trivial ((acc k : Int), 0) rfl rfl rfl ?_; intro w1 hm1 ht1)
            rw [HGN.out k HJB.out hkb] at hm1
            have hm1 := hm1.congr (g := G (k + 1)) (fun a _ => HS.out a)
            have hf3 := HF.out.trans (turned_fr ht1) (fun _ _ h => h)
            clear ht1
            have HM1 := Lib.hid hm1; clear hm1
            have HF3 := Lib.hid hf3; clear hf3
            go_wp2_with fail
            go_roundw
            case rel => exact ⟨k + 1, by omega, by go_num, by first | rfl | (rw [HSU.out]; simp; done) | go_num, HM1.out, HF3.out⟩
            case measure => simp [intOf]; omega
        · obtain ⟨y, hy, hyl⟩ := within_nat hws
          have hfz : fieldsN p f.objects[k] = p.shapes[y] := by unfold fieldsN; rw [if_pos hws, hy]; simp [hyl]
          rw [hfz] at hsu hfls hgs
          have HS := Lib.hid hgs; clear hgs
          rw [hy] at hx
          obtain ⟨b8, o8, rfl, hd8, a8, c8, hq⟩ := HSH.out y hyl
          have hq := hf.cell hq (by have := HD.out _ hd8; show ¬ b8 = _; omega)
          generalize p.shapes[y] = ny at *
          have hy0 : (0 : Int) ≤ (y : Int) := by omega
          have hy1 : (y : Int) < p.shapes.length := by omega
          clear hws hfz hy
          have i3 : IntKind.i64.wrap ((acc k : Int) + (ny : Int)) = (acc (k + 1) : Int) := by rw [hsu]; exact IntWalk.i64_in _ (by omega)
          have HSU := Lib.hid hsu
          clear hsu
          have HF := Lib.hid hf; clear hf
          have HBR := Lib.hid hbr; clear hbr
          go_wp2_with (refine put_map rfl (.tmp 56) (.tmp 59) (.tmp 62) 211 215 rfl HHN.out HT.out (by unfold maxLen; omega) ⟨((j : Int), (k : Int)), HJB.out, hkb⟩ trivial ((acc k : Int), (ny : Int)) rfl rfl rfl ?_; intro w1 hm1 ht1)
          rw [HGN.out k HJB.out hkb] at hm1
          have hm1 := hm1.congr (g := G (k + 1)) (fun a _ => HS.out a)
          have hf3 := HF.out.trans (turned_fr ht1) (fun _ _ h => h)
          clear ht1
          have HM1 := Lib.hid hm1; clear hm1
          have HF3 := Lib.hid hf3; clear hf3
          go_wp2_with fail
          go_roundw
          case rel => exact ⟨k + 1, by omega, by go_num, by first | rfl | (rw [HSU.out]; simp; done) | go_num, HM1.out, HF3.out⟩
          case measure => simp [intOf]; omega
      · have hk' : k = f.objects.length := by omega
        subst hk'
        clear hfx hf
        have HBR := Lib.hid hbr; clear hbr
        have HM := Lib.hid hm; clear hm
        go_wp2_with fail
        go_ret2
        first | exact ⟨_, rfl, HM.out, HBR.out⟩ | exact ⟨_, ⟨rfl, HM.out⟩, HBR.out⟩
end Go.Proofs.YtknbllbhakpaaaaGreat.Tk
