/- What may be: kinds, shapes, instructions, functions, programs; the two ways to tell it come to the same. Nothing of the program's text stands here. Maps by their keys: a function from keys to what stands there. Nothing of the program stands here. -/
import Derived.Test.YtjcjhfnjamphlaaJAj
import Derived.Test.YtjcjhfnjamphlaaJAh
import Derived.Test.YtjcjhfnjamphlaaJAg
import Derived.Test.YtjcjhfnjamphlaaJAf
import Derived.Deep.RegionLaw
import Derived.Deep.RegionHeld3
import Derived.Test.YtjcjhfnjamphlaaJAc
import Derived.Maps.OwnSet
set_option linter.unusedVariables false
set_option linter.unusedSimpArgs false
namespace Go.Proofs.Ytjcjhfnjamphlaa
def withinB (n m : Int) : Bool := decide (0 ≤ n) && decide (n < m)
def fieldB (kind : Int) (shapes : Nat) : Bool := decide (shapes ≤ 16) && (kind == 1 || (decide (16 ≤ kind) && decide (kind < 16 + shapes)))
def validB (kind : Int) (shapes : Nat) : Bool := fieldB kind shapes || (decide (shapes ≤ 16) && (decide (64 ≤ kind) && decide (kind < 64 + shapes)))
def isLocB (kind : Int) : Bool := decide (64 ≤ kind) && decide (kind < 80)
/-- the first place at which something is not 0, and what it is there -/
def firstAt (f : Nat → Int) (n : Nat) : Int × Nat := match (List.range n).find? fun i => f i != 0 with | some i => (f i, i) | none => (0, 0)
theorem firstAt_none {f : Nat → Int} {n : Nat} (h : ∀ j, j < n → f j = 0) : firstAt f n = (0, 0) := by
  unfold firstAt
  have : (List.range n).find? (fun i => f i != 0) = none := by
    rw [List.find?_eq_none]
    intro x hx
    simp [h x (List.mem_range.1 hx)]
  rw [this]
theorem firstAt_hit {f : Nat → Int} {n k : Nat} (hk : k < n) (h : ∀ j, j < k → f j = 0) (hh : f k ≠ 0) : firstAt f n = (f k, k) := by
  unfold firstAt
  have : (List.range n).find? (fun i => f i != 0) = some k := by
    rw [List.find?_range_eq_some]
    exact ⟨by simpa using hh, List.mem_range.2 hk, fun j hj => by simp [h j hj]⟩
  rw [this]
theorem firstAt_zero {f : Nat → Int} {n : Nat} : (firstAt f n).1 = 0 ↔ ∀ j, j < n → f j = 0 := by
  constructor
  · intro h j hj
    by_cases hz : ∃ k, k < n ∧ f k ≠ 0
    · exfalso
      unfold firstAt at h
      cases hf : (List.range n).find? fun i => f i != 0 with
      | none =>
        obtain ⟨k, hk, hk2⟩ := hz
        rw [List.find?_eq_none] at hf
        have := hf k (List.mem_range.2 hk)
        simp at this
        exact hk2 this
      | some k =>
        rw [hf] at h
        have := List.find?_some hf
        simp at this
        exact this h
    · exact Classical.byContradiction fun hne => hz ⟨j, hj, hne⟩
  · intro h
    rw [firstAt_none h]
def shErr (n : Nat) (x : List Int) : Int := if x.length < 1 ∨ 16 < x.length then 1 else if x.all (fieldB · n) then 0 else 3
def shapesErr (l : List (List Int)) : Int := if 16 < l.length then 1 else (firstAt (fun i => shErr l.length (l[i]?.getD [])) l.length).1

/-- the function that is called -/
def calleeF (p : Prg) (i : Ins) : Option Fun := if (i.op = 21 ∨ i.op = 23 ∨ i.op = 24) ∧ withinB i.b p.funcs.length = true then p.funcs[i.b.toNat]? else none
def argsN (g : Option Fun) : Nat := match g with | some g => g.args.length | none => 0
def quietB (p : Prg) (f : Fun) (i : Ins) : Bool :=
  (i.op == 22 && f.result == 0) || (i.op == 21 && (match calleeF p i with | some g => g.result == 0 | none => false))
def formB (p : Prg) (f : Fun) (i : Ins) : Bool := knownS i.op && mayB i.a ((usesS i.op).1 && !quietB p f i) && mayB i.b (usesS i.op).2.1 && mayB i.c (usesS i.op).2.2
def usedL (p : Prg) (f : Fun) (i : Ins) : List Int :=
  readsL i (argsN (calleeF p i)) ++ (if writesS i.op && !quietB p f i then [i.a] else []) ++ (if i.op == 26 then [i.b] else []) ++ (if i.op == 22 && !quietB p f i then [i.a] else [])
def roomB (f : Fun) (c : Int) (n : Nat) : Bool := decide (0 ≤ c) && decide ((n : Int) ≤ f.slots) && decide (c ≤ f.slots - n)
def slotsB (p : Prg) (f : Fun) (i : Ins) : Bool := (match calleeF p i with | some g => roomB f i.c g.args.length | none => true) && (usedL p f i).all (withinB · f.slots)
def thingsB (p : Prg) (f : Fun) (i : Ins) : Bool :=
  if i.op = 9 ∨ i.op = 10 then withinB i.b f.code.length
  else if i.op = 21 ∨ i.op = 23 ∨ i.op = 24 then withinB i.b p.funcs.length
  else if i.op = 13 ∨ i.op = 11 then withinB i.b p.shapes.length
  else if i.op = 16 then withinB i.b p.globals.length
  else if i.op = 17 then withinB i.a p.globals.length
  else if i.op = 18 then withinB i.b f.objects.length
  else if i.op = 14 ∨ i.op = 19 then withinB i.c 16
  else if i.op = 15 ∨ i.op = 20 then withinB i.b 16
  else true
def kindsB (p : Prg) (i : Ins) : Bool :=
  if i.op = 23 ∨ i.op = 24 then (match calleeF p i with | some g => g.result == 0 && !g.args.any isLocB | none => true)
  else if i.op = 25 ∨ i.op = 26 then decide (0 < p.shapes.length)
  else true
def instrS (p : Prg) (f : Fun) (i : Ins) : Int := if formB p f i = false then 2 else if (thingsB p f i && slotsB p f i) = false then 4 else if kindsB p i = false then 3 else 0

end Go.Proofs.Ytjcjhfnjamphlaa
namespace Go.Proofs.Ytjcjhfnjamphlaa
open Go.RowKit Go.Maps
def tokR (v : Value) : Option (DataW Value × List MemPlace) := some (.held v, [])
/-- a key's type -/
structure KeyTy (P : Program) (κ : Type) where
  k : TypeId
  law : Keyed P k
  key : κ → Value
  lit : κ → Lit
  wf : κ → Prop
  hkey : ∀ a, wf a → keyOf P k (key a) = some (lit a)
  inj : ∀ a b, lit a = lit b → a = b
variable {P : Program} {κ ν : Type}
/-- block b is a map of n entries, of which f tells what stands at each key -/
def MapIs (K : KeyTy P κ) (val : ν → Value) (w : World) (b n : Nat) (f : κ → Option ν) : Prop :=
  ∃ D : DataW Value, w.ownsMap P K.k tokR b n D ∧ Maps.size D = n ∧ ∀ a, K.wf a → (∀ x, f a = some x → ∀ z, D.atKey (K.lit a) z = .held (val x)) ∧ (f a = none → ∀ z, D.atKey (K.lit a) z = z)
variable {K : KeyTy P κ} {val : ν → Value} {w w' : World} {b n : Nat} {f : κ → Option ν}
theorem MapIs.made (K : KeyTy P κ) (val : ν → Value) (w : World) : MapIs K val (w.alloc (.map #[] 0)) w.heap.size 0 (fun _ => none) :=
  ⟨_, World.ownsMap_made w P K.k tokR, rfl, fun _ _ => ⟨fun _ h => (by cases h), fun _ _ => rfl⟩⟩
theorem MapIs.lt (h : MapIs K val w b n f) : b < w.heap.size := let ⟨_, h, _⟩ := h; h.lt
theorem MapIs.fr {F : Nat → Prop} (h : MapIs K val w b n f) (hf : Fr F w w') (hn : ¬ F b) : MapIs K val w' b n f := by
  obtain ⟨D, h1, h2⟩ := h
  obtain ⟨es, clock, hb, r⟩ := h1
  exact ⟨D, ⟨es, clock, hf.heap hb hn, r⟩, h2⟩
theorem MapIs.below (h : MapIs K val w b n f) (hb : Below w.heap.size w w') : MapIs K val w' b n f := h.fr (Fr.of_below hb (fun _ => False)) (fun h => h)
theorem MapIs.congr {g : κ → Option ν} (h : MapIs K val w b n f) (hg : ∀ a, K.wf a → f a = g a) : MapIs K val w b n g := by
  obtain ⟨D, h1, h2, h3⟩ := h
  exact ⟨D, h1, h2, fun a ha => by rw [← hg a ha]; exact h3 a ha⟩
theorem MapIs.look {t e : TypeId} (h : MapIs K val w b n f) (ht : P.underlying t = some (.map K.k e)) {z : Value} (hz : (zeroValue e).run P w = .ok z w) (a : κ) (ha : K.wf a) :
    (∀ x, f a = some x → (Instr.lookup t (.map (some b)) (K.key a) false).run P w = .ok (val x) w ∧ (Instr.lookup t (.map (some b)) (K.key a) true).run P w = .ok (.tuple #[val x, .bool true]) w) ∧
    (f a = none → (Instr.lookup t (.map (some b)) (K.key a) false).run P w = .ok z w ∧ (Instr.lookup t (.map (some b)) (K.key a) true).run P w = .ok (.tuple #[z, .bool false]) w) := by
  obtain ⟨D, h1, _, h3⟩ := h
  obtain ⟨v, ps, hr, hv⟩ := h1.lookup K.law ht hz (zd := .held z) (zp := []) rfl (K.hkey a ha)
  obtain ⟨v2, ps2, hr2, hv2⟩ := h1.look_ok K.law ht hz (zd := .held z) (zp := []) rfl (K.hkey a ha)
  refine ⟨fun x hx => ?_, fun hx => ?_⟩
  · have h4 := (h3 a ha).1 x hx
    rw [h4] at hv hv2
    injection hv with hv
    injection hv2 with hv2
    injection hv with hv _
    injection hv2 with hv2 _
    injection hv with hv
    injection hv2 with hv2
    subst hv hv2
    rw [has_true_of_atKey h4] at hr2
    exact ⟨hr, hr2⟩
  · have h4 := (h3 a ha).2 hx
    rw [h4] at hv hv2
    injection hv with hv
    injection hv2 with hv2
    injection hv with hv _
    injection hv2 with hv2 _
    injection hv with hv
    injection hv2 with hv2
    subst hv hv2
    rw [has_false_of_atKey h4] at hr2
    exact ⟨hr, hr2⟩
/-- f, but at a -/
def upd (f : κ → Option ν) [DecidableEq κ] (a : κ) (x : Option ν) : κ → Option ν := fun c => if c = a then x else f c
theorem isKey (K : KeyTy P κ) {a : κ} (ha : K.wf a) : WideAt.IsKeyLit (K.lit a) := K.law.key (K.hkey a ha)
theorem MapIs.put [DecidableEq κ] {t e : TypeId} (h : MapIs K val w b n f) (ht : P.underlying t = some (.map K.k e)) (hn : n < maxLen) (a : κ) (ha : K.wf a) (x : ν) :
    ∃ w', (Instr.mapUpdate t (.map (some b)) (K.key a) (val x)).run P w = .ok () w' ∧ MapIs K val w' b (if (f a).isSome then n else n + 1) (upd f a (some x)) ∧ w.mapTurned w' b := by
  obtain ⟨D, h1, h2, h3⟩ := h
  obtain ⟨w', hr, h4, h5⟩ := h1.store K.law ht hn (K.hkey a ha) (show tokR (val x) = some (.held (val x), []) from rfl)
  have hm := h1.isMap
  have hT := h1.tidy K.law
  have hs : Maps.size (D.put (K.lit a) (.held (val x))) = if (f a).isSome then n else n + 1 := by
    rw [size_put hT, h2]
    cases hf : f a with
    | none => rw [has_false_of_atKey ((h3 a ha).2 hf)]; rfl
    | some y => rw [has_true_of_atKey ((h3 a ha).1 y hf)]; rfl
  refine ⟨w', hr, ⟨_, ?_, hs, fun c hc => ?_⟩, h5⟩
  · obtain ⟨es, clock, hb, F, hsz, hD⟩ := h4
    refine ⟨es, clock, hb, F, ?_, hD⟩
    rw [← hs, hD]
    simp [Maps.size, length_sorted]
  · by_cases hca : c = a
    · subst hca
      refine ⟨fun y hy z => ?_, fun hy => ?_⟩
      · rw [atKey_put_same hm (isKey K hc)]
        simp [upd] at hy
        rw [hy]
      · simp [upd] at hy
    · have hne : K.lit c ≠ K.lit a := fun e => hca (K.inj c a e)
      refine ⟨fun y hy z => ?_, fun hy z => ?_⟩
      · rw [atKey_put_other hne]
        simp [upd, hca] at hy
        exact (h3 c hc).1 y hy z
      · rw [atKey_put_other hne]
        simp [upd, hca] at hy
        exact (h3 c hc).2 hy z
theorem turned_fr {b : Nat} (h : w.mapTurned w' b) : Fr (fun k => k = b) w w' := (Fr.refl _ w).grown h.grown (fun k hk _ => by injection hk with e; exact e.symm)

variable {ops : Array Oper} {rest : List Oper} {o : Oper} {a : Act} {Q : Exit → Act → World → Prop}
theorem look_some (hg : o.guard = none) (m x : Operand) (t e : TypeId) (hop : o.op = Op.lookup t m x false) (h : MapIs K val w b n f) (ht : P.underlying t = some (.map K.k e)) {z : Value} (hz : (zeroValue e).run P w = .ok z w) (k : κ) (hk : K.wf k)
    (hm : a.eval m = .map (some b)) (hx : a.eval x = K.key k) (y : ν) (hf : f k = some y) (hK : wpList P ops Q rest (a.put o.dst (val y)) w) : wpList P ops Q (o :: rest) a w := by
  refine wpList_plain hg fun K' hK' => ?_
  have hrun := ((h.look ht hz k hk).1 y hf).1
  unfold Oper.wp
  simp [execOp, hop, hm, hx, hrun, Result.andThen]
  exact hK' _ _ hK
theorem look_none (hg : o.guard = none) (m x : Operand) (t e : TypeId) (hop : o.op = Op.lookup t m x false) (h : MapIs K val w b n f) (ht : P.underlying t = some (.map K.k e)) {z : Value} (hz : (zeroValue e).run P w = .ok z w) (k : κ) (hk : K.wf k)
    (hm : a.eval m = .map (some b)) (hx : a.eval x = K.key k) (hf : f k = none) (hK : wpList P ops Q rest (a.put o.dst z) w) : wpList P ops Q (o :: rest) a w := by
  refine wpList_plain hg fun K' hK' => ?_
  have hrun := ((h.look ht hz k hk).2 hf).1
  unfold Oper.wp
  simp [execOp, hop, hm, hx, hrun, Result.andThen]
  exact hK' _ _ hK
theorem put_map [DecidableEq κ] (hg : o.guard = none) (m x v : Operand) (t e : TypeId) (hop : o.op = Op.mapUpdate t m x v) (h : MapIs K val w b n f) (ht : P.underlying t = some (.map K.k e)) (hn : n < maxLen) (k : κ) (hk : K.wf k) (y : ν)
    (hm : a.eval m = .map (some b)) (hx : a.eval x = K.key k) (hv : a.eval v = val y)
    (hK : ∀ w', MapIs K val w' b (if (f k).isSome then n else n + 1) (upd f k (some y)) → w.mapTurned w' b → wpList P ops Q rest (a.put o.dst undef) w') : wpList P ops Q (o :: rest) a w := by
  refine wpList_plain hg fun K' hK' => ?_
  obtain ⟨w', hrun, r1, r2⟩ := h.put ht hn k hk y
  unfold Oper.wp
  simp [execOp, hop, hm, hx, hv, hrun, Result.andThen]
  exact hK' _ _ (hK w' r1 r2)
end Go.Proofs.Ytjcjhfnjamphlaa
