/- Maps by their keys: a function from keys to what stands there. Nothing of the program stands here. -/
import Derived.Test.YtmanoclahcpaoaaTy
import Derived.Maps.OwnSet
namespace Go.Proofs.Ytmanoclahcpaoaa
open Go.RowKit Go.Maps

def tokR (v : Value) : Option (DataW Value × List MemPlace) := some (.held v, [])
/-- a key's type -/
structure KeyTy (P : Program) (κ : Type) where
  k : TypeId
  law : Keyed P k
  key : κ → Value
  lit : κ → Lit
  wf : κ → Prop
  hkey : ∀ a, wf a → keyOf P k (key a) = some (lit a)
  inj : ∀ a b, lit a = lit b → a = b
variable {P : Program} {κ ν : Type}
/-- block b is a map of n entries, of which f tells what stands at each key -/
def MapIs (K : KeyTy P κ) (val : ν → Value) (w : World) (b n : Nat) (f : κ → Option ν) : Prop :=
  ∃ D : DataW Value, w.ownsMap P K.k tokR b n D ∧ Maps.size D = n ∧ ∀ a, K.wf a → (∀ x, f a = some x → ∀ z, D.atKey (K.lit a) z = .held (val x)) ∧ (f a = none → ∀ z, D.atKey (K.lit a) z = z)
variable {K : KeyTy P κ} {val : ν → Value} {w w' : World} {b n : Nat} {f : κ → Option ν}
theorem MapIs.made (K : KeyTy P κ) (val : ν → Value) (w : World) : MapIs K val (w.alloc (.map #[] 0)) w.heap.size 0 (fun _ => none) :=
  ⟨_, World.ownsMap_made w P K.k tokR, rfl, fun _ _ => ⟨fun _ h => (by cases h), fun _ _ => rfl⟩⟩
theorem MapIs.lt (h : MapIs K val w b n f) : b < w.heap.size := let ⟨_, h, _⟩ := h; h.lt
theorem MapIs.fr {F : Nat → Prop} (h : MapIs K val w b n f) (hf : Fr F w w') (hn : ¬ F b) : MapIs K val w' b n f := by
  obtain ⟨D, h1, h2⟩ := h
  obtain ⟨es, clock, hb, r⟩ := h1
  exact ⟨D, ⟨es, clock, hf.heap hb hn, r⟩, h2⟩
theorem MapIs.below (h : MapIs K val w b n f) (hb : Below w.heap.size w w') : MapIs K val w' b n f := h.fr (Fr.of_below hb (fun _ => False)) (fun h => h)
theorem MapIs.congr {g : κ → Option ν} (h : MapIs K val w b n f) (hg : ∀ a, K.wf a → f a = g a) : MapIs K val w b n g := by
  obtain ⟨D, h1, h2, h3⟩ := h
  exact ⟨D, h1, h2, fun a ha => by rw [← hg a ha]; exact h3 a ha⟩
theorem MapIs.look {t e : TypeId} (h : MapIs K val w b n f) (ht : P.underlying t = some (.map K.k e)) {z : Value} (hz : (zeroValue e).run P w = .ok z w) (a : κ) (ha : K.wf a) :
    (∀ x, f a = some x → (Instr.lookup t (.map (some b)) (K.key a) false).run P w = .ok (val x) w ∧ (Instr.lookup t (.map (some b)) (K.key a) true).run P w = .ok (.tuple #[val x, .bool true]) w) ∧
    (f a = none → (Instr.lookup t (.map (some b)) (K.key a) false).run P w = .ok z w ∧ (Instr.lookup t (.map (some b)) (K.key a) true).run P w = .ok (.tuple #[z, .bool false]) w) := by
  obtain ⟨D, h1, _, h3⟩ := h
  obtain ⟨v, ps, hr, hv⟩ := h1.lookup K.law ht hz (zd := .held z) (zp := []) rfl (K.hkey a ha)
  obtain ⟨v2, ps2, hr2, hv2⟩ := h1.look_ok K.law ht hz (zd := .held z) (zp := []) rfl (K.hkey a ha)
  refine ⟨fun x hx => ?_, fun hx => ?_⟩
  · have h4 := (h3 a ha).1 x hx
    rw [h4] at hv hv2
    injection hv with hv
    injection hv2 with hv2
    injection hv with hv _
    injection hv2 with hv2 _
    injection hv with hv
    injection hv2 with hv2
    subst hv hv2
    rw [has_true_of_atKey h4] at hr2
    exact ⟨hr, hr2⟩
  · have h4 := (h3 a ha).2 hx
    rw [h4] at hv hv2
    injection hv with hv
    injection hv2 with hv2
    injection hv with hv _
    injection hv2 with hv2 _
    injection hv with hv
    injection hv2 with hv2
    subst hv hv2
    rw [has_false_of_atKey h4] at hr2
    exact ⟨hr, hr2⟩
/-- f, but at a -/
def upd (f : κ → Option ν) [DecidableEq κ] (a : κ) (x : Option ν) : κ → Option ν := fun c => if c = a then x else f c
theorem isKey (K : KeyTy P κ) {a : κ} (ha : K.wf a) : WideAt.IsKeyLit (K.lit a) := K.law.key (K.hkey a ha)
theorem MapIs.put [DecidableEq κ] {t e : TypeId} (h : MapIs K val w b n f) (ht : P.underlying t = some (.map K.k e)) (hn : n < maxLen) (a : κ) (ha : K.wf a) (x : ν) :
    ∃ w', (Instr.mapUpdate t (.map (some b)) (K.key a) (val x)).run P w = .ok () w' ∧ MapIs K val w' b (if (f a).isSome then n else n + 1) (upd f a (some x)) ∧ w.mapTurned w' b := by
  obtain ⟨D, h1, h2, h3⟩ := h
  obtain ⟨w', hr, h4, h5⟩ := h1.store K.law ht hn (K.hkey a ha) (show tokR (val x) = some (.held (val x), []) from rfl)
  have hm := h1.isMap
  have hT := h1.tidy K.law
  have hs : Maps.size (D.put (K.lit a) (.held (val x))) = if (f a).isSome then n else n + 1 := by
    rw [size_put hT, h2]
    cases hf : f a with
    | none => rw [has_false_of_atKey ((h3 a ha).2 hf)]; rfl
    | some y => rw [has_true_of_atKey ((h3 a ha).1 y hf)]; rfl
  refine ⟨w', hr, ⟨_, ?_, hs, fun c hc => ?_⟩, h5⟩
  · obtain ⟨es, clock, hb, F, hsz, hD⟩ := h4
    refine ⟨es, clock, hb, F, ?_, hD⟩
    rw [← hs, hD]
    simp [Maps.size, length_sorted]
  · by_cases hca : c = a
    · subst hca
      refine ⟨fun y hy z => ?_, fun hy => ?_⟩
      · rw [atKey_put_same hm (isKey K hc)]
        simp [upd] at hy
        rw [hy]
      · simp [upd] at hy
    · have hne : K.lit c ≠ K.lit a := fun e => hca (K.inj c a e)
      refine ⟨fun y hy z => ?_, fun hy z => ?_⟩
      · rw [atKey_put_other hne]
        simp [upd, hca] at hy
        exact (h3 c hc).1 y hy z
      · rw [atKey_put_other hne]
        simp [upd, hca] at hy
        exact (h3 c hc).2 hy z
theorem MapIs.del [DecidableEq κ] {t e : TypeId} (h : MapIs K val w b n f) (ht : P.underlying t = some (.map K.k e)) (a : κ) (ha : K.wf a) (ty : TypeId) :
    ∃ w', (Builtin.delete_ #[t, K.k] ty #[.map (some b), K.key a]).run P w = .ok (.tuple #[]) w' ∧ MapIs K val w' b (if (f a).isSome then n - 1 else n) (upd f a none) ∧ w.mapTurned w' b := by
  obtain ⟨D, h1, h2, h3⟩ := h
  obtain ⟨w', hr, h4, h5⟩ := h1.drop K.law ht (K.hkey a ha) ty
  have hT := h1.tidy K.law
  have hs : Maps.size (D.del (K.lit a)) = if (f a).isSome then n - 1 else n := by
    have := size_del (k := K.lit a) hT
    rw [h2] at this
    cases hf : f a with
    | none => rw [has_false_of_atKey ((h3 a ha).2 hf)] at this; simpa using this
    | some y => rw [has_true_of_atKey ((h3 a ha).1 y hf)] at this; simp at this ⊢; omega
  refine ⟨w', hr, ⟨_, ?_, hs, fun c hc => ?_⟩, h5⟩
  · obtain ⟨es, clock, hb, F, hsz, hD⟩ := h4
    refine ⟨es, clock, hb, F, ?_, hD⟩
    rw [← hs, hD]
    simp [Maps.size, length_sorted]
  · by_cases hca : c = a
    · subst hca
      refine ⟨fun y hy => ?_, fun hy z => ?_⟩
      · simp [upd] at hy
      · exact atKey_del_same z
    · have hne : K.lit c ≠ K.lit a := fun e => hca (K.inj c a e)
      refine ⟨fun y hy z => ?_, fun hy z => ?_⟩
      · rw [atKey_del_other hne]
        simp [upd, hca] at hy
        exact (h3 c hc).1 y hy z
      · rw [atKey_del_other hne]
        simp [upd, hca] at hy
        exact (h3 c hc).2 hy z
theorem turned_fr {b : Nat} (h : w.mapTurned w' b) : Fr (fun k => k = b) w w' := (Fr.refl _ w).grown h.grown (fun k hk _ => by injection hk with e; exact e.symm)

/-! at the operation -/
variable {ops : Array Oper} {rest : List Oper} {o : Oper} {a : Act} {Q : Exit → Act → World → Prop}
theorem look_some (hg : o.guard = none) (m x : Operand) (t e : TypeId) (hop : o.op = Op.lookup t m x false) (h : MapIs K val w b n f) (ht : P.underlying t = some (.map K.k e)) {z : Value} (hz : (zeroValue e).run P w = .ok z w) (k : κ) (hk : K.wf k)
    (hm : a.eval m = .map (some b)) (hx : a.eval x = K.key k) (y : ν) (hf : f k = some y) (hK : wpList P ops Q rest (a.put o.dst (val y)) w) : wpList P ops Q (o :: rest) a w := by
  refine wpList_plain hg fun K' hK' => ?_
  have hrun := ((h.look ht hz k hk).1 y hf).1
  unfold Oper.wp
  simp [execOp, hop, hm, hx, hrun, Result.andThen]
  exact hK' _ _ hK
theorem look_some_ok (hg : o.guard = none) (m x : Operand) (t e : TypeId) (hop : o.op = Op.lookup t m x true) (h : MapIs K val w b n f) (ht : P.underlying t = some (.map K.k e)) {z : Value} (hz : (zeroValue e).run P w = .ok z w) (k : κ) (hk : K.wf k)
    (hm : a.eval m = .map (some b)) (hx : a.eval x = K.key k) (y : ν) (hf : f k = some y) (hK : wpList P ops Q rest (a.put o.dst (.tuple #[val y, .bool true])) w) : wpList P ops Q (o :: rest) a w := by
  refine wpList_plain hg fun K' hK' => ?_
  have hrun := ((h.look ht hz k hk).1 y hf).2
  unfold Oper.wp
  simp [execOp, hop, hm, hx, hrun, Result.andThen]
  exact hK' _ _ hK
theorem look_none (hg : o.guard = none) (m x : Operand) (t e : TypeId) (hop : o.op = Op.lookup t m x false) (h : MapIs K val w b n f) (ht : P.underlying t = some (.map K.k e)) {z : Value} (hz : (zeroValue e).run P w = .ok z w) (k : κ) (hk : K.wf k)
    (hm : a.eval m = .map (some b)) (hx : a.eval x = K.key k) (hf : f k = none) (hK : wpList P ops Q rest (a.put o.dst z) w) : wpList P ops Q (o :: rest) a w := by
  refine wpList_plain hg fun K' hK' => ?_
  have hrun := ((h.look ht hz k hk).2 hf).1
  unfold Oper.wp
  simp [execOp, hop, hm, hx, hrun, Result.andThen]
  exact hK' _ _ hK
theorem look_none_ok (hg : o.guard = none) (m x : Operand) (t e : TypeId) (hop : o.op = Op.lookup t m x true) (h : MapIs K val w b n f) (ht : P.underlying t = some (.map K.k e)) {z : Value} (hz : (zeroValue e).run P w = .ok z w) (k : κ) (hk : K.wf k)
    (hm : a.eval m = .map (some b)) (hx : a.eval x = K.key k) (hf : f k = none) (hK : wpList P ops Q rest (a.put o.dst (.tuple #[z, .bool false])) w) : wpList P ops Q (o :: rest) a w := by
  refine wpList_plain hg fun K' hK' => ?_
  have hrun := ((h.look ht hz k hk).2 hf).2
  unfold Oper.wp
  simp [execOp, hop, hm, hx, hrun, Result.andThen]
  exact hK' _ _ hK
theorem put_map [DecidableEq κ] (hg : o.guard = none) (m x v : Operand) (t e : TypeId) (hop : o.op = Op.mapUpdate t m x v) (h : MapIs K val w b n f) (ht : P.underlying t = some (.map K.k e)) (hn : n < maxLen) (k : κ) (hk : K.wf k) (y : ν)
    (hm : a.eval m = .map (some b)) (hx : a.eval x = K.key k) (hv : a.eval v = val y)
    (hK : ∀ w', MapIs K val w' b (if (f k).isSome then n else n + 1) (upd f k (some y)) → w.mapTurned w' b → wpList P ops Q rest (a.put o.dst undef) w') : wpList P ops Q (o :: rest) a w := by
  refine wpList_plain hg fun K' hK' => ?_
  obtain ⟨w', hrun, r1, r2⟩ := h.put ht hn k hk y
  unfold Oper.wp
  simp [execOp, hop, hm, hx, hv, hrun, Result.andThen]
  exact hK' _ _ (hK w' r1 r2)
theorem del_map [DecidableEq κ] (hg : o.guard = none) (m x : Operand) (t e : TypeId) (hop : o.op = Op.call { callee := Callee.builtin Builtin.delete, args := #[m, x], argTypes := #[t, K.k] }) (h : MapIs K val w b n f) (ht : P.underlying t = some (.map K.k e)) (k : κ) (hk : K.wf k)
    (hm : a.eval m = .map (some b)) (hx : a.eval x = K.key k)
    (hK : ∀ w', MapIs K val w' b (if (f k).isSome then n - 1 else n) (upd f k none) → w.mapTurned w' b → wpList P ops Q rest (a.put o.dst (.tuple #[])) w') : wpList P ops Q (o :: rest) a w := by
  refine wpList_plain hg fun K' hK' => ?_
  obtain ⟨w', hrun, r1, r2⟩ := h.del ht k hk o.type
  unfold Oper.wp
  simp [execOp, hop, resolve, invoke, builtin, hm, hx, hrun, Result.andThen]
  exact hK' _ _ (hK w' r1 r2)
theorem len_map (hg : o.guard = none) (m : Operand) (t e : TypeId) (hop : o.op = Op.call { callee := Callee.builtin Builtin.len, args := #[m], argTypes := #[t] }) (h : MapIs K val w b n f) (ht : P.underlying t = some (.map K.k e))
    (hm : a.eval m = .map (some b)) (hK : wpList P ops Q rest (a.put o.dst (.int .i64 n)) w) : wpList P ops Q (o :: rest) a w := by
  obtain ⟨D, h1, h2, h3⟩ := h
  exact wpList_len_own w hg m t hop K.k e ht tokR b n D hm h1 (by rw [h2]; exact hK)
end Go.Proofs.Ytmanoclahcpaoaa
