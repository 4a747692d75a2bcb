/- What comes in: a program, with the bounds of its numbers. What may be: functions, programs: the first error and its place. Nothing of the program's text stands here. Flow, plainly: the kinds behind an instruction, where it goes on, and what is less known. Nothing of the program's text stands here. Flow, plainly: the kinds that hold at all places; the ways to find them. Nothing of the program's text stands here. -/
import Derived.Test.YtknbllbhakpaaaaGreatHAd
import Derived.Test.YtknbllbhakpaaaaGreatHAg
import Derived.Test.YtknbllbhakpaaaaGreatHAn
import Derived.Test.YtknbllbhakpaaaaGreatHAf
set_option linter.unusedVariables false
set_option linter.unusedSimpArgs false
namespace Go.Proofs.YtknbllbhakpaaaaGreat
open Go.ChangeShapes Go.WideShapes Go.ChangeAt Go.RowKit
def FunB (f : Fun) : Prop := (∀ x ∈ f.args, i64B x) ∧ i64B f.result ∧ i64B f.slots ∧ (∀ x ∈ f.objects, i64B x) ∧ ∀ i ∈ f.code, i.wf
/-- all numbers of a program are numbers of 64 bits -/
def PrgB (p : Prg) : Prop := (∀ x ∈ p.globals, i64B x) ∧ (∀ s ∈ p.shapes, ∀ x ∈ s, i64B x) ∧ ∀ f ∈ p.funcs, FunB f
theorem all_at {α : Type} {P : α → Prop} {l : List α} (h : ∀ j (hj : j < l.length), P l[j]) : ∀ x ∈ l, P x := fun x hx => by
  obtain ⟨j, hj, rfl⟩ := List.getElem_of_mem hx
  exact h j hj
variable {H : Type} {enc : TypeId × Value → H}
theorem trodB_ints {w : World} {base : Nat} {sp : Nat → Bool} {hd : Bool} {m : Nat} {cs : List Value} {x : DataW H × List MemPlace} (h : DataW.trod enc Tryz.prog w base sp hd m 23 cs = some x) :
    ∃ a l c, cs = [.slice a (List.length l) c] ∧ IntSl w (fun k => k < w.heap.size) a l ∧ ∀ x ∈ l, i64B x := by
  obtain ⟨a, l, c, h1, h2⟩ := open_elems (α := Int) Tryz.underlying23 cells_ints.1 (by decide) (fun ds z => ∀ u, ds = [u] → u = .int .i64 z ∧ i64B z) (fun n ds y hy => by
    rcases Nat.lt_or_ge 1 ds.length with h | h
    · exact ⟨0, fun u hu => by rw [hu] at h; simp at h⟩
    · match ds, h with
      | [], _ => exact ⟨0, fun u hu => by cases hu⟩
      | [u], _ =>
        obtain ⟨z, hz, hz2⟩ := trod_one hy
        exact ⟨z, fun v hv => by simp at hv; rw [← hv]; exact ⟨hz, hz2⟩⟩) h
  refine ⟨a, l, c, h1, fun j hj => ?_, all_at fun j hj => ?_⟩
  · obtain ⟨b, o, ds, h3, h4, h5, h6⟩ := h2 j hj
    match ds, h5 with
    | [u], _ =>
      have hu := (h4 u rfl).1
      have hc := h6 0 u rfl
      rw [hu, Nat.mul_one] at hc
      exact ⟨b, o, h3, World.block_lt hc, hc⟩
  · obtain ⟨b, o, ds, h3, h4, h5, h6⟩ := h2 j hj
    match ds, h5 with
    | [u], _ => exact (h4 u rfl).2
end Go.Proofs.YtknbllbhakpaaaaGreat
namespace Go.Proofs.YtknbllbhakpaaaaGreat
def frontS (p : Prg) (f : Fun) : Int :=
  if f.slots < f.args.length ∨ 16 < f.slots ∨ 8 < f.objects.length ∨ f.code.length < 1 ∨ 64 < f.code.length then 1
  else if f.args.all (validB · p.shapes.length) = false then 3
  else if f.result ≠ 0 ∧ fieldB f.result p.shapes.length = false then 3
  else if f.objects.all (withinB · p.shapes.length) = false then 4 else 0
/-- the error of a function, and the instruction at which it is -/
def funF (p : Prg) (fn : Nat) (f : Fun) : Int × Nat := if frontS p f ≠ 0 then (frontS p f, 0) else firstAt (fun pc => instrE p fn pc) f.code.length
def funcS (p : Prg) (fn : Int) : Int × Nat := if withinB fn p.funcs.length = true then funF p fn.toNat ((p.funcs[fn.toNat]?).getD fun0) else (1, 0)
def wholeS (p : Prg) : Int :=
  if shapesErr p.shapes ≠ 0 then shapesErr p.shapes
  else if 16 < p.globals.length ∨ p.funcs.length < 1 ∨ 16 < p.funcs.length then 1
  else if p.globals.all (fieldB · p.shapes.length) = false then 3
  else if 0 < ((p.funcs[0]?).getD fun0).args.length ∨ ((p.funcs[0]?).getD fun0).result ≠ 0 then 3 else 0
/-- the error of a program, the function and the instruction at which it is -/
def progS (p : Prg) : Int × Nat × Nat :=
  if wholeS p ≠ 0 then (wholeS p, 0, 0)
  else ((firstAt (fun i => (funcS p i).1) p.funcs.length).1, (firstAt (fun i => (funcS p i).1) p.funcs.length).2,
    if (firstAt (fun i => (funcS p i).1) p.funcs.length).1 = 0 then 0 else (funcS p (firstAt (fun i => (funcS p i).1) p.funcs.length).2).2)
theorem funcS_out {p : Prg} {fn : Int} (h : withinB fn p.funcs.length = false) : funcS p fn = (1, 0) := by unfold funcS; rw [h]; rfl
theorem funcS_at {p : Prg} (k : Nat) (hk : k < p.funcs.length) : funcS p k = funF p k p.funcs[k] := by
  have h : withinB (k : Int) p.funcs.length = true := by simp [withinB]; omega
  unfold funcS
  rw [if_pos h]
  simp [hk]
theorem progS_zero (p : Prg) : (progS p).1 = 0 ↔ wholeS p = 0 ∧ ∀ i, i < p.funcs.length → (funcS p i).1 = 0 := by
  unfold progS
  by_cases h : wholeS p = 0
  · rw [if_neg (by simpa using h)]
    simp only [h, true_and]
    exact firstAt_zero
  · rw [if_pos h]
    simp [h]
theorem funF_front {p : Prg} {k : Nat} {f : Fun} (h : frontS p f ≠ 0) : funF p k f = (frontS p f, 0) := if_pos h
theorem funF_code {p : Prg} {k : Nat} {f : Fun} (h : frontS p f = 0) : funF p k f = firstAt (fun pc => instrE p k pc) f.code.length := if_neg (by simpa using h)
theorem funF_zero {p : Prg} {k : Nat} {f : Fun} (h : (funF p k f).1 = 0) : ∀ j, j < f.code.length → instrE p k j = 0 := by
  by_cases h2 : frontS p f = 0
  · rw [funF_code h2] at h
    exact firstAt_zero.1 h
  · rw [funF_front h2] at h
    exact absurd h h2
theorem all_take {α : Type} {P : α → Bool} {l : List α} {k : Nat} (hk : k < l.length) (h : (l.take k).all P = true) : (l.take (k + 1)).all P = P l[k] := by
  rw [take_snoc l k hk, List.all_append, h]
  simp
theorem all_no {α : Type} {P : α → Bool} {l : List α} {k : Nat} (hk : k < l.length) (h : P l[k] = false) : l.all P = false := by
  rw [List.all_eq_false]
  exact ⟨l[k], List.getElem_mem hk, by simp [h]⟩
/-- the lists of a program are no longer than this -/
def PrgR (p : Prg) : Prop := p.globals.length ≤ 3000 ∧ p.shapes.length ≤ 3000 ∧ p.funcs.length ≤ 3000 ∧ (∀ s ∈ p.shapes, s.length ≤ 3000) ∧ ∀ f ∈ p.funcs, f.args.length ≤ 3000 ∧ f.objects.length ≤ 3000 ∧ f.code.length ≤ 3000
theorem codeOf_len {p : Prg} (h : PrgR p) (fn : Int) : (codeOf p fn).length ≤ 3000 := by
  unfold codeOf
  split
  · cases hq : p.funcs[fn.toNat]? with
    | none => simp
    | some f => exact (h.2.2.2.2 f (List.mem_of_getElem? hq)).2.2
  · simp
theorem calleeG_len {p : Prg} (h : PrgR p) (i : Ins) : (calleeG p i).args.length ≤ 3000 := by
  unfold calleeG calleeF
  split
  · cases hq : p.funcs[i.b.toNat]? with
    | none => simp [fun0]
    | some f => exact (h.2.2.2.2 f (List.mem_of_getElem? hq)).1
  · simp [fun0]
theorem slots_lt {p : Prg} (h : PrgB p) : ∀ f ∈ p.funcs, f.slots < 9223372036854775808 := fun f hf => by
  have := (h.2.2 f hf).2.2.1.2
  omega
end Go.Proofs.YtknbllbhakpaaaaGreat
namespace Go.Proofs.YtknbllbhakpaaaaGreat
def kindA (K : List Int) (k : Int) : Int := if 0 ≤ k ∧ k < K.length then (K[k.toNat]?).getD 0 else 0
def fieldA (p : Prg) (of k : Int) : Int := if of < p.shapes.length ∧ 0 ≤ k ∧ k < ((p.shapes[of.toNat]?).getD []).length then (((p.shapes[of.toNat]?).getD [])[k.toNat]?).getD 0 else 0
def isPtrB (x : Int) : Bool := decide (16 ≤ x) && decide (x < 32)
/-- the shape that a kind leads to -/
def leadA (loc : Bool) (x : Int) : Option Int := if loc then (if isLocB x then some (x - 64) else none) else if isPtrB x then some (x - 16) else none
def thrV (p : Prg) (o : Option Int) (fld : Int) : Int := match o with | none => 0 | some of => fieldA p of fld
def throughA (p : Prg) (op : Int) (K : List Int) (slot fld : Int) : Int := thrV p (leadA (decide (op = 19 ∨ op = 20)) (kindA K slot)) fld
def calleeR (p : Prg) (b : Int) : Fun := (p.funcs[b.toNat]?).getD fun0
def argsOk (K : List Int) (c : Int) (l : List Int) (n : Nat) : Bool := (List.range n).all fun k => kindA K (c + (k : Int)) == (l[k]?).getD 0
def globA (p : Prg) (k : Int) : Int := (p.globals[k.toNat]?).getD 0
def readsK (p : Prg) (r : Int) (i : Ins) (K : List Int) : Bool :=
  if 3 ≤ i.op ∧ i.op ≤ 8 then kindA K i.b == 1 && kindA K i.c == 1
  else if i.op = 2 then kindA K i.b != 0
  else if i.op = 10 ∨ i.op = 29 then kindA K i.a == 1
  else if i.op = 12 then isPtrB (kindA K i.b)
  else if i.op = 14 ∨ i.op = 19 then throughA p i.op K i.b i.c != 0
  else if i.op = 15 ∨ i.op = 20 then throughA p i.op K i.a i.b != 0 && kindA K i.c == throughA p i.op K i.a i.b
  else if i.op = 17 then kindA K i.b == globA p i.a
  else if i.op = 21 ∨ i.op = 23 ∨ i.op = 24 then argsOk K i.c (calleeR p i.b).args (calleeR p i.b).args.length
  else if i.op = 22 then r == 0 || kindA K i.a == r
  else if i.op = 25 then kindA K i.a == 1 && kindA K i.b == 16
  else true
def setsK (p : Prg) (f : Fun) (i : Ins) (K : List Int) : Int :=
  if i.op = 2 then kindA K i.b
  else if i.op = 11 ∨ i.op = 13 then 16 + i.b
  else if i.op = 14 ∨ i.op = 19 then throughA p i.op K i.b i.c
  else if i.op = 16 then globA p i.b
  else if i.op = 18 then 64 + (f.objects[i.b.toNat]?).getD 0
  else if i.op = 21 then (calleeR p i.b).result
  else 1
def writesK (p : Prg) (i : Ins) : Bool := writesS i.op && (i.op != 21 || (calleeR p i.b).result != 0)
/-- the kinds behind an instruction -/
def outK (p : Prg) (f : Fun) (i : Ins) (K : List Int) : List Int :=
  if i.op = 26 then (if writesK p i then K.set i.a.toNat (if readsK p f.result i K then setsK p f i K else 0) else K).set i.b.toNat 16
  else (if writesK p i then K.set i.a.toNat (if readsK p f.result i K then setsK p f i K else 0) else K)
/-- where it may go on -/
def nextK (i : Ins) (pc : Int) : List Int :=
  if i.op = 22 ∨ i.op = 25 ∨ i.op = 27 then [] else if i.op = 9 then [i.b] else if i.op = 10 ∧ i.b ≠ pc + 1 then [pc + 1, i.b] else [pc + 1]
def joinL (a b : List Int) : List Int := List.zipWith (fun x y => if x = y then x else 0) a b
theorem outK_len (p : Prg) (f : Fun) (i : Ins) (K : List Int) : (outK p f i K).length = K.length := by
  unfold outK
  split <;> split <;> simp

/-- L tells no less than K -/
def Le (K L : List Int) : Prop := K.length = L.length ∧ ∀ j : Nat, (K[j]?).getD 0 = 0 ∨ (K[j]?).getD 0 = (L[j]?).getD 0
theorem Le.refl (K : List Int) : Le K K := ⟨rfl, fun _ => .inr rfl⟩
theorem Le.trans {K L M : List Int} (h : Le K L) (h2 : Le L M) : Le K M := ⟨h.1.trans h2.1, fun j => by
  rcases h.2 j with e | e
  · exact .inl e
  · rcases h2.2 j with e2 | e2
    · exact .inl (e.trans e2)
    · exact .inr (e.trans e2)⟩
theorem joinL_len (a b : List Int) : (joinL a b).length = min a.length b.length := by simp [joinL]
theorem joinL_get (a b : List Int) (j : Nat) (h : a.length = b.length) : ((joinL a b)[j]?).getD 0 = if (a[j]?).getD 0 = (b[j]?).getD 0 then (a[j]?).getD 0 else 0 := by
  unfold joinL
  rw [List.getElem?_zipWith]
  by_cases hj : j < a.length
  · rw [List.getElem?_eq_getElem hj, List.getElem?_eq_getElem (show j < b.length by omega)]
    simp
  · rw [List.getElem?_eq_none (by omega), List.getElem?_eq_none (show b.length ≤ j by omega)]
    simp
theorem joinL_left {a b : List Int} (h : a.length = b.length) : Le (joinL a b) a := ⟨by rw [joinL_len]; omega, fun j => by
  rw [joinL_get a b j h]
  split
  · exact .inr rfl
  · exact .inl rfl⟩
theorem joinL_right {a b : List Int} (h : a.length = b.length) : Le (joinL a b) b := ⟨by rw [joinL_len]; omega, fun j => by
  rw [joinL_get a b j h]
  split
  next e => exact .inr e
  next => exact .inl rfl⟩
theorem le_joinL {a b c : List Int} (h : Le c a) (h2 : Le c b) : Le c (joinL a b) := ⟨by have := h.1; have := h2.1; rw [joinL_len]; omega, fun j => by
  rw [joinL_get a b j (by have := h.1; have := h2.1; omega)]
  rcases h.2 j with e | e
  · exact .inl e
  · rcases h2.2 j with e2 | e2
    · exact .inl e2
    · rw [if_pos (e.symm.trans e2)]
      exact .inr e⟩
theorem kindA_get (K : List Int) (k : Int) (h : 0 ≤ k) : kindA K k = (K[k.toNat]?).getD 0 := by
  unfold kindA
  split
  · rfl
  · rw [List.getElem?_eq_none (by omega)]
    rfl
theorem kindA_le {K L : List Int} (h : Le K L) (k : Int) : kindA K k = 0 ∨ kindA K k = kindA L k := by
  by_cases hk : 0 ≤ k
  · rw [kindA_get K k hk, kindA_get L k hk]
    exact h.2 _
  · left
    unfold kindA
    rw [if_neg (by omega)]
theorem leadA_zero (b : Bool) : leadA b 0 = none := by cases b <;> rfl
theorem through_le {K L : List Int} (h : Le K L) (p : Prg) (op s x : Int) : throughA p op K s x = 0 ∨ throughA p op K s x = throughA p op L s x := by
  unfold throughA
  rcases kindA_le h s with e | e
  · rw [e, leadA_zero]
    exact .inl rfl
  · rw [e]
    exact .inr rfl
/-- what is written in a checked program is named -/
def InsOk (p : Prg) (i : Ins) : Prop :=
  (i.op = 17 → globA p i.a ≠ 0) ∧ (∀ k, k < (calleeR p i.b).args.length → (i.op = 21 ∨ i.op = 23 ∨ i.op = 24) → ((calleeR p i.b).args[k]?).getD 0 ≠ 0)
theorem readsK_le {K L : List Int} (h : Le K L) (p : Prg) (r : Int) (i : Ins) (ho : InsOk p i) (hr : readsK p r i K = true) : readsK p r i L = true := by
  have ha := kindA_le h i.a
  have hb := kindA_le h i.b
  have hc := kindA_le h i.c
  have t1 := through_le h p i.op i.b i.c
  have t2 := through_le h p i.op i.a i.b
  unfold readsK at hr ⊢
  by_cases c1 : 3 ≤ i.op ∧ i.op ≤ 8
  · rw [if_pos c1] at hr ⊢
    simp only [Bool.and_eq_true, beq_iff_eq] at hr ⊢
    omega
  rw [if_neg c1] at hr ⊢
  by_cases c2 : i.op = 2
  · rw [if_pos c2] at hr ⊢
    simp only [bne_iff_ne, ne_eq] at hr ⊢
    omega
  rw [if_neg c2] at hr ⊢
  by_cases c3 : i.op = 10 ∨ i.op = 29
  · rw [if_pos c3] at hr ⊢
    simp only [beq_iff_eq] at hr ⊢
    omega
  rw [if_neg c3] at hr ⊢
  by_cases c4 : i.op = 12
  · rw [if_pos c4] at hr ⊢
    rcases hb with e | e
    · rw [e] at hr; cases hr
    · rw [← e]; exact hr
  rw [if_neg c4] at hr ⊢
  by_cases c5 : i.op = 14 ∨ i.op = 19
  · rw [if_pos c5] at hr ⊢
    simp only [bne_iff_ne, ne_eq] at hr ⊢
    omega
  rw [if_neg c5] at hr ⊢
  by_cases c6 : i.op = 15 ∨ i.op = 20
  · rw [if_pos c6] at hr ⊢
    simp only [Bool.and_eq_true, bne_iff_ne, ne_eq, beq_iff_eq] at hr ⊢
    omega
  rw [if_neg c6] at hr ⊢
  by_cases c7 : i.op = 17
  · rw [if_pos c7] at hr ⊢
    have := ho.1 c7
    simp only [beq_iff_eq] at hr ⊢
    omega
  rw [if_neg c7] at hr ⊢
  by_cases c8 : i.op = 21 ∨ i.op = 23 ∨ i.op = 24
  · rw [if_pos c8] at hr ⊢
    unfold argsOk at hr ⊢
    rw [List.all_eq_true] at hr ⊢
    intro k hk
    have h1 := hr k hk
    have h2 := ho.2 k (List.mem_range.1 hk) c8
    have h3 := kindA_le h (i.c + (k : Int))
    simp only [beq_iff_eq] at h1 ⊢
    omega
  rw [if_neg c8] at hr ⊢
  by_cases c9 : i.op = 22
  · rw [if_pos c9] at hr ⊢
    simp only [Bool.or_eq_true, beq_iff_eq] at hr ⊢
    omega
  rw [if_neg c9] at hr ⊢
  by_cases c10 : i.op = 25
  · rw [if_pos c10] at hr ⊢
    simp only [Bool.and_eq_true, beq_iff_eq] at hr ⊢
    omega
  rw [if_neg c10]
theorem setsK_le {K L : List Int} (h : Le K L) (p : Prg) (f : Fun) (i : Ins) : setsK p f i K = 0 ∨ setsK p f i K = setsK p f i L := by
  have hb := kindA_le h i.b
  have t1 := through_le h p i.op i.b i.c
  unfold setsK
  repeat' split
  all_goals first | exact hb | exact t1 | exact .inr rfl
theorem Le.set {K L : List Int} (h : Le K L) (n : Nat) {x y : Int} (hx : x = 0 ∨ x = y) : Le (K.set n x) (L.set n y) := ⟨by simpa using h.1, fun j => by
  rw [List.getElem?_set, List.getElem?_set]
  by_cases e : n = j
  · subst e
    rw [if_pos rfl, if_pos rfl]
    by_cases hn : n < K.length
    · rw [if_pos hn, if_pos (by have := h.1; omega)]
      simpa using hx
    · rw [if_neg hn]
      exact .inl rfl
  · rw [if_neg e, if_neg e]
    exact h.2 j⟩
theorem outK_le {K L : List Int} (h : Le K L) (p : Prg) (f : Fun) (i : Ins) (ho : InsOk p i) : Le (outK p f i K) (outK p f i L) := by
  have hv : (if readsK p f.result i K = true then setsK p f i K else 0) = 0 ∨ (if readsK p f.result i K = true then setsK p f i K else 0) = (if readsK p f.result i L = true then setsK p f i L else 0) := by
    by_cases hr : readsK p f.result i K = true
    · rw [if_pos hr, if_pos (readsK_le h p _ i ho hr)]
      exact setsK_le h p f i
    · rw [if_neg hr]
      exact .inl rfl
  unfold outK
  by_cases hw : writesK p i = true
  · rw [if_pos hw, if_pos hw]
    split
    · exact (h.set _ hv).set _ (.inr rfl)
    · exact h.set _ hv
  · rw [if_neg hw, if_neg hw]
    split
    · exact h.set _ (.inr rfl)
    · exact h
end Go.Proofs.YtknbllbhakpaaaaGreat
namespace Go.Proofs.YtknbllbhakpaaaaGreat
abbrev Flo := Nat → Option (List Int)
def firstK (f : Fun) : List Int := f.args ++ List.replicate (f.slots.toNat - f.args.length) 0
/-- kinds that hold: at the first place, and behind each instruction -/
structure Sol (p : Prg) (f : Fun) (S : Flo) : Prop where
  first : ∃ K, S 0 = some K ∧ Le K (firstK f)
  len : ∀ q K, S q = some K → q < f.code.length ∧ K.length = f.slots.toNat
  step : ∀ q K i, S q = some K → f.code[q]? = some i → ∀ m : Nat, (m : Int) ∈ nextK i q → m < f.code.length → ∃ L, S m = some L ∧ Le L (outK p f i K)
/-- what tells most of all that holds -/
def IsFlow (p : Prg) (f : Fun) (M : Flo) : Prop := Sol p f M ∧ ∀ S, Sol p f S → ∀ q K, M q = some K → ∃ L, S q = some L ∧ Le L K
def comeM (M : Flo) (n : Nat) (K : List Int) : Flo := fun q => if q = n then some (match M n with | none => K | some was => joinL was K) else M q
def changes (M : Flo) (n : Nat) (K : List Int) : Prop := ∀ was, M n = some was → joinL was K ≠ was
theorem comeM_same {M : Flo} {n : Nat} {K : List Int} (h : ¬ changes M n K) : comeM M n K = M := by
  unfold changes at h
  have ⟨was, hw, he⟩ : ∃ was, M n = some was ∧ joinL was K = was := by
    refine Classical.byContradiction fun hne => h fun was hw he => hne ⟨was, hw, he⟩
  funext q
  unfold comeM
  by_cases hq : q = n
  · subst hq
    rw [if_pos rfl, hw]
    simp [he]
  · rw [if_neg hq]
theorem comeM_other {M : Flo} {n q : Nat} {K : List Int} (h : q ≠ n) : comeM M n K q = M q := if_neg h
theorem comeM_none {M : Flo} {n : Nat} {K : List Int} (h : M n = none) : comeM M n K n = some K := by unfold comeM; rw [if_pos rfl, h]
theorem comeM_some {M : Flo} {n : Nat} {K was : List Int} (h : M n = some was) : comeM M n K n = some (joinL was K) := by unfold comeM; rw [if_pos rfl, h]
/-- what holds while kinds are brought from place to place; P: what is not yet looked at -/
structure FInv (p : Prg) (f : Fun) (M : Flo) (P : Nat → Int → Prop) : Prop where
  low : ∀ S, Sol p f S → ∀ q K, M q = some K → ∃ L, S q = some L ∧ Le L K
  first : ∃ K, M 0 = some K ∧ Le K (firstK f)
  len : ∀ q K, M q = some K → q < f.code.length ∧ K.length = f.slots.toNat
  step : ∀ q K i, M q = some K → f.code[q]? = some i → ∀ m : Nat, (m : Int) ∈ nextK i q → m < f.code.length → ¬ P q m → ∃ L, M m = some L ∧ Le L (outK p f i K)
theorem FInv.weaken {p : Prg} {f : Fun} {M : Flo} {P Q : Nat → Int → Prop} (h : FInv p f M P) (hq : ∀ q m, P q m → Q q m) : FInv p f M Q :=
  ⟨h.low, h.first, h.len, fun q K i h1 h2 m h3 h4 h5 => h.step q K i h1 h2 m h3 h4 (fun hp => h5 (hq _ _ hp))⟩
theorem FInv.done {p : Prg} {f : Fun} {M : Flo} {P : Nat → Int → Prop} (h : FInv p f M P) (hp : ∀ q m, ¬ P q m) : IsFlow p f M :=
  ⟨⟨h.first, h.len, fun q K i h1 h2 m h3 h4 => h.step q K i h1 h2 m h3 h4 (hp _ _)⟩, h.low⟩
theorem firstK_len {f : Fun} (h : (f.args.length : Int) ≤ f.slots) : (firstK f).length = f.slots.toNat := by
  unfold firstK
  rw [List.length_append, List.length_replicate]
  omega
theorem FInv.start {p : Prg} {f : Fun} (h0 : 0 < f.code.length) (h : (f.args.length : Int) ≤ f.slots) : FInv p f (comeM (fun _ => none) 0 (firstK f)) (fun q _ => q = 0) := by
  have hne : ∀ q K, comeM (fun _ => none) 0 (firstK f) q = some K → q = 0 ∧ K = firstK f := fun q K hq => by
    by_cases e : q = 0
    · subst e
      rw [comeM_none rfl] at hq
      injection hq with hq
      exact ⟨rfl, hq.symm⟩
    · rw [comeM_other e] at hq
      cases hq
  refine ⟨fun S hS q K hq => ?_, ⟨_, comeM_none rfl, Le.refl _⟩, fun q K hq => ?_, fun q K i hq h2 m h3 h4 h5 => absurd (hne q K hq).1 h5⟩
  · obtain ⟨rfl, rfl⟩ := hne q K hq
    exact hS.first
  · obtain ⟨rfl, rfl⟩ := hne q K hq
    exact ⟨h0, firstK_len h⟩
/-- kinds are brought to a place -/
theorem FInv.come {p : Prg} {f : Fun} {M : Flo} {P : Nat → Int → Prop} (h : FInv p f M P) (n : Nat) (K : List Int) (hn : n < f.code.length) (hK : K.length = f.slots.toNat) (hlow : ∀ S, Sol p f S → ∃ L, S n = some L ∧ Le L K) :
    FInv p f (comeM M n K) (fun q m => P q m ∨ (q = n ∧ changes M n K)) ∧ ∃ L, comeM M n K n = some L ∧ Le L K := by
  have hat : ∃ L, comeM M n K n = some L ∧ Le L K ∧ L.length = f.slots.toNat ∧ (∀ was, M n = some was → Le L was) ∧ ∀ S, Sol p f S → ∃ L', S n = some L' ∧ Le L' L := by
    cases hm : M n with
    | none => exact ⟨K, comeM_none hm, Le.refl _, hK, (fun _ h => by cases h), hlow⟩
    | some was =>
      have hl := (h.len n was hm).2
      have hl2 : was.length = K.length := hl.trans hK.symm
      refine ⟨joinL was K, comeM_some hm, joinL_right hl2, by rw [joinL_len]; omega, fun w hw => by injection hw with e; subst e; exact joinL_left hl2, fun S hS => ?_⟩
      obtain ⟨L, hL, hle⟩ := hlow S hS
      obtain ⟨L2, hL2, hle2⟩ := h.low S hS n was hm
      rw [hL] at hL2
      injection hL2 with e
      subst e
      exact ⟨L, hL, le_joinL hle2 hle⟩
  obtain ⟨L, hL, hLK, hLl, hLw, hLS⟩ := hat
  refine ⟨⟨fun S hS q K' hq => ?_, ?_, fun q K' hq => ?_, fun q K' i hq h2 m h3 h4 h5 => ?_⟩, L, hL, hLK⟩
  · by_cases e : q = n
    · subst e
      rw [hL] at hq
      injection hq with hq
      subst hq
      exact hLS S hS
    · rw [comeM_other e] at hq
      exact h.low S hS q K' hq
  · obtain ⟨K0, h0, hle⟩ := h.first
    by_cases e : 0 = n
    · subst e
      exact ⟨L, hL, (hLw _ h0).trans hle⟩
    · exact ⟨K0, by rw [comeM_other e]; exact h0, hle⟩
  · by_cases e : q = n
    · subst e
      rw [hL] at hq
      injection hq with hq
      subst hq
      exact ⟨hn, hLl⟩
    · rw [comeM_other e] at hq
      exact h.len q K' hq
  · have hq' : M q = some K' := by
      by_cases e : q = n
      · have hnc : ¬ changes M n K := fun hc => h5 (.inr ⟨e, hc⟩)
        rw [comeM_same hnc] at hq
        exact hq
      · rw [comeM_other e] at hq
        exact hq
    obtain ⟨L2, hL2, hle2⟩ := h.step q K' i hq' h2 m h3 h4 (fun hp => h5 (.inl hp))
    by_cases e : m = n
    · subst e
      exact ⟨L, hL, (hLw _ hL2).trans hle2⟩
    · exact ⟨L2, by rw [comeM_other e]; exact hL2, hle2⟩
/-- what is brought from a place holds -/
theorem FInv.out {p : Prg} {f : Fun} {M : Flo} {P : Nat → Int → Prop} (h : FInv p f M P) {q : Nat} {K : List Int} {i : Ins} (hq : M q = some K) (hi : f.code[q]? = some i) (ho : InsOk p i) {m : Nat} (hm : (m : Int) ∈ nextK i q) (hml : m < f.code.length) :
    ∀ S, Sol p f S → ∃ L, S m = some L ∧ Le L (outK p f i K) := fun S hS => by
  obtain ⟨L, hL, hle⟩ := h.low S hS q K hq
  obtain ⟨L2, hL2, hle2⟩ := hS.step q L i hL hi m hm hml
  exact ⟨L2, hL2, hle2.trans (outK_le hle p f i ho)⟩

def cnt (K : List Int) : Nat := K.countP (· != 0)
def potO (s : Nat) (o : Option (List Int)) : Nat := match o with | none => s + 1 | some K => cnt K
def pot (s : Nat) (M : Flo) : Nat → Nat | 0 => 0 | n + 1 => pot s M n + potO s (M n)
theorem cnt_le (K : List Int) : cnt K ≤ K.length := List.countP_le_length
theorem cnt_join : ∀ a b : List Int, a.length = b.length → cnt (joinL a b) ≤ cnt a ∧ (joinL a b ≠ a → cnt (joinL a b) < cnt a)
  | [], b, _ => by simp [joinL, cnt]
  | x :: a, [], h => by simp at h
  | x :: a, y :: b, h => by
    have ih := cnt_join a b (by simpa using h)
    have e : joinL (x :: a) (y :: b) = (if x = y then x else 0) :: joinL a b := rfl
    have e2 : cnt (x :: a) = cnt a + if (x != 0) = true then 1 else 0 := List.countP_cons
    have e3 : cnt ((if x = y then x else 0) :: joinL a b) = cnt (joinL a b) + if ((if x = y then x else 0) != 0) = true then 1 else 0 := List.countP_cons
    rw [e, e2, e3]
    by_cases hxy : x = y
    · rw [if_pos hxy]
      refine ⟨by omega, fun hne => ?_⟩
      have := ih.2 (fun e => hne (by rw [e]))
      omega
    · rw [if_neg hxy]
      by_cases hx : x = 0
      · subst hx
        refine ⟨by omega, fun hne => ?_⟩
        have := ih.2 (fun e => hne (by rw [e]))
        omega
      · have h1 : (if ((0 : Int) != 0) = true then 1 else 0) = 0 := by simp
        have h2 : (if (x != 0) = true then 1 else 0) = 1 := by simp [hx]
        rw [h1, h2]
        exact ⟨by omega, fun _ => by omega⟩
theorem pot_congr (s : Nat) {M N : Flo} {n : Nat} (h : ∀ q, q < n → M q = N q) : pot s M n = pot s N n := by
  induction n with
  | zero => rfl
  | succ n ih =>
    show pot s M n + potO s (M n) = pot s N n + potO s (N n)
    rw [ih (fun q hq => h q (by omega)), h n (by omega)]
theorem pot_one (s : Nat) {M N : Flo} {m : Nat} : ∀ {n : Nat}, m < n → (∀ q, q ≠ m → M q = N q) → pot s M n + potO s (N m) = pot s N n + potO s (M m)
  | n + 1, hm, h => by
    show pot s M n + potO s (M n) + potO s (N m) = pot s N n + potO s (N n) + potO s (M m)
    by_cases e : m = n
    · subst e
      have := pot_congr s (M := M) (N := N) (n := m) (fun q hq => h q (by omega))
      omega
    · have := pot_one s (M := M) (N := N) (m := m) (n := n) (by omega) h
      rw [h n (by omega)]
      omega
theorem pot_come {M : Flo} {s n m : Nat} {K : List Int} (hm : m < n) (hK : K.length = s) (hM : ∀ was, M m = some was → was.length = s) :
    pot s (comeM M m K) n ≤ pot s M n ∧ (changes M m K → pot s (comeM M m K) n < pot s M n) := by
  have h := pot_one s (M := comeM M m K) (N := M) hm (fun q hq => comeM_other hq)
  have hp : potO s (comeM M m K m) ≤ potO s (M m) ∧ (changes M m K → potO s (comeM M m K m) < potO s (M m)) := by
    cases hw : M m with
    | none =>
      rw [comeM_none hw]
      have := cnt_le K
      exact ⟨by show cnt K ≤ s + 1; omega, fun _ => by show cnt K < s + 1; omega⟩
    | some was =>
      rw [comeM_some hw]
      have := cnt_join was K ((hM was hw).trans hK.symm)
      exact ⟨this.1, fun hc => this.2 (hc was hw)⟩
  exact ⟨by omega, fun hc => by have := hp.2 hc; omega⟩
end Go.Proofs.YtknbllbhakpaaaaGreat
