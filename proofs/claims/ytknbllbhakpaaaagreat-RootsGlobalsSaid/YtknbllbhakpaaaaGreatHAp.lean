/- Flow, plainly: what a program that may be has; its first error. Nothing of the program's text stands here. -/
import Derived.Test.YtknbllbhakpaaaaGreatHAo
set_option linter.unusedVariables false
set_option linter.unusedSimpArgs false
namespace Go.Proofs.YtknbllbhakpaaaaGreat
structure FunFit (p : Prg) (f : Fun) : Prop where
  args : (f.args.length : Int) ≤ f.slots
  slots : f.slots ≤ 16
  code1 : 1 ≤ f.code.length
  code2 : f.code.length ≤ 64
  objs : ∀ x ∈ f.objects, withinB x p.shapes.length = true
  kinds : ∀ x ∈ f.args, validB x p.shapes.length = true
  ins : ∀ (q : Nat) (i : Ins), f.code[q]? = some i → instrS p f i = 0
structure PrgFit (p : Prg) : Prop where
  funcs1 : 1 ≤ p.funcs.length
  funcs2 : p.funcs.length ≤ 16
  shapes : p.shapes.length ≤ 16
  globals : ∀ x ∈ p.globals, fieldB x p.shapes.length = true
  fn : ∀ f ∈ p.funcs, FunFit p f
theorem shapesErr_len {l : List (List Int)} (h : shapesErr l = 0) : l.length ≤ 16 := by
  unfold shapesErr at h
  split at h
  · omega
  · omega
theorem prgFit {p : Prg} (h : (progS p).1 = 0) : PrgFit p := by
  obtain ⟨hw, hf⟩ := (progS_zero p).1 h
  unfold wholeS at hw
  by_cases h1 : shapesErr p.shapes ≠ 0
  · rw [if_pos h1] at hw; exact absurd hw h1
  rw [if_neg h1] at hw
  have h1 : shapesErr p.shapes = 0 := by simpa using h1
  by_cases h2 : 16 < p.globals.length ∨ p.funcs.length < 1 ∨ 16 < p.funcs.length
  · rw [if_pos h2] at hw; cases hw
  rw [if_neg h2] at hw
  by_cases h3 : p.globals.all (fieldB · p.shapes.length) = false
  · rw [if_pos h3] at hw; cases hw
  have h3 : p.globals.all (fieldB · p.shapes.length) = true := by simpa using h3
  rw [List.all_eq_true] at h3
  refine ⟨by omega, by omega, shapesErr_len h1, h3, fun f hfm => ?_⟩
  obtain ⟨k, hk, rfl⟩ := List.getElem_of_mem hfm
  have h4 := hf k hk
  rw [funcS_at k hk] at h4
  have h5 := funF_zero h4
  have h6 : frontS p p.funcs[k] = 0 := Classical.byContradiction fun hne => hne (by rw [funF_front hne] at h4; exact h4)
  have h7 : ∀ (q : Nat) (i : Ins), p.funcs[k].code[q]? = some i → instrS p p.funcs[k] i = 0 := fun q i hi => by
    have hq : q < p.funcs[k].code.length := by
      rcases Nat.lt_or_ge q p.funcs[k].code.length with h | h
      · exact h
      · rw [List.getElem?_eq_none h] at hi; cases hi
    have hx := h5 q hq
    have hin : withinB (k : Int) p.funcs.length = true := by simp [withinB]; omega
    have hc : codeOf p (k : Int) = p.funcs[k].code := by unfold codeOf; rw [if_pos hin]; simp [hk]
    have hat : iAt p (k : Int) (q : Int) = some i := by
      unfold iAt
      rw [hc, if_pos ⟨by omega, by omega⟩]
      simpa using hi
    rw [instrE_some hat] at hx
    simpa [hk] using hx
  generalize p.funcs[k] = f at h6 h7
  unfold frontS at h6
  by_cases g1 : f.slots < f.args.length ∨ 16 < f.slots ∨ 8 < f.objects.length ∨ f.code.length < 1 ∨ 64 < f.code.length
  · rw [if_pos g1] at h6; cases h6
  rw [if_neg g1] at h6
  by_cases g2 : f.args.all (validB · p.shapes.length) = false
  · rw [if_pos g2] at h6; cases h6
  rw [if_neg g2] at h6
  have g2 : f.args.all (validB · p.shapes.length) = true := by simpa using g2
  by_cases g3 : f.result ≠ 0 ∧ fieldB f.result p.shapes.length = false
  · rw [if_pos g3] at h6; cases h6
  rw [if_neg g3] at h6
  by_cases g4 : f.objects.all (withinB · p.shapes.length) = false
  · rw [if_pos g4] at h6; cases h6
  have g4 : f.objects.all (withinB · p.shapes.length) = true := by simpa using g4
  rw [List.all_eq_true] at g2 g4
  exact ⟨by omega, by omega, by omega, by omega, g4, g2, h7⟩
theorem fieldB_ne {x : Int} {n : Nat} (h : fieldB x n = true) : x ≠ 0 ∧ 1 ≤ x ∧ x < 16 + n := by
  unfold fieldB at h
  simp at h
  omega
theorem validB_ne {x : Int} {n : Nat} (h : validB x n = true) : x ≠ 0 := by
  unfold validB fieldB at h
  simp at h
  omega
theorem withinB_of {x y : Int} (h : withinB x y = true) : 0 ≤ x ∧ x < y := by
  unfold withinB at h
  simpa using h
/-- what may be walked: n kinds -/
structure StepOk (p : Prg) (f : Fun) (i : Ins) (n : Nat) : Prop where
  call : i.op = 21 ∨ i.op = 23 ∨ i.op = 24 → (0 ≤ i.b ∧ i.b < p.funcs.length) ∧ 0 ≤ i.c ∧ i.c + ((calleeR p i.b).args.length : Int) ≤ n
  gload : i.op = 16 → 0 ≤ i.b ∧ i.b < p.globals.length
  gstore : i.op = 17 → 0 ≤ i.a ∧ i.a < p.globals.length
  addr : i.op = 18 → 0 ≤ i.b ∧ i.b < f.objects.length
  news : i.op = 11 ∨ i.op = 13 → 0 ≤ i.b ∧ i.b < 16
  jump : i.op = 9 ∨ i.op = 10 → 0 ≤ i.b ∧ i.b < f.code.length
  sets : writesK p i = true → 0 ≤ i.a ∧ i.a < n
  recov : i.op = 26 → 0 ≤ i.b ∧ i.b < n
  used : ∀ x ∈ readsL i (argsN (calleeF p i)), 0 ≤ x ∧ x < n
  ret : i.op = 22 → f.result ≠ 0 → 0 ≤ i.a ∧ i.a < n
theorem calleeR_of {p : Prg} {i : Ins} (h : i.op = 21 ∨ i.op = 23 ∨ i.op = 24) (hb : withinB i.b p.funcs.length = true) : calleeF p i = some (calleeR p i.b) := by
  obtain ⟨h1, h2⟩ := withinB_of hb
  unfold calleeF calleeR
  rw [if_pos ⟨h, hb⟩, List.getElem?_eq_getElem (by omega)]
  rfl
theorem calleeR_mem {p : Prg} {b : Int} (h : 0 ≤ b ∧ b < p.funcs.length) : calleeR p b ∈ p.funcs := by
  unfold calleeR
  rw [List.getElem?_eq_getElem (by omega)]
  exact List.getElem_mem _
theorem instrS_parts {p : Prg} {f : Fun} {i : Ins} (h : instrS p f i = 0) : formB p f i = true ∧ thingsB p f i = true ∧ slotsB p f i = true ∧ kindsB p i = true := by
  unfold instrS at h
  by_cases h1 : formB p f i = false
  · rw [if_pos h1] at h; cases h
  rw [if_neg h1] at h
  by_cases h2 : (thingsB p f i && slotsB p f i) = false
  · rw [if_pos h2] at h; cases h
  rw [if_neg h2] at h
  by_cases h3 : kindsB p i = false
  · rw [if_pos h3] at h; cases h
  simp at h1 h2 h3
  exact ⟨h1, h2.1, h2.2, h3⟩
theorem stepOk {p : Prg} {f : Fun} {i : Ins} (hp : PrgFit p) (h : instrS p f i = 0) (h0 : 0 ≤ f.slots) : StepOk p f i f.slots.toNat := by
  obtain ⟨_, ht, hs, _⟩ := instrS_parts h
  unfold slotsB at hs
  simp only [Bool.and_eq_true] at hs
  obtain ⟨hr, hu⟩ := hs
  rw [List.all_eq_true] at hu
  have hsh := hp.shapes
  have hcall : i.op = 21 ∨ i.op = 23 ∨ i.op = 24 → withinB i.b p.funcs.length = true := fun ho => by
    unfold thingsB at ht
    rw [if_neg (by omega), if_pos ho] at ht
    exact ht
  have hw : ∀ x, x ∈ usedL p f i → 0 ≤ x ∧ x < (f.slots.toNat : Int) := fun x hx => by
    have := withinB_of (hu x hx)
    omega
  refine ⟨fun ho => ?_, fun ho => ?_, fun ho => ?_, fun ho => ?_, fun ho => ?_, fun ho => ?_, fun hk => ?_, fun ho => ?_, fun x hx => ?_, fun ho hne => ?_⟩
  · have hb := hcall ho
    rw [calleeR_of ho hb] at hr
    have hr : roomB f i.c (calleeR p i.b).args.length = true := hr
    unfold roomB at hr
    simp at hr
    exact ⟨withinB_of hb, by omega, by omega⟩
  · unfold thingsB at ht
    rw [if_neg (by omega), if_neg (by omega), if_neg (by omega), if_pos ho] at ht
    exact withinB_of ht
  · unfold thingsB at ht
    rw [if_neg (by omega), if_neg (by omega), if_neg (by omega), if_neg (by omega), if_pos ho] at ht
    exact withinB_of ht
  · unfold thingsB at ht
    rw [if_neg (by omega), if_neg (by omega), if_neg (by omega), if_neg (by omega), if_neg (by omega), if_pos ho] at ht
    exact withinB_of ht
  · unfold thingsB at ht
    rw [if_neg (by omega), if_neg (by omega), if_pos (by omega)] at ht
    have := withinB_of ht
    omega
  · unfold thingsB at ht
    rw [if_pos ho] at ht
    exact withinB_of ht
  · unfold writesK at hk
    simp only [Bool.and_eq_true] at hk
    refine hw _ ?_
    unfold usedL
    have hq : quietB p f i = false := by
      unfold quietB
      have h22 : i.op ≠ 22 := fun e => by rw [e] at hk; exact absurd hk.1 (by decide)
      by_cases h21 : i.op = 21
      · rw [calleeR_of (.inl h21) (hcall (.inl h21))]
        have h3 := hk.2
        simp [h21] at h3
        simp [h21, h3]
      · simp [h22, h21]
    rw [hq, hk.1]
    simp
  · refine hw _ ?_
    unfold usedL
    simp [ho]
  · refine hw _ ?_
    unfold usedL
    exact List.mem_append_left _ (List.mem_append_left _ (List.mem_append_left _ hx))
  · refine hw _ ?_
    unfold usedL
    have hq : quietB p f i = false := by
      unfold quietB
      simp [ho, hne]
    rw [hq]
    simp [ho]
theorem insOk {p : Prg} {f : Fun} {i : Ins} {n : Nat} (hp : PrgFit p) (h : StepOk p f i n) : InsOk p i := by
  refine ⟨fun ho => ?_, fun k hk ho => ?_⟩
  · have := h.gstore ho
    unfold globA
    rw [List.getElem?_eq_getElem (by omega)]
    exact (fieldB_ne (hp.globals _ (List.getElem_mem _))).1
  · have hm := calleeR_mem (h.call ho).1
    have hf := hp.fn _ hm
    rw [List.getElem?_eq_getElem hk]
    exact validB_ne (hf.kinds _ (List.getElem_mem _))
theorem nextK_in {p : Prg} {f : Fun} {i : Ins} {n : Nat} (h : StepOk p f i n) {q : Nat} (hq : q < f.code.length) {m : Int} (hm : m ∈ nextK i q) : 0 ≤ m ∧ m ≤ f.code.length := by
  unfold nextK at hm
  split at hm
  · cases hm
  · split at hm
    next ho =>
      simp at hm
      have := h.jump (.inl ho)
      omega
    · split at hm
      next ho =>
        simp at hm
        have := h.jump (.inr ho.1)
        omega
      · simp at hm
        omega
def ins0 : Ins := ⟨0, 0, 0, 0⟩
def insAt (f : Fun) (q : Nat) : Ins := (f.code[q]?).getD ins0
def outsAt (f : Fun) (M : Flo) (q : Nat) : Bool := (M q).isSome && (nextK (insAt f q) q).any (fun m => m == (f.code.length : Int))
def wrongAt (p : Prg) (f : Fun) (M : Flo) (q : Nat) : Bool := match M q with | some K => !readsK p f.result (insAt f q) K | none => false
/-- the first error of a function, and the instruction at which it is -/
def flowE (p : Prg) (f : Fun) (M : Flo) : Int × Nat :=
  if (firstAt (fun q => if outsAt f M q then 7 else 0) f.code.length).1 ≠ 0 then firstAt (fun q => if outsAt f M q then 7 else 0) f.code.length
  else firstAt (fun q => if wrongAt p f M q then 3 else 0) f.code.length
def fnAt (p : Prg) (k : Nat) : Fun := (p.funcs[k]?).getD fun0
end Go.Proofs.YtknbllbhakpaaaaGreat
