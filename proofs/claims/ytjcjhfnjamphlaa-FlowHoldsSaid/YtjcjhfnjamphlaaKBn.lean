/- The kinds that hold are numbers of 64 bits; a program without an error reads what it may, and never runs out. Nothing of the program's text stands here. Walk: the reference's kind of a field. Walk: the reference's step: the kinds behind an instruction, and whether it may be. -/
import Derived.Test.YtjcjhfnjamphlaaKBl
import Derived.Test.YtjcjhfnjamphlaaKBd
import Derived.Test.YtjcjhfnjamphlaaKAy
import Derived.Test.YtjcjhfnjamphlaaKBg
set_option linter.unusedVariables false
set_option linter.unusedSimpArgs false
namespace Go.Proofs.Ytjcjhfnjamphlaa
theorem i64B_small {x : Int} (h : 0 ≤ x) (h2 : x < 1000000) : i64B x := ⟨by omega, by omega⟩
theorem getD_b {l : List Int} (h : ∀ x ∈ l, i64B x) (k : Nat) : i64B ((l[k]?).getD 0) := by
  rcases Nat.lt_or_ge k l.length with h1 | h1
  · rw [List.getElem?_eq_getElem h1]
    exact h _ (List.getElem_mem h1)
  · rw [List.getElem?_eq_none h1]
    exact i64B_small (by decide) (by decide)
theorem kindA_b {K : List Int} (h : ∀ x ∈ K, i64B x) (k : Int) : i64B (kindA K k) := by
  unfold kindA
  split
  · exact getD_b h _
  · exact i64B_small (by decide) (by decide)
theorem fieldA_b {p : Prg} (hp : PrgB p) (s k : Int) : i64B (fieldA p s k) := by
  unfold fieldA
  split
  · refine getD_b (fun x hx => ?_) _
    cases h : p.shapes[s.toNat]? with
    | none => rw [h] at hx; cases hx
    | some l =>
      rw [h] at hx
      exact hp.2.1 l (List.mem_of_getElem? h) x hx
  · exact i64B_small (by decide) (by decide)
theorem throughA_b {p : Prg} (hp : PrgB p) (op : Int) (K : List Int) (s k : Int) : i64B (throughA p op K s k) := by
  unfold throughA thrV
  split
  · exact i64B_small (by decide) (by decide)
  · exact fieldA_b hp _ _
theorem setsK_b {p : Prg} {f : Fun} {i : Ins} {K : List Int} {n : Nat} (hf : PrgFit p) (hp : PrgB p) (hff : FunFit p f) (ho : StepOk p f i n) (hK : ∀ x ∈ K, i64B x) : i64B (setsK p f i K) := by
  unfold setsK
  split
  · exact kindA_b hK _
  split
  next h => have := ho.news h; exact i64B_small (by omega) (by omega)
  split
  · exact throughA_b hp _ _ _ _
  split
  · exact getD_b hp.1 _
  split
  next h =>
    have h1 := ho.addr h
    have h2 : i.b.toNat < f.objects.length := by omega
    rw [List.getElem?_eq_getElem h2]
    have h3 := withinB_of (hff.objs _ (List.getElem_mem h2))
    have := hf.shapes
    exact i64B_small (by show 0 ≤ 64 + f.objects[i.b.toNat]; omega) (by show 64 + f.objects[i.b.toNat] < 1000000; omega)
  split
  next h =>
    have h1 := ho.call (.inl h)
    exact (hp.2.2 _ (calleeR_mem h1.1)).2.1
  · exact i64B_small (by decide) (by decide)
theorem set_b {K : List Int} (h : ∀ x ∈ K, i64B x) (k : Nat) {y : Int} (hy : i64B y) : ∀ x ∈ K.set k y, i64B x := fun x hx => by
  rcases List.mem_or_eq_of_mem_set hx with h1 | h1
  · exact h x h1
  · exact h1 ▸ hy
theorem outK_b {p : Prg} {f : Fun} {i : Ins} {K : List Int} {n : Nat} (hf : PrgFit p) (hp : PrgB p) (hff : FunFit p f) (ho : StepOk p f i n) (hK : ∀ x ∈ K, i64B x) : ∀ x ∈ outK p f i K, i64B x := by
  have hs := setsK_b hf hp hff ho hK
  have h0 : i64B 0 := i64B_small (by decide) (by decide)
  have h1 : ∀ x ∈ (if writesK p i = true then K.set i.a.toNat (if readsK p f.result i K = true then setsK p f i K else 0) else K), i64B x := by
    split
    · refine set_b hK _ ?_
      split
      · exact hs
      · exact h0
    · exact hK
  unfold outK
  split
  · exact set_b h1 _ (i64B_small (by decide) (by decide))
  · exact h1
theorem le_b {K L : List Int} (h : Le K L) (hL : ∀ x ∈ L, i64B x) : ∀ x ∈ K, i64B x := fun x hx => by
  obtain ⟨j, hj, rfl⟩ := List.getElem_of_mem hx
  have h1 := h.2 j
  rw [List.getElem?_eq_getElem hj] at h1
  have h1 : K[j] = 0 ∨ K[j] = (L[j]?).getD 0 := h1
  rcases h1 with e | e
  · rw [e]; exact i64B_small (by decide) (by decide)
  · rw [e]; exact getD_b hL j
theorem firstK_b {p : Prg} {f : Fun} (hp : PrgB p) (hf : f ∈ p.funcs) : ∀ x ∈ firstK f, i64B x := fun x hx => by
  unfold firstK at hx
  rcases List.mem_append.1 hx with h | h
  · exact (hp.2.2 f hf).1 x h
  · rw [(List.mem_replicate.1 h).2]; exact i64B_small (by decide) (by decide)
open Classical in
theorem flow_b {p : Prg} {f : Fun} {M : Flo} (hf : PrgFit p) (hp : PrgB p) (hm : f ∈ p.funcs) (h : IsFlow p f M) {q : Nat} {K : List Int} (hq : M q = some K) : ∀ x ∈ K, i64B x := by
  have hff := hf.fn f hm
  have hS : Sol p f (fun m => match M m with | none => none | some L => if ∀ x ∈ L, i64B x then some L else none) := by
    refine ⟨?_, fun m L hL => ?_, fun m L i hL hi k hk hl => ?_⟩
    · obtain ⟨K0, h0, hle⟩ := h.1.first
      exact ⟨K0, by simp only [h0]; rw [if_pos (le_b hle (firstK_b hp hm))], hle⟩
    · cases hM : M m with
      | none => rw [hM] at hL; cases hL
      | some L' =>
        rw [hM] at hL
        dsimp only at hL
        split at hL
        · injection hL with hL; subst hL; exact h.1.len m _ hM
        · cases hL
    · cases hM : M m with
      | none => rw [hM] at hL; cases hL
      | some L' =>
        rw [hM] at hL
        dsimp only at hL
        split at hL
        next hb =>
          injection hL with hL
          subst hL
          obtain ⟨L2, hL2, hle⟩ := h.1.step m _ i hM hi k hk hl
          have ho := stepOk hf (hff.ins m i hi) (by have := hff.args; omega)
          exact ⟨L2, by simp only [hL2]; rw [if_pos (le_b hle (outK_b hf hp hff ho hb))], hle⟩
        · cases hL
  obtain ⟨L, hL, _⟩ := h.2 _ hS q K hq
  simp only [hq] at hL
  split at hL
  next hb => exact hb
  · cases hL
theorem firstAt_nowhere {A : Nat → Bool} {E : Int} (hE : E ≠ 0) {N : Nat} (h : (firstAt (fun q => if A q then E else 0) N).1 = 0) : ∀ q, q < N → A q = false := fun q hq => by
  rw [firstAt_find A E hE N] at h
  cases hf : (List.range N).find? A with
  | some q' => rw [hf] at h; exact absurd h hE
  | none =>
    have := List.find?_eq_none.1 hf q (List.mem_range.2 hq)
    simpa using this
theorem flowE_at {p : Prg} {f : Fun} {M : Flo} (h : (flowE p f M).1 = 0) {q : Nat} {K : List Int} (hq : q < f.code.length) (hK : M q = some K) : readsK p f.result (insAt f q) K = true ∧ ∀ m ∈ nextK (insAt f q) q, m ≠ (f.code.length : Int) := by
  unfold flowE at h
  by_cases h1 : (firstAt (fun q => if outsAt f M q = true then 7 else 0) f.code.length).1 ≠ 0
  · rw [if_pos h1] at h
    exact absurd h h1
  rw [if_neg h1] at h
  have h1 : (firstAt (fun q => if outsAt f M q = true then 7 else 0) f.code.length).1 = 0 := Classical.byContradiction h1
  have h2 := firstAt_nowhere (A := outsAt f M) (E := 7) (by decide) h1 q hq
  have h3 := firstAt_nowhere (A := wrongAt p f M) (E := 3) (by decide) h q hq
  unfold outsAt at h2
  unfold wrongAt at h3
  rw [hK] at h2 h3
  refine ⟨by simpa using h3, fun m hm e => ?_⟩
  have h4 : (nextK (insAt f q) q).any (fun m => m == (f.code.length : Int)) = true := List.any_eq_true.2 ⟨m, hm, by simpa using e⟩
  rw [h4] at h2
  cases h2
theorem next_in {p : Prg} {f : Fun} (hp : PrgFit p) (hf : FunFit p f) {q : Nat} (hq : q < f.code.length) : ∀ x ∈ nextK (insAt f q) q, 0 ≤ x ∧ x ≤ (f.code.length : Int) := fun x hx => by
  have hi : f.code[q]? = some (insAt f q) := by unfold insAt; simp [hq]
  exact nextK_in (stepOk hp (hf.ins q _ hi) (by have := hf.args; omega)) hq hx
end Go.Proofs.Ytjcjhfnjamphlaa
namespace Go.Proofs.Ytjcjhfnjamphlaa
open Go.ChangeShapes Go.WideShapes Go.ChangeAt Go.RowKit
theorem lead_out {loc : Bool} {base x : Int} (hb : base = if loc then 64 else 16) (h : ¬ (base ≤ x ∧ x < base + 16)) : leadA loc x = none := by
  unfold leadA isLocB isPtrB
  cases loc
  · rw [if_neg (by simp)] at hb
    simp
    omega
  · rw [if_pos rfl] at hb
    simp
    omega
theorem lead_in {loc : Bool} {base x : Int} (hb : base = if loc then 64 else 16) (h : base ≤ x ∧ x < base + 16) : leadA loc x = some (x - base) := by
  unfold leadA isLocB isPtrB
  cases loc
  · rw [if_neg (by simp)] at hb
    subst hb
    simp
    omega
  · rw [if_pos rfl] at hb
    subst hb
    simp
    omega
set_option maxRecDepth 100000 in
set_option maxHeartbeats 1600000 in
theorem rfieldF_any (w : World) (D : Nat → Prop) (p : Prg) (c0 c1 c2 : Value) (hv : PrgVal w D p c0 c1 c2) (hq : PrgR p) (loc : Bool) (base x k : Int) (hx : i64B x) (hb : base = if loc then 64 else 16) :
    Calls Try.prog 30 #[.agg #[c0, c1, c2], .int .i64 x, .int .i64 base, .int .i64 k] w fun e w' => e = .returned (.int .i64 (thrV p (leadA loc x) k)) ∧ Below w.heap.size w w' := by
  have hbb : base = 64 ∨ base = 16 := by cases loc <;> simp_all
  have hsl := hq.2.1
  obtain ⟨x1, x2⟩ := hx
  obtain ⟨⟨a0, m0, rfl, _⟩, ⟨a1, m1, rfl, hsh⟩, a2, m2, rfl, _⟩ := hv
  have hB := (Below.refl w.heap.size w).alloc (Nat.le_refl _) (.cells #[.slice a0 p.globals.length m0, .slice a1 p.shapes.length m1, .slice a2 p.funcs.length m2] 26)
  have hl := heap_new w (.cells #[.slice a0 p.globals.length m0, .slice a1 p.shapes.length m1, .slice a2 p.funcs.length m2] 26)
  obtain ⟨W, hW⟩ : ∃ W, W = w.alloc (.cells #[.slice a0 p.globals.length m0, .slice a1 p.shapes.length m1, .slice a2 p.funcs.length m2] 26) := ⟨_, rfl⟩
  rw [← hW] at hB hl
  have k1 : W.cell? ⟨w.heap.size, 1, none⟩ = some (.slice a1 p.shapes.length m1) := (row_cell hl 1).1
  have HB := Lib.hid hB
  have HW := Lib.hid hW
  by_cases hin : base ≤ x ∧ x < base + 16
  · rw [lead_in hb hin]
    obtain ⟨d, hd⟩ : ∃ d : Nat, x - base = (d : Int) := ⟨(x - base).toNat, by omega⟩
    have i1 : IntKind.i64.wrap (x - base) = (d : Int) := by rw [← hd]; exact IntWalk.i64_in _ (by omega)
    have hd16 : (d : Int) < 16 := by omega
    show Calls _ _ _ _ fun e w' => e = .returned (.int .i64 (fieldA p (x - base) k)) ∧ _
    rw [hd]
    have hg0 : ¬ (d : Int) < 0 := by omega
    have hg16 : ¬ (16 : Int) ≤ (d : Int) := by omega
    clear hin hb hd
    by_cases hj : p.shapes.length ≤ d
    · have e0 : fieldA p (d : Int) k = 0 := by unfold fieldA; rw [if_neg (by omega)]
      rw [e0]
      have hlt : (p.shapes.length : Int) ≤ (d : Int) := by omega
      clear hsh hl hB hW
      go_enter Try.func30, Try.ntmps30
      go_upto_region 1 with fail
      rw [← HW.out]
      go_wp2_with fail
      go_ret
      exact ⟨rfl, HB.out⟩
    obtain ⟨sb, so, rfl, _, a', c', hx, hy⟩ := hsh d (by omega)
    replace hx := below_cell hB hx
    have hlt : ¬ (p.shapes.length : Int) ≤ (d : Int) := by omega
    have hlt' : (d : Int) < (p.shapes.length : Int) := by omega
    by_cases h0 : k < 0
    · have e0 : fieldA p (d : Int) k = 0 := by unfold fieldA; rw [if_neg (by omega)]
      rw [e0]
      clear hy hsh hl hB hW hx
      go_enter Try.func30, Try.ntmps30
      go_upto_region 1 with fail
      rw [← HW.out]
      go_wp2_with fail
      go_ret
      exact ⟨rfl, HB.out⟩
    obtain ⟨m, rfl⟩ : ∃ m : Nat, k = m := ⟨k.toNat, by omega⟩
    have hL : (p.shapes[(d : Int).toNat]?).getD [] = p.shapes[d] := by simp [show d < p.shapes.length by omega]
    obtain ⟨S, hS⟩ : ∃ S, S = p.shapes[d] := ⟨_, rfl⟩
    rw [← hS] at hL hx hy
    clear hS
    by_cases hm : m < S.length
    · have e0 : fieldA p (d : Int) (m : Int) = S[m] := by
        unfold fieldA
        rw [hL, if_pos ⟨by omega, by omega, by omega⟩]
        simp [hm]
      rw [e0]
      obtain ⟨mb, mo, rfl, _, hz⟩ := hy m hm
      replace hz := below_cell hB hz
      have hlt2 : ¬ (S.length : Int) ≤ (m : Int) := by omega
      have hlt3 : (m : Int) < (S.length : Int) := by omega
      clear hL hy hsh e0 hl hB hW
      generalize S[m] = xx at *
      clear hm
      generalize S.length = n2 at *
      go_enter Try.func30, Try.ntmps30
      go_upto_region 1 with fail
      rw [← HW.out]
      go_wp2_with fail
      go_ret
      exact ⟨rfl, HB.out⟩
    · have e0 : fieldA p (d : Int) (m : Int) = 0 := by
        unfold fieldA
        rw [hL, if_neg (by omega)]
      rw [e0]
      have hlt2 : (S.length : Int) ≤ (m : Int) := by omega
      clear hL hy hsh e0 hm hl hB hW
      generalize S.length = n2 at *
      go_enter Try.func30, Try.ntmps30
      go_upto_region 1 with fail
      rw [← HW.out]
      go_wp2_with fail
      go_ret
      exact ⟨rfl, HB.out⟩
  · rw [lead_out hb hin]
    show Calls _ _ _ _ fun e w' => e = .returned (.int .i64 0) ∧ _
    obtain ⟨s, i1, hs⟩ : ∃ s, IntKind.i64.wrap (x - base) = s ∧ (s < 0 ∨ 16 ≤ s) := by
      by_cases hu : x - base < -9223372036854775808
      · refine ⟨x - base + 18446744073709551616, ?_, .inr (by omega)⟩
        rw [IntKind.wrap_i64]; omega
      · exact ⟨x - base, IntWalk.i64_in _ (by omega), by omega⟩
    clear hl hB hW hin hb hsh
    rcases hs with h1 | h1
    · skip
      go_enter Try.func30, Try.ntmps30
      go_upto_region 1 with fail
      rw [← HW.out]
      go_wp2_with fail
      go_ret
      exact ⟨rfl, HB.out⟩
    · have h0 : ¬ s < 0 := by omega
      by_cases h2 : (p.shapes.length : Int) ≤ s
      · skip
        go_enter Try.func30, Try.ntmps30
        go_upto_region 1 with fail
        rw [← HW.out]
        go_wp2_with fail
        go_ret
        exact ⟨rfl, HB.out⟩
      · skip
        go_enter Try.func30, Try.ntmps30
        go_upto_region 1 with fail
        rw [← HW.out]
        go_wp2_with fail
        go_ret
        exact ⟨rfl, HB.out⟩
end Go.Proofs.Ytjcjhfnjamphlaa
namespace Go.Proofs.Ytjcjhfnjamphlaa
open Go.ChangeShapes Go.WideShapes Go.ChangeAt Go.RowKit
/-- the kinds behind an instruction that may be -/
def midK (p : Prg) (f : Fun) (i : Ins) (K : List Int) : List Int :=
  if i.op = 26 then (if writesK p i then K.set i.a.toNat (setsK p f i K) else K).set i.b.toNat 16 else (if writesK p i then K.set i.a.toNat (setsK p f i K) else K)
theorem outK_mid (p : Prg) (f : Fun) (i : Ins) (K : List Int) : outK p f i K = if readsK p f.result i K = false ∧ writesK p i = true then (midK p f i K).set i.a.toNat 0 else midK p f i K := by
  unfold outK midK
  by_cases h : i.op = 26
  · have hr : readsK p f.result i K = true := by simp [readsK, h]
    rw [if_pos h, if_pos h, hr]
    simp
  · rw [if_neg h, if_neg h]
    cases hr : readsK p f.result i K <;> cases hw : writesK p i <;> simp
theorem midK_len (p : Prg) (f : Fun) (i : Ins) (K : List Int) : (midK p f i K).length = K.length := by
  unfold midK
  split <;> split <;> simp
theorem once2 (x y : Int) : x ∈ onceL [x, y] ∧ y ∈ onceL [x, y] := by
  unfold onceL
  simp only [List.foldl]
  by_cases h : y = x <;> simp [h]
theorem StepOk.useB {p : Prg} {f : Fun} {i : Ins} {n : Nat} (h : StepOk p f i n) (ho : i.op = 2 ∨ i.op = 12 ∨ i.op = 14 ∨ i.op = 17 ∨ i.op = 19 ∨ i.op = 25 ∨ (3 ≤ i.op ∧ i.op ≤ 8)) : 0 ≤ i.b ∧ i.b < n := by
  refine h.used _ ?_
  have h0 := once2 i.b i.c
  have h1 := once2 i.a i.b
  have ho : i.op = 2 ∨ i.op = 12 ∨ i.op = 14 ∨ i.op = 17 ∨ i.op = 19 ∨ i.op = 25 ∨ i.op = 3 ∨ i.op = 4 ∨ i.op = 5 ∨ i.op = 6 ∨ i.op = 7 ∨ i.op = 8 := by omega
  unfold readsL
  rcases ho with e | e | e | e | e | e | e | e | e | e | e | e <;> rw [e] <;> simp [h0, h1]
theorem StepOk.useC {p : Prg} {f : Fun} {i : Ins} {n : Nat} (h : StepOk p f i n) (ho : i.op = 15 ∨ i.op = 20 ∨ (3 ≤ i.op ∧ i.op ≤ 8)) : 0 ≤ i.c ∧ i.c < n := by
  refine h.used _ ?_
  have h0 := once2 i.b i.c
  have h1 := once2 i.a i.c
  have ho : i.op = 15 ∨ i.op = 20 ∨ i.op = 3 ∨ i.op = 4 ∨ i.op = 5 ∨ i.op = 6 ∨ i.op = 7 ∨ i.op = 8 := by omega
  unfold readsL
  rcases ho with e | e | e | e | e | e | e | e <;> rw [e] <;> simp [h0, h1]
theorem StepOk.useA {p : Prg} {f : Fun} {i : Ins} {n : Nat} (h : StepOk p f i n) (ho : i.op = 10 ∨ i.op = 29 ∨ i.op = 15 ∨ i.op = 20 ∨ i.op = 25) : 0 ≤ i.a ∧ i.a < n := by
  refine h.used _ ?_
  have h0 := once2 i.a i.b
  have h1 := once2 i.a i.c
  unfold readsL
  rcases ho with e | e | e | e | e <;> rw [e] <;> simp [h0, h1]
theorem own_at {w : World} {B g n m : Nat} {K : List Int} (h : Own intE w B (.slice (some ⟨g, 0, none⟩) n m) K) (k : Nat) (hk : k < K.length) :
    w.cell? ⟨g, k, none⟩ = some (.int .i64 ((K[k]?).getD 0)) ∧ w.frozen? ⟨g, k, none⟩ = false ∧ B ≤ g ∧ ∀ x, Own intE (w.setCell ⟨g, k, none⟩ (.int .i64 x)) B (.slice (some ⟨g, 0, none⟩) n m) (K.set k x) := by
  obtain ⟨g', c, e, h1, h2, h3, h4⟩ := own_put h k hk
  injection e with e1 e2 e3
  injection e1 with e1
  injection e1 with e1
  subst e1
  exact ⟨by rw [h2]; simp [hk], h3, h1, h4⟩
set_option maxRecDepth 100000 in
theorem rIsPtr_any (w : World) (x : Int) : Calls Try.prog 29 #[.int .i64 x] w fun e w' => e = .returned (.bool (isPtrB x)) ∧ w = w' := by
  by_cases h1 : 16 ≤ x
  · by_cases h2 : x < 32
    · rw [show isPtrB x = true from by unfold isPtrB; simp [h1, h2]]
      go_enter Try.func29, Try.ntmps29
      go_wp2_with fail
      go_ret
      exact ⟨rfl, rfl⟩
    · rw [show isPtrB x = false from by unfold isPtrB; simp [h1, h2]]
      go_enter Try.func29, Try.ntmps29
      go_wp2_with fail
      go_ret
      exact ⟨rfl, rfl⟩
  · rw [show isPtrB x = false from by unfold isPtrB; simp [h1]]
    go_enter Try.func29, Try.ntmps29
    go_wp2_with fail
    go_ret
    exact ⟨rfl, rfl⟩
def RStepPost (R : Bool) (OUT : List Int) (w : World) (e : Ending) (w' : World) : Prop := ∃ v, e = .returned (.tuple #[v, .bool R]) ∧ Own intE w' w.heap.size v OUT ∧ Below w.heap.size w w'
theorem wr_yes (w : World) (op a b c : Int) (h : writesS op = true) : Calls Try.prog 31 #[.agg #[.int .i64 op, .int .i64 a, .int .i64 b, .int .i64 c]] w fun e w' => e = .returned (.tuple #[.int .i64 a, .bool true]) ∧ Below w.heap.size w w' := by
  have h1 := rwr_any w op a b c
  rw [h] at h1
  exact h1
theorem wr_no (w : World) (op a b c : Int) (h : writesS op = false) : Calls Try.prog 31 #[.agg #[.int .i64 op, .int .i64 a, .int .i64 b, .int .i64 c]] w fun e w' => e = .returned (.tuple #[.int .i64 0, .bool false]) ∧ Below w.heap.size w w' := by
  have h1 := rwr_any w op a b c
  rw [h] at h1
  exact h1
end Go.Proofs.Ytjcjhfnjamphlaa
