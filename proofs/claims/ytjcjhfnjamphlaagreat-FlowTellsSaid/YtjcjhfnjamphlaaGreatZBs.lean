import Derived.Test.YtjcjhfnjamphlaaGreatZBl
import Derived.Test.YtjcjhfnjamphlaaGreatZBr
set_option linter.unusedVariables false
set_option linter.unusedSimpArgs false
namespace Go.Proofs.YtjcjhfnjamphlaaGreat
open Go.ChangeShapes Go.WideShapes Go.ChangeAt Go.RowKit Go.Maps
def RFlowPost (p : Prg) (f : Fun) (w : World) (e : Ending) (w' : World) : Prop := ∃ M b1 b2 V, IsFlow p f M ∧ e = .returned (.tuple #[.slice (some ⟨b1, 0, none⟩) f.code.length f.code.length, .int .i64 (flowE p f M).1, .int .i64 ((flowE p f M).2 : Nat)]) ∧
 Rf w' f.code.length b1 b2 V M ∧ w.heap.size ≤ b1 ∧ w.heap.size ≤ b2 ∧ (∀ k, V k → w.heap.size ≤ k) ∧ Below w.heap.size w w'
theorem flowE_none {p : Prg} {f : Fun} {M : Flo} (h : (List.range f.code.length).find? (outsAt f M) = none) (h2 : (List.range f.code.length).find? (wrongAt p f M) = none) : flowE p f M = (0, 0) := by
 unfold flowE
 rw [firstAt_find _ 7 (by decide), h, firstAt_find _ 3 (by decide), h2]
 rfl
def beginK (f : Fun) (k : Nat) : List Int := f.args.take k ++ List.replicate (f.slots.toNat - k) 0
theorem beginK_zero (f : Fun) : beginK f 0 = List.replicate f.slots.toNat 0 := by simp [beginK]
theorem beginK_all (f : Fun) : beginK f f.args.length = firstK f := by simp [beginK, firstK]
theorem beginK_len (f : Fun) (h : (f.args.length : Int) ≤ f.slots) {k : Nat} (hk : k ≤ f.args.length) : (beginK f k).length = f.slots.toNat := by
 unfold beginK
 simp
 omega
theorem beginK_succ (f : Fun) (h : (f.args.length : Int) ≤ f.slots) {k : Nat} (hk : k < f.args.length) : (beginK f k).set k f.args[k] = beginK f (k + 1) := by
 unfold beginK
 have hl : (f.args.take k).length = k := by simp; omega
 rw [List.set_append_right _ _ (by omega), hl, Nat.sub_self, show f.slots.toNat - k = (f.slots.toNat - (k + 1)) + 1 from by omega, List.replicate_succ, List.set_cons_zero, show f.args.take (k + 1) = f.args.take k ++ [f.args[k]] from by rw [List.take_add_one, List.getElem?_eq_getElem hk]; rfl, List.append_assoc]
 rfl
def RSt (p : Prg) (f : Fun) (w0 : World) (N b1 b2 B : Nat) (v : Value) (wr : World) (n : Nat) : Prop :=
 ∃ more M V, v = .bool more ∧ Rf wr N b1 b2 V M ∧ FInv p f M (PendAt more f.code.length) ∧ (∀ q K, M q = some K → ∀ x ∈ K, i64B x) ∧ (∀ k, V k → B ≤ k) ∧ Fr (WB b1 b2) w0 wr ∧ 2 * pot f.slots.toNat M f.code.length + more.toNat = n
theorem rs_open {p : Prg} {f : Fun} {w0 : World} {N b1 b2 B : Nat} {v : Value} {wr : World} (h : ∃ n, RSt p f w0 N b1 b2 B v wr n) : ∃ mm, leastN (RSt p f w0 N b1 b2 B v wr) = mm ∧ RSt p f w0 N b1 b2 B v wr mm := ⟨_, rfl, leastN_spec h⟩
theorem comeM_is {M : Flo} {n : Nat} {K : List Int} (r : Nat) : comeM M n K r = if r = n then some (match M n with | none => K | some was => joinL was K) else M r := rfl
theorem come_b {M : Flo} {n : Nat} {K : List Int} {s : Nat} (h : ∀ q K, M q = some K → ∀ x ∈ K, i64B x) (hK : ∀ x ∈ K, i64B x) (hl : ∀ was, M n = some was → was.length = K.length) : ∀ q K', comeM M n K q = some K' → ∀ x ∈ K', i64B x := fun q K' hq => by
 rw [comeM_is] at hq
 split at hq
 ·injection hq with hq
  subst hq
  cases hm : M n with
  | none => exact hK
  | some was => exact le_b (joinL_left (hl was hm)) (h n was hm)
 ·exact h q K' hq
theorem first_b {K : List Int} (hK : ∀ x ∈ K, i64B x) : ∀ q K', comeM (fun _ => none) 0 K q = some K' → ∀ x ∈ K', i64B x := come_b (s := 0) (fun _ _ h => by cases h) hK (fun _ h => by cases h)
def RP (f : Fun) (w0 : World) (N b1 b2 B mm : Nat) (more : Bool) (M : Flo) (wr : World) : Prop :=
 ∃ V, Rf wr N b1 b2 V M ∧ (∀ q K, M q = some K → ∀ x ∈ K, i64B x) ∧ (∀ k, V k → B ≤ k) ∧ Fr (WB b1 b2) w0 wr ∧ 2 * pot f.slots.toNat M f.code.length + more.toNat < mm
theorem RP.below {f : Fun} {w0 : World} {N b1 b2 B mm : Nat} {more : Bool} {M : Flo} {wr wr' : World} (h : RP f w0 N b1 b2 B mm more M wr) (hb : Below wr.heap.size wr wr') : RP f w0 N b1 b2 B mm more M wr' := by
 obtain ⟨V, h1, h2, h3, h4, h5⟩ := h
 exact ⟨V, h1.below hb, h2, h3, h4.trans (Fr.of_below hb (WB b1 b2)) (fun _ _ h => h), h5⟩
theorem wb_set {b1 b2 q : Nat} (w : World) (b : Nat) (hb : b = b1 ∨ b = b2) (v : Value) : Fr (WB b1 b2) w (w.setCell ⟨b, q, none⟩ v) := (Fr.refl (WB b1 b2) w).setCell (p := ⟨b, q, none⟩) (fun _ => hb) v
theorem RP.new {f : Fun} {w0 : World} {N b1 b2 B mm n c : Nat} {more : Bool} {M : Flo} {wr : World} {K : List Int} {a : Addr} {DO : Nat → Prop} (h : RP f w0 N b1 b2 B mm more M wr) (hN : N = f.code.length) (hn : n < N) (hK : K.length = f.slots.toNat) (hKb : ∀ x ∈ K, i64B x) (hm : M n = none)
  (hs : IntSl wr DO (some a) K) (hD : ∀ k, DO k → B ≤ k ∧ k ≠ b1 ∧ k ≠ b2 ∧ k < wr.heap.size) : RP f w0 N b1 b2 B mm true (comeM M n K) ((wr.setCell ⟨b1, n, none⟩ (.slice (some a) K.length c)).setCell ⟨b2, n, none⟩ (.bool true)) := by
 obtain ⟨V, h1, h2, h3, h4, h5⟩ := h
 have hp := (pot_come (M := M) (s := f.slots.toNat) (n := f.code.length) (m := n) (K := K) (by omega) hK (fun was hw => by rw [hm] at hw; cases hw)).2 (comeM_none' hm)
 have h1' := h1.wide (V' := fun k => V k ∨ DO k) (fun _ h => .inl h) (fun k hk => by
  rcases hk with hk | hk
  ·exact h1.v k hk
  ·exact (hD k hk).2)
 refine ⟨_, h1'.new hn a K c (hs.wide (fun _ h => .inr h)) (fun r => by rw [comeM_is, hm]), come_b (s := 0) h2 hKb (fun was hw => by rw [hm] at hw; cases hw), fun k hk => ?_, (h4.trans (wb_set wr b1 (.inl rfl) _) (fun _ _ h => h)).trans (wb_set _ b2 (.inr rfl) _) (fun _ _ h => h), ?_⟩
 ·rcases hk with hk | hk
  ·exact h3 k hk
  ·exact (hD k hk).1
 ·show _ + 1 < mm
  omega
theorem RP.join {f : Fun} {w0 : World} {N b1 b2 B mm n c : Nat} {more : Bool} {M : Flo} {wr : World} {K was : List Int} {a : Addr} {DO : Nat → Prop} (h : RP f w0 N b1 b2 B mm more M wr) (hN : N = f.code.length) (hn : n < N) (hK : K.length = f.slots.toNat) (hKb : ∀ x ∈ K, i64B x) (hm : M n = some was) (hw : was.length = f.slots.toNat) (hc : joinL was K ≠ was)
  (hs : IntSl wr DO (some a) (joinL was K)) (hD : ∀ k, DO k → B ≤ k ∧ k ≠ b1 ∧ k ≠ b2 ∧ k < wr.heap.size) : RP f w0 N b1 b2 B mm true (comeM M n K) (wr.setCell ⟨b1, n, none⟩ (.slice (some a) (joinL was K).length c)) := by
 obtain ⟨V, h1, h2, h3, h4, h5⟩ := h
 have hch : changes M n K := fun w hw' => by rw [hm] at hw'; injection hw' with e; subst e; exact hc
 have hp := (pot_come (M := M) (s := f.slots.toNat) (n := f.code.length) (m := n) (K := K) (by omega) hK (fun w hw' => by rw [hm] at hw'; injection hw' with e; subst e; exact hw)).2 hch
 have h1' := h1.wide (V' := fun k => V k ∨ DO k) (fun _ h => .inl h) (fun k hk => by
  rcases hk with hk | hk
  ·exact h1.v k hk
  ·exact (hD k hk).2)
 refine ⟨_, h1'.put hn a (joinL was K) c (hs.wide (fun _ h => .inr h)) (fun r => by rw [comeM_is, hm]) (by rw [hm]; rfl), come_b (s := 0) h2 hKb (fun w hw' => by rw [hm] at hw'; injection hw' with e; subst e; omega), fun k hk => ?_, h4.trans (wb_set wr b1 (.inl rfl) _) (fun _ _ h => h), ?_⟩
 ·rcases hk with hk | hk
  ·exact h3 k hk
  ·exact (hD k hk).1
 ·show _ + 1 < mm
  omega
theorem rflow_post {p : Prg} {f : Fun} {M : Flo} {w w' : World} {N b1 b2 q : Nat} {V : Nat → Prop} {E : Int} (hN : N = f.code.length) (hM : IsFlow p f M) (hE : flowE p f M = (E, q)) (hrf : Rf w' N b1 b2 V M) (h1 : w.heap.size ≤ b1) (h2 : w.heap.size ≤ b2) (hV : ∀ k, V k → w.heap.size ≤ k) (hb : Below w.heap.size w w') :
  RFlowPost p f w (.returned (.tuple #[.slice (some ⟨b1, 0, none⟩) N N, .int .i64 E, .int .i64 (q : Nat)])) w' := by
 subst hN
 exact ⟨M, b1, b2, V, hM, by rw [hE], hrf, h1, h2, hV, hb⟩
theorem outs_yes {f : Fun} {M : Flo} {q : Nat} {K : List Int} {x : Int} (hM : M q = some K) (hx : x ∈ nextK (insAt f q) q) (h : x = (f.code.length : Int)) : outsAt f M q = true := by
 unfold outsAt
 rw [hM, List.any_eq_true.2 ⟨x, hx, by simpa using h⟩]
 rfl
theorem outs_no {f : Fun} {M : Flo} {q : Nat} {NL : List Int} (hN : NL = nextK (insAt f q) q) (h : ∀ t (ht : t < NL.length), NL[t] < (f.code.length : Int)) : outsAt f M q = false := by
 unfold outsAt
 rw [← hN]
 have : NL.any (fun m => m == (f.code.length : Int)) = false := by
  rw [List.any_eq_false]
  intro x hx
  obtain ⟨t, ht, rfl⟩ := List.getElem_of_mem hx
  have := h t ht
  simp
  omega
 rw [this]
 simp
set_option maxRecDepth 100000 in
set_option maxHeartbeats 12800000 in
theorem rflow_any (w : World) (D : Nat → Prop) (p : Prg) (c0 c1 c2 : Value) (hv : PrgVal w D p c0 c1 c2) (hp : PrgB p) (hq : PrgR p) (hf : PrgFit p) (fn : Nat) (hfn : fn < p.funcs.length) :
  Calls Tryz.prog 24 #[.agg #[c0, c1, c2], .int .i64 fn] w (RFlowPost p p.funcs[fn] w) := by
 have hP : ∀ wr, Below w.heap.size w wr → PrgVal wr D p c0 c1 c2 := fun wr hb => hv.fr (Fr.of_below hb (fun _ => False)) (fun _ _ h => h)
 have hfm := List.getElem_mem hfn
 have hff := hf.fn _ hfm
 have rst := fun (u : World) (h : Below w.heap.size w u) (q : Nat) (i : Ins) (hi : p.funcs[fn].code[q]? = some i) => rstepS_any u D p _ _ _ (hP u h) hp hq hf fn q hfn i hi
 have hoB := fun (n : Nat) (i : Ins) (K : List Int) (ho : StepOk p p.funcs[fn] i n) (hK : ∀ x ∈ K, i64B x) => outK_b hf hp hff ho hK
 have hstep := fun (q : Nat) (i : Ins) (hi : p.funcs[fn].code[q]? = some i) => stepOk hf (hff.ins q i hi) (by have := hff.args; omega)
 have hfb := firstK_b hp hfm
 have hio := fun (q : Nat) (i : Ins) (hi : p.funcs[fn].code[q]? = some i) => insOk hf (hstep q i hi)
 have hni := fun (q : Nat) (h : q < p.funcs[fn].code.length) => next_in hf hff h
 have hv2 := hv
 obtain ⟨⟨a0, m0, rfl, _⟩, ⟨a1, m1, rfl, _⟩, a2, m2, rfl, hfs⟩ := hv2
 obtain ⟨bb, o, rfl, hDb, y0, y1, y2, y3, y4, g0, g1, g2, g3, g4, hfv⟩ := hfs fn hfn
 obtain ⟨rfl, rfl, ⟨e0, e1, rfl, hargs⟩, ⟨e2, e3, rfl, _⟩, e4, e5, rfl, hcs⟩ := hfv
 obtain ⟨cb, co, rfl, hz0⟩ := hcs 0 hff.code1
 clear hz0
 have hfn1 : (fn : Int) < (p.funcs.length : Int) := by omega
 obtain ⟨f, hfe⟩ : ∃ f, f = p.funcs[fn] := ⟨_, rfl⟩
 rw [← hfe] at hff hargs hcs g0 g1 g2 g3 g4 hoB hstep hfb hni hio rst ⊢
 clear hfe hfm hDb hfs hv
 have hN1 := hff.code1
 have hN64 := hff.code2
 have hal := hff.args
 have hs16 := hff.slots
 obtain ⟨sN, hsN⟩ : ∃ sN : Nat, f.slots = (sN : Int) := ⟨f.slots.toNat, by omega⟩
 have hsT : f.slots.toNat = sN := by omega
 rw [hsN] at g2
 have mkr := fun wx => make_rows wx f.code.length (by omega)
 have mkb := fun wx => make_bools wx f.code.length (by omega)
 have mks := fun wx => make_fl wx sN (by omega)
 have hNE := hcs
 obtain ⟨N, hN⟩ : ∃ N, N = f.code.length := ⟨_, rfl⟩
 rw [← hN] at g4 mkr mkb hN1 hN64
 generalize f.objects.length = ol at *
 obtain ⟨al, hall⟩ : ∃ al, al = f.args.length := ⟨_, rfl⟩
 rw [← hall] at g0
 -- the worlds of the prelude
 have hb1 := (Below.refl w.heap.size w).alloc (Nat.le_refl _) (.cells #[.slice a0 p.globals.length m0, .slice a1 p.shapes.length m1, .slice (some ⟨bb, o, none⟩) p.funcs.length m2] 26)
 have hr1 := heap_new w (.cells #[.slice a0 p.globals.length m0, .slice a1 p.shapes.length m1, .slice (some ⟨bb, o, none⟩) p.funcs.length m2] 26)
 obtain ⟨yb, hyb⟩ : ∃ yb, yb = w.heap.size := ⟨_, rfl⟩
 obtain ⟨w1, hw1⟩ : ∃ w1, w1 = w.alloc (.cells #[.slice a0 p.globals.length m0, .slice a1 p.shapes.length m1, .slice (some ⟨bb, o, none⟩) p.funcs.length m2] 26) := ⟨_, rfl⟩
 rw [← hw1] at hb1 hr1
 rw [← hyb] at hr1
 have hz1 : w1.heap.size = yb + 1 := by rw [hw1, hyb]; simp
 replace g0 := below_cell hb1 g0
 replace g1 := below_cell hb1 g1
 replace g2 := below_cell hb1 g2
 replace g3 := below_cell hb1 g3
 replace g4 := below_cell hb1 g4
 have k2 : w1.cell? ⟨yb, 2, none⟩ = some (.slice (some ⟨bb, o, none⟩) p.funcs.length m2) := (row_cell hr1 2).1
 have hb2 := (Below.refl w1.heap.size w1).alloc (Nat.le_refl _) (.cells #[.slice e0 al e1, .int .i64 f.result, .int .i64 sN, .slice e2 ol e3, .slice (some ⟨cb, co, none⟩) N e5] 58)
 have hr2 := heap_new w1 (.cells #[.slice e0 al e1, .int .i64 f.result, .int .i64 sN, .slice e2 ol e3, .slice (some ⟨cb, co, none⟩) N e5] 58)
 obtain ⟨zb, hzb⟩ : ∃ zb, zb = w1.heap.size := ⟨_, rfl⟩
 obtain ⟨w2, hw2⟩ : ∃ w2, w2 = w1.alloc (.cells #[.slice e0 al e1, .int .i64 f.result, .int .i64 sN, .slice e2 ol e3, .slice (some ⟨cb, co, none⟩) N e5] 58) := ⟨_, rfl⟩
 rw [← hw2] at hb2 hr2
 rw [← hzb] at hr2
 have hz2 : w2.heap.size = zb + 1 := by rw [hw2, hzb]; simp
 have hb3 := (Below.refl w2.heap.size w2).alloc (Nat.le_refl _) (.cells (nilRows N) 22)
 have hr3 := heap_new w2 (.cells (nilRows N) 22)
 obtain ⟨b1, hb1e⟩ : ∃ b1, b1 = w2.heap.size := ⟨_, rfl⟩
 obtain ⟨w3, hw3⟩ : ∃ w3, w3 = w2.alloc (.cells (nilRows N) 22) := ⟨_, rfl⟩
 rw [← hw3] at hb3 hr3
 rw [← hb1e] at hr3
 have hz3 : w3.heap.size = b1 + 1 := by rw [hw3, hb1e]; simp
 have hb4 := (Below.refl w3.heap.size w3).alloc (Nat.le_refl _) (.cells (boolsV (List.replicate N false)).toArray 4)
 have hr4 := heap_new w3 (.cells (boolsV (List.replicate N false)).toArray 4)
 obtain ⟨b2, hb2e⟩ : ∃ b2, b2 = w3.heap.size := ⟨_, rfl⟩
 obtain ⟨w4, hw4⟩ : ∃ w4, w4 = w3.alloc (.cells (boolsV (List.replicate N false)).toArray 4) := ⟨_, rfl⟩
 rw [← hw4] at hb4 hr4
 rw [← hb2e] at hr4
 have hz4 : w4.heap.size = b2 + 1 := by rw [hw4, hb2e]; simp
 have hb5 := (Below.refl w4.heap.size w4).alloc (Nat.le_refl _) (.cells (intsV (List.replicate sN 0)).toArray 3)
 have hr5 := heap_new w4 (.cells (intsV (List.replicate sN 0)).toArray 3)
 obtain ⟨gb, hgb⟩ : ∃ gb, gb = w4.heap.size := ⟨_, rfl⟩
 obtain ⟨w5, hw5⟩ : ∃ w5, w5 = w4.alloc (.cells (intsV (List.replicate sN 0)).toArray 3) := ⟨_, rfl⟩
 rw [← hw5] at hb5 hr5
 rw [← hgb] at hr5
 have hz5 : w5.heap.size = gb + 1 := by rw [hw5, hgb]; simp
 have b45 := hb4.trans (hb5.mono hb4.size)
 have b35 := hb3.trans (b45.mono hb3.size)
 have b25 := hb2.trans (b35.mono hb2.size)
 have b05 := hb1.trans (b25.mono hb1.size)
 have q1 := (Fr.of_below b25 (fun _ => False)).heap hr1 (fun h => h)
 have q2 := (Fr.of_below b35 (fun _ => False)).heap hr2 (fun h => h)
 have q3 := (Fr.of_below b45 (fun _ => False)).heap hr3 (fun h => h)
 have q4 := (Fr.of_below hb5 (fun _ => False)).heap hr4 (fun h => h)
 have hord : yb < zb ∧ zb < b1 ∧ b1 < b2 ∧ b2 < gb := ⟨by omega, by omega, by omega, by omega⟩
 have HYB := Lib.hid hyb
 have HW1 := Lib.hid hw1
 have HZB := Lib.hid hzb
 have HW2 := Lib.hid hw2
 have HB1E := Lib.hid hb1e
 have HW3 := Lib.hid hw3
 have HB2E := Lib.hid hb2e
 have HW4 := Lib.hid hw4
 have HGB := Lib.hid hgb
 have HW5 := Lib.hid hw5
 have HORD := Lib.hid hord
 have HB05 := Lib.hid b05
 have HQ1 := Lib.hid q1
 have HQ2 := Lib.hid q2
 have HQ3 := Lib.hid q3
 have HQ4 := Lib.hid q4
 have HR5 := Lib.hid hr5
 have z4 : w2.cell? ⟨zb, 4, none⟩ = some (.slice (some ⟨cb, co, none⟩) N e5) := (row_cell hr2 4).1
 have z4' := below_cell hb3 z4
 have z2 : w2.cell? ⟨zb, 2, none⟩ = some (.int .i64 sN) := (row_cell hr2 2).1
 have z2' := below_cell hb4 (below_cell hb3 z2)
 clear hyb hw1 hzb hw2 hb1e hw3 hb2e hw4 hgb hw5 hord b45 b35 b25 b05 q1 q2 q3 q4 hr1 hr2 hr3 hr4 hr5 hb1 hb2 hb3 hb4 hb5 hz1 hz2 hz3 hz4 hz5 z2
 have HPP := Lib.hid hP
 have RST := Lib.hid rst
 have HOB := Lib.hid hoB
 have HSTEP := Lib.hid hstep
 have HFB := Lib.hid hfb
 have HNI := Lib.hid hni
 have HIO := Lib.hid hio
 have HFF := Lib.hid hff
 have HARGS := Lib.hid hargs
 have HCS := Lib.hid hcs
 have HSN := Lib.hid hsN
 have HST := Lib.hid hsT
 have HN := Lib.hid hN
 have HALL := Lib.hid hall
 have HN1 := Lib.hid hN1
 have HN64 := Lib.hid hN64
 have HAL := Lib.hid hal
 have HS16 := Lib.hid hs16
 clear hP rst hoB hstep hfb hni hio hff hargs hcs hsN hsT hN hall hN1 hN64 hal hs16 hNE hp hq hf
 go_enter Tryz.func24, Tryz.ntmps24
 go_upto_region 1 with fail
 rw [← HYB.out, ← HW1.out]
 go_upto_region 2 with fail
 rw [← HZB.out, ← HW2.out]
 clear k2 g0 g1 g2 g3 g4
 go_upto_region 3 with fail
 rw [← HB1E.out, ← HW3.out]
 clear z4
 go_upto_region 4 with fail
 rw [← HB2E.out, ← HW4.out]
 clear z4'
 go_upto_region 5 with fail
 rw [← HGB.out, ← HW5.out]
 clear z2' mkr mkb mks
 have HCELL := Lib.hid (show ∀ (F : Nat → Prop) u, Fr F w5 u → ¬ F yb → ¬ F zb → (u.cell? ⟨yb, 0, none⟩ = some (.slice a0 p.globals.length m0) ∧ u.cell? ⟨yb, 1, none⟩ = some (.slice a1 p.shapes.length m1) ∧ u.cell? ⟨yb, 2, none⟩ = some (.slice (some ⟨bb, o, none⟩) p.funcs.length m2)) ∧ u.cell? ⟨zb, 0, none⟩ = some (.slice e0 al e1) ∧ u.cell? ⟨zb, 4, none⟩ = some (.slice (some ⟨cb, co, none⟩) N e5) from fun F u hf hy hz => by
  have h1 := hf.heap HQ1.out hy
  have h2 := hf.heap HQ2.out hz
  exact ⟨⟨(row_cell h1 0).1, (row_cell h1 1).1, (row_cell h1 2).1⟩, (row_cell h2 0).1, (row_cell h2 4).1⟩)
 go_upto_region 6 with fail
 go_loopw [11] (fun i wr => ∃ k : Nat, k ≤ al ∧ i = .int .i64 k ∧ wr.heap[gb]? = some (.cells (intsV (beginK f k)).toArray 3) ∧ Fr (onB gb) w5 wr) (fun i _ => al - (intOf i).toNat)
 case atStart => exact ⟨0, Nat.zero_le _, rfl, by rw [beginK_zero, HST.out]; exact HR5.out, Fr.refl _ _⟩
 case round =>
  obtain ⟨k, hk, rfl, hrow, hfr⟩ := hrel
  have hord := HORD.out
  obtain ⟨⟨k0, k1, k2⟩, z0, z4⟩ := HCELL.out _ wr hfr (fun e => by unfold onB at e; omega) (fun e => by unfold onB at e; omega)
  by_cases hlt : k < al
  ·have hka : k < f.args.length := by rw [← HALL.out]; exact hlt
   have hlen := beginK_len f HAL.out (k := k) (by omega)
   rw [HST.out] at hlen
   have hal := HAL.out
   have hsn := HSN.out
   have hks : k < sN := by have := HALL.out; omega
   obtain ⟨ab, ao, rfl, _, ax⟩ := HARGS.out k hka
   have hbw : Below w.heap.size w wr := HB05.out.trans (hfr.below HB05.out.size (fun q hq => by unfold onB at hq; have := HYB.out; omega))
   replace ax := below_cell hbw ax
   have gc1 := (row_cell hrow k).1
   have gc2 := (row_cell hrow k).2
   rw [show (intsV (beginK f k)).toArray[k]? = some (.int .i64 ((beginK f k)[k]'(by omega))) from by simp [intsV, show k < (beginK f k).length by omega]] at gc1
   have hrow2 := row_set hrow k (.int .i64 f.args[k])
   rw [show (intsV (beginK f k)).toArray.setIfInBounds k (.int .i64 f.args[k]) = (intsV (beginK f (k + 1))).toArray from by rw [← beginK_succ f HAL.out hka]; simp [intsV]] at hrow2
   have hf2 := hfr.setCell (p := ⟨gb, k, none⟩) (fun _ => rfl) (.int .i64 f.args[k])
   have hkl : (k : Int) < (al : Int) := by omega
   have hksl : (k : Int) < (sN : Int) := by omega
   have i1 : IntKind.i64.wrap ((k : Int) + 1) = (k : Int) + 1 := IntWalk.i64_in _ (by have := HS16.out; omega)
   generalize f.args[k] = ak at *
   generalize (beginK f k)[k]'_ = bk at *
   have HROW := Lib.hid hrow2
   have HF2 := Lib.hid hf2
   clear hrow hrow2 hf2 hfr hbw hlen hal hsn hks hka
   go_wp2_with fail
   go_roundw
   case rel => exact ⟨k + 1, hlt, by go_num, HROW.out, HF2.out⟩
   case measure => simp [intOf]; omega
  ·have hk' : k = al := by omega
   subst hk'
   have hfk : beginK f k = firstK f := by rw [HALL.out, beginK_all]
   rw [hfk] at hrow
   have hfl : (firstK f).length = sN := by rw [firstK_len HAL.out, HST.out]
   have hN1 := HN1.out
   have hq3 := hfr.heap HQ3.out (fun e => by unfold onB at e; omega)
   have hq4 := hfr.heap HQ4.out (fun e => by unfold onB at e; omega)
   obtain ⟨fa, fc, hfv, hfs⟩ := own_int (own_row (B := w.heap.size) hrow hfl (by have := HS16.out; have := HSN.out; omega) (by have := HYB.out; omega))
   injection hfv with v1 v2 v3
   subst v1 v3
   clear v2
   have hgl := heap_lt hrow
   have hfs := hfs.wide (D' := fun k => k = gb) (fun k hk => by simpa [Value.ownBlock] using hk.symm)
   have hb1l := heap_lt hq3
   have hb2l := heap_lt hq4
   have hrf := (Rf.made hq3 hq4 (by omega)).wide (V' := fun k => k = gb) (fun _ h => h.elim) (fun k hk => by rw [hk]; exact ⟨by omega, by omega, hgl⟩)
   have c1 := hrf.cell (q := 0) (by omega)
   obtain ⟨ca, cn, cc, c1, c1f, _, _⟩ := c1
   obtain ⟨c2, c2f⟩ := hrf.mark (q := 0) (by omega)
   have hf1 := (Fr.refl (onB b1) wr).setCell (p := ⟨b1, 0, none⟩) (fun _ => rfl) (.slice (some ⟨gb, 0, none⟩) sN sN)
   have hne12 : ¬ onB b1 b2 := fun e => by unfold onB at e; omega
   have c2' : (wr.setCell ⟨b1, 0, none⟩ (.slice (some ⟨gb, 0, none⟩) sN sN)).cell? ⟨b2, 0, none⟩ = some (.bool false) := hf1.cell c2 hne12
   have c2f' : (wr.setCell ⟨b1, 0, none⟩ (.slice (some ⟨gb, 0, none⟩) sN sN)).frozen? ⟨b2, 0, none⟩ = false := (row_cell (hf1.heap hq4 hne12) 0).2
   have hrf9 := hrf.new (q := 0) (by omega) ⟨gb, 0, none⟩ (firstK f) sN hfs (M' := comeM (fun _ => none) 0 (firstK f)) (fun r => rfl)
   rw [hfl] at hrf9
   have hfin : FInv p f (comeM (fun _ => none) 0 (firstK f)) (PendAt true f.code.length) := (FInv.start HFF.out.code1 HAL.out).weaken (fun _ _ _ => .inl rfl)
   have hf9 : Fr (fun q => onB gb q ∨ WB b1 b2 q) w5 ((wr.setCell ⟨b1, 0, none⟩ (.slice (some ⟨gb, 0, none⟩) sN sN)).setCell ⟨b2, 0, none⟩ (.bool true)) := ((hfr.mono (G := fun q => onB gb q ∨ WB b1 b2 q) (fun q h => .inl h)).trans (wb_set (b1 := b1) (b2 := b2) wr b1 (.inl rfl) _) (fun q _ h => .inr h)).trans (wb_set (b1 := b1) (b2 := b2) _ b2 (.inr rfl) _) (fun q _ h => .inr h)
   have hn1 : (0 : Int) < (N : Int) := by omega
   have hn1' : 0 < N := by omega
   obtain ⟨w9, hw9⟩ : ∃ w9, w9 = (wr.setCell ⟨b1, 0, none⟩ (.slice (some ⟨gb, 0, none⟩) sN sN)).setCell ⟨b2, 0, none⟩ (.bool true) := ⟨_, rfl⟩
   rw [← hw9] at hrf9 hf9
   have hrs : RSt p f w9 N b1 b2 w.heap.size (.bool true) w9 (2 * pot f.slots.toNat (comeM (fun _ => none) 0 (firstK f)) f.code.length + 1) := ⟨true, _, _, rfl, hrf9, hfin, first_b HFB.out, fun k hk => by rw [hk]; have := HYB.out; omega, Fr.refl _ _, rfl⟩
   have HC9 := Lib.hid (show ∀ u, Fr (WB b1 b2) w9 u → (u.cell? ⟨yb, 0, none⟩ = some (.slice a0 p.globals.length m0) ∧ u.cell? ⟨yb, 1, none⟩ = some (.slice a1 p.shapes.length m1) ∧ u.cell? ⟨yb, 2, none⟩ = some (.slice (some ⟨bb, o, none⟩) p.funcs.length m2)) ∧ u.cell? ⟨zb, 4, none⟩ = some (.slice (some ⟨cb, co, none⟩) N e5) from fun u h => by
    obtain ⟨h1, _, h2⟩ := HCELL.out (fun q => onB gb q ∨ WB b1 b2 q) u (hf9.trans h (fun q _ h => .inr h)) (fun e => by unfold onB WB at e; omega) (fun e => by unfold onB WB at e; omega)
    exact ⟨h1, h2⟩)
   have HB9 := Lib.hid (show ∀ u, Fr (WB b1 b2) w9 u → Below w.heap.size w u from fun u h => HB05.out.trans ((hf9.trans h (fun q _ h => .inr h)).below HB05.out.size (fun q hq => by unfold onB WB at hq; have := HYB.out; omega)))
   have HRS := Lib.hid hrs
   have HW9 := Lib.hid hw9
   have HBLO := Lib.hid (show w.heap.size ≤ b1 ∧ w.heap.size ≤ b2 ∧ b1 ≠ b2 from ⟨by have := HYB.out; omega, by have := HYB.out; omega, by omega⟩)
   have HBLT := Lib.hid (show b1 < w9.heap.size ∧ b2 < w9.heap.size from ⟨Nat.lt_of_lt_of_le hb1l (by rw [hw9]; simp [World.setCell]), Nat.lt_of_lt_of_le hb2l (by rw [hw9]; simp [World.setCell])⟩)
   clear hrs hw9 hrf9 hf9 hfin hrow hfr hfk hfl hq3 hq4 hfs hgl hb1l hb2l hrf hf1 hne12 hord
   go_upto_region 10 with fail
   rw [← HW9.out]
   clear c1 c1f c2 c2f c2' c2f' k0 k1 k2 z0 z4
   go_upto_region 11 with fail
   go_loopw [12] (fun v wx => ∃ n, RSt p f w9 N b1 b2 w.heap.size v wx n) (fun v wx => leastN (RSt p f w9 N b1 b2 w.heap.size v wx))
   case atStart => exact ⟨_, HRS.out⟩
   case round =>
    obtain ⟨mm, hmm, more, M, V, rfl, hrf, hinv, hMb, hVb, hfr, hms⟩ := rs_open hrel
    have HMMM := Lib.hid hmm
    clear hmm hrel HRS
    cases more with
    | false =>
     have hflow := hinv.ended
     have HRF := Lib.hid hrf
     have HFLOW := Lib.hid hflow
     have HMB := Lib.hid hMb
     have HVB := Lib.hid hVb
     have HFR29 := Lib.hid hfr
     clear hflow hinv hrf hMb hVb hfr hms HMMM
     go_upto_region 30 with fail
     generalize wr = w29 at *
     have HF29 := Lib.hid (show ∀ u, Below w29.heap.size w29 u → Fr (WB b1 b2) w9 u from fun u h => HFR29.out.trans (Fr.of_below h (WB b1 b2)) (fun _ _ h => h))
     go_loopw [20] (fun i wr => ∃ q : Nat, q ≤ N ∧ i = .int .i64 q ∧ Below w29.heap.size w29 wr ∧ ∀ r, r < q → outsAt f M r = false) (fun i _ => N - (intOf i).toNat)
     case atStart => exact ⟨0, Nat.zero_le _, rfl, Below.refl _ _, fun r hr => absurd hr (Nat.not_lt_zero _)⟩
     case round =>
      obtain ⟨q, hq, rfl, hbr, houts⟩ := hrel
      obtain ⟨_, z4⟩ := HC9.out wr (HF29.out wr hbr)
      by_cases hql : q < N
      case neg =>
       have hqe : q = f.code.length := by have := HN.out; omega
       have hqn : ¬ (q : Int) < (N : Int) := by omega
       have HNONE := Lib.hid (find_none (A := outsAt f M) (N := f.code.length) (fun r hr => houts r (by omega)))
       have HB30 := Lib.hid hbr
       clear hbr houts hqe hq
       go_upto_region 39 with fail
       generalize wr = w30 at *
       have HFB30 := Lib.hid (show ∀ u, Below w30.heap.size w30 u → Below w29.heap.size w29 u from fun u h => HB30.out.trans (h.mono HB30.out.size))
       go_loopw [23] (fun i wr => ∃ q : Nat, q ≤ N ∧ i = .int .i64 q ∧ Below w30.heap.size w30 wr ∧ ∀ r, r < q → wrongAt p f M r = false) (fun i _ => N - (intOf i).toNat)
       case atStart => exact ⟨0, Nat.zero_le _, rfl, Below.refl _ _, fun r hr => absurd hr (Nat.not_lt_zero _)⟩
       case round =>
        obtain ⟨q, hq, rfl, hbr, hwr⟩ := hrel
        have hb29 := HFB30.out wr hbr
        have hfr := HF29.out wr hb29
        obtain ⟨⟨k0, k1, k2⟩, z4⟩ := HC9.out wr hfr
        by_cases hql : q < N
        case neg =>
         have hqe : q = f.code.length := by have := HN.out; omega
         have hqn : ¬ (q : Int) < (N : Int) := by omega
         have HNONE2 := Lib.hid (find_none (A := wrongAt p f M) (N := f.code.length) (fun r hr => hwr r (by omega)))
         have HB40 := Lib.hid hb29
         clear hbr hwr hqe hq hb29 hfr
         go_upto_region 46 with fail
         clear k0 k1 k2 z4
         generalize wr = w40 at *
         have HF40 := Lib.hid (HF29.out w40 HB40.out)
         have HRF40 := Lib.hid (HRF.out.below HB40.out)
         go_loopw [26] (fun i wr => ∃ q : Nat, q ≤ N ∧ i = .int .i64 q ∧ Rf wr N b1 b2 V M ∧ Fr (WB b1 b2) w9 wr) (fun i _ => N - (intOf i).toNat)
         case atStart => exact ⟨0, Nat.zero_le _, rfl, HRF40.out, HF40.out⟩
         case round =>
          obtain ⟨q, hq, rfl, hrf, hfr⟩ := hrel
          obtain ⟨_, z4⟩ := HC9.out wr hfr
          by_cases hql : q < N
          case neg =>
           have hqn : ¬ (q : Int) < (N : Int) := by omega
           have hE := flowE_none (p := p) HNONE.out HNONE2.out
           have HE := Lib.hid hE
           have HRFE := Lib.hid hrf
           have HFRE := Lib.hid hfr
           clear hE hrf hfr hq
           go_wp2_with fail
           go_ret3
           exact rflow_post HN.out HFLOW.out HE.out HRFE.out HBLO.out.1 HBLO.out.2.1 HVB.out (HB9.out _ HFRE.out)
          have hqlt : (q : Int) < (N : Int) := by omega
          have i1 : IntKind.i64.wrap ((q : Int) + 1) = (q : Int) + 1 := IntWalk.i64_in _ (by have := HN64.out; omega)
          obtain ⟨q2, _⟩ := hrf.mark hql
          obtain ⟨ca, cn, cc, q1, q1f, _, _⟩ := hrf.cell hql
          have HQL := Lib.hid hql
          cases hM : M q with
          | none =>
           rw [hM] at q2
           have q2 : wr.cell? ⟨b2, q, none⟩ = some (.bool false) := q2
           have HRF2 := Lib.hid (show Rf (wr.setCell ⟨b1, q, none⟩ (.slice none 0 0)) N b1 b2 V M from hrf.nil hM)
           have HFR2 := Lib.hid (hfr.trans (wb_set (b1 := b1) (b2 := b2) (q := q) wr b1 (.inl rfl) (.slice none 0 0)) (fun _ _ h => h))
           clear hM hrf hfr
           go_wp2_with fail
           go_roundw
           case rel => exact ⟨q + 1, HQL.out, by go_num, HRF2.out, HFR2.out⟩
           case measure => simp [intOf]; omega
          | some K =>
           rw [hM] at q2
           have q2 : wr.cell? ⟨b2, q, none⟩ = some (.bool true) := q2
           have HRF2 := Lib.hid hrf
           have HFR2 := Lib.hid hfr
           clear hM hrf hfr q1 q1f
           go_wp2_with fail
           go_roundw
           case rel => exact ⟨q + 1, HQL.out, by go_num, HRF2.out, HFR2.out⟩
           case measure => simp [intOf]; omega
        have hqlt : (q : Int) < (N : Int) := by omega
        have i1 : IntKind.i64.wrap ((q : Int) + 1) = (q : Int) + 1 := IntWalk.i64_in _ (by have := HN64.out; omega)
        have hrf := HRF.out.below hb29
        obtain ⟨q2, _⟩ := hrf.mark hql
        obtain ⟨ca, cn, cc, q1, _, _, hcell⟩ := hrf.cell hql
        have HQL := Lib.hid hql
        have HWRG := Lib.hid hwr
        have HBR := Lib.hid hbr
        cases hM : M q with
        | none =>
         rw [hM] at q2
         have q2 : wr.cell? ⟨b2, q, none⟩ = some (.bool false) := q2
         have hno : wrongAt p f M q = false := by unfold wrongAt; rw [hM]
         have HNOO := Lib.hid hno
         clear hno hM hrf hcell hwr hbr hb29 hfr q1
         go_wp2_with fail
         go_roundw
         case rel => exact ⟨q + 1, HQL.out, by go_num, HBR.out, fun r hr => by
          by_cases e : r = q
          ·rw [e]; exact HNOO.out
          ·exact HWRG.out r (by omega)⟩
         case measure => simp [intOf]; omega
        | some K =>
         rw [hM] at q2
         have q2 : wr.cell? ⟨b2, q, none⟩ = some (.bool true) := q2
         obtain ⟨hcn, hks, _⟩ := hcell K hM
         subst hcn
         have hqc : q < f.code.length := by rw [← HN.out]; exact hql
         have hi : f.code[q]? = some (insAt f q) := by unfold insAt; simp [hqc]
         have hKl := (HFLOW.out.1.len q K hM).2
         have hok := HSTEP.out q _ hi
         rw [← hKl] at hok
         have hrst := RST.out wr.drew (HB9.out _ (hfr.trans (Fr.of_below (Below.refl wr.heap.size wr).drew (WB b1 b2)) (fun _ _ h => h))) q _ hi V ca K cc (show IntSl wr.drew V ca K from hks) hok (HMB.out q K hM) (by have := HST.out; have := HS16.out; have := HSN.out; omega)
         have hwa : wrongAt p f M q = !readsK p f.result (insAt f q) K := by unfold wrongAt; rw [hM]
         obtain ⟨R, hR⟩ : ∃ R, R = readsK p f.result (insAt f q) K := ⟨_, rfl⟩
         rw [← hR] at hrst hwa
         generalize outK p f (insAt f q) K = OUT at *
         have HRST := Lib.hid hrst
         have HWA := Lib.hid hwa
         have HR0 := Lib.hid (Below.refl wr.heap.size wr).drew
         clear hrst hwa hR hM hrf hcell hwr hbr hfr hks hqc hi hKl hok hb29
         go_upto_region 42 with fail
         have hSd : wr.drew.cell? ⟨yb, 0, none⟩ = some (.slice a0 p.globals.length m0) ∧ wr.drew.cell? ⟨yb, 1, none⟩ = some (.slice a1 p.shapes.length m1) ∧ wr.drew.cell? ⟨yb, 2, none⟩ = some (.slice (some ⟨bb, o, none⟩) p.funcs.length m2) ∧ wr.drew.cell? ⟨b1, q, none⟩ = some (.slice ca K.length cc) := ⟨k0, k1, k2, q1⟩
         clear k0 k1 k2 q1 q2 z4
         go_region_held3 (fun w' => w'.cell? ⟨yb, 0, none⟩ = some (.slice a0 p.globals.length m0) ∧ w'.cell? ⟨yb, 1, none⟩ = some (.slice a1 p.shapes.length m1) ∧ w'.cell? ⟨yb, 2, none⟩ = some (.slice (some ⟨bb, o, none⟩) p.funcs.length m2) ∧ w'.cell? ⟨b1, q, none⟩ = some (.slice ca K.length cc)) (first | with_reducible exact hSd | with_reducible exact hS7 | go_keep) (first
          | (go_at_call 60
             refine HRST.out.mono ?_
             rintro e w17 ⟨og, on, rfl, ho17, hb17⟩
             obtain ⟨x0, x1, x2, x3⟩ := hSd
             have hS7 := And.intro (below_cell hb17 x0) (And.intro (below_cell hb17 x1) (And.intro (below_cell hb17 x2) (below_cell hb17 x3)))
             have HB17 := Lib.hid (HBR.out.trans ((HR0.out.trans (hb17.mono HR0.out.size)).mono HBR.out.size))
             clear ho17 hb17 x0 x1 x2 x3))
         clear hS7
         cases R with
         | true =>
          go_wp2_with fail
          go_roundw
          case rel => exact ⟨q + 1, HQL.out, by go_num, HB17.out, fun r hr => by
           by_cases e : r = q
           ·rw [e, HWA.out]; rfl
           ·exact HWRG.out r (by omega)⟩
          case measure => simp [intOf]; omega
         | false =>
          have hE := flowE_wrong (p := p) HNONE.out (find_some (A := wrongAt p f M) (N := f.code.length) (k := q) (by rw [← HN.out]; exact hql) HWRG.out (by rw [HWA.out]; rfl))
          have HE := Lib.hid hE
          have HB34 := Lib.hid (HFB30.out _ HB17.out)
          clear hE
          go_wp2_with fail
          go_ret3
          exact rflow_post HN.out HFLOW.out HE.out (HRF.out.below HB34.out) HBLO.out.1 HBLO.out.2.1 HVB.out (HB9.out _ (HF29.out _ HB34.out))
      have hqlt : (q : Int) < (N : Int) := by omega
      have i1 : IntKind.i64.wrap ((q : Int) + 1) = (q : Int) + 1 := IntWalk.i64_in _ (by have := HN64.out; omega)
      have hqc : q < f.code.length := by rw [← HN.out]; exact hql
      have hi : f.code[q]? = some (insAt f q) := by unfold insAt; simp [hqc]
      have hcell2 := HCS.out q hqc
      obtain ⟨cb', co', ec, _, j0, j1, j2, j3⟩ := hcell2
      injection ec with ec
      injection ec with ec1 ec2
      subst ec1 ec2
      rw [List.getElem?_eq_getElem hqc] at hi
      injection hi with hi
      rw [hi] at j0 j1 j2 j3
      have hbw := HB9.out wr (HF29.out wr hbr)
      replace j0 := below_cell hbw j0
      replace j1 := below_cell hbw j1
      replace j2 := below_cell hbw j2
      replace j3 := below_cell hbw j3
      have rnx := rnext_any wr (insAt f q) q (by have := HN64.out; omega)
      have hnl := nextK_len (insAt f q) (q : Int)
      have hbd := HNI.out q hqc
      obtain ⟨NL, hNL⟩ : ∃ NL, NL = nextK (insAt f q) (q : Int) := ⟨_, rfl⟩
      have HNO := Lib.hid (fun h => outs_no (M := M) hNL h)
      have HYES := Lib.hid (fun (K : List Int) (hM : M q = some K) (x : Int) (hx : x ∈ NL) h => outs_yes hM (hNL ▸ hx) h)
      rw [← hNL] at rnx hnl hbd
      generalize insAt f q = i at *
      obtain ⟨iop, ia, ib, ic⟩ := i
      dsimp only at j0 j1 j2 j3 rnx
      have RNX := Lib.hid rnx
      have HNL := Lib.hid hnl
      have HBD := Lib.hid hbd
      have HOUTS := Lib.hid houts
      have HBR := Lib.hid hbr
      have HQL := Lib.hid hql
      have HI1 := Lib.hid i1
      clear rnx hnl hbd houts hbr hi hqc hbw hNL i1
      go_wp2_with fail
      refine RNX.out.mono ?_
      rintro e w32 ⟨v32, rfl, ho32, hb32⟩
      obtain ⟨na, nc, rfl, hns⟩ := own_int ho32
      have HB32 := Lib.hid (HBR.out.trans (hb32.mono HBR.out.size))
      have HNS := Lib.hid hns
      clear ho32 hb32 hns z4 j0 j1 j2 j3
      go_upto_region 34 with fail
      generalize wr = w31 at *
      cases hM : M q with
      | none =>
       have hno : outsAt f M q = false := by unfold outsAt; rw [hM]; rfl
       have HNOO := Lib.hid hno
       have HM0 := Lib.hid hM
       clear hno hM
       go_loopw [22] (fun i wr => i = .int .i64 0 ∧ Below w32.heap.size w32 wr) (fun _ _ => 0)
       case atStart => exact ⟨rfl, Below.refl _ _⟩
       case round =>
        obtain ⟨rfl, hbr⟩ := hrel
        have hb29 := HB32.out.trans (hbr.mono HB32.out.size)
        obtain ⟨q2, _⟩ := (HRF.out.below hb29).mark hql
        rw [HM0.out] at q2
        have q2 : wr.cell? ⟨b2, q, none⟩ = some (.bool false) := q2
        have i1 := HI1.out
        have HB33 := Lib.hid hb29
        clear hbr hb29
        by_cases hn0 : NL.length = 0
        ·rw [hn0]
         clear hn0
         go_wp2_with fail
         go_roundw
         case rel => exact ⟨q + 1, HQL.out, by go_num, HB33.out, fun r hr => by
          by_cases e : r = q
          ·rw [e]; exact HNOO.out
          ·exact HOUTS.out r (by omega)⟩
         case measure => simp [intOf]; omega
        ·have hn1 : (0 : Int) < (NL.length : Int) := by omega
         have hn2 : 0 < NL.length := by omega
         obtain ⟨nl, hnl'⟩ : ∃ nl, nl = NL.length := ⟨_, rfl⟩
         rw [← hnl'] at hn1 hn2 ⊢
         clear hn0 hnl'
         go_wp2_with fail
         go_roundw
         case rel => exact ⟨q + 1, HQL.out, by go_num, HB33.out, fun r hr => by
          by_cases e : r = q
          ·rw [e]; exact HNOO.out
          ·exact HOUTS.out r (by omega)⟩
         case measure => simp [intOf]; omega
      | some K =>
       have HM0 := Lib.hid hM
       clear hM
       go_loopw [22] (fun i wr => ∃ j : Nat, j ≤ NL.length ∧ i = .int .i64 j ∧ Below w32.heap.size w32 wr ∧ ∀ t (ht : t < NL.length), t < j → NL[t] < (f.code.length : Int)) (fun i _ => NL.length - (intOf i).toNat)
       case atStart => exact ⟨0, Nat.zero_le _, rfl, Below.refl _ _, fun t _ h => absurd h (Nat.not_lt_zero _)⟩
       case round =>
        obtain ⟨j, hj, rfl, hbr, hall⟩ := hrel
        have hb29 := HB32.out.trans (hbr.mono HB32.out.size)
        obtain ⟨q2, _⟩ := (HRF.out.below hb29).mark hql
        rw [HM0.out] at q2
        have q2 : wr.cell? ⟨b2, q, none⟩ = some (.bool true) := q2
        obtain ⟨_, z4⟩ := HC9.out wr (HF29.out wr hb29)
        have HB33 := Lib.hid hb29
        by_cases hjl : j < NL.length
        case neg =>
         have hje : j = NL.length := by omega
         have hno := HNO.out (fun t ht => hall t ht (by omega))
         have HNOO := Lib.hid hno
         have hjn : ¬ (j : Int) < (NL.length : Int) := by omega
         have i1 := HI1.out
         clear hno hall hbr hb29 hje hj
         go_wp2_with fail
         go_roundw
         case rel => exact ⟨q + 1, HQL.out, by go_num, HB33.out, fun r hr => by
          by_cases e : r = q
          ·rw [e]; exact HNOO.out
          ·exact HOUTS.out r (by omega)⟩
         case measure => simp [intOf]; omega
        have hjlt : (j : Int) < (NL.length : Int) := by omega
        have hnl := HNL.out
        have i1 : IntKind.i64.wrap ((j : Int) + 1) = (j : Int) + 1 := IntWalk.i64_in _ (by omega)
        obtain ⟨nb, no, rfl, _, hx⟩ := HNS.out j hjl
        replace hx := below_cell hbr hx
        have hbx := HBD.out _ (List.getElem_mem hjl)
        have HMEM := Lib.hid (List.getElem_mem hjl)
        have HBJ := Lib.hid hbr
        have HALLJ := Lib.hid hall
        have HJL := Lib.hid hjl
        by_cases hxN : NL[j] = (f.code.length : Int)
        ·have hyes := HYES.out K HM0.out _ HMEM.out hxN
         have hE := flowE_out (p := p) (find_some (A := outsAt f M) (N := f.code.length) (k := q) (by rw [← HN.out]; exact hql) HOUTS.out hyes)
         have hge : (N : Int) ≤ NL[j] := by rw [hxN, HN.out]; exact Int.le_refl _
         have HE := Lib.hid hE
         clear hyes hE hxN hbx hall hbr hb29 hnl hj
         generalize NL[j] = xx at *
         go_upto_region 36 with fail
         go_quiet (fail)
         have HB34 := Lib.hid (below_drewN HB33.out nq)
         go_wp2_with fail
         go_ret3
         exact rflow_post HN.out HFLOW.out HE.out (HRF.out.below HB34.out) HBLO.out.1 HBLO.out.2.1 HVB.out (HB9.out _ (HF29.out _ HB34.out))
        ·have hlt : NL[j] < (f.code.length : Int) := by omega
         have hge : ¬ (N : Int) ≤ NL[j] := by rw [HN.out]; omega
         have HLTX := Lib.hid hlt
         have HHGE := Lib.hid (show ∀ t (ht : t < NL.length), t < j + 1 → NL[t] < (f.code.length : Int) from fun t ht h => by
          by_cases e : t = j
          ·subst e; exact hlt
          ·exact hall t ht (by omega))
         clear hlt hxN hbx hall hbr hb29 hnl hj
         generalize NL[j] = xx at hx hge
         go_upto_region 36 with fail
         go_quiet (fail)
         go_wp2_with fail
         go_roundw
         case rel => exact ⟨j + 1, HJL.out, by go_num, below_drewN HBJ.out _, HHGE.out⟩
         case measure => simp [intOf]; omega
    | true =>
     have hrp : RP f w9 N b1 b2 w.heap.size mm false M wr := ⟨V, hrf, hMb, hVb, hfr, by rw [← hms]; show 2 * _ + 0 < 2 * _ + 1; omega⟩
     have HRP := Lib.hid hrp
     have HINV := Lib.hid hinv.again
     clear hrp hinv hrf hMb hVb hfr hms
     go_upto_region 14 with fail
     go_loopw [12, 13] (fun sm sp wr => ∃ more M, ∃ pc : Nat, pc ≤ N ∧ sp = .int .i64 pc ∧ sm = .bool more ∧ RP f w9 N b1 b2 w.heap.size mm more M wr ∧ FInv p f M (PendAt more pc)) (fun _ i _ => N - (intOf i).toNat)
     case atStart => exact ⟨false, M, 0, Nat.zero_le _, rfl, rfl, HRP.out, HINV.out⟩
     case round =>
      obtain ⟨more, M, pc, hpc, rfl, rfl, hrp, hinv⟩ := hrel
      clear HRP HINV
      obtain ⟨V, hrf, hMb, hVb, hfr, hms⟩ := id hrp
      obtain ⟨⟨k0, k1, k2⟩, z4⟩ := HC9.out wr hfr
      by_cases hpl : pc < N
      case neg =>
       have hpe : pc = f.code.length := by have := HN.out; omega
       rw [hpe] at hinv
       have hfin : RSt p f w9 N b1 b2 w.heap.size (.bool more) wr (2 * pot f.slots.toNat M f.code.length + more.toNat) := ⟨more, M, V, rfl, hrf, hinv, hMb, hVb, hfr, rfl⟩
       have HFIN := Lib.hid hfin
       have HLAST := Lib.hid hms
       have hpn : ¬ (pc : Int) < (N : Int) := by omega
       clear hfin hrf hinv hMb hVb hfr hms hrp hpe
       go_wp2_with fail
       go_roundw
       case rel => exact ⟨_, HFIN.out⟩
       case measure => exact Nat.lt_of_le_of_lt (leastN_le HFIN.out) (Nat.lt_of_lt_of_eq HLAST.out HMMM.out.symm)
      have hplt : (pc : Int) < (N : Int) := by omega
      have i1 : IntKind.i64.wrap ((pc : Int) + 1) = (pc : Int) + 1 := IntWalk.i64_in _ (by have := HN64.out; omega)
      obtain ⟨q2, _⟩ := hrf.mark hpl
      obtain ⟨ca, cn, cc, q1, _, _, hcell⟩ := hrf.cell hpl
      have HPL := Lib.hid hpl
      cases hM : M pc with
      | none =>
       rw [hM] at q2
       have q2 : wr.cell? ⟨b2, pc, none⟩ = some (.bool false) := q2
       have HRP := Lib.hid hrp
       have HINV := Lib.hid (hinv.pass hM)
       clear hrp hinv hrf hMb hVb hfr hms hM hcell q1
       go_wp2_with fail
       go_roundw
       case rel => exact ⟨more, M, pc + 1, HPL.out, by go_num, rfl, HRP.out, HINV.out⟩
       case measure => simp [intOf]; omega
      | some K0 =>
       rw [hM] at q2
       have q2 : wr.cell? ⟨b2, pc, none⟩ = some (.bool true) := q2
       obtain ⟨hcn, hks, _⟩ := hcell K0 hM
       subst hcn
       have hpcl : pc < f.code.length := by rw [← HN.out]; exact hpl
       obtain ⟨i, hi⟩ : ∃ i, f.code[pc]? = some i := ⟨_, List.getElem?_eq_getElem hpcl⟩
       have hKl := (hinv.len pc K0 hM).2
       have hok := HSTEP.out pc i hi
       have hoB := HOB.out _ i K0 hok (hMb pc K0 hM)
       rw [← hKl] at hok
       have hrst := RST.out wr.drew (HB9.out _ (hfr.trans (Fr.of_below (Below.refl wr.heap.size wr).drew (WB b1 b2)) (fun _ _ h => h))) pc i hi V ca K0 cc (show IntSl wr.drew V ca K0 from hks) hok (hMb pc K0 hM) (by have := HST.out; have := HS16.out; have := HSN.out; omega)
       have hlow := fun (m : Nat) (hm : (m : Int) ∈ nextK i pc) (hml : m < f.code.length) => hinv.out hM hi (HIO.out pc i hi) hm hml
       have hol : (outK p f i K0).length = sN := by rw [outK_len, hKl, HST.out]
       have hbd : ∀ x ∈ nextK i (pc : Int), 0 ≤ x ∧ x ≤ (f.code.length : Int) := by
        have := HNI.out pc hpcl
        rw [show insAt f pc = i from by unfold insAt; rw [hi]; rfl] at this
        exact this
       have hnl := nextK_len i (pc : Int)
       have rnx := fun u => rnext_any u i pc (by have := HN64.out; omega)
       obtain ⟨NL, hNL⟩ : ∃ NL, NL = nextK i (pc : Int) := ⟨_, rfl⟩
       have hin : FInv p f M (PendIn more pc NL) := hinv.enter hi hNL
       have hcell2 := HCS.out pc hpcl
       obtain ⟨cb', co', ec, _, j0, j1, j2, j3⟩ := hcell2
       injection ec with ec
       injection ec with ec1 ec2
       subst ec1 ec2
       have hi2 := hi
       rw [List.getElem?_eq_getElem hpcl] at hi2
       injection hi2 with hi2
       rw [hi2] at j0 j1 j2 j3
       obtain ⟨OUT, hOUT⟩ : ∃ OUT, OUT = outK p f i K0 := ⟨_, rfl⟩
       rw [← hOUT] at hrst hoB hlow hol
       rw [← hNL] at hlow hbd hnl rnx
       have HJ := Lib.hid (show ∀ u, Below w.heap.size w u → u.cell? ⟨cb, co + pc * 4, none⟩ = some (.int .i64 i.op) ∧ u.cell? ⟨cb, co + pc * 4 + 1, none⟩ = some (.int .i64 i.a) ∧ u.cell? ⟨cb, co + pc * 4 + 2, none⟩ = some (.int .i64 i.b) ∧ u.cell? ⟨cb, co + pc * 4 + 3, none⟩ = some (.int .i64 i.c) from fun u h => ⟨below_cell h j0, below_cell h j1, below_cell h j2, below_cell h j3⟩)
       have HHOUT := Lib.hid hOUT
       have HI := Lib.hid hi
       have HOBB := Lib.hid hoB
       have HLOW := Lib.hid hlow
       have HOLL := Lib.hid hol
       have HBD := Lib.hid hbd
       have HNL := Lib.hid hnl
       have RNX := Lib.hid rnx
       have HRST := Lib.hid hrst
       have HRP := Lib.hid hrp
       have HIN := Lib.hid hin
       have HM0 := Lib.hid hM
       have HFR := Lib.hid hfr
       have HI1 := Lib.hid i1
       have HKS := Lib.hid hks
       have HR0 := Lib.hid (Below.refl wr.heap.size wr).drew
       clear hlow hol hbd hnl rnx hin hi hi2 hOUT hoB hrst hrp hinv hrf hMb hVb hms hM hcell hpcl hKl hok hNL j0 j1 j2 j3 i1 hks
       obtain ⟨iop, ia, ib, ic⟩ := i
       go_upto_region 17 with fail
       have hSd : wr.drew.cell? ⟨yb, 0, none⟩ = some (.slice a0 p.globals.length m0) ∧ wr.drew.cell? ⟨yb, 1, none⟩ = some (.slice a1 p.shapes.length m1) ∧ wr.drew.cell? ⟨yb, 2, none⟩ = some (.slice (some ⟨bb, o, none⟩) p.funcs.length m2) ∧ wr.drew.cell? ⟨b1, pc, none⟩ = some (.slice ca K0.length cc) := ⟨k0, k1, k2, q1⟩
       clear k0 k1 k2 q1 q2 z4
       go_region_held3 (fun w' => w'.cell? ⟨yb, 0, none⟩ = some (.slice a0 p.globals.length m0) ∧ w'.cell? ⟨yb, 1, none⟩ = some (.slice a1 p.shapes.length m1) ∧ w'.cell? ⟨yb, 2, none⟩ = some (.slice (some ⟨bb, o, none⟩) p.funcs.length m2) ∧ w'.cell? ⟨b1, pc, none⟩ = some (.slice ca K0.length cc)) (first | with_reducible exact hSd | with_reducible exact hS7 | go_keep) (first
        | (go_at_call 60
           refine HRST.out.mono ?_
           rintro e w17 ⟨og, on, rfl, ho17, hb17⟩
           obtain ⟨x0, x1, x2, x3⟩ := hSd
           have hS7 := And.intro (below_cell hb17 x0) (And.intro (below_cell hb17 x1) (And.intro (below_cell hb17 x2) (below_cell hb17 x3)))
           obtain ⟨oa', oc', hov, hos⟩ := own_int ho17
           injection hov with ov1 ov2 ov3
           subst ov1 ov3
           subst ov2
           have HOS := Lib.hid (hos.wide (D' := fun k => wr.heap.size ≤ k ∧ k < w17.heap.size) (fun k hk => ho17.lt hk))
           have HB17 := Lib.hid (HR0.out.trans (hb17.mono HR0.out.size))
           clear ho17 hb17 hos x0 x1 x2 x3))
       clear hS7
       have hfr17 : Fr (WB b1 b2) w9 w17 := HFR.out.trans (Fr.of_below HB17.out (WB b1 b2)) (fun _ _ h => h)
       obtain ⟨⟨k0, k1, k2⟩, z4⟩ := HC9.out w17 hfr17
       obtain ⟨j0, j1, j2, j3⟩ := HJ.out w17 (HB9.out w17 hfr17)
       try dsimp only at j0 j1 j2 j3
       have HFR17 := Lib.hid hfr17
       clear hfr17
       go_wp2_with fail
       refine (RNX.out _).mono ?_
       rintro e w18 ⟨v18, rfl, ho18, hb18⟩
       obtain ⟨na, nc, rfl, hns⟩ := own_int ho18
       have HNS := Lib.hid (hns.wide (D' := fun k => w17.heap.size ≤ k) (fun k hk => (ho18.lt hk).1))
       have HB18 := Lib.hid (HB17.out.trans (hb18.mono HB17.out.size))
       have HOS := Lib.hid (HOS.out.fr (Fr.of_below hb18 (fun _ => False)) (fun _ _ h => h))
       have HS1718 := Lib.hid hb18.size
       have HFR18 := Lib.hid (HFR17.out.trans (Fr.of_below hb18 (WB b1 b2)) (fun _ _ h => h))
       have HRP18 := Lib.hid (HRP.out.below HB18.out)
       have HSWR := Lib.hid HFR.out.size
       clear ho18 hb18 hns k0 k1 k2 z4 j0 j1 j2 j3 HRP HFR17
       go_upto_region 20 with fail
       generalize wr = w13 at *
       go_loopw [12, 17] (fun sm sk wr => ∃ more2 M2, ∃ k : Nat, k ≤ NL.length ∧ sk = .int .i64 k ∧ sm = .bool more2 ∧ RP f w9 N b1 b2 w.heap.size mm more2 M2 wr ∧ FInv p f M2 (PendIn more2 pc (NL.drop k)) ∧ (more2 = true ∨ M2 pc = some K0) ∧ Fr (WB b1 b2) w18 wr) (fun _ i _ => NL.length - (intOf i).toNat)
       case atStart => exact ⟨more, M, 0, Nat.zero_le _, rfl, rfl, HRP18.out, HIN.out, .inr HM0.out, Fr.refl _ _⟩
       case round =>
        obtain ⟨more2, M2, k, hk, rfl, rfl, hrp, hinv, h0, hfr⟩ := hrel
        have hfr9 := HFR18.out.trans hfr (fun _ _ h => h)
        obtain ⟨_, z4⟩ := HC9.out wr hfr9
        by_cases hkl : k < NL.length
        case neg =>
         have hk' : k = NL.length := by omega
         rw [hk', List.drop_length] at hinv
         have HRP := Lib.hid hrp
         have HINV := Lib.hid hinv.leave
         have i1 := HI1.out
         have hkn : ¬ (k : Int) < (NL.length : Int) := by omega
         clear hrp hinv h0 hfr hfr9 hk' hk
         go_wp2_with fail
         go_roundw
         case rel => exact ⟨more2, M2, pc + 1, HPL.out, by go_num, rfl, HRP.out, HINV.out⟩
         case measure => simp [intOf]; omega
        obtain ⟨nb, no, rfl, hnb, hx⟩ := HNS.out k hkl
        have hbl := HBLT.out
        have hwbn : ∀ q, w9.heap.size ≤ q → ¬ WB b1 b2 q := fun q hq e => by unfold WB at e; omega
        have h917 := HSWR.out
        have h1718 := HB17.out.size
        replace hx := hfr.cell hx (hwbn nb (by omega))
        have hmem := List.getElem_mem hkl
        obtain ⟨hx0, hxN⟩ := HBD.out _ hmem
        obtain ⟨m, hme⟩ : ∃ m : Nat, NL[k] = (m : Int) := ⟨NL[k].toNat, by omega⟩
        rw [List.drop_eq_getElem_cons hkl, hme] at hinv
        rw [hme] at hx hmem hxN
        have hklt : (k : Int) < (NL.length : Int) := by omega
        have hnll := HNL.out
        have i1 : IntKind.i64.wrap ((k : Int) + 1) = (k : Int) + 1 := IntWalk.i64_in _ (by omega)
        have HKL := Lib.hid hkl
        clear hme hx0 hnll
        by_cases hmN : m < N
        case neg =>
         have hmn : (N : Int) ≤ (m : Int) := by omega
         have HRP := Lib.hid hrp
         have HINV := Lib.hid (hinv.beyond (by have := HN.out; omega))
         have HH0 := Lib.hid h0
         have HFF2 := Lib.hid hfr
         clear hrp hinv h0 hfr hfr9 hkl hmem hwbn
         go_wp2_with fail
         go_roundw
         case rel => exact ⟨more2, M2, k + 1, HKL.out, by go_num, rfl, HRP.out, HINV.out, HH0.out, HFF2.out⟩
         case measure => simp [intOf]; omega
        have hmn : ¬ (N : Int) ≤ (m : Int) := by omega
        have hmlt : (m : Int) < (N : Int) := by omega
        have hmc : m < f.code.length := by rw [← HN.out]; exact hmN
        have hlowm := HLOW.out m hmem hmc
        have hOUTl : OUT.length = f.slots.toNat := by rw [HOLL.out, HST.out]
        obtain ⟨V2, hrf, hMb, hVb, _, _⟩ := id hrp
        obtain ⟨q2, q2f⟩ := hrf.mark hmN
        obtain ⟨ta, tn, tc, q1, q1f, _, hcell⟩ := hrf.cell hmN
        have hosr := HOS.out.fr hfr (fun q hq => hwbn q (by omega))
        have hDO : ∀ q, (w13.heap.size ≤ q ∧ q < w17.heap.size) → w.heap.size ≤ q ∧ q ≠ b1 ∧ q ≠ b2 ∧ q < wr.heap.size := fun q hq => by
         have h1 := hfr.size
         have h2 := (HB9.out _ (Fr.refl _ _)).size
         have h3 := HS1718.out
         exact ⟨by omega, by omega, by omega, by omega⟩
        cases hM2 : M2 m with
        | none =>
         rw [hM2] at q2
         have q2 : wr.cell? ⟨b2, m, none⟩ = some (.bool false) := q2
         have hrp2 := hrp.new (c := sN) HN.out hmN hOUTl HOBB.out hM2 hosr hDO
         rw [HOLL.out] at hrp2
         have hinv2 := hinv.turned hmc hOUTl hlowm (NL.drop (k + 1))
         have hf1 := (Fr.refl (onB b1) wr).setCell (p := ⟨b1, m, none⟩) (fun _ => rfl) (.slice (some ⟨og, 0, none⟩) sN sN)
         have hne12 : ¬ onB b1 b2 := fun e => by unfold onB at e; exact HBLO.out.2.2 e.symm
         have q2' : (wr.setCell ⟨b1, m, none⟩ (.slice (some ⟨og, 0, none⟩) sN sN)).cell? ⟨b2, m, none⟩ = some (.bool false) := hf1.cell q2 hne12
         obtain ⟨I, hI, _⟩ := hrf.marks
         have q2f' : (wr.setCell ⟨b1, m, none⟩ (.slice (some ⟨og, 0, none⟩) sN sN)).frozen? ⟨b2, m, none⟩ = false := (row_cell (hf1.heap hI hne12) m).2
         have hfrn := (hfr.trans (wb_set (b1 := b1) (b2 := b2) (q := m) wr b1 (.inl rfl) (.slice (some ⟨og, 0, none⟩) sN sN)) (fun _ _ h => h)).trans (wb_set (b1 := b1) (b2 := b2) (q := m) _ b2 (.inr rfl) (.bool true)) (fun _ _ h => h)
         have HRP := Lib.hid hrp2
         have HINV := Lib.hid hinv2
         have HFF2 := Lib.hid hfrn
         clear hrp hrp2 hinv hinv2 h0 hfr hfr9 hkl hmem hwbn hlowm hrf hMb hVb hcell hosr hDO hf1 hne12 hI hfrn hM2
         rw [HOLL.out]
         go_wp2_with fail
         go_roundw
         case rel => exact ⟨true, _, k + 1, HKL.out, by go_num, rfl, HRP.out, HINV.out, .inl rfl, HFF2.out⟩
         case measure => simp [intOf]; omega
        | some was =>
         rw [hM2] at q2
         have q2 : wr.cell? ⟨b2, m, none⟩ = some (.bool true) := q2
         obtain ⟨htn, hts, _⟩ := hcell was hM2
         subst htn
         have hwl := (hinv.len m was hM2).2
         have hsl : was.length = sN := by rw [hwl, HST.out]
         have hs16 : sN ≤ 16 := by have := HS16.out; have := HSN.out; omega
         have jn := rjoin_any wr _ _ ta (some ⟨og, 0, none⟩) was OUT tc OUT.length hts hosr (by omega) (by rw [HOLL.out]; omega)
         have HJN := Lib.hid jn
         have HTS := Lib.hid hts
         have HRP := Lib.hid hrp
         have HINV := Lib.hid hinv
         have HH0 := Lib.hid h0
         have HFF2 := Lib.hid hfr
         have HM2 := Lib.hid hM2
         have HLM := Lib.hid hlowm
         have HWL := Lib.hid hwl
         have HOUL := Lib.hid hOUTl
         have HV2 := Lib.hid hrf.v
         have HSL := Lib.hid hsl
         clear hsl jn hts hrp hinv h0 hfr hM2 hlowm hwl hOUTl hcell hosr hDO hrf hMb hVb hwbn hkl hmem
         go_wp2_with fail
         refine HJN.out.mono ?_
         rintro e w20 ⟨v20, rfl, ho20, hb20⟩
         obtain ⟨ja, jc, rfl, hjs⟩ := own_int ho20
         have HJSOME := Lib.hid (show joinL was OUT ≠ was → ∃ a, ja = some a from fun hne => by
          have hpos : 0 < (joinL was OUT).length := by
           rcases Nat.eq_zero_or_pos (joinL was OUT).length with h0 | h0
           ·rw [joinL_len] at h0
            have h1 : was.length = 0 := by have := HOLL.out; have := HSL.out; omega
            have h2 := List.length_eq_zero_iff.1 h1
            subst h2
            exact absurd (List.length_eq_zero_iff.1 (by rw [joinL_len]; simp)) hne
           ·exact h0
          obtain ⟨_, _, e, _⟩ := hjs 0 hpos
          exact ⟨_, e⟩)
         have hb20' := (Below.refl wr.heap.size wr).trans (hb20.mono (Nat.le_refl _))
         have q1' := below_cell hb20 q1
         have hJl : (joinL was OUT).length = sN := by have := HSL.out; rw [joinL_len, HOLL.out]; omega
         have hsl := HSL.out
         have heq := rints_any w20 _ _ ja ta (joinL was OUT) was jc tc hjs (HTS.out.fr (Fr.of_below hb20 (fun _ => False)) (fun _ _ h => h)) (by omega) (by omega)
         have HEQ := Lib.hid heq
         have HJS := Lib.hid (hjs.wide (D' := fun q => wr.heap.size ≤ q ∧ q < w20.heap.size) (fun q hq => ho20.lt hq))
         have HRP20 := Lib.hid (HRP.out.below hb20)
         have HFF20 := Lib.hid (HFF2.out.trans (Fr.of_below hb20 (WB b1 b2)) (fun _ _ h => h))
         have HS20 := Lib.hid hb20.size
         have HWS := Lib.hid (show w.heap.size ≤ wr.heap.size from (HB9.out wr hfr9).size)
         have hbll := HBLT.out
         have HBLW := Lib.hid (show b1 < wr.heap.size ∧ b2 < wr.heap.size from by have := hfr9.size; exact ⟨by omega, by omega⟩)
         clear hJl hsl heq hjs ho20 hb20 hb20' q1 q2 z4 hx hfr9 hbll hbl h917 h1718
         go_wp2_with fail
         refine HEQ.out.mono ?_
         by_cases hJ : joinL was OUT = was
         ·rw [show decide (joinL was OUT = was) = true from by simp [hJ]]
          have hinv2 := HINV.out.still HH0.out HI.out hmc (by rw [← HHOUT.out]; exact HOUL.out) (by rw [← HHOUT.out]; exact HLM.out) (by rw [← HHOUT.out]; exact fun hc => hc was HM2.out hJ)
          have HINV2 := Lib.hid hinv2
          clear hinv2
          rintro e w21 ⟨rfl, n21, rfl⟩
          have HRP21 := Lib.hid (HRP20.out.below (below_drewN (Below.refl w20.heap.size w20) n21))
          have HFF21 := Lib.hid (HFF20.out.trans (Fr.of_below (below_drewN (Below.refl w20.heap.size w20) n21) (WB b1 b2)) (fun _ _ h => h))
          clear hJ
          go_wp2_with fail
          go_roundw
          case rel => exact ⟨more2, M2, k + 1, HKL.out, by go_num, rfl, HRP21.out, HINV2.out, HH0.out, HFF21.out⟩
          case measure => simp [intOf]; omega
         ·rw [show decide (joinL was OUT = was) = false from by simp [hJ]]
          obtain ⟨ja', hja⟩ := HJSOME.out hJ
          subst hja
          rintro e w21 ⟨rfl, n21, rfl⟩
          have hrp21 := HRP20.out.below (below_drewN (Below.refl w20.heap.size w20) n21)
          have hjs21 : IntSl (w20.drewN n21) _ (some ja') (joinL was OUT) := HJS.out
          have q1'' : (w20.drewN n21).cell? ⟨b1, m, none⟩ = some (.slice ta was.length tc) := q1'
          have hsz21 : (w20.drewN n21).heap.size = w20.heap.size := rfl
          obtain ⟨w21, hw21⟩ : ∃ w21, w21 = w20.drewN n21 := ⟨_, rfl⟩
          have hff21 := HFF20.out.trans (Fr.of_below (below_drewN (Below.refl w20.heap.size w20) n21) (WB b1 b2)) (fun _ _ h => h)
          rw [← hw21] at hrp21 hjs21 q1'' hsz21 hff21 ⊢
          clear hw21
          have hrp2 := hrp21.join (c := jc) HN.out hmN HOUL.out HOBB.out HM2.out HWL.out hJ hjs21 (fun q hq => by
           have h1 := HWS.out
           have h2 := HBLW.out
           exact ⟨by omega, by omega, by omega, by omega⟩)
          obtain ⟨V3, hrf3, _⟩ := id hrp21
          obtain ⟨R3, hR3, _⟩ := hrf3.rows
          have q1f' := (row_cell hR3 m).2
          have hinv2 := HINV.out.turned hmc HOUL.out HLM.out (NL.drop (k + 1))
          have hffn := hff21.trans (wb_set (b1 := b1) (b2 := b2) (q := m) w21 b1 (.inl rfl) (.slice (some ja') (joinL was OUT).length jc)) (fun _ _ h => h)
          have HRP2 := Lib.hid hrp2
          have HINV2 := Lib.hid hinv2
          have HFF2N := Lib.hid hffn
          clear hrp21 hjs21 hsz21 hff21 hrp2 hrf3 hR3 hinv2 hffn hJ q1'
          go_wp2_with fail
          go_roundw
          case rel => exact ⟨true, _, k + 1, HKL.out, by go_num, rfl, HRP2.out, HINV2.out, .inl rfl, HFF2N.out⟩
          case measure => simp [intOf]; omega
end Go.Proofs.YtjcjhfnjamphlaaGreat
