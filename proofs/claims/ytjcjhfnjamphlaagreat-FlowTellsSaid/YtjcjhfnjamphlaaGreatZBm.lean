import Derived.Test.YtjcjhfnjamphlaaGreatZBd
import Derived.Test.YtjcjhfnjamphlaaGreatZAy
import Derived.Test.YtjcjhfnjamphlaaGreatZBg
set_option linter.unusedVariables false
set_option linter.unusedSimpArgs false
namespace Go.Proofs.YtjcjhfnjamphlaaGreat
open Go.ChangeShapes Go.WideShapes Go.ChangeAt Go.RowKit
theorem lead_out {loc : Bool} {base x : Int} (hb : base = if loc then 64 else 16) (h : ¬ (base ≤ x ∧ x < base + 16)) : leadA loc x = none := by
 unfold leadA isLocB isPtrB
 cases loc
 ·rw [if_neg (by simp)] at hb
  simp
  omega
 ·rw [if_pos rfl] at hb
  simp
  omega
theorem lead_in {loc : Bool} {base x : Int} (hb : base = if loc then 64 else 16) (h : base ≤ x ∧ x < base + 16) : leadA loc x = some (x - base) := by
 unfold leadA isLocB isPtrB
 cases loc
 ·rw [if_neg (by simp)] at hb
  subst hb
  simp
  omega
 ·rw [if_pos rfl] at hb
  subst hb
  simp
  omega
set_option maxRecDepth 100000 in
set_option maxHeartbeats 1600000 in
theorem rfieldF_any (w : World) (D : Nat → Prop) (p : Prg) (c0 c1 c2 : Value) (hv : PrgVal w D p c0 c1 c2) (hq : PrgR p) (loc : Bool) (base x k : Int) (hx : i64B x) (hb : base = if loc then 64 else 16) :
  Calls Tryz.prog 87 #[.agg #[c0, c1, c2], .int .i64 x, .int .i64 base, .int .i64 k] w fun e w' => e = .returned (.int .i64 (thrV p (leadA loc x) k)) ∧ Below w.heap.size w w' := by
 have hbb : base = 64 ∨ base = 16 := by cases loc <;> simp_all
 have hsl := hq.2.1
 obtain ⟨x1, x2⟩ := hx
 obtain ⟨⟨a0, m0, rfl, _⟩, ⟨a1, m1, rfl, hsh⟩, a2, m2, rfl, _⟩ := hv
 have hB := (Below.refl w.heap.size w).alloc (Nat.le_refl _) (.cells #[.slice a0 p.globals.length m0, .slice a1 p.shapes.length m1, .slice a2 p.funcs.length m2] 26)
 have hl := heap_new w (.cells #[.slice a0 p.globals.length m0, .slice a1 p.shapes.length m1, .slice a2 p.funcs.length m2] 26)
 obtain ⟨W, hW⟩ : ∃ W, W = w.alloc (.cells #[.slice a0 p.globals.length m0, .slice a1 p.shapes.length m1, .slice a2 p.funcs.length m2] 26) := ⟨_, rfl⟩
 rw [← hW] at hB hl
 have k1 : W.cell? ⟨w.heap.size, 1, none⟩ = some (.slice a1 p.shapes.length m1) := (row_cell hl 1).1
 have HB := Lib.hid hB
 have HW := Lib.hid hW
 by_cases hin : base ≤ x ∧ x < base + 16
 ·rw [lead_in hb hin]
  obtain ⟨d, hd⟩ : ∃ d : Nat, x - base = (d : Int) := ⟨(x - base).toNat, by omega⟩
  have i1 : IntKind.i64.wrap (x - base) = (d : Int) := by rw [← hd]; exact IntWalk.i64_in _ (by omega)
  have hd16 : (d : Int) < 16 := by omega
  show Calls _ _ _ _ fun e w' => e = .returned (.int .i64 (fieldA p (x - base) k)) ∧ _
  rw [hd]
  have hg0 : ¬ (d : Int) < 0 := by omega
  have hg16 : ¬ (16 : Int) ≤ (d : Int) := by omega
  clear hin hb hd
  by_cases hj : p.shapes.length ≤ d
  ·have e0 : fieldA p (d : Int) k = 0 := by unfold fieldA; rw [if_neg (by omega)]
   rw [e0]
   have hlt : (p.shapes.length : Int) ≤ (d : Int) := by omega
   clear hsh hl hB hW
   go_enter Tryz.func87, Tryz.ntmps87
   go_upto_region 1 with fail
   rw [← HW.out]
   go_wp2_with fail
   go_ret
   exact ⟨rfl, HB.out⟩
  obtain ⟨sb, so, rfl, _, a', c', hx, hy⟩ := hsh d (by omega)
  replace hx := below_cell hB hx
  have hlt : ¬ (p.shapes.length : Int) ≤ (d : Int) := by omega
  have hlt' : (d : Int) < (p.shapes.length : Int) := by omega
  by_cases h0 : k < 0
  ·have e0 : fieldA p (d : Int) k = 0 := by unfold fieldA; rw [if_neg (by omega)]
   rw [e0]
   clear hy hsh hl hB hW hx
   go_enter Tryz.func87, Tryz.ntmps87
   go_upto_region 1 with fail
   rw [← HW.out]
   go_wp2_with fail
   go_ret
   exact ⟨rfl, HB.out⟩
  obtain ⟨m, rfl⟩ : ∃ m : Nat, k = m := ⟨k.toNat, by omega⟩
  have hL : (p.shapes[(d : Int).toNat]?).getD [] = p.shapes[d] := by simp [show d < p.shapes.length by omega]
  obtain ⟨S, hS⟩ : ∃ S, S = p.shapes[d] := ⟨_, rfl⟩
  rw [← hS] at hL hx hy
  clear hS
  by_cases hm : m < S.length
  ·have e0 : fieldA p (d : Int) (m : Int) = S[m] := by
    unfold fieldA
    rw [hL, if_pos ⟨by omega, by omega, by omega⟩]
    simp [hm]
   rw [e0]
   obtain ⟨mb, mo, rfl, _, hz⟩ := hy m hm
   replace hz := below_cell hB hz
   have hlt2 : ¬ (S.length : Int) ≤ (m : Int) := by omega
   have hlt3 : (m : Int) < (S.length : Int) := by omega
   clear hL hy hsh e0 hl hB hW
   generalize S[m] = xx at *
   clear hm
   generalize S.length = n2 at *
   go_enter Tryz.func87, Tryz.ntmps87
   go_upto_region 1 with fail
   rw [← HW.out]
   go_wp2_with fail
   go_ret
   exact ⟨rfl, HB.out⟩
  ·have e0 : fieldA p (d : Int) (m : Int) = 0 := by
    unfold fieldA
    rw [hL, if_neg (by omega)]
   rw [e0]
   have hlt2 : (S.length : Int) ≤ (m : Int) := by omega
   clear hL hy hsh e0 hm hl hB hW
   generalize S.length = n2 at *
   go_enter Tryz.func87, Tryz.ntmps87
   go_upto_region 1 with fail
   rw [← HW.out]
   go_wp2_with fail
   go_ret
   exact ⟨rfl, HB.out⟩
 ·rw [lead_out hb hin]
  show Calls _ _ _ _ fun e w' => e = .returned (.int .i64 0) ∧ _
  obtain ⟨s, i1, hs⟩ : ∃ s, IntKind.i64.wrap (x - base) = s ∧ (s < 0 ∨ 16 ≤ s) := by
   by_cases hu : x - base < -9223372036854775808
   ·refine ⟨x - base + 18446744073709551616, ?_, .inr (by omega)⟩
    rw [IntKind.wrap_i64]; omega
   ·exact ⟨x - base, IntWalk.i64_in _ (by omega), by omega⟩
  clear hl hB hW hin hb hsh
  rcases hs with h1 | h1
  ·skip
   go_enter Tryz.func87, Tryz.ntmps87
   go_upto_region 1 with fail
   rw [← HW.out]
   go_wp2_with fail
   go_ret
   exact ⟨rfl, HB.out⟩
  ·have h0 : ¬ s < 0 := by omega
   by_cases h2 : (p.shapes.length : Int) ≤ s
   ·skip
    go_enter Tryz.func87, Tryz.ntmps87
    go_upto_region 1 with fail
    rw [← HW.out]
    go_wp2_with fail
    go_ret
    exact ⟨rfl, HB.out⟩
   ·skip
    go_enter Tryz.func87, Tryz.ntmps87
    go_upto_region 1 with fail
    rw [← HW.out]
    go_wp2_with fail
    go_ret
    exact ⟨rfl, HB.out⟩
end Go.Proofs.YtjcjhfnjamphlaaGreat
namespace Go.Proofs.YtjcjhfnjamphlaaGreat
open Go.ChangeShapes Go.WideShapes Go.ChangeAt Go.RowKit
def midK (p : Prg) (f : Fun) (i : Ins) (K : List Int) : List Int :=
 if i.op = 26 then (if writesK p i then K.set i.a.toNat (setsK p f i K) else K).set i.b.toNat 16 else (if writesK p i then K.set i.a.toNat (setsK p f i K) else K)
theorem outK_mid (p : Prg) (f : Fun) (i : Ins) (K : List Int) : outK p f i K = if readsK p f.result i K = false ∧ writesK p i = true then (midK p f i K).set i.a.toNat 0 else midK p f i K := by
 unfold outK midK
 by_cases h : i.op = 26
 ·have hr : readsK p f.result i K = true := by simp [readsK, h]
  rw [if_pos h, if_pos h, hr]
  simp
 ·rw [if_neg h, if_neg h]
  cases hr : readsK p f.result i K <;> cases hw : writesK p i <;> simp
theorem midK_len (p : Prg) (f : Fun) (i : Ins) (K : List Int) : (midK p f i K).length = K.length := by
 unfold midK
 split <;> split <;> simp
theorem once2 (x y : Int) : x ∈ onceL [x, y] ∧ y ∈ onceL [x, y] := by
 unfold onceL
 simp only [List.foldl]
 by_cases h : y = x <;> simp [h]
theorem StepOk.useB {p : Prg} {f : Fun} {i : Ins} {n : Nat} (h : StepOk p f i n) (ho : i.op = 2 ∨ i.op = 12 ∨ i.op = 14 ∨ i.op = 17 ∨ i.op = 19 ∨ i.op = 25 ∨ (3 ≤ i.op ∧ i.op ≤ 8)) : 0 ≤ i.b ∧ i.b < n := by
 refine h.used _ ?_
 have h0 := once2 i.b i.c
 have h1 := once2 i.a i.b
 have ho : i.op = 2 ∨ i.op = 12 ∨ i.op = 14 ∨ i.op = 17 ∨ i.op = 19 ∨ i.op = 25 ∨ i.op = 3 ∨ i.op = 4 ∨ i.op = 5 ∨ i.op = 6 ∨ i.op = 7 ∨ i.op = 8 := by omega
 unfold readsL
 rcases ho with e | e | e | e | e | e | e | e | e | e | e | e <;> rw [e] <;> simp [h0, h1]
theorem StepOk.useC {p : Prg} {f : Fun} {i : Ins} {n : Nat} (h : StepOk p f i n) (ho : i.op = 15 ∨ i.op = 20 ∨ (3 ≤ i.op ∧ i.op ≤ 8)) : 0 ≤ i.c ∧ i.c < n := by
 refine h.used _ ?_
 have h0 := once2 i.b i.c
 have h1 := once2 i.a i.c
 have ho : i.op = 15 ∨ i.op = 20 ∨ i.op = 3 ∨ i.op = 4 ∨ i.op = 5 ∨ i.op = 6 ∨ i.op = 7 ∨ i.op = 8 := by omega
 unfold readsL
 rcases ho with e | e | e | e | e | e | e | e <;> rw [e] <;> simp [h0, h1]
theorem StepOk.useA {p : Prg} {f : Fun} {i : Ins} {n : Nat} (h : StepOk p f i n) (ho : i.op = 10 ∨ i.op = 29 ∨ i.op = 15 ∨ i.op = 20 ∨ i.op = 25) : 0 ≤ i.a ∧ i.a < n := by
 refine h.used _ ?_
 have h0 := once2 i.a i.b
 have h1 := once2 i.a i.c
 unfold readsL
 rcases ho with e | e | e | e | e <;> rw [e] <;> simp [h0, h1]
theorem own_at {w : World} {B g n m : Nat} {K : List Int} (h : Own intE w B (.slice (some ⟨g, 0, none⟩) n m) K) (k : Nat) (hk : k < K.length) :
  w.cell? ⟨g, k, none⟩ = some (.int .i64 ((K[k]?).getD 0)) ∧ w.frozen? ⟨g, k, none⟩ = false ∧ B ≤ g ∧ ∀ x, Own intE (w.setCell ⟨g, k, none⟩ (.int .i64 x)) B (.slice (some ⟨g, 0, none⟩) n m) (K.set k x) := by
 obtain ⟨g', c, e, h1, h2, h3, h4⟩ := own_put h k hk
 injection e with e1 e2 e3
 injection e1 with e1
 injection e1 with e1
 subst e1
 exact ⟨by rw [h2]; simp [hk], h3, h1, h4⟩
set_option maxRecDepth 100000 in
theorem rIsPtr_any (w : World) (x : Int) : Calls Tryz.prog 10 #[.int .i64 x] w fun e w' => e = .returned (.bool (isPtrB x)) ∧ w = w' := by
 by_cases h1 : 16 ≤ x
 ·by_cases h2 : x < 32
  ·rw [show isPtrB x = true from by unfold isPtrB; simp [h1, h2]]
   go_enter Tryz.func10, Tryz.ntmps10
   go_wp2_with fail
   go_ret
   exact ⟨rfl, rfl⟩
  ·rw [show isPtrB x = false from by unfold isPtrB; simp [h1, h2]]
   go_enter Tryz.func10, Tryz.ntmps10
   go_wp2_with fail
   go_ret
   exact ⟨rfl, rfl⟩
 ·rw [show isPtrB x = false from by unfold isPtrB; simp [h1]]
  go_enter Tryz.func10, Tryz.ntmps10
  go_wp2_with fail
  go_ret
  exact ⟨rfl, rfl⟩
def RStepPostS (R : Bool) (OUT : List Int) (w : World) (e : Ending) (w' : World) : Prop := ∃ g n, e = .returned (.tuple #[.slice (some ⟨g, 0, none⟩) n n, .bool R]) ∧ Own intE w' w.heap.size (.slice (some ⟨g, 0, none⟩) n n) OUT ∧ Below w.heap.size w w'
theorem wr_yes (w : World) (op a b c : Int) (h : writesS op = true) : Calls Tryz.prog 88 #[.agg #[.int .i64 op, .int .i64 a, .int .i64 b, .int .i64 c]] w fun e w' => e = .returned (.tuple #[.int .i64 a, .bool true]) ∧ Below w.heap.size w w' := by
 have h1 := rwr_any w op a b c
 rw [h] at h1
 exact h1
theorem wr_no (w : World) (op a b c : Int) (h : writesS op = false) : Calls Tryz.prog 88 #[.agg #[.int .i64 op, .int .i64 a, .int .i64 b, .int .i64 c]] w fun e w' => e = .returned (.tuple #[.int .i64 0, .bool false]) ∧ Below w.heap.size w w' := by
 have h1 := rwr_any w op a b c
 rw [h] at h1
 exact h1
end Go.Proofs.YtjcjhfnjamphlaaGreat
