import Derived.Test.YthkhgihjigmkoaaGreatCAo
import Derived.Test.YthkhgihjigmkoaaGreatCAm
set_option linter.unusedVariables false
set_option linter.unusedSimpArgs false
namespace Go.Proofs.YthkhgihjigmkoaaGreat.Tk
open Go.ChangeShapes Go.WideShapes Go.ChangeAt Go.RowKit Go.Maps
theorem snoc_cases {α : Type} (l : List α) : l = [] ∨ ∃ k x, l = k ++ [x] := by
 rcases List.eq_nil_or_concat l with h | ⟨k, x, h⟩
 ·exact .inl h
 ·exact .inr ⟨k, x, by rw [h, List.concat_eq_append]⟩
def unwN (A : List Alarm) : Bool := match A.getLast? with | none => false | some x => x.run == 0
theorem unwN_nil : unwN [] = false := rfl
theorem unwN_snoc (A : List Alarm) (x : Alarm) : unwN (A ++ [x]) = (x.run == 0) := by unfold unwN; rw [List.getLast?_concat]
set_option maxRecDepth 100000 in
theorem unwinds_any (w : World) (a : Option Addr) (n c : Nat) (B : Nat) (av : Value) (A : List Alarm) (h : Own alarmE w B av A) (hl : A.length ≤ 100000) :
  Calls Tryz.prog 118 #[.agg #[.slice a n c, av]] w fun e w' => e = .returned (.bool (unwN A)) ∧ Below w.heap.size w w' := by
 rcases snoc_cases A with rfl | ⟨A, x, rfl⟩
 ·obtain ⟨a', n', c', rfl⟩ := h.slice
  obtain rfl : n' = 0 := by
   obtain ⟨_, _, he, _⟩ := own_elems h
   injection he
  have la := fun w => last_nil w a n c a' c'
  rw [unwN_nil]
  clear h
  have LA := Lib.hid la; clear la
  go_enter Tryz.func118, Tryz.ntmps118
  go_wp2_with fail
  refine (LA.out _).mono ?_
  rintro e w1 ⟨rfl, hb⟩
  have HB := Lib.hid (((Below.refl w.heap.size w).alloc (Nat.le_refl _) (.cells #[.slice a n c, .slice a' 0 c'] 95)).trans (hb.mono (by simp)))
  clear hb
  go_wp2_with fail
  go_ret
  exact ⟨rfl, HB.out.alloc HB.out.size _⟩
 ·have la := fun wx (hx : Below w.heap.size w wx) => last_some wx a n c B av A x (h.below hx) (by simp at hl; omega)
  obtain ⟨a', n', c', rfl⟩ := h.slice
  rw [unwN_snoc]
  have hb0 := (Below.refl w.heap.size w).alloc (Nat.le_refl _) (.cells #[.slice a n c, .slice a' n' c'] 95)
  clear h
  obtain ⟨x1, x2, x3, x4, x5⟩ := x
  have LA := Lib.hid la; clear la
  have HB0 := Lib.hid hb0; clear hb0
  go_enter Tryz.func118, Tryz.ntmps118
  go_wp2_with fail
  refine (LA.out _ HB0.out).mono ?_
  rintro e w1 ⟨rfl, hb⟩
  have HB := Lib.hid (HB0.out.trans (hb.mono HB0.out.size))
  clear hb
  go_wp2_with fail
  go_ret
  exact ⟨rfl, HB.out.alloc HB.out.size _⟩
def nextU (M : List Mark) (A : List Alarm) : Int := match M.getLast? with
 | none => (match A.getLast? with | none => 3 | some x => if x.exit = false then 4 else 3)
 | some m => if unwN A = false ∧ m.leaving = false then 0 else if 0 < m.thunks then 1 else 2
theorem nextU_snoc (M : List Mark) (m : Mark) (A : List Alarm) : nextU (M ++ [m]) A = if unwN A = false ∧ m.leaving = false then 0 else if 0 < m.thunks then 1 else 2 := by unfold nextU; rw [List.getLast?_concat]
theorem nextU_nil (A : List Alarm) (x : Alarm) : nextU [] (A ++ [x]) = if x.exit = false then 4 else 3 := by unfold nextU; rw [List.getLast?_concat]; rfl
set_option maxRecDepth 100000 in
set_option maxHeartbeats 1600000 in
theorem stNext_any (w : World) (B : Nat) (v : Value) (M : List Mark) (h : Own markE w B v M) (hl : M.length ≤ 100000) (B2 : Nat) (av : Value) (A : List Alarm) (ha : Own alarmE w B2 av A) (hla : A.length ≤ 100000) :
  Calls Tryz.prog 89 #[.agg #[v, av]] w fun e w' => e = .returned (.int .i64 (nextU M A)) ∧ Below w.heap.size w w' := by
 rcases snoc_cases M with rfl | ⟨l, m, rfl⟩
 ·obtain ⟨a, n, c, rfl⟩ := h.slice
  obtain rfl : n = 0 := by
   obtain ⟨_, _, he, _⟩ := own_elems h
   injection he
  clear h
  rcases snoc_cases A with rfl | ⟨A, x, rfl⟩
  ·obtain ⟨a', n', c', rfl⟩ := ha.slice
   obtain rfl : n' = 0 := by
    obtain ⟨_, _, he, _⟩ := own_elems ha
    injection he
   have la := fun wx (_ : Below w.heap.size w wx) => last_nil wx a 0 c a' c'
   clear ha
   have tp := fun w => stTop_nil w a c a' 0 c'
   have TP := Lib.hid tp; clear tp
   have LA := Lib.hid la; clear la
   go_enter Tryz.func89, Tryz.ntmps89
   go_wp2_with fail
   refine (TP.out _).mono ?_
   rintro e w1 ⟨rfl, hb⟩
   obtain ⟨k0, hb1, hz⟩ := box1 w _ _ w1 (hb.mono (by simp))
   have j0 := k0 0 _ rfl
   have j1 := k0 1 _ rfl
   have j0 := below_cell ((Below.refl w1.heap.size w1).alloc (Nat.le_refl _) (.cells #[.bool false, .bool false, .int .i64 0] 152)) j0
   have j1 := below_cell ((Below.refl w1.heap.size w1).alloc (Nat.le_refl _) (.cells #[.bool false, .bool false, .int .i64 0] 152)) j1
   have HB := Lib.hid (hb1.alloc hb1.size (.cells #[.bool false, .bool false, .int .i64 0] 152))
   clear hb hb1 k0
   go_wp2_with fail
   refine (LA.out _ HB.out).mono ?_
   rintro e w2 ⟨rfl, hb⟩
   have HB2 := Lib.hid (HB.out.trans (hb.mono HB.out.size))
   clear hb
   go_wp2_with fail
   go_ret
   exact ⟨rfl, HB2.out.alloc HB2.out.size _⟩
  ·rw [nextU_nil]
   have la := fun wx (hx : Below w.heap.size w wx) => last_some wx a 0 c B2 av A x (ha.below hx) (by simp at hla; omega)
   obtain ⟨a', n', c', rfl⟩ := ha.slice
   clear ha
   obtain ⟨x1, x2, x3, x4, x5⟩ := x
   have tp := fun w => stTop_nil w a c a' n' c'
   have TP := Lib.hid tp; clear tp
   have LA := Lib.hid la; clear la
   go_enter Tryz.func89, Tryz.ntmps89
   go_wp2_with fail
   refine (TP.out _).mono ?_
   rintro e w1 ⟨rfl, hb⟩
   obtain ⟨k0, hb1, hz⟩ := box1 w _ _ w1 (hb.mono (by simp))
   have j0 := k0 0 _ rfl
   have j1 := k0 1 _ rfl
   have j0 := below_cell ((Below.refl w1.heap.size w1).alloc (Nat.le_refl _) (.cells #[.bool false, .bool false, .int .i64 0] 152)) j0
   have j1 := below_cell ((Below.refl w1.heap.size w1).alloc (Nat.le_refl _) (.cells #[.bool false, .bool false, .int .i64 0] 152)) j1
   have HB := Lib.hid (hb1.alloc hb1.size (.cells #[.bool false, .bool false, .int .i64 0] 152))
   clear hb hb1 k0
   go_wp2_with fail
   refine (LA.out _ HB.out).mono ?_
   rintro e w2 ⟨rfl, hb⟩
   have HB2 := Lib.hid (HB.out.trans (hb.mono HB.out.size))
   clear hb
   cases x4
   ·go_wp2_with fail
    go_ret
    exact ⟨rfl, HB2.out.alloc HB2.out.size _⟩
   ·go_wp2_with fail
    go_ret
    exact ⟨rfl, HB2.out.alloc HB2.out.size _⟩
 ·rw [nextU_snoc]
  obtain ⟨a', n', c', rfl⟩ := ha.slice
  have tp := fun wr (hw : Below w.heap.size w wr) => stTop_some wr B v l m (h.below hw) (by simp at hl; omega) a' n' c'
  obtain ⟨g, c, rfl, _, _⟩ := own_pop h
  have hb0 := (Below.refl w.heap.size w).alloc (Nat.le_refl _) (.cells #[.slice (some ⟨g, 0, none⟩) (l.length + 1) c, .slice a' n' c'] 95)
  generalize l.length + 1 = N at *
  have un := fun wr (hw : Below w.heap.size w wr) => unwinds_any wr (some ⟨g, 0, none⟩) N c B2 (.slice a' n' c') A (ha.below hw) hla
  generalize unwN A = u at *
  obtain ⟨b0, b1, b2⟩ := m
  clear h ha
  have TP := Lib.hid tp; clear tp
  have UN := Lib.hid un; clear un
  have HB0 := Lib.hid hb0; clear hb0
  go_enter Tryz.func89, Tryz.ntmps89
  go_wp2_with fail
  refine (TP.out _ HB0.out).mono ?_
  rintro e w1 ⟨rfl, hb⟩
  obtain ⟨k0, hb1, hz⟩ := box1 w _ _ w1 (hb.mono (by simp))
  have j0 := k0 0 _ rfl
  have j1 := k0 1 _ rfl
  have j0 := below_cell ((Below.refl w1.heap.size w1).alloc (Nat.le_refl _) (.cells #[.bool b0, .bool b1, .int .i64 b2] 152)) j0
  have j1 := below_cell ((Below.refl w1.heap.size w1).alloc (Nat.le_refl _) (.cells #[.bool b0, .bool b1, .int .i64 b2] 152)) j1
  have hrow := heap_new w1 (.cells #[.bool b0, .bool b1, .int .i64 b2] 152)
  have HB := Lib.hid (hb1.alloc hb1.size (.cells #[.bool b0, .bool b1, .int .i64 b2] 152))
  have HROW := Lib.hid hrow
  clear hb hb1 k0 hrow
  go_wp2_with fail
  refine (UN.out _ HB.out).mono ?_
  rintro e w2 ⟨rfl, hb⟩
  have HB2 := Lib.hid (HB.out.trans (hb.mono HB.out.size))
  have hr2 := (Fr.of_below hb (fun _ => False)).heap HROW.out (fun h => h)
  have q0 : w2.cell? ⟨w1.heap.size, 0, none⟩ = some (.bool b0) := (row_cell hr2 0).1
  have q2 : w2.cell? ⟨w1.heap.size, 2, none⟩ = some (.int .i64 b2) := (row_cell hr2 2).1
  clear hb hr2
  by_cases hp : 0 < b2
  ·cases u <;> cases b0
   ·go_wp2_with fail
    go_ret
    exact ⟨by simp, HB2.out⟩
   ·go_wp2_with fail
    go_ret
    exact ⟨by simp [hp], HB2.out⟩
   ·go_wp2_with fail
    go_ret
    exact ⟨by simp [hp], HB2.out⟩
   ·go_wp2_with fail
    go_ret
    exact ⟨by simp [hp], HB2.out⟩
  ·cases u <;> cases b0
   ·go_wp2_with fail
    go_ret
    exact ⟨by simp, HB2.out⟩
   ·go_wp2_with fail
    go_ret
    exact ⟨by simp [hp], HB2.out⟩
   ·go_wp2_with fail
    go_ret
    exact ⟨by simp [hp], HB2.out⟩
   ·go_wp2_with fail
    go_ret
    exact ⟨by simp [hp], HB2.out⟩
end Go.Proofs.YthkhgihjigmkoaaGreat.Tk
namespace Go.Proofs.YthkhgihjigmkoaaGreat.Tk
open Go.ChangeShapes Go.WideShapes Go.ChangeAt Go.RowKit Go.Maps
set_option maxRecDepth 100000 in
theorem ended_nil (w : World) (a : Option Addr) (n c : Nat) (a' : Option Addr) (c' : Nat) (k : Int) :
  Calls Tryz.prog 141 #[.agg #[.slice a n c, .slice a' 0 c'], .int .i64 k] w fun e w' => e = .returned (.agg #[.slice a n c, .slice a' 0 c']) ∧ Below w.heap.size w w' := by
 go_enter Tryz.func141, Tryz.ntmps141
 go_wp2_with fail
 refine bodyPost_ret ?_ rfl ⟨rfl, ((Below.refl w.heap.size w).alloc (Nat.le_refl _) _).alloc (by simp) _⟩
 simp [results, Tryz.results141, go_sem, cell_new2]
set_option maxRecDepth 100000 in
set_option maxHeartbeats 400000 in
theorem aborted_one (w : World) (a : Option Addr) (n c : Nat) (a' : Option Addr) (c' : Nat) (k : Int) :
  Calls Tryz.prog 140 #[.agg #[.slice a n c, .slice a' 1 c'], .int .i64 k] w fun e w' => e = .returned (.agg #[.slice a n c, .slice a' 1 c']) ∧ Below w.heap.size w w' := by
 go_enter Tryz.func140, Tryz.ntmps140
 go_upto_region 1 with fail
 go_wp2_with fail
 go_loopw [5] (fun i wr => i = .int .i64 (-1) ∧ wr = (w.alloc (.cells #[.slice a n c, .slice a' 1 c'] 95)).alloc (.cells #[.slice none 0 0, .slice none 0 0] 95)) (fun _ _ => 0)
 case atStart => exact ⟨rfl, rfl⟩
 case round =>
  obtain ⟨rfl, rfl⟩ := hrel
  go_wp2_with fail
  refine bodyPost_ret ?_ rfl ⟨rfl, ((Below.refl w.heap.size w).alloc (Nat.le_refl _) _).alloc (by simp) _⟩
  simp [results, Tryz.results140, go_sem, cell_new2]
set_option maxRecDepth 100000 in
set_option maxHeartbeats 1600000 in
theorem stPop_some (w : World) (B : Nat) (v : Value) (l : List Mark) (m : Mark) (h : Own markE w B v (l ++ [m])) (hl : l.length ≤ 9000) (B2 : Nat) (av : Value) (ha : Own alarmE w B2 av []) :
  Calls Tryz.prog 120 #[.agg #[v, av]] w (StPost w l []) := by
 obtain ⟨N, hN⟩ : ∃ N, l.length + 1 = N := ⟨_, rfl⟩
 have n0 : ((N : Int) == 0) = false := by rw [beq_eq_false_iff_ne]; omega
 have i1 : IntKind.i64.wrap ((N : Int) - 1) = (l.length : Int) := by rw [show ((N : Int) - 1) = (l.length : Int) from by omega]; exact IntWalk.i64_in _ (by omega)
 obtain ⟨a, n, c, rfl⟩ := h.slice
 obtain ⟨a', n', c', rfl⟩ := ha.slice
 have hb0 := (((Below.refl w.heap.size w).alloc (Nat.le_refl _) (.cells #[.slice a n c, .slice a' n' c'] 95)).alloc (by simp) (.cells #[.slice none 0 0, .slice none 0 0] 95))
 have hz0 : ((w.alloc (.cells #[.slice a n c, .slice a' n' c'] 95)).alloc (.cells #[.slice none 0 0, .slice none 0 0] 95)).heap.size = w.heap.size + 2 := by simp
 have hrow := heap_new (w.alloc (.cells #[.slice a n c, .slice a' n' c'] 95)) (.cells #[.slice none 0 0, .slice none 0 0] 95)
 rw [show (w.alloc (.cells #[.slice a n c, .slice a' n' c'] 95)).heap.size = w.heap.size + 1 from by simp] at hrow
 have hrow1 := row_alloc (heap_new w (.cells #[.slice a n c, .slice a' n' c'] 95)) (.cells #[.slice none 0 0, .slice none 0 0] 95)
 obtain ⟨W, hW⟩ : ∃ W, W = (w.alloc (.cells #[.slice a n c, .slice a' n' c'] 95)).alloc (.cells #[.slice none 0 0, .slice none 0 0] 95) := ⟨_, rfl⟩
 rw [← hW] at hb0 hz0 hrow hrow1
 have k0 : W.cell? ⟨w.heap.size, 0, none⟩ = some (.slice a n c) := (row_cell hrow1 0).1
 have k1 : W.cell? ⟨w.heap.size, 1, none⟩ = some (.slice a' n' c') := (row_cell hrow1 1).1
 have ow := own_any W B (.slice a n c) _ (h.below hb0) (by first | omega | (simp; done) | (simp; omega)) B2 (.slice a' n' c') _ (ha.below hb0) (by first | omega | (simp; done) | (simp; omega))
 have HW := Lib.hid hW
 have HROW := Lib.hid hrow
 have HROW1 := Lib.hid hrow1
 clear hW hrow hrow1 h ha
 have OW := Lib.hid ow; clear ow
 have HB0 := Lib.hid hb0; clear hb0
 have HZ0 := Lib.hid hz0; clear hz0
 go_enter Tryz.func120, Tryz.ntmps120
 go_upto_region 1 with fail
 rw [← HW.out]
 go_wp2_with fail
 refine OW.out.mono ?_
 rintro e w3 ⟨v3, u3, rfl, ho3, hu3, hb3⟩
 obtain ⟨a3, n3, c3, rfl⟩ := ho3.slice
 obtain ⟨a4, n4, c4, rfl⟩ := hu3.slice
 have hrow3 := (Fr.of_below hb3 (fun _ => False)).heap HROW1.out (fun h => h)
 have hrow4 := (Fr.of_below hb3 (fun _ => False)).heap HROW.out (fun h => h)
 have f0 : w3.frozen? ⟨w.heap.size, 0, none⟩ = false := (row_cell hrow3 0).2
 have f1 : w3.frozen? ⟨w.heap.size, 1, none⟩ = false := (row_cell hrow3 1).2
 have k0 : w3.cell? ⟨w.heap.size, 0, none⟩ = some (.slice a n c) := (row_cell hrow3 0).1
 have k1 : w3.cell? ⟨w.heap.size, 1, none⟩ = some (.slice a' n' c') := (row_cell hrow3 1).1
 have hs := SOwn.start hrow3 hrow4 ho3 hu3 (Nat.le_of_eq HZ0.out.symm) (Nat.le_of_eq HZ0.out.symm) (HB0.out.trans (hb3.mono HB0.out.size))
 clear hrow3 hrow4 ho3 hu3 hb3
 have HS := Lib.hid hs; clear hs
 go_upto_region 2 with fail
 obtain ⟨w4, hw4⟩ : ∃ w4, w4 = (w3.setCell ⟨w.heap.size, 0, none⟩ (.slice a3 n3 c3)).setCell ⟨w.heap.size, 1, none⟩ (.slice a4 n4 c4) := ⟨_, rfl⟩
 rw [← hw4] at HS ⊢
 clear hw4 f0 f1 k0 k1
 obtain ⟨k0, k1, f0, f1⟩ := HS.out.cells
 obtain ⟨g3, cc3, he3, hc3, _⟩ := own_pop HS.out.om
 injection he3 with e1 e2 e3
 subst e1 e2 e3
 rw [hN] at k0 HS hc3
 have un := fun wr (hw : Below w4.heap.size w4 wr) => unwinds_any wr (some ⟨g3, 0, none⟩) N c3 _ (.slice a4 n4 c4) _ (HS.out.oa.below hw) (by simp)
 have hr4 := Below.refl w4.heap.size w4
 have UN := Lib.hid un; clear un
 have HR4 := Lib.hid hr4; clear hr4
 go_wp2_with fail
 refine (UN.out _ HR4.out).mono ?_
 rintro e w5 ⟨rfl, hb5⟩
 have hs5 := HS.out.below hb5
 clear hb5 k0 k1 f0 f1 HS
 obtain ⟨k0, k1, f0, f1⟩ := hs5.cells
 obtain ⟨_, _, he, _, ho6⟩ := own_pop hs5.om
 injection he with e1 e2 e3
 injection e1 with e1
 injection e1 with e1
 subst e1 e3
 clear e2
 have hs6 := hs5.set0 ho6
 clear ho6 hs5
 have HS := Lib.hid hs6
 clear hs6
 dsimp only
 go_upto_region 7 with fail
 obtain ⟨w6, hw6⟩ : ∃ w6, w6 = w5.setCell ⟨w.heap.size, 0, none⟩ (.slice (some ⟨g3, 0, none⟩) l.length c3) := ⟨_, rfl⟩
 rw [← hw6] at HS ⊢
 clear hw6 k0 f0 k1 f1
 obtain ⟨k0, k1, f0, f1⟩ := HS.out.cells
 obtain rfl : n4 = 0 := by
  obtain ⟨_, _, he, _⟩ := own_elems HS.out.oa
  injection he
 have en := fun wr => ended_nil wr (some ⟨g3, 0, none⟩) l.length c3 a4 c4 N
 have EN := Lib.hid en; clear en
 go_wp2_with fail
 refine (EN.out _).mono ?_
 rintro e w7 ⟨rfl, hb7⟩
 have hs7 := HS.out.below hb7
 clear k0 k1 f0 f1 HS hb7
 have HS := Lib.hid hs7
 clear hs7
 obtain ⟨k0, k1, f0, f1⟩ := HS.out.cells
 obtain ⟨q0, q1, g0, g1⟩ := HS.out.rcells
 have hd := HS.out.done
 have HP := Lib.hid (show StPost w _ _ (.returned (.agg #[_, _])) _ from ⟨_, _, rfl, hd.2⟩)
 have HR := Lib.hid hd.1
 clear hd
 go_wp2_with (with_reducible refine bodyPost_ret ?_ rfl HP.out; have j0 := (row_cell HR.out 0).1; have j1 := (row_cell HR.out 1).1; simp at j0 j1; simp [results, Tryz.results120, go_sem, j0, j1])
end Go.Proofs.YthkhgihjigmkoaaGreat.Tk
namespace Go.Proofs.YthkhgihjigmkoaaGreat.Tk
open Go.ChangeShapes Go.WideShapes Go.ChangeAt Go.RowKit Go.Maps
theorem step_del_map {P : Program} {κ ν : Type} {K : KeyTy P κ} {val : ν → Value} {w : World} {b n : Nat} {f : κ → Option ν} {ops : Array Oper} {o : Oper} {a : Act} {G : Act → World → Prop} {Q : Exit → Act → World → Prop} {F : Prop} [DecidableEq κ] (hg : o.guard = none) (m x : Operand) (t e : TypeId) (hop : o.op = Op.call { callee := Callee.builtin Builtin.delete, args := #[m, x], argTypes := #[t, K.k] }) (h : MapIs K val w b n f) (ht : P.underlying t = some (.map K.k e)) (k : κ) (hk : K.wf k)
  (hm : a.eval m = .map (some b)) (hx : a.eval x = K.key k)
  (hK : ∀ w', MapIs K val w' b (if (f k).isSome then n - 1 else n) (upd f k none) → w.mapTurned w' b → G (a.put o.dst (.tuple #[])) w') : if Region.wanted o (yielded ops a.tmps) = true then Oper.wp P o a w G Q else F := by
 have hw : Region.wanted o (yielded ops a.tmps) = true := by simp [Region.wanted, hg]
 rw [if_pos hw]
 obtain ⟨w', hrun, r1, r2⟩ := h.del ht k hk o.type
 unfold Oper.wp
 simp [execOp, hop, resolve, invoke, builtin, hm, hx, hrun, Result.andThen]
 exact hK _ r1 r2
def delK (kf : { x : Int × Int // i64B x.1 ∧ i64B x.2 } → Option Int) (d : Nat) : { x : Int × Int // i64B x.1 ∧ i64B x.2 } → Option Int := fun a => if a.1 = ((d : Int), (0 : Int)) then none else kf a
def setK (kf : { x : Int × Int // i64B x.1 ∧ i64B x.2 } → Option Int) (d : Nat) (v : Int) : { x : Int × Int // i64B x.1 ∧ i64B x.2 } → Option Int := fun a => if a.1 = ((d : Int), (0 : Int)) then some v else kf a
theorem upd_delK (kf : { x : Int × Int // i64B x.1 ∧ i64B x.2 } → Option Int) (d : Nat) (h : i64B (d : Int) ∧ i64B 0) (a) : upd kf ⟨((d : Int), (0 : Int)), h⟩ none a = delK kf d a := by
 unfold upd delK
 by_cases hx : a = ⟨((d : Int), (0 : Int)), h⟩
 ·rw [if_pos hx, if_pos (by rw [hx])]
 ·rw [if_neg hx, if_neg (fun e => hx (Subtype.ext e))]
theorem upd_setK (kf : { x : Int × Int // i64B x.1 ∧ i64B x.2 } → Option Int) (d : Nat) (h : i64B (d : Int) ∧ i64B 0) (v : Int) (a) : upd kf ⟨((d : Int), (0 : Int)), h⟩ (some v) a = setK kf d v a := by
 unfold upd setK
 by_cases hx : a = ⟨((d : Int), (0 : Int)), h⟩
 ·rw [if_pos hx, if_pos (by rw [hx])]
 ·rw [if_neg hx, if_neg (fun e => hx (Subtype.ext e))]
theorem TaskAt.turned {w w' : World} {F : Nat → Prop} {tb : Nat} {p : TPrg} {T : Tk} {X : TB} (h : TaskAt w F tb p T X) {n : Nat} {f : { x : Int × Int // i64B x.1 ∧ i64B x.2 } → Option Int} (hm : MapIs spK (Value.int .i64) w' X.kb n f) (kc : Nat) (hn : n ≤ kc) (ht : w.mapTurned w' X.kb) : TaskAt w' F tb p T { X with kf := f, kc := kc } ∧ Fr F w w' := by
 have hr := turned_fr ht
 obtain ⟨_, _, hk⟩ := h.kept
 refine ⟨?_, hr.mono fun k e => e ▸ h.fk⟩
 constructor
 ·exact hr.heap h.row (fun e => map_ne hk h.row e.symm)
 ·exact h.prg.fr hr fun k hk e => (h.out k hk).1 (e ▸ h.fk)
 ·exact fun k hk => ⟨(h.out k hk).1, Nat.lt_of_lt_of_le (h.out k hk).2 hr.size⟩
 ·exact hr.heap h.srow (fun e => map_ne hk h.srow e.symm)
 ·exact hr.heap h.wrow (fun e => map_ne hk h.wrow e.symm)
 ·exact h.parts.fr hr fun k hk2 e => by obtain ⟨cur, f, hc⟩ := own_row h.parts hk2; exact map_ne hk hc e.symm
 ·exact h.marks.fr hr fun k hk2 e => by obtain ⟨cur, f, hc⟩ := own_row h.marks hk2; exact map_ne hk hc e.symm
 ·exact Nat.lt_of_lt_of_le h.kb hr.size
 ·exact ⟨n, hn, hm⟩
 ·exact h.alarms.fr hr fun k hk2 e => by obtain ⟨cur, f, hc⟩ := own_row h.alarms hk2; exact map_ne hk hc e.symm
 ·exact h.ft
 ·exact h.fs
 ·exact h.fw
 ·exact h.fk
 ·exact h.fp
 ·exact h.fm
 ·exact h.fa
 ·exact fun k hk => Nat.lt_of_lt_of_le (h.flt k hk) hr.size
theorem TaskAt.popped {w : World} {F : Nat → Prop} {tb : Nat} {p : TPrg} {T : Tk} {X : TB} {P : List Part} {q : Part} {g n c : Nat} (h : TaskAt w F tb p T X) (hP : T.parts = P ++ [q]) (hv : X.pv = .slice (some ⟨g, 0, none⟩) n c) :
  TaskAt (w.setCell ⟨tb, 4, none⟩ (.slice (some ⟨g, 0, none⟩) P.length c)) F tb p ⟨T.base, T.words, P, T.marks⟩ { X with pv := .slice (some ⟨g, 0, none⟩) P.length c } ∧ Fr F w (w.setCell ⟨tb, 4, none⟩ (.slice (some ⟨g, 0, none⟩) P.length c)) := by
 have hfs : Fr (fun k => k = tb) w (w.setCell ⟨tb, 4, none⟩ (.slice (some ⟨g, 0, none⟩) P.length c)) := (Fr.refl (fun k => k = tb) w).setCell (p := ⟨tb, 4, none⟩) (fun _ => rfl) _
 obtain ⟨d1, d2, d3, d4, d5, d6, d7⟩ := h.distinct
 have ho := h.parts
 rw [hP, hv] at ho
 obtain ⟨g', c', he, _, ho⟩ := own_pop ho
 injection he with e1 e2 e3
 injection e1 with e1
 injection e1 with e1
 subst e1 e3
 have hgo : X.pv.ownBlock = some g := by rw [hv]; rfl
 refine ⟨?_, hfs.mono (fun k e => e ▸ h.ft)⟩
 constructor
 ·have := row_set h.row 4 (.slice (some ⟨g, 0, none⟩) P.length c)
  simpa using this
 ·exact h.prg.fr hfs fun k hk e => (h.out k hk).1 (e ▸ h.ft)
 ·exact fun k hk => ⟨(h.out k hk).1, Nat.lt_of_lt_of_le (h.out k hk).2 hfs.size⟩
 ·exact hfs.heap h.srow (fun e => d1 e.symm)
 ·exact hfs.heap h.wrow (fun e => d2 e.symm)
 ·exact ho.fr hfs (fun k hk e => (d4 k (by rw [hgo]; exact hk)).1 e)
 ·exact h.marks.fr hfs (fun k hk e => (d5 k hk).1 e)
 ·exact Nat.lt_of_lt_of_le h.kb hfs.size
 ·exact h.kept.imp fun n hm => ⟨hm.1, hm.2.fr hfs (fun e => map_ne hm.2 h.row e)⟩
 ·exact h.alarms.fr hfs (fun k hk e => (d7 k hk).1 e)
 ·exact h.ft
 ·exact h.fs
 ·exact h.fw
 ·exact h.fk
 ·exact fun k hk => h.fp k (by rw [hgo]; exact hk)
 ·exact h.fm
 ·exact h.fa
 ·exact fun k hk => Nat.lt_of_lt_of_le (h.flt k hk) hfs.size
set_option maxRecDepth 100000 in
set_option maxHeartbeats 3200000 in
theorem pop_any (w : World) (F : Nat → Prop) (tb : Nat) (p : TPrg) (T : Tk) (X : TB) (h : TaskAt w F tb p T X) (ht : TkOk T) (P : List Part) (q : Part) (hP : T.parts = P ++ [q]) (M : List Mark) (m : Mark) (hM : T.marks = M ++ [m]) (v : Int) (has : Bool) (T2 : Tk) (M' : List Mark) (A' : List Alarm)
  (SPOP : ∀ wr mv av, Own markE wr 0 mv (M ++ [m]) → Own alarmE wr 0 av X.al → Calls Tryz.prog 120 #[.agg #[mv, av]] wr (StPost wr M' A'))
  (hno : (has && decide (0 ≤ q.ret) && !m.deferred) = false → T2 = ⟨T.base, T.words, P, M'⟩)
  (hset : (has && decide (0 ≤ q.ret) && !m.deferred) = true → ∀ wr F' X', TaskAt wr F' tb p ⟨T.base, T.words, P, M'⟩ X' → Calls Tryz.prog 18 #[.pointer (some ⟨tb, 0, none⟩), .int .i64 q.ret, .int .i64 v] wr fun e w' => e = .returned (.bool true) ∧ TaskAt w' F' tb p T2 X' ∧ Fr F' wr w') :
  Calls Tryz.prog 95 #[.pointer (some ⟨tb, 0, none⟩), .int .i64 v, .bool has] w fun e w' => e = .returned (.bool true) ∧ ∃ F' X', TaskAt w' F' tb p T2 X' ∧ X'.Q X A' (delK X.kf P.length) ∧ (∀ k, F' k → F k ∨ w.heap.size ≤ k) ∧ Fr F w w' := by
 have hpl : T.parts.length = P.length + 1 := by rw [hP]; simp
 have hml : T.marks.length = M.length + 1 := by rw [hM]; simp
 obtain ⟨a, c, hpv, hel⟩ := h.pv
 obtain ⟨g, rfl, hgo, k0, k1, k2, k3, k4⟩ := hel P.length (by omega)
 have hq : T.parts[P.length]'(by omega) = q := by simp [hP]
 rw [hq] at k3
 have hpo := h.parts
 rw [hP, hpv] at hpo
 obtain ⟨_, _, hpe, hcc, _⟩ := own_pop hpo
 injection hpe with hx1 hx2 hpe
 clear hx1 hx2
 rw [← hpe] at hcc
 have hcc : P.length ≤ c := by omega
 clear hpo hpe
 obtain ⟨a5, c5, hmv, hmel⟩ := own_elems h.marks
 obtain ⟨mb, rfl, _, hmc⟩ := hmel M.length (by omega)
 have hm : T.marks[M.length]'(by omega) = m := by simp [hM]
 have l1 : w.cell? ⟨mb, M.length * 3 + 1, none⟩ = some (.bool (T.marks[M.length]'(by omega)).deferred) := hmc 1 _ rfl
 rw [hm] at l1
 obtain ⟨q0, q1, q2, q3, q4, q5, q6, q7⟩ := h.cells
 have tp := top_some w F tb p T X h ht.1 P.length hpl g hgo
 have hok1 := ht.1
 have hok2 := ht.2.1
 have dp := fun wr (hw : Below w.heap.size w wr) => depth_any wr F tb p T X (h.below hw)
 have hT := fun wr (hw : Below w.heap.size w wr) => h.below hw
 rw [hpl] at dp hpv
 rw [hml] at hmv
 rw [hpv] at q4
 rw [hmv] at q5
 obtain ⟨N, hN⟩ : ∃ N, N = P.length + 1 := ⟨_, rfl⟩
 obtain ⟨K, hK⟩ : ∃ K, K = M.length + 1 := ⟨_, rfl⟩
 rw [← hN] at dp hpv q4
 rw [← hK] at hmv q5
 have i1 : IntKind.i64.wrap ((N : Int) - 1) = (P.length : Int) := by rw [show ((N : Int) - 1) = (P.length : Int) from by omega]; exact IntWalk.i64_in _ (by omega)
 have i2 : IntKind.i64.wrap ((K : Int) - 1) = (M.length : Int) := by rw [show ((K : Int) - 1) = (M.length : Int) from by omega]; exact IntWalk.i64_in _ (by omega)
 have n1 : (M.length : Int) < (K : Int) := by omega
 have hMl : M.length ≤ 1000 := by omega
 have hdb : i64B (P.length : Int) := by unfold i64B; omega
 have hz0 : i64B 0 := by unfold i64B; omega
 have hHM := Lib.hid hM
 have HPP := Lib.hid hP
 have HMV := Lib.hid hmv
 have HPV := Lib.hid hpv
 have HSPOP := Lib.hid SPOP
 clear SPOP
 clear hel k0 k1 k2 k4 hmel hmc hm hq q0 q1 q2 q3 q6 hpl hml hN hK hM hP hmv hpv h ht hok1 hok2
 have TP := Lib.hid tp; clear tp
 have DP := Lib.hid dp; clear dp
 have HT := Lib.hid hT; clear hT
 have HNO := Lib.hid hno; clear hno
 have HSET := Lib.hid hset; clear hset
 go_enter Tryz.func95, Tryz.ntmps95
 go_wp2_with fail
 refine TP.out.mono ?_
 rintro e w1 ⟨rfl, n1', rfl⟩
 dsimp only
 go_upto_region 4 with fail
 have hb0 : Below w.heap.size w (w.drewN n1') := below_drewN (Below.refl _ _) n1'
 have q4 := below_cell hb0 q4
 have q5 := below_cell hb0 q5
 have q7 := below_cell hb0 q7
 have l1 := below_cell hb0 l1
 have k3 := below_cell hb0 k3
 have HB0 := Lib.hid hb0; clear hb0
 generalize w.drewN n1' = w1 at *
 go_quiet (fail)
 have hb1 : Below w1.heap.size w1 (w1.drewN nq) := below_drewN (Below.refl _ _) nq
 have q4 := below_cell hb1 q4
 have q7 := below_cell hb1 q7
 have k3 := below_cell hb1 k3
 have hb2 := HB0.out.trans (hb1.mono HB0.out.size)
 generalize w1.drewN nq = w2 at *
 have hr0 := hb2.drew
 clear l1 q5 hb1
 have HB2 := Lib.hid hb2; clear hb2
 have HR0 := Lib.hid hr0; clear hr0
 go_upto_region 6 with fail
 obtain ⟨kn, hkn, hkm⟩ := (HT.out _ HR0.out).kept
 have ht2 : Tryz.prog.underlying 91 = some (.map spK.k 3) := Tryz.underlying91
 have HKM := Lib.hid hkm; clear hkm
 have HT2 := Lib.hid ht2; clear ht2
 go_cut [] (fun wx => TaskAt wx F tb p T { X with kf := delK X.kf P.length, kc := X.kc } ∧ Fr F w wx)
 case first =>
  go_region_law (first | (go_simp; go_at_call 34; refine (DP.out _ HR0.out).mono ?_; rintro e wq ⟨rfl, rfl⟩) | (refine step_del_map rfl (.tmp 36) (.tmp 40) 91 3 rfl HKM.out HT2.out ⟨((P.length : Int), (0 : Int)), hdb, hz0⟩ trivial rfl rfl ?_; intro w9 hm9 ht9))
  all_goals
   obtain ⟨hA, hB⟩ := (HT.out _ HR0.out).turned (f := delK X.kf P.length) (hm9.congr fun a _ => upd_delK X.kf P.length ⟨hdb, hz0⟩ a) X.kc (by split <;> omega) ht9
   have hC := (Fr.of_below HR0.out F).trans hB (fun _ _ h => h)
   clear hm9 ht9 hB
   have HA := Lib.hid hA; clear hA
   have HC := Lib.hid hC; clear hC
   go_wp2_with fail
   go_meet
   first | exact ⟨HA.out, HC.out⟩ | (case rel => exact ⟨HA.out, HC.out⟩)
 case rest =>
  obtain ⟨hTc, hFc⟩ := hcut
  clear q4 q7 k3
  have q4 := hTc.cells.2.2.2.2.1
  rw [HPV.out] at q4
  have f4 : wc.frozen? ⟨tb, 4, none⟩ = false := (row_cell hTc.row 4).2
  obtain ⟨hTp, hFp⟩ := hTc.popped HPP.out HPV.out
  have hTp := hTp.below (Below.refl _ _).drew
  have hFp := (hFc.trans hFp (fun _ _ h => h)).drew
  clear hTc hFc HKM
  have HTP := Lib.hid hTp; clear hTp
  have HFP := Lib.hid hFp; clear hFp
  go_upto_region 7 with fail
  go_cut [] (fun wx => ∃ X', TaskAt wx F tb p ⟨T.base, T.words, P, T.marks⟩ X' ∧ X'.Q X X.al (delK X.kf P.length) ∧ Fr F w wx)
  case first =>
   go_region_law (fail)
   all_goals
    go_wp2_with fail
    go_meet
    first | exact ⟨_, HTP.out, ⟨rfl, rfl, rfl, rfl⟩, HFP.out⟩ | (case rel => exact ⟨_, HTP.out, ⟨rfl, rfl, rfl, rfl⟩, HFP.out⟩)
  case rest =>
   obtain ⟨X2, hT3, hxq, hF3⟩ := hcut
   clear q4 f4
   have sp := fun wr (hw : Below wc.heap.size wc wr) => HSPOP.out wr X2.mv X2.av (by have := (hT3.below hw).marks; rw [hHM.out] at this; exact this) (by have := (hT3.below hw).alarms; rw [hxq.2.1] at this; exact this)
   have q5 := hT3.cells.2.2.2.2.2.1
   have q6 := hT3.cells.2.2.2.2.2.2.1
   obtain ⟨a6, n6, c6, hmv2⟩ := hT3.marks.slice
   obtain ⟨a7, n7, c7, hav2⟩ := hT3.alarms.slice
   rw [hmv2, hav2] at sp
   rw [hmv2] at q5
   rw [hav2] at q6
   have HXQ := Lib.hid hxq
   have HAV2 := Lib.hid hav2
   clear hxq hav2
   have hw0 := Below.refl wc.heap.size wc
   have SP := Lib.hid sp; clear sp
   have HT3 := Lib.hid hT3; clear hT3
   have HF3 := Lib.hid hF3; clear hF3
   have HMV2 := Lib.hid hmv2; clear hmv2
   have HW0 := Lib.hid hw0; clear hw0
   go_wp2_with fail
   refine (SP.out _ HW0.out).mono ?_
   rintro e w4 ⟨v4, u4, rfl, ho4, hu4, hb4⟩
   obtain ⟨a4, n4, c4, rfl⟩ := ho4.slice
   obtain ⟨a8, n8, c8, rfl⟩ := hu4.slice
   have hT4 := HT3.out.below hb4
   have q5 := hT4.cells.2.2.2.2.2.1
   have q6 := hT4.cells.2.2.2.2.2.2.1
   have f5 : w4.frozen? ⟨tb, 5, none⟩ = false := (row_cell hT4.row 5).2
   have f6 : w4.frozen? ⟨tb, 6, none⟩ = false := (row_cell hT4.row 6).2
   obtain ⟨hT5, hF5⟩ := hT4.mark ho4 hu4 (fun k hk => hk.elim (fun h => HT3.out.flt k h) (fun h => (HT3.out.out k h).2))
   have hF6 := (HF3.out.trans (Fr.of_below hb4 F) (fun _ _ h => h)).trans hF5 (fun k _ hk => hk)
   have hnew : ∀ k, (F k ∨ (Value.slice a4 n4 c4).ownBlock = some k) ∨ (Value.slice a8 n8 c8).ownBlock = some k → F k ∨ w.heap.size ≤ k := fun k hk => by
    rcases hk with (h1 | h1) | h1
    ·exact .inl h1
    ·have h2 := own_base ho4 h1
     have h3 := HF3.out.size
     exact .inr (by omega)
    ·have h2 := own_base hu4 h1
     have h3 := HF3.out.size
     exact .inr (by omega)
   have HXR := Lib.hid (show TB.Q { X2 with mv := .slice a4 n4 c4, av := .slice a8 n8 c8, al := A' } X A' (delK X.kf P.length) from ⟨HXQ.out.1, rfl, HXQ.out.2.2.1, HXQ.out.2.2.2⟩)
   clear hT4 hb4 ho4 hu4 hF5
   have HT5 := Lib.hid hT5; clear hT5
   have HF6 := Lib.hid hF6; clear hF6
   have HNEW := Lib.hid hnew; clear hnew
   dsimp only
   go_upto_region 9 with fail
   obtain ⟨w5, hw5⟩ : ∃ w5, w5 = (w4.setCell ⟨tb, 5, none⟩ (.slice a4 n4 c4)).setCell ⟨tb, 6, none⟩ (.slice a8 n8 c8) := ⟨_, rfl⟩
   rw [← hw5] at HT5 HF6 ⊢
   clear hw5 q5 q6 f5 f6
   obtain ⟨rt, hrt⟩ : ∃ rt, rt = q.ret := ⟨_, rfl⟩
   obtain ⟨df, hdf⟩ : ∃ df, df = m.deferred := ⟨_, rfl⟩
   rw [← hrt, ← hdf] at HNO HSET ⊢
   clear hrt hdf
   by_cases hyes : (has && decide (0 ≤ rt) && !df) = true
   ·obtain ⟨rfl, hr0', rfl⟩ : has = true ∧ 0 ≤ rt ∧ df = false := by
     simp at hyes
     exact ⟨hyes.1.1, hyes.1.2, hyes.2⟩
    have st := HSET.out hyes _ _ _ HT5.out
    clear hyes HR0
    have ST := Lib.hid st; clear st
    go_wp2_with fail
    refine ST.out.mono ?_
    rintro e w6 ⟨rfl, hT6, hF7⟩
    have hF8 := HF6.out.trans hF7 (fun k hk1 hk2 => (HNEW.out k hk2).elim (fun h => h) (fun h => absurd h (by omega)))
    clear hF7
    have HT6 := Lib.hid hT6; clear hT6
    have HF8 := Lib.hid hF8; clear hF8
    go_wp2_with fail
    go_ret
    exact ⟨rfl, _, _, HT6.out, HXR.out, HNEW.out, HF8.out⟩
   ·have hyes : (has && decide (0 ≤ rt) && !df) = false := by simpa using hyes
    have hT2 := HNO.out hyes
    clear HNO HSET HR0
    subst hT2
    have hfin : ∃ F' X', TaskAt w5 F' tb p ⟨T.base, T.words, P, M'⟩ X' ∧ X'.Q X A' (delK X.kf P.length) ∧ (∀ k, F' k → F k ∨ w.heap.size ≤ k) ∧ Fr F w w5 := ⟨_, _, HT5.out, HXR.out, HNEW.out, HF6.out⟩
    clear HT5 HNEW HF6
    have HFIN := Lib.hid hfin; clear hfin
    cases has
    ·clear hyes
     go_wp2_with fail
     go_ret
     obtain ⟨F', X', h1, h4, h2, h3⟩ := HFIN.out
     exact ⟨rfl, F', X', h1, h4, h2, h3⟩
    ·cases df
     ·have hneg : ¬ 0 ≤ rt := by simpa using hyes
      clear hyes
      go_wp2_with fail
      go_ret
      obtain ⟨F', X', h1, h4, h2, h3⟩ := HFIN.out
      exact ⟨rfl, F', X', h1, h4, h2, h3⟩
     ·clear hyes
      by_cases hneg : 0 ≤ rt
      ·go_wp2_with fail
       go_ret
       obtain ⟨F', X', h1, h4, h2, h3⟩ := HFIN.out
       exact ⟨rfl, F', X', h1, h4, h2, h3⟩
      ·go_wp2_with fail
       go_ret
       obtain ⟨F', X', h1, h4, h2, h3⟩ := HFIN.out
       exact ⟨rfl, F', X', h1, h4, h2, h3⟩
end Go.Proofs.YthkhgihjigmkoaaGreat.Tk
namespace Go.Proofs.YthkhgihjigmkoaaGreat.Tk
open Go.ChangeShapes Go.WideShapes Go.ChangeAt Go.RowKit Go.Maps
set_option maxRecDepth 100000 in
theorem fn_some (w : World) (F : Nat → Prop) (tb : Nat) (p : TPrg) (T : Tk) (X : TB) (h : TaskAt w F tb p T X) (hn : T.parts.length ≤ 1000) (n : Nat) (h0 : T.parts.length = n + 1) :
  Calls Tryz.prog 38 #[.pointer (some ⟨tb, 0, none⟩)] w fun e w' => e = .returned (.int .i64 (T.parts[n]'(by omega)).fn) ∧ ∃ m, w' = w.drewN m := by
 obtain ⟨a, c, hpv, hel⟩ := h.pv
 obtain ⟨g, rfl, hgo, k0, k1, k2, k3, k4⟩ := hel n (by omega)
 have tp := top_some w F tb p T X h hn n h0 g hgo
 generalize (T.parts[n]'(by omega)).fn = x at *
 clear h0 h hel k1 k2 k3 k4 hpv hgo hn
 have TP := Lib.hid tp; clear tp
 go_enter Tryz.func38, Tryz.ntmps38
 go_wp2_with fail
 refine TP.out.mono ?_
 rintro e w' ⟨rfl, m, rfl⟩
 have k0 := below_cell (below_drewN (Below.refl w.heap.size w) m) k0
 go_wp2_with fail
 go_ret
 exact ⟨rfl, m, rfl⟩
end Go.Proofs.YthkhgihjigmkoaaGreat.Tk
