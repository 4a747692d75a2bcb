import Derived.Test.YtjcjhfnjamphlaaGreatZAl
import Derived.Test.YtjcjhfnjamphlaaGreatZAc
set_option linter.unusedVariables false
set_option linter.unusedSimpArgs false
namespace Go.Proofs.YtjcjhfnjamphlaaGreat
open Go.ChangeShapes Go.WideShapes Go.ChangeAt Go.RowKit Go.Maps
set_option maxRecDepth 100000 in
theorem rfield_any (w : World) (kind : Int) (n : Nat) (hn : n ≤ 100000) :
  Calls Tryz.prog 58 #[.int .i64 kind, .int .i64 n] w fun e w' => e = .returned (.bool (fieldB kind n)) ∧ w = w' := by
 have n0 : (0 : Int) ≤ n := by omega
 have i1 : IntKind.i64.wrap (16 + (n : Int)) = 16 + (n : Int) := IntWalk.i64_in _ (by omega)
 by_cases h16 : n ≤ 16
 ·have n1 : (n : Int) ≤ 16 := by omega
  by_cases h1 : kind = 1
  ·have e1 : (kind == 1) = true := by simpa using h1
   rw [show fieldB kind n = true from by unfold fieldB; simp [h16, h1]; try omega]
   go_enter Tryz.func58, Tryz.ntmps58
   go_wp2_with fail
   go_ret
   exact ⟨rfl, rfl⟩
  ·have e1 : (kind == 1) = false := by simpa using h1
   by_cases h2 : 16 ≤ kind
   ·by_cases h3 : kind < 16 + (n : Int)
    ·skip
     rw [show fieldB kind n = true from by unfold fieldB; simp [h16, h1, h2, h3]; try omega]
     go_enter Tryz.func58, Tryz.ntmps58
     go_wp2_with fail
     go_ret
     exact ⟨rfl, rfl⟩
    ·skip
     rw [show fieldB kind n = false from by unfold fieldB; simp [h16, h1, h2, h3]; try omega]
     go_enter Tryz.func58, Tryz.ntmps58
     go_wp2_with fail
     go_ret
     exact ⟨rfl, rfl⟩
   ·skip
    rw [show fieldB kind n = false from by unfold fieldB; simp [h16, h1, h2]; try omega]
    go_enter Tryz.func58, Tryz.ntmps58
    go_wp2_with fail
    go_ret
    exact ⟨rfl, rfl⟩
 ·have n1 : ¬ (n : Int) ≤ 16 := by omega
  rw [show fieldB kind n = false from by unfold fieldB; simp [h16]; try omega]
  go_enter Tryz.func58, Tryz.ntmps58
  go_wp2_with fail
  go_ret
  exact ⟨rfl, rfl⟩
set_option maxRecDepth 100000 in
theorem rvalid_any (w : World) (kind : Int) (n : Nat) (hn : n ≤ 100000) :
  Calls Tryz.prog 85 #[.int .i64 kind, .int .i64 n] w fun e w' => e = .returned (.bool (validB kind n)) ∧ w = w' := by
 have n0 : (0 : Int) ≤ n := by omega
 have i1 : IntKind.i64.wrap (64 + (n : Int)) = 64 + (n : Int) := IntWalk.i64_in _ (by omega)
 have rf := rfield_any w kind n hn
 cases hf : fieldB kind n
 ·rw [hf] at rf
  have RF := Lib.hid rf; clear rf
  by_cases h16 : n ≤ 16
  ·have n1 : (n : Int) ≤ 16 := by omega
   by_cases h2 : 64 ≤ kind
   ·by_cases h3 : kind < 64 + (n : Int)
    ·skip
     rw [show validB kind n = true from by unfold validB; rw [hf]; simp [h16, h2, h3]; try omega]
     clear hf
     go_enter Tryz.func85, Tryz.ntmps85
     go_wp2_with fail
     refine RF.out.mono ?_
     rintro e w' ⟨rfl, rfl⟩
     go_wp2_with fail
     go_ret
     first | exact ⟨rfl, rfl⟩ | exact ⟨congrArg (fun b => Ending.returned (Value.bool b)) (decide_eq_true (by omega)), rfl⟩ | exact ⟨congrArg (fun b => Ending.returned (Value.bool b)) (decide_eq_false (by omega)), rfl⟩
    ·skip
     rw [show validB kind n = false from by unfold validB; rw [hf]; simp [h16, h2, h3]; try omega]
     clear hf
     go_enter Tryz.func85, Tryz.ntmps85
     go_wp2_with fail
     refine RF.out.mono ?_
     rintro e w' ⟨rfl, rfl⟩
     go_wp2_with fail
     go_ret
     first | exact ⟨rfl, rfl⟩ | exact ⟨congrArg (fun b => Ending.returned (Value.bool b)) (decide_eq_true (by omega)), rfl⟩ | exact ⟨congrArg (fun b => Ending.returned (Value.bool b)) (decide_eq_false (by omega)), rfl⟩
   ·skip
    rw [show validB kind n = false from by unfold validB; rw [hf]; simp [h16, h2]; try omega]
    clear hf
    go_enter Tryz.func85, Tryz.ntmps85
    go_wp2_with fail
    refine RF.out.mono ?_
    rintro e w' ⟨rfl, rfl⟩
    go_wp2_with fail
    go_ret
    first | exact ⟨rfl, rfl⟩ | exact ⟨congrArg (fun b => Ending.returned (Value.bool b)) (decide_eq_true (by omega)), rfl⟩ | exact ⟨congrArg (fun b => Ending.returned (Value.bool b)) (decide_eq_false (by omega)), rfl⟩
  ·have n1 : ¬ (n : Int) ≤ 16 := by omega
   rw [show validB kind n = false from by unfold validB; rw [hf]; simp [h16]; try omega]
   clear hf
   go_enter Tryz.func85, Tryz.ntmps85
   go_wp2_with fail
   refine RF.out.mono ?_
   rintro e w' ⟨rfl, rfl⟩
   go_wp2_with fail
   go_ret
   first | exact ⟨rfl, rfl⟩ | exact ⟨congrArg (fun b => Ending.returned (Value.bool b)) (decide_eq_true (by omega)), rfl⟩ | exact ⟨congrArg (fun b => Ending.returned (Value.bool b)) (decide_eq_false (by omega)), rfl⟩
 ·rw [hf] at rf
  have RF := Lib.hid rf; clear rf
  rw [show validB kind n = true from by unfold validB; rw [hf]; simp; try omega]
  clear hf
  go_enter Tryz.func85, Tryz.ntmps85
  go_wp2_with fail
  refine RF.out.mono ?_
  rintro e w' ⟨rfl, rfl⟩
  go_wp2_with fail
  go_ret
  first | exact ⟨rfl, rfl⟩ | exact ⟨congrArg (fun b => Ending.returned (Value.bool b)) (decide_eq_true (by omega)), rfl⟩ | exact ⟨congrArg (fun b => Ending.returned (Value.bool b)) (decide_eq_false (by omega)), rfl⟩
set_option maxRecDepth 100000 in
theorem risLoc_any (w : World) (kind : Int) :
  Calls Tryz.prog 11 #[.int .i64 kind] w fun e w' => e = .returned (.bool (isLocB kind)) ∧ w = w' := by
 by_cases h1 : 64 ≤ kind
 ·by_cases h2 : kind < 80
  ·skip
   rw [show isLocB kind = true from by unfold isLocB; simp [h1, h2]]
   go_enter Tryz.func11, Tryz.ntmps11
   go_wp2_with fail
   go_ret
   exact ⟨rfl, rfl⟩
  ·skip
   rw [show isLocB kind = false from by unfold isLocB; simp [h1, h2]]
   go_enter Tryz.func11, Tryz.ntmps11
   go_wp2_with fail
   go_ret
   exact ⟨rfl, rfl⟩
 ·skip
  rw [show isLocB kind = false from by unfold isLocB; simp [h1]]
  go_enter Tryz.func11, Tryz.ntmps11
  go_wp2_with fail
  go_ret
  exact ⟨rfl, rfl⟩
set_option maxRecDepth 100000 in
set_option maxHeartbeats 3200000 in
theorem place_any (w : World) (p : Prg) (f : Fun) (a0 a1 a2 e0 e2 e4 : Option Addr) (m0 m1 m2 e1 e3 e5 : Nat) (k v : Int) (args : Nat) (hs : f.slots ≤ 9223372036854775807) :
  Calls Tryz.prog 102 #[.agg #[.slice a0 p.globals.length m0, .slice a1 p.shapes.length m1, .slice a2 p.funcs.length m2], .agg #[.slice e0 f.args.length e1, .int .i64 f.result, .int .i64 f.slots, .slice e2 f.objects.length e3, .slice e4 f.code.length e5], .int .u8 k, .int .i64 v, .int .i64 args] w fun e w' => e = .returned (.bool (placeB p f k v args)) ∧ Below w.heap.size w w' := by
 obtain ⟨fa, fr, fs, fo, fc⟩ := f
 dsimp only at hs ⊢
 have hbx := fun wr h => box2 w #[.slice a0 p.globals.length m0, .slice a1 p.shapes.length m1, .slice a2 p.funcs.length m2] #[.slice e0 fa.length e1, .int .i64 fr, .int .i64 fs, .slice e2 fo.length e3, .slice e4 fc.length e5] 26 58 wr h
 have hz0 : ((w.alloc (.cells #[.slice a0 p.globals.length m0, .slice a1 p.shapes.length m1, .slice a2 p.funcs.length m2] 26)).alloc (.cells #[.slice e0 fa.length e1, .int .i64 fr, .int .i64 fs, .slice e2 fo.length e3, .slice e4 fc.length e5] 58)).heap.size = w.heap.size + 2 := by simp
 obtain ⟨W, hW⟩ : ∃ W, W = (w.alloc (.cells #[.slice a0 p.globals.length m0, .slice a1 p.shapes.length m1, .slice a2 p.funcs.length m2] 26)).alloc (.cells #[.slice e0 fa.length e1, .int .i64 fr, .int .i64 fs, .slice e2 fo.length e3, .slice e4 fc.length e5] 58) := ⟨_, rfl⟩
 rw [← hW] at hbx hz0
 have hb := hbx W (by rw [← hz0]; exact Below.refl _ _)
 have k0 := hb.1 0 _ rfl
 have k1 := hb.1 1 _ rfl
 have k2 := hb.1 2 _ rfl
 have k3 := hb.2.1 0 _ rfl
 have k4 := hb.2.1 1 _ rfl
 have k5 := hb.2.1 2 _ rfl
 have k6 := hb.2.1 3 _ rfl
 have k7 := hb.2.1 4 _ rfl
 have hb0 := hb.2.2.1
 have HW := Lib.hid hW
 clear hW hbx hz0 hb
 have HB0 := Lib.hid hb0; clear hb0
 by_cases hk : k = 115
 ·skip
  subst hk
  by_cases h0 : 0 ≤ v
  ·by_cases h1 : v < fs
   ·rw [show placeB p ⟨fa, fr, fs, fo, fc⟩ 115 v args = true from by show withinB v fs = true; simp [withinB, h0, h1]]
    go_enter Tryz.func102, Tryz.ntmps102
    go_upto_region 1 with fail
    rw [← HW.out]
    go_wp2_with fail
    go_ret
    first | exact ⟨rfl, HB0.out⟩ | exact ⟨congrArg (fun b => Ending.returned (Value.bool b)) (decide_eq_true (by omega)), HB0.out⟩ | exact ⟨congrArg (fun b => Ending.returned (Value.bool b)) (decide_eq_false (by omega)), HB0.out⟩
   ·rw [show placeB p ⟨fa, fr, fs, fo, fc⟩ 115 v args = false from by show withinB v fs = false; simp [withinB, h0, h1]]
    go_enter Tryz.func102, Tryz.ntmps102
    go_upto_region 1 with fail
    rw [← HW.out]
    go_wp2_with fail
    go_ret
    first | exact ⟨rfl, HB0.out⟩ | exact ⟨congrArg (fun b => Ending.returned (Value.bool b)) (decide_eq_true (by omega)), HB0.out⟩ | exact ⟨congrArg (fun b => Ending.returned (Value.bool b)) (decide_eq_false (by omega)), HB0.out⟩
  ·rw [show placeB p ⟨fa, fr, fs, fo, fc⟩ 115 v args = false from by show withinB v fs = false; simp [withinB, h0]]
   go_enter Tryz.func102, Tryz.ntmps102
   go_upto_region 1 with fail
   rw [← HW.out]
   go_wp2_with fail
   go_ret
   first | exact ⟨rfl, HB0.out⟩ | exact ⟨congrArg (fun b => Ending.returned (Value.bool b)) (decide_eq_true (by omega)), HB0.out⟩ | exact ⟨congrArg (fun b => Ending.returned (Value.bool b)) (decide_eq_false (by omega)), HB0.out⟩
 have l1 : (k == 115) = false := by simpa using hk
 clear hk
 by_cases hk : k = 116
 ·skip
  subst hk
  by_cases h0 : 0 ≤ v
  ·by_cases h1 : v < (fc.length : Int)
   ·rw [show placeB p ⟨fa, fr, fs, fo, fc⟩ 116 v args = true from by show withinB v (fc.length : Int) = true; simp [withinB, h0, h1]]
    go_enter Tryz.func102, Tryz.ntmps102
    go_upto_region 1 with fail
    rw [← HW.out]
    go_wp2_with fail
    go_ret
    first | exact ⟨rfl, HB0.out⟩ | exact ⟨congrArg (fun b => Ending.returned (Value.bool b)) (decide_eq_true (by omega)), HB0.out⟩ | exact ⟨congrArg (fun b => Ending.returned (Value.bool b)) (decide_eq_false (by omega)), HB0.out⟩
   ·rw [show placeB p ⟨fa, fr, fs, fo, fc⟩ 116 v args = false from by show withinB v (fc.length : Int) = false; simp [withinB, h0, h1]]
    go_enter Tryz.func102, Tryz.ntmps102
    go_upto_region 1 with fail
    rw [← HW.out]
    go_wp2_with fail
    go_ret
    first | exact ⟨rfl, HB0.out⟩ | exact ⟨congrArg (fun b => Ending.returned (Value.bool b)) (decide_eq_true (by omega)), HB0.out⟩ | exact ⟨congrArg (fun b => Ending.returned (Value.bool b)) (decide_eq_false (by omega)), HB0.out⟩
  ·rw [show placeB p ⟨fa, fr, fs, fo, fc⟩ 116 v args = false from by show withinB v (fc.length : Int) = false; simp [withinB, h0]]
   go_enter Tryz.func102, Tryz.ntmps102
   go_upto_region 1 with fail
   rw [← HW.out]
   go_wp2_with fail
   go_ret
   first | exact ⟨rfl, HB0.out⟩ | exact ⟨congrArg (fun b => Ending.returned (Value.bool b)) (decide_eq_true (by omega)), HB0.out⟩ | exact ⟨congrArg (fun b => Ending.returned (Value.bool b)) (decide_eq_false (by omega)), HB0.out⟩
 have l2 : (k == 116) = false := by simpa using hk
 clear hk
 by_cases hk : k = 102
 ·skip
  subst hk
  by_cases h0 : 0 ≤ v
  ·by_cases h1 : v < (p.funcs.length : Int)
   ·rw [show placeB p ⟨fa, fr, fs, fo, fc⟩ 102 v args = true from by show withinB v (p.funcs.length : Int) = true; simp [withinB, h0, h1]]
    go_enter Tryz.func102, Tryz.ntmps102
    go_upto_region 1 with fail
    rw [← HW.out]
    go_wp2_with fail
    go_ret
    first | exact ⟨rfl, HB0.out⟩ | exact ⟨congrArg (fun b => Ending.returned (Value.bool b)) (decide_eq_true (by omega)), HB0.out⟩ | exact ⟨congrArg (fun b => Ending.returned (Value.bool b)) (decide_eq_false (by omega)), HB0.out⟩
   ·rw [show placeB p ⟨fa, fr, fs, fo, fc⟩ 102 v args = false from by show withinB v (p.funcs.length : Int) = false; simp [withinB, h0, h1]]
    go_enter Tryz.func102, Tryz.ntmps102
    go_upto_region 1 with fail
    rw [← HW.out]
    go_wp2_with fail
    go_ret
    first | exact ⟨rfl, HB0.out⟩ | exact ⟨congrArg (fun b => Ending.returned (Value.bool b)) (decide_eq_true (by omega)), HB0.out⟩ | exact ⟨congrArg (fun b => Ending.returned (Value.bool b)) (decide_eq_false (by omega)), HB0.out⟩
  ·rw [show placeB p ⟨fa, fr, fs, fo, fc⟩ 102 v args = false from by show withinB v (p.funcs.length : Int) = false; simp [withinB, h0]]
   go_enter Tryz.func102, Tryz.ntmps102
   go_upto_region 1 with fail
   rw [← HW.out]
   go_wp2_with fail
   go_ret
   first | exact ⟨rfl, HB0.out⟩ | exact ⟨congrArg (fun b => Ending.returned (Value.bool b)) (decide_eq_true (by omega)), HB0.out⟩ | exact ⟨congrArg (fun b => Ending.returned (Value.bool b)) (decide_eq_false (by omega)), HB0.out⟩
 have l3 : (k == 102) = false := by simpa using hk
 clear hk
 by_cases hk : k = 112
 ·skip
  subst hk
  by_cases h0 : 0 ≤ v
  ·by_cases h1 : v < (p.shapes.length : Int)
   ·rw [show placeB p ⟨fa, fr, fs, fo, fc⟩ 112 v args = true from by show withinB v (p.shapes.length : Int) = true; simp [withinB, h0, h1]]
    go_enter Tryz.func102, Tryz.ntmps102
    go_upto_region 1 with fail
    rw [← HW.out]
    go_wp2_with fail
    go_ret
    first | exact ⟨rfl, HB0.out⟩ | exact ⟨congrArg (fun b => Ending.returned (Value.bool b)) (decide_eq_true (by omega)), HB0.out⟩ | exact ⟨congrArg (fun b => Ending.returned (Value.bool b)) (decide_eq_false (by omega)), HB0.out⟩
   ·rw [show placeB p ⟨fa, fr, fs, fo, fc⟩ 112 v args = false from by show withinB v (p.shapes.length : Int) = false; simp [withinB, h0, h1]]
    go_enter Tryz.func102, Tryz.ntmps102
    go_upto_region 1 with fail
    rw [← HW.out]
    go_wp2_with fail
    go_ret
    first | exact ⟨rfl, HB0.out⟩ | exact ⟨congrArg (fun b => Ending.returned (Value.bool b)) (decide_eq_true (by omega)), HB0.out⟩ | exact ⟨congrArg (fun b => Ending.returned (Value.bool b)) (decide_eq_false (by omega)), HB0.out⟩
  ·rw [show placeB p ⟨fa, fr, fs, fo, fc⟩ 112 v args = false from by show withinB v (p.shapes.length : Int) = false; simp [withinB, h0]]
   go_enter Tryz.func102, Tryz.ntmps102
   go_upto_region 1 with fail
   rw [← HW.out]
   go_wp2_with fail
   go_ret
   first | exact ⟨rfl, HB0.out⟩ | exact ⟨congrArg (fun b => Ending.returned (Value.bool b)) (decide_eq_true (by omega)), HB0.out⟩ | exact ⟨congrArg (fun b => Ending.returned (Value.bool b)) (decide_eq_false (by omega)), HB0.out⟩
 have l4 : (k == 112) = false := by simpa using hk
 clear hk
 by_cases hk : k = 103
 ·skip
  subst hk
  by_cases h0 : 0 ≤ v
  ·by_cases h1 : v < (p.globals.length : Int)
   ·rw [show placeB p ⟨fa, fr, fs, fo, fc⟩ 103 v args = true from by show withinB v (p.globals.length : Int) = true; simp [withinB, h0, h1]]
    go_enter Tryz.func102, Tryz.ntmps102
    go_upto_region 1 with fail
    rw [← HW.out]
    go_wp2_with fail
    go_ret
    first | exact ⟨rfl, HB0.out⟩ | exact ⟨congrArg (fun b => Ending.returned (Value.bool b)) (decide_eq_true (by omega)), HB0.out⟩ | exact ⟨congrArg (fun b => Ending.returned (Value.bool b)) (decide_eq_false (by omega)), HB0.out⟩
   ·rw [show placeB p ⟨fa, fr, fs, fo, fc⟩ 103 v args = false from by show withinB v (p.globals.length : Int) = false; simp [withinB, h0, h1]]
    go_enter Tryz.func102, Tryz.ntmps102
    go_upto_region 1 with fail
    rw [← HW.out]
    go_wp2_with fail
    go_ret
    first | exact ⟨rfl, HB0.out⟩ | exact ⟨congrArg (fun b => Ending.returned (Value.bool b)) (decide_eq_true (by omega)), HB0.out⟩ | exact ⟨congrArg (fun b => Ending.returned (Value.bool b)) (decide_eq_false (by omega)), HB0.out⟩
  ·rw [show placeB p ⟨fa, fr, fs, fo, fc⟩ 103 v args = false from by show withinB v (p.globals.length : Int) = false; simp [withinB, h0]]
   go_enter Tryz.func102, Tryz.ntmps102
   go_upto_region 1 with fail
   rw [← HW.out]
   go_wp2_with fail
   go_ret
   first | exact ⟨rfl, HB0.out⟩ | exact ⟨congrArg (fun b => Ending.returned (Value.bool b)) (decide_eq_true (by omega)), HB0.out⟩ | exact ⟨congrArg (fun b => Ending.returned (Value.bool b)) (decide_eq_false (by omega)), HB0.out⟩
 have l5 : (k == 103) = false := by simpa using hk
 clear hk
 by_cases hk : k = 111
 ·skip
  subst hk
  by_cases h0 : 0 ≤ v
  ·by_cases h1 : v < (fo.length : Int)
   ·rw [show placeB p ⟨fa, fr, fs, fo, fc⟩ 111 v args = true from by show withinB v (fo.length : Int) = true; simp [withinB, h0, h1]]
    go_enter Tryz.func102, Tryz.ntmps102
    go_upto_region 1 with fail
    rw [← HW.out]
    go_wp2_with fail
    go_ret
    first | exact ⟨rfl, HB0.out⟩ | exact ⟨congrArg (fun b => Ending.returned (Value.bool b)) (decide_eq_true (by omega)), HB0.out⟩ | exact ⟨congrArg (fun b => Ending.returned (Value.bool b)) (decide_eq_false (by omega)), HB0.out⟩
   ·rw [show placeB p ⟨fa, fr, fs, fo, fc⟩ 111 v args = false from by show withinB v (fo.length : Int) = false; simp [withinB, h0, h1]]
    go_enter Tryz.func102, Tryz.ntmps102
    go_upto_region 1 with fail
    rw [← HW.out]
    go_wp2_with fail
    go_ret
    first | exact ⟨rfl, HB0.out⟩ | exact ⟨congrArg (fun b => Ending.returned (Value.bool b)) (decide_eq_true (by omega)), HB0.out⟩ | exact ⟨congrArg (fun b => Ending.returned (Value.bool b)) (decide_eq_false (by omega)), HB0.out⟩
  ·rw [show placeB p ⟨fa, fr, fs, fo, fc⟩ 111 v args = false from by show withinB v (fo.length : Int) = false; simp [withinB, h0]]
   go_enter Tryz.func102, Tryz.ntmps102
   go_upto_region 1 with fail
   rw [← HW.out]
   go_wp2_with fail
   go_ret
   first | exact ⟨rfl, HB0.out⟩ | exact ⟨congrArg (fun b => Ending.returned (Value.bool b)) (decide_eq_true (by omega)), HB0.out⟩ | exact ⟨congrArg (fun b => Ending.returned (Value.bool b)) (decide_eq_false (by omega)), HB0.out⟩
 have l6 : (k == 111) = false := by simpa using hk
 clear hk
 by_cases hk : k = 105
 ·skip
  subst hk
  by_cases h0 : 0 ≤ v
  ·by_cases h1 : v < 16
   ·rw [show placeB p ⟨fa, fr, fs, fo, fc⟩ 105 v args = true from by show withinB v 16 = true; simp [withinB, h0, h1]]
    go_enter Tryz.func102, Tryz.ntmps102
    go_upto_region 1 with fail
    rw [← HW.out]
    go_wp2_with fail
    go_ret
    first | exact ⟨rfl, HB0.out⟩ | exact ⟨congrArg (fun b => Ending.returned (Value.bool b)) (decide_eq_true (by omega)), HB0.out⟩ | exact ⟨congrArg (fun b => Ending.returned (Value.bool b)) (decide_eq_false (by omega)), HB0.out⟩
   ·rw [show placeB p ⟨fa, fr, fs, fo, fc⟩ 105 v args = false from by show withinB v 16 = false; simp [withinB, h0, h1]]
    go_enter Tryz.func102, Tryz.ntmps102
    go_upto_region 1 with fail
    rw [← HW.out]
    go_wp2_with fail
    go_ret
    first | exact ⟨rfl, HB0.out⟩ | exact ⟨congrArg (fun b => Ending.returned (Value.bool b)) (decide_eq_true (by omega)), HB0.out⟩ | exact ⟨congrArg (fun b => Ending.returned (Value.bool b)) (decide_eq_false (by omega)), HB0.out⟩
  ·rw [show placeB p ⟨fa, fr, fs, fo, fc⟩ 105 v args = false from by show withinB v 16 = false; simp [withinB, h0]]
   go_enter Tryz.func102, Tryz.ntmps102
   go_upto_region 1 with fail
   rw [← HW.out]
   go_wp2_with fail
   go_ret
   first | exact ⟨rfl, HB0.out⟩ | exact ⟨congrArg (fun b => Ending.returned (Value.bool b)) (decide_eq_true (by omega)), HB0.out⟩ | exact ⟨congrArg (fun b => Ending.returned (Value.bool b)) (decide_eq_false (by omega)), HB0.out⟩
 have l7 : (k == 105) = false := by simpa using hk
 clear hk
 by_cases hk : k = 97
 ·subst hk
  by_cases h0 : 0 ≤ v
  ·by_cases h1 : (args : Int) ≤ fs
   ·have i1 : IntKind.i64.wrap (fs - (args : Int)) = fs - (args : Int) := IntWalk.i64_in _ (by omega)
    by_cases h2 : v ≤ fs - (args : Int)
    ·rw [show placeB p ⟨fa, fr, fs, fo, fc⟩ 97 v args = true from by show roomB _ v args = true; simp [roomB, h0, h1, h2]]
     go_enter Tryz.func102, Tryz.ntmps102
     go_upto_region 1 with fail
     rw [← HW.out]
     go_wp2_with fail
     go_ret
     first | exact ⟨rfl, HB0.out⟩ | exact ⟨congrArg (fun b => Ending.returned (Value.bool b)) (decide_eq_true (by omega)), HB0.out⟩ | exact ⟨congrArg (fun b => Ending.returned (Value.bool b)) (decide_eq_false (by omega)), HB0.out⟩
    ·rw [show placeB p ⟨fa, fr, fs, fo, fc⟩ 97 v args = false from by show roomB _ v args = false; simp [roomB, h0, h1, h2]]
     go_enter Tryz.func102, Tryz.ntmps102
     go_upto_region 1 with fail
     rw [← HW.out]
     go_wp2_with fail
     go_ret
     first | exact ⟨rfl, HB0.out⟩ | exact ⟨congrArg (fun b => Ending.returned (Value.bool b)) (decide_eq_true (by omega)), HB0.out⟩ | exact ⟨congrArg (fun b => Ending.returned (Value.bool b)) (decide_eq_false (by omega)), HB0.out⟩
   ·rw [show placeB p ⟨fa, fr, fs, fo, fc⟩ 97 v args = false from by show roomB _ v args = false; simp [roomB, h0, h1]]
    go_enter Tryz.func102, Tryz.ntmps102
    go_upto_region 1 with fail
    rw [← HW.out]
    go_wp2_with fail
    go_ret
    first | exact ⟨rfl, HB0.out⟩ | exact ⟨congrArg (fun b => Ending.returned (Value.bool b)) (decide_eq_true (by omega)), HB0.out⟩ | exact ⟨congrArg (fun b => Ending.returned (Value.bool b)) (decide_eq_false (by omega)), HB0.out⟩
  ·rw [show placeB p ⟨fa, fr, fs, fo, fc⟩ 97 v args = false from by show roomB _ v args = false; simp [roomB, h0]]
   go_enter Tryz.func102, Tryz.ntmps102
   go_upto_region 1 with fail
   rw [← HW.out]
   go_wp2_with fail
   go_ret
   first | exact ⟨rfl, HB0.out⟩ | exact ⟨congrArg (fun b => Ending.returned (Value.bool b)) (decide_eq_true (by omega)), HB0.out⟩ | exact ⟨congrArg (fun b => Ending.returned (Value.bool b)) (decide_eq_false (by omega)), HB0.out⟩
 have l8 : (k == 97) = false := by simpa using hk
 rw [show placeB p ⟨fa, fr, fs, fo, fc⟩ k v args = true from by
  have q1 : k ≠ 115 := by simpa using l1
  have q2 : k ≠ 116 := by simpa using l2
  have q3 : k ≠ 102 := by simpa using l3
  have q4 : k ≠ 112 := by simpa using l4
  have q5 : k ≠ 103 := by simpa using l5
  have q6 : k ≠ 111 := by simpa using l6
  have q7 : k ≠ 105 := by simpa using l7
  unfold placeB topL
  rw [if_neg hk, if_neg q1, if_neg q2, if_neg q3, if_neg q4, if_neg q5, if_neg q6, if_neg q7]]
 clear hk
 go_enter Tryz.func102, Tryz.ntmps102
 go_upto_region 1 with fail
 rw [← HW.out]
 go_wp2_with fail
 go_ret
 first | exact ⟨rfl, HB0.out⟩ | exact ⟨congrArg (fun b => Ending.returned (Value.bool b)) (decide_eq_true (by omega)), HB0.out⟩ | exact ⟨congrArg (fun b => Ending.returned (Value.bool b)) (decide_eq_false (by omega)), HB0.out⟩
end Go.Proofs.YtjcjhfnjamphlaaGreat
