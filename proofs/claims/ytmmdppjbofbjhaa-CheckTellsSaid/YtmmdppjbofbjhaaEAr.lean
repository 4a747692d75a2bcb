/- Walks: the reference's Field, Valid, IsLoc, place. Walks: shape.Check, the reference's Shapes. Walk: check.whole: why a program may not be, but for its functions. Walks: check.Func, check.Args. -/
import Derived.Test.YtmmdppjbofbjhaaEAm
import Derived.Test.YtmmdppjbofbjhaaEAf
import Derived.BigRegion
import Derived.Test.YtmmdppjbofbjhaaEAq
namespace Go.Proofs.Ytmmdppjbofbjhaa
open Go.ChangeShapes Go.WideShapes Go.ChangeAt Go.RowKit Go.Maps

set_option maxRecDepth 100000 in
theorem rfield_any (w : World) (kind : Int) (n : Nat) (hn : n ≤ 100000) :
    Calls Try.prog 68 #[.int .i64 kind, .int .i64 n] w fun e w' => e = .returned (.bool (fieldB kind n)) ∧ w = w' := by
  have n0 : (0 : Int) ≤ n := by omega
  have i1 : IntKind.i64.wrap (16 + (n : Int)) = 16 + (n : Int) := IntWalk.i64_in _ (by omega)
  by_cases h16 : n ≤ 16
  · have n1 : (n : Int) ≤ 16 := by omega
    by_cases h1 : kind = 1
    · have e1 : (kind == 1) = true := by simpa using h1
      rw [show fieldB kind n = true from by unfold fieldB; simp [h16, h1]; try omega]
      go_enter Try.func68, Try.ntmps68
      go_wp2_with fail
      go_ret
      exact ⟨rfl, rfl⟩
    · have e1 : (kind == 1) = false := by simpa using h1
      by_cases h2 : 16 ≤ kind
      · by_cases h3 : kind < 16 + (n : Int)
        · skip
          rw [show fieldB kind n = true from by unfold fieldB; simp [h16, h1, h2, h3]; try omega]
          go_enter Try.func68, Try.ntmps68
          go_wp2_with fail
          go_ret
          exact ⟨rfl, rfl⟩
        · skip
          rw [show fieldB kind n = false from by unfold fieldB; simp [h16, h1, h2, h3]; try omega]
          go_enter Try.func68, Try.ntmps68
          go_wp2_with fail
          go_ret
          exact ⟨rfl, rfl⟩
      · skip
        rw [show fieldB kind n = false from by unfold fieldB; simp [h16, h1, h2]; try omega]
        go_enter Try.func68, Try.ntmps68
        go_wp2_with fail
        go_ret
        exact ⟨rfl, rfl⟩
  · have n1 : ¬ (n : Int) ≤ 16 := by omega
    rw [show fieldB kind n = false from by unfold fieldB; simp [h16]; try omega]
    go_enter Try.func68, Try.ntmps68
    go_wp2_with fail
    go_ret
    exact ⟨rfl, rfl⟩
set_option maxRecDepth 100000 in
theorem rvalid_any (w : World) (kind : Int) (n : Nat) (hn : n ≤ 100000) :
    Calls Try.prog 139 #[.int .i64 kind, .int .i64 n] w fun e w' => e = .returned (.bool (validB kind n)) ∧ w = w' := by
  have n0 : (0 : Int) ≤ n := by omega
  have i1 : IntKind.i64.wrap (64 + (n : Int)) = 64 + (n : Int) := IntWalk.i64_in _ (by omega)
  have rf := rfield_any w kind n hn
  cases hf : fieldB kind n
  · rw [hf] at rf
    have RF := Lib.hid rf; clear rf
    by_cases h16 : n ≤ 16
    · have n1 : (n : Int) ≤ 16 := by omega
      by_cases h2 : 64 ≤ kind
      · by_cases h3 : kind < 64 + (n : Int)
        · skip
          rw [show validB kind n = true from by unfold validB; rw [hf]; simp [h16, h2, h3]; try omega]
          clear hf
          go_enter Try.func139, Try.ntmps139
          go_wp2_with fail
          refine RF.out.mono ?_
          rintro e w' ⟨rfl, rfl⟩
          go_wp2_with fail
          go_ret
          first | exact ⟨rfl, rfl⟩ | exact ⟨congrArg (fun b => Ending.returned (Value.bool b)) (decide_eq_true (by omega)), rfl⟩ | exact ⟨congrArg (fun b => Ending.returned (Value.bool b)) (decide_eq_false (by omega)), rfl⟩
        · skip
          rw [show validB kind n = false from by unfold validB; rw [hf]; simp [h16, h2, h3]; try omega]
          clear hf
          go_enter Try.func139, Try.ntmps139
          go_wp2_with fail
          refine RF.out.mono ?_
          rintro e w' ⟨rfl, rfl⟩
          go_wp2_with fail
          go_ret
          first | exact ⟨rfl, rfl⟩ | exact ⟨congrArg (fun b => Ending.returned (Value.bool b)) (decide_eq_true (by omega)), rfl⟩ | exact ⟨congrArg (fun b => Ending.returned (Value.bool b)) (decide_eq_false (by omega)), rfl⟩
      · skip
        rw [show validB kind n = false from by unfold validB; rw [hf]; simp [h16, h2]; try omega]
        clear hf
        go_enter Try.func139, Try.ntmps139
        go_wp2_with fail
        refine RF.out.mono ?_
        rintro e w' ⟨rfl, rfl⟩
        go_wp2_with fail
        go_ret
        first | exact ⟨rfl, rfl⟩ | exact ⟨congrArg (fun b => Ending.returned (Value.bool b)) (decide_eq_true (by omega)), rfl⟩ | exact ⟨congrArg (fun b => Ending.returned (Value.bool b)) (decide_eq_false (by omega)), rfl⟩
    · have n1 : ¬ (n : Int) ≤ 16 := by omega
      rw [show validB kind n = false from by unfold validB; rw [hf]; simp [h16]; try omega]
      clear hf
      go_enter Try.func139, Try.ntmps139
      go_wp2_with fail
      refine RF.out.mono ?_
      rintro e w' ⟨rfl, rfl⟩
      go_wp2_with fail
      go_ret
      first | exact ⟨rfl, rfl⟩ | exact ⟨congrArg (fun b => Ending.returned (Value.bool b)) (decide_eq_true (by omega)), rfl⟩ | exact ⟨congrArg (fun b => Ending.returned (Value.bool b)) (decide_eq_false (by omega)), rfl⟩
  · rw [hf] at rf
    have RF := Lib.hid rf; clear rf
    rw [show validB kind n = true from by unfold validB; rw [hf]; simp; try omega]
    clear hf
    go_enter Try.func139, Try.ntmps139
    go_wp2_with fail
    refine RF.out.mono ?_
    rintro e w' ⟨rfl, rfl⟩
    go_wp2_with fail
    go_ret
    first | exact ⟨rfl, rfl⟩ | exact ⟨congrArg (fun b => Ending.returned (Value.bool b)) (decide_eq_true (by omega)), rfl⟩ | exact ⟨congrArg (fun b => Ending.returned (Value.bool b)) (decide_eq_false (by omega)), rfl⟩
set_option maxRecDepth 100000 in
theorem risLoc_any (w : World) (kind : Int) :
    Calls Try.prog 141 #[.int .i64 kind] w fun e w' => e = .returned (.bool (isLocB kind)) ∧ w = w' := by
  by_cases h1 : 64 ≤ kind
  · by_cases h2 : kind < 80
    · skip
      rw [show isLocB kind = true from by unfold isLocB; simp [h1, h2]]
      go_enter Try.func141, Try.ntmps141
      go_wp2_with fail
      go_ret
      exact ⟨rfl, rfl⟩
    · skip
      rw [show isLocB kind = false from by unfold isLocB; simp [h1, h2]]
      go_enter Try.func141, Try.ntmps141
      go_wp2_with fail
      go_ret
      exact ⟨rfl, rfl⟩
  · skip
    rw [show isLocB kind = false from by unfold isLocB; simp [h1]]
    go_enter Try.func141, Try.ntmps141
    go_wp2_with fail
    go_ret
    exact ⟨rfl, rfl⟩
set_option maxRecDepth 100000 in
set_option maxHeartbeats 3200000 in
theorem place_any (w : World) (p : Prg) (f : Fun) (a0 a1 a2 e0 e2 e4 : Option Addr) (m0 m1 m2 e1 e3 e5 : Nat) (k v : Int) (args : Nat) (hs : f.slots ≤ 9223372036854775807) :
    Calls Try.prog 140 #[.agg #[.slice a0 p.globals.length m0, .slice a1 p.shapes.length m1, .slice a2 p.funcs.length m2], .agg #[.slice e0 f.args.length e1, .int .i64 f.result, .int .i64 f.slots, .slice e2 f.objects.length e3, .slice e4 f.code.length e5], .int .u8 k, .int .i64 v, .int .i64 args] w fun e w' => e = .returned (.bool (placeB p f k v args)) ∧ Below w.heap.size w w' := by
  obtain ⟨fa, fr, fs, fo, fc⟩ := f
  dsimp only at hs ⊢
  have hbx := fun wr h => box2 w #[.slice a0 p.globals.length m0, .slice a1 p.shapes.length m1, .slice a2 p.funcs.length m2] #[.slice e0 fa.length e1, .int .i64 fr, .int .i64 fs, .slice e2 fo.length e3, .slice e4 fc.length e5] 71 86 wr h
  have hz0 : ((w.alloc (.cells #[.slice a0 p.globals.length m0, .slice a1 p.shapes.length m1, .slice a2 p.funcs.length m2] 71)).alloc (.cells #[.slice e0 fa.length e1, .int .i64 fr, .int .i64 fs, .slice e2 fo.length e3, .slice e4 fc.length e5] 86)).heap.size = w.heap.size + 2 := by simp
  obtain ⟨W, hW⟩ : ∃ W, W = (w.alloc (.cells #[.slice a0 p.globals.length m0, .slice a1 p.shapes.length m1, .slice a2 p.funcs.length m2] 71)).alloc (.cells #[.slice e0 fa.length e1, .int .i64 fr, .int .i64 fs, .slice e2 fo.length e3, .slice e4 fc.length e5] 86) := ⟨_, rfl⟩
  rw [← hW] at hbx hz0
  have hb := hbx W (by rw [← hz0]; exact Below.refl _ _)
  have k0 := hb.1 0 _ rfl
  have k1 := hb.1 1 _ rfl
  have k2 := hb.1 2 _ rfl
  have k3 := hb.2.1 0 _ rfl
  have k4 := hb.2.1 1 _ rfl
  have k5 := hb.2.1 2 _ rfl
  have k6 := hb.2.1 3 _ rfl
  have k7 := hb.2.1 4 _ rfl
  have hb0 := hb.2.2.1
  have HW := Lib.hid hW
  clear hW hbx hz0 hb
  have HB0 := Lib.hid hb0; clear hb0
  by_cases hk : k = 115
  · skip
    subst hk
    by_cases h0 : 0 ≤ v
    · by_cases h1 : v < fs
      · rw [show placeB p ⟨fa, fr, fs, fo, fc⟩ 115 v args = true from by show withinB v fs = true; simp [withinB, h0, h1]]
        go_enter Try.func140, Try.ntmps140
        go_upto_region 1 with fail
        rw [← HW.out]
        go_wp2_with fail
        go_ret
        first | exact ⟨rfl, HB0.out⟩ | exact ⟨congrArg (fun b => Ending.returned (Value.bool b)) (decide_eq_true (by omega)), HB0.out⟩ | exact ⟨congrArg (fun b => Ending.returned (Value.bool b)) (decide_eq_false (by omega)), HB0.out⟩
      · rw [show placeB p ⟨fa, fr, fs, fo, fc⟩ 115 v args = false from by show withinB v fs = false; simp [withinB, h0, h1]]
        go_enter Try.func140, Try.ntmps140
        go_upto_region 1 with fail
        rw [← HW.out]
        go_wp2_with fail
        go_ret
        first | exact ⟨rfl, HB0.out⟩ | exact ⟨congrArg (fun b => Ending.returned (Value.bool b)) (decide_eq_true (by omega)), HB0.out⟩ | exact ⟨congrArg (fun b => Ending.returned (Value.bool b)) (decide_eq_false (by omega)), HB0.out⟩
    · rw [show placeB p ⟨fa, fr, fs, fo, fc⟩ 115 v args = false from by show withinB v fs = false; simp [withinB, h0]]
      go_enter Try.func140, Try.ntmps140
      go_upto_region 1 with fail
      rw [← HW.out]
      go_wp2_with fail
      go_ret
      first | exact ⟨rfl, HB0.out⟩ | exact ⟨congrArg (fun b => Ending.returned (Value.bool b)) (decide_eq_true (by omega)), HB0.out⟩ | exact ⟨congrArg (fun b => Ending.returned (Value.bool b)) (decide_eq_false (by omega)), HB0.out⟩
  have l1 : (k == 115) = false := by simpa using hk
  clear hk
  by_cases hk : k = 116
  · skip
    subst hk
    by_cases h0 : 0 ≤ v
    · by_cases h1 : v < (fc.length : Int)
      · rw [show placeB p ⟨fa, fr, fs, fo, fc⟩ 116 v args = true from by show withinB v (fc.length : Int) = true; simp [withinB, h0, h1]]
        go_enter Try.func140, Try.ntmps140
        go_upto_region 1 with fail
        rw [← HW.out]
        go_wp2_with fail
        go_ret
        first | exact ⟨rfl, HB0.out⟩ | exact ⟨congrArg (fun b => Ending.returned (Value.bool b)) (decide_eq_true (by omega)), HB0.out⟩ | exact ⟨congrArg (fun b => Ending.returned (Value.bool b)) (decide_eq_false (by omega)), HB0.out⟩
      · rw [show placeB p ⟨fa, fr, fs, fo, fc⟩ 116 v args = false from by show withinB v (fc.length : Int) = false; simp [withinB, h0, h1]]
        go_enter Try.func140, Try.ntmps140
        go_upto_region 1 with fail
        rw [← HW.out]
        go_wp2_with fail
        go_ret
        first | exact ⟨rfl, HB0.out⟩ | exact ⟨congrArg (fun b => Ending.returned (Value.bool b)) (decide_eq_true (by omega)), HB0.out⟩ | exact ⟨congrArg (fun b => Ending.returned (Value.bool b)) (decide_eq_false (by omega)), HB0.out⟩
    · rw [show placeB p ⟨fa, fr, fs, fo, fc⟩ 116 v args = false from by show withinB v (fc.length : Int) = false; simp [withinB, h0]]
      go_enter Try.func140, Try.ntmps140
      go_upto_region 1 with fail
      rw [← HW.out]
      go_wp2_with fail
      go_ret
      first | exact ⟨rfl, HB0.out⟩ | exact ⟨congrArg (fun b => Ending.returned (Value.bool b)) (decide_eq_true (by omega)), HB0.out⟩ | exact ⟨congrArg (fun b => Ending.returned (Value.bool b)) (decide_eq_false (by omega)), HB0.out⟩
  have l2 : (k == 116) = false := by simpa using hk
  clear hk
  by_cases hk : k = 102
  · skip
    subst hk
    by_cases h0 : 0 ≤ v
    · by_cases h1 : v < (p.funcs.length : Int)
      · rw [show placeB p ⟨fa, fr, fs, fo, fc⟩ 102 v args = true from by show withinB v (p.funcs.length : Int) = true; simp [withinB, h0, h1]]
        go_enter Try.func140, Try.ntmps140
        go_upto_region 1 with fail
        rw [← HW.out]
        go_wp2_with fail
        go_ret
        first | exact ⟨rfl, HB0.out⟩ | exact ⟨congrArg (fun b => Ending.returned (Value.bool b)) (decide_eq_true (by omega)), HB0.out⟩ | exact ⟨congrArg (fun b => Ending.returned (Value.bool b)) (decide_eq_false (by omega)), HB0.out⟩
      · rw [show placeB p ⟨fa, fr, fs, fo, fc⟩ 102 v args = false from by show withinB v (p.funcs.length : Int) = false; simp [withinB, h0, h1]]
        go_enter Try.func140, Try.ntmps140
        go_upto_region 1 with fail
        rw [← HW.out]
        go_wp2_with fail
        go_ret
        first | exact ⟨rfl, HB0.out⟩ | exact ⟨congrArg (fun b => Ending.returned (Value.bool b)) (decide_eq_true (by omega)), HB0.out⟩ | exact ⟨congrArg (fun b => Ending.returned (Value.bool b)) (decide_eq_false (by omega)), HB0.out⟩
    · rw [show placeB p ⟨fa, fr, fs, fo, fc⟩ 102 v args = false from by show withinB v (p.funcs.length : Int) = false; simp [withinB, h0]]
      go_enter Try.func140, Try.ntmps140
      go_upto_region 1 with fail
      rw [← HW.out]
      go_wp2_with fail
      go_ret
      first | exact ⟨rfl, HB0.out⟩ | exact ⟨congrArg (fun b => Ending.returned (Value.bool b)) (decide_eq_true (by omega)), HB0.out⟩ | exact ⟨congrArg (fun b => Ending.returned (Value.bool b)) (decide_eq_false (by omega)), HB0.out⟩
  have l3 : (k == 102) = false := by simpa using hk
  clear hk
  by_cases hk : k = 112
  · skip
    subst hk
    by_cases h0 : 0 ≤ v
    · by_cases h1 : v < (p.shapes.length : Int)
      · rw [show placeB p ⟨fa, fr, fs, fo, fc⟩ 112 v args = true from by show withinB v (p.shapes.length : Int) = true; simp [withinB, h0, h1]]
        go_enter Try.func140, Try.ntmps140
        go_upto_region 1 with fail
        rw [← HW.out]
        go_wp2_with fail
        go_ret
        first | exact ⟨rfl, HB0.out⟩ | exact ⟨congrArg (fun b => Ending.returned (Value.bool b)) (decide_eq_true (by omega)), HB0.out⟩ | exact ⟨congrArg (fun b => Ending.returned (Value.bool b)) (decide_eq_false (by omega)), HB0.out⟩
      · rw [show placeB p ⟨fa, fr, fs, fo, fc⟩ 112 v args = false from by show withinB v (p.shapes.length : Int) = false; simp [withinB, h0, h1]]
        go_enter Try.func140, Try.ntmps140
        go_upto_region 1 with fail
        rw [← HW.out]
        go_wp2_with fail
        go_ret
        first | exact ⟨rfl, HB0.out⟩ | exact ⟨congrArg (fun b => Ending.returned (Value.bool b)) (decide_eq_true (by omega)), HB0.out⟩ | exact ⟨congrArg (fun b => Ending.returned (Value.bool b)) (decide_eq_false (by omega)), HB0.out⟩
    · rw [show placeB p ⟨fa, fr, fs, fo, fc⟩ 112 v args = false from by show withinB v (p.shapes.length : Int) = false; simp [withinB, h0]]
      go_enter Try.func140, Try.ntmps140
      go_upto_region 1 with fail
      rw [← HW.out]
      go_wp2_with fail
      go_ret
      first | exact ⟨rfl, HB0.out⟩ | exact ⟨congrArg (fun b => Ending.returned (Value.bool b)) (decide_eq_true (by omega)), HB0.out⟩ | exact ⟨congrArg (fun b => Ending.returned (Value.bool b)) (decide_eq_false (by omega)), HB0.out⟩
  have l4 : (k == 112) = false := by simpa using hk
  clear hk
  by_cases hk : k = 103
  · skip
    subst hk
    by_cases h0 : 0 ≤ v
    · by_cases h1 : v < (p.globals.length : Int)
      · rw [show placeB p ⟨fa, fr, fs, fo, fc⟩ 103 v args = true from by show withinB v (p.globals.length : Int) = true; simp [withinB, h0, h1]]
        go_enter Try.func140, Try.ntmps140
        go_upto_region 1 with fail
        rw [← HW.out]
        go_wp2_with fail
        go_ret
        first | exact ⟨rfl, HB0.out⟩ | exact ⟨congrArg (fun b => Ending.returned (Value.bool b)) (decide_eq_true (by omega)), HB0.out⟩ | exact ⟨congrArg (fun b => Ending.returned (Value.bool b)) (decide_eq_false (by omega)), HB0.out⟩
      · rw [show placeB p ⟨fa, fr, fs, fo, fc⟩ 103 v args = false from by show withinB v (p.globals.length : Int) = false; simp [withinB, h0, h1]]
        go_enter Try.func140, Try.ntmps140
        go_upto_region 1 with fail
        rw [← HW.out]
        go_wp2_with fail
        go_ret
        first | exact ⟨rfl, HB0.out⟩ | exact ⟨congrArg (fun b => Ending.returned (Value.bool b)) (decide_eq_true (by omega)), HB0.out⟩ | exact ⟨congrArg (fun b => Ending.returned (Value.bool b)) (decide_eq_false (by omega)), HB0.out⟩
    · rw [show placeB p ⟨fa, fr, fs, fo, fc⟩ 103 v args = false from by show withinB v (p.globals.length : Int) = false; simp [withinB, h0]]
      go_enter Try.func140, Try.ntmps140
      go_upto_region 1 with fail
      rw [← HW.out]
      go_wp2_with fail
      go_ret
      first | exact ⟨rfl, HB0.out⟩ | exact ⟨congrArg (fun b => Ending.returned (Value.bool b)) (decide_eq_true (by omega)), HB0.out⟩ | exact ⟨congrArg (fun b => Ending.returned (Value.bool b)) (decide_eq_false (by omega)), HB0.out⟩
  have l5 : (k == 103) = false := by simpa using hk
  clear hk
  by_cases hk : k = 111
  · skip
    subst hk
    by_cases h0 : 0 ≤ v
    · by_cases h1 : v < (fo.length : Int)
      · rw [show placeB p ⟨fa, fr, fs, fo, fc⟩ 111 v args = true from by show withinB v (fo.length : Int) = true; simp [withinB, h0, h1]]
        go_enter Try.func140, Try.ntmps140
        go_upto_region 1 with fail
        rw [← HW.out]
        go_wp2_with fail
        go_ret
        first | exact ⟨rfl, HB0.out⟩ | exact ⟨congrArg (fun b => Ending.returned (Value.bool b)) (decide_eq_true (by omega)), HB0.out⟩ | exact ⟨congrArg (fun b => Ending.returned (Value.bool b)) (decide_eq_false (by omega)), HB0.out⟩
      · rw [show placeB p ⟨fa, fr, fs, fo, fc⟩ 111 v args = false from by show withinB v (fo.length : Int) = false; simp [withinB, h0, h1]]
        go_enter Try.func140, Try.ntmps140
        go_upto_region 1 with fail
        rw [← HW.out]
        go_wp2_with fail
        go_ret
        first | exact ⟨rfl, HB0.out⟩ | exact ⟨congrArg (fun b => Ending.returned (Value.bool b)) (decide_eq_true (by omega)), HB0.out⟩ | exact ⟨congrArg (fun b => Ending.returned (Value.bool b)) (decide_eq_false (by omega)), HB0.out⟩
    · rw [show placeB p ⟨fa, fr, fs, fo, fc⟩ 111 v args = false from by show withinB v (fo.length : Int) = false; simp [withinB, h0]]
      go_enter Try.func140, Try.ntmps140
      go_upto_region 1 with fail
      rw [← HW.out]
      go_wp2_with fail
      go_ret
      first | exact ⟨rfl, HB0.out⟩ | exact ⟨congrArg (fun b => Ending.returned (Value.bool b)) (decide_eq_true (by omega)), HB0.out⟩ | exact ⟨congrArg (fun b => Ending.returned (Value.bool b)) (decide_eq_false (by omega)), HB0.out⟩
  have l6 : (k == 111) = false := by simpa using hk
  clear hk
  by_cases hk : k = 105
  · skip
    subst hk
    by_cases h0 : 0 ≤ v
    · by_cases h1 : v < 16
      · rw [show placeB p ⟨fa, fr, fs, fo, fc⟩ 105 v args = true from by show withinB v 16 = true; simp [withinB, h0, h1]]
        go_enter Try.func140, Try.ntmps140
        go_upto_region 1 with fail
        rw [← HW.out]
        go_wp2_with fail
        go_ret
        first | exact ⟨rfl, HB0.out⟩ | exact ⟨congrArg (fun b => Ending.returned (Value.bool b)) (decide_eq_true (by omega)), HB0.out⟩ | exact ⟨congrArg (fun b => Ending.returned (Value.bool b)) (decide_eq_false (by omega)), HB0.out⟩
      · rw [show placeB p ⟨fa, fr, fs, fo, fc⟩ 105 v args = false from by show withinB v 16 = false; simp [withinB, h0, h1]]
        go_enter Try.func140, Try.ntmps140
        go_upto_region 1 with fail
        rw [← HW.out]
        go_wp2_with fail
        go_ret
        first | exact ⟨rfl, HB0.out⟩ | exact ⟨congrArg (fun b => Ending.returned (Value.bool b)) (decide_eq_true (by omega)), HB0.out⟩ | exact ⟨congrArg (fun b => Ending.returned (Value.bool b)) (decide_eq_false (by omega)), HB0.out⟩
    · rw [show placeB p ⟨fa, fr, fs, fo, fc⟩ 105 v args = false from by show withinB v 16 = false; simp [withinB, h0]]
      go_enter Try.func140, Try.ntmps140
      go_upto_region 1 with fail
      rw [← HW.out]
      go_wp2_with fail
      go_ret
      first | exact ⟨rfl, HB0.out⟩ | exact ⟨congrArg (fun b => Ending.returned (Value.bool b)) (decide_eq_true (by omega)), HB0.out⟩ | exact ⟨congrArg (fun b => Ending.returned (Value.bool b)) (decide_eq_false (by omega)), HB0.out⟩
  have l7 : (k == 105) = false := by simpa using hk
  clear hk
  by_cases hk : k = 97
  · subst hk
    by_cases h0 : 0 ≤ v
    · by_cases h1 : (args : Int) ≤ fs
      · have i1 : IntKind.i64.wrap (fs - (args : Int)) = fs - (args : Int) := IntWalk.i64_in _ (by omega)
        by_cases h2 : v ≤ fs - (args : Int)
        · rw [show placeB p ⟨fa, fr, fs, fo, fc⟩ 97 v args = true from by show roomB _ v args = true; simp [roomB, h0, h1, h2]]
          go_enter Try.func140, Try.ntmps140
          go_upto_region 1 with fail
          rw [← HW.out]
          go_wp2_with fail
          go_ret
          first | exact ⟨rfl, HB0.out⟩ | exact ⟨congrArg (fun b => Ending.returned (Value.bool b)) (decide_eq_true (by omega)), HB0.out⟩ | exact ⟨congrArg (fun b => Ending.returned (Value.bool b)) (decide_eq_false (by omega)), HB0.out⟩
        · rw [show placeB p ⟨fa, fr, fs, fo, fc⟩ 97 v args = false from by show roomB _ v args = false; simp [roomB, h0, h1, h2]]
          go_enter Try.func140, Try.ntmps140
          go_upto_region 1 with fail
          rw [← HW.out]
          go_wp2_with fail
          go_ret
          first | exact ⟨rfl, HB0.out⟩ | exact ⟨congrArg (fun b => Ending.returned (Value.bool b)) (decide_eq_true (by omega)), HB0.out⟩ | exact ⟨congrArg (fun b => Ending.returned (Value.bool b)) (decide_eq_false (by omega)), HB0.out⟩
      · rw [show placeB p ⟨fa, fr, fs, fo, fc⟩ 97 v args = false from by show roomB _ v args = false; simp [roomB, h0, h1]]
        go_enter Try.func140, Try.ntmps140
        go_upto_region 1 with fail
        rw [← HW.out]
        go_wp2_with fail
        go_ret
        first | exact ⟨rfl, HB0.out⟩ | exact ⟨congrArg (fun b => Ending.returned (Value.bool b)) (decide_eq_true (by omega)), HB0.out⟩ | exact ⟨congrArg (fun b => Ending.returned (Value.bool b)) (decide_eq_false (by omega)), HB0.out⟩
    · rw [show placeB p ⟨fa, fr, fs, fo, fc⟩ 97 v args = false from by show roomB _ v args = false; simp [roomB, h0]]
      go_enter Try.func140, Try.ntmps140
      go_upto_region 1 with fail
      rw [← HW.out]
      go_wp2_with fail
      go_ret
      first | exact ⟨rfl, HB0.out⟩ | exact ⟨congrArg (fun b => Ending.returned (Value.bool b)) (decide_eq_true (by omega)), HB0.out⟩ | exact ⟨congrArg (fun b => Ending.returned (Value.bool b)) (decide_eq_false (by omega)), HB0.out⟩
  have l8 : (k == 97) = false := by simpa using hk
  rw [show placeB p ⟨fa, fr, fs, fo, fc⟩ k v args = true from by
    have q1 : k ≠ 115 := by simpa using l1
    have q2 : k ≠ 116 := by simpa using l2
    have q3 : k ≠ 102 := by simpa using l3
    have q4 : k ≠ 112 := by simpa using l4
    have q5 : k ≠ 103 := by simpa using l5
    have q6 : k ≠ 111 := by simpa using l6
    have q7 : k ≠ 105 := by simpa using l7
    unfold placeB topL
    rw [if_neg hk, if_neg q1, if_neg q2, if_neg q3, if_neg q4, if_neg q5, if_neg q6, if_neg q7]]
  clear hk
  go_enter Try.func140, Try.ntmps140
  go_upto_region 1 with fail
  rw [← HW.out]
  go_wp2_with fail
  go_ret
  first | exact ⟨rfl, HB0.out⟩ | exact ⟨congrArg (fun b => Ending.returned (Value.bool b)) (decide_eq_true (by omega)), HB0.out⟩ | exact ⟨congrArg (fun b => Ending.returned (Value.bool b)) (decide_eq_false (by omega)), HB0.out⟩
end Go.Proofs.Ytmmdppjbofbjhaa
namespace Go.Proofs.Ytmmdppjbofbjhaa
open Go.ChangeShapes Go.WideShapes Go.ChangeAt Go.RowKit Go.Maps

def ShOk (l : List (List Int)) (k : Nat) : Prop := ∀ j, j < k → shErr l.length (l[j]?.getD []) = 0
theorem shapes_hit (l : List (List Int)) (h16 : ¬ 16 < l.length) (i : Nat) (hi : i < l.length) (hp : ShOk l i) (hne : shErr l.length l[i] ≠ 0) : shapesErr l = shErr l.length l[i] := by
  unfold shapesErr
  rw [if_neg h16]
  have e : shErr l.length (l[i]?.getD []) = shErr l.length l[i] := by simp [hi]
  rw [firstAt_hit (k := i) hi hp (by rw [e]; exact hne), e]
theorem shapes_zero (l : List (List Int)) (h16 : ¬ 16 < l.length) (hp : ShOk l l.length) : shapesErr l = 0 := by
  unfold shapesErr
  rw [if_neg h16, firstAt_none hp]
theorem shOk_succ (l : List (List Int)) (k : Nat) (hk : k < l.length) (hp : ShOk l k) (h : shErr l.length l[k] = 0) : ShOk l (k + 1) := fun j hj => by
  by_cases he : j = k
  · subst he
    simpa [hk] using h
  · exact hp j (by omega)
theorem shErr_len {n : Nat} {x : List Int} (h : x.length < 1 ∨ 16 < x.length) : shErr n x = 1 := if_pos h
theorem shErr_no {n : Nat} {x : List Int} (h : ¬ (x.length < 1 ∨ 16 < x.length)) (h2 : x.all (fieldB · n) = false) : shErr n x = 3 := by unfold shErr; rw [if_neg h, if_neg (by rw [h2]; simp)]
theorem shErr_ok {n : Nat} {x : List Int} (h : ¬ (x.length < 1 ∨ 16 < x.length)) (h2 : x.all (fieldB · n) = true) : shErr n x = 0 := by unfold shErr; rw [if_neg h, if_pos h2]
theorem allF_take {P : Int → Bool} {l : List Int} {k : Nat} (hk : k < l.length) (h : (l.take k).all P = true) : (l.take (k + 1)).all P = P l[k] := by
  rw [take_snoc l k hk, List.all_append, h]
  simp
theorem allF_no {P : Int → Bool} {l : List Int} {k : Nat} (hk : k < l.length) (h : P l[k] = false) : l.all P = false := by
  rw [List.all_eq_false]
  exact ⟨l[k], List.getElem_mem hk, by simp [h]⟩
set_option maxRecDepth 100000 in
set_option maxHeartbeats 1600000 in
theorem rshapes_any (w : World) (D : Nat → Prop) (a : Option Addr) (l : List (List Int)) (c : Nat) (hl : ShSl w D a l) (hn : l.length ≤ 3000) (hne : ∀ s ∈ l, s.length ≤ 3000) :
    Calls Try.prog 67 #[.slice a l.length c] w fun e w' => e = .returned (.int .i64 (shapesErr l)) ∧ w = w' := by
  by_cases h16 : 16 < l.length
  · rw [show shapesErr l = 1 from if_pos h16]
    have h17 : (16 : Int) < l.length := by omega
    go_enter Try.func67, Try.ntmps67
    go_wp2_with fail
    go_ret
    exact ⟨rfl, rfl⟩
  have h17 : ¬ (16 : Int) < l.length := by omega
  obtain ⟨E, hE⟩ : ∃ E, E = shapesErr l := ⟨_, rfl⟩
  rw [← hE]
  have HIT := fun i hi hp hne => Lib.hid (shapes_hit l h16 i hi hp hne)
  have OKK := Lib.hid (shapes_zero l h16)
  have rf := fun kind => rfield_any w kind l.length (by omega)
  have HE := Lib.hid hE
  clear h16 hE
  have HL := Lib.hid hl; clear hl
  have RF := Lib.hid rf; clear rf
  have HNE := Lib.hid hne; clear hne
  go_enter Try.func67, Try.ntmps67
  go_wp2_with fail
  go_loopw [3] (fun i wr => ∃ k : Nat, k ≤ l.length ∧ i = .int .i64 k ∧ wr = w ∧ ShOk l k) (fun i _ => l.length - (intOf i).toNat)
  case atStart => exact ⟨0, Nat.zero_le _, rfl, by first | rfl | trivial, fun j hj => absurd hj (by omega)⟩
  case round =>
    obtain ⟨k, hk, rfl, rfl, hall⟩ := hrel
    by_cases hlt : k < l.length
    · obtain ⟨bb, o, rfl, _, a', c', hcell, hints⟩ := HL.out k hlt
      have hx := HNE.out l[k] (List.getElem_mem hlt)
      have hit := fun hne => (HIT k hlt hall hne).out
      have suc := shOk_succ l k hlt hall
      generalize l[k] = x at *
      have hx0 : (x.length : Int) ≤ 3000 := by omega
      by_cases c1 : (x.length : Int) < 1
      · have e := HE.out
        have e1 : shErr l.length x = 1 := shErr_len (by omega)
        rw [hit (by rw [e1]; decide), e1] at e
        subst e
        clear hit suc hall hints e1
        go_wp2_with fail
        go_ret
        exact ⟨rfl, by first | rfl | trivial⟩
      by_cases c2 : (16 : Int) < x.length
      · have e := HE.out
        have e1 : shErr l.length x = 1 := shErr_len (by omega)
        rw [hit (by rw [e1]; decide), e1] at e
        subst e
        clear hit suc hall hints e1
        go_wp2_with fail
        go_ret
        exact ⟨rfl, by first | rfl | trivial⟩
      have hno := fun h => shErr_no (n := l.length) (x := x) (by omega) h
      have hyes := fun h => shErr_ok (n := l.length) (x := x) (by omega) h
      have HIT := Lib.hid hit; clear hit
      have SUC := Lib.hid suc; clear suc
      have HNO := Lib.hid hno; clear hno
      have HYES := Lib.hid hyes; clear hyes
      have HINTS := Lib.hid hints; clear hints
      have HALL := Lib.hid hall
      clear hall
      go_upto_region 8 with fail
      go_wp2_with fail
      go_loopw [4] (fun i wq => ∃ q : Nat, q ≤ x.length ∧ i = .int .i64 q ∧ wq = wr ∧ (x.take q).all (fieldB · l.length) = true) (fun i _ => x.length - (intOf i).toNat)
      case atStart => exact ⟨0, Nat.zero_le _, rfl, by first | rfl | trivial, rfl⟩
      case round =>
        obtain ⟨q, hq, rfl, rfl, hall⟩ := hrel
        by_cases hlq : q < x.length
        · obtain ⟨b', o', rfl, _, hy⟩ := HINTS.out q hlq
          have hsn := allF_take hlq hall
          have hn2 := allF_no (P := (fieldB · l.length)) hlq
          try dsimp only at hsn hn2
          generalize x[q] = y at *
          have rf := RF.out y
          cases hf : fieldB y l.length
          · have e1 := HNO.out (hn2 hf)
            have e := HE.out
            rw [HIT.out (by rw [e1]; decide), e1] at e
            subst e
            rw [hf] at rf
            clear hsn hn2 hall hf e1
            have RF := Lib.hid rf; clear rf
            go_wp2_with fail
            refine RF.out.mono ?_
            rintro e w9 ⟨rfl, rfl⟩
            go_wp2_with fail
            go_ret
            exact ⟨rfl, by first | rfl | trivial⟩
          · rw [hf] at rf hsn
            clear hn2 hall hf
            have RF := Lib.hid rf; clear rf
            have HSN := Lib.hid hsn; clear hsn
            go_wp2_with fail
            refine RF.out.mono ?_
            rintro e w9 ⟨rfl, rfl⟩
            go_wp2_with fail
            go_roundw
            case rel => exact ⟨q + 1, by omega, by go_num, by first | rfl | trivial, HSN.out⟩
            case measure => simp [intOf]; omega
        · have hq' : q = x.length := by omega
          subst hq'
          rw [List.take_length] at hall
          have hsu := SUC.out (HYES.out hall)
          clear hall
          have HSU := Lib.hid hsu; clear hsu
          go_wp2_with fail
          go_roundw
          case rel => exact ⟨k + 1, by omega, by go_num, by first | rfl | trivial, HSU.out⟩
          case measure => simp [intOf]; omega
    · have hk' : k = l.length := by omega
      subst hk'
      have e := HE.out
      rw [OKK.out hall] at e
      subst e
      clear hall
      go_wp2_with fail
      go_ret
      exact ⟨rfl, by first | rfl | trivial⟩
set_option maxRecDepth 100000 in
set_option maxHeartbeats 1600000 in
theorem shapeCheck_any (w : World) (D : Nat → Prop) (hD : ∀ k, D k → k < w.heap.size) (a : Option Addr) (l : List (List Int)) (c : Nat) (hl : ShSl w D a l) (hbd : ∀ s ∈ l, ∀ x ∈ s, i64B x) (hn : l.length ≤ 3000) (hne : ∀ s ∈ l, s.length ≤ 3000) :
    Calls Try.prog 161 #[.slice a l.length c] w fun e w' => e = .returned (.int .i64 (shapesErr l)) ∧ Below w.heap.size w w' := by
  by_cases h16 : 16 < l.length
  · rw [show shapesErr l = 1 from if_pos h16]
    have h17 : (16 : Int) < l.length := by omega
    go_enter Try.func161, Try.ntmps161
    go_wp2_with fail
    go_ret
    exact ⟨rfl, Below.refl _ _⟩
  have h17 : ¬ (16 : Int) < l.length := by omega
  obtain ⟨E, hE⟩ : ∃ E, E = shapesErr l := ⟨_, rfl⟩
  rw [← hE]
  have HIT := fun i hi hp hne => Lib.hid (shapes_hit l h16 i hi hp hne)
  have OKK := Lib.hid (shapes_zero l h16)
  have kn := kinds_any w l.length false (by omega)
  have hls : ∀ wr, Below w.heap.size w wr → ShSl wr D a l := fun wr h => hl.fr (Fr.of_below h (fun _ => False)) (fun _ _ h => h)
  have ht : Try.prog.underlying 195 = some (.map intK.k 3) := Try.underlying195
  have HE := Lib.hid hE
  clear h16 hE hl
  have HLS := Lib.hid hls; clear hls
  have KN := Lib.hid kn; clear kn
  have HT := Lib.hid ht; clear ht
  have HNE := Lib.hid hne; clear hne
  have HBD := Lib.hid hbd; clear hbd
  have HD := Lib.hid hD; clear hD
  go_enter Try.func161, Try.ntmps161
  go_wp2_with fail
  refine KN.out.mono ?_
  rintro e w1 ⟨b, m, rfl, hm, hbb, hB⟩
  have hm : ∀ wr, Below w1.heap.size w1 wr → IntMap wr b m (kindsF l.length false) := fun wr h => hm.below h
  have hB1 : ∀ wr, Below w1.heap.size w1 wr → Below w.heap.size w wr := fun wr h => hB.trans (h.mono hB.size)
  have HM := Lib.hid hm; clear hm
  have HB := Lib.hid hB; clear hB
  have HB1 := Lib.hid hB1; clear hB1
  go_wp2_with fail
  go_loopw [16] (fun i wr => ∃ k : Nat, k ≤ l.length ∧ i = .int .i64 k ∧ Below w1.heap.size w1 wr ∧ ShOk l k) (fun i _ => l.length - (intOf i).toNat)
  case atStart => exact ⟨0, Nat.zero_le _, rfl, Below.refl _ _, fun j hj => absurd hj (by omega)⟩
  case round =>
    obtain ⟨k, hk, rfl, hR, hall⟩ := hrel
    generalize wr = wo at *
    by_cases hlt : k < l.length
    · obtain ⟨b0, o, rfl, _, a', c', hcell, hints⟩ := HLS.out wo (HB1.out wo hR) k hlt
      have hints : ∀ wz, Below wo.heap.size wo wz → IntSl wz D a' l[k] := fun wz h => hints.fr (Fr.of_below h (fun _ => False)) (fun _ _ h => h)
      have hx := HNE.out l[k] (List.getElem_mem hlt)
      have hbx := HBD.out l[k] (List.getElem_mem hlt)
      have hit := fun hne => (HIT k hlt hall hne).out
      have suc := shOk_succ l k hlt hall
      generalize l[k] = x at *
      have hx0 : (x.length : Int) ≤ 3000 := by omega
      have hR2 : ∀ wz, Below (wo.heap.size + 1) (wo.alloc (.cells #[.slice a' x.length c'] 84)) wz → Below w1.heap.size w1 wz := fun wz h => (hR.alloc hR.size _).trans (h.mono (by have := hR.size; omega))
      have hR2' : ∀ wz, Below (wo.heap.size + 1) (wo.alloc (.cells #[.slice a' x.length c'] 84)) wz → Below wo.heap.size wo wz := fun wz h => ((Below.refl _ _).alloc (Nat.le_refl _) _).trans (h.mono (by omega))
      have hf0 := Below.refl (wo.heap.size + 1) (wo.alloc (.cells #[.slice a' x.length c'] 84))
      by_cases c1 : (x.length : Int) < 1
      · have e := HE.out
        have e1 : shErr l.length x = 1 := shErr_len (by omega)
        rw [hit (by rw [e1]; decide), e1] at e
        subst e
        have hbf := HB1.out _ (hR2 _ hf0)
        clear hit suc hall hints e1 hR hR2 hR2' hf0 hbx
        have HBF := Lib.hid hbf; clear hbf
        go_wp2_with fail
        go_ret
        exact ⟨rfl, HBF.out⟩
      by_cases c2 : (16 : Int) < x.length
      · have e := HE.out
        have e1 : shErr l.length x = 1 := shErr_len (by omega)
        rw [hit (by rw [e1]; decide), e1] at e
        subst e
        have hbf := HB1.out _ (hR2 _ hf0)
        clear hit suc hall hints e1 hR hR2 hR2' hf0 hbx
        have HBF := Lib.hid hbf; clear hbf
        go_wp2_with fail
        go_ret
        exact ⟨rfl, HBF.out⟩
      have hno := fun h => shErr_no (n := l.length) (x := x) (by omega) h
      have hyes := fun h => shErr_ok (n := l.length) (x := x) (by omega) h
      have hbw2 := HB1.out _ (hR2 _ hf0)
      have hrr := hR2 _ hf0
      have hm2 := HM.out _ hrr
      have hints := hints _ (hR2' _ hf0)
      clear hR2 hR2' hf0
      have HIT := Lib.hid hit; clear hit
      have SUC := Lib.hid suc; clear suc
      have HNO := Lib.hid hno; clear hno
      have HYES := Lib.hid hyes; clear hyes
      have HINTS := Lib.hid hints; clear hints
      have HR := Lib.hid hR; clear hR
      have HBW2 := Lib.hid hbw2; clear hbw2
      have HRR := Lib.hid hrr; clear hrr
      have HM2 := Lib.hid hm2; clear hm2
      have HBX := Lib.hid hbx; clear hbx
      have HALL := Lib.hid hall
      clear hall
      go_wp2_with fail
      go_loopw [33] (fun i wz => ∃ q : Nat, q ≤ x.length ∧ i = .int .i64 q ∧ wz = wo.alloc (.cells #[.slice a' x.length c'] 84) ∧ (x.take q).all (fieldB · l.length) = true) (fun i _ => x.length - (intOf i).toNat)
      case atStart => exact ⟨0, Nat.zero_le _, rfl, by first | rfl | trivial, rfl⟩
      case round =>
        obtain ⟨q, hq, rfl, hwz, hall⟩ := hrel
        have HWZ := Lib.hid hwz
        clear hwz
        by_cases hlq : q < x.length
        · obtain ⟨b', o', rfl, _, hy⟩ := HINTS.out q hlq
          have hy : wr.cell? ⟨b', o' + q, none⟩ = some (.int .i64 x[q]) := by rw [HWZ.out]; exact hy
          have hsn := allF_take hlq hall
          have hn2 := allF_no (P := (fieldB · l.length)) hlq
          try dsimp only at hsn hn2
          have hyb := HBX.out x[q] (List.getElem_mem hlq)
          generalize x[q] = y at *
          have hm3 : IntMap wr b m (kindsF l.length false) := by rw [HWZ.out]; exact HM2.out
          cases hf : fieldB y l.length
          · have e1 := HNO.out (hn2 hf)
            have e := HE.out
            rw [HIT.out (by rw [e1]; decide), e1] at e
            subst e
            have hkf : kindsF l.length false y = none := by
              have := field_kinds y l.length
              rw [hf] at this
              cases hh : kindsF l.length false y with
              | none => rfl
              | some v => rw [hh] at this; cases this
            have hbw3 : Below w.heap.size w wr := by rw [HWZ.out]; exact HBW2.out
            clear hsn hn2 hall hf e1
            have HKF := Lib.hid hkf; clear hkf
            have HM3 := Lib.hid hm3; clear hm3
            have HYB := Lib.hid hyb; clear hyb
            have HBW3 := Lib.hid hbw3; clear hbw3
            go_wp2_with (refine look_none rfl (.tmp 37) (.tmp 38) 195 3 rfl HM3.out HT.out (zero_int _) y HYB.out rfl rfl HKF.out ?_)
            go_ret
            exact ⟨rfl, HBW3.out⟩
          · rw [hf] at hsn
            obtain ⟨v, hkf⟩ : ∃ v, kindsF l.length false y = some v := by
              have := field_kinds y l.length
              rw [hf] at this
              cases hh : kindsF l.length false y with
              | none => rw [hh] at this; cases this
              | some v => exact ⟨v, rfl⟩
            have hv := kinds_one hkf
            subst hv
            clear hn2 hall hf
            have HKF := Lib.hid hkf; clear hkf
            have HM3 := Lib.hid hm3; clear hm3
            have HYB := Lib.hid hyb; clear hyb
            have HSN := Lib.hid hsn; clear hsn
            go_wp2_with (refine look_some rfl (.tmp 37) (.tmp 38) 195 3 rfl HM3.out HT.out (zero_int _) y HYB.out rfl rfl 1 HKF.out ?_)
            go_roundw
            case rel => exact ⟨q + 1, by omega, by go_num, HWZ.out, HSN.out⟩
            case measure => simp [intOf]; omega
        · have hq' : q = x.length := by omega
          subst hq'
          rw [List.take_length] at hall
          have hsu := SUC.out (HYES.out hall)
          have hrz : Below w1.heap.size w1 wr := by rw [HWZ.out]; exact HRR.out
          clear hall
          have HSU := Lib.hid hsu; clear hsu
          have HRZ := Lib.hid hrz; clear hrz
          go_wp2_with fail
          go_roundw
          case rel => exact ⟨k + 1, by omega, by go_num, HRZ.out, HSU.out⟩
          case measure => simp [intOf]; omega
    · have hk' : k = l.length := by omega
      subst hk'
      have e := HE.out
      rw [OKK.out hall] at e
      subst e
      have hbw2 := HB1.out _ hR
      clear hall hR
      have HBW2 := Lib.hid hbw2; clear hbw2
      go_wp2_with fail
      go_ret
      exact ⟨rfl, HBW2.out⟩
end Go.Proofs.Ytmmdppjbofbjhaa
namespace Go.Proofs.Ytmmdppjbofbjhaa
open Go.ChangeShapes Go.WideShapes Go.ChangeAt Go.RowKit Go.Maps

set_option maxRecDepth 100000 in
set_option maxHeartbeats 3200000 in
theorem wholeC_any (w : World) (D : Nat → Prop) (hD : ∀ k, D k → k < w.heap.size) (p : Prg) (c0 c1 c2 : Value) (hv : PrgVal w D p c0 c1 c2) (hp : PrgB p) (hq : PrgR p) :
    Calls Try.prog 131 #[.agg #[c0, c1, c2]] w fun e w' => e = .returned (.int .i64 (wholeS p)) ∧ Below w.heap.size w w' := by
  obtain ⟨⟨a0, m0, rfl, hg⟩, ⟨a1, m1, rfl, hsh⟩, a2, m2, rfl, hfn⟩ := hv
  obtain ⟨bg, bs, _⟩ := hp
  obtain ⟨q0, q1, q2, q3, q4⟩ := hq
  have hbx := fun wr h => box1 w #[.slice a0 p.globals.length m0, .slice a1 p.shapes.length m1, .slice a2 p.funcs.length m2] 71 wr h
  have hz0 : (w.alloc (.cells #[.slice a0 p.globals.length m0, .slice a1 p.shapes.length m1, .slice a2 p.funcs.length m2] 71)).heap.size = w.heap.size + 1 := by simp
  obtain ⟨W, hW⟩ : ∃ W, W = (w.alloc (.cells #[.slice a0 p.globals.length m0, .slice a1 p.shapes.length m1, .slice a2 p.funcs.length m2] 71)) := ⟨_, rfl⟩
  rw [← hW] at hbx hz0
  have hs : ∀ wr, Below W.heap.size W wr → wr.cell? ⟨w.heap.size, 0, none⟩ = some (.slice a0 p.globals.length m0) ∧ wr.cell? ⟨w.heap.size, 1, none⟩ = some (.slice a1 p.shapes.length m1) ∧ wr.cell? ⟨w.heap.size, 2, none⟩ = some (.slice a2 p.funcs.length m2) := fun wr h => by
    rw [hz0] at h
    have hb := hbx wr h
    exact ⟨hb.1 0 _ rfl, hb.1 1 _ rfl, hb.1 2 _ rfl⟩
  have hbw : ∀ wr, Below W.heap.size W wr → Below w.heap.size w wr := fun wr h => by rw [hz0] at h; exact (hbx wr h).2.1
  have hw0 := Below.refl W.heap.size W
  have hg : ∀ wr, Below W.heap.size W wr → IntSl wr D a0 p.globals := fun wr h => hg.fr (Fr.of_below (hbw wr h) (fun _ => False)) (fun _ _ h => h)
  have hfn : ∀ wr, Below W.heap.size W wr → FnSl wr D a2 p.funcs := fun wr h => hfn.fr (Fr.of_below (hbw wr h) (fun _ => False)) (fun _ _ h => h)
  have sc := fun wr (h : Below W.heap.size W wr) => shapeCheck_any wr D (fun k hk => Nat.lt_of_lt_of_le (hD k hk) (hbw wr h).size) a1 p.shapes m1 (hsh.fr (Fr.of_below (hbw wr h) (fun _ => False)) (fun _ _ h => h)) bs q1 q3
  obtain ⟨E, hE⟩ : ∃ E, E = wholeS p := ⟨_, rfl⟩
  rw [← hE]
  unfold wholeS at hE
  generalize shapesErr p.shapes = se at *
  obtain ⟨k0, k1, k2⟩ := hs W hw0
  have HW := Lib.hid hW
  have HE := Lib.hid hE
  clear hW hbx hz0 hE hsh bs q3 q4
  have HS := Lib.hid hs; clear hs
  have HBW := Lib.hid hbw; clear hbw
  have HW0 := Lib.hid hw0; clear hw0
  have HG := Lib.hid hg; clear hg
  have HFN := Lib.hid hfn; clear hfn
  have SC := Lib.hid sc; clear sc
  have HD := Lib.hid hD; clear hD
  have BG := Lib.hid bg; clear bg
  go_enter Try.func131, Try.ntmps131
  go_upto_region 1 with fail
  rw [← HW.out]
  go_wp2_with fail
  refine (SC.out W HW0.out).mono ?_
  rintro e w1 ⟨rfl, hb1⟩
  have HR1 := Lib.hid hb1
  have HB1 := Lib.hid (HBW.out w1 hb1)
  obtain ⟨k0, k1, k2⟩ := HS.out w1 hb1
  clear hb1
  have hE := HE.out
  clear HE
  by_cases hse : se = 0
  case neg =>
    have hs1 : (se != 0) = true := by simpa using hse
    rw [if_pos hse] at hE
    subst hE
    clear hse
    go_wp2_with fail
    go_ret
    exact ⟨rfl, HB1.out⟩
  subst hse
  rw [if_neg (by simp)] at hE
  by_cases hc : 16 < p.globals.length ∨ p.funcs.length < 1 ∨ 16 < p.funcs.length
  case pos =>
    rw [if_pos hc] at hE
    subst hE
    by_cases c1 : (16 : Int) < p.globals.length
    · clear hc
      go_wp2_with fail
      go_ret
      exact ⟨rfl, HB1.out⟩
    by_cases c2 : (p.funcs.length : Int) < 1
    · clear hc
      go_wp2_with fail
      go_ret
      exact ⟨rfl, HB1.out⟩
    by_cases c3 : (16 : Int) < p.funcs.length
    · clear hc
      go_wp2_with fail
      go_ret
      exact ⟨rfl, HB1.out⟩
    exact absurd hc (by omega)
  rw [if_neg hc] at hE
  have c1 : ¬ (16 : Int) < p.globals.length := by omega
  have c2 : ¬ (p.funcs.length : Int) < 1 := by omega
  have c3 : ¬ (16 : Int) < p.funcs.length := by omega
  have HE := Lib.hid hE
  clear hE hc
  go_wp2_with fail
  go_loopw [31] (fun i wr => ∃ k : Nat, k ≤ p.globals.length ∧ i = .int .i64 k ∧ Below W.heap.size W wr ∧ (p.globals.take k).all (fieldB · p.shapes.length) = true) (fun i _ => p.globals.length - (intOf i).toNat)
  case atStart => exact ⟨0, Nat.zero_le _, rfl, HR1.out, rfl⟩
  case round =>
    clear k0 k1 k2
    obtain ⟨k, hk, rfl, hR, hall⟩ := hrel
    obtain ⟨k0, k1, k2⟩ := HS.out wr hR
    by_cases hlt : k < p.globals.length
    · obtain ⟨b', o', rfl, _, hx⟩ := HG.out wr hR k hlt
      have fi := fun w => field_any w p.globals[k] p.shapes.length (by omega) (BG.out _ (List.getElem_mem hlt))
      have hsn := all_take hlt hall
      have hno := all_no (P := (fieldB · p.shapes.length)) hlt
      try dsimp only at hsn hno
      generalize p.globals[k] = x at *
      cases hwx : fieldB x p.shapes.length
      · have e := HE.out
        rw [if_pos (hno hwx)] at e
        subst e
        rw [hwx] at fi
        clear hsn hno hwx hall
        have FI := Lib.hid fi; clear fi
        have HR := Lib.hid hR; clear hR
        go_wp2_with fail
        refine (FI.out _).mono ?_
        rintro e w9 ⟨rfl, hb9⟩
        have HB9 := Lib.hid (HBW.out _ (HR.out.trans (hb9.mono HR.out.size)))
        clear hb9
        go_wp2_with fail
        go_ret
        exact ⟨rfl, HB9.out⟩
      · rw [hwx] at fi hsn
        clear hno hwx hall
        have FI := Lib.hid fi; clear fi
        have HR := Lib.hid hR; clear hR
        have HSN := Lib.hid hsn; clear hsn
        go_wp2_with fail
        refine (FI.out _).mono ?_
        rintro e w9 ⟨rfl, hb9⟩
        have HB9 := Lib.hid (HR.out.trans (hb9.mono HR.out.size))
        clear hb9
        go_wp2_with fail
        go_roundw
        case rel => exact ⟨k + 1, by omega, by go_num, HB9.out, HSN.out⟩
        case measure => simp [intOf]; omega
    · have hk' : k = p.globals.length := by omega
      subst hk'
      rw [List.take_length] at hall
      have hE := HE.out
      rw [if_neg (by rw [hall]; simp)] at hE
      have h0 : 0 < p.funcs.length := by omega
      obtain ⟨b2, o2, rfl, _, y0, y1, y2, y3, y4, g0, g1, g2, g3, g4, hfv⟩ := HFN.out wr hR 0 h0
      obtain ⟨rfl, rfl, ⟨e0, e1, rfl, _⟩, _⟩ := hfv
      rw [show (p.funcs[0]?).getD fun0 = p.funcs[0] from by simp [h0]] at hE
      generalize p.funcs[0] = f at *
      simp only [Nat.zero_mul, Nat.add_zero] at g0 g1 g2 g3 g4
      have HB9 := Lib.hid (HBW.out wr hR)
      clear hall HE hR g2 g3 g4
      generalize f.args.length = la at *
      generalize f.result = fr at *
      by_cases d1 : la = 0
      · subst d1
        by_cases d2 : fr = 0
        · subst d2
          rw [if_neg (by rintro (h | h) <;> omega)] at hE
          subst hE
          go_wp2_with fail
          go_ret
          exact ⟨rfl, HB9.out⟩
        · have d3 : (fr != 0) = true := by simpa using d2
          rw [if_pos (Or.inr d2)] at hE
          subst hE
          go_wp2_with fail
          go_ret
          exact ⟨rfl, HB9.out⟩
      · have d3 : 0 < la := by omega
        have d4 : (0 : Int) < la := by omega
        rw [if_pos (Or.inl d3)] at hE
        subst hE
        go_wp2_with fail
        go_ret
        exact ⟨rfl, HB9.out⟩
end Go.Proofs.Ytmmdppjbofbjhaa
namespace Go.Proofs.Ytmmdppjbofbjhaa
open Go.ChangeShapes Go.WideShapes Go.ChangeAt Go.RowKit Go.Maps

def placeS (p : Prg) (fn : Int) : Int × Int := if (funcS p fn).1 = 0 then (0, 0) else (fn, (funcS p fn).2)
def FuncPost (p : Prg) (fn : Int) (w : World) (e : Ending) (w' : World) : Prop :=
  e = .returned (.tuple #[.int .i64 (funcS p fn).1, .agg #[.int .i64 (placeS p fn).1, .int .i64 (placeS p fn).2]]) ∧ Below w.heap.size w w'
theorem funcPost_bad {p : Prg} {fn E m : Int} {n : Nat} {w w' : World} (h : funcS p fn = (E, n)) (hE : E ≠ 0) (hm : m = n) (hb : Below w.heap.size w w') : FuncPost p fn w (.returned (.tuple #[.int .i64 E, .agg #[.int .i64 fn, .int .i64 m]])) w' := by
  unfold FuncPost placeS
  rw [h]
  simp only
  rw [if_neg hE, hm]
  exact ⟨rfl, hb⟩
theorem funcPost_ok {p : Prg} {fn : Int} {w w' : World} (h : funcS p fn = (0, 0)) (hb : Below w.heap.size w w') : FuncPost p fn w (.returned (.tuple #[.int .i64 0, .agg #[.int .i64 0, .int .i64 0]])) w' := by
  unfold FuncPost placeS
  rw [h]
  simp only
  rw [if_pos trivial]
  exact ⟨rfl, hb⟩
set_option maxRecDepth 100000 in
set_option maxHeartbeats 3200000 in
theorem funcC_any (w : World) (D : Nat → Prop) (hD : ∀ k, D k → k < w.heap.size) (p : Prg) (c0 c1 c2 : Value) (hv : PrgVal w D p c0 c1 c2) (hp : PrgB p) (hq : PrgR p) (fn : Int) :
    Calls Try.prog 69 #[.agg #[c0, c1, c2], .int .i64 fn] w (FuncPost p fn w) := by
  have hPP : ∀ wr, Below w.heap.size w wr → PrgVal wr D p c0 c1 c2 := fun wr hb => hv.fr (Fr.of_below hb (fun _ => False)) (fun _ _ h => h)
  obtain ⟨⟨a0, m0, rfl, _⟩, ⟨a1, m1, rfl, _⟩, a2, m2, rfl, hfn⟩ := hv
  have hbx := fun wr h => box2 w #[.slice a0 p.globals.length m0, .slice a1 p.shapes.length m1, .slice a2 p.funcs.length m2] #[.int .i64 0, .int .i64 0] 71 88 wr h
  have hz0 : ((w.alloc (.cells #[.slice a0 p.globals.length m0, .slice a1 p.shapes.length m1, .slice a2 p.funcs.length m2] 71)).alloc (.cells #[.int .i64 0, .int .i64 0] 88)).heap.size = w.heap.size + 2 := by simp
  have hpl := heap_new (w.alloc (.cells #[.slice a0 p.globals.length m0, .slice a1 p.shapes.length m1, .slice a2 p.funcs.length m2] 71)) (.cells #[.int .i64 0, .int .i64 0] 88)
  rw [show (w.alloc (.cells #[.slice a0 p.globals.length m0, .slice a1 p.shapes.length m1, .slice a2 p.funcs.length m2] 71)).heap.size = w.heap.size + 1 from by simp] at hpl
  obtain ⟨W, hW⟩ : ∃ W, W = (w.alloc (.cells #[.slice a0 p.globals.length m0, .slice a1 p.shapes.length m1, .slice a2 p.funcs.length m2] 71)).alloc (.cells #[.int .i64 0, .int .i64 0] 88) := ⟨_, rfl⟩
  rw [← hW] at hbx hz0 hpl
  have hs : ∀ wr, Below W.heap.size W wr → wr.cell? ⟨w.heap.size, 0, none⟩ = some (.slice a0 p.globals.length m0) ∧ wr.cell? ⟨w.heap.size, 1, none⟩ = some (.slice a1 p.shapes.length m1) ∧ wr.cell? ⟨w.heap.size, 2, none⟩ = some (.slice a2 p.funcs.length m2) ∧ wr.heap[w.heap.size + 1]? = some (.cells #[.int .i64 0, .int .i64 0] 88) := fun wr h => by
    have hpl2 := (Fr.of_below h (fun _ => False)).heap hpl (fun h => h)
    rw [hz0] at h
    have hb := hbx wr h
    exact ⟨hb.1 0 _ rfl, hb.1 1 _ rfl, hb.1 2 _ rfl, hpl2⟩
  have hbw : ∀ wr, Below W.heap.size W wr → Below w.heap.size w wr := fun wr h => by rw [hz0] at h; exact (hbx wr h).2.2.1
  have hw0 := Below.refl W.heap.size W
  have hb0 := hbw W hw0
  have hfn := hfn.fr (Fr.of_below (hbw W hw0) (fun _ => False)) (fun _ _ h => h)
  obtain ⟨k0, k1, k2, k3⟩ := hs W hw0
  have wi := within_any W fn p.funcs.length
  have HW := Lib.hid hW
  clear hW hbx
  cases hin : withinB fn p.funcs.length
  · rw [hin] at wi
    have hr := row_set (row_set k3 0 (.int .i64 fn)) 1 (.int .i64 0)
    have hf : Fr (fun q => q = w.heap.size + 1) W _ := ((Fr.refl (fun q => q = w.heap.size + 1) W).setCell (p := ⟨w.heap.size + 1, 0, none⟩) (fun _ => rfl) (.int .i64 fn)).setCell (p := ⟨w.heap.size + 1, 1, none⟩) (fun _ => rfl) (.int .i64 0)
    have hb := hb0.trans (hf.below hb0.size (fun k hk => by omega))
    obtain ⟨_, _, f0, f1⟩ := two_cells k3
    have hP := funcPost_bad (funcS_out hin) (by decide) rfl hb
    clear k3 hfn hs hbw hPP hpl hin hD hz0
    have WI := Lib.hid wi; clear wi
    go_enter Try.func69, Try.ntmps69
    go_upto_region 1 with fail
    rw [← HW.out]
    go_wp2_with fail
    refine WI.out.mono ?_
    rintro e w' ⟨rfl, rfl⟩
    have HR := Lib.hid hr; clear hr
    have HP := Lib.hid hP; clear hP
    clear hf hb
    go_wp2_with (with_reducible refine bodyPost_ret ?_ rfl HP.out; obtain ⟨k0, k1, _⟩ := two_cells HR.out; simp [results, Try.results69, go_sem, k0, k1])
    all_goals (try trivial)
  rw [hin] at wi
  obtain ⟨j, rfl, hj⟩ := within_nat hin
  have hfS := funcS_at j hj
  obtain ⟨bb, o, rfl, _, y0, y1, y2, y3, y4, g0, g1, g2, g3, g4, hfv⟩ := hfn j hj
  have hB := hp.2.2 p.funcs[j] (List.getElem_mem hj)
  have hR := hq.2.2.2.2 p.funcs[j] (List.getElem_mem hj)
  have hfv0 := hfv
  have hco : (codeOf p j) = p.funcs[j].code := by unfold codeOf; rw [if_pos hin]; simp [hj]
  have hln := codeOf_len hq (j : Int)
  generalize p.funcs[j] = f at *
  obtain ⟨rfl, rfl, ⟨e0, e1, rfl, _⟩, ⟨e2, e3, rfl, _⟩, e4, e5, rfl, _⟩ := hfv
  have hx1 := fun wr h => box1 W #[.slice e0 f.args.length e1, .int .i64 f.result, .int .i64 f.slots, .slice e2 f.objects.length e3, .slice e4 f.code.length e5] 86 wr h
  have hx2 : (W.alloc (.cells #[.slice e0 f.args.length e1, .int .i64 f.result, .int .i64 f.slots, .slice e2 f.objects.length e3, .slice e4 f.code.length e5] 86)).heap.size = W.heap.size + 1 := by simp
  obtain ⟨X, hX⟩ : ∃ X, X = W.alloc (.cells #[.slice e0 f.args.length e1, .int .i64 f.result, .int .i64 f.slots, .slice e2 f.objects.length e3, .slice e4 f.code.length e5] 86) := ⟨_, rfl⟩
  rw [← hX] at hx1 hx2
  have ht : ∀ wr, Below X.heap.size X wr → wr.cell? ⟨W.heap.size, 0, none⟩ = some (.slice e0 f.args.length e1) ∧ wr.cell? ⟨W.heap.size, 1, none⟩ = some (.int .i64 f.result) ∧ wr.cell? ⟨W.heap.size, 2, none⟩ = some (.int .i64 f.slots) ∧ wr.cell? ⟨W.heap.size, 3, none⟩ = some (.slice e2 f.objects.length e3) ∧ wr.cell? ⟨W.heap.size, 4, none⟩ = some (.slice e4 f.code.length e5) := fun wr h => by
    rw [hx2] at h
    have hb := hx1 wr h
    exact ⟨hb.1 0 _ rfl, hb.1 1 _ rfl, hb.1 2 _ rfl, hb.1 3 _ rfl, hb.1 4 _ rfl⟩
  have htw : ∀ wr, Below X.heap.size X wr → Below W.heap.size W wr := fun wr h => by rw [hx2] at h; exact (hx1 wr h).2.1
  have hX0 := Below.refl X.heap.size X
  have fr := frontC_any X D (fun k hk => Nat.lt_of_lt_of_le (hD k hk) (hbw X (htw X hX0)).size) p f _ _ _ _ _ _ (hPP X (hbw X (htw X hX0))) (hfv0.fr (Fr.of_below (htw X hX0) (fun _ => False)) (fun _ _ h => h)) hB hq.2.1 hR.1 hR.2.1 hR.2.2
  have ins := fun wr (h : Below X.heap.size X wr) (k : Nat) (hk : k ≤ 3000) => instrC_any wr D p _ _ _ j k (fun q hq => Nat.lt_of_lt_of_le (hD q hq) (hbw wr (htw wr h)).size) (hPP wr (hbw wr (htw wr h))) (by unfold i64B; have := hq.2.2.1; omega) (by unfold i64B; omega) hln (calleeG_len hq) (slots_lt hp)
  have hj1 : (j : Int) < p.funcs.length := by omega
  have hcl : f.code.length ≤ 3000 := hR.2.2
  have HX := Lib.hid hX
  clear hX hx1 hfv0 hin hB hR hco hln hPP hp hq hD hpl hz0
  have front := @funF_front p j f
  have code := @funF_code p j f
  rw [← hfS] at front code
  clear hfS
  generalize frontS p f = fe at *
  have FRONT := Lib.hid front; clear front
  have CODE := Lib.hid code; clear code
  have WI := Lib.hid wi; clear wi
  have HS := Lib.hid hs; clear hs
  have HBW := Lib.hid hbw; clear hbw
  have HW0 := Lib.hid hw0; clear hw0
  have HB0 := Lib.hid hb0; clear hb0
  have HFN := Lib.hid hfn; clear hfn
  have HT := Lib.hid ht; clear ht
  have HTW := Lib.hid htw; clear htw
  have HX0 := Lib.hid hX0; clear hX0
  have FR := Lib.hid fr; clear fr
  have INS := Lib.hid ins; clear ins
  go_enter Try.func69, Try.ntmps69
  go_upto_region 1 with fail
  rw [← HW.out]
  go_wp2_with fail
  refine WI.out.mono ?_
  rintro e w' ⟨rfl, rfl⟩
  go_upto_region 4 with fail
  rw [← HX.out]
  clear k0 k1 k2 k3 g0 g1 g2 g3 g4
  obtain ⟨k0, k1, k2, k3⟩ := HS.out X (HTW.out X HX0.out)
  obtain ⟨t0, t1, t2, t3, t4⟩ := HT.out X HX0.out
  go_wp2_with fail
  refine FR.out.mono ?_
  rintro e w1 ⟨rfl, hb1⟩
  have hbz := HBW.out w1 (HTW.out w1 hb1)
  clear k0 k1 k2 k3 t0 t1 t2 t3 t4
  obtain ⟨k0, k1, k2, k3⟩ := HS.out w1 (HTW.out w1 hb1)
  obtain ⟨t0, t1, t2, t3, t4⟩ := HT.out w1 hb1
  by_cases hfe : fe = 0
  case neg =>
    have hfe1 : (fe != 0) = true := by simpa using hfe
    have hr := row_set (row_set k3 0 (.int .i64 (j : Int))) 1 (.int .i64 0)
    have hf : Fr (fun q => q = w.heap.size + 1) w1 _ := ((Fr.refl (fun q => q = w.heap.size + 1) w1).setCell (p := ⟨w.heap.size + 1, 0, none⟩) (fun _ => rfl) (.int .i64 (j : Int))).setCell (p := ⟨w.heap.size + 1, 1, none⟩) (fun _ => rfl) (.int .i64 0)
    have hb := hbz.trans (hf.below hbz.size (fun k hk => by omega))
    obtain ⟨_, _, f0, f1⟩ := two_cells k3
    have hP := funcPost_bad (FRONT.out hfe) hfe rfl hb
    clear k3 hbz hfe hb1
    have HR := Lib.hid hr; clear hr
    have HP := Lib.hid hP; clear hP
    clear hf hb
    go_wp2_with (with_reducible refine bodyPost_ret ?_ rfl HP.out; obtain ⟨k0, k1, _⟩ := two_cells HR.out; simp [results, Try.results69, go_sem, k0, k1])
    all_goals (try trivial)
  subst hfe
  have code2 := CODE.out rfl
  clear CODE
  have CODE := Lib.hid code2
  clear code2
  have HB1 := Lib.hid hb1
  clear k3 hbz hb1
  go_wp2_with fail
  go_loopw [34] (fun i wr => ∃ k : Nat, k ≤ f.code.length ∧ i = .int .i64 k ∧ Below X.heap.size X wr ∧ ∀ q, q < k → instrE p j q = 0) (fun i _ => f.code.length - (intOf i).toNat)
  case atStart => exact ⟨0, Nat.zero_le _, rfl, HB1.out, fun q hq => absurd hq (by omega)⟩
  case round =>
    clear k0 k1 k2 t0 t1 t2 t3 t4
    obtain ⟨k, hk, rfl, hR, hall⟩ := hrel
    have hbz := HBW.out wr (HTW.out wr hR)
    obtain ⟨k0, k1, k2, k3⟩ := HS.out wr (HTW.out wr hR)
    by_cases hlt : k < f.code.length
    · have ins := INS.out wr hR k (by omega)
      have hhit := firstAt_hit (f := fun pc : Nat => instrE p j pc) (n := f.code.length) (k := k) hlt hall
      have hsu : instrE p j k = 0 → ∀ q, q < k + 1 → instrE p j q = 0 := fun h q hq => by
        by_cases he : q = k
        · subst he; exact h
        · exact hall q (by omega)
      try dsimp only at hhit
      rw [← CODE.out] at hhit
      generalize instrE p j k = ie at *
      clear k3 hbz hall
      have INS := Lib.hid ins; clear ins
      have HHIT := Lib.hid hhit; clear hhit
      have HSU := Lib.hid hsu; clear hsu
      have HR := Lib.hid hR; clear hR
      go_wp2_with fail
      refine INS.out.mono ?_
      rintro e w9 ⟨rfl, hb9⟩
      have hR9 := HR.out.trans (hb9.mono HR.out.size)
      have hbz := HBW.out w9 (HTW.out w9 hR9)
      clear k0 k1 k2
      obtain ⟨k0, k1, k2, k3⟩ := HS.out w9 (HTW.out w9 hR9)
      by_cases hie : ie = 0
      case neg =>
        have hie1 : (ie != 0) = true := by simpa using hie
        have hr := row_set (row_set k3 0 (.int .i64 (j : Int))) 1 (.int .i64 (k : Int))
        have hf : Fr (fun q => q = w.heap.size + 1) w9 _ := ((Fr.refl (fun q => q = w.heap.size + 1) w9).setCell (p := ⟨w.heap.size + 1, 0, none⟩) (fun _ => rfl) (.int .i64 (j : Int))).setCell (p := ⟨w.heap.size + 1, 1, none⟩) (fun _ => rfl) (.int .i64 (k : Int))
        have hb := hbz.trans (hf.below hbz.size (fun k hk => by omega))
        obtain ⟨_, _, f0, f1⟩ := two_cells k3
        have hP := funcPost_bad (HHIT.out hie) hie rfl hb
        clear k3 hbz hie hb9 hR9 HR
        have HR := Lib.hid hr; clear hr
        have HP := Lib.hid hP; clear hP
        clear hf hb
        go_wp2_with (with_reducible refine bodyPost_ret ?_ rfl HP.out; obtain ⟨k0, k1, _⟩ := two_cells HR.out; simp [results, Try.results69, go_sem, k0, k1])
        all_goals (try trivial)
      subst hie
      have hsv := HSU.out rfl
      clear k3 hbz hb9 HSU
      have HSV := Lib.hid hsv; clear hsv
      have HR9 := Lib.hid hR9; clear hR9
      go_wp2_with fail
      go_roundw
      case rel => exact ⟨k + 1, by omega, by go_num, HR9.out, HSV.out⟩
      case measure => simp [intOf]; omega
    · have hk' : k = f.code.length := by omega
      subst hk'
      have hzz := firstAt_none (f := fun pc : Nat => instrE p j pc) hall
      rw [← CODE.out] at hzz
      have hr := row_set (row_set k3 0 (.int .i64 0)) 1 (.int .i64 0)
      have hf : Fr (fun q => q = w.heap.size + 1) wr _ := ((Fr.refl (fun q => q = w.heap.size + 1) wr).setCell (p := ⟨w.heap.size + 1, 0, none⟩) (fun _ => rfl) (.int .i64 0)).setCell (p := ⟨w.heap.size + 1, 1, none⟩) (fun _ => rfl) (.int .i64 0)
      have hb := hbz.trans (hf.below hbz.size (fun k hk => by omega))
      obtain ⟨_, _, f0, f1⟩ := two_cells k3
      have hP := funcPost_ok hzz hb
      clear k3 hbz hall hR hzz
      have HR := Lib.hid hr; clear hr
      have HP := Lib.hid hP; clear hP
      clear hf hb
      go_wp2_with (with_reducible refine bodyPost_ret ?_ rfl HP.out; obtain ⟨k0, k1, _⟩ := two_cells HR.out; simp [results, Try.results69, go_sem, k0, k1])
      all_goals (try trivial)
set_option maxRecDepth 100000 in
set_option maxHeartbeats 800000 in
theorem args_any (w : World) (D : Nat → Prop) (p : Prg) (c0 c1 c2 : Value) (hv : PrgVal w D p c0 c1 c2) (fn : Int) :
    Calls Try.prog 73 #[.agg #[c0, c1, c2], .int .i64 fn] w fun e w' => e = .returned (.int .i64 (if withinB fn p.funcs.length = true then (((p.funcs[fn.toNat]?).getD fun0).args.length : Int) else 0)) ∧ Below w.heap.size w w' := by
  obtain ⟨⟨a0, m0, rfl, _⟩, ⟨a1, m1, rfl, _⟩, a2, m2, rfl, hfn⟩ := hv
  have hbx := fun wr h => box1 w #[.slice a0 p.globals.length m0, .slice a1 p.shapes.length m1, .slice a2 p.funcs.length m2] 71 wr h
  have hz0 : (w.alloc (.cells #[.slice a0 p.globals.length m0, .slice a1 p.shapes.length m1, .slice a2 p.funcs.length m2] 71)).heap.size = w.heap.size + 1 := by simp
  obtain ⟨W, hW⟩ : ∃ W, W = (w.alloc (.cells #[.slice a0 p.globals.length m0, .slice a1 p.shapes.length m1, .slice a2 p.funcs.length m2] 71)) := ⟨_, rfl⟩
  rw [← hW] at hbx hz0
  have hb := hbx W (by rw [← hz0]; exact Below.refl _ _)
  have k0 := hb.1 0 _ rfl
  have k1 := hb.1 1 _ rfl
  have k2 := hb.1 2 _ rfl
  have hb0 := hb.2.1
  have hfn := hfn.fr (Fr.of_below hb0 (fun _ => False)) (fun _ _ h => h)
  have wi := within_any W fn p.funcs.length
  have HW := Lib.hid hW
  clear hW hbx hz0 hb
  cases hin : withinB fn p.funcs.length
  · rw [hin] at wi
    rw [if_neg (by simp)]
    clear hin hfn
    have WI := Lib.hid wi; clear wi
    have HB0 := Lib.hid hb0; clear hb0
    go_enter Try.func73, Try.ntmps73
    go_upto_region 1 with fail
    rw [← HW.out]
    go_wp2_with fail
    refine WI.out.mono ?_
    rintro e w' ⟨rfl, rfl⟩
    go_wp2_with fail
    go_ret
    exact ⟨rfl, HB0.out⟩
  · rw [hin] at wi
    rw [if_pos rfl]
    obtain ⟨j, rfl, hj⟩ := within_nat hin
    obtain ⟨bb, o, rfl, _, y0, y1, y2, y3, y4, g0, g1, g2, g3, g4, hfv⟩ := hfn j hj
    rw [show (p.funcs[((j : Int)).toNat]?).getD fun0 = p.funcs[j] from by simp [hj]]
    generalize p.funcs[j] = f at *
    obtain ⟨rfl, rfl, ⟨e0, e1, rfl, _⟩, _⟩ := hfv
    have hj1 : (j : Int) < p.funcs.length := by omega
    clear hin hfn
    have WI := Lib.hid wi; clear wi
    have HB0 := Lib.hid hb0; clear hb0
    go_enter Try.func73, Try.ntmps73
    go_upto_region 1 with fail
    rw [← HW.out]
    go_wp2_with fail
    refine WI.out.mono ?_
    rintro e w' ⟨rfl, rfl⟩
    go_wp2_with fail
    go_ret
    exact ⟨rfl, HB0.out⟩
end Go.Proofs.Ytmmdppjbofbjhaa
