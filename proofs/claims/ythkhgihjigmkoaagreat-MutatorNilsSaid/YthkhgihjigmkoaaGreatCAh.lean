import Derived.Test.YthkhgihjigmkoaaGreatCAg
import Derived.Test.YthkhgihjigmkoaaGreatCAc
import Derived.Test.YthkhgihjigmkoaaGreatCAd
import Derived.BigRegion
import Derived.DeepKeys4
import Derived.Test.YthkhgihjigmkoaaGreatCAe
import Derived.Test.YthkhgihjigmkoaaGreatCAb
import Derived.Test.YthkhgihjigmkoaaGreatCAf
import Derived.Lib.SliceRun
import Derived.Laws.MakeOwn
set_option linter.unusedVariables false
set_option linter.unusedSimpArgs false
namespace Go.Proofs.YthkhgihjigmkoaaGreat
open Go.ChangeShapes Go.WideShapes Go.ChangeAt Go.RowKit
def lookC (c0 c1 c2 d0 d3 d4 : Value) (r s : Int) (i : Ins) (fn pc : Int) : Array Value := #[c0, c1, c2, d0, .int .i64 r, .int .i64 s, d3, d4, .int .i64 i.op, .int .i64 i.a, .int .i64 i.b, .int .i64 i.c, .int .i64 fn, .int .i64 pc]
def fun0 : Fun := ⟨[], 0, 0, [], []⟩
def calleeG (p : Prg) (i : Ins) : Fun := (calleeF p i).getD fun0
theorem fun0_val (w : World) (D : Nat → Prop) : FunVal w D fun0 (.slice none 0 0) (.int .i64 0) (.int .i64 0) (.slice none 0 0) (.slice none 0 0) :=
 ⟨rfl, rfl, ⟨none, 0, rfl, fun j hj => by cases hj⟩, ⟨none, 0, rfl, fun j hj => by cases hj⟩, none, 0, rfl, fun j hj => by cases hj⟩
def CalleePost (p : Prg) (i : Ins) (D : Nat → Prop) (w : World) (e : Ending) (w' : World) : Prop :=
 ∃ d0 d3 d4, e = .returned (.tuple #[.agg #[d0, .int .i64 (calleeG p i).result, .int .i64 (calleeG p i).slots, d3, d4], .bool (calleeF p i).isSome]) ∧ FunVal w' D (calleeG p i) d0 (.int .i64 (calleeG p i).result) (.int .i64 (calleeG p i).slots) d3 d4 ∧ Below w.heap.size w w'
theorem calleeF_op (p : Prg) (i : Ins) (h : ¬ (i.op = 21 ∨ i.op = 23 ∨ i.op = 24)) : calleeF p i = none := by unfold calleeF; rw [if_neg (fun h2 => h h2.1)]
theorem calleeF_out (p : Prg) (i : Ins) (h : withinB i.b p.funcs.length = false) : calleeF p i = none := by unfold calleeF; rw [if_neg (fun h2 => by rw [h] at h2; cases h2.2)]
theorem calleeF_in (p : Prg) (i : Ins) (k : Nat) (hk : k < p.funcs.length) (hb : i.b = k) (h : i.op = 21 ∨ i.op = 23 ∨ i.op = 24) : calleeF p i = some p.funcs[k] := by
 unfold calleeF
 rw [if_pos ⟨h, by rw [hb]; simp [withinB]; omega⟩, hb]
 simp [hk]
theorem callee_none {p : Prg} {i : Ins} {D : Nat → Prop} {w w' : World} (hn : calleeF p i = none) (hb : Below w.heap.size w w') : CalleePost p i D w (.returned (.tuple #[.agg #[.slice none 0 0, .int .i64 0, .int .i64 0, .slice none 0 0, .slice none 0 0], .bool false])) w' := by
 unfold CalleePost calleeG
 rw [hn]
 exact ⟨_, _, _, rfl, fun0_val _ _, hb⟩
theorem callee_some {p : Prg} {i : Ins} {g : Fun} {D : Nat → Prop} {w w' : World} {d0 d3 d4 : Value} (hn : calleeF p i = some g) (hv : FunVal w' D g d0 (.int .i64 g.result) (.int .i64 g.slots) d3 d4) (hb : Below w.heap.size w w') : CalleePost p i D w (.returned (.tuple #[.agg #[d0, .int .i64 g.result, .int .i64 g.slots, d3, d4], .bool true])) w' := by
 unfold CalleePost calleeG
 rw [hn]
 exact ⟨_, _, _, rfl, hv, hb⟩
theorem within_nat {b : Int} {n : Nat} (h : withinB b n = true) : ∃ k : Nat, b = k ∧ k < n := by
 simp [withinB] at h
 exact ⟨b.toNat, by omega, by omega⟩
set_option maxRecDepth 100000 in
set_option maxHeartbeats 1600000 in
theorem callee_any (w : World) (D : Nat → Prop) (hD : ∀ k, D k → k < w.heap.size) (p : Prg) (c0 c1 c2 d0 d3 d4 : Value) (r s : Int) (i : Ins) (fn pc : Int) (hv : PrgVal w D p c0 c1 c2) :
  Calls Tryz.prog 151 #[.agg (lookC c0 c1 c2 d0 d3 d4 r s i fn pc)] w (CalleePost p i D w) := by
 unfold lookC
 obtain ⟨⟨a0, m0, rfl, _⟩, ⟨a1, m1, rfl, _⟩, a2, m2, rfl, hfs⟩ := hv
 have hb := ((Below.refl w.heap.size w).alloc (Nat.le_refl _) (.cells #[.slice a0 p.globals.length m0, .slice a1 p.shapes.length m1, .slice a2 p.funcs.length m2, d0, .int .i64 r, .int .i64 s, d3, d4, .int .i64 i.op, .int .i64 i.a, .int .i64 i.b, .int .i64 i.c, .int .i64 fn, .int .i64 pc] 181)).alloc (by simp) (.cells #[.slice none 0 0, .int .i64 0, .int .i64 0, .slice none 0 0, .slice none 0 0] 74)
 have hbx := box2 w #[.slice a0 p.globals.length m0, .slice a1 p.shapes.length m1, .slice a2 p.funcs.length m2, d0, .int .i64 r, .int .i64 s, d3, d4, .int .i64 i.op, .int .i64 i.a, .int .i64 i.b, .int .i64 i.c, .int .i64 fn, .int .i64 pc] #[.slice none 0 0, .int .i64 0, .int .i64 0, .slice none 0 0, .slice none 0 0] 181 74 _ (Below.refl _ _)
 have hl2 := heap_new (w.alloc (.cells #[.slice a0 p.globals.length m0, .slice a1 p.shapes.length m1, .slice a2 p.funcs.length m2, d0, .int .i64 r, .int .i64 s, d3, d4, .int .i64 i.op, .int .i64 i.a, .int .i64 i.b, .int .i64 i.c, .int .i64 fn, .int .i64 pc] 181)) (.cells #[.slice none 0 0, .int .i64 0, .int .i64 0, .slice none 0 0, .slice none 0 0] 74)
 rw [show (w.alloc (.cells #[.slice a0 p.globals.length m0, .slice a1 p.shapes.length m1, .slice a2 p.funcs.length m2, d0, .int .i64 r, .int .i64 s, d3, d4, .int .i64 i.op, .int .i64 i.a, .int .i64 i.b, .int .i64 i.c, .int .i64 fn, .int .i64 pc] 181)).heap.size = w.heap.size + 1 from by simp] at hl2
 obtain ⟨W, hW⟩ : ∃ W, W = (w.alloc (.cells #[.slice a0 p.globals.length m0, .slice a1 p.shapes.length m1, .slice a2 p.funcs.length m2, d0, .int .i64 r, .int .i64 s, d3, d4, .int .i64 i.op, .int .i64 i.a, .int .i64 i.b, .int .i64 i.c, .int .i64 fn, .int .i64 pc] 181)).alloc (.cells #[.slice none 0 0, .int .i64 0, .int .i64 0, .slice none 0 0, .slice none 0 0] 74) := ⟨_, rfl⟩
 rw [← hW] at hb hl2 hbx
 have q2 := hbx.1 2 _ rfl
 have q8 := hbx.1 8 _ rfl
 have q10 := hbx.1 10 _ rfl
 have hfs := hfs.fr (Fr.of_below hb (fun _ => False)) (fun _ _ h => h)
 have hd : ∀ k, D k → ¬ onB (w.heap.size + 1) k := fun k hk h => by have := hD k hk; unfold onB at h; omega
 obtain ⟨_, f0, f1, f2, f3, f4⟩ := five_cells hl2
 clear hbx hD
 have HW := Lib.hid hW
 clear hW
 have HB := Lib.hid hb; clear hb
 have HL2 := Lib.hid hl2; clear hl2
 have HFS := Lib.hid hfs; clear hfs
 have HD := Lib.hid hd; clear hd
 obtain ⟨op, a, b, c⟩ := i
 dsimp only at q8 q10 ⊢
 by_cases h21 : op = 21
 ·subst h21
  by_cases hw : withinB b p.funcs.length = true
  case neg =>
   have hw' : withinB b p.funcs.length = false := by simpa using hw
   have wi := within_any W b p.funcs.length
   rw [hw'] at wi
   have hn := calleeF_out p ⟨21, a, b, c⟩ hw'
   have hr := row_set (row_set (row_set (row_set (row_set HL2.out 0 (.slice none 0 0)) 1 (.int .i64 0)) 2 (.int .i64 0)) 3 (.slice none 0 0)) 4 (.slice none 0 0)
   have hf : Fr (onB (w.heap.size + 1)) W _ := (((((Fr.refl (onB (w.heap.size + 1)) W).setCell (p := ⟨w.heap.size + 1, 0, none⟩) (fun _ => rfl) (.slice none 0 0)).setCell (p := ⟨w.heap.size + 1, 1, none⟩) (fun _ => rfl) (.int .i64 0)).setCell (p := ⟨w.heap.size + 1, 2, none⟩) (fun _ => rfl) (.int .i64 0)).setCell (p := ⟨w.heap.size + 1, 3, none⟩) (fun _ => rfl) (.slice none 0 0)).setCell (p := ⟨w.heap.size + 1, 4, none⟩) (fun _ => rfl) (.slice none 0 0)
   have hb := HB.out.trans (hf.below HB.out.size (fun k hk => by unfold onB at hk; omega))
   have hP := callee_none (D := D) hn hb
   clear hf hb hn
   have HR := Lib.hid hr; clear hr
   have HP := Lib.hid hP; clear hP
   clear hw hw'
   have WI := Lib.hid wi; clear wi
   go_enter Tryz.func151, Tryz.ntmps151
   go_upto_region 1 with fail
   rw [← HW.out]
   go_wp2_with fail
   refine WI.out.mono ?_
   rintro e w' ⟨rfl, rfl⟩
   go_wp2_with (with_reducible refine bodyPost_ret ?_ rfl HP.out; obtain ⟨⟨k0, k1, k2, k3, k4⟩, _⟩ := five_cells HR.out; simp [results, Tryz.results151, go_sem, k0, k1, k2, k3, k4])
  have wi := within_any W b p.funcs.length
  rw [hw] at wi
  obtain ⟨k, hk, hkl⟩ := within_nat hw
  subst hk
  have hn := calleeF_in p ⟨21, a, (k : Int), c⟩ k hkl rfl (by simp)
  have hfs := HFS.out k hkl
  generalize p.funcs[k] = g at *
  obtain ⟨bb, o, rfl, _, e0, e1, e2, e3, e4, h0, h1, h2, h3, h4, hfv⟩ := hfs
  have hfw := hfv
  obtain ⟨rfl, rfl, ⟨g0, g1, rfl, _⟩, ⟨g2, g3, rfl, _⟩, g4, g5, rfl, _⟩ := hfv
  have hr := row_set (row_set (row_set (row_set (row_set HL2.out 0 (.slice g0 g.args.length g1)) 1 (.int .i64 g.result)) 2 (.int .i64 g.slots)) 3 (.slice g2 g.objects.length g3)) 4 (.slice g4 g.code.length g5)
  have hf : Fr (onB (w.heap.size + 1)) W _ := (((((Fr.refl (onB (w.heap.size + 1)) W).setCell (p := ⟨w.heap.size + 1, 0, none⟩) (fun _ => rfl) (.slice g0 g.args.length g1)).setCell (p := ⟨w.heap.size + 1, 1, none⟩) (fun _ => rfl) (.int .i64 g.result)).setCell (p := ⟨w.heap.size + 1, 2, none⟩) (fun _ => rfl) (.int .i64 g.slots)).setCell (p := ⟨w.heap.size + 1, 3, none⟩) (fun _ => rfl) (.slice g2 g.objects.length g3)).setCell (p := ⟨w.heap.size + 1, 4, none⟩) (fun _ => rfl) (.slice g4 g.code.length g5)
  have hb := HB.out.trans (hf.below HB.out.size (fun k hk => by unfold onB at hk; omega))
  have hP := callee_some hn (hfw.fr hf HD.out) hb
  clear hf hb hn hfw hw
  have HR := Lib.hid hr; clear hr
  have HP := Lib.hid hP; clear hP
  have WI := Lib.hid wi; clear wi
  have hk1 : (k : Int) < p.funcs.length := by omega
  go_enter Tryz.func151, Tryz.ntmps151
  go_upto_region 1 with fail
  rw [← HW.out]
  go_wp2_with fail
  refine WI.out.mono ?_
  rintro e w' ⟨rfl, rfl⟩
  go_wp2_with (with_reducible refine bodyPost_ret ?_ rfl HP.out; obtain ⟨⟨k0, k1, k2, k3, k4⟩, _⟩ := five_cells HR.out; simp [results, Tryz.results151, go_sem, k0, k1, k2, k3, k4])
 by_cases h23 : op = 23
 ·subst h23
  by_cases hw : withinB b p.funcs.length = true
  case neg =>
   have hw' : withinB b p.funcs.length = false := by simpa using hw
   have wi := within_any W b p.funcs.length
   rw [hw'] at wi
   have hn := calleeF_out p ⟨23, a, b, c⟩ hw'
   have hr := row_set (row_set (row_set (row_set (row_set HL2.out 0 (.slice none 0 0)) 1 (.int .i64 0)) 2 (.int .i64 0)) 3 (.slice none 0 0)) 4 (.slice none 0 0)
   have hf : Fr (onB (w.heap.size + 1)) W _ := (((((Fr.refl (onB (w.heap.size + 1)) W).setCell (p := ⟨w.heap.size + 1, 0, none⟩) (fun _ => rfl) (.slice none 0 0)).setCell (p := ⟨w.heap.size + 1, 1, none⟩) (fun _ => rfl) (.int .i64 0)).setCell (p := ⟨w.heap.size + 1, 2, none⟩) (fun _ => rfl) (.int .i64 0)).setCell (p := ⟨w.heap.size + 1, 3, none⟩) (fun _ => rfl) (.slice none 0 0)).setCell (p := ⟨w.heap.size + 1, 4, none⟩) (fun _ => rfl) (.slice none 0 0)
   have hb := HB.out.trans (hf.below HB.out.size (fun k hk => by unfold onB at hk; omega))
   have hP := callee_none (D := D) hn hb
   clear hf hb hn
   have HR := Lib.hid hr; clear hr
   have HP := Lib.hid hP; clear hP
   clear hw hw'
   have WI := Lib.hid wi; clear wi
   go_enter Tryz.func151, Tryz.ntmps151
   go_upto_region 1 with fail
   rw [← HW.out]
   go_wp2_with fail
   refine WI.out.mono ?_
   rintro e w' ⟨rfl, rfl⟩
   go_wp2_with (with_reducible refine bodyPost_ret ?_ rfl HP.out; obtain ⟨⟨k0, k1, k2, k3, k4⟩, _⟩ := five_cells HR.out; simp [results, Tryz.results151, go_sem, k0, k1, k2, k3, k4])
  have wi := within_any W b p.funcs.length
  rw [hw] at wi
  obtain ⟨k, hk, hkl⟩ := within_nat hw
  subst hk
  have hn := calleeF_in p ⟨23, a, (k : Int), c⟩ k hkl rfl (by simp)
  have hfs := HFS.out k hkl
  generalize p.funcs[k] = g at *
  obtain ⟨bb, o, rfl, _, e0, e1, e2, e3, e4, h0, h1, h2, h3, h4, hfv⟩ := hfs
  have hfw := hfv
  obtain ⟨rfl, rfl, ⟨g0, g1, rfl, _⟩, ⟨g2, g3, rfl, _⟩, g4, g5, rfl, _⟩ := hfv
  have hr := row_set (row_set (row_set (row_set (row_set HL2.out 0 (.slice g0 g.args.length g1)) 1 (.int .i64 g.result)) 2 (.int .i64 g.slots)) 3 (.slice g2 g.objects.length g3)) 4 (.slice g4 g.code.length g5)
  have hf : Fr (onB (w.heap.size + 1)) W _ := (((((Fr.refl (onB (w.heap.size + 1)) W).setCell (p := ⟨w.heap.size + 1, 0, none⟩) (fun _ => rfl) (.slice g0 g.args.length g1)).setCell (p := ⟨w.heap.size + 1, 1, none⟩) (fun _ => rfl) (.int .i64 g.result)).setCell (p := ⟨w.heap.size + 1, 2, none⟩) (fun _ => rfl) (.int .i64 g.slots)).setCell (p := ⟨w.heap.size + 1, 3, none⟩) (fun _ => rfl) (.slice g2 g.objects.length g3)).setCell (p := ⟨w.heap.size + 1, 4, none⟩) (fun _ => rfl) (.slice g4 g.code.length g5)
  have hb := HB.out.trans (hf.below HB.out.size (fun k hk => by unfold onB at hk; omega))
  have hP := callee_some hn (hfw.fr hf HD.out) hb
  clear hf hb hn hfw hw
  have HR := Lib.hid hr; clear hr
  have HP := Lib.hid hP; clear hP
  have WI := Lib.hid wi; clear wi
  have hk1 : (k : Int) < p.funcs.length := by omega
  go_enter Tryz.func151, Tryz.ntmps151
  go_upto_region 1 with fail
  rw [← HW.out]
  go_wp2_with fail
  refine WI.out.mono ?_
  rintro e w' ⟨rfl, rfl⟩
  go_wp2_with (with_reducible refine bodyPost_ret ?_ rfl HP.out; obtain ⟨⟨k0, k1, k2, k3, k4⟩, _⟩ := five_cells HR.out; simp [results, Tryz.results151, go_sem, k0, k1, k2, k3, k4])
 by_cases h24 : op = 24
 ·subst h24
  by_cases hw : withinB b p.funcs.length = true
  case neg =>
   have hw' : withinB b p.funcs.length = false := by simpa using hw
   have wi := within_any W b p.funcs.length
   rw [hw'] at wi
   have hn := calleeF_out p ⟨24, a, b, c⟩ hw'
   have hr := row_set (row_set (row_set (row_set (row_set HL2.out 0 (.slice none 0 0)) 1 (.int .i64 0)) 2 (.int .i64 0)) 3 (.slice none 0 0)) 4 (.slice none 0 0)
   have hf : Fr (onB (w.heap.size + 1)) W _ := (((((Fr.refl (onB (w.heap.size + 1)) W).setCell (p := ⟨w.heap.size + 1, 0, none⟩) (fun _ => rfl) (.slice none 0 0)).setCell (p := ⟨w.heap.size + 1, 1, none⟩) (fun _ => rfl) (.int .i64 0)).setCell (p := ⟨w.heap.size + 1, 2, none⟩) (fun _ => rfl) (.int .i64 0)).setCell (p := ⟨w.heap.size + 1, 3, none⟩) (fun _ => rfl) (.slice none 0 0)).setCell (p := ⟨w.heap.size + 1, 4, none⟩) (fun _ => rfl) (.slice none 0 0)
   have hb := HB.out.trans (hf.below HB.out.size (fun k hk => by unfold onB at hk; omega))
   have hP := callee_none (D := D) hn hb
   clear hf hb hn
   have HR := Lib.hid hr; clear hr
   have HP := Lib.hid hP; clear hP
   clear hw hw'
   have WI := Lib.hid wi; clear wi
   go_enter Tryz.func151, Tryz.ntmps151
   go_upto_region 1 with fail
   rw [← HW.out]
   go_wp2_with fail
   refine WI.out.mono ?_
   rintro e w' ⟨rfl, rfl⟩
   go_wp2_with (with_reducible refine bodyPost_ret ?_ rfl HP.out; obtain ⟨⟨k0, k1, k2, k3, k4⟩, _⟩ := five_cells HR.out; simp [results, Tryz.results151, go_sem, k0, k1, k2, k3, k4])
  have wi := within_any W b p.funcs.length
  rw [hw] at wi
  obtain ⟨k, hk, hkl⟩ := within_nat hw
  subst hk
  have hn := calleeF_in p ⟨24, a, (k : Int), c⟩ k hkl rfl (by simp)
  have hfs := HFS.out k hkl
  generalize p.funcs[k] = g at *
  obtain ⟨bb, o, rfl, _, e0, e1, e2, e3, e4, h0, h1, h2, h3, h4, hfv⟩ := hfs
  have hfw := hfv
  obtain ⟨rfl, rfl, ⟨g0, g1, rfl, _⟩, ⟨g2, g3, rfl, _⟩, g4, g5, rfl, _⟩ := hfv
  have hr := row_set (row_set (row_set (row_set (row_set HL2.out 0 (.slice g0 g.args.length g1)) 1 (.int .i64 g.result)) 2 (.int .i64 g.slots)) 3 (.slice g2 g.objects.length g3)) 4 (.slice g4 g.code.length g5)
  have hf : Fr (onB (w.heap.size + 1)) W _ := (((((Fr.refl (onB (w.heap.size + 1)) W).setCell (p := ⟨w.heap.size + 1, 0, none⟩) (fun _ => rfl) (.slice g0 g.args.length g1)).setCell (p := ⟨w.heap.size + 1, 1, none⟩) (fun _ => rfl) (.int .i64 g.result)).setCell (p := ⟨w.heap.size + 1, 2, none⟩) (fun _ => rfl) (.int .i64 g.slots)).setCell (p := ⟨w.heap.size + 1, 3, none⟩) (fun _ => rfl) (.slice g2 g.objects.length g3)).setCell (p := ⟨w.heap.size + 1, 4, none⟩) (fun _ => rfl) (.slice g4 g.code.length g5)
  have hb := HB.out.trans (hf.below HB.out.size (fun k hk => by unfold onB at hk; omega))
  have hP := callee_some hn (hfw.fr hf HD.out) hb
  clear hf hb hn hfw hw
  have HR := Lib.hid hr; clear hr
  have HP := Lib.hid hP; clear hP
  have WI := Lib.hid wi; clear wi
  have hk1 : (k : Int) < p.funcs.length := by omega
  go_enter Tryz.func151, Tryz.ntmps151
  go_upto_region 1 with fail
  rw [← HW.out]
  go_wp2_with fail
  refine WI.out.mono ?_
  rintro e w' ⟨rfl, rfl⟩
  go_wp2_with (with_reducible refine bodyPost_ret ?_ rfl HP.out; obtain ⟨⟨k0, k1, k2, k3, k4⟩, _⟩ := five_cells HR.out; simp [results, Tryz.results151, go_sem, k0, k1, k2, k3, k4])
 have hno : ¬ (op = 21 ∨ op = 23 ∨ op = 24) := by omega
 have e1 : (op == 21) = false := by simpa using h21
 have e2 : (op == 23) = false := by simpa using h23
 have e3 : (op == 24) = false := by simpa using h24
 have hn := calleeF_op p ⟨op, a, b, c⟩ hno
 have hr := row_set (row_set (row_set (row_set (row_set HL2.out 0 (.slice none 0 0)) 1 (.int .i64 0)) 2 (.int .i64 0)) 3 (.slice none 0 0)) 4 (.slice none 0 0)
 have hf : Fr (onB (w.heap.size + 1)) W _ := (((((Fr.refl (onB (w.heap.size + 1)) W).setCell (p := ⟨w.heap.size + 1, 0, none⟩) (fun _ => rfl) (.slice none 0 0)).setCell (p := ⟨w.heap.size + 1, 1, none⟩) (fun _ => rfl) (.int .i64 0)).setCell (p := ⟨w.heap.size + 1, 2, none⟩) (fun _ => rfl) (.int .i64 0)).setCell (p := ⟨w.heap.size + 1, 3, none⟩) (fun _ => rfl) (.slice none 0 0)).setCell (p := ⟨w.heap.size + 1, 4, none⟩) (fun _ => rfl) (.slice none 0 0)
 have hb := HB.out.trans (hf.below HB.out.size (fun k hk => by unfold onB at hk; omega))
 have hP := callee_none (D := D) hn hb
 clear hf hb hn
 have HR := Lib.hid hr; clear hr
 have HP := Lib.hid hP; clear hP
 clear hno h21 h23 h24
 go_enter Tryz.func151, Tryz.ntmps151
 go_upto_region 1 with fail
 rw [← HW.out]
 go_wp2_with (with_reducible refine bodyPost_ret ?_ rfl HP.out; obtain ⟨⟨k0, k1, k2, k3, k4⟩, _⟩ := five_cells HR.out; simp [results, Tryz.results151, go_sem, k0, k1, k2, k3, k4])
end Go.Proofs.YthkhgihjigmkoaaGreat
namespace Go.Proofs.YthkhgihjigmkoaaGreat
open Go.ChangeShapes Go.WideShapes Go.ChangeAt Go.RowKit Go.Maps
set_option maxRecDepth 100000 in
theorem plaidOut : laidOutB Tryz.prog = true := by kernel_rfl
set_option maxRecDepth 100000 in
theorem prow : (32 : TypeId) < Tryz.prog.types.size := of_decide_eq_true (by kernel_rfl)
set_option maxRecDepth 100000 in
theorem pwide : (match Tryz.prog.underlying 32 with | some (.array _ _) | some (.struct _) => true | _ => false) = true := by kernel_rfl
set_option maxRecDepth 100000 in
theorem pkeyed : Keyed Tryz.prog 32 := Keyed.of_law (deep_law_laid plaidOut (m := 2) (by omega) prow (by kernel_rfl) pwide)
set_option maxRecDepth 100000 in
theorem pkey (a b : Int) (ha : i64B a) (hb : i64B b) : ∃ l, keyOf Tryz.prog 32 (.agg #[.int .i64 a, .int .i64 b]) = some l := by
 have hc : Tryz.prog.cellsOf 32 = 2 := by kernel_rfl
 have hk : Tryz.prog.keyType 32 = true := by kernel_rfl
 have hf : (Value.agg #[.int .i64 a, .int .i64 b]).formed Tryz.prog 32 = true := by simp [Value.formed, Tryz.underlying32, hc]
 have h1 : ∀ d x, i64B x → Tryz.prog.keyLits (d + 1) 3 [.int .i64 x] = some [.int .i64 x] := fun d x hx => by
  unfold Program.keyLits
  simp [Tryz.underlying3, i64_wf hx]
 have hci : Tryz.prog.cellsOf 3 = 1 := by kernel_rfl
 have h2 : ∀ d, Tryz.prog.keyLits (d + 2) 32 [.int .i64 a, .int .i64 b] = some [.int .i64 a, .int .i64 b] := fun d => by
  unfold Program.keyLits
  simp [Tryz.underlying32, hc, hci, h1 d a ha, h1 d b hb]
 obtain ⟨n, hn⟩ : ∃ n, Tryz.prog.types.size + 1 = n + 2 := ⟨Tryz.prog.types.size - 1, by have : 0 < Tryz.prog.types.size := Nat.lt_of_le_of_lt (Nat.zero_le _) prow; omega⟩
 unfold keyOf
 rw [Tryz.underlying32]
 simp only [hk, hf, Bool.and_self, if_true]
 refine ⟨.string (keyBytes [.int .i64 a, .int .i64 b]), ?_⟩
 rw [hn]
 show Option.map (fun ls => Lit.string (keyBytes ls)) (Tryz.prog.keyLits (n + 2) 32 [.int .i64 a, .int .i64 b]) = _
 rw [h2]
 rfl
noncomputable def plK : KeyTy Tryz.prog { x : Int × Int // i64B x.1 ∧ i64B x.2 } where
 k := 32
 law := pkeyed
 key := fun x => .agg #[.int .i64 x.1.1, .int .i64 x.1.2]
 lit := fun x => (keyOf Tryz.prog 32 (.agg #[.int .i64 x.1.1, .int .i64 x.1.2])).getD (.bool true)
 wf := fun _ => True
 hkey := fun x _ => by
  obtain ⟨l, h⟩ := pkey x.1.1 x.1.2 x.2.1 x.2.2
  rw [h]; rfl
 inj := fun x y h => by
  obtain ⟨l, h1⟩ := pkey x.1.1 x.1.2 x.2.1 x.2.2
  obtain ⟨m, h2⟩ := pkey y.1.1 y.1.2 y.2.1 y.2.2
  rw [h1, h2] at h
  have e : l = m := h
  subst e
  have h3 := pkeyed.inj h1 h2
  obtain ⟨⟨x1, x2⟩, _⟩ := x
  obtain ⟨⟨y1, y2⟩, _⟩ := y
  simp at h3
  obtain ⟨rfl, rfl⟩ := h3
  rfl
end Go.Proofs.YthkhgihjigmkoaaGreat
namespace Go.Proofs.YthkhgihjigmkoaaGreat
open Go.ChangeShapes Go.WideShapes Go.ChangeAt Go.RowKit
theorem append_own_addr {P : Program} {α : Type} (E : Elem P α) {ops : Array Oper} {rest : List Oper} {o : Oper} {a : Act} {Q : Exit → Act → World → Prop} {w : World} (hgd : o.guard = none) (s x : Operand)
  (ho : o.op = .call { callee := .builtin .append, args := #[s, x], argTypes := #[E.t, E.t] })
  (B : Nat) (l m : List α) (v : Value) (hs : a.eval s = v) (hown : Own E w B v l) (xa : Addr) (c : Nat) (hx : a.eval x = .slice (some xa) m.length c)
  (hm : ∀ j u, (m.flatMap E.enc)[j]? = some u → w.cell? (xa.add j) = some u) (hlen : l.length + m.length ≤ 100000000) (hB : B ≤ w.heap.size)
  (h : ∀ v' w', Own E w' B v' (l ++ m) → w.grownBy w' v.ownBlock → wpList P ops Q rest (a.put o.dst v') w') : wpList P ops Q (o :: rest) a w := by
 obtain ⟨i0, hi, hz0, hz1, hz2⟩ := info_parts E.info
 refine wpList_append_own _ hgd s x E.t ho B E.e i0 E.zero E.size E.bytes E.ht hi hz0 hz1 hz2 E.hzs E.hsz v l.length (l.flatMap E.enc) hs hown xa m.length c (m.flatMap E.enc) hx (E.len m) hm ?_ ?_ ?_ hB ?_
 ·intro u hu
  obtain ⟨y, _, hy⟩ := List.mem_flatMap.1 hu
  exact E.hone y u hy
 ·unfold maxLen; omega
 ·have h1 := E.hby
  have h2 : (l.length + m.length) * E.bytes ≤ 100000000 * 1000 := Nat.mul_le_mul hlen h1
  omega
 ·intro v' w' ho' hg _
  refine h v' w' ?_ hg
  unfold Own
  rw [List.length_append, List.flatMap_append]
  exact ho'
theorem cells_addr {w : World} {b o : Nat} {cs : List Value} (h : CellsAt w b o cs) : ∀ j u, cs[j]? = some u → w.cell? ((⟨b, o, none⟩ : Addr).add j) = some u := by
 intro j u hj
 have := h j u hj
 unfold Addr.add
 by_cases h0 : j = 0
 ·subst h0; rw [if_pos rfl]; exact this
 ·rw [if_neg h0]; exact this
theorem sl_addrInts {w : World} {D : Nat → Prop} {xa : Addr} {l : List Int} (h : IntSl w D (some xa) l) : ∀ j u, (l.flatMap intE.enc)[j]? = some u → w.cell? (xa.add j) = some u := by
 by_cases h0 : 1 ≤ l.length
 ·obtain ⟨b, o, e, hc⟩ := sl_cellsInts h h0
  injection e with e
  subst e
  exact cells_addr hc
 ·have : l = [] := List.length_eq_zero_iff.1 (by omega)
  subst this
  intro j u hj
  simp at hj
theorem alloc_cells {w : World} {xa : Addr} {o : Obj} {v : Value} (h : w.cell? xa = some v) : (w.alloc o).cell? xa = some v := by
 have hp := plain_addr h
 rw [hp] at h ⊢
 rw [cell_under _ _ (World.block_lt h)]; exact h
theorem eq_nil_run {α : Type} (E : Elem Tryz.prog α) (a : Option Addr) (n c : Nat) (w : World) : (binOp .eql E.t (.slice a n c) (.slice none 0 0)).run Tryz.prog w = .ok (.bool a.isNone) w := by
 have h : (Op.equalIn (9999 + 1) E.t (.slice a n c) (.slice none 0 0)).run Tryz.prog w = .ok a.isNone w := by
  unfold Op.equalIn
  cases a <;> simp [run_underlying E.ht]
 have h2 : binOp .eql E.t (.slice a n c) (.slice none 0 0) = (do pure (.bool (← Op.equalIn (9999 + 1) E.t (.slice a n c) (.slice none 0 0)))) := rfl
 rw [h2]
 simp [h]
set_option maxRecDepth 100000 in
set_option maxHeartbeats 1600000 in
theorem cloneInts_any (w : World) (D : Nat → Prop) (a : Option Addr) (l : List Int) (c : Nat) (hsl : IntSl w D a l) (hn : l.length ≤ 1000000) :
  Calls Tryz.prog 64 #[.slice a l.length c] w fun e w' => ∃ v, e = .returned v ∧ Own intE w' w.heap.size v l ∧ Below w.heap.size w w' := by
 cases a with
 | none =>
  have hl : l = [] := by
   cases l with
   | nil => rfl
   | cons x l => obtain ⟨b, o, h, _⟩ := hsl 0 (by simp); cases h
  subst hl
  have hnil := fun w => eq_nil_run intE none 0 c w
  have hnil : ∀ w, (binOp .eql 23 (.slice none 0 c) (.slice none 0 0)).run Tryz.prog w = .ok (.bool true) w := hnil
  go_enter Tryz.func64, Tryz.ntmps64
  go_wp2_with fail
  go_ret
  exact ⟨_, rfl, Own.nil _ _ _, Below.refl _ _⟩
 | some xa =>
  have hc := sl_addrInts hsl
  have ho := own_new intE w [] #[] rfl (by decide)
  have hb0 := (Below.refl w.heap.size w).alloc (Nat.le_refl _) (.cells #[] intE.e)
  have hc2 := fun j u hj => alloc_cells (o := .cells #[] intE.e) (hc j u hj)
  have hnil := fun w => eq_nil_run intE (some xa) l.length c w
  have hnil : ∀ w, (binOp .eql 23 (.slice (some xa) l.length c) (.slice none 0 0)).run Tryz.prog w = .ok (.bool false) w := hnil
  clear hsl hc
  have HC2 := Lib.hid hc2; clear hc2
  have HO := Lib.hid ho; clear ho
  have HB0 := Lib.hid hb0; clear hb0
  go_enter Tryz.func64, Tryz.ntmps64
  go_wp2_with (at_builtin; refine append_own_addr intE rfl (.tmp 5) (.tmp 6) rfl w.heap.size [] l _ rfl HO.out xa c rfl HC2.out ?c1 ?c2 ?_)
  case c1 => simp; omega
  case c2 => simp
  intro v2 w2 hown2 hg2
  have hB2 := below_grown HB0.out HO.out hg2 (by simp) (Nat.le_refl _)
  clear hg2
  have HB2 := Lib.hid hB2; clear hB2
  have HOWN2 := Lib.hid hown2; clear hown2
  go_wp2_with fail
  go_ret
  exact ⟨_, rfl, HOWN2.out, HB2.out⟩
end Go.Proofs.YthkhgihjigmkoaaGreat
namespace Go.Proofs.YthkhgihjigmkoaaGreat.Tk
open Go.ChangeShapes Go.WideShapes Go.ChangeAt Go.RowKit
theorem take_snoc {α : Type} (l : List α) (k : Nat) (hk : k < l.length) : l.take (k + 1) = l.take k ++ [l[k]] := by
 rw [List.take_add_one, List.getElem?_eq_getElem hk]
 rfl
structure TFun where (nargs : Nat) (slots : Int) (objects : List Int)
structure TPrg where (shapes : List Nat) (funcs : List TFun)
def ShL (w : World) (D : Nat → Prop) (a : Option Addr) (l : List Nat) : Prop := ∀ j (hj : j < l.length), ∃ b o, a = some ⟨b, o, none⟩ ∧ D b ∧ ∃ a' c', w.cell? ⟨b, o + j, none⟩ = some (.slice a' l[j] c')
theorem ShL.fr {F : Nat → Prop} {w w' : World} {D : Nat → Prop} {a : Option Addr} {l : List Nat} (h : ShL w D a l) (hf : Fr F w w') (hd : ∀ k, D k → ¬ F k) : ShL w' D a l := fun j hj => by
 obtain ⟨b, o, h1, h2, a', c', h3⟩ := h j hj
 exact ⟨b, o, h1, h2, a', c', hf.cell h3 (hd b h2)⟩
def FunV (w : World) (D : Nat → Prop) (f : TFun) (c0 c1 c2 c3 c4 : Value) : Prop :=
 (∃ a c, c0 = .slice a f.nargs c) ∧ (∃ r, c1 = .int .i64 r) ∧ c2 = .int .i64 f.slots ∧ (∃ a c, c3 = .slice a f.objects.length c ∧ IntSl w D a f.objects) ∧ ∃ a n c, c4 = .slice a n c
theorem FunV.fr {F : Nat → Prop} {w w' : World} {D : Nat → Prop} {f : TFun} {c0 c1 c2 c3 c4 : Value} (h : FunV w D f c0 c1 c2 c3 c4) (hf : Fr F w w') (hd : ∀ k, D k → ¬ F k) : FunV w' D f c0 c1 c2 c3 c4 := by
 obtain ⟨h1, h2, h3, ⟨a, c, h4, h5⟩, h6⟩ := h
 exact ⟨h1, h2, h3, ⟨a, c, h4, h5.fr hf hd⟩, h6⟩
def FnL (w : World) (D : Nat → Prop) (a : Option Addr) (l : List TFun) : Prop := ∀ j (hj : j < l.length), ∃ b o, a = some ⟨b, o, none⟩ ∧ D b ∧ ∃ c0 c1 c2 c3 c4, w.cell? ⟨b, o + j * 5, none⟩ = some c0 ∧ w.cell? ⟨b, o + j * 5 + 1, none⟩ = some c1 ∧ w.cell? ⟨b, o + j * 5 + 2, none⟩ = some c2 ∧ w.cell? ⟨b, o + j * 5 + 3, none⟩ = some c3 ∧ w.cell? ⟨b, o + j * 5 + 4, none⟩ = some c4 ∧ FunV w D l[j] c0 c1 c2 c3 c4
theorem FnL.fr {F : Nat → Prop} {w w' : World} {D : Nat → Prop} {a : Option Addr} {l : List TFun} (h : FnL w D a l) (hf : Fr F w w') (hd : ∀ k, D k → ¬ F k) : FnL w' D a l := fun j hj => by
 obtain ⟨b, o, h1, h2, c0, c1, c2, c3, c4, q0, q1, q2, q3, q4, h4⟩ := h j hj
 have hn := hd b h2
 exact ⟨b, o, h1, h2, c0, c1, c2, c3, c4, hf.cell q0 hn, hf.cell q1 hn, hf.cell q2 hn, hf.cell q3 hn, hf.cell q4 hn, h4.fr hf hd⟩
def PV (w : World) (D : Nat → Prop) (p : TPrg) (c0 c1 c2 : Value) : Prop :=
 (∃ a n c, c0 = .slice a n c) ∧ (∃ a c, c1 = .slice a p.shapes.length c ∧ ShL w D a p.shapes) ∧ ∃ a c, c2 = .slice a p.funcs.length c ∧ FnL w D a p.funcs
theorem PV.fr {F : Nat → Prop} {w w' : World} {D : Nat → Prop} {p : TPrg} {c0 c1 c2 : Value} (h : PV w D p c0 c1 c2) (hf : Fr F w w') (hd : ∀ k, D k → ¬ F k) : PV w' D p c0 c1 c2 := by
 obtain ⟨h0, ⟨a', c', h3, h4⟩, a'', c'', h5, h6⟩ := h
 exact ⟨h0, ⟨a', c', h3, h4.fr hf hd⟩, a'', c'', h5, h6.fr hf hd⟩
theorem PV.below {w w' : World} {D : Nat → Prop} {p : TPrg} {c0 c1 c2 : Value} (h : PV w D p c0 c1 c2) (hb : Below w.heap.size w w') : PV w' D p c0 c1 c2 := h.fr (Fr.of_below hb (fun _ => False)) (fun _ _ h => h)
def fieldsN (p : TPrg) (s : Int) : Nat := if withinB s p.shapes.length = true then (p.shapes[s.toNat]?).getD 0 else 0
def objsN (p : TPrg) (l : List Int) : Nat := (l.map (fieldsN p)).sum
def frameN (p : TPrg) (f : TFun) : Nat := 2 + f.slots.toNat + objsN p f.objects
def wordsN (p : TPrg) (fn : Int) : Nat := if withinB fn p.funcs.length = true then ((p.funcs[fn.toNat]?).map (frameN p)).getD 0 else 0
def PSmall (p : TPrg) : Prop := p.shapes.length ≤ 3000 ∧ p.funcs.length ≤ 3000 ∧ (∀ s ∈ p.shapes, s ≤ 3000) ∧ ∀ f ∈ p.funcs, f.nargs ≤ 3000 ∧ f.slots ≤ 3000 ∧ f.objects.length ≤ 3000
theorem fieldsN_le {p : TPrg} (h : PSmall p) (s : Int) : fieldsN p s ≤ 3000 := by
 unfold fieldsN
 split
 ·cases hq : p.shapes[s.toNat]? with
  | none => simp
  | some n => exact h.2.2.1 n (List.mem_of_getElem? hq)
 ·simp
theorem objsN_le {p : TPrg} (h : PSmall p) (l : List Int) : objsN p l ≤ 3000 * l.length := by
 unfold objsN
 induction l with
 | nil => simp
 | cons x l ih =>
  have := fieldsN_le h x
  simp only [List.map_cons, List.sum_cons, List.length_cons]
  omega
theorem objsN_snoc (p : TPrg) (l : List Int) (k : Nat) (hk : k < l.length) : objsN p (l.take (k + 1)) = objsN p (l.take k) + fieldsN p l[k] := by
 unfold objsN
 rw [take_snoc l k hk, List.map_append, List.sum_append]
 simp
theorem wordsN_at {p : TPrg} (k : Nat) (hk : k < p.funcs.length) : wordsN p k = frameN p p.funcs[k] := by
 have h : withinB (k : Int) p.funcs.length = true := by simp [withinB]; omega
 unfold wordsN
 rw [if_pos h]
 simp [hk]
theorem wordsN_out {p : TPrg} {fn : Int} (h : withinB fn p.funcs.length = false) : wordsN p fn = 0 := by unfold wordsN; rw [h]; rfl
theorem frameN_le {p : TPrg} (h : PSmall p) (f : TFun) (hf : f ∈ p.funcs) : frameN p f ≤ 10000000 := by
 have h1 := h.2.2.2 f hf
 have h2 := objsN_le h f.objects
 unfold frameN
 omega
theorem wordsN_le {p : TPrg} (h : PSmall p) (fn : Int) : wordsN p fn ≤ 10000000 := by
 unfold wordsN
 split
 ·cases hq : p.funcs[fn.toNat]? with
  | none => simp
  | some f => exact frameN_le h f (List.mem_of_getElem? hq)
 ·simp
end Go.Proofs.YthkhgihjigmkoaaGreat.Tk
namespace Go.Proofs.YthkhgihjigmkoaaGreat.Tk
open Go.ChangeShapes Go.WideShapes Go.ChangeAt Go.RowKit
def intRow (l : List Int) (t : TypeId) : Obj := .cells (l.map (Value.int .i64)).toArray t
theorem intRow_set {w : World} {q : Nat} {l : List Int} {t : TypeId} (h : w.heap[q]? = some (intRow l t)) (j : Nat) (x : Int) : (w.setCell ⟨q, j, none⟩ (.int .i64 x)).heap[q]? = some (intRow (l.set j x) t) := by
 unfold intRow at h ⊢
 rw [row_set h]
 congr 2
 apply Array.ext'
 simp
theorem intRow_sets {q : Nat} {t : TypeId} (n : Nat) : ∀ (w : World) (o : Nat) (l : List Int), w.heap[q]? = some (intRow l t) → (w.setCells q o (List.replicate n (.int .i64 0))).heap[q]? = some (intRow ((List.range n).foldl (fun s i => s.set (o + i) 0) l) t) := by
 induction n with
 | zero => intro w o l h; simpa [World.setCells] using h
 | succ n ih =>
  intro w o l h
  have h1 := intRow_set h o 0
  have h2 := ih _ (o + 1) _ h1
  rw [List.replicate_succ]
  have e : (List.range (n + 1)).foldl (fun s i => s.set (o + i) 0) l = (List.range n).foldl (fun s i => s.set (o + 1 + i) 0) (l.set o 0) := by
   rw [List.range_succ_eq_map, List.foldl_cons, List.foldl_map]
   congr 1
   funext s i
   congr 1
   omega
  rw [e]
  exact h2
theorem clear_len (n : Nat) : ∀ (o : Nat) (l : List Int), ((List.range n).foldl (fun s i => s.set (o + i) 0) l).length = l.length := by
 induction n with
 | zero => intro o l; rfl
 | succ n ih => intro o l; rw [List.range_succ, List.foldl_append]; simp [ih]
theorem sets_fr {q : Nat} (vs : List Value) : ∀ (w : World) (o : Nat), Fr (fun k => k = q) w (w.setCells q o vs) := by
 induction vs with
 | nil => intro w o; exact Fr.refl _ _
 | cons v vs ih =>
  intro w o
  exact ((Fr.refl (fun k => k = q) w).setCell (p := ⟨q, o, none⟩) (fun _ => rfl) v).trans (ih _ _) (fun k _ h => h)
end Go.Proofs.YthkhgihjigmkoaaGreat.Tk
