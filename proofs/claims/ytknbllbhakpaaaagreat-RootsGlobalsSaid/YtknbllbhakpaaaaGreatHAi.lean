/- Walks: check.look's callee, quiet. Keys that are places. Walk: check.code: the instructions by their places. -/
import Derived.Test.YtknbllbhakpaaaaGreatHAg
import Derived.Test.YtknbllbhakpaaaaGreatHAc
import Derived.BigRegion
import Derived.DeepKeys4
set_option linter.unusedVariables false
set_option linter.unusedSimpArgs false
namespace Go.Proofs.YtknbllbhakpaaaaGreat
open Go.ChangeShapes Go.WideShapes Go.ChangeAt Go.RowKit
/-- a look's fourteen cells -/
def lookC (c0 c1 c2 d0 d3 d4 : Value) (r s : Int) (i : Ins) (fn pc : Int) : Array Value := #[c0, c1, c2, d0, .int .i64 r, .int .i64 s, d3, d4, .int .i64 i.op, .int .i64 i.a, .int .i64 i.b, .int .i64 i.c, .int .i64 fn, .int .i64 pc]
def fun0 : Fun := ⟨[], 0, 0, [], []⟩
def calleeG (p : Prg) (i : Ins) : Fun := (calleeF p i).getD fun0
theorem fun0_val (w : World) (D : Nat → Prop) : FunVal w D fun0 (.slice none 0 0) (.int .i64 0) (.int .i64 0) (.slice none 0 0) (.slice none 0 0) :=
  ⟨rfl, rfl, ⟨none, 0, rfl, fun j hj => by cases hj⟩, ⟨none, 0, rfl, fun j hj => by cases hj⟩, none, 0, rfl, fun j hj => by cases hj⟩
def CalleePost (p : Prg) (i : Ins) (D : Nat → Prop) (w : World) (e : Ending) (w' : World) : Prop :=
  ∃ d0 d3 d4, e = .returned (.tuple #[.agg #[d0, .int .i64 (calleeG p i).result, .int .i64 (calleeG p i).slots, d3, d4], .bool (calleeF p i).isSome]) ∧ FunVal w' D (calleeG p i) d0 (.int .i64 (calleeG p i).result) (.int .i64 (calleeG p i).slots) d3 d4 ∧ Below w.heap.size w w'
theorem calleeF_op (p : Prg) (i : Ins) (h : ¬ (i.op = 21 ∨ i.op = 23 ∨ i.op = 24)) : calleeF p i = none := by unfold calleeF; rw [if_neg (fun h2 => h h2.1)]
theorem calleeF_out (p : Prg) (i : Ins) (h : withinB i.b p.funcs.length = false) : calleeF p i = none := by unfold calleeF; rw [if_neg (fun h2 => by rw [h] at h2; cases h2.2)]
theorem calleeF_in (p : Prg) (i : Ins) (k : Nat) (hk : k < p.funcs.length) (hb : i.b = k) (h : i.op = 21 ∨ i.op = 23 ∨ i.op = 24) : calleeF p i = some p.funcs[k] := by
  unfold calleeF
  rw [if_pos ⟨h, by rw [hb]; simp [withinB]; omega⟩, hb]
  simp [hk]
theorem callee_none {p : Prg} {i : Ins} {D : Nat → Prop} {w w' : World} (hn : calleeF p i = none) (hb : Below w.heap.size w w') : CalleePost p i D w (.returned (.tuple #[.agg #[.slice none 0 0, .int .i64 0, .int .i64 0, .slice none 0 0, .slice none 0 0], .bool false])) w' := by
  unfold CalleePost calleeG
  rw [hn]
  exact ⟨_, _, _, rfl, fun0_val _ _, hb⟩
theorem callee_some {p : Prg} {i : Ins} {g : Fun} {D : Nat → Prop} {w w' : World} {d0 d3 d4 : Value} (hn : calleeF p i = some g) (hv : FunVal w' D g d0 (.int .i64 g.result) (.int .i64 g.slots) d3 d4) (hb : Below w.heap.size w w') : CalleePost p i D w (.returned (.tuple #[.agg #[d0, .int .i64 g.result, .int .i64 g.slots, d3, d4], .bool true])) w' := by
  unfold CalleePost calleeG
  rw [hn]
  exact ⟨_, _, _, rfl, hv, hb⟩
theorem within_nat {b : Int} {n : Nat} (h : withinB b n = true) : ∃ k : Nat, b = k ∧ k < n := by
  simp [withinB] at h
  exact ⟨b.toNat, by omega, by omega⟩
set_option maxRecDepth 100000 in
set_option maxHeartbeats 1600000 in
theorem callee_any (w : World) (D : Nat → Prop) (hD : ∀ k, D k → k < w.heap.size) (p : Prg) (c0 c1 c2 d0 d3 d4 : Value) (r s : Int) (i : Ins) (fn pc : Int) (hv : PrgVal w D p c0 c1 c2) :
    Calls Tryz.prog 160 #[.agg (lookC c0 c1 c2 d0 d3 d4 r s i fn pc)] w (CalleePost p i D w) := by
  unfold lookC
  obtain ⟨⟨a0, m0, rfl, _⟩, ⟨a1, m1, rfl, _⟩, a2, m2, rfl, hfs⟩ := hv
  have hb := ((Below.refl w.heap.size w).alloc (Nat.le_refl _) (.cells #[.slice a0 p.globals.length m0, .slice a1 p.shapes.length m1, .slice a2 p.funcs.length m2, d0, .int .i64 r, .int .i64 s, d3, d4, .int .i64 i.op, .int .i64 i.a, .int .i64 i.b, .int .i64 i.c, .int .i64 fn, .int .i64 pc] 204)).alloc (by simp) (.cells #[.slice none 0 0, .int .i64 0, .int .i64 0, .slice none 0 0, .slice none 0 0] 31)
  have hbx := box2 w #[.slice a0 p.globals.length m0, .slice a1 p.shapes.length m1, .slice a2 p.funcs.length m2, d0, .int .i64 r, .int .i64 s, d3, d4, .int .i64 i.op, .int .i64 i.a, .int .i64 i.b, .int .i64 i.c, .int .i64 fn, .int .i64 pc] #[.slice none 0 0, .int .i64 0, .int .i64 0, .slice none 0 0, .slice none 0 0] 204 31 _ (Below.refl _ _)
  have hl2 := heap_new (w.alloc (.cells #[.slice a0 p.globals.length m0, .slice a1 p.shapes.length m1, .slice a2 p.funcs.length m2, d0, .int .i64 r, .int .i64 s, d3, d4, .int .i64 i.op, .int .i64 i.a, .int .i64 i.b, .int .i64 i.c, .int .i64 fn, .int .i64 pc] 204)) (.cells #[.slice none 0 0, .int .i64 0, .int .i64 0, .slice none 0 0, .slice none 0 0] 31)
  rw [show (w.alloc (.cells #[.slice a0 p.globals.length m0, .slice a1 p.shapes.length m1, .slice a2 p.funcs.length m2, d0, .int .i64 r, .int .i64 s, d3, d4, .int .i64 i.op, .int .i64 i.a, .int .i64 i.b, .int .i64 i.c, .int .i64 fn, .int .i64 pc] 204)).heap.size = w.heap.size + 1 from by simp] at hl2
  obtain ⟨W, hW⟩ : ∃ W, W = (w.alloc (.cells #[.slice a0 p.globals.length m0, .slice a1 p.shapes.length m1, .slice a2 p.funcs.length m2, d0, .int .i64 r, .int .i64 s, d3, d4, .int .i64 i.op, .int .i64 i.a, .int .i64 i.b, .int .i64 i.c, .int .i64 fn, .int .i64 pc] 204)).alloc (.cells #[.slice none 0 0, .int .i64 0, .int .i64 0, .slice none 0 0, .slice none 0 0] 31) := ⟨_, rfl⟩
  rw [← hW] at hb hl2 hbx
  have q2 := hbx.1 2 _ rfl
  have q8 := hbx.1 8 _ rfl
  have q10 := hbx.1 10 _ rfl
  have hfs := hfs.fr (Fr.of_below hb (fun _ => False)) (fun _ _ h => h)
  have hd : ∀ k, D k → ¬ onB (w.heap.size + 1) k := fun k hk h => by have := hD k hk; unfold onB at h; omega
  obtain ⟨_, f0, f1, f2, f3, f4⟩ := five_cells hl2
  clear hbx hD
  have HW := Lib.hid hW
  clear hW
  have HB := Lib.hid hb; clear hb
  have HL2 := Lib.hid hl2; clear hl2
  have HFS := Lib.hid hfs; clear hfs
  have HD := Lib.hid hd; clear hd
  obtain ⟨op, a, b, c⟩ := i
  dsimp only at q8 q10 ⊢
  by_cases h21 : op = 21
  · subst h21
    by_cases hw : withinB b p.funcs.length = true
    case neg =>
      have hw' : withinB b p.funcs.length = false := by simpa using hw
      have wi := within_any W b p.funcs.length
      rw [hw'] at wi
      have hn := calleeF_out p ⟨21, a, b, c⟩ hw'
      have hr := row_set (row_set (row_set (row_set (row_set HL2.out 0 (.slice none 0 0)) 1 (.int .i64 0)) 2 (.int .i64 0)) 3 (.slice none 0 0)) 4 (.slice none 0 0)
      have hf : Fr (onB (w.heap.size + 1)) W _ := (((((Fr.refl (onB (w.heap.size + 1)) W).setCell (p := ⟨w.heap.size + 1, 0, none⟩) (fun _ => rfl) (.slice none 0 0)).setCell (p := ⟨w.heap.size + 1, 1, none⟩) (fun _ => rfl) (.int .i64 0)).setCell (p := ⟨w.heap.size + 1, 2, none⟩) (fun _ => rfl) (.int .i64 0)).setCell (p := ⟨w.heap.size + 1, 3, none⟩) (fun _ => rfl) (.slice none 0 0)).setCell (p := ⟨w.heap.size + 1, 4, none⟩) (fun _ => rfl) (.slice none 0 0)
      have hb := HB.out.trans (hf.below HB.out.size (fun k hk => by unfold onB at hk; omega))
      have hP := callee_none (D := D) hn hb
      clear hf hb hn
      have HR := Lib.hid hr; clear hr
      have HP := Lib.hid hP; clear hP
      clear hw hw'
      have WI := Lib.hid wi; clear wi
      go_enter Tryz.func160, Tryz.ntmps160
      go_upto_region 1 with fail
      rw [← HW.out]
      go_wp2_with fail
      refine WI.out.mono ?_
      rintro e w' ⟨rfl, rfl⟩
      go_wp2_with (with_reducible refine bodyPost_ret ?_ rfl HP.out; obtain ⟨⟨k0, k1, k2, k3, k4⟩, _⟩ := five_cells HR.out; simp [results, Tryz.results160, go_sem, k0, k1, k2, k3, k4])
    have wi := within_any W b p.funcs.length
    rw [hw] at wi
    obtain ⟨k, hk, hkl⟩ := within_nat hw
    subst hk
    have hn := calleeF_in p ⟨21, a, (k : Int), c⟩ k hkl rfl (by simp)
    have hfs := HFS.out k hkl
    generalize p.funcs[k] = g at *
    obtain ⟨bb, o, rfl, _, e0, e1, e2, e3, e4, h0, h1, h2, h3, h4, hfv⟩ := hfs
    have hfw := hfv
    obtain ⟨rfl, rfl, ⟨g0, g1, rfl, _⟩, ⟨g2, g3, rfl, _⟩, g4, g5, rfl, _⟩ := hfv
    have hr := row_set (row_set (row_set (row_set (row_set HL2.out 0 (.slice g0 g.args.length g1)) 1 (.int .i64 g.result)) 2 (.int .i64 g.slots)) 3 (.slice g2 g.objects.length g3)) 4 (.slice g4 g.code.length g5)
    have hf : Fr (onB (w.heap.size + 1)) W _ := (((((Fr.refl (onB (w.heap.size + 1)) W).setCell (p := ⟨w.heap.size + 1, 0, none⟩) (fun _ => rfl) (.slice g0 g.args.length g1)).setCell (p := ⟨w.heap.size + 1, 1, none⟩) (fun _ => rfl) (.int .i64 g.result)).setCell (p := ⟨w.heap.size + 1, 2, none⟩) (fun _ => rfl) (.int .i64 g.slots)).setCell (p := ⟨w.heap.size + 1, 3, none⟩) (fun _ => rfl) (.slice g2 g.objects.length g3)).setCell (p := ⟨w.heap.size + 1, 4, none⟩) (fun _ => rfl) (.slice g4 g.code.length g5)
    have hb := HB.out.trans (hf.below HB.out.size (fun k hk => by unfold onB at hk; omega))
    have hP := callee_some hn (hfw.fr hf HD.out) hb
    clear hf hb hn hfw hw
    have HR := Lib.hid hr; clear hr
    have HP := Lib.hid hP; clear hP
    have WI := Lib.hid wi; clear wi
    have hk1 : (k : Int) < p.funcs.length := by omega
    go_enter Tryz.func160, Tryz.ntmps160
    go_upto_region 1 with fail
    rw [← HW.out]
    go_wp2_with fail
    refine WI.out.mono ?_
    rintro e w' ⟨rfl, rfl⟩
    go_wp2_with (with_reducible refine bodyPost_ret ?_ rfl HP.out; obtain ⟨⟨k0, k1, k2, k3, k4⟩, _⟩ := five_cells HR.out; simp [results, Tryz.results160, go_sem, k0, k1, k2, k3, k4])
  by_cases h23 : op = 23
  · subst h23
    by_cases hw : withinB b p.funcs.length = true
    case neg =>
      have hw' : withinB b p.funcs.length = false := by simpa using hw
      have wi := within_any W b p.funcs.length
      rw [hw'] at wi
      have hn := calleeF_out p ⟨23, a, b, c⟩ hw'
      have hr := row_set (row_set (row_set (row_set (row_set HL2.out 0 (.slice none 0 0)) 1 (.int .i64 0)) 2 (.int .i64 0)) 3 (.slice none 0 0)) 4 (.slice none 0 0)
      have hf : Fr (onB (w.heap.size + 1)) W _ := (((((Fr.refl (onB (w.heap.size + 1)) W).setCell (p := ⟨w.heap.size + 1, 0, none⟩) (fun _ => rfl) (.slice none 0 0)).setCell (p := ⟨w.heap.size + 1, 1, none⟩) (fun _ => rfl) (.int .i64 0)).setCell (p := ⟨w.heap.size + 1, 2, none⟩) (fun _ => rfl) (.int .i64 0)).setCell (p := ⟨w.heap.size + 1, 3, none⟩) (fun _ => rfl) (.slice none 0 0)).setCell (p := ⟨w.heap.size + 1, 4, none⟩) (fun _ => rfl) (.slice none 0 0)
      have hb := HB.out.trans (hf.below HB.out.size (fun k hk => by unfold onB at hk; omega))
      have hP := callee_none (D := D) hn hb
      clear hf hb hn
      have HR := Lib.hid hr; clear hr
      have HP := Lib.hid hP; clear hP
      clear hw hw'
      have WI := Lib.hid wi; clear wi
      go_enter Tryz.func160, Tryz.ntmps160
      go_upto_region 1 with fail
      rw [← HW.out]
      go_wp2_with fail
      refine WI.out.mono ?_
      rintro e w' ⟨rfl, rfl⟩
      go_wp2_with (with_reducible refine bodyPost_ret ?_ rfl HP.out; obtain ⟨⟨k0, k1, k2, k3, k4⟩, _⟩ := five_cells HR.out; simp [results, Tryz.results160, go_sem, k0, k1, k2, k3, k4])
    have wi := within_any W b p.funcs.length
    rw [hw] at wi
    obtain ⟨k, hk, hkl⟩ := within_nat hw
    subst hk
    have hn := calleeF_in p ⟨23, a, (k : Int), c⟩ k hkl rfl (by simp)
    have hfs := HFS.out k hkl
    generalize p.funcs[k] = g at *
    obtain ⟨bb, o, rfl, _, e0, e1, e2, e3, e4, h0, h1, h2, h3, h4, hfv⟩ := hfs
    have hfw := hfv
    obtain ⟨rfl, rfl, ⟨g0, g1, rfl, _⟩, ⟨g2, g3, rfl, _⟩, g4, g5, rfl, _⟩ := hfv
    have hr := row_set (row_set (row_set (row_set (row_set HL2.out 0 (.slice g0 g.args.length g1)) 1 (.int .i64 g.result)) 2 (.int .i64 g.slots)) 3 (.slice g2 g.objects.length g3)) 4 (.slice g4 g.code.length g5)
    have hf : Fr (onB (w.heap.size + 1)) W _ := (((((Fr.refl (onB (w.heap.size + 1)) W).setCell (p := ⟨w.heap.size + 1, 0, none⟩) (fun _ => rfl) (.slice g0 g.args.length g1)).setCell (p := ⟨w.heap.size + 1, 1, none⟩) (fun _ => rfl) (.int .i64 g.result)).setCell (p := ⟨w.heap.size + 1, 2, none⟩) (fun _ => rfl) (.int .i64 g.slots)).setCell (p := ⟨w.heap.size + 1, 3, none⟩) (fun _ => rfl) (.slice g2 g.objects.length g3)).setCell (p := ⟨w.heap.size + 1, 4, none⟩) (fun _ => rfl) (.slice g4 g.code.length g5)
    have hb := HB.out.trans (hf.below HB.out.size (fun k hk => by unfold onB at hk; omega))
    have hP := callee_some hn (hfw.fr hf HD.out) hb
    clear hf hb hn hfw hw
    have HR := Lib.hid hr; clear hr
    have HP := Lib.hid hP; clear hP
    have WI := Lib.hid wi; clear wi
    have hk1 : (k : Int) < p.funcs.length := by omega
    go_enter Tryz.func160, Tryz.ntmps160
    go_upto_region 1 with fail
    rw [← HW.out]
    go_wp2_with fail
    refine WI.out.mono ?_
    rintro e w' ⟨rfl, rfl⟩
    go_wp2_with (with_reducible refine bodyPost_ret ?_ rfl HP.out; obtain ⟨⟨k0, k1, k2, k3, k4⟩, _⟩ := five_cells HR.out; simp [results, Tryz.results160, go_sem, k0, k1, k2, k3, k4])
  by_cases h24 : op = 24
  · subst h24
    by_cases hw : withinB b p.funcs.length = true
    case neg =>
      have hw' : withinB b p.funcs.length = false := by simpa using hw
      have wi := within_any W b p.funcs.length
      rw [hw'] at wi
      have hn := calleeF_out p ⟨24, a, b, c⟩ hw'
      have hr := row_set (row_set (row_set (row_set (row_set HL2.out 0 (.slice none 0 0)) 1 (.int .i64 0)) 2 (.int .i64 0)) 3 (.slice none 0 0)) 4 (.slice none 0 0)
      have hf : Fr (onB (w.heap.size + 1)) W _ := (((((Fr.refl (onB (w.heap.size + 1)) W).setCell (p := ⟨w.heap.size + 1, 0, none⟩) (fun _ => rfl) (.slice none 0 0)).setCell (p := ⟨w.heap.size + 1, 1, none⟩) (fun _ => rfl) (.int .i64 0)).setCell (p := ⟨w.heap.size + 1, 2, none⟩) (fun _ => rfl) (.int .i64 0)).setCell (p := ⟨w.heap.size + 1, 3, none⟩) (fun _ => rfl) (.slice none 0 0)).setCell (p := ⟨w.heap.size + 1, 4, none⟩) (fun _ => rfl) (.slice none 0 0)
      have hb := HB.out.trans (hf.below HB.out.size (fun k hk => by unfold onB at hk; omega))
      have hP := callee_none (D := D) hn hb
      clear hf hb hn
      have HR := Lib.hid hr; clear hr
      have HP := Lib.hid hP; clear hP
      clear hw hw'
      have WI := Lib.hid wi; clear wi
      go_enter Tryz.func160, Tryz.ntmps160
      go_upto_region 1 with fail
      rw [← HW.out]
      go_wp2_with fail
      refine WI.out.mono ?_
      rintro e w' ⟨rfl, rfl⟩
      go_wp2_with (with_reducible refine bodyPost_ret ?_ rfl HP.out; obtain ⟨⟨k0, k1, k2, k3, k4⟩, _⟩ := five_cells HR.out; simp [results, Tryz.results160, go_sem, k0, k1, k2, k3, k4])
    have wi := within_any W b p.funcs.length
    rw [hw] at wi
    obtain ⟨k, hk, hkl⟩ := within_nat hw
    subst hk
    have hn := calleeF_in p ⟨24, a, (k : Int), c⟩ k hkl rfl (by simp)
    have hfs := HFS.out k hkl
    generalize p.funcs[k] = g at *
    obtain ⟨bb, o, rfl, _, e0, e1, e2, e3, e4, h0, h1, h2, h3, h4, hfv⟩ := hfs
    have hfw := hfv
    obtain ⟨rfl, rfl, ⟨g0, g1, rfl, _⟩, ⟨g2, g3, rfl, _⟩, g4, g5, rfl, _⟩ := hfv
    have hr := row_set (row_set (row_set (row_set (row_set HL2.out 0 (.slice g0 g.args.length g1)) 1 (.int .i64 g.result)) 2 (.int .i64 g.slots)) 3 (.slice g2 g.objects.length g3)) 4 (.slice g4 g.code.length g5)
    have hf : Fr (onB (w.heap.size + 1)) W _ := (((((Fr.refl (onB (w.heap.size + 1)) W).setCell (p := ⟨w.heap.size + 1, 0, none⟩) (fun _ => rfl) (.slice g0 g.args.length g1)).setCell (p := ⟨w.heap.size + 1, 1, none⟩) (fun _ => rfl) (.int .i64 g.result)).setCell (p := ⟨w.heap.size + 1, 2, none⟩) (fun _ => rfl) (.int .i64 g.slots)).setCell (p := ⟨w.heap.size + 1, 3, none⟩) (fun _ => rfl) (.slice g2 g.objects.length g3)).setCell (p := ⟨w.heap.size + 1, 4, none⟩) (fun _ => rfl) (.slice g4 g.code.length g5)
    have hb := HB.out.trans (hf.below HB.out.size (fun k hk => by unfold onB at hk; omega))
    have hP := callee_some hn (hfw.fr hf HD.out) hb
    clear hf hb hn hfw hw
    have HR := Lib.hid hr; clear hr
    have HP := Lib.hid hP; clear hP
    have WI := Lib.hid wi; clear wi
    have hk1 : (k : Int) < p.funcs.length := by omega
    go_enter Tryz.func160, Tryz.ntmps160
    go_upto_region 1 with fail
    rw [← HW.out]
    go_wp2_with fail
    refine WI.out.mono ?_
    rintro e w' ⟨rfl, rfl⟩
    go_wp2_with (with_reducible refine bodyPost_ret ?_ rfl HP.out; obtain ⟨⟨k0, k1, k2, k3, k4⟩, _⟩ := five_cells HR.out; simp [results, Tryz.results160, go_sem, k0, k1, k2, k3, k4])
  have hno : ¬ (op = 21 ∨ op = 23 ∨ op = 24) := by omega
  have e1 : (op == 21) = false := by simpa using h21
  have e2 : (op == 23) = false := by simpa using h23
  have e3 : (op == 24) = false := by simpa using h24
  have hn := calleeF_op p ⟨op, a, b, c⟩ hno
  have hr := row_set (row_set (row_set (row_set (row_set HL2.out 0 (.slice none 0 0)) 1 (.int .i64 0)) 2 (.int .i64 0)) 3 (.slice none 0 0)) 4 (.slice none 0 0)
  have hf : Fr (onB (w.heap.size + 1)) W _ := (((((Fr.refl (onB (w.heap.size + 1)) W).setCell (p := ⟨w.heap.size + 1, 0, none⟩) (fun _ => rfl) (.slice none 0 0)).setCell (p := ⟨w.heap.size + 1, 1, none⟩) (fun _ => rfl) (.int .i64 0)).setCell (p := ⟨w.heap.size + 1, 2, none⟩) (fun _ => rfl) (.int .i64 0)).setCell (p := ⟨w.heap.size + 1, 3, none⟩) (fun _ => rfl) (.slice none 0 0)).setCell (p := ⟨w.heap.size + 1, 4, none⟩) (fun _ => rfl) (.slice none 0 0)
  have hb := HB.out.trans (hf.below HB.out.size (fun k hk => by unfold onB at hk; omega))
  have hP := callee_none (D := D) hn hb
  clear hf hb hn
  have HR := Lib.hid hr; clear hr
  have HP := Lib.hid hP; clear hP
  clear hno h21 h23 h24
  go_enter Tryz.func160, Tryz.ntmps160
  go_upto_region 1 with fail
  rw [← HW.out]
  go_wp2_with (with_reducible refine bodyPost_ret ?_ rfl HP.out; obtain ⟨⟨k0, k1, k2, k3, k4⟩, _⟩ := five_cells HR.out; simp [results, Tryz.results160, go_sem, k0, k1, k2, k3, k4])
end Go.Proofs.YtknbllbhakpaaaaGreat
namespace Go.Proofs.YtknbllbhakpaaaaGreat
open Go.ChangeShapes Go.WideShapes Go.ChangeAt Go.RowKit Go.Maps
set_option maxRecDepth 100000 in
theorem plaidOut : laidOutB Tryz.prog = true := by kernel_rfl
set_option maxRecDepth 100000 in
theorem prow : (50 : TypeId) < Tryz.prog.types.size := of_decide_eq_true (by kernel_rfl)
set_option maxRecDepth 100000 in
theorem pwide : (match Tryz.prog.underlying 50 with | some (.array _ _) | some (.struct _) => true | _ => false) = true := by kernel_rfl
set_option maxRecDepth 100000 in
theorem pkeyed : Keyed Tryz.prog 50 := Keyed.of_law (deep_law_laid plaidOut (m := 2) (by omega) prow (by kernel_rfl) pwide)
set_option maxRecDepth 100000 in
theorem pkey (a b : Int) (ha : i64B a) (hb : i64B b) : ∃ l, keyOf Tryz.prog 50 (.agg #[.int .i64 a, .int .i64 b]) = some l := by
  have hc : Tryz.prog.cellsOf 50 = 2 := by kernel_rfl
  have hk : Tryz.prog.keyType 50 = true := by kernel_rfl
  have hf : (Value.agg #[.int .i64 a, .int .i64 b]).formed Tryz.prog 50 = true := by simp [Value.formed, Tryz.underlying50, hc]
  have h1 : ∀ d x, i64B x → Tryz.prog.keyLits (d + 1) 3 [.int .i64 x] = some [.int .i64 x] := fun d x hx => by
    unfold Program.keyLits
    simp [Tryz.underlying3, i64_wf hx]
  have hci : Tryz.prog.cellsOf 3 = 1 := by kernel_rfl
  have h2 : ∀ d, Tryz.prog.keyLits (d + 2) 50 [.int .i64 a, .int .i64 b] = some [.int .i64 a, .int .i64 b] := fun d => by
    unfold Program.keyLits
    simp [Tryz.underlying50, hc, hci, h1 d a ha, h1 d b hb]
  obtain ⟨n, hn⟩ : ∃ n, Tryz.prog.types.size + 1 = n + 2 := ⟨Tryz.prog.types.size - 1, by have : 0 < Tryz.prog.types.size := Nat.lt_of_le_of_lt (Nat.zero_le _) prow; omega⟩
  unfold keyOf
  rw [Tryz.underlying50]
  simp only [hk, hf, Bool.and_self, if_true]
  refine ⟨.string (keyBytes [.int .i64 a, .int .i64 b]), ?_⟩
  rw [hn]
  show Option.map (fun ls => Lit.string (keyBytes ls)) (Tryz.prog.keyLits (n + 2) 50 [.int .i64 a, .int .i64 b]) = _
  rw [h2]
  rfl
/-- keys that are places -/
noncomputable def plK : KeyTy Tryz.prog { x : Int × Int // i64B x.1 ∧ i64B x.2 } where
  k := 50
  law := pkeyed
  key := fun x => .agg #[.int .i64 x.1.1, .int .i64 x.1.2]
  lit := fun x => (keyOf Tryz.prog 50 (.agg #[.int .i64 x.1.1, .int .i64 x.1.2])).getD (.bool true)
  wf := fun _ => True
  hkey := fun x _ => by
    obtain ⟨l, h⟩ := pkey x.1.1 x.1.2 x.2.1 x.2.2
    rw [h]; rfl
  inj := fun x y h => by
    obtain ⟨l, h1⟩ := pkey x.1.1 x.1.2 x.2.1 x.2.2
    obtain ⟨m, h2⟩ := pkey y.1.1 y.1.2 y.2.1 y.2.2
    rw [h1, h2] at h
    have e : l = m := h
    subst e
    have h3 := pkeyed.inj h1 h2
    obtain ⟨⟨x1, x2⟩, _⟩ := x
    obtain ⟨⟨y1, y2⟩, _⟩ := y
    simp at h3
    obtain ⟨rfl, rfl⟩ := h3
    rfl
end Go.Proofs.YtknbllbhakpaaaaGreat
namespace Go.Proofs.YtknbllbhakpaaaaGreat
open Go.ChangeShapes Go.WideShapes Go.ChangeAt Go.RowKit Go.Maps
abbrev Pl := { x : Int × Int // i64B x.1 ∧ i64B x.2 }
/-- the first k instructions of C, by their places in function fn -/
def cF (fn : Int) (C : List Ins) (k : Nat) (x : Pl) : Option Ins := if x.1.1 = fn ∧ 0 ≤ x.1.2 ∧ x.1.2 < k then C[x.1.2.toNat]? else none
def codeOf (p : Prg) (fn : Int) : List Ins := if withinB fn p.funcs.length = true then ((p.funcs[fn.toNat]?).map Fun.code).getD [] else []
theorem cF_zero (fn : Int) (C : List Ins) (x : Pl) : (none : Option Ins) = cF fn C 0 x := by
  unfold cF
  rw [if_neg (by omega)]
theorem cF_succ (fn : Int) (C : List Ins) (k : Nat) (hk : k < C.length) (h : i64B fn ∧ i64B (k : Int)) (x : Pl) : upd (cF fn C k) ⟨(fn, (k : Int)), h⟩ (some C[k]) x = cF fn C (k + 1) x := by
  unfold upd
  by_cases he : x = ⟨(fn, (k : Int)), h⟩
  · rw [if_pos he, he]
    unfold cF
    rw [if_pos ⟨rfl, by simp, by show (k : Int) < ((k + 1 : Nat) : Int); omega⟩]
    simp [hk]
  · rw [if_neg he]
    unfold cF
    by_cases h2 : x.1.1 = fn ∧ 0 ≤ x.1.2 ∧ x.1.2 < k
    · rw [if_pos h2, if_pos ⟨h2.1, h2.2.1, by omega⟩]
    · rw [if_neg h2, if_neg]
      rintro ⟨h3, h4, h5⟩
      by_cases h6 : x.1.2 = k
      · apply he
        obtain ⟨⟨x1, x2⟩, hx⟩ := x
        simp at h3 h6
        subst h3 h6
        rfl
      · exact h2 ⟨h3, h4, by omega⟩
def insVal (i : Ins) : Value := .agg #[.int .i64 i.op, .int .i64 i.a, .int .i64 i.b, .int .i64 i.c]
def CodeMap (w : World) (b m : Nat) (f : Pl → Option Ins) : Prop := MapIs plK insVal w b m f
def CodePost (p : Prg) (fn : Int) (w : World) (e : Ending) (w' : World) : Prop :=
  ∃ b m, e = .returned (.map (some b)) ∧ CodeMap w' b m (cF fn (codeOf p fn) (codeOf p fn).length) ∧ w.heap.size ≤ b ∧ Below w.heap.size w w'
set_option maxRecDepth 100000 in
set_option maxHeartbeats 1600000 in
theorem code_any (w : World) (D : Nat → Prop) (p : Prg) (c0 c1 c2 : Value) (fn : Int) (hD : ∀ k, D k → k < w.heap.size) (hv : PrgVal w D p c0 c1 c2) (hfn : i64B fn) (hln : (codeOf p fn).length ≤ 3000) :
    Calls Tryz.prog 138 #[.agg #[c0, c1, c2], .int .i64 fn] w (CodePost p fn w) := by
  obtain ⟨⟨a0, m0, rfl, _⟩, ⟨a1, m1, rfl, _⟩, a2, m2, rfl, hfs⟩ := hv
  have hb0 := ((Below.refl w.heap.size w).alloc (Nat.le_refl _) (.cells #[.slice a0 p.globals.length m0, .slice a1 p.shapes.length m1, .slice a2 p.funcs.length m2] 34))
  have hmk : CodeMap ((w.alloc (.cells #[.slice a0 p.globals.length m0, .slice a1 p.shapes.length m1, .slice a2 p.funcs.length m2] 34)).alloc (.map #[] 0)) (w.alloc (.cells #[.slice a0 p.globals.length m0, .slice a1 p.shapes.length m1, .slice a2 p.funcs.length m2] 34)).heap.size 0 (fun _ => none) := MapIs.made plK _ _
  have hz1 : (w.alloc (.cells #[.slice a0 p.globals.length m0, .slice a1 p.shapes.length m1, .slice a2 p.funcs.length m2] 34)).heap.size = w.heap.size + 1 := by simp
  rw [hz1] at hmk
  have hb1 := hb0.alloc (by simp) (.map #[] 0)
  have hmake : ∀ w, (Instr.makeMap 201 none).run Tryz.prog w = .ok (.map (some w.heap.size)) (w.alloc (.map #[] 0)) := fun w => run_makeMap _ w
  have ht : Tryz.prog.underlying 201 = some (.map plK.k 28) := Tryz.underlying201
  have q2 : ((w.alloc (.cells #[.slice a0 p.globals.length m0, .slice a1 p.shapes.length m1, .slice a2 p.funcs.length m2] 34)).alloc (.map #[] 0)).cell? ⟨w.heap.size, 2, none⟩ = some (.slice a2 p.funcs.length m2) := by
    rw [cell_under _ _ (by simp), cell_new]; rfl
  obtain ⟨W, hW⟩ : ∃ W, W = (w.alloc (.cells #[.slice a0 p.globals.length m0, .slice a1 p.shapes.length m1, .slice a2 p.funcs.length m2] 34)).alloc (.map #[] 0) := ⟨_, rfl⟩
  rw [← hW] at hmk hb1 q2
  have hfs := hfs.fr (Fr.of_below hb1 (fun _ => False)) (fun _ _ h => h)
  have hm0 : CodeMap W (w.heap.size + 1) 0 (cF fn (codeOf p fn) 0) := hmk.congr (fun a _ => cF_zero fn (codeOf p fn) a)
  have HW := Lib.hid hW
  clear hW hb0 hz1 hmk
  by_cases hin : withinB fn p.funcs.length = true
  case neg =>
    have hc : codeOf p fn = [] := by unfold codeOf; rw [if_neg hin]
    have hP : CodePost p fn w (.returned (.map (some (w.heap.size + 1)))) W := by
      refine ⟨_, 0, rfl, ?_, by omega, hb1⟩
      rw [hc] at hm0 ⊢
      exact hm0
    clear hm0 hc hfs hb1
    have HP := Lib.hid hP; clear hP
    by_cases h0 : 0 ≤ fn
    · have h1 : ¬ fn < p.funcs.length := fun h => hin (by simp [withinB]; omega)
      clear hin
      go_enter Tryz.func138, Tryz.ntmps138
      go_upto_region 2 with fail
      rw [← HW.out]
      go_wp2_with fail
      go_ret
      exact HP.out
    · clear hin
      go_enter Tryz.func138, Tryz.ntmps138
      go_upto_region 2 with fail
      rw [← HW.out]
      go_wp2_with fail
      go_ret
      exact HP.out
  obtain ⟨j, rfl, hj⟩ : ∃ j : Nat, fn = j ∧ j < p.funcs.length := by
    simp [withinB] at hin
    exact ⟨fn.toNat, by omega, by omega⟩
  have hc : codeOf p (j : Int) = p.funcs[j].code := by unfold codeOf; rw [if_pos hin]; simp [hj]
  obtain ⟨b, o, rfl, _, y0, y1, y2, y3, y4, g0, g1, g2, g3, g4, hfv⟩ := hfs j hj
  obtain ⟨_, _, _, _, e0, e1, rfl, hsc⟩ := hfv
  rw [hc] at hln hm0
  unfold CodePost
  rw [hc]
  clear hc hfs hin g0 g1 g2 g3
  generalize p.funcs[j].code = C at *
  have hj1 : (j : Int) < p.funcs.length := by omega
  have HM0 := Lib.hid hm0; clear hm0
  have HSC := Lib.hid hsc; clear hsc
  have HT := Lib.hid ht; clear ht
  have HB1 := Lib.hid hb1; clear hb1
  have HD := Lib.hid hD; clear hD
  go_enter Tryz.func138, Tryz.ntmps138
  go_upto_region 2 with fail
  rw [← HW.out]
  go_wp2_with fail
  go_loopw [25] (fun i wr => ∃ k m : Nat, k ≤ C.length ∧ i = .int .i64 k ∧ CodeMap wr (w.heap.size + 1) m (cF j C k) ∧ m ≤ k ∧ Fr (fun q => q = w.heap.size + 1) W wr) (fun i _ => C.length - (intOf i).toNat)
  case atStart => exact ⟨0, 0, Nat.zero_le _, rfl, HM0.out, Nat.le_refl _, Fr.refl _ _⟩
  case round =>
    obtain ⟨k, m, hk, rfl, hm, hmk, hf⟩ := hrel
    by_cases hlt : k < C.length
    · obtain ⟨b', o', rfl, _, x0, x1, x2, x3⟩ := (HSC.out.fr hf (fun q hq e => by have := HD.out q hq; omega)) k hlt
      have hcs := fun h => cF_succ j C k hlt h
      have hk64 : i64B (k : Int) := ⟨by omega, by omega⟩
      generalize C[k] = x at *
      have hbs := (Below.refl wr.heap.size wr).alloc (Nat.le_refl _) (.cells #[.int .i64 x.op, .int .i64 x.a, .int .i64 x.b, .int .i64 x.c] 28)
      have hly := heap_new wr (.cells #[.int .i64 x.op, .int .i64 x.a, .int .i64 x.b, .int .i64 x.c] 28)
      have hmS := hm.below hbs
      obtain ⟨y, hy⟩ : ∃ y, y = wr.heap.size := ⟨_, rfl⟩
      obtain ⟨wS, hwS⟩ : ∃ wS, wS = wr.alloc (.cells #[.int .i64 x.op, .int .i64 x.a, .int .i64 x.b, .int .i64 x.c] 28) := ⟨_, rfl⟩
      rw [← hwS] at hbs hmS
      rw [← hwS, ← hy] at hly
      have z0 := (row_cell hly 0).1
      have z1 := (row_cell hly 1).1
      have z2 := (row_cell hly 2).1
      have z3 := (row_cell hly 3).1
      have z0 : wS.cell? ⟨y, 0, none⟩ = some (.int .i64 x.op) := z0
      have z1 : wS.cell? ⟨y, 1, none⟩ = some (.int .i64 x.a) := z1
      have z2 : wS.cell? ⟨y, 2, none⟩ = some (.int .i64 x.b) := z2
      have z3 : wS.cell? ⟨y, 3, none⟩ = some (.int .i64 x.c) := z3
      have hfS := hf.trans (Fr.of_below hbs (fun q => q = w.heap.size + 1)) (fun _ _ h => h)
      have HWS := Lib.hid hwS
      have HY := Lib.hid hy
      clear hwS hy hly hm hf hbs
      have HMS := Lib.hid hmS; clear hmS
      have HFS := Lib.hid hfS; clear hfS
      have HCS := Lib.hid hcs; clear hcs
      go_upto_region 6 with fail
      rw [← HWS.out, ← HY.out]
      clear x0 x1 x2 x3
      go_wp2_with (refine put_map rfl (.tmp 30) (.tmp 33) (.tmp 34) 201 28 rfl HMS.out HT.out (by unfold maxLen; omega) ⟨((j : Int), (k : Int)), hfn, hk64⟩ trivial x rfl rfl rfl ?_; intro w1 hm1 ht1)
      have hm3 : CodeMap w1 (w.heap.size + 1) _ (cF j C (k + 1)) := hm1.congr (fun a _ => HCS.out ⟨hfn, hk64⟩ a)
      have hn3 : (if (cF j C k ⟨((j : Int), (k : Int)), hfn, hk64⟩).isSome then m else m + 1) ≤ k + 1 := by split <;> omega
      have hf3 := HFS.out.trans (turned_fr ht1) (fun _ _ h => h)
      clear hm1 ht1
      have HM3 := Lib.hid hm3; clear hm3
      have HN3 := Lib.hid hn3; clear hn3
      have HF3 := Lib.hid hf3; clear hf3
      go_wp2_with fail
      go_roundw
      case rel => exact ⟨k + 1, _, by omega, by go_num, HM3.out, HN3.out, HF3.out⟩
      case measure => simp [intOf]; omega
    · have hk' : k = C.length := by omega
      subst hk'
      have hbf : Below w.heap.size w wr := HB1.out.trans (hf.below HB1.out.size (fun q hq => by omega))
      have HM := Lib.hid hm; clear hm
      have HBF := Lib.hid hbf; clear hbf
      clear hf
      go_wp2_with fail
      go_ret
      exact ⟨_, _, rfl, HM.out, by omega, HBF.out⟩
end Go.Proofs.YtknbllbhakpaaaaGreat
