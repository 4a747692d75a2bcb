/- Walks: check.look's callee, quiet. -/
import Derived.Test.YtjcjhfnjamphlaaJAl
import Derived.Test.YtjcjhfnjamphlaaJAe
import Derived.BigRegion
set_option linter.unusedVariables false
set_option linter.unusedSimpArgs false
namespace Go.Proofs.Ytjcjhfnjamphlaa
open Go.ChangeShapes Go.WideShapes Go.ChangeAt Go.RowKit
/-- a look's fourteen cells -/
def lookC (c0 c1 c2 d0 d3 d4 : Value) (r s : Int) (i : Ins) (fn pc : Int) : Array Value := #[c0, c1, c2, d0, .int .i64 r, .int .i64 s, d3, d4, .int .i64 i.op, .int .i64 i.a, .int .i64 i.b, .int .i64 i.c, .int .i64 fn, .int .i64 pc]
def fun0 : Fun := ⟨[], 0, 0, [], []⟩
def calleeG (p : Prg) (i : Ins) : Fun := (calleeF p i).getD fun0
theorem fun0_val (w : World) (D : Nat → Prop) : FunVal w D fun0 (.slice none 0 0) (.int .i64 0) (.int .i64 0) (.slice none 0 0) (.slice none 0 0) :=
  ⟨rfl, rfl, ⟨none, 0, rfl, fun j hj => by cases hj⟩, ⟨none, 0, rfl, fun j hj => by cases hj⟩, none, 0, rfl, fun j hj => by cases hj⟩
def CalleePost (p : Prg) (i : Ins) (D : Nat → Prop) (w : World) (e : Ending) (w' : World) : Prop :=
  ∃ d0 d3 d4, e = .returned (.tuple #[.agg #[d0, .int .i64 (calleeG p i).result, .int .i64 (calleeG p i).slots, d3, d4], .bool (calleeF p i).isSome]) ∧ FunVal w' D (calleeG p i) d0 (.int .i64 (calleeG p i).result) (.int .i64 (calleeG p i).slots) d3 d4 ∧ Below w.heap.size w w'
theorem calleeF_op (p : Prg) (i : Ins) (h : ¬ (i.op = 21 ∨ i.op = 23 ∨ i.op = 24)) : calleeF p i = none := by unfold calleeF; rw [if_neg (fun h2 => h h2.1)]
theorem calleeF_out (p : Prg) (i : Ins) (h : withinB i.b p.funcs.length = false) : calleeF p i = none := by unfold calleeF; rw [if_neg (fun h2 => by rw [h] at h2; cases h2.2)]
theorem calleeF_in (p : Prg) (i : Ins) (k : Nat) (hk : k < p.funcs.length) (hb : i.b = k) (h : i.op = 21 ∨ i.op = 23 ∨ i.op = 24) : calleeF p i = some p.funcs[k] := by
  unfold calleeF
  rw [if_pos ⟨h, by rw [hb]; simp [withinB]; omega⟩, hb]
  simp [hk]
theorem callee_none {p : Prg} {i : Ins} {D : Nat → Prop} {w w' : World} (hn : calleeF p i = none) (hb : Below w.heap.size w w') : CalleePost p i D w (.returned (.tuple #[.agg #[.slice none 0 0, .int .i64 0, .int .i64 0, .slice none 0 0, .slice none 0 0], .bool false])) w' := by
  unfold CalleePost calleeG
  rw [hn]
  exact ⟨_, _, _, rfl, fun0_val _ _, hb⟩
theorem callee_some {p : Prg} {i : Ins} {g : Fun} {D : Nat → Prop} {w w' : World} {d0 d3 d4 : Value} (hn : calleeF p i = some g) (hv : FunVal w' D g d0 (.int .i64 g.result) (.int .i64 g.slots) d3 d4) (hb : Below w.heap.size w w') : CalleePost p i D w (.returned (.tuple #[.agg #[d0, .int .i64 g.result, .int .i64 g.slots, d3, d4], .bool true])) w' := by
  unfold CalleePost calleeG
  rw [hn]
  exact ⟨_, _, _, rfl, hv, hb⟩
theorem within_nat {b : Int} {n : Nat} (h : withinB b n = true) : ∃ k : Nat, b = k ∧ k < n := by
  simp [withinB] at h
  exact ⟨b.toNat, by omega, by omega⟩
set_option maxRecDepth 100000 in
set_option maxHeartbeats 1600000 in
theorem callee_any (w : World) (D : Nat → Prop) (hD : ∀ k, D k → k < w.heap.size) (p : Prg) (c0 c1 c2 d0 d3 d4 : Value) (r s : Int) (i : Ins) (fn pc : Int) (hv : PrgVal w D p c0 c1 c2) :
    Calls Try.prog 61 #[.agg (lookC c0 c1 c2 d0 d3 d4 r s i fn pc)] w (CalleePost p i D w) := by
  unfold lookC
  obtain ⟨⟨a0, m0, rfl, _⟩, ⟨a1, m1, rfl, _⟩, a2, m2, rfl, hfs⟩ := hv
  have hb := ((Below.refl w.heap.size w).alloc (Nat.le_refl _) (.cells #[.slice a0 p.globals.length m0, .slice a1 p.shapes.length m1, .slice a2 p.funcs.length m2, d0, .int .i64 r, .int .i64 s, d3, d4, .int .i64 i.op, .int .i64 i.a, .int .i64 i.b, .int .i64 i.c, .int .i64 fn, .int .i64 pc] 86)).alloc (by simp) (.cells #[.slice none 0 0, .int .i64 0, .int .i64 0, .slice none 0 0, .slice none 0 0] 41)
  have hbx := box2 w #[.slice a0 p.globals.length m0, .slice a1 p.shapes.length m1, .slice a2 p.funcs.length m2, d0, .int .i64 r, .int .i64 s, d3, d4, .int .i64 i.op, .int .i64 i.a, .int .i64 i.b, .int .i64 i.c, .int .i64 fn, .int .i64 pc] #[.slice none 0 0, .int .i64 0, .int .i64 0, .slice none 0 0, .slice none 0 0] 86 41 _ (Below.refl _ _)
  have hl2 := heap_new (w.alloc (.cells #[.slice a0 p.globals.length m0, .slice a1 p.shapes.length m1, .slice a2 p.funcs.length m2, d0, .int .i64 r, .int .i64 s, d3, d4, .int .i64 i.op, .int .i64 i.a, .int .i64 i.b, .int .i64 i.c, .int .i64 fn, .int .i64 pc] 86)) (.cells #[.slice none 0 0, .int .i64 0, .int .i64 0, .slice none 0 0, .slice none 0 0] 41)
  rw [show (w.alloc (.cells #[.slice a0 p.globals.length m0, .slice a1 p.shapes.length m1, .slice a2 p.funcs.length m2, d0, .int .i64 r, .int .i64 s, d3, d4, .int .i64 i.op, .int .i64 i.a, .int .i64 i.b, .int .i64 i.c, .int .i64 fn, .int .i64 pc] 86)).heap.size = w.heap.size + 1 from by simp] at hl2
  obtain ⟨W, hW⟩ : ∃ W, W = (w.alloc (.cells #[.slice a0 p.globals.length m0, .slice a1 p.shapes.length m1, .slice a2 p.funcs.length m2, d0, .int .i64 r, .int .i64 s, d3, d4, .int .i64 i.op, .int .i64 i.a, .int .i64 i.b, .int .i64 i.c, .int .i64 fn, .int .i64 pc] 86)).alloc (.cells #[.slice none 0 0, .int .i64 0, .int .i64 0, .slice none 0 0, .slice none 0 0] 41) := ⟨_, rfl⟩
  rw [← hW] at hb hl2 hbx
  have q2 := hbx.1 2 _ rfl
  have q8 := hbx.1 8 _ rfl
  have q10 := hbx.1 10 _ rfl
  have hfs := hfs.fr (Fr.of_below hb (fun _ => False)) (fun _ _ h => h)
  have hd : ∀ k, D k → ¬ onB (w.heap.size + 1) k := fun k hk h => by have := hD k hk; unfold onB at h; omega
  obtain ⟨_, f0, f1, f2, f3, f4⟩ := five_cells hl2
  clear hbx hD
  have HW := Lib.hid hW
  clear hW
  have HB := Lib.hid hb; clear hb
  have HL2 := Lib.hid hl2; clear hl2
  have HFS := Lib.hid hfs; clear hfs
  have HD := Lib.hid hd; clear hd
  obtain ⟨op, a, b, c⟩ := i
  dsimp only at q8 q10 ⊢
  by_cases h21 : op = 21
  · subst h21
    by_cases hw : withinB b p.funcs.length = true
    case neg =>
      have hw' : withinB b p.funcs.length = false := by simpa using hw
      have wi := within_any W b p.funcs.length
      rw [hw'] at wi
      have hn := calleeF_out p ⟨21, a, b, c⟩ hw'
      have hr := row_set (row_set (row_set (row_set (row_set HL2.out 0 (.slice none 0 0)) 1 (.int .i64 0)) 2 (.int .i64 0)) 3 (.slice none 0 0)) 4 (.slice none 0 0)
      have hf : Fr (onB (w.heap.size + 1)) W _ := (((((Fr.refl (onB (w.heap.size + 1)) W).setCell (p := ⟨w.heap.size + 1, 0, none⟩) (fun _ => rfl) (.slice none 0 0)).setCell (p := ⟨w.heap.size + 1, 1, none⟩) (fun _ => rfl) (.int .i64 0)).setCell (p := ⟨w.heap.size + 1, 2, none⟩) (fun _ => rfl) (.int .i64 0)).setCell (p := ⟨w.heap.size + 1, 3, none⟩) (fun _ => rfl) (.slice none 0 0)).setCell (p := ⟨w.heap.size + 1, 4, none⟩) (fun _ => rfl) (.slice none 0 0)
      have hb := HB.out.trans (hf.below HB.out.size (fun k hk => by unfold onB at hk; omega))
      have hP := callee_none (D := D) hn hb
      clear hf hb hn
      have HR := Lib.hid hr; clear hr
      have HP := Lib.hid hP; clear hP
      clear hw hw'
      have WI := Lib.hid wi; clear wi
      go_enter Try.func61, Try.ntmps61
      go_upto_region 1 with fail
      rw [← HW.out]
      go_wp2_with fail
      refine WI.out.mono ?_
      rintro e w' ⟨rfl, rfl⟩
      go_wp2_with (with_reducible refine bodyPost_ret ?_ rfl HP.out; obtain ⟨⟨k0, k1, k2, k3, k4⟩, _⟩ := five_cells HR.out; simp [results, Try.results61, go_sem, k0, k1, k2, k3, k4])
    have wi := within_any W b p.funcs.length
    rw [hw] at wi
    obtain ⟨k, hk, hkl⟩ := within_nat hw
    subst hk
    have hn := calleeF_in p ⟨21, a, (k : Int), c⟩ k hkl rfl (by simp)
    have hfs := HFS.out k hkl
    generalize p.funcs[k] = g at *
    obtain ⟨bb, o, rfl, _, e0, e1, e2, e3, e4, h0, h1, h2, h3, h4, hfv⟩ := hfs
    have hfw := hfv
    obtain ⟨rfl, rfl, ⟨g0, g1, rfl, _⟩, ⟨g2, g3, rfl, _⟩, g4, g5, rfl, _⟩ := hfv
    have hr := row_set (row_set (row_set (row_set (row_set HL2.out 0 (.slice g0 g.args.length g1)) 1 (.int .i64 g.result)) 2 (.int .i64 g.slots)) 3 (.slice g2 g.objects.length g3)) 4 (.slice g4 g.code.length g5)
    have hf : Fr (onB (w.heap.size + 1)) W _ := (((((Fr.refl (onB (w.heap.size + 1)) W).setCell (p := ⟨w.heap.size + 1, 0, none⟩) (fun _ => rfl) (.slice g0 g.args.length g1)).setCell (p := ⟨w.heap.size + 1, 1, none⟩) (fun _ => rfl) (.int .i64 g.result)).setCell (p := ⟨w.heap.size + 1, 2, none⟩) (fun _ => rfl) (.int .i64 g.slots)).setCell (p := ⟨w.heap.size + 1, 3, none⟩) (fun _ => rfl) (.slice g2 g.objects.length g3)).setCell (p := ⟨w.heap.size + 1, 4, none⟩) (fun _ => rfl) (.slice g4 g.code.length g5)
    have hb := HB.out.trans (hf.below HB.out.size (fun k hk => by unfold onB at hk; omega))
    have hP := callee_some hn (hfw.fr hf HD.out) hb
    clear hf hb hn hfw hw
    have HR := Lib.hid hr; clear hr
    have HP := Lib.hid hP; clear hP
    have WI := Lib.hid wi; clear wi
    have hk1 : (k : Int) < p.funcs.length := by omega
    go_enter Try.func61, Try.ntmps61
    go_upto_region 1 with fail
    rw [← HW.out]
    go_wp2_with fail
    refine WI.out.mono ?_
    rintro e w' ⟨rfl, rfl⟩
    go_wp2_with (with_reducible refine bodyPost_ret ?_ rfl HP.out; obtain ⟨⟨k0, k1, k2, k3, k4⟩, _⟩ := five_cells HR.out; simp [results, Try.results61, go_sem, k0, k1, k2, k3, k4])
  by_cases h23 : op = 23
  · subst h23
    by_cases hw : withinB b p.funcs.length = true
    case neg =>
      have hw' : withinB b p.funcs.length = false := by simpa using hw
      have wi := within_any W b p.funcs.length
      rw [hw'] at wi
      have hn := calleeF_out p ⟨23, a, b, c⟩ hw'
      have hr := row_set (row_set (row_set (row_set (row_set HL2.out 0 (.slice none 0 0)) 1 (.int .i64 0)) 2 (.int .i64 0)) 3 (.slice none 0 0)) 4 (.slice none 0 0)
      have hf : Fr (onB (w.heap.size + 1)) W _ := (((((Fr.refl (onB (w.heap.size + 1)) W).setCell (p := ⟨w.heap.size + 1, 0, none⟩) (fun _ => rfl) (.slice none 0 0)).setCell (p := ⟨w.heap.size + 1, 1, none⟩) (fun _ => rfl) (.int .i64 0)).setCell (p := ⟨w.heap.size + 1, 2, none⟩) (fun _ => rfl) (.int .i64 0)).setCell (p := ⟨w.heap.size + 1, 3, none⟩) (fun _ => rfl) (.slice none 0 0)).setCell (p := ⟨w.heap.size + 1, 4, none⟩) (fun _ => rfl) (.slice none 0 0)
      have hb := HB.out.trans (hf.below HB.out.size (fun k hk => by unfold onB at hk; omega))
      have hP := callee_none (D := D) hn hb
      clear hf hb hn
      have HR := Lib.hid hr; clear hr
      have HP := Lib.hid hP; clear hP
      clear hw hw'
      have WI := Lib.hid wi; clear wi
      go_enter Try.func61, Try.ntmps61
      go_upto_region 1 with fail
      rw [← HW.out]
      go_wp2_with fail
      refine WI.out.mono ?_
      rintro e w' ⟨rfl, rfl⟩
      go_wp2_with (with_reducible refine bodyPost_ret ?_ rfl HP.out; obtain ⟨⟨k0, k1, k2, k3, k4⟩, _⟩ := five_cells HR.out; simp [results, Try.results61, go_sem, k0, k1, k2, k3, k4])
    have wi := within_any W b p.funcs.length
    rw [hw] at wi
    obtain ⟨k, hk, hkl⟩ := within_nat hw
    subst hk
    have hn := calleeF_in p ⟨23, a, (k : Int), c⟩ k hkl rfl (by simp)
    have hfs := HFS.out k hkl
    generalize p.funcs[k] = g at *
    obtain ⟨bb, o, rfl, _, e0, e1, e2, e3, e4, h0, h1, h2, h3, h4, hfv⟩ := hfs
    have hfw := hfv
    obtain ⟨rfl, rfl, ⟨g0, g1, rfl, _⟩, ⟨g2, g3, rfl, _⟩, g4, g5, rfl, _⟩ := hfv
    have hr := row_set (row_set (row_set (row_set (row_set HL2.out 0 (.slice g0 g.args.length g1)) 1 (.int .i64 g.result)) 2 (.int .i64 g.slots)) 3 (.slice g2 g.objects.length g3)) 4 (.slice g4 g.code.length g5)
    have hf : Fr (onB (w.heap.size + 1)) W _ := (((((Fr.refl (onB (w.heap.size + 1)) W).setCell (p := ⟨w.heap.size + 1, 0, none⟩) (fun _ => rfl) (.slice g0 g.args.length g1)).setCell (p := ⟨w.heap.size + 1, 1, none⟩) (fun _ => rfl) (.int .i64 g.result)).setCell (p := ⟨w.heap.size + 1, 2, none⟩) (fun _ => rfl) (.int .i64 g.slots)).setCell (p := ⟨w.heap.size + 1, 3, none⟩) (fun _ => rfl) (.slice g2 g.objects.length g3)).setCell (p := ⟨w.heap.size + 1, 4, none⟩) (fun _ => rfl) (.slice g4 g.code.length g5)
    have hb := HB.out.trans (hf.below HB.out.size (fun k hk => by unfold onB at hk; omega))
    have hP := callee_some hn (hfw.fr hf HD.out) hb
    clear hf hb hn hfw hw
    have HR := Lib.hid hr; clear hr
    have HP := Lib.hid hP; clear hP
    have WI := Lib.hid wi; clear wi
    have hk1 : (k : Int) < p.funcs.length := by omega
    go_enter Try.func61, Try.ntmps61
    go_upto_region 1 with fail
    rw [← HW.out]
    go_wp2_with fail
    refine WI.out.mono ?_
    rintro e w' ⟨rfl, rfl⟩
    go_wp2_with (with_reducible refine bodyPost_ret ?_ rfl HP.out; obtain ⟨⟨k0, k1, k2, k3, k4⟩, _⟩ := five_cells HR.out; simp [results, Try.results61, go_sem, k0, k1, k2, k3, k4])
  by_cases h24 : op = 24
  · subst h24
    by_cases hw : withinB b p.funcs.length = true
    case neg =>
      have hw' : withinB b p.funcs.length = false := by simpa using hw
      have wi := within_any W b p.funcs.length
      rw [hw'] at wi
      have hn := calleeF_out p ⟨24, a, b, c⟩ hw'
      have hr := row_set (row_set (row_set (row_set (row_set HL2.out 0 (.slice none 0 0)) 1 (.int .i64 0)) 2 (.int .i64 0)) 3 (.slice none 0 0)) 4 (.slice none 0 0)
      have hf : Fr (onB (w.heap.size + 1)) W _ := (((((Fr.refl (onB (w.heap.size + 1)) W).setCell (p := ⟨w.heap.size + 1, 0, none⟩) (fun _ => rfl) (.slice none 0 0)).setCell (p := ⟨w.heap.size + 1, 1, none⟩) (fun _ => rfl) (.int .i64 0)).setCell (p := ⟨w.heap.size + 1, 2, none⟩) (fun _ => rfl) (.int .i64 0)).setCell (p := ⟨w.heap.size + 1, 3, none⟩) (fun _ => rfl) (.slice none 0 0)).setCell (p := ⟨w.heap.size + 1, 4, none⟩) (fun _ => rfl) (.slice none 0 0)
      have hb := HB.out.trans (hf.below HB.out.size (fun k hk => by unfold onB at hk; omega))
      have hP := callee_none (D := D) hn hb
      clear hf hb hn
      have HR := Lib.hid hr; clear hr
      have HP := Lib.hid hP; clear hP
      clear hw hw'
      have WI := Lib.hid wi; clear wi
      go_enter Try.func61, Try.ntmps61
      go_upto_region 1 with fail
      rw [← HW.out]
      go_wp2_with fail
      refine WI.out.mono ?_
      rintro e w' ⟨rfl, rfl⟩
      go_wp2_with (with_reducible refine bodyPost_ret ?_ rfl HP.out; obtain ⟨⟨k0, k1, k2, k3, k4⟩, _⟩ := five_cells HR.out; simp [results, Try.results61, go_sem, k0, k1, k2, k3, k4])
    have wi := within_any W b p.funcs.length
    rw [hw] at wi
    obtain ⟨k, hk, hkl⟩ := within_nat hw
    subst hk
    have hn := calleeF_in p ⟨24, a, (k : Int), c⟩ k hkl rfl (by simp)
    have hfs := HFS.out k hkl
    generalize p.funcs[k] = g at *
    obtain ⟨bb, o, rfl, _, e0, e1, e2, e3, e4, h0, h1, h2, h3, h4, hfv⟩ := hfs
    have hfw := hfv
    obtain ⟨rfl, rfl, ⟨g0, g1, rfl, _⟩, ⟨g2, g3, rfl, _⟩, g4, g5, rfl, _⟩ := hfv
    have hr := row_set (row_set (row_set (row_set (row_set HL2.out 0 (.slice g0 g.args.length g1)) 1 (.int .i64 g.result)) 2 (.int .i64 g.slots)) 3 (.slice g2 g.objects.length g3)) 4 (.slice g4 g.code.length g5)
    have hf : Fr (onB (w.heap.size + 1)) W _ := (((((Fr.refl (onB (w.heap.size + 1)) W).setCell (p := ⟨w.heap.size + 1, 0, none⟩) (fun _ => rfl) (.slice g0 g.args.length g1)).setCell (p := ⟨w.heap.size + 1, 1, none⟩) (fun _ => rfl) (.int .i64 g.result)).setCell (p := ⟨w.heap.size + 1, 2, none⟩) (fun _ => rfl) (.int .i64 g.slots)).setCell (p := ⟨w.heap.size + 1, 3, none⟩) (fun _ => rfl) (.slice g2 g.objects.length g3)).setCell (p := ⟨w.heap.size + 1, 4, none⟩) (fun _ => rfl) (.slice g4 g.code.length g5)
    have hb := HB.out.trans (hf.below HB.out.size (fun k hk => by unfold onB at hk; omega))
    have hP := callee_some hn (hfw.fr hf HD.out) hb
    clear hf hb hn hfw hw
    have HR := Lib.hid hr; clear hr
    have HP := Lib.hid hP; clear hP
    have WI := Lib.hid wi; clear wi
    have hk1 : (k : Int) < p.funcs.length := by omega
    go_enter Try.func61, Try.ntmps61
    go_upto_region 1 with fail
    rw [← HW.out]
    go_wp2_with fail
    refine WI.out.mono ?_
    rintro e w' ⟨rfl, rfl⟩
    go_wp2_with (with_reducible refine bodyPost_ret ?_ rfl HP.out; obtain ⟨⟨k0, k1, k2, k3, k4⟩, _⟩ := five_cells HR.out; simp [results, Try.results61, go_sem, k0, k1, k2, k3, k4])
  have hno : ¬ (op = 21 ∨ op = 23 ∨ op = 24) := by omega
  have e1 : (op == 21) = false := by simpa using h21
  have e2 : (op == 23) = false := by simpa using h23
  have e3 : (op == 24) = false := by simpa using h24
  have hn := calleeF_op p ⟨op, a, b, c⟩ hno
  have hr := row_set (row_set (row_set (row_set (row_set HL2.out 0 (.slice none 0 0)) 1 (.int .i64 0)) 2 (.int .i64 0)) 3 (.slice none 0 0)) 4 (.slice none 0 0)
  have hf : Fr (onB (w.heap.size + 1)) W _ := (((((Fr.refl (onB (w.heap.size + 1)) W).setCell (p := ⟨w.heap.size + 1, 0, none⟩) (fun _ => rfl) (.slice none 0 0)).setCell (p := ⟨w.heap.size + 1, 1, none⟩) (fun _ => rfl) (.int .i64 0)).setCell (p := ⟨w.heap.size + 1, 2, none⟩) (fun _ => rfl) (.int .i64 0)).setCell (p := ⟨w.heap.size + 1, 3, none⟩) (fun _ => rfl) (.slice none 0 0)).setCell (p := ⟨w.heap.size + 1, 4, none⟩) (fun _ => rfl) (.slice none 0 0)
  have hb := HB.out.trans (hf.below HB.out.size (fun k hk => by unfold onB at hk; omega))
  have hP := callee_none (D := D) hn hb
  clear hf hb hn
  have HR := Lib.hid hr; clear hr
  have HP := Lib.hid hP; clear hP
  clear hno h21 h23 h24
  go_enter Try.func61, Try.ntmps61
  go_upto_region 1 with fail
  rw [← HW.out]
  go_wp2_with (with_reducible refine bodyPost_ret ?_ rfl HP.out; obtain ⟨⟨k0, k1, k2, k3, k4⟩, _⟩ := five_cells HR.out; simp [results, Try.results61, go_sem, k0, k1, k2, k3, k4])
end Go.Proofs.Ytjcjhfnjamphlaa
