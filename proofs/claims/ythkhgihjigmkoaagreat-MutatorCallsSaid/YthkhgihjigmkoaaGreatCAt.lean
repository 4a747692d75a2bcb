import Derived.Test.YthkhgihjigmkoaaGreatCAq
import Derived.Test.YthkhgihjigmkoaaGreatCAc
set_option linter.unusedVariables false
set_option linter.unusedSimpArgs false
namespace Go.Proofs.YthkhgihjigmkoaaGreat.Tk
open Go.ChangeShapes Go.WideShapes Go.ChangeAt Go.RowKit Go.Maps
def actV (k a f v fn : Int) (b : Bool) (r : Value) : Value := .agg #[.int .i64 k, .int .i64 a, .int .i64 f, .int .i64 v, .int .i64 fn, .bool b, r]
def act0 : Obj := .cells #[.int .i64 0, .int .i64 0, .int .i64 0, .int .i64 0, .int .i64 0, .bool false, .slice none 0 0] 63
def stepV (c0 c1 c2 mp : Value) (tb : Nat) (i0 i1 i2 i3 : Int) : Array Value := #[c0, c1, c2, mp, .pointer (some ⟨tb, 0, none⟩), .int .i64 i0, .int .i64 i1, .int .i64 i2, .int .i64 i3]
theorem seven_cells {w : World} {q : Nat} {x0 x1 x2 x3 x4 x5 x6 : Value} {t : TypeId} (h : w.heap[q]? = some (.cells #[x0, x1, x2, x3, x4, x5, x6] t)) :
  (w.cell? ⟨q, 0, none⟩ = some x0 ∧ w.cell? ⟨q, 1, none⟩ = some x1 ∧ w.cell? ⟨q, 2, none⟩ = some x2 ∧ w.cell? ⟨q, 3, none⟩ = some x3 ∧ w.cell? ⟨q, 4, none⟩ = some x4 ∧ w.cell? ⟨q, 5, none⟩ = some x5 ∧ w.cell? ⟨q, 6, none⟩ = some x6) ∧ w.frozen? ⟨q, 0, none⟩ = false ∧ w.frozen? ⟨q, 1, none⟩ = false ∧ w.frozen? ⟨q, 2, none⟩ = false ∧ w.frozen? ⟨q, 3, none⟩ = false ∧ w.frozen? ⟨q, 4, none⟩ = false ∧ w.frozen? ⟨q, 5, none⟩ = false ∧ w.frozen? ⟨q, 6, none⟩ = false :=
 ⟨⟨(row_cell h 0).1, (row_cell h 1).1, (row_cell h 2).1, (row_cell h 3).1, (row_cell h 4).1, (row_cell h 5).1, (row_cell h 6).1⟩, (row_cell h 0).2, (row_cell h 1).2, (row_cell h 2).2, (row_cell h 3).2, (row_cell h 4).2, (row_cell h 5).2, (row_cell h 6).2⟩
theorem seven_fr (X : World) (v0 v1 v2 v3 v4 v5 v6 : Value) (z : Nat) : Fr (fun k => k = z) X (((((((X.setCell ⟨z, 0, none⟩ v0).setCell ⟨z, 1, none⟩ v1).setCell ⟨z, 2, none⟩ v2).setCell ⟨z, 3, none⟩ v3).setCell ⟨z, 4, none⟩ v4).setCell ⟨z, 5, none⟩ v5).setCell ⟨z, 6, none⟩ v6) := (((((((Fr.refl (fun k => k = z) X).setCell (p := ⟨z, 0, none⟩) (fun _ => rfl) v0).setCell (p := ⟨z, 1, none⟩) (fun _ => rfl) v1).setCell (p := ⟨z, 2, none⟩) (fun _ => rfl) v2).setCell (p := ⟨z, 3, none⟩) (fun _ => rfl) v3).setCell (p := ⟨z, 4, none⟩) (fun _ => rfl) v4).setCell (p := ⟨z, 5, none⟩) (fun _ => rfl) v5).setCell (p := ⟨z, 6, none⟩) (fun _ => rfl) v6
theorem seven_row {X : World} {z : Nat} {u0 u1 u2 u3 u4 u5 u6 : Value} {t : TypeId} (h : X.heap[z]? = some (.cells #[u0, u1, u2, u3, u4, u5, u6] t)) (v0 v1 v2 v3 v4 v5 v6 : Value) : (((((((X.setCell ⟨z, 0, none⟩ v0).setCell ⟨z, 1, none⟩ v1).setCell ⟨z, 2, none⟩ v2).setCell ⟨z, 3, none⟩ v3).setCell ⟨z, 4, none⟩ v4).setCell ⟨z, 5, none⟩ v5).setCell ⟨z, 6, none⟩ v6).heap[z]? = some (.cells #[v0, v1, v2, v3, v4, v5, v6] t) := by
 have := (row_set (row_set (row_set (row_set (row_set (row_set (row_set h 0 v0) 1 v1) 2 v2) 3 v3) 4 v4) 5 v5) 6 v6)
 simpa using this
set_option maxRecDepth 100000 in
set_option maxHeartbeats 1600000 in
theorem on_any (w : World) (F : Nat → Prop) (tb : Nat) (p : TPrg) (T : Tk) (X : TB) (h : TaskAt w F tb p T X) (hn : T.parts.length ≤ 1000) (P : List Part) (q : Part) (hP : T.parts = P ++ [q]) (hq : 0 ≤ q.pc ∧ q.pc ≤ 100000) (c0 c1 c2 mp : Value) (i0 i1 i2 i3 : Int) :
  Calls Tryz.prog 71 #[.agg (stepV c0 c1 c2 mp tb i0 i1 i2 i3)] w fun e w' => e = .returned (actV 0 0 0 0 0 false (.slice none 0 0)) ∧ TaskAt w' F tb p ⟨T.base, T.words, P ++ [⟨q.fn, q.pc + 1, q.base, q.ret, q.ta, q.tn, q.tc⟩], T.marks⟩ X ∧ Fr F w w' := by
 have hb0 := ((Below.refl w.heap.size w).alloc (Nat.le_refl _) (.cells (stepV c0 c1 c2 mp tb i0 i1 i2 i3) 124))
 have hb1 := hb0.alloc hb0.size act0
 have hr0 := row_alloc (heap_new w (.cells (stepV c0 c1 c2 mp tb i0 i1 i2 i3) 124)) act0
 have hr1 := heap_new (w.alloc (.cells (stepV c0 c1 c2 mp tb i0 i1 i2 i3) 124)) act0
 rw [show (w.alloc (.cells (stepV c0 c1 c2 mp tb i0 i1 i2 i3) 124)).heap.size = w.heap.size + 1 from by simp] at hr1
 obtain ⟨W, hW⟩ : ∃ W, W = (w.alloc (.cells (stepV c0 c1 c2 mp tb i0 i1 i2 i3) 124)).alloc act0 := ⟨_, rfl⟩
 rw [← hW] at hb1 hr0 hr1
 have s4 : W.cell? ⟨w.heap.size, 4, none⟩ = some (.pointer (some ⟨tb, 0, none⟩)) := (row_cell hr0 4).1
 have hT := h.below hb1
 have hl : T.parts.length = P.length + 1 := by rw [hP]; simp
 have pc := fun wr (hw : Below w.heap.size w wr) => pc_some wr F tb p T X (h.below hw) hn P.length hl
 have gt := fun wr (hw : Below w.heap.size w wr) => goto_any wr F tb p T X (h.below hw) hn P q hP (q.pc + 1)
 have e0 : (T.parts[P.length]'(by omega)).pc = q.pc := by simp only [hP]; simp
 rw [e0] at pc
 have hflt := h.flt
 have i1' : IntKind.i64.wrap (q.pc + 1) = q.pc + 1 := IntWalk.i64_in _ (by omega)
 unfold stepV at hW
 unfold act0 at hW hr1
 have HR0 := Lib.hid hb1.drew
 have HSG := Lib.hid (fun k => below_cell (below_drewN (Below.refl W.heap.size W) k) s4)
 have HRG := Lib.hid (fun k => (Fr.of_below (below_drewN (Below.refl W.heap.size W) k) (fun _ => False)).heap hr1 (fun h => h))
 have HBD := Lib.hid (fun k => below_drewN hb1 k)
 have HOUT := Lib.hid (fun k (hk : X.D k) => (h.out k hk).2)
 have HW := Lib.hid hW
 have hSd : W.drew.cell? ⟨w.heap.size, 4, none⟩ = some (.pointer (some ⟨tb, 0, none⟩)) := s4
 clear hb0 hW hP hl e0 hT h hn hr0
 generalize q.pc = pc0 at *
 have PC := Lib.hid pc; clear pc
 have GT := Lib.hid gt; clear gt
 have HB1 := Lib.hid hb1; clear hb1
 have HR1 := Lib.hid hr1; clear hr1
 have HFLT := Lib.hid hflt; clear hflt
 unfold stepV
 go_enter Tryz.func71, Tryz.ntmps71
 go_upto_region 1 with fail
 rw [← HW.out]
 go_region_held3 (fun w' => w'.cell? ⟨w.heap.size, 4, none⟩ = some (.pointer (some ⟨tb, 0, none⟩))) (first | with_reducible exact HSG.out _ | with_reducible exact hSd | with_reducible exact hS4 | go_keep) (first
  | (go_at_call 31
     refine (PC.out _ HR0.out).mono ?_
     rintro e w3 ⟨rfl, m, rfl⟩)
  | (go_at_call 16
     refine (GT.out _ (HBD.out _)).mono ?_
     rintro e w4 ⟨rfl, hT4, hf4⟩
     have hS4 := hf4.cell (HSG.out _) (fun e => Nat.lt_irrefl _ (HFLT.out w.heap.size e))
     have hr4 := hf4.heap (HRG.out _) (fun e => by have := HFLT.out (w.heap.size + 1) e; omega)
     have HF4 := Lib.hid ((Fr.of_below (HBD.out _) F).trans hf4 (fun _ _ h => h))
     have HT4 := Lib.hid hT4
     clear hT4 hf4))
 all_goals
  obtain ⟨⟨z0, z1, z2, z3, z4, z5, z6⟩, y0, y1, y2, y3, y4, y5, y6⟩ := seven_cells hr4
  have hfs := seven_fr w4 (.int .i64 0) (.int .i64 0) (.int .i64 0) (.int .i64 0) (.int .i64 0) (.bool false) (.slice none 0 0) (w.heap.size + 1)
  have hrs := seven_row hr4 (.int .i64 0) (.int .i64 0) (.int .i64 0) (.int .i64 0) (.int .i64 0) (.bool false) (.slice none 0 0)
  have hT5 := HT4.out.fr hfs (fun k hk e => by have := HFLT.out k hk; have e : k = w.heap.size + 1 := e; omega) (fun k hk e => by have := HOUT.out k hk; have e : k = w.heap.size + 1 := e; omega)
  have hf5 := HF4.out.trans hfs (fun k hk e => by have e : k = w.heap.size + 1 := e; omega)
  clear hfs hr4 hS4
  have HRS := Lib.hid hrs; clear hrs
  have HT5 := Lib.hid hT5; clear hT5
  have HF5 := Lib.hid hf5; clear hf5
  go_wp2_with (with_reducible refine bodyPost_ret ?_ rfl ⟨rfl, HT5.out, HF5.out⟩; have k0 := (row_cell HRS.out 0).1; have k1 := (row_cell HRS.out 1).1; have k2 := (row_cell HRS.out 2).1; have k3 := (row_cell HRS.out 3).1; have k4 := (row_cell HRS.out 4).1; have k5 := (row_cell HRS.out 5).1; have k6 := (row_cell HRS.out 6).1; simp at k0 k1 k2 k3 k4 k5 k6; simp [results, Tryz.results71, go_sem, k0, k1, k2, k3, k4, k5, k6, actV])
set_option maxRecDepth 100000 in
set_option maxHeartbeats 1600000 in
theorem stSet_any (w : World) (F : Nat → Prop) (tb : Nat) (p : TPrg) (T : Tk) (X : TB) (h : TaskAt w F tb p T X) (ht : TkOk T) (P : List Part) (q : Part) (hP : T.parts = P ++ [q]) (hq : 0 ≤ q.pc ∧ q.pc ≤ 100000) (j : Nat) (hj : j < p.funcs.length) (hfj : q.fn = j) (bn : Nat) (hbn : q.base = bn) (s : Nat) (hs : (s : Int) < p.funcs[j].slots) (hs2 : s ≤ 3000) (hin : bn + (2 + s) < T.words.length) (v : Int) (c0 c1 c2 mp : Value) (i0 i1 i2 i3 : Int) :
  Calls Tryz.prog 70 #[.agg (stepV c0 c1 c2 mp tb i0 i1 i2 i3), .int .i64 s, .int .i64 v] w fun e w' => e = .returned (actV 0 0 0 0 0 false (.slice none 0 0)) ∧ TaskAt w' F tb p ⟨T.base, T.words.set (bn + (2 + s)) v, P ++ [⟨q.fn, q.pc + 1, q.base, q.ret, q.ta, q.tn, q.tc⟩], T.marks⟩ X ∧ Fr F w w' := by
 have hb0 := ((Below.refl w.heap.size w).alloc (Nat.le_refl _) (.cells (stepV c0 c1 c2 mp tb i0 i1 i2 i3) 124))
 have hb1 := hb0.alloc hb0.size act0
 have hr0 := row_alloc (heap_new w (.cells (stepV c0 c1 c2 mp tb i0 i1 i2 i3) 124)) act0
 have hr1 := heap_new (w.alloc (.cells (stepV c0 c1 c2 mp tb i0 i1 i2 i3) 124)) act0
 rw [show (w.alloc (.cells (stepV c0 c1 c2 mp tb i0 i1 i2 i3) 124)).heap.size = w.heap.size + 1 from by simp] at hr1
 obtain ⟨W, hW⟩ : ∃ W, W = (w.alloc (.cells (stepV c0 c1 c2 mp tb i0 i1 i2 i3) 124)).alloc act0 := ⟨_, rfl⟩
 rw [← hW] at hb1 hr0 hr1
 have s4 : W.cell? ⟨w.heap.size, 4, none⟩ = some (.pointer (some ⟨tb, 0, none⟩)) := (row_cell hr0 4).1
 have hl : T.parts.length = P.length + 1 := by rw [hP]; simp
 have e0 : (T.parts[P.length]'(by omega)) = q := by simp only [hP]; simp
 have st := set_in W F tb p T X (h.below hb1) ht P.length hl j hj (by rw [e0]; exact hfj) bn (by rw [e0]; exact hbn) s hs hs2 hin v
 have on := fun wr (hT : TaskAt wr F tb p ⟨T.base, T.words.set (bn + (2 + s)) v, T.parts, T.marks⟩ X) => on_any wr F tb p ⟨T.base, T.words.set (bn + (2 + s)) v, T.parts, T.marks⟩ X hT ht.1 P q hP hq c0 c1 c2 mp i0 i1 i2 i3
 have HFLT := Lib.hid h.flt
 have HOUT := Lib.hid (fun k (hk : X.D k) => (h.out k hk).2)
 unfold act0 at hW hr1
 unfold stepV at hW hr0
 have HW := Lib.hid hW
 clear hb0 hW hP hl e0 h ht hfj hbn hs hin hq
 have ON := Lib.hid on; clear on
 have ST := Lib.hid st; clear st
 have HB1 := Lib.hid hb1; clear hb1
 have HR1 := Lib.hid hr1; clear hr1
 have HR0 := Lib.hid hr0; clear hr0
 unfold stepV
 go_enter Tryz.func70, Tryz.ntmps70
 go_upto_region 1 with fail
 rw [← HW.out]
 go_wp2_with fail
 refine ST.out.mono ?_
 rintro e w3 ⟨rfl, hT3, hf3⟩
 have hr3 := hf3.heap HR0.out (fun e => Nat.lt_irrefl _ (HFLT.out w.heap.size e))
 have hr4 := hf3.heap HR1.out (fun e => by have := HFLT.out (w.heap.size + 1) e; omega)
 have on := ON.out w3 hT3
 have HFW := Lib.hid ((Fr.of_below HB1.out F).trans hf3 (fun _ _ h => h))
 have k0 : w3.cell? ⟨w.heap.size, 0, none⟩ = some c0 := (row_cell hr3 0).1
 have k1 : w3.cell? ⟨w.heap.size, 1, none⟩ = some c1 := (row_cell hr3 1).1
 have k2 : w3.cell? ⟨w.heap.size, 2, none⟩ = some c2 := (row_cell hr3 2).1
 have k3 : w3.cell? ⟨w.heap.size, 3, none⟩ = some mp := (row_cell hr3 3).1
 have k4 : w3.cell? ⟨w.heap.size, 4, none⟩ = some (.pointer (some ⟨tb, 0, none⟩)) := (row_cell hr3 4).1
 have k5 : w3.cell? ⟨w.heap.size, 5, none⟩ = some (.int .i64 i0) := (row_cell hr3 5).1
 have k6 : w3.cell? ⟨w.heap.size, 6, none⟩ = some (.int .i64 i1) := (row_cell hr3 6).1
 have k7 : w3.cell? ⟨w.heap.size, 7, none⟩ = some (.int .i64 i2) := (row_cell hr3 7).1
 have k8 : w3.cell? ⟨w.heap.size, 8, none⟩ = some (.int .i64 i3) := (row_cell hr3 8).1
 clear s4 ST
 unfold stepV at on
 have ON := Lib.hid on; clear on
 have HT3 := Lib.hid hT3; clear hT3
 have HF3 := Lib.hid hf3; clear hf3
 have HR4 := Lib.hid hr4
 clear hr3 hr4
 go_wp2_with fail
 refine ON.out.mono ?_
 rintro e w4 ⟨rfl, hT4, hf4⟩
 have hr5 := hf4.heap HR4.out (fun e => by have := HFLT.out (w.heap.size + 1) e; omega)
 obtain ⟨⟨z0, z1, z2, z3, z4, z5, z6⟩, y0, y1, y2, y3, y4, y5, y6⟩ := seven_cells hr5
 have hfs := seven_fr w4 (.int .i64 0) (.int .i64 0) (.int .i64 0) (.int .i64 0) (.int .i64 0) (.bool false) (.slice none 0 0) (w.heap.size + 1)
 have hrs := seven_row hr5 (.int .i64 0) (.int .i64 0) (.int .i64 0) (.int .i64 0) (.int .i64 0) (.bool false) (.slice none 0 0)
 have hT5 := hT4.fr hfs (fun k hk e => by have := HFLT.out k hk; have e : k = w.heap.size + 1 := e; omega) (fun k hk e => by have := HOUT.out k hk; have e : k = w.heap.size + 1 := e; omega)
 have hf5 := (HFW.out.trans hf4 (fun _ _ h => h)).trans hfs (fun k hk e => by have e : k = w.heap.size + 1 := e; omega)
 clear hfs hr5 hT4 hf4 k0 k1 k2 k3 k4 k5 k6 k7 k8
 unfold actV
 have HRS := Lib.hid hrs; clear hrs
 have HT5 := Lib.hid hT5; clear hT5
 have HF5 := Lib.hid hf5; clear hf5
 go_wp2_with fail
 refine bodyPost_ret ?_ rfl ⟨rfl, HT5.out, HF5.out⟩
 have k0 := (row_cell HRS.out 0).1; have k1 := (row_cell HRS.out 1).1; have k2 := (row_cell HRS.out 2).1; have k3 := (row_cell HRS.out 3).1; have k4 := (row_cell HRS.out 4).1; have k5 := (row_cell HRS.out 5).1; have k6 := (row_cell HRS.out 6).1; simp at k0 k1 k2 k3 k4 k5 k6; simp [results, Tryz.results70, go_sem, k0, k1, k2, k3, k4, k5, k6, actV]
end Go.Proofs.YthkhgihjigmkoaaGreat.Tk
namespace Go.Proofs.YthkhgihjigmkoaaGreat.Tk
open Go.ChangeShapes Go.WideShapes Go.ChangeAt Go.RowKit Go.Maps
def RunPostG (w : World) (F : Nat → Prop) (tb : Nat) (p : TPrg) (X : TB) (T' : Tk) (al : List Alarm) (kf : { x : Int × Int // i64B x.1 ∧ i64B x.2 } → Option Int) (av : Value) (e : Ending) (w' : World) : Prop := e = .returned av ∧ ∃ F' X', TaskAt w' F' tb p T' X' ∧ X'.Q X al kf ∧ (∀ k, F' k → F k ∨ w.heap.size ≤ k) ∧ Fr F w w'
def RunPost (w : World) (F : Nat → Prop) (tb : Nat) (p : TPrg) (X : TB) (T' : Tk) (av : Value) (e : Ending) (w' : World) : Prop := RunPostG w F tb p X T' X.al X.kf av e w'
set_option maxRecDepth 100000 in
set_option maxHeartbeats 3200000 in
theorem step_runG (w : World) (F : Nat → Prop) (tb : Nat) (p : TPrg) (T : Tk) (X : TB) (h : TaskAt w F tb p T X) (hn : T.parts.length ≤ 1000) (hm : nextU T.marks X.al = 0) (hml : T.marks.length ≤ 10000) (hal : X.al.length ≤ 10000) (P : List Part) (q : Part) (hP : T.parts = P ++ [q])
  (D : Nat → Prop) (hD : ∀ k, D k → ¬ F k ∧ k < w.heap.size) (pr : Prg) (c0 c1 c2 : Value) (ma : Option Addr) (hv : PrgVal w D pr c0 c1 c2) (j : Nat) (hj : j < pr.funcs.length) (hfj : q.fn = j) (pc : Nat) (hpc : q.pc = pc) (hpl : pc < pr.funcs[j].code.length) (i : Ins) (hi : pr.funcs[j].code[pc] = i)
  (T' : Tk) (al : List Alarm) (kf : { x : Int × Int // i64B x.1 ∧ i64B x.2 } → Option Int) (k a f v fn : Int) (b : Bool) (r0 : Option Addr) (r1 r2 : Nat) (RUN : ∀ wr, Below w.heap.size w wr → Calls Tryz.prog 69 #[.agg (stepV c0 c1 c2 (.pointer ma) tb i.op i.a i.b i.c)] wr (RunPostG wr F tb p X T' al kf (actV k a f v fn b (.slice r0 r1 r2)))) :
  Calls Tryz.prog 30 #[.agg #[c0, c1, c2], .pointer ma, .pointer (some ⟨tb, 0, none⟩)] w (RunPostG w F tb p X T' al kf (actV k a f v fn b (.slice r0 r1 r2))) := by
 have hv0 := hv
 obtain ⟨⟨a0, m0, rfl, _⟩, ⟨a1, m1, rfl, _⟩, a2, m2, rfl, hfn⟩ := hv
 have hb0 := ((Below.refl w.heap.size w).alloc (Nat.le_refl _) (.cells #[.slice a0 pr.globals.length m0, .slice a1 pr.shapes.length m1, .slice a2 pr.funcs.length m2] 27))
 have hb1 := hb0.alloc hb0.size act0
 have hr0 := row_alloc (heap_new w (.cells #[.slice a0 pr.globals.length m0, .slice a1 pr.shapes.length m1, .slice a2 pr.funcs.length m2] 27)) act0
 have hr1 := heap_new (w.alloc (.cells #[.slice a0 pr.globals.length m0, .slice a1 pr.shapes.length m1, .slice a2 pr.funcs.length m2] 27)) act0
 rw [show (w.alloc (.cells #[.slice a0 pr.globals.length m0, .slice a1 pr.shapes.length m1, .slice a2 pr.funcs.length m2] 27)).heap.size = w.heap.size + 1 from by simp] at hr1
 obtain ⟨W, hW⟩ : ∃ W, W = (w.alloc (.cells #[.slice a0 pr.globals.length m0, .slice a1 pr.shapes.length m1, .slice a2 pr.funcs.length m2] 27)).alloc act0 := ⟨_, rfl⟩
 rw [← hW] at hb1 hr0 hr1
 have hT := h.below hb1
 have hl : T.parts.length = P.length + 1 := by rw [hP]; simp
 have e0 : (T.parts[P.length]'(by omega)) = q := by simp only [hP]; simp
 have nx := tkNext_any W F tb p T X hT hml hal
 rw [hm] at nx
 have fnc := fun wr (hw : Below w.heap.size w wr) => fn_some wr F tb p T X (h.below hw) hn P.length hl
 have pcc := fun wr (hw : Below w.heap.size w wr) => pc_some wr F tb p T X (h.below hw) hn P.length hl
 rw [e0, hfj] at fnc
 rw [e0, hpc] at pcc
 obtain ⟨bb, o, rfl, hdb, y0, y1, y2, y3, y4, g0, g1, g2, g3, g4, hfv⟩ := hfn j hj
 obtain ⟨_, _, _, _, ac, cc, rfl, hcode⟩ := hfv
 obtain ⟨cb, co, rfl, hdc, x0, x1, x2, x3⟩ := hcode pc hpl
 rw [hi] at x0 x1 x2 x3
 have hbo := hD _ hdb
 have hco := hD _ hdc
 have hflt := h.flt
 have hout := fun k (hk : X.D k) => (h.out k hk).2
 have hcs : ∀ wx, Below w.heap.size w wx → wx.cell? ⟨bb, o + j * 5 + 4, none⟩ = some (.slice (some ⟨cb, co, none⟩) pr.funcs[j].code.length cc) ∧ wx.cell? ⟨cb, co + pc * 4, none⟩ = some (.int .i64 i.op) ∧ wx.cell? ⟨cb, co + pc * 4 + 1, none⟩ = some (.int .i64 i.a) ∧ wx.cell? ⟨cb, co + pc * 4 + 2, none⟩ = some (.int .i64 i.b) ∧ wx.cell? ⟨cb, co + pc * 4 + 3, none⟩ = some (.int .i64 i.c) := fun wx hw => ⟨below_cell hw g4, below_cell hw x0, below_cell hw x1, below_cell hw x2, below_cell hw x3⟩
 have hj0 : (0 : Int) ≤ (j : Int) := by omega
 have hj1 : (j : Int) < (pr.funcs.length : Int) := by omega
 have hp0 : (0 : Int) ≤ (pc : Int) := by omega
 have hp1 : (pc : Int) < (pr.funcs[j].code.length : Int) := by omega
 unfold act0 at hW hr1
 have HW := Lib.hid hW
 clear hb0 hW hT hl e0 h hn hm hml hP hfj hpc hi hv0 hfn g0 g1 g2 g3 g4 x0 x1 x2 x3 hdb hdc hD hpl
 generalize pr.funcs[j].code.length = cl at *
 have FNC := Lib.hid fnc; clear fnc
 have PCC := Lib.hid pcc; clear pcc
 have RUNX := Lib.hid RUN; clear RUN
 have NX := Lib.hid nx; clear nx
 have HB1 := Lib.hid hb1; clear hb1
 have HR1 := Lib.hid hr1; clear hr1
 have HR0 := Lib.hid hr0; clear hr0
 have HBO := Lib.hid hbo; clear hbo
 have HCO := Lib.hid hco; clear hco
 have HFLT := Lib.hid hflt; clear hflt
 have HOUT := Lib.hid hout; clear hout
 have HCS := Lib.hid hcs; clear hcs
 unfold stepV at RUNX
 go_enter Tryz.func30, Tryz.ntmps30
 go_upto_region 1 with fail
 rw [← HW.out]
 go_wp2_with fail
 refine NX.out.mono ?_
 rintro e w3 ⟨rfl, hb3⟩
 have hb13 := HB1.out.trans (hb3.mono HB1.out.size)
 have hsz : w.heap.size + 2 ≤ w3.heap.size := Nat.le_trans (heap_lt HR1.out) hb3.size
 have HBD := Lib.hid (fun k => below_drewN hb13 k)
 have hro3 := (Fr.of_below hb3 (fun _ => False)).heap HR0.out (fun h => h)
 have hr3 := (Fr.of_below hb3 (fun _ => False)).heap HR1.out (fun h => h)
 have HRG := Lib.hid (fun k => (Fr.of_below (below_drewN (Below.refl w3.heap.size w3) k) (fun _ => False)).heap hr3 (fun h => h))
 have HSZ := Lib.hid (fun k => Nat.le_trans hsz (below_drewN (Below.refl w3.heap.size w3) k).size)
 have HSG := Lib.hid (show ∀ k, (w3.drewN k).cell? ⟨w.heap.size, 0, none⟩ = some (.slice a0 pr.globals.length m0) ∧ (w3.drewN k).cell? ⟨w.heap.size, 1, none⟩ = some (.slice a1 pr.shapes.length m1) ∧ (w3.drewN k).cell? ⟨w.heap.size, 2, none⟩ = some (.slice (some ⟨bb, o, none⟩) pr.funcs.length m2) ∧ (w3.drewN k).cell? ⟨bb, o + j * 5 + 4, none⟩ = some (.slice (some ⟨cb, co, none⟩) cl cc) ∧ (w3.drewN k).cell? ⟨cb, co + pc * 4, none⟩ = some (.int .i64 i.op) ∧ (w3.drewN k).cell? ⟨cb, co + pc * 4 + 1, none⟩ = some (.int .i64 i.a) ∧ (w3.drewN k).cell? ⟨cb, co + pc * 4 + 2, none⟩ = some (.int .i64 i.b) ∧ (w3.drewN k).cell? ⟨cb, co + pc * 4 + 3, none⟩ = some (.int .i64 i.c) from fun k => by
  have hk := (Fr.of_below (below_drewN (Below.refl w3.heap.size w3) k) (fun _ => False)).heap hro3 (fun h => h)
  exact ⟨(row_cell hk 0).1, (row_cell hk 1).1, (row_cell hk 2).1, HCS.out _ (below_drewN hb13 k)⟩)
 have hSd := HSG.out 1
 rw [show w3.drewN 1 = w3.drew from rfl] at hSd
 have HR0 := Lib.hid (show Below w.heap.size w w3.drew from HBD.out 1)
 have k3 : w3.cell? ⟨w.heap.size, 2, none⟩ = some (.slice (some ⟨bb, o, none⟩) pr.funcs.length m2) := (row_cell hro3 2).1
 clear hb3 hb13 hsz hro3 hr3 NX
 go_upto_region 11 with fail
 clear k3
 go_region_held3 (fun w' => w'.cell? ⟨w.heap.size, 0, none⟩ = some (.slice a0 pr.globals.length m0) ∧ w'.cell? ⟨w.heap.size, 1, none⟩ = some (.slice a1 pr.shapes.length m1) ∧ w'.cell? ⟨w.heap.size, 2, none⟩ = some (.slice (some ⟨bb, o, none⟩) pr.funcs.length m2) ∧ w'.cell? ⟨bb, o + j * 5 + 4, none⟩ = some (.slice (some ⟨cb, co, none⟩) cl cc) ∧ w'.cell? ⟨cb, co + pc * 4, none⟩ = some (.int .i64 i.op) ∧ w'.cell? ⟨cb, co + pc * 4 + 1, none⟩ = some (.int .i64 i.a) ∧ w'.cell? ⟨cb, co + pc * 4 + 2, none⟩ = some (.int .i64 i.b) ∧ w'.cell? ⟨cb, co + pc * 4 + 3, none⟩ = some (.int .i64 i.c)) (first | with_reducible exact HSG.out _ | with_reducible exact hSd | with_reducible exact hS5 | with_reducible exact hS7 | go_keep) (first
  | (go_at_call 38
     refine (FNC.out _ HR0.out).mono ?_
     rintro e w4 ⟨rfl, m, rfl⟩)
  | (go_at_call 31
     refine (PCC.out _ (HBD.out _)).mono ?_
     rintro e w4 ⟨rfl, m', rfl⟩)
  | (go_at_call 69
     refine (RUNX.out _ (HBD.out _)).mono ?_
     rintro e w5 ⟨rfl, F', X', hT', hXD, hF', hf5⟩
     have hlow := HSZ.out (1 + m + m')
     have hr5 := hf5.heap (HRG.out _) (fun e => by have := HFLT.out (w.heap.size + 1) e; omega)
     obtain ⟨u0, u1, u2, u3, u4, u5, u6, u7⟩ := HSG.out (1 + m + m')
     have hS5 := And.intro (hf5.cell u0 (fun e => Nat.lt_irrefl _ (HFLT.out w.heap.size e))) (And.intro (hf5.cell u1 (fun e => Nat.lt_irrefl _ (HFLT.out w.heap.size e))) (And.intro (hf5.cell u2 (fun e => Nat.lt_irrefl _ (HFLT.out w.heap.size e))) (And.intro (hf5.cell u3 HBO.out.1) (And.intro (hf5.cell u4 HCO.out.1) (And.intro (hf5.cell u5 HCO.out.1) (And.intro (hf5.cell u6 HCO.out.1) (hf5.cell u7 HCO.out.1)))))))
     have HFW := Lib.hid ((Fr.of_below (HBD.out (1 + m + m')) F).trans hf5 (fun _ _ h => h))
     have hfs := seven_fr w5 (.int .i64 k) (.int .i64 a) (.int .i64 f) (.int .i64 v) (.int .i64 fn) (.bool b) (.slice r0 r1 r2) (w.heap.size + 1)
     have nz0 : ¬ w.heap.size = w.heap.size + 1 := by omega
     have nz1 : ¬ bb = w.heap.size + 1 := by have := HBO.out.2; omega
     have nz2 : ¬ cb = w.heap.size + 1 := by have := HCO.out.2; omega
     have hS7 := And.intro (hfs.cell hS5.1 nz0) (And.intro (hfs.cell hS5.2.1 nz0) (And.intro (hfs.cell hS5.2.2.1 nz0) (And.intro (hfs.cell hS5.2.2.2.1 nz1) (And.intro (hfs.cell hS5.2.2.2.2.1 nz2) (And.intro (hfs.cell hS5.2.2.2.2.2.1 nz2) (And.intro (hfs.cell hS5.2.2.2.2.2.2.1 nz2) (hfs.cell hS5.2.2.2.2.2.2.2 nz2)))))))
     clear u0 u1 u2 u3 u4 u5 u6 u7 hf5 hfs
     obtain ⟨⟨z0, z1, z2, z3, z4, z5, z6⟩, n0, n1, n2, n3, n4, n5, n6⟩ := seven_cells hr5
     unfold actV))
 all_goals
  have hfs := seven_fr w5 (.int .i64 k) (.int .i64 a) (.int .i64 f) (.int .i64 v) (.int .i64 fn) (.bool b) (.slice r0 r1 r2) (w.heap.size + 1)
  have hrs := seven_row hr5 (.int .i64 k) (.int .i64 a) (.int .i64 f) (.int .i64 v) (.int .i64 fn) (.bool b) (.slice r0 r1 r2)
  have hFz : ∀ q, F' q → q ≠ w.heap.size + 1 := fun q hq e => by
   rcases hF' q hq with h1 | h1
   ·have := HFLT.out q h1; omega
   ·omega
  have hT5 := hT'.fr hfs (fun q hq e => hFz q hq e) (fun q hq e => by rw [hXD.1] at hq; have := HOUT.out q hq; have e : q = w.heap.size + 1 := e; omega)
  have hf6 := HFW.out.trans hfs (fun q hq e => by have e : q = w.heap.size + 1 := e; omega)
  have hF6 : ∀ q, F' q → F q ∨ w.heap.size ≤ q := fun q hq => by
   rcases hF' q hq with h1 | h1
   ·exact .inl h1
   ·exact .inr (by omega)
  have HPP := Lib.hid (show RunPostG w F tb p X T' al kf (actV k a f v fn b (.slice r0 r1 r2)) _ _ from ⟨rfl, F', X', hT5, hXD, hF6, hf6⟩)
  clear hfs hr5 hT' hT5 hf6 hF6 hFz hF' hS5 hS7 hXD hlow z0 z1 z2 z3 z4 z5 z6 n0 n1 n2 n3 n4 n5 n6
  have HRS := Lib.hid hrs; clear hrs
  go_wp2_with fail
  refine bodyPost_ret ?_ rfl HPP.out
  have k0 := (row_cell HRS.out 0).1; have k1 := (row_cell HRS.out 1).1; have k2 := (row_cell HRS.out 2).1; have k3 := (row_cell HRS.out 3).1; have k4 := (row_cell HRS.out 4).1; have k5 := (row_cell HRS.out 5).1; have k6 := (row_cell HRS.out 6).1; simp at k0 k1 k2 k3 k4 k5 k6; simp [results, Tryz.results30, go_sem, k0, k1, k2, k3, k4, k5, k6, actV]
theorem step_run (w : World) (F : Nat → Prop) (tb : Nat) (p : TPrg) (T : Tk) (X : TB) (h : TaskAt w F tb p T X) (hn : T.parts.length ≤ 1000) (hm : nextU T.marks X.al = 0) (hml : T.marks.length ≤ 10000) (hal : X.al.length ≤ 10000) (P : List Part) (q : Part) (hP : T.parts = P ++ [q])
  (D : Nat → Prop) (hD : ∀ k, D k → ¬ F k ∧ k < w.heap.size) (pr : Prg) (c0 c1 c2 : Value) (ma : Option Addr) (hv : PrgVal w D pr c0 c1 c2) (j : Nat) (hj : j < pr.funcs.length) (hfj : q.fn = j) (pc : Nat) (hpc : q.pc = pc) (hpl : pc < pr.funcs[j].code.length) (i : Ins) (hi : pr.funcs[j].code[pc] = i)
  (T' : Tk) (k a f v fn : Int) (b : Bool) (r0 : Option Addr) (r1 r2 : Nat) (RUN : ∀ wr, Below w.heap.size w wr → Calls Tryz.prog 69 #[.agg (stepV c0 c1 c2 (.pointer ma) tb i.op i.a i.b i.c)] wr (RunPost wr F tb p X T' (actV k a f v fn b (.slice r0 r1 r2)))) :
  Calls Tryz.prog 30 #[.agg #[c0, c1, c2], .pointer ma, .pointer (some ⟨tb, 0, none⟩)] w (RunPost w F tb p X T' (actV k a f v fn b (.slice r0 r1 r2))) :=
 step_runG w F tb p T X h hn hm hml hal P q hP D hD pr c0 c1 c2 ma hv j hj hfj pc hpc hpl i hi T' X.al X.kf k a f v fn b r0 r1 r2 RUN
end Go.Proofs.YthkhgihjigmkoaaGreat.Tk
