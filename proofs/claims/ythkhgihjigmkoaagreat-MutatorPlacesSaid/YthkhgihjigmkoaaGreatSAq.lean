/- Walk: mutator.Step, of a task that runs. Walk: a step's run: SetInt. Walks: a step's run: Output. Walk: the statements' program of two functions. -/
import Derived.Test.YthkhgihjigmkoaaGreatSAp
import Derived.Test.YthkhgihjigmkoaaGreatSAc
import Derived.Test.YthkhgihjigmkoaaGreatSAa
import Derived.Test.YthkhgihjigmkoaaGreatSAm
set_option linter.unusedVariables false
set_option linter.unusedSimpArgs false
namespace Go.Proofs.YthkhgihjigmkoaaGreat.Tk
open Go.ChangeShapes Go.WideShapes Go.ChangeAt Go.RowKit Go.Maps
/-- what a step leaves -/
def RunPost (w : World) (F : Nat → Prop) (tb : Nat) (p : TPrg) (X : TB) (T' : Tk) (av : Value) (e : Ending) (w' : World) : Prop := e = .returned av ∧ ∃ F' X', TaskAt w' F' tb p T' X' ∧ X'.D = X.D ∧ (∀ k, F' k → F k ∨ w.heap.size ≤ k) ∧ Fr F w w'
set_option maxRecDepth 100000 in
set_option maxHeartbeats 3200000 in
theorem step_run (w : World) (F : Nat → Prop) (tb : Nat) (p : TPrg) (T : Tk) (X : TB) (h : TaskAt w F tb p T X) (hn : T.parts.length ≤ 1000) (hm : nextN T.marks = 0) (hml : T.marks.length ≤ 10000) (P : List Part) (q : Part) (hP : T.parts = P ++ [q])
    (D : Nat → Prop) (hD : ∀ k, D k → ¬ F k ∧ k < w.heap.size) (pr : Prg) (c0 c1 c2 : Value) (ma : Option Addr) (hv : PrgVal w D pr c0 c1 c2) (j : Nat) (hj : j < pr.funcs.length) (hfj : q.fn = j) (pc : Nat) (hpc : q.pc = pc) (hpl : pc < pr.funcs[j].code.length) (i : Ins) (hi : pr.funcs[j].code[pc] = i)
    (T' : Tk) (k a f v fn : Int) (b : Bool) (r0 : Option Addr) (r1 r2 : Nat) (RUN : ∀ wr, Below w.heap.size w wr → Calls Tryz.prog 69 #[.agg (stepV c0 c1 c2 (.pointer ma) tb i.op i.a i.b i.c)] wr (RunPost wr F tb p X T' (actV k a f v fn b (.slice r0 r1 r2)))) :
    Calls Tryz.prog 30 #[.agg #[c0, c1, c2], .pointer ma, .pointer (some ⟨tb, 0, none⟩)] w (RunPost w F tb p X T' (actV k a f v fn b (.slice r0 r1 r2))) := by
  have hv0 := hv
  obtain ⟨⟨a0, m0, rfl, _⟩, ⟨a1, m1, rfl, _⟩, a2, m2, rfl, hfn⟩ := hv
  have hb0 := ((Below.refl w.heap.size w).alloc (Nat.le_refl _) (.cells #[.slice a0 pr.globals.length m0, .slice a1 pr.shapes.length m1, .slice a2 pr.funcs.length m2] 27))
  have hb1 := hb0.alloc hb0.size act0
  have hr0 := row_alloc (heap_new w (.cells #[.slice a0 pr.globals.length m0, .slice a1 pr.shapes.length m1, .slice a2 pr.funcs.length m2] 27)) act0
  have hr1 := heap_new (w.alloc (.cells #[.slice a0 pr.globals.length m0, .slice a1 pr.shapes.length m1, .slice a2 pr.funcs.length m2] 27)) act0
  rw [show (w.alloc (.cells #[.slice a0 pr.globals.length m0, .slice a1 pr.shapes.length m1, .slice a2 pr.funcs.length m2] 27)).heap.size = w.heap.size + 1 from by simp] at hr1
  obtain ⟨W, hW⟩ : ∃ W, W = (w.alloc (.cells #[.slice a0 pr.globals.length m0, .slice a1 pr.shapes.length m1, .slice a2 pr.funcs.length m2] 27)).alloc act0 := ⟨_, rfl⟩
  rw [← hW] at hb1 hr0 hr1
  have hT := h.below hb1
  have hl : T.parts.length = P.length + 1 := by rw [hP]; simp
  have e0 : (T.parts[P.length]'(by omega)) = q := by simp only [hP]; simp
  have nx := tkNext_any W F tb p T X hT hml
  rw [hm] at nx
  have fnc := fun wr (hw : Below w.heap.size w wr) => fn_some wr F tb p T X (h.below hw) hn P.length hl
  have pcc := fun wr (hw : Below w.heap.size w wr) => pc_some wr F tb p T X (h.below hw) hn P.length hl
  rw [e0, hfj] at fnc
  rw [e0, hpc] at pcc
  obtain ⟨bb, o, rfl, hdb, y0, y1, y2, y3, y4, g0, g1, g2, g3, g4, hfv⟩ := hfn j hj
  obtain ⟨_, _, _, _, ac, cc, rfl, hcode⟩ := hfv
  obtain ⟨cb, co, rfl, hdc, x0, x1, x2, x3⟩ := hcode pc hpl
  rw [hi] at x0 x1 x2 x3
  have hbo := hD _ hdb
  have hco := hD _ hdc
  have hflt := h.flt
  have hout := fun k (hk : X.D k) => (h.out k hk).2
  have hcs : ∀ wx, Below w.heap.size w wx → wx.cell? ⟨bb, o + j * 5 + 4, none⟩ = some (.slice (some ⟨cb, co, none⟩) pr.funcs[j].code.length cc) ∧ wx.cell? ⟨cb, co + pc * 4, none⟩ = some (.int .i64 i.op) ∧ wx.cell? ⟨cb, co + pc * 4 + 1, none⟩ = some (.int .i64 i.a) ∧ wx.cell? ⟨cb, co + pc * 4 + 2, none⟩ = some (.int .i64 i.b) ∧ wx.cell? ⟨cb, co + pc * 4 + 3, none⟩ = some (.int .i64 i.c) := fun wx hw => ⟨below_cell hw g4, below_cell hw x0, below_cell hw x1, below_cell hw x2, below_cell hw x3⟩
  have hj0 : (0 : Int) ≤ (j : Int) := by omega
  have hj1 : (j : Int) < (pr.funcs.length : Int) := by omega
  have hp0 : (0 : Int) ≤ (pc : Int) := by omega
  have hp1 : (pc : Int) < (pr.funcs[j].code.length : Int) := by omega
  unfold act0 at hW hr1
  have HW := Lib.hid hW
  clear hb0 hW hT hl e0 h hn hm hml hP hfj hpc hi hv0 hfn g0 g1 g2 g3 g4 x0 x1 x2 x3 hdb hdc hD hpl
  generalize pr.funcs[j].code.length = cl at *
  have FNC := Lib.hid fnc; clear fnc
  have PCC := Lib.hid pcc; clear pcc
  have RUNX := Lib.hid RUN; clear RUN
  have NX := Lib.hid nx; clear nx
  have HB1 := Lib.hid hb1; clear hb1
  have HR1 := Lib.hid hr1; clear hr1
  have HR0 := Lib.hid hr0; clear hr0
  have HBO := Lib.hid hbo; clear hbo
  have HCO := Lib.hid hco; clear hco
  have HFLT := Lib.hid hflt; clear hflt
  have HOUT := Lib.hid hout; clear hout
  have HCS := Lib.hid hcs; clear hcs
  unfold stepV at RUNX
  go_enter Tryz.func30, Tryz.ntmps30
  go_upto_region 1 with fail
  rw [← HW.out]
  go_wp2_with fail
  refine NX.out.mono ?_
  rintro e w3 ⟨rfl, hb3⟩
  have hb13 := HB1.out.trans (hb3.mono HB1.out.size)
  have hsz : w.heap.size + 2 ≤ w3.heap.size := Nat.le_trans (heap_lt HR1.out) hb3.size
  have HBD := Lib.hid (fun k => below_drewN hb13 k)
  have hro3 := (Fr.of_below hb3 (fun _ => False)).heap HR0.out (fun h => h)
  have hr3 := (Fr.of_below hb3 (fun _ => False)).heap HR1.out (fun h => h)
  have HRG := Lib.hid (fun k => (Fr.of_below (below_drewN (Below.refl w3.heap.size w3) k) (fun _ => False)).heap hr3 (fun h => h))
  have HSZ := Lib.hid (fun k => Nat.le_trans hsz (below_drewN (Below.refl w3.heap.size w3) k).size)
  have HSG := Lib.hid (show ∀ k, (w3.drewN k).cell? ⟨w.heap.size, 0, none⟩ = some (.slice a0 pr.globals.length m0) ∧ (w3.drewN k).cell? ⟨w.heap.size, 1, none⟩ = some (.slice a1 pr.shapes.length m1) ∧ (w3.drewN k).cell? ⟨w.heap.size, 2, none⟩ = some (.slice (some ⟨bb, o, none⟩) pr.funcs.length m2) ∧ (w3.drewN k).cell? ⟨bb, o + j * 5 + 4, none⟩ = some (.slice (some ⟨cb, co, none⟩) cl cc) ∧ (w3.drewN k).cell? ⟨cb, co + pc * 4, none⟩ = some (.int .i64 i.op) ∧ (w3.drewN k).cell? ⟨cb, co + pc * 4 + 1, none⟩ = some (.int .i64 i.a) ∧ (w3.drewN k).cell? ⟨cb, co + pc * 4 + 2, none⟩ = some (.int .i64 i.b) ∧ (w3.drewN k).cell? ⟨cb, co + pc * 4 + 3, none⟩ = some (.int .i64 i.c) from fun k => by
    have hk := (Fr.of_below (below_drewN (Below.refl w3.heap.size w3) k) (fun _ => False)).heap hro3 (fun h => h)
    exact ⟨(row_cell hk 0).1, (row_cell hk 1).1, (row_cell hk 2).1, HCS.out _ (below_drewN hb13 k)⟩)
  have hSd := HSG.out 1
  rw [show w3.drewN 1 = w3.drew from rfl] at hSd
  have HR0 := Lib.hid (show Below w.heap.size w w3.drew from HBD.out 1)
  have k3 : w3.cell? ⟨w.heap.size, 2, none⟩ = some (.slice (some ⟨bb, o, none⟩) pr.funcs.length m2) := (row_cell hro3 2).1
  clear hb3 hb13 hsz hro3 hr3 NX
  go_upto_region 11 with fail
  clear k3
  go_region_held3 (fun w' => w'.cell? ⟨w.heap.size, 0, none⟩ = some (.slice a0 pr.globals.length m0) ∧ w'.cell? ⟨w.heap.size, 1, none⟩ = some (.slice a1 pr.shapes.length m1) ∧ w'.cell? ⟨w.heap.size, 2, none⟩ = some (.slice (some ⟨bb, o, none⟩) pr.funcs.length m2) ∧ w'.cell? ⟨bb, o + j * 5 + 4, none⟩ = some (.slice (some ⟨cb, co, none⟩) cl cc) ∧ w'.cell? ⟨cb, co + pc * 4, none⟩ = some (.int .i64 i.op) ∧ w'.cell? ⟨cb, co + pc * 4 + 1, none⟩ = some (.int .i64 i.a) ∧ w'.cell? ⟨cb, co + pc * 4 + 2, none⟩ = some (.int .i64 i.b) ∧ w'.cell? ⟨cb, co + pc * 4 + 3, none⟩ = some (.int .i64 i.c)) (first | with_reducible exact HSG.out _ | with_reducible exact hSd | with_reducible exact hS5 | with_reducible exact hS7 | go_keep) (first
    | (go_at_call 38
       refine (FNC.out _ HR0.out).mono ?_
       rintro e w4 ⟨rfl, m, rfl⟩)
    | (go_at_call 31
       refine (PCC.out _ (HBD.out _)).mono ?_
       rintro e w4 ⟨rfl, m', rfl⟩)
    | (go_at_call 69
       refine (RUNX.out _ (HBD.out _)).mono ?_
       rintro e w5 ⟨rfl, F', X', hT', hXD, hF', hf5⟩
       have hlow := HSZ.out (1 + m + m')
       have hr5 := hf5.heap (HRG.out _) (fun e => by have := HFLT.out (w.heap.size + 1) e; omega)
       obtain ⟨u0, u1, u2, u3, u4, u5, u6, u7⟩ := HSG.out (1 + m + m')
       have hS5 := And.intro (hf5.cell u0 (fun e => Nat.lt_irrefl _ (HFLT.out w.heap.size e))) (And.intro (hf5.cell u1 (fun e => Nat.lt_irrefl _ (HFLT.out w.heap.size e))) (And.intro (hf5.cell u2 (fun e => Nat.lt_irrefl _ (HFLT.out w.heap.size e))) (And.intro (hf5.cell u3 HBO.out.1) (And.intro (hf5.cell u4 HCO.out.1) (And.intro (hf5.cell u5 HCO.out.1) (And.intro (hf5.cell u6 HCO.out.1) (hf5.cell u7 HCO.out.1)))))))
       have HFW := Lib.hid ((Fr.of_below (HBD.out (1 + m + m')) F).trans hf5 (fun _ _ h => h))
       have hfs := seven_fr w5 (.int .i64 k) (.int .i64 a) (.int .i64 f) (.int .i64 v) (.int .i64 fn) (.bool b) (.slice r0 r1 r2) (w.heap.size + 1)
       have nz0 : ¬ w.heap.size = w.heap.size + 1 := by omega
       have nz1 : ¬ bb = w.heap.size + 1 := by have := HBO.out.2; omega
       have nz2 : ¬ cb = w.heap.size + 1 := by have := HCO.out.2; omega
       have hS7 := And.intro (hfs.cell hS5.1 nz0) (And.intro (hfs.cell hS5.2.1 nz0) (And.intro (hfs.cell hS5.2.2.1 nz0) (And.intro (hfs.cell hS5.2.2.2.1 nz1) (And.intro (hfs.cell hS5.2.2.2.2.1 nz2) (And.intro (hfs.cell hS5.2.2.2.2.2.1 nz2) (And.intro (hfs.cell hS5.2.2.2.2.2.2.1 nz2) (hfs.cell hS5.2.2.2.2.2.2.2 nz2)))))))
       clear u0 u1 u2 u3 u4 u5 u6 u7 hf5 hfs
       obtain ⟨⟨z0, z1, z2, z3, z4, z5, z6⟩, n0, n1, n2, n3, n4, n5, n6⟩ := seven_cells hr5
       unfold actV))
  all_goals
    have hfs := seven_fr w5 (.int .i64 k) (.int .i64 a) (.int .i64 f) (.int .i64 v) (.int .i64 fn) (.bool b) (.slice r0 r1 r2) (w.heap.size + 1)
    have hrs := seven_row hr5 (.int .i64 k) (.int .i64 a) (.int .i64 f) (.int .i64 v) (.int .i64 fn) (.bool b) (.slice r0 r1 r2)
    have hFz : ∀ q, F' q → q ≠ w.heap.size + 1 := fun q hq e => by
      rcases hF' q hq with h1 | h1
      · have := HFLT.out q h1; omega
      · omega
    have hT5 := hT'.fr hfs (fun q hq e => hFz q hq e) (fun q hq e => by rw [hXD] at hq; have := HOUT.out q hq; have e : q = w.heap.size + 1 := e; omega)
    have hf6 := HFW.out.trans hfs (fun q hq e => by have e : q = w.heap.size + 1 := e; omega)
    have hF6 : ∀ q, F' q → F q ∨ w.heap.size ≤ q := fun q hq => by
      rcases hF' q hq with h1 | h1
      · exact .inl h1
      · exact .inr (by omega)
    have HPP := Lib.hid (show RunPost w F tb p X T' (actV k a f v fn b (.slice r0 r1 r2)) _ _ from ⟨rfl, F', X', hT5, hXD, hF6, hf6⟩)
    clear hfs hr5 hT' hT5 hf6 hF6 hFz hF' hS5 hS7 hXD hlow z0 z1 z2 z3 z4 z5 z6 n0 n1 n2 n3 n4 n5 n6
    have HRS := Lib.hid hrs; clear hrs
    go_wp2_with fail
    refine bodyPost_ret ?_ rfl HPP.out
    have k0 := (row_cell HRS.out 0).1; have k1 := (row_cell HRS.out 1).1; have k2 := (row_cell HRS.out 2).1; have k3 := (row_cell HRS.out 3).1; have k4 := (row_cell HRS.out 4).1; have k5 := (row_cell HRS.out 5).1; have k6 := (row_cell HRS.out 6).1; simp at k0 k1 k2 k3 k4 k5 k6; simp [results, Tryz.results30, go_sem, k0, k1, k2, k3, k4, k5, k6, actV]
end Go.Proofs.YthkhgihjigmkoaaGreat.Tk
namespace Go.Proofs.YthkhgihjigmkoaaGreat.Tk
open Go.ChangeShapes Go.WideShapes Go.ChangeAt Go.RowKit Go.Maps
set_option maxRecDepth 100000 in
set_option maxHeartbeats 3200000 in
theorem run_setInt (w : World) (F : Nat → Prop) (tb : Nat) (p : TPrg) (T : Tk) (X : TB) (h : TaskAt w F tb p T X) (ht : TkOk T) (P : List Part) (q : Part) (hP : T.parts = P ++ [q]) (hq : 0 ≤ q.pc ∧ q.pc ≤ 100000) (j : Nat) (hj : j < p.funcs.length) (hfj : q.fn = j) (bn : Nat) (hbn : q.base = bn) (s : Nat) (hs : (s : Int) < p.funcs[j].slots) (hs2 : s ≤ 3000) (hin : bn + (2 + s) < T.words.length) (c0 c1 c2 mp : Value) (b c : Int) :
    Calls Tryz.prog 69 #[.agg (stepV c0 c1 c2 mp tb 1 s b c)] w (RunPost w F tb p X ⟨T.base, T.words.set (bn + (2 + s)) (wrap32 b), P ++ [⟨q.fn, q.pc + 1, q.base, q.ret, q.ta, q.tn, q.tc⟩], T.marks⟩ (actV 0 0 0 0 0 false (.slice none 0 0))) := by
  have st := fun wr (hw : Below w.heap.size w wr) => stSet_any wr F tb p T X (h.below hw) ht P q hP hq j hj hfj bn hbn s hs hs2 hin (wrap32 b) c0 c1 c2 mp 1 s b c
  have ST := Lib.hid st; clear st
  have hb0 := ((Below.refl w.heap.size w).alloc (Nat.le_refl _) (.cells (stepV c0 c1 c2 mp tb 1 s b c) 124))
  have hb1 := hb0.alloc hb0.size act0
  have hr0 := row_alloc (heap_new w (.cells (stepV c0 c1 c2 mp tb 1 s b c) 124)) act0
  have hr1 := heap_new (w.alloc (.cells (stepV c0 c1 c2 mp tb 1 s b c) 124)) act0
  rw [show (w.alloc (.cells (stepV c0 c1 c2 mp tb 1 s b c) 124)).heap.size = w.heap.size + 1 from by simp] at hr1
  obtain ⟨W, hW⟩ : ∃ W, W = (w.alloc (.cells (stepV c0 c1 c2 mp tb 1 s b c) 124)).alloc act0 := ⟨_, rfl⟩
  rw [← hW] at hb1 hr0 hr1
  have HFLT := Lib.hid h.flt
  have HOUT := Lib.hid (fun k (hk : X.D k) => (h.out k hk).2)
  have hwz : W.heap.size = w.heap.size + 2 := by rw [hW]; simp
  unfold act0 at hW hr1
  unfold stepV at hW hr0
  have HW := Lib.hid hW
  have k4 : W.cell? ⟨w.heap.size, 4, none⟩ = some (.pointer (some ⟨tb, 0, none⟩)) := (row_cell hr0 4).1
  have k5 : W.cell? ⟨w.heap.size, 5, none⟩ = some (.int .i64 1) := (row_cell hr0 5).1
  have k6 : W.cell? ⟨w.heap.size, 6, none⟩ = some (.int .i64 s) := (row_cell hr0 6).1
  have k7 : W.cell? ⟨w.heap.size, 7, none⟩ = some (.int .i64 b) := (row_cell hr0 7).1
  have k8 : W.cell? ⟨w.heap.size, 8, none⟩ = some (.int .i64 c) := (row_cell hr0 8).1
  have HRR := Lib.hid (Below.refl W.heap.size W)
  clear hb0 hW
  have HB1 := Lib.hid hb1; clear hb1
  have HR1 := Lib.hid hr1; clear hr1
  have HR0 := Lib.hid hr0; clear hr0
  have HWZ := Lib.hid hwz; clear hwz
  unfold stepV
  go_enter Tryz.func69, Tryz.ntmps69
  go_upto_region 1 with fail
  rw [← HW.out]
  go_cut [3, 4] (fun x y wx => ∃ z : Nat, x = .pointer (some ⟨z, 0, none⟩) ∧ y = .pointer (some ⟨tb, 0, none⟩) ∧ wx.heap[z]? = some (.cells #[.int .i64 1, .int .i64 s, .int .i64 b, .int .i64 c] 59) ∧ w.heap.size + 2 ≤ z ∧ Below W.heap.size W wx)
  case first =>
    have bs := World.block_lt k4
    dsimp only at bs
    go_region
    all_goals
      go_wp2_with fail
      go_meet
      case rel => exact ⟨_, rfl, rfl, heap_new _ _, by have := HWZ.out; omega, (HRR.out.drew).alloc (HRR.out.size) _⟩
  case rest =>
    obtain ⟨z, rfl, rfl, hz, hzl, hR⟩ := hcut
    have hbc := HB1.out.trans (hR.mono HB1.out.size)
    have hrb := (Fr.of_below hR (fun _ => False)).heap HR0.out (fun h => h)
    have hrc := (Fr.of_below hR (fun _ => False)).heap HR1.out (fun h => h)
    have HBD := Lib.hid (fun k => below_drewN hbc k)
    have HRG := Lib.hid (fun k => (Fr.of_below (below_drewN (Below.refl wc.heap.size wc) k) (fun _ => False)).heap hrc (fun h => h))
    have HSZ := Lib.hid (fun k => Nat.lt_of_lt_of_le (heap_lt hz) (below_drewN (Below.refl wc.heap.size wc) k).size)
    have HSG := Lib.hid (show ∀ k, (wc.drewN k).cell? ⟨w.heap.size, 0, none⟩ = some (c0) ∧ (wc.drewN k).cell? ⟨w.heap.size, 1, none⟩ = some (c1) ∧ (wc.drewN k).cell? ⟨w.heap.size, 2, none⟩ = some (c2) ∧ (wc.drewN k).cell? ⟨w.heap.size, 3, none⟩ = some (mp) ∧ (wc.drewN k).cell? ⟨w.heap.size, 4, none⟩ = some (.pointer (some ⟨tb, 0, none⟩)) ∧ (wc.drewN k).cell? ⟨w.heap.size, 5, none⟩ = some (.int .i64 1) ∧ (wc.drewN k).cell? ⟨w.heap.size, 6, none⟩ = some (.int .i64 s) ∧ (wc.drewN k).cell? ⟨w.heap.size, 7, none⟩ = some (.int .i64 b) ∧ (wc.drewN k).cell? ⟨w.heap.size, 8, none⟩ = some (.int .i64 c) ∧ (wc.drewN k).cell? ⟨z, 0, none⟩ = some (.int .i64 1) ∧ (wc.drewN k).cell? ⟨z, 1, none⟩ = some (.int .i64 s) ∧ (wc.drewN k).cell? ⟨z, 2, none⟩ = some (.int .i64 b) ∧ (wc.drewN k).cell? ⟨z, 3, none⟩ = some (.int .i64 c) from fun k => by
      have g1 := (Fr.of_below (below_drewN (Below.refl wc.heap.size wc) k) (fun _ => False)).heap hrb (fun h => h)
      have g2 := (Fr.of_below (below_drewN (Below.refl wc.heap.size wc) k) (fun _ => False)).heap hz (fun h => h)
      exact ⟨(row_cell g1 0).1, (row_cell g1 1).1, (row_cell g1 2).1, (row_cell g1 3).1, (row_cell g1 4).1, (row_cell g1 5).1, (row_cell g1 6).1, (row_cell g1 7).1, (row_cell g1 8).1, (row_cell g2 0).1, (row_cell g2 1).1, (row_cell g2 2).1, (row_cell g2 3).1⟩)
    have hSd := HSG.out 1
    rw [show wc.drewN 1 = wc.drew from rfl] at hSd
    have z0 : wc.cell? ⟨z, 0, none⟩ = some (.int .i64 1) := (row_cell hz 0).1
    clear hR hrb hrc hz k4 k5 k6 k7 k8 hbc
    go_upto_region 4 with fail
    go_region_held3 (fun w' => w'.cell? ⟨w.heap.size, 0, none⟩ = some (c0) ∧ w'.cell? ⟨w.heap.size, 1, none⟩ = some (c1) ∧ w'.cell? ⟨w.heap.size, 2, none⟩ = some (c2) ∧ w'.cell? ⟨w.heap.size, 3, none⟩ = some (mp) ∧ w'.cell? ⟨w.heap.size, 4, none⟩ = some (.pointer (some ⟨tb, 0, none⟩)) ∧ w'.cell? ⟨w.heap.size, 5, none⟩ = some (.int .i64 1) ∧ w'.cell? ⟨w.heap.size, 6, none⟩ = some (.int .i64 s) ∧ w'.cell? ⟨w.heap.size, 7, none⟩ = some (.int .i64 b) ∧ w'.cell? ⟨w.heap.size, 8, none⟩ = some (.int .i64 c) ∧ w'.cell? ⟨z, 0, none⟩ = some (.int .i64 1) ∧ w'.cell? ⟨z, 1, none⟩ = some (.int .i64 s) ∧ w'.cell? ⟨z, 2, none⟩ = some (.int .i64 b) ∧ w'.cell? ⟨z, 3, none⟩ = some (.int .i64 c)) (first | with_reducible exact HSG.out _ | with_reducible exact hSd | with_reducible exact hS5 | with_reducible exact hS7 | go_keep) (first
      | (go_at_call 96
         refine (of_any _ _).mono ?_
         rintro e w4 ⟨rfl, rfl⟩)
      | (go_at_call 70
         refine (ST.out _ (HBD.out 1)).mono ?_
         rintro e w5 ⟨rfl, hT5, hf5⟩
         have hlow := HSZ.out 1
         have hr5 := hf5.heap (HRG.out 1) (fun e => by have := HFLT.out (w.heap.size + 1) e; omega)
         have hS6 := HSG.out 1
         have hS5 := And.intro (hf5.cell hS6.1 (fun e => Nat.lt_irrefl _ (HFLT.out w.heap.size e))) (And.intro (hf5.cell hS6.2.1 (fun e => Nat.lt_irrefl _ (HFLT.out w.heap.size e))) (And.intro (hf5.cell hS6.2.2.1 (fun e => Nat.lt_irrefl _ (HFLT.out w.heap.size e))) (And.intro (hf5.cell hS6.2.2.2.1 (fun e => Nat.lt_irrefl _ (HFLT.out w.heap.size e))) (And.intro (hf5.cell hS6.2.2.2.2.1 (fun e => Nat.lt_irrefl _ (HFLT.out w.heap.size e))) (And.intro (hf5.cell hS6.2.2.2.2.2.1 (fun e => Nat.lt_irrefl _ (HFLT.out w.heap.size e))) (And.intro (hf5.cell hS6.2.2.2.2.2.2.1 (fun e => Nat.lt_irrefl _ (HFLT.out w.heap.size e))) (And.intro (hf5.cell hS6.2.2.2.2.2.2.2.1 (fun e => Nat.lt_irrefl _ (HFLT.out w.heap.size e))) (And.intro (hf5.cell hS6.2.2.2.2.2.2.2.2.1 (fun e => Nat.lt_irrefl _ (HFLT.out w.heap.size e))) (And.intro (hf5.cell hS6.2.2.2.2.2.2.2.2.2.1 (fun e => by have := HFLT.out z e; omega)) (And.intro (hf5.cell hS6.2.2.2.2.2.2.2.2.2.2.1 (fun e => by have := HFLT.out z e; omega)) (And.intro (hf5.cell hS6.2.2.2.2.2.2.2.2.2.2.2.1 (fun e => by have := HFLT.out z e; omega)) (hf5.cell hS6.2.2.2.2.2.2.2.2.2.2.2.2 (fun e => by have := HFLT.out z e; omega)))))))))))))
         have HFW := Lib.hid ((Fr.of_below (HBD.out 1) F).trans hf5 (fun _ _ h => h))
         have hfs := seven_fr w5 (.int .i64 0) (.int .i64 0) (.int .i64 0) (.int .i64 0) (.int .i64 0) (.bool false) (.slice none 0 0) (w.heap.size + 1)
         have nz0 : ¬ w.heap.size = w.heap.size + 1 := by omega
         have nz1 : ¬ z = w.heap.size + 1 := by omega
         have hS7 := And.intro (hfs.cell hS5.1 nz0) (And.intro (hfs.cell hS5.2.1 nz0) (And.intro (hfs.cell hS5.2.2.1 nz0) (And.intro (hfs.cell hS5.2.2.2.1 nz0) (And.intro (hfs.cell hS5.2.2.2.2.1 nz0) (And.intro (hfs.cell hS5.2.2.2.2.2.1 nz0) (And.intro (hfs.cell hS5.2.2.2.2.2.2.1 nz0) (And.intro (hfs.cell hS5.2.2.2.2.2.2.2.1 nz0) (And.intro (hfs.cell hS5.2.2.2.2.2.2.2.2.1 nz0) (And.intro (hfs.cell hS5.2.2.2.2.2.2.2.2.2.1 nz1) (And.intro (hfs.cell hS5.2.2.2.2.2.2.2.2.2.2.1 nz1) (And.intro (hfs.cell hS5.2.2.2.2.2.2.2.2.2.2.2.1 nz1) (hfs.cell hS5.2.2.2.2.2.2.2.2.2.2.2.2 nz1))))))))))))
         clear hS6 hf5 hfs
         obtain ⟨⟨z0, z1, z2, z3, z4, z5, z6⟩, n0, n1, n2, n3, n4, n5, n6⟩ := seven_cells hr5
         unfold actV
         skip))
    all_goals
      have hfs := seven_fr w5 (.int .i64 0) (.int .i64 0) (.int .i64 0) (.int .i64 0) (.int .i64 0) (.bool false) (.slice none 0 0) (w.heap.size + 1)
      have hrs := seven_row hr5 (.int .i64 0) (.int .i64 0) (.int .i64 0) (.int .i64 0) (.int .i64 0) (.bool false) (.slice none 0 0)
      have hT6 := hT5.fr hfs (fun q hq e => by have := HFLT.out q hq; have e : q = w.heap.size + 1 := e; omega) (fun q hq e => by have := HOUT.out q hq; have e : q = w.heap.size + 1 := e; omega)
      have hf6 := HFW.out.trans hfs (fun q hq e => by have e : q = w.heap.size + 1 := e; omega)
      have HPP := Lib.hid (show RunPost w F tb p X _ (actV 0 0 0 0 0 false (.slice none 0 0)) _ _ from ⟨rfl, F, X, hT6, rfl, fun _ h => .inl h, hf6⟩)
      clear hfs hr5 hT5 hT6 hf6 hS5 hS7 hlow z0 z1 z2 z3 z4 z5 z6 n0 n1 n2 n3 n4 n5 n6
      have HRS := Lib.hid hrs; clear hrs
      go_wp2_with fail
      refine bodyPost_ret ?_ rfl HPP.out
      have k0 := (row_cell HRS.out 0).1; have k1 := (row_cell HRS.out 1).1; have k2 := (row_cell HRS.out 2).1; have k3 := (row_cell HRS.out 3).1; have k4 := (row_cell HRS.out 4).1; have k5 := (row_cell HRS.out 5).1; have k6 := (row_cell HRS.out 6).1; simp at k0 k1 k2 k3 k4 k5 k6; simp [results, Tryz.results69, go_sem, k0, k1, k2, k3, k4, k5, k6, actV]
end Go.Proofs.YthkhgihjigmkoaaGreat.Tk
namespace Go.Proofs.YthkhgihjigmkoaaGreat.Tk
open Go.ChangeShapes Go.WideShapes Go.ChangeAt Go.RowKit Go.Maps
theorem TkOk.goto {T : Tk} (h : TkOk T) {P : List Part} {q : Part} (hP : T.parts = P ++ [q]) (pc : Int) : TkOk ⟨T.base, T.words, P ++ [⟨q.fn, pc, q.base, q.ret, q.ta, q.tn, q.tc⟩], T.marks⟩ := by
  obtain ⟨h1, h2, h3, h4⟩ := h
  rw [hP] at h1 h4
  refine ⟨by simpa using h1, h2, h3, fun x hx => ?_⟩
  rcases List.mem_append.1 hx with h5 | h5
  · exact h4 x (List.mem_append.2 (.inl h5))
  · simp at h5
    rw [h5]
    exact h4 q (List.mem_append.2 (.inr (List.mem_singleton.2 rfl)))
set_option maxRecDepth 100000 in
set_option maxHeartbeats 3200000 in
theorem run_output (w : World) (F : Nat → Prop) (tb : Nat) (p : TPrg) (T : Tk) (X : TB) (h : TaskAt w F tb p T X) (ht : TkOk T) (P : List Part) (q : Part) (hP : T.parts = P ++ [q]) (hq : 0 ≤ q.pc ∧ q.pc ≤ 100000) (j : Nat) (hj : j < p.funcs.length) (hfj : q.fn = j) (bn : Nat) (hbn : q.base = bn) (sa : Nat) (hs : (sa : Int) < p.funcs[j].slots) (hs2 : sa ≤ 3000) (hin : bn + (2 + sa) < T.words.length) (x : Int) (hx : T.words[bn + (2 + sa)]? = some x) (c0 c1 c2 mp : Value) (b c : Int) :
    Calls Tryz.prog 69 #[.agg (stepV c0 c1 c2 mp tb 29 sa b c)] w (RunPost w F tb p X ⟨T.base, T.words, P ++ [⟨q.fn, q.pc + 1, q.base, q.ret, q.ta, q.tn, q.tc⟩], T.marks⟩ (actV 2 0 0 x 0 false (.slice none 0 0))) := by
  have onc := fun wr (hw : Below w.heap.size w wr) => on_any wr F tb p T X (h.below hw) ht.1 P q hP hq c0 c1 c2 mp 29 sa b c
  have hok := ht.goto hP (q.pc + 1)
  obtain ⟨T', hT'⟩ : ∃ T', T' = (⟨T.base, T.words, P ++ [⟨q.fn, q.pc + 1, q.base, q.ret, q.ta, q.tn, q.tc⟩], T.marks⟩ : Tk) := ⟨_, rfl⟩
  have hl : T'.parts.length = P.length + 1 := by rw [hT']; simp
  have e0 : (T'.parts[P.length]'(by omega)).fn = j ∧ (T'.parts[P.length]'(by omega)).base = bn := by
    subst hT'
    simp
    exact ⟨hfj, hbn⟩
  have hwT : T'.words = T.words := by rw [hT']
  rw [← hT'] at onc hok ⊢
  have sl := fun wr (hw : TaskAt wr F tb p T' X) => slot_in wr F tb p T' X hw hok P.length hl j hj e0.1 bn e0.2 sa hs hs2 (by rw [hwT]; exact hin)
  rw [← hwT] at hx
  rw [List.getElem?_eq_getElem (by rw [hwT]; exact hin)] at hx
  injection hx with hx
  rw [hx] at sl
  clear hl e0 hs hin hx hwT hT' hok
  have ON := Lib.hid onc; clear onc
  have SL := Lib.hid sl; clear sl
  have hb0 := ((Below.refl w.heap.size w).alloc (Nat.le_refl _) (.cells (stepV c0 c1 c2 mp tb 29 sa b c) 124))
  have hb1 := hb0.alloc hb0.size act0
  have hr0 := row_alloc (heap_new w (.cells (stepV c0 c1 c2 mp tb 29 sa b c) 124)) act0
  have hr1 := heap_new (w.alloc (.cells (stepV c0 c1 c2 mp tb 29 sa b c) 124)) act0
  rw [show (w.alloc (.cells (stepV c0 c1 c2 mp tb 29 sa b c) 124)).heap.size = w.heap.size + 1 from by simp] at hr1
  obtain ⟨W, hW⟩ : ∃ W, W = (w.alloc (.cells (stepV c0 c1 c2 mp tb 29 sa b c) 124)).alloc act0 := ⟨_, rfl⟩
  rw [← hW] at hb1 hr0 hr1
  have HFLT := Lib.hid h.flt
  have HOUT := Lib.hid (fun k (hk : X.D k) => (h.out k hk).2)
  have hwz : W.heap.size = w.heap.size + 2 := by rw [hW]; simp
  unfold act0 at hW hr1
  unfold stepV at hW hr0
  have HW := Lib.hid hW
  have k4 : W.cell? ⟨w.heap.size, 4, none⟩ = some (.pointer (some ⟨tb, 0, none⟩)) := (row_cell hr0 4).1
  have k5 : W.cell? ⟨w.heap.size, 5, none⟩ = some (.int .i64 29) := (row_cell hr0 5).1
  have k6 : W.cell? ⟨w.heap.size, 6, none⟩ = some (.int .i64 sa) := (row_cell hr0 6).1
  have k7 : W.cell? ⟨w.heap.size, 7, none⟩ = some (.int .i64 b) := (row_cell hr0 7).1
  have k8 : W.cell? ⟨w.heap.size, 8, none⟩ = some (.int .i64 c) := (row_cell hr0 8).1
  have HRR := Lib.hid (Below.refl W.heap.size W)
  clear hb0 hW
  have HB1 := Lib.hid hb1; clear hb1
  have HR1 := Lib.hid hr1; clear hr1
  have HR0 := Lib.hid hr0; clear hr0
  have HWZ := Lib.hid hwz; clear hwz
  unfold stepV
  go_enter Tryz.func69, Tryz.ntmps69
  go_upto_region 1 with fail
  rw [← HW.out]
  go_cut [3, 4] (fun x y wx => ∃ z : Nat, x = .pointer (some ⟨z, 0, none⟩) ∧ y = .pointer (some ⟨tb, 0, none⟩) ∧ wx.heap[z]? = some (.cells #[.int .i64 29, .int .i64 sa, .int .i64 b, .int .i64 c] 59) ∧ w.heap.size + 2 ≤ z ∧ Below W.heap.size W wx)
  case first =>
    have bs := World.block_lt k4
    dsimp only at bs
    go_region
    all_goals
      go_wp2_with fail
      go_meet
      case rel => exact ⟨_, rfl, rfl, heap_new _ _, by have := HWZ.out; omega, (HRR.out.drew).alloc (HRR.out.size) _⟩
  case rest =>
    obtain ⟨z, rfl, rfl, hz, hzl, hR⟩ := hcut
    have hbc := HB1.out.trans (hR.mono HB1.out.size)
    have hrb := (Fr.of_below hR (fun _ => False)).heap HR0.out (fun h => h)
    have hrc := (Fr.of_below hR (fun _ => False)).heap HR1.out (fun h => h)
    have HBC := Lib.hid hbc
    have HRW := Lib.hid (fun wx (hw : Below wc.heap.size wc wx) => (Fr.of_below hw (fun _ => False)).heap hrc (fun h => h))
    have HSS := Lib.hid (show ∀ wx, Below wc.heap.size wc wx → wx.cell? ⟨w.heap.size, 0, none⟩ = some (c0) ∧ wx.cell? ⟨w.heap.size, 1, none⟩ = some (c1) ∧ wx.cell? ⟨w.heap.size, 2, none⟩ = some (c2) ∧ wx.cell? ⟨w.heap.size, 3, none⟩ = some (mp) ∧ wx.cell? ⟨w.heap.size, 4, none⟩ = some (.pointer (some ⟨tb, 0, none⟩)) ∧ wx.cell? ⟨w.heap.size, 5, none⟩ = some (.int .i64 29) ∧ wx.cell? ⟨w.heap.size, 6, none⟩ = some (.int .i64 sa) ∧ wx.cell? ⟨w.heap.size, 7, none⟩ = some (.int .i64 b) ∧ wx.cell? ⟨w.heap.size, 8, none⟩ = some (.int .i64 c) ∧ wx.cell? ⟨z, 0, none⟩ = some (.int .i64 29) ∧ wx.cell? ⟨z, 1, none⟩ = some (.int .i64 sa) ∧ wx.cell? ⟨z, 2, none⟩ = some (.int .i64 b) ∧ wx.cell? ⟨z, 3, none⟩ = some (.int .i64 c) from fun wx hw => by
      have g1 := (Fr.of_below hw (fun _ => False)).heap hrb (fun h => h)
      have g2 := (Fr.of_below hw (fun _ => False)).heap hz (fun h => h)
      exact ⟨(row_cell g1 0).1, (row_cell g1 1).1, (row_cell g1 2).1, (row_cell g1 3).1, (row_cell g1 4).1, (row_cell g1 5).1, (row_cell g1 6).1, (row_cell g1 7).1, (row_cell g1 8).1, (row_cell g2 0).1, (row_cell g2 1).1, (row_cell g2 2).1, (row_cell g2 3).1⟩)
    have hSd := HSS.out wc.drew (Below.refl wc.heap.size wc).drew
    have HRC := Lib.hid (Below.refl wc.heap.size wc)
    have HRD := Lib.hid (Below.refl wc.heap.size wc).drew
    have z0 : wc.cell? ⟨z, 0, none⟩ = some (.int .i64 29) := (row_cell hz 0).1
    clear hR hrb hrc hz k4 k5 k6 k7 k8 hbc
    obtain ⟨k0, k1, k2, k3, k4, k5, k6, k7, k8, _⟩ := HSS.out _ HRC.out
    have onw := ON.out _ HBC.out
    unfold stepV at onw
    clear hSd
    have ONW := Lib.hid onw; clear onw
    go_upto_region 38 with fail
    go_wp2_with fail
    refine ONW.out.mono ?_
    rintro e w5 ⟨rfl, hT5, hf5⟩
    have z1 := hf5.cell (HSS.out _ HRC.out).2.2.2.2.2.2.2.2.2.2.1 (fun e => by have := HFLT.out z e; omega)
    have hr5 := hf5.heap (HRW.out _ HRC.out) (fun e => by have := HFLT.out (w.heap.size + 1) e; omega)
    have hfw := (Fr.of_below HBC.out F).trans hf5 (fun _ _ h => h)
    have hsz5 := Nat.le_trans HBC.out.size hf5.size
    have slw := SL.out _ hT5
    clear k0 k1 k2 k3 k4 k5 k6 k7 k8 hf5
    have SLW := Lib.hid slw; clear slw
    have HT5 := Lib.hid hT5; clear hT5
    have HFW := Lib.hid hfw; clear hfw
    have HR5 := Lib.hid hr5; clear hr5
    go_wp2_with fail
    refine SLW.out.mono ?_
    rintro e w6 ⟨rfl, hb6⟩
    have hr6 := (Fr.of_below hb6 (fun _ => False)).heap HR5.out (fun h => h)
    have hT6 := HT5.out.below hb6
    have hfw6 := HFW.out.trans (Fr.of_below hb6 F) (fun _ _ h => h)
    clear hb6
    obtain ⟨⟨u0, u1, u2, u3, u4, u5, u6⟩, n0, n1, n2, n3, n4, n5, n6⟩ := seven_cells hr6
    have hfs := seven_fr w6 (.int .i64 2) (.int .i64 0) (.int .i64 0) (.int .i64 x) (.int .i64 0) (.bool false) (.slice none 0 0) (w.heap.size + 1)
    have hrs := seven_row hr6 (.int .i64 2) (.int .i64 0) (.int .i64 0) (.int .i64 x) (.int .i64 0) (.bool false) (.slice none 0 0)
    have hT7 := hT6.fr hfs (fun q hq e => by have := HFLT.out q hq; have e : q = w.heap.size + 1 := e; omega) (fun q hq e => by have := HOUT.out q hq; have e : q = w.heap.size + 1 := e; omega)
    have hf7 := hfw6.trans hfs (fun q hq e => by have e : q = w.heap.size + 1 := e; omega)
    have HPP := Lib.hid (show RunPost w F tb p X _ (actV 2 0 0 x 0 false (.slice none 0 0)) _ _ from ⟨rfl, F, X, hT7, rfl, fun _ h => .inl h, hf7⟩)
    clear hfs hr6 hT6 hT7 hfw6 hf7
    have HRS := Lib.hid hrs; clear hrs
    go_wp2_with fail
    refine bodyPost_ret ?_ rfl HPP.out
    have k0 := (row_cell HRS.out 0).1; have k1 := (row_cell HRS.out 1).1; have k2 := (row_cell HRS.out 2).1; have k3 := (row_cell HRS.out 3).1; have k4 := (row_cell HRS.out 4).1; have k5 := (row_cell HRS.out 5).1; have k6 := (row_cell HRS.out 6).1; simp at k0 k1 k2 k3 k4 k5 k6; simp [results, Tryz.results69, go_sem, k0, k1, k2, k3, k4, k5, k6, actV]
end Go.Proofs.YthkhgihjigmkoaaGreat.Tk
namespace Go.Proofs.YthkhgihjigmkoaaGreat.Tk
open Go.ChangeShapes Go.WideShapes Go.ChangeAt Go.RowKit Go.Maps
def p1 : TPrg := ⟨[2], [⟨0, 3, [0]⟩, ⟨2, 3, [0]⟩]⟩
end Go.Proofs.YthkhgihjigmkoaaGreat.Tk
