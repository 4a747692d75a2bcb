import Derived.Test.YthkhgihjigmkoaaGreatCAu
import Derived.Test.YthkhgihjigmkoaaGreatCAn
import Derived.Test.YthkhgihjigmkoaaGreatCAh
import Derived.Test.YthkhgihjigmkoaaGreatCAc
import Derived.BigRegion
import Derived.Test.YthkhgihjigmkoaaGreatCAf
set_option linter.unusedVariables false
set_option linter.unusedSimpArgs false
namespace Go.Proofs.YthkhgihjigmkoaaGreat.Tk
open Go.ChangeShapes Go.WideShapes Go.ChangeAt Go.RowKit Go.Maps
theorem TkOk.goto {T : Tk} (h : TkOk T) {P : List Part} {q : Part} (hP : T.parts = P ++ [q]) (pc : Int) : TkOk ⟨T.base, T.words, P ++ [⟨q.fn, pc, q.base, q.ret, q.ta, q.tn, q.tc⟩], T.marks⟩ := by
 obtain ⟨h1, h2, h3, h4⟩ := h
 rw [hP] at h1 h4
 refine ⟨by simpa using h1, h2, h3, fun x hx => ?_⟩
 rcases List.mem_append.1 hx with h5 | h5
 ·exact h4 x (List.mem_append.2 (.inl h5))
 ·simp at h5
  rw [h5]
  exact h4 q (List.mem_append.2 (.inr (List.mem_singleton.2 rfl)))
set_option maxRecDepth 100000 in
set_option maxHeartbeats 3200000 in
theorem run_output (w : World) (F : Nat → Prop) (tb : Nat) (p : TPrg) (T : Tk) (X : TB) (h : TaskAt w F tb p T X) (ht : TkOk T) (P : List Part) (q : Part) (hP : T.parts = P ++ [q]) (hq : 0 ≤ q.pc ∧ q.pc ≤ 100000) (j : Nat) (hj : j < p.funcs.length) (hfj : q.fn = j) (bn : Nat) (hbn : q.base = bn) (sa : Nat) (hs : (sa : Int) < p.funcs[j].slots) (hs2 : sa ≤ 3000) (hin : bn + (2 + sa) < T.words.length) (x : Int) (hx : T.words[bn + (2 + sa)]? = some x) (c0 c1 c2 mp : Value) (b c : Int) :
  Calls Tryz.prog 69 #[.agg (stepV c0 c1 c2 mp tb 29 sa b c)] w (RunPost w F tb p X ⟨T.base, T.words, P ++ [⟨q.fn, q.pc + 1, q.base, q.ret, q.ta, q.tn, q.tc⟩], T.marks⟩ (actV 2 0 0 x 0 false (.slice none 0 0))) := by
 have onc := fun wr (hw : Below w.heap.size w wr) => on_any wr F tb p T X (h.below hw) ht.1 P q hP hq c0 c1 c2 mp 29 sa b c
 have hok := ht.goto hP (q.pc + 1)
 obtain ⟨T', hT'⟩ : ∃ T', T' = (⟨T.base, T.words, P ++ [⟨q.fn, q.pc + 1, q.base, q.ret, q.ta, q.tn, q.tc⟩], T.marks⟩ : Tk) := ⟨_, rfl⟩
 have hl : T'.parts.length = P.length + 1 := by rw [hT']; simp
 have e0 : (T'.parts[P.length]'(by omega)).fn = j ∧ (T'.parts[P.length]'(by omega)).base = bn := by
  subst hT'
  simp
  exact ⟨hfj, hbn⟩
 have hwT : T'.words = T.words := by rw [hT']
 rw [← hT'] at onc hok ⊢
 have sl := fun wr (hw : TaskAt wr F tb p T' X) => slot_in wr F tb p T' X hw hok P.length hl j hj e0.1 bn e0.2 sa hs hs2 (by rw [hwT]; exact hin)
 rw [← hwT] at hx
 rw [List.getElem?_eq_getElem (by rw [hwT]; exact hin)] at hx
 injection hx with hx
 rw [hx] at sl
 clear hl e0 hs hin hx hwT hT' hok
 have ON := Lib.hid onc; clear onc
 have SL := Lib.hid sl; clear sl
 have hb0 := ((Below.refl w.heap.size w).alloc (Nat.le_refl _) (.cells (stepV c0 c1 c2 mp tb 29 sa b c) 124))
 have hb1 := hb0.alloc hb0.size act0
 have hr0 := row_alloc (heap_new w (.cells (stepV c0 c1 c2 mp tb 29 sa b c) 124)) act0
 have hr1 := heap_new (w.alloc (.cells (stepV c0 c1 c2 mp tb 29 sa b c) 124)) act0
 rw [show (w.alloc (.cells (stepV c0 c1 c2 mp tb 29 sa b c) 124)).heap.size = w.heap.size + 1 from by simp] at hr1
 obtain ⟨W, hW⟩ : ∃ W, W = (w.alloc (.cells (stepV c0 c1 c2 mp tb 29 sa b c) 124)).alloc act0 := ⟨_, rfl⟩
 rw [← hW] at hb1 hr0 hr1
 have HFLT := Lib.hid h.flt
 have HOUT := Lib.hid (fun k (hk : X.D k) => (h.out k hk).2)
 have hwz : W.heap.size = w.heap.size + 2 := by rw [hW]; simp
 unfold act0 at hW hr1
 unfold stepV at hW hr0
 have HW := Lib.hid hW
 have k4 : W.cell? ⟨w.heap.size, 4, none⟩ = some (.pointer (some ⟨tb, 0, none⟩)) := (row_cell hr0 4).1
 have k5 : W.cell? ⟨w.heap.size, 5, none⟩ = some (.int .i64 29) := (row_cell hr0 5).1
 have k6 : W.cell? ⟨w.heap.size, 6, none⟩ = some (.int .i64 sa) := (row_cell hr0 6).1
 have k7 : W.cell? ⟨w.heap.size, 7, none⟩ = some (.int .i64 b) := (row_cell hr0 7).1
 have k8 : W.cell? ⟨w.heap.size, 8, none⟩ = some (.int .i64 c) := (row_cell hr0 8).1
 have HRR := Lib.hid (Below.refl W.heap.size W)
 clear hb0 hW
 have HB1 := Lib.hid hb1; clear hb1
 have HR1 := Lib.hid hr1; clear hr1
 have HR0 := Lib.hid hr0; clear hr0
 have HWZ := Lib.hid hwz; clear hwz
 unfold stepV
 go_enter Tryz.func69, Tryz.ntmps69
 go_upto_region 1 with fail
 rw [← HW.out]
 go_cut [3, 4] (fun x y wx => ∃ z : Nat, x = .pointer (some ⟨z, 0, none⟩) ∧ y = .pointer (some ⟨tb, 0, none⟩) ∧ wx.heap[z]? = some (.cells #[.int .i64 29, .int .i64 sa, .int .i64 b, .int .i64 c] 59) ∧ w.heap.size + 2 ≤ z ∧ Below W.heap.size W wx)
 case first =>
  have bs := World.block_lt k4
  dsimp only at bs
  go_region
  all_goals
   go_wp2_with fail
   go_meet
   case rel => exact ⟨_, rfl, rfl, heap_new _ _, by have := HWZ.out; omega, (HRR.out.drew).alloc (HRR.out.size) _⟩
 case rest =>
  obtain ⟨z, rfl, rfl, hz, hzl, hR⟩ := hcut
  have hbc := HB1.out.trans (hR.mono HB1.out.size)
  have hrb := (Fr.of_below hR (fun _ => False)).heap HR0.out (fun h => h)
  have hrc := (Fr.of_below hR (fun _ => False)).heap HR1.out (fun h => h)
  have HBC := Lib.hid hbc
  have HRW := Lib.hid (fun wx (hw : Below wc.heap.size wc wx) => (Fr.of_below hw (fun _ => False)).heap hrc (fun h => h))
  have HSS := Lib.hid (show ∀ wx, Below wc.heap.size wc wx → wx.cell? ⟨w.heap.size, 0, none⟩ = some (c0) ∧ wx.cell? ⟨w.heap.size, 1, none⟩ = some (c1) ∧ wx.cell? ⟨w.heap.size, 2, none⟩ = some (c2) ∧ wx.cell? ⟨w.heap.size, 3, none⟩ = some (mp) ∧ wx.cell? ⟨w.heap.size, 4, none⟩ = some (.pointer (some ⟨tb, 0, none⟩)) ∧ wx.cell? ⟨w.heap.size, 5, none⟩ = some (.int .i64 29) ∧ wx.cell? ⟨w.heap.size, 6, none⟩ = some (.int .i64 sa) ∧ wx.cell? ⟨w.heap.size, 7, none⟩ = some (.int .i64 b) ∧ wx.cell? ⟨w.heap.size, 8, none⟩ = some (.int .i64 c) ∧ wx.cell? ⟨z, 0, none⟩ = some (.int .i64 29) ∧ wx.cell? ⟨z, 1, none⟩ = some (.int .i64 sa) ∧ wx.cell? ⟨z, 2, none⟩ = some (.int .i64 b) ∧ wx.cell? ⟨z, 3, none⟩ = some (.int .i64 c) from fun wx hw => by
   have g1 := (Fr.of_below hw (fun _ => False)).heap hrb (fun h => h)
   have g2 := (Fr.of_below hw (fun _ => False)).heap hz (fun h => h)
   exact ⟨(row_cell g1 0).1, (row_cell g1 1).1, (row_cell g1 2).1, (row_cell g1 3).1, (row_cell g1 4).1, (row_cell g1 5).1, (row_cell g1 6).1, (row_cell g1 7).1, (row_cell g1 8).1, (row_cell g2 0).1, (row_cell g2 1).1, (row_cell g2 2).1, (row_cell g2 3).1⟩)
  have hSd := HSS.out wc.drew (Below.refl wc.heap.size wc).drew
  have HRC := Lib.hid (Below.refl wc.heap.size wc)
  have HRD := Lib.hid (Below.refl wc.heap.size wc).drew
  have z0 : wc.cell? ⟨z, 0, none⟩ = some (.int .i64 29) := (row_cell hz 0).1
  clear hR hrb hrc hz k4 k5 k6 k7 k8 hbc
  obtain ⟨k0, k1, k2, k3, k4, k5, k6, k7, k8, _⟩ := HSS.out _ HRC.out
  have onw := ON.out _ HBC.out
  unfold stepV at onw
  clear hSd
  have ONW := Lib.hid onw; clear onw
  go_upto_region 38 with fail
  go_wp2_with fail
  refine ONW.out.mono ?_
  rintro e w5 ⟨rfl, hT5, hf5⟩
  have z1 := hf5.cell (HSS.out _ HRC.out).2.2.2.2.2.2.2.2.2.2.1 (fun e => by have := HFLT.out z e; omega)
  have hr5 := hf5.heap (HRW.out _ HRC.out) (fun e => by have := HFLT.out (w.heap.size + 1) e; omega)
  have hfw := (Fr.of_below HBC.out F).trans hf5 (fun _ _ h => h)
  have hsz5 := Nat.le_trans HBC.out.size hf5.size
  have slw := SL.out _ hT5
  clear k0 k1 k2 k3 k4 k5 k6 k7 k8 hf5
  have SLW := Lib.hid slw; clear slw
  have HT5 := Lib.hid hT5; clear hT5
  have HFW := Lib.hid hfw; clear hfw
  have HR5 := Lib.hid hr5; clear hr5
  go_wp2_with fail
  refine SLW.out.mono ?_
  rintro e w6 ⟨rfl, hb6⟩
  have hr6 := (Fr.of_below hb6 (fun _ => False)).heap HR5.out (fun h => h)
  have hT6 := HT5.out.below hb6
  have hfw6 := HFW.out.trans (Fr.of_below hb6 F) (fun _ _ h => h)
  clear hb6
  obtain ⟨⟨u0, u1, u2, u3, u4, u5, u6⟩, n0, n1, n2, n3, n4, n5, n6⟩ := seven_cells hr6
  have hfs := seven_fr w6 (.int .i64 2) (.int .i64 0) (.int .i64 0) (.int .i64 x) (.int .i64 0) (.bool false) (.slice none 0 0) (w.heap.size + 1)
  have hrs := seven_row hr6 (.int .i64 2) (.int .i64 0) (.int .i64 0) (.int .i64 x) (.int .i64 0) (.bool false) (.slice none 0 0)
  have hT7 := hT6.fr hfs (fun q hq e => by have := HFLT.out q hq; have e : q = w.heap.size + 1 := e; omega) (fun q hq e => by have := HOUT.out q hq; have e : q = w.heap.size + 1 := e; omega)
  have hf7 := hfw6.trans hfs (fun q hq e => by have e : q = w.heap.size + 1 := e; omega)
  have HPP := Lib.hid (show RunPost w F tb p X _ (actV 2 0 0 x 0 false (.slice none 0 0)) _ _ from ⟨rfl, F, X, hT7, ⟨rfl, rfl, rfl, rfl⟩, fun _ h => .inl h, hf7⟩)
  clear hfs hr6 hT6 hT7 hfw6 hf7
  have HRS := Lib.hid hrs; clear hrs
  go_wp2_with fail
  refine bodyPost_ret ?_ rfl HPP.out
  have k0 := (row_cell HRS.out 0).1; have k1 := (row_cell HRS.out 1).1; have k2 := (row_cell HRS.out 2).1; have k3 := (row_cell HRS.out 3).1; have k4 := (row_cell HRS.out 4).1; have k5 := (row_cell HRS.out 5).1; have k6 := (row_cell HRS.out 6).1; simp at k0 k1 k2 k3 k4 k5 k6; simp [results, Tryz.results69, go_sem, k0, k1, k2, k3, k4, k5, k6, actV]
end Go.Proofs.YthkhgihjigmkoaaGreat.Tk
namespace Go.Proofs.YthkhgihjigmkoaaGreat.Tk
open Go.ChangeShapes Go.WideShapes Go.ChangeAt Go.RowKit Go.Maps
def p1 : TPrg := ⟨[2], [⟨0, 3, [0]⟩, ⟨2, 3, [0]⟩]⟩
end Go.Proofs.YthkhgihjigmkoaaGreat.Tk
namespace Go.Proofs.YthkhgihjigmkoaaGreat
open Go.ChangeShapes Go.WideShapes Go.ChangeAt Go.RowKit Go.Maps
abbrev Pl := { x : Int × Int // i64B x.1 ∧ i64B x.2 }
def cF (fn : Int) (C : List Ins) (k : Nat) (x : Pl) : Option Ins := if x.1.1 = fn ∧ 0 ≤ x.1.2 ∧ x.1.2 < k then C[x.1.2.toNat]? else none
def codeOf (p : Prg) (fn : Int) : List Ins := if withinB fn p.funcs.length = true then ((p.funcs[fn.toNat]?).map Fun.code).getD [] else []
theorem cF_zero (fn : Int) (C : List Ins) (x : Pl) : (none : Option Ins) = cF fn C 0 x := by
 unfold cF
 rw [if_neg (by omega)]
theorem cF_succ (fn : Int) (C : List Ins) (k : Nat) (hk : k < C.length) (h : i64B fn ∧ i64B (k : Int)) (x : Pl) : upd (cF fn C k) ⟨(fn, (k : Int)), h⟩ (some C[k]) x = cF fn C (k + 1) x := by
 unfold upd
 by_cases he : x = ⟨(fn, (k : Int)), h⟩
 ·rw [if_pos he, he]
  unfold cF
  rw [if_pos ⟨rfl, by simp, by show (k : Int) < ((k + 1 : Nat) : Int); omega⟩]
  simp [hk]
 ·rw [if_neg he]
  unfold cF
  by_cases h2 : x.1.1 = fn ∧ 0 ≤ x.1.2 ∧ x.1.2 < k
  ·rw [if_pos h2, if_pos ⟨h2.1, h2.2.1, by omega⟩]
  ·rw [if_neg h2, if_neg]
   rintro ⟨h3, h4, h5⟩
   by_cases h6 : x.1.2 = k
   ·apply he
    obtain ⟨⟨x1, x2⟩, hx⟩ := x
    simp at h3 h6
    subst h3 h6
    rfl
   ·exact h2 ⟨h3, h4, by omega⟩
def insVal (i : Ins) : Value := .agg #[.int .i64 i.op, .int .i64 i.a, .int .i64 i.b, .int .i64 i.c]
def CodeMap (w : World) (b m : Nat) (f : Pl → Option Ins) : Prop := MapIs plK insVal w b m f
def CodePost (p : Prg) (fn : Int) (w : World) (e : Ending) (w' : World) : Prop :=
 ∃ b m, e = .returned (.map (some b)) ∧ CodeMap w' b m (cF fn (codeOf p fn) (codeOf p fn).length) ∧ w.heap.size ≤ b ∧ Below w.heap.size w w'
set_option maxRecDepth 100000 in
set_option maxHeartbeats 1600000 in
theorem code_any (w : World) (D : Nat → Prop) (p : Prg) (c0 c1 c2 : Value) (fn : Int) (hD : ∀ k, D k → k < w.heap.size) (hv : PrgVal w D p c0 c1 c2) (hfn : i64B fn) (hln : (codeOf p fn).length ≤ 3000) :
  Calls Tryz.prog 131 #[.agg #[c0, c1, c2], .int .i64 fn] w (CodePost p fn w) := by
 obtain ⟨⟨a0, m0, rfl, _⟩, ⟨a1, m1, rfl, _⟩, a2, m2, rfl, hfs⟩ := hv
 have hb0 := ((Below.refl w.heap.size w).alloc (Nat.le_refl _) (.cells #[.slice a0 p.globals.length m0, .slice a1 p.shapes.length m1, .slice a2 p.funcs.length m2] 27))
 have hmk : CodeMap ((w.alloc (.cells #[.slice a0 p.globals.length m0, .slice a1 p.shapes.length m1, .slice a2 p.funcs.length m2] 27)).alloc (.map #[] 0)) (w.alloc (.cells #[.slice a0 p.globals.length m0, .slice a1 p.shapes.length m1, .slice a2 p.funcs.length m2] 27)).heap.size 0 (fun _ => none) := MapIs.made plK _ _
 have hz1 : (w.alloc (.cells #[.slice a0 p.globals.length m0, .slice a1 p.shapes.length m1, .slice a2 p.funcs.length m2] 27)).heap.size = w.heap.size + 1 := by simp
 rw [hz1] at hmk
 have hb1 := hb0.alloc (by simp) (.map #[] 0)
 have hmake : ∀ w, (Instr.makeMap 178 none).run Tryz.prog w = .ok (.map (some w.heap.size)) (w.alloc (.map #[] 0)) := fun w => run_makeMap _ w
 have ht : Tryz.prog.underlying 178 = some (.map plK.k 59) := Tryz.underlying178
 have q2 : ((w.alloc (.cells #[.slice a0 p.globals.length m0, .slice a1 p.shapes.length m1, .slice a2 p.funcs.length m2] 27)).alloc (.map #[] 0)).cell? ⟨w.heap.size, 2, none⟩ = some (.slice a2 p.funcs.length m2) := by
  rw [cell_under _ _ (by simp), cell_new]; rfl
 obtain ⟨W, hW⟩ : ∃ W, W = (w.alloc (.cells #[.slice a0 p.globals.length m0, .slice a1 p.shapes.length m1, .slice a2 p.funcs.length m2] 27)).alloc (.map #[] 0) := ⟨_, rfl⟩
 rw [← hW] at hmk hb1 q2
 have hfs := hfs.fr (Fr.of_below hb1 (fun _ => False)) (fun _ _ h => h)
 have hm0 : CodeMap W (w.heap.size + 1) 0 (cF fn (codeOf p fn) 0) := hmk.congr (fun a _ => cF_zero fn (codeOf p fn) a)
 have HW := Lib.hid hW
 clear hW hb0 hz1 hmk
 by_cases hin : withinB fn p.funcs.length = true
 case neg =>
  have hc : codeOf p fn = [] := by unfold codeOf; rw [if_neg hin]
  have hP : CodePost p fn w (.returned (.map (some (w.heap.size + 1)))) W := by
   refine ⟨_, 0, rfl, ?_, by omega, hb1⟩
   rw [hc] at hm0 ⊢
   exact hm0
  clear hm0 hc hfs hb1
  have HP := Lib.hid hP; clear hP
  by_cases h0 : 0 ≤ fn
  ·have h1 : ¬ fn < p.funcs.length := fun h => hin (by simp [withinB]; omega)
   clear hin
   go_enter Tryz.func131, Tryz.ntmps131
   go_upto_region 2 with fail
   rw [← HW.out]
   go_wp2_with fail
   go_ret
   exact HP.out
  ·clear hin
   go_enter Tryz.func131, Tryz.ntmps131
   go_upto_region 2 with fail
   rw [← HW.out]
   go_wp2_with fail
   go_ret
   exact HP.out
 obtain ⟨j, rfl, hj⟩ : ∃ j : Nat, fn = j ∧ j < p.funcs.length := by
  simp [withinB] at hin
  exact ⟨fn.toNat, by omega, by omega⟩
 have hc : codeOf p (j : Int) = p.funcs[j].code := by unfold codeOf; rw [if_pos hin]; simp [hj]
 obtain ⟨b, o, rfl, _, y0, y1, y2, y3, y4, g0, g1, g2, g3, g4, hfv⟩ := hfs j hj
 obtain ⟨_, _, _, _, e0, e1, rfl, hsc⟩ := hfv
 rw [hc] at hln hm0
 unfold CodePost
 rw [hc]
 clear hc hfs hin g0 g1 g2 g3
 generalize p.funcs[j].code = C at *
 have hj1 : (j : Int) < p.funcs.length := by omega
 have HM0 := Lib.hid hm0; clear hm0
 have HSC := Lib.hid hsc; clear hsc
 have HT := Lib.hid ht; clear ht
 have HB1 := Lib.hid hb1; clear hb1
 have HD := Lib.hid hD; clear hD
 go_enter Tryz.func131, Tryz.ntmps131
 go_upto_region 2 with fail
 rw [← HW.out]
 go_wp2_with fail
 go_loopw [25] (fun i wr => ∃ k m : Nat, k ≤ C.length ∧ i = .int .i64 k ∧ CodeMap wr (w.heap.size + 1) m (cF j C k) ∧ m ≤ k ∧ Fr (fun q => q = w.heap.size + 1) W wr) (fun i _ => C.length - (intOf i).toNat)
 case atStart => exact ⟨0, 0, Nat.zero_le _, rfl, HM0.out, Nat.le_refl _, Fr.refl _ _⟩
 case round =>
  obtain ⟨k, m, hk, rfl, hm, hmk, hf⟩ := hrel
  by_cases hlt : k < C.length
  ·obtain ⟨b', o', rfl, _, x0, x1, x2, x3⟩ := (HSC.out.fr hf (fun q hq e => by have := HD.out q hq; omega)) k hlt
   have hcs := fun h => cF_succ j C k hlt h
   have hk64 : i64B (k : Int) := ⟨by omega, by omega⟩
   generalize C[k] = x at *
   have hbs := (Below.refl wr.heap.size wr).alloc (Nat.le_refl _) (.cells #[.int .i64 x.op, .int .i64 x.a, .int .i64 x.b, .int .i64 x.c] 59)
   have hly := heap_new wr (.cells #[.int .i64 x.op, .int .i64 x.a, .int .i64 x.b, .int .i64 x.c] 59)
   have hmS := hm.below hbs
   obtain ⟨y, hy⟩ : ∃ y, y = wr.heap.size := ⟨_, rfl⟩
   obtain ⟨wS, hwS⟩ : ∃ wS, wS = wr.alloc (.cells #[.int .i64 x.op, .int .i64 x.a, .int .i64 x.b, .int .i64 x.c] 59) := ⟨_, rfl⟩
   rw [← hwS] at hbs hmS
   rw [← hwS, ← hy] at hly
   have z0 := (row_cell hly 0).1
   have z1 := (row_cell hly 1).1
   have z2 := (row_cell hly 2).1
   have z3 := (row_cell hly 3).1
   have z0 : wS.cell? ⟨y, 0, none⟩ = some (.int .i64 x.op) := z0
   have z1 : wS.cell? ⟨y, 1, none⟩ = some (.int .i64 x.a) := z1
   have z2 : wS.cell? ⟨y, 2, none⟩ = some (.int .i64 x.b) := z2
   have z3 : wS.cell? ⟨y, 3, none⟩ = some (.int .i64 x.c) := z3
   have hfS := hf.trans (Fr.of_below hbs (fun q => q = w.heap.size + 1)) (fun _ _ h => h)
   have HWS := Lib.hid hwS
   have HY := Lib.hid hy
   clear hwS hy hly hm hf hbs
   have HMS := Lib.hid hmS; clear hmS
   have HFS := Lib.hid hfS; clear hfS
   have HCS := Lib.hid hcs; clear hcs
   go_upto_region 6 with fail
   rw [← HWS.out, ← HY.out]
   clear x0 x1 x2 x3
   go_wp2_with (refine put_map rfl (.tmp 30) (.tmp 33) (.tmp 34) 178 59 rfl HMS.out HT.out (by unfold maxLen; omega) ⟨((j : Int), (k : Int)), hfn, hk64⟩ trivial x rfl rfl rfl ?_; intro w1 hm1 ht1)
   have hm3 : CodeMap w1 (w.heap.size + 1) _ (cF j C (k + 1)) := hm1.congr (fun a _ => HCS.out ⟨hfn, hk64⟩ a)
   have hn3 : (if (cF j C k ⟨((j : Int), (k : Int)), hfn, hk64⟩).isSome then m else m + 1) ≤ k + 1 := by split <;> omega
   have hf3 := HFS.out.trans (turned_fr ht1) (fun _ _ h => h)
   clear hm1 ht1
   have HM3 := Lib.hid hm3; clear hm3
   have HN3 := Lib.hid hn3; clear hn3
   have HF3 := Lib.hid hf3; clear hf3
   go_wp2_with fail
   go_roundw
   case rel => exact ⟨k + 1, _, by omega, by go_num, HM3.out, HN3.out, HF3.out⟩
   case measure => simp [intOf]; omega
  ·have hk' : k = C.length := by omega
   subst hk'
   have hbf : Below w.heap.size w wr := HB1.out.trans (hf.below HB1.out.size (fun q hq => by omega))
   have HM := Lib.hid hm; clear hm
   have HBF := Lib.hid hbf; clear hbf
   clear hf
   go_wp2_with fail
   go_ret
   exact ⟨_, _, rfl, HM.out, by omega, HBF.out⟩
end Go.Proofs.YthkhgihjigmkoaaGreat
namespace Go.Proofs.YthkhgihjigmkoaaGreat
open Go.ChangeShapes Go.WideShapes Go.ChangeAt Go.RowKit
def quietV (p : Prg) (r : Int) (i : Ins) : Bool := (i.op == 22 && r == 0) || (i.op == 21 && (calleeF p i).isSome && (calleeG p i).result == 0)
theorem quiet_eq (p : Prg) (f : Fun) (i : Ins) : quietV p f.result i = quietB p f i := by
 unfold quietV quietB calleeG
 cases calleeF p i with
 | none => simp
 | some g => simp
set_option maxRecDepth 100000 in
set_option maxHeartbeats 1600000 in
theorem quiet_any (w : World) (D : Nat → Prop) (hD : ∀ k, D k → k < w.heap.size) (p : Prg) (c0 c1 c2 d0 d3 d4 : Value) (r s : Int) (i : Ins) (fn pc : Int) (hv : PrgVal w D p c0 c1 c2) (hd0 : d0.oneCell' = true) (hd3 : d3.oneCell' = true) (hd4 : d4.oneCell' = true) :
  Calls Tryz.prog 149 #[.agg (lookC c0 c1 c2 d0 d3 d4 r s i fn pc)] w fun e w' => e = .returned (.bool (quietV p r i)) ∧ Below w.heap.size w w' := by
 obtain ⟨op, a, b, c⟩ := i
 have ca := fun W h1 h2 => callee_any W D h1 p c0 c1 c2 d0 d3 d4 r s ⟨op, a, b, c⟩ fn pc h2
 unfold CalleePost at ca
 have hC0 := (Below.refl w.heap.size w).alloc (Nat.le_refl _) (.cells (lookC c0 c1 c2 d0 d3 d4 r s ⟨op, a, b, c⟩ fn pc) 181)
 have hbx := box1 w (lookC c0 c1 c2 d0 d3 d4 r s ⟨op, a, b, c⟩ fn pc) 181 _ (Below.refl _ _)
 have hz0 : (w.alloc (.cells (lookC c0 c1 c2 d0 d3 d4 r s ⟨op, a, b, c⟩ fn pc) 181)).heap.size = w.heap.size + 1 := by simp
 obtain ⟨W, hW⟩ : ∃ W, W = w.alloc (.cells (lookC c0 c1 c2 d0 d3 d4 r s ⟨op, a, b, c⟩ fn pc) 181) := ⟨_, rfl⟩
 rw [← hW] at hC0 hbx hz0
 have q : ∀ W', Below W.heap.size W W' → ∀ j u, (lookC c0 c1 c2 d0 d3 d4 r s ⟨op, a, b, c⟩ fn pc)[j]? = some u → W'.cell? ⟨w.heap.size, j, none⟩ = some u := fun W' h j u hj => below_cell h (hbx.1 j u hj)
 clear hbx
 have HW := Lib.hid hW
 clear hW
 have hvW : ∀ W', Below W.heap.size W W' → PrgVal W' D p c0 c1 c2 := fun W' h => hv.fr (Fr.of_below (hC0.trans (h.mono hC0.size)) (fun _ => False)) (fun _ _ h => h)
 have hDW : ∀ k, D k → k < W.heap.size := fun k hk => by have := hD k hk; omega
 have HQQ := Lib.hid q
 clear q
 have HC0 := Lib.hid hC0; clear hC0
 have HVW := Lib.hid hvW; clear hvW
 have HDW := Lib.hid hDW; clear hDW
 have HZ0 := Lib.hid hz0; clear hz0
 unfold quietV
 dsimp only
 generalize (calleeG p ⟨op, a, b, c⟩) = G at *
 generalize (calleeF p ⟨op, a, b, c⟩).isSome = is at *
 generalize hgr : G.result = gr at *
 generalize hgs : G.slots = gs at *
 clear hgr hgs
 have CA := Lib.hid (ca W HDW.out (HVW.out W (Below.refl _ _)))
 clear ca hv hD
 unfold lookC at *
 go_enter Tryz.func149, Tryz.ntmps149
 go_upto_region 1 with fail
 rw [← HW.out]
 have p0 : W.cell? ⟨w.heap.size, 0, none⟩ = some c0 := HQQ.out _ (Below.refl _ _) 0 _ rfl
 have p1 : W.cell? ⟨w.heap.size, 1, none⟩ = some c1 := HQQ.out _ (Below.refl _ _) 1 _ rfl
 have p2 : W.cell? ⟨w.heap.size, 2, none⟩ = some c2 := HQQ.out _ (Below.refl _ _) 2 _ rfl
 have p3 : W.cell? ⟨w.heap.size, 3, none⟩ = some d0 := HQQ.out _ (Below.refl _ _) 3 _ rfl
 have p4 : W.cell? ⟨w.heap.size, 4, none⟩ = some (.int .i64 r) := HQQ.out _ (Below.refl _ _) 4 _ rfl
 have p5 : W.cell? ⟨w.heap.size, 5, none⟩ = some (.int .i64 s) := HQQ.out _ (Below.refl _ _) 5 _ rfl
 have p6 : W.cell? ⟨w.heap.size, 6, none⟩ = some d3 := HQQ.out _ (Below.refl _ _) 6 _ rfl
 have p7 : W.cell? ⟨w.heap.size, 7, none⟩ = some d4 := HQQ.out _ (Below.refl _ _) 7 _ rfl
 have p8 : W.cell? ⟨w.heap.size, 8, none⟩ = some (.int .i64 op) := HQQ.out _ (Below.refl _ _) 8 _ rfl
 have p9 : W.cell? ⟨w.heap.size, 9, none⟩ = some (.int .i64 a) := HQQ.out _ (Below.refl _ _) 9 _ rfl
 have p10 : W.cell? ⟨w.heap.size, 10, none⟩ = some (.int .i64 b) := HQQ.out _ (Below.refl _ _) 10 _ rfl
 have p11 : W.cell? ⟨w.heap.size, 11, none⟩ = some (.int .i64 c) := HQQ.out _ (Below.refl _ _) 11 _ rfl
 have p12 : W.cell? ⟨w.heap.size, 12, none⟩ = some (.int .i64 fn) := HQQ.out _ (Below.refl _ _) 12 _ rfl
 have p13 : W.cell? ⟨w.heap.size, 13, none⟩ = some (.int .i64 pc) := HQQ.out _ (Below.refl _ _) 13 _ rfl
 go_wp2_with fail
 refine CA.out.mono ?_
 rintro e w1 ⟨x0, x3, x4, rfl, hfv, hb1⟩
 obtain ⟨hq1, hq2, ⟨g0, g1, rfl, _⟩, ⟨g2, g3, rfl, _⟩, g4, g5, rfl, _⟩ := hfv
 clear hq1 hq2
 clear p0 p1 p2 p3 p4 p5 p6 p7 p8 p9 p10 p11 p12 p13
 have p0 : w1.cell? ⟨w.heap.size, 0, none⟩ = some c0 := HQQ.out _ hb1 0 _ rfl
 have p1 : w1.cell? ⟨w.heap.size, 1, none⟩ = some c1 := HQQ.out _ hb1 1 _ rfl
 have p2 : w1.cell? ⟨w.heap.size, 2, none⟩ = some c2 := HQQ.out _ hb1 2 _ rfl
 have p3 : w1.cell? ⟨w.heap.size, 3, none⟩ = some d0 := HQQ.out _ hb1 3 _ rfl
 have p4 : w1.cell? ⟨w.heap.size, 4, none⟩ = some (.int .i64 r) := HQQ.out _ hb1 4 _ rfl
 have p5 : w1.cell? ⟨w.heap.size, 5, none⟩ = some (.int .i64 s) := HQQ.out _ hb1 5 _ rfl
 have p6 : w1.cell? ⟨w.heap.size, 6, none⟩ = some d3 := HQQ.out _ hb1 6 _ rfl
 have p7 : w1.cell? ⟨w.heap.size, 7, none⟩ = some d4 := HQQ.out _ hb1 7 _ rfl
 have p8 : w1.cell? ⟨w.heap.size, 8, none⟩ = some (.int .i64 op) := HQQ.out _ hb1 8 _ rfl
 have p9 : w1.cell? ⟨w.heap.size, 9, none⟩ = some (.int .i64 a) := HQQ.out _ hb1 9 _ rfl
 have p10 : w1.cell? ⟨w.heap.size, 10, none⟩ = some (.int .i64 b) := HQQ.out _ hb1 10 _ rfl
 have p11 : w1.cell? ⟨w.heap.size, 11, none⟩ = some (.int .i64 c) := HQQ.out _ hb1 11 _ rfl
 have p12 : w1.cell? ⟨w.heap.size, 12, none⟩ = some (.int .i64 fn) := HQQ.out _ hb1 12 _ rfl
 have p13 : w1.cell? ⟨w.heap.size, 13, none⟩ = some (.int .i64 pc) := HQQ.out _ hb1 13 _ rfl
 have z0 := World.block_lt p0
 have hB2 := HC0.out.trans (((hb1.trans ((Below.refl w1.heap.size w1).alloc (Nat.le_refl _) (.cells #[.slice g0 G.args.length g1, .int .i64 gr, .int .i64 gs, .slice g2 G.objects.length g3, .slice g4 G.code.length g5] 74) |>.mono hb1.size))).mono HC0.out.size)
 clear hb1
 have HB2 := Lib.hid hB2; clear hB2
 go_upto_region 2 with fail
 by_cases h1 : op = 22
 ·subst h1
  by_cases h2 : r = 0
  ·subst h2
   go_wp2_with fail
   go_ret
   exact ⟨by simp [*], HB2.out⟩
  ·have h2' : (r == 0) = false := by simpa using h2
   clear h2
   go_wp2_with fail
   go_ret
   exact ⟨by simp [*], HB2.out⟩
 ·have h1' : (op == 22) = false := by simpa using h1
  clear h1
  by_cases h3 : op = 21
  ·subst h3
   cases is
   ·skip
    go_wp2_with fail
    go_ret
    exact ⟨by simp [*], HB2.out⟩
   ·by_cases h4 : gr = 0
    ·subst h4
     go_wp2_with fail
     go_ret
     exact ⟨by simp [*], HB2.out⟩
    ·have h4' : (gr == 0) = false := by simpa using h4
     clear h4
     go_wp2_with fail
     go_ret
     exact ⟨by simp [*], HB2.out⟩
  ·have h3' : (op == 21) = false := by simpa using h3
   clear h3
   go_wp2_with fail
   go_ret
   exact ⟨by simp [*], HB2.out⟩
end Go.Proofs.YthkhgihjigmkoaaGreat
