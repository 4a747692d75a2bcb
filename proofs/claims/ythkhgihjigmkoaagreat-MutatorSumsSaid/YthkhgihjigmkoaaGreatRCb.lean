import Derived.Test.YthkhgihjigmkoaaGreatRAr
set_option linter.unusedVariables false
set_option linter.unusedSimpArgs false
namespace Go.Proofs.YthkhgihjigmkoaaGreat.Tk
open Go.ChangeShapes Go.WideShapes Go.ChangeAt Go.RowKit Go.Maps
set_option maxRecDepth 100000 in
set_option maxHeartbeats 3200000 in
theorem run_do3 (w : World) (F : Nat → Prop) (tb : Nat) (p : TPrg) (T : Tk) (X : TB) (h : TaskAt w F tb p T X) (ht : TkOk T) (P : List Part) (q : Part) (hP : T.parts = P ++ [q]) (hq : 0 ≤ q.pc ∧ q.pc ≤ 100000) (j : Nat) (hj : j < p.funcs.length) (hfj : q.fn = j) (bn : Nat) (hbn : q.base = bn) (sa sb sc : Nat) (hs : (sa : Int) < p.funcs[j].slots ∧ (sb : Int) < p.funcs[j].slots ∧ (sc : Int) < p.funcs[j].slots) (hs2 : sa ≤ 3000 ∧ sb ≤ 3000 ∧ sc ≤ 3000) (hin : bn + (2 + sa) < T.words.length ∧ bn + (2 + sb) < T.words.length ∧ bn + (2 + sc) < T.words.length) (xb xc : Int) (hxb : T.words[bn + (2 + sb)]? = some xb) (hxc : T.words[bn + (2 + sc)]? = some xc) (c0 c1 c2 mp : Value) :
  Calls Tryz.prog 69 #[.agg (stepV c0 c1 c2 mp tb 3 sa sb sc)] w (RunPost w F tb p X ⟨T.base, T.words.set (bn + (2 + sa)) (doV 3 xb xc).1, P ++ [⟨q.fn, q.pc + 1, q.base, q.ret, q.ta, q.tn, q.tc⟩], T.marks⟩ (actV 0 0 0 0 0 false (.slice none 0 0))) := by
 have st := fun wr (hw : Below w.heap.size w wr) => stSet_any wr F tb p T X (h.below hw) ht P q hP hq j hj hfj bn hbn sa hs.1 hs2.1 hin.1 (doV 3 xb xc).1 c0 c1 c2 mp 3 sa sb sc
 have hl : T.parts.length = P.length + 1 := by rw [hP]; simp
 have e0 : (T.parts[P.length]'(by omega)) = q := by simp only [hP]; simp
 have sl1 := fun wr (hw : Below w.heap.size w wr) => slot_in wr F tb p T X (h.below hw) ht P.length hl j hj (by rw [e0]; exact hfj) bn (by rw [e0]; exact hbn) sb hs.2.1 hs2.2.1 hin.2.1
 have sl2 := fun wr (hw : Below w.heap.size w wr) => slot_in wr F tb p T X (h.below hw) ht P.length hl j hj (by rw [e0]; exact hfj) bn (by rw [e0]; exact hbn) sc hs.2.2 hs2.2.2 hin.2.2
 rw [List.getElem?_eq_getElem hin.2.1] at hxb
 rw [List.getElem?_eq_getElem hin.2.2] at hxc
 injection hxb with hxb
 injection hxc with hxc
 rw [hxb] at sl1
 rw [hxc] at sl2
 have sl : ∀ wr, Below w.heap.size w wr → ∀ (s : Nat) (x : Int), ((s = sb ∧ x = xb) ∨ (s = sc ∧ x = xc)) → Calls Tryz.prog 33 #[.pointer (some ⟨tb, 0, none⟩), .int .i64 s] wr fun e w' => e = .returned (.int .i64 x) ∧ Below wr.heap.size wr w' := fun wr hw s x hx => by
  rcases hx with ⟨rfl, rfl⟩ | ⟨rfl, rfl⟩
  ·exact sl1 wr hw
  ·exact sl2 wr hw
 have dv := do_any 3 xb xc
 generalize (doV 3 xb xc).1 = dv1 at *
 generalize (doV 3 xb xc).2 = dv2 at *
 clear sl1 sl2 hxb hxc hl e0 hs hin
 have ST := Lib.hid st; clear st
 have SL := Lib.hid sl; clear sl
 have DV := Lib.hid dv; clear dv
 have hb0 := ((Below.refl w.heap.size w).alloc (Nat.le_refl _) (.cells (stepV c0 c1 c2 mp tb 3 sa sb sc) 124))
 have hb1 := hb0.alloc hb0.size act0
 have hr0 := row_alloc (heap_new w (.cells (stepV c0 c1 c2 mp tb 3 sa sb sc) 124)) act0
 have hr1 := heap_new (w.alloc (.cells (stepV c0 c1 c2 mp tb 3 sa sb sc) 124)) act0
 rw [show (w.alloc (.cells (stepV c0 c1 c2 mp tb 3 sa sb sc) 124)).heap.size = w.heap.size + 1 from by simp] at hr1
 obtain ⟨W, hW⟩ : ∃ W, W = (w.alloc (.cells (stepV c0 c1 c2 mp tb 3 sa sb sc) 124)).alloc act0 := ⟨_, rfl⟩
 rw [← hW] at hb1 hr0 hr1
 have HFLT := Lib.hid h.flt
 have HOUT := Lib.hid (fun k (hk : X.D k) => (h.out k hk).2)
 have hwz : W.heap.size = w.heap.size + 2 := by rw [hW]; simp
 unfold act0 at hW hr1
 unfold stepV at hW hr0
 have HW := Lib.hid hW
 have k4 : W.cell? ⟨w.heap.size, 4, none⟩ = some (.pointer (some ⟨tb, 0, none⟩)) := (row_cell hr0 4).1
 have k5 : W.cell? ⟨w.heap.size, 5, none⟩ = some (.int .i64 3) := (row_cell hr0 5).1
 have k6 : W.cell? ⟨w.heap.size, 6, none⟩ = some (.int .i64 sa) := (row_cell hr0 6).1
 have k7 : W.cell? ⟨w.heap.size, 7, none⟩ = some (.int .i64 sb) := (row_cell hr0 7).1
 have k8 : W.cell? ⟨w.heap.size, 8, none⟩ = some (.int .i64 sc) := (row_cell hr0 8).1
 have HRR := Lib.hid (Below.refl W.heap.size W)
 clear hb0 hW
 have HB1 := Lib.hid hb1; clear hb1
 have HR1 := Lib.hid hr1; clear hr1
 have HR0 := Lib.hid hr0; clear hr0
 have HWZ := Lib.hid hwz; clear hwz
 unfold stepV
 go_enter Tryz.func69, Tryz.ntmps69
 go_upto_region 1 with fail
 rw [← HW.out]
 go_cut [3, 4] (fun x y wx => ∃ z : Nat, x = .pointer (some ⟨z, 0, none⟩) ∧ y = .pointer (some ⟨tb, 0, none⟩) ∧ wx.heap[z]? = some (.cells #[.int .i64 3, .int .i64 sa, .int .i64 sb, .int .i64 sc] 59) ∧ w.heap.size + 2 ≤ z ∧ Below W.heap.size W wx)
 case first =>
  have bs := World.block_lt k4
  dsimp only at bs
  go_region
  all_goals
   go_wp2_with fail
   go_meet
   case rel => exact ⟨_, rfl, rfl, heap_new _ _, by have := HWZ.out; omega, (HRR.out.drew).alloc (HRR.out.size) _⟩
 case rest =>
  obtain ⟨z, rfl, rfl, hz, hzl, hR⟩ := hcut
  have hbc := HB1.out.trans (hR.mono HB1.out.size)
  have hrb := (Fr.of_below hR (fun _ => False)).heap HR0.out (fun h => h)
  have hrc := (Fr.of_below hR (fun _ => False)).heap HR1.out (fun h => h)
  have HBC := Lib.hid hbc
  have HRW := Lib.hid (fun wx (hw : Below wc.heap.size wc wx) => (Fr.of_below hw (fun _ => False)).heap hrc (fun h => h))
  have HSS := Lib.hid (show ∀ wx, Below wc.heap.size wc wx → wx.cell? ⟨w.heap.size, 0, none⟩ = some (c0) ∧ wx.cell? ⟨w.heap.size, 1, none⟩ = some (c1) ∧ wx.cell? ⟨w.heap.size, 2, none⟩ = some (c2) ∧ wx.cell? ⟨w.heap.size, 3, none⟩ = some (mp) ∧ wx.cell? ⟨w.heap.size, 4, none⟩ = some (.pointer (some ⟨tb, 0, none⟩)) ∧ wx.cell? ⟨w.heap.size, 5, none⟩ = some (.int .i64 3) ∧ wx.cell? ⟨w.heap.size, 6, none⟩ = some (.int .i64 sa) ∧ wx.cell? ⟨w.heap.size, 7, none⟩ = some (.int .i64 sb) ∧ wx.cell? ⟨w.heap.size, 8, none⟩ = some (.int .i64 sc) ∧ wx.cell? ⟨z, 0, none⟩ = some (.int .i64 3) ∧ wx.cell? ⟨z, 1, none⟩ = some (.int .i64 sa) ∧ wx.cell? ⟨z, 2, none⟩ = some (.int .i64 sb) ∧ wx.cell? ⟨z, 3, none⟩ = some (.int .i64 sc) from fun wx hw => by
   have g1 := (Fr.of_below hw (fun _ => False)).heap hrb (fun h => h)
   have g2 := (Fr.of_below hw (fun _ => False)).heap hz (fun h => h)
   exact ⟨(row_cell g1 0).1, (row_cell g1 1).1, (row_cell g1 2).1, (row_cell g1 3).1, (row_cell g1 4).1, (row_cell g1 5).1, (row_cell g1 6).1, (row_cell g1 7).1, (row_cell g1 8).1, (row_cell g2 0).1, (row_cell g2 1).1, (row_cell g2 2).1, (row_cell g2 3).1⟩)
  have hSd := HSS.out wc.drew (Below.refl wc.heap.size wc).drew
  have HRC := Lib.hid (Below.refl wc.heap.size wc)
  have HRD := Lib.hid (Below.refl wc.heap.size wc).drew
  have z0 : wc.cell? ⟨z, 0, none⟩ = some (.int .i64 3) := (row_cell hz 0).1
  clear hR hrb hrc hz k4 k5 k6 k7 k8 hbc
  have HCUR := HRD
  go_upto_region 13 with fail
  clear z0
  go_region_held3 (fun w' => w'.cell? ⟨w.heap.size, 0, none⟩ = some (c0) ∧ w'.cell? ⟨w.heap.size, 1, none⟩ = some (c1) ∧ w'.cell? ⟨w.heap.size, 2, none⟩ = some (c2) ∧ w'.cell? ⟨w.heap.size, 3, none⟩ = some (mp) ∧ w'.cell? ⟨w.heap.size, 4, none⟩ = some (.pointer (some ⟨tb, 0, none⟩)) ∧ w'.cell? ⟨w.heap.size, 5, none⟩ = some (.int .i64 3) ∧ w'.cell? ⟨w.heap.size, 6, none⟩ = some (.int .i64 sa) ∧ w'.cell? ⟨w.heap.size, 7, none⟩ = some (.int .i64 sb) ∧ w'.cell? ⟨w.heap.size, 8, none⟩ = some (.int .i64 sc) ∧ w'.cell? ⟨z, 0, none⟩ = some (.int .i64 3) ∧ w'.cell? ⟨z, 1, none⟩ = some (.int .i64 sa) ∧ w'.cell? ⟨z, 2, none⟩ = some (.int .i64 sb) ∧ w'.cell? ⟨z, 3, none⟩ = some (.int .i64 sc)) (first | with_reducible exact hSd | with_reducible exact hSq | go_keep) (first
   | (go_at_call 33
      refine (SL.out _ (HBC.out.trans (HCUR.out.mono HBC.out.size)) _ _ (by first | exact .inl ⟨rfl, rfl⟩ | exact .inr ⟨rfl, rfl⟩)).mono ?_
      rintro e wq ⟨rfl, hbq⟩
      have HCUR := Lib.hid (HCUR.out.trans (hbq.mono HCUR.out.size))
      have hSq := HSS.out _ HCUR.out
      clear hbq)
   | (go_at_call 97
      refine (DV.out _).mono ?_
      rintro e wd ⟨rfl, rfl⟩))
  all_goals
   obtain ⟨k0, k1, k2, k3, k4, k5, k6, k7, k8, _, z1, _, _⟩ := hSq
   have HWD := HCUR
   have stw := ST.out _ (HBC.out.trans (HCUR.out.mono HBC.out.size))
   unfold stepV at stw
   have STW := Lib.hid stw; clear stw
   go_wp2_with fail
   refine STW.out.mono ?_
   rintro e w5 ⟨rfl, hT5, hf5⟩
   clear k0 k1 k2 k3 k4 k5 k6 k7 k8 z1
   have hr5 := hf5.heap (HRW.out _ HWD.out) (fun e => by have := HFLT.out (w.heap.size + 1) e; omega)
   obtain ⟨⟨u0, u1, u2, u3, u4, u5, u6⟩, n0, n1, n2, n3, n4, n5, n6⟩ := seven_cells hr5
   have hfs := seven_fr w5 (.int .i64 0) (.int .i64 0) (.int .i64 0) (.int .i64 0) (.int .i64 0) (.bool false) (.slice none 0 0) (w.heap.size + 1)
   have hrs := seven_row hr5 (.int .i64 0) (.int .i64 0) (.int .i64 0) (.int .i64 0) (.int .i64 0) (.bool false) (.slice none 0 0)
   have hT6 := hT5.fr hfs (fun q hq e => by have := HFLT.out q hq; have e : q = w.heap.size + 1 := e; omega) (fun q hq e => by have := HOUT.out q hq; have e : q = w.heap.size + 1 := e; omega)
   have hfw := (Fr.of_below (HBC.out.trans (HWD.out.mono HBC.out.size)) F).trans hf5 (fun _ _ h => h)
   have hf6 := hfw.trans hfs (fun q hq e => by have e : q = w.heap.size + 1 := e; omega)
   have HPP := Lib.hid (show RunPost w F tb p X _ (actV 0 0 0 0 0 false (.slice none 0 0)) _ _ from ⟨rfl, F, X, hT6, rfl, fun _ h => .inl h, hf6⟩)
   clear hfs hr5 hT5 hT6 hfw hf6 hf5
   have HRS := Lib.hid hrs; clear hrs
   unfold actV
   go_wp2_with fail
   refine bodyPost_ret ?_ rfl HPP.out
   have k0 := (row_cell HRS.out 0).1; have k1 := (row_cell HRS.out 1).1; have k2 := (row_cell HRS.out 2).1; have k3 := (row_cell HRS.out 3).1; have k4 := (row_cell HRS.out 4).1; have k5 := (row_cell HRS.out 5).1; have k6 := (row_cell HRS.out 6).1; simp at k0 k1 k2 k3 k4 k5 k6; simp [results, Tryz.results69, go_sem, k0, k1, k2, k3, k4, k5, k6, actV]
set_option maxRecDepth 100000 in
set_option maxHeartbeats 3200000 in
theorem run_do4 (w : World) (F : Nat → Prop) (tb : Nat) (p : TPrg) (T : Tk) (X : TB) (h : TaskAt w F tb p T X) (ht : TkOk T) (P : List Part) (q : Part) (hP : T.parts = P ++ [q]) (hq : 0 ≤ q.pc ∧ q.pc ≤ 100000) (j : Nat) (hj : j < p.funcs.length) (hfj : q.fn = j) (bn : Nat) (hbn : q.base = bn) (sa sb sc : Nat) (hs : (sa : Int) < p.funcs[j].slots ∧ (sb : Int) < p.funcs[j].slots ∧ (sc : Int) < p.funcs[j].slots) (hs2 : sa ≤ 3000 ∧ sb ≤ 3000 ∧ sc ≤ 3000) (hin : bn + (2 + sa) < T.words.length ∧ bn + (2 + sb) < T.words.length ∧ bn + (2 + sc) < T.words.length) (xb xc : Int) (hxb : T.words[bn + (2 + sb)]? = some xb) (hxc : T.words[bn + (2 + sc)]? = some xc) (c0 c1 c2 mp : Value) :
  Calls Tryz.prog 69 #[.agg (stepV c0 c1 c2 mp tb 4 sa sb sc)] w (RunPost w F tb p X ⟨T.base, T.words.set (bn + (2 + sa)) (doV 4 xb xc).1, P ++ [⟨q.fn, q.pc + 1, q.base, q.ret, q.ta, q.tn, q.tc⟩], T.marks⟩ (actV 0 0 0 0 0 false (.slice none 0 0))) := by
 have st := fun wr (hw : Below w.heap.size w wr) => stSet_any wr F tb p T X (h.below hw) ht P q hP hq j hj hfj bn hbn sa hs.1 hs2.1 hin.1 (doV 4 xb xc).1 c0 c1 c2 mp 4 sa sb sc
 have hl : T.parts.length = P.length + 1 := by rw [hP]; simp
 have e0 : (T.parts[P.length]'(by omega)) = q := by simp only [hP]; simp
 have sl1 := fun wr (hw : Below w.heap.size w wr) => slot_in wr F tb p T X (h.below hw) ht P.length hl j hj (by rw [e0]; exact hfj) bn (by rw [e0]; exact hbn) sb hs.2.1 hs2.2.1 hin.2.1
 have sl2 := fun wr (hw : Below w.heap.size w wr) => slot_in wr F tb p T X (h.below hw) ht P.length hl j hj (by rw [e0]; exact hfj) bn (by rw [e0]; exact hbn) sc hs.2.2 hs2.2.2 hin.2.2
 rw [List.getElem?_eq_getElem hin.2.1] at hxb
 rw [List.getElem?_eq_getElem hin.2.2] at hxc
 injection hxb with hxb
 injection hxc with hxc
 rw [hxb] at sl1
 rw [hxc] at sl2
 have sl : ∀ wr, Below w.heap.size w wr → ∀ (s : Nat) (x : Int), ((s = sb ∧ x = xb) ∨ (s = sc ∧ x = xc)) → Calls Tryz.prog 33 #[.pointer (some ⟨tb, 0, none⟩), .int .i64 s] wr fun e w' => e = .returned (.int .i64 x) ∧ Below wr.heap.size wr w' := fun wr hw s x hx => by
  rcases hx with ⟨rfl, rfl⟩ | ⟨rfl, rfl⟩
  ·exact sl1 wr hw
  ·exact sl2 wr hw
 have dv := do_any 4 xb xc
 generalize (doV 4 xb xc).1 = dv1 at *
 generalize (doV 4 xb xc).2 = dv2 at *
 clear sl1 sl2 hxb hxc hl e0 hs hin
 have ST := Lib.hid st; clear st
 have SL := Lib.hid sl; clear sl
 have DV := Lib.hid dv; clear dv
 have hb0 := ((Below.refl w.heap.size w).alloc (Nat.le_refl _) (.cells (stepV c0 c1 c2 mp tb 4 sa sb sc) 124))
 have hb1 := hb0.alloc hb0.size act0
 have hr0 := row_alloc (heap_new w (.cells (stepV c0 c1 c2 mp tb 4 sa sb sc) 124)) act0
 have hr1 := heap_new (w.alloc (.cells (stepV c0 c1 c2 mp tb 4 sa sb sc) 124)) act0
 rw [show (w.alloc (.cells (stepV c0 c1 c2 mp tb 4 sa sb sc) 124)).heap.size = w.heap.size + 1 from by simp] at hr1
 obtain ⟨W, hW⟩ : ∃ W, W = (w.alloc (.cells (stepV c0 c1 c2 mp tb 4 sa sb sc) 124)).alloc act0 := ⟨_, rfl⟩
 rw [← hW] at hb1 hr0 hr1
 have HFLT := Lib.hid h.flt
 have HOUT := Lib.hid (fun k (hk : X.D k) => (h.out k hk).2)
 have hwz : W.heap.size = w.heap.size + 2 := by rw [hW]; simp
 unfold act0 at hW hr1
 unfold stepV at hW hr0
 have HW := Lib.hid hW
 have k4 : W.cell? ⟨w.heap.size, 4, none⟩ = some (.pointer (some ⟨tb, 0, none⟩)) := (row_cell hr0 4).1
 have k5 : W.cell? ⟨w.heap.size, 5, none⟩ = some (.int .i64 4) := (row_cell hr0 5).1
 have k6 : W.cell? ⟨w.heap.size, 6, none⟩ = some (.int .i64 sa) := (row_cell hr0 6).1
 have k7 : W.cell? ⟨w.heap.size, 7, none⟩ = some (.int .i64 sb) := (row_cell hr0 7).1
 have k8 : W.cell? ⟨w.heap.size, 8, none⟩ = some (.int .i64 sc) := (row_cell hr0 8).1
 have HRR := Lib.hid (Below.refl W.heap.size W)
 clear hb0 hW
 have HB1 := Lib.hid hb1; clear hb1
 have HR1 := Lib.hid hr1; clear hr1
 have HR0 := Lib.hid hr0; clear hr0
 have HWZ := Lib.hid hwz; clear hwz
 unfold stepV
 go_enter Tryz.func69, Tryz.ntmps69
 go_upto_region 1 with fail
 rw [← HW.out]
 go_cut [3, 4] (fun x y wx => ∃ z : Nat, x = .pointer (some ⟨z, 0, none⟩) ∧ y = .pointer (some ⟨tb, 0, none⟩) ∧ wx.heap[z]? = some (.cells #[.int .i64 4, .int .i64 sa, .int .i64 sb, .int .i64 sc] 59) ∧ w.heap.size + 2 ≤ z ∧ Below W.heap.size W wx)
 case first =>
  have bs := World.block_lt k4
  dsimp only at bs
  go_region
  all_goals
   go_wp2_with fail
   go_meet
   case rel => exact ⟨_, rfl, rfl, heap_new _ _, by have := HWZ.out; omega, (HRR.out.drew).alloc (HRR.out.size) _⟩
 case rest =>
  obtain ⟨z, rfl, rfl, hz, hzl, hR⟩ := hcut
  have hbc := HB1.out.trans (hR.mono HB1.out.size)
  have hrb := (Fr.of_below hR (fun _ => False)).heap HR0.out (fun h => h)
  have hrc := (Fr.of_below hR (fun _ => False)).heap HR1.out (fun h => h)
  have HBC := Lib.hid hbc
  have HRW := Lib.hid (fun wx (hw : Below wc.heap.size wc wx) => (Fr.of_below hw (fun _ => False)).heap hrc (fun h => h))
  have HSS := Lib.hid (show ∀ wx, Below wc.heap.size wc wx → wx.cell? ⟨w.heap.size, 0, none⟩ = some (c0) ∧ wx.cell? ⟨w.heap.size, 1, none⟩ = some (c1) ∧ wx.cell? ⟨w.heap.size, 2, none⟩ = some (c2) ∧ wx.cell? ⟨w.heap.size, 3, none⟩ = some (mp) ∧ wx.cell? ⟨w.heap.size, 4, none⟩ = some (.pointer (some ⟨tb, 0, none⟩)) ∧ wx.cell? ⟨w.heap.size, 5, none⟩ = some (.int .i64 4) ∧ wx.cell? ⟨w.heap.size, 6, none⟩ = some (.int .i64 sa) ∧ wx.cell? ⟨w.heap.size, 7, none⟩ = some (.int .i64 sb) ∧ wx.cell? ⟨w.heap.size, 8, none⟩ = some (.int .i64 sc) ∧ wx.cell? ⟨z, 0, none⟩ = some (.int .i64 4) ∧ wx.cell? ⟨z, 1, none⟩ = some (.int .i64 sa) ∧ wx.cell? ⟨z, 2, none⟩ = some (.int .i64 sb) ∧ wx.cell? ⟨z, 3, none⟩ = some (.int .i64 sc) from fun wx hw => by
   have g1 := (Fr.of_below hw (fun _ => False)).heap hrb (fun h => h)
   have g2 := (Fr.of_below hw (fun _ => False)).heap hz (fun h => h)
   exact ⟨(row_cell g1 0).1, (row_cell g1 1).1, (row_cell g1 2).1, (row_cell g1 3).1, (row_cell g1 4).1, (row_cell g1 5).1, (row_cell g1 6).1, (row_cell g1 7).1, (row_cell g1 8).1, (row_cell g2 0).1, (row_cell g2 1).1, (row_cell g2 2).1, (row_cell g2 3).1⟩)
  have hSd := HSS.out wc.drew (Below.refl wc.heap.size wc).drew
  have HRC := Lib.hid (Below.refl wc.heap.size wc)
  have HRD := Lib.hid (Below.refl wc.heap.size wc).drew
  have z0 : wc.cell? ⟨z, 0, none⟩ = some (.int .i64 4) := (row_cell hz 0).1
  clear hR hrb hrc hz k4 k5 k6 k7 k8 hbc
  have HCUR := HRD
  go_upto_region 13 with fail
  clear z0
  go_region_held3 (fun w' => w'.cell? ⟨w.heap.size, 0, none⟩ = some (c0) ∧ w'.cell? ⟨w.heap.size, 1, none⟩ = some (c1) ∧ w'.cell? ⟨w.heap.size, 2, none⟩ = some (c2) ∧ w'.cell? ⟨w.heap.size, 3, none⟩ = some (mp) ∧ w'.cell? ⟨w.heap.size, 4, none⟩ = some (.pointer (some ⟨tb, 0, none⟩)) ∧ w'.cell? ⟨w.heap.size, 5, none⟩ = some (.int .i64 4) ∧ w'.cell? ⟨w.heap.size, 6, none⟩ = some (.int .i64 sa) ∧ w'.cell? ⟨w.heap.size, 7, none⟩ = some (.int .i64 sb) ∧ w'.cell? ⟨w.heap.size, 8, none⟩ = some (.int .i64 sc) ∧ w'.cell? ⟨z, 0, none⟩ = some (.int .i64 4) ∧ w'.cell? ⟨z, 1, none⟩ = some (.int .i64 sa) ∧ w'.cell? ⟨z, 2, none⟩ = some (.int .i64 sb) ∧ w'.cell? ⟨z, 3, none⟩ = some (.int .i64 sc)) (first | with_reducible exact hSd | with_reducible exact hSq | go_keep) (first
   | (go_at_call 33
      refine (SL.out _ (HBC.out.trans (HCUR.out.mono HBC.out.size)) _ _ (by first | exact .inl ⟨rfl, rfl⟩ | exact .inr ⟨rfl, rfl⟩)).mono ?_
      rintro e wq ⟨rfl, hbq⟩
      have HCUR := Lib.hid (HCUR.out.trans (hbq.mono HCUR.out.size))
      have hSq := HSS.out _ HCUR.out
      clear hbq)
   | (go_at_call 97
      refine (DV.out _).mono ?_
      rintro e wd ⟨rfl, rfl⟩))
  all_goals
   obtain ⟨k0, k1, k2, k3, k4, k5, k6, k7, k8, _, z1, _, _⟩ := hSq
   have HWD := HCUR
   have stw := ST.out _ (HBC.out.trans (HCUR.out.mono HBC.out.size))
   unfold stepV at stw
   have STW := Lib.hid stw; clear stw
   go_wp2_with fail
   refine STW.out.mono ?_
   rintro e w5 ⟨rfl, hT5, hf5⟩
   clear k0 k1 k2 k3 k4 k5 k6 k7 k8 z1
   have hr5 := hf5.heap (HRW.out _ HWD.out) (fun e => by have := HFLT.out (w.heap.size + 1) e; omega)
   obtain ⟨⟨u0, u1, u2, u3, u4, u5, u6⟩, n0, n1, n2, n3, n4, n5, n6⟩ := seven_cells hr5
   have hfs := seven_fr w5 (.int .i64 0) (.int .i64 0) (.int .i64 0) (.int .i64 0) (.int .i64 0) (.bool false) (.slice none 0 0) (w.heap.size + 1)
   have hrs := seven_row hr5 (.int .i64 0) (.int .i64 0) (.int .i64 0) (.int .i64 0) (.int .i64 0) (.bool false) (.slice none 0 0)
   have hT6 := hT5.fr hfs (fun q hq e => by have := HFLT.out q hq; have e : q = w.heap.size + 1 := e; omega) (fun q hq e => by have := HOUT.out q hq; have e : q = w.heap.size + 1 := e; omega)
   have hfw := (Fr.of_below (HBC.out.trans (HWD.out.mono HBC.out.size)) F).trans hf5 (fun _ _ h => h)
   have hf6 := hfw.trans hfs (fun q hq e => by have e : q = w.heap.size + 1 := e; omega)
   have HPP := Lib.hid (show RunPost w F tb p X _ (actV 0 0 0 0 0 false (.slice none 0 0)) _ _ from ⟨rfl, F, X, hT6, rfl, fun _ h => .inl h, hf6⟩)
   clear hfs hr5 hT5 hT6 hfw hf6 hf5
   have HRS := Lib.hid hrs; clear hrs
   unfold actV
   go_wp2_with fail
   refine bodyPost_ret ?_ rfl HPP.out
   have k0 := (row_cell HRS.out 0).1; have k1 := (row_cell HRS.out 1).1; have k2 := (row_cell HRS.out 2).1; have k3 := (row_cell HRS.out 3).1; have k4 := (row_cell HRS.out 4).1; have k5 := (row_cell HRS.out 5).1; have k6 := (row_cell HRS.out 6).1; simp at k0 k1 k2 k3 k4 k5 k6; simp [results, Tryz.results69, go_sem, k0, k1, k2, k3, k4, k5, k6, actV]
set_option maxRecDepth 100000 in
set_option maxHeartbeats 3200000 in
theorem run_do5 (w : World) (F : Nat → Prop) (tb : Nat) (p : TPrg) (T : Tk) (X : TB) (h : TaskAt w F tb p T X) (ht : TkOk T) (P : List Part) (q : Part) (hP : T.parts = P ++ [q]) (hq : 0 ≤ q.pc ∧ q.pc ≤ 100000) (j : Nat) (hj : j < p.funcs.length) (hfj : q.fn = j) (bn : Nat) (hbn : q.base = bn) (sa sb sc : Nat) (hs : (sa : Int) < p.funcs[j].slots ∧ (sb : Int) < p.funcs[j].slots ∧ (sc : Int) < p.funcs[j].slots) (hs2 : sa ≤ 3000 ∧ sb ≤ 3000 ∧ sc ≤ 3000) (hin : bn + (2 + sa) < T.words.length ∧ bn + (2 + sb) < T.words.length ∧ bn + (2 + sc) < T.words.length) (xb xc : Int) (hxb : T.words[bn + (2 + sb)]? = some xb) (hxc : T.words[bn + (2 + sc)]? = some xc) (c0 c1 c2 mp : Value) :
  Calls Tryz.prog 69 #[.agg (stepV c0 c1 c2 mp tb 5 sa sb sc)] w (RunPost w F tb p X ⟨T.base, T.words.set (bn + (2 + sa)) (doV 5 xb xc).1, P ++ [⟨q.fn, q.pc + 1, q.base, q.ret, q.ta, q.tn, q.tc⟩], T.marks⟩ (actV 0 0 0 0 0 false (.slice none 0 0))) := by
 have st := fun wr (hw : Below w.heap.size w wr) => stSet_any wr F tb p T X (h.below hw) ht P q hP hq j hj hfj bn hbn sa hs.1 hs2.1 hin.1 (doV 5 xb xc).1 c0 c1 c2 mp 5 sa sb sc
 have hl : T.parts.length = P.length + 1 := by rw [hP]; simp
 have e0 : (T.parts[P.length]'(by omega)) = q := by simp only [hP]; simp
 have sl1 := fun wr (hw : Below w.heap.size w wr) => slot_in wr F tb p T X (h.below hw) ht P.length hl j hj (by rw [e0]; exact hfj) bn (by rw [e0]; exact hbn) sb hs.2.1 hs2.2.1 hin.2.1
 have sl2 := fun wr (hw : Below w.heap.size w wr) => slot_in wr F tb p T X (h.below hw) ht P.length hl j hj (by rw [e0]; exact hfj) bn (by rw [e0]; exact hbn) sc hs.2.2 hs2.2.2 hin.2.2
 rw [List.getElem?_eq_getElem hin.2.1] at hxb
 rw [List.getElem?_eq_getElem hin.2.2] at hxc
 injection hxb with hxb
 injection hxc with hxc
 rw [hxb] at sl1
 rw [hxc] at sl2
 have sl : ∀ wr, Below w.heap.size w wr → ∀ (s : Nat) (x : Int), ((s = sb ∧ x = xb) ∨ (s = sc ∧ x = xc)) → Calls Tryz.prog 33 #[.pointer (some ⟨tb, 0, none⟩), .int .i64 s] wr fun e w' => e = .returned (.int .i64 x) ∧ Below wr.heap.size wr w' := fun wr hw s x hx => by
  rcases hx with ⟨rfl, rfl⟩ | ⟨rfl, rfl⟩
  ·exact sl1 wr hw
  ·exact sl2 wr hw
 have dv := do_any 5 xb xc
 generalize (doV 5 xb xc).1 = dv1 at *
 generalize (doV 5 xb xc).2 = dv2 at *
 clear sl1 sl2 hxb hxc hl e0 hs hin
 have ST := Lib.hid st; clear st
 have SL := Lib.hid sl; clear sl
 have DV := Lib.hid dv; clear dv
 have hb0 := ((Below.refl w.heap.size w).alloc (Nat.le_refl _) (.cells (stepV c0 c1 c2 mp tb 5 sa sb sc) 124))
 have hb1 := hb0.alloc hb0.size act0
 have hr0 := row_alloc (heap_new w (.cells (stepV c0 c1 c2 mp tb 5 sa sb sc) 124)) act0
 have hr1 := heap_new (w.alloc (.cells (stepV c0 c1 c2 mp tb 5 sa sb sc) 124)) act0
 rw [show (w.alloc (.cells (stepV c0 c1 c2 mp tb 5 sa sb sc) 124)).heap.size = w.heap.size + 1 from by simp] at hr1
 obtain ⟨W, hW⟩ : ∃ W, W = (w.alloc (.cells (stepV c0 c1 c2 mp tb 5 sa sb sc) 124)).alloc act0 := ⟨_, rfl⟩
 rw [← hW] at hb1 hr0 hr1
 have HFLT := Lib.hid h.flt
 have HOUT := Lib.hid (fun k (hk : X.D k) => (h.out k hk).2)
 have hwz : W.heap.size = w.heap.size + 2 := by rw [hW]; simp
 unfold act0 at hW hr1
 unfold stepV at hW hr0
 have HW := Lib.hid hW
 have k4 : W.cell? ⟨w.heap.size, 4, none⟩ = some (.pointer (some ⟨tb, 0, none⟩)) := (row_cell hr0 4).1
 have k5 : W.cell? ⟨w.heap.size, 5, none⟩ = some (.int .i64 5) := (row_cell hr0 5).1
 have k6 : W.cell? ⟨w.heap.size, 6, none⟩ = some (.int .i64 sa) := (row_cell hr0 6).1
 have k7 : W.cell? ⟨w.heap.size, 7, none⟩ = some (.int .i64 sb) := (row_cell hr0 7).1
 have k8 : W.cell? ⟨w.heap.size, 8, none⟩ = some (.int .i64 sc) := (row_cell hr0 8).1
 have HRR := Lib.hid (Below.refl W.heap.size W)
 clear hb0 hW
 have HB1 := Lib.hid hb1; clear hb1
 have HR1 := Lib.hid hr1; clear hr1
 have HR0 := Lib.hid hr0; clear hr0
 have HWZ := Lib.hid hwz; clear hwz
 unfold stepV
 go_enter Tryz.func69, Tryz.ntmps69
 go_upto_region 1 with fail
 rw [← HW.out]
 go_cut [3, 4] (fun x y wx => ∃ z : Nat, x = .pointer (some ⟨z, 0, none⟩) ∧ y = .pointer (some ⟨tb, 0, none⟩) ∧ wx.heap[z]? = some (.cells #[.int .i64 5, .int .i64 sa, .int .i64 sb, .int .i64 sc] 59) ∧ w.heap.size + 2 ≤ z ∧ Below W.heap.size W wx)
 case first =>
  have bs := World.block_lt k4
  dsimp only at bs
  go_region
  all_goals
   go_wp2_with fail
   go_meet
   case rel => exact ⟨_, rfl, rfl, heap_new _ _, by have := HWZ.out; omega, (HRR.out.drew).alloc (HRR.out.size) _⟩
 case rest =>
  obtain ⟨z, rfl, rfl, hz, hzl, hR⟩ := hcut
  have hbc := HB1.out.trans (hR.mono HB1.out.size)
  have hrb := (Fr.of_below hR (fun _ => False)).heap HR0.out (fun h => h)
  have hrc := (Fr.of_below hR (fun _ => False)).heap HR1.out (fun h => h)
  have HBC := Lib.hid hbc
  have HRW := Lib.hid (fun wx (hw : Below wc.heap.size wc wx) => (Fr.of_below hw (fun _ => False)).heap hrc (fun h => h))
  have HSS := Lib.hid (show ∀ wx, Below wc.heap.size wc wx → wx.cell? ⟨w.heap.size, 0, none⟩ = some (c0) ∧ wx.cell? ⟨w.heap.size, 1, none⟩ = some (c1) ∧ wx.cell? ⟨w.heap.size, 2, none⟩ = some (c2) ∧ wx.cell? ⟨w.heap.size, 3, none⟩ = some (mp) ∧ wx.cell? ⟨w.heap.size, 4, none⟩ = some (.pointer (some ⟨tb, 0, none⟩)) ∧ wx.cell? ⟨w.heap.size, 5, none⟩ = some (.int .i64 5) ∧ wx.cell? ⟨w.heap.size, 6, none⟩ = some (.int .i64 sa) ∧ wx.cell? ⟨w.heap.size, 7, none⟩ = some (.int .i64 sb) ∧ wx.cell? ⟨w.heap.size, 8, none⟩ = some (.int .i64 sc) ∧ wx.cell? ⟨z, 0, none⟩ = some (.int .i64 5) ∧ wx.cell? ⟨z, 1, none⟩ = some (.int .i64 sa) ∧ wx.cell? ⟨z, 2, none⟩ = some (.int .i64 sb) ∧ wx.cell? ⟨z, 3, none⟩ = some (.int .i64 sc) from fun wx hw => by
   have g1 := (Fr.of_below hw (fun _ => False)).heap hrb (fun h => h)
   have g2 := (Fr.of_below hw (fun _ => False)).heap hz (fun h => h)
   exact ⟨(row_cell g1 0).1, (row_cell g1 1).1, (row_cell g1 2).1, (row_cell g1 3).1, (row_cell g1 4).1, (row_cell g1 5).1, (row_cell g1 6).1, (row_cell g1 7).1, (row_cell g1 8).1, (row_cell g2 0).1, (row_cell g2 1).1, (row_cell g2 2).1, (row_cell g2 3).1⟩)
  have hSd := HSS.out wc.drew (Below.refl wc.heap.size wc).drew
  have HRC := Lib.hid (Below.refl wc.heap.size wc)
  have HRD := Lib.hid (Below.refl wc.heap.size wc).drew
  have z0 : wc.cell? ⟨z, 0, none⟩ = some (.int .i64 5) := (row_cell hz 0).1
  clear hR hrb hrc hz k4 k5 k6 k7 k8 hbc
  have HCUR := HRD
  go_upto_region 13 with fail
  clear z0
  go_region_held3 (fun w' => w'.cell? ⟨w.heap.size, 0, none⟩ = some (c0) ∧ w'.cell? ⟨w.heap.size, 1, none⟩ = some (c1) ∧ w'.cell? ⟨w.heap.size, 2, none⟩ = some (c2) ∧ w'.cell? ⟨w.heap.size, 3, none⟩ = some (mp) ∧ w'.cell? ⟨w.heap.size, 4, none⟩ = some (.pointer (some ⟨tb, 0, none⟩)) ∧ w'.cell? ⟨w.heap.size, 5, none⟩ = some (.int .i64 5) ∧ w'.cell? ⟨w.heap.size, 6, none⟩ = some (.int .i64 sa) ∧ w'.cell? ⟨w.heap.size, 7, none⟩ = some (.int .i64 sb) ∧ w'.cell? ⟨w.heap.size, 8, none⟩ = some (.int .i64 sc) ∧ w'.cell? ⟨z, 0, none⟩ = some (.int .i64 5) ∧ w'.cell? ⟨z, 1, none⟩ = some (.int .i64 sa) ∧ w'.cell? ⟨z, 2, none⟩ = some (.int .i64 sb) ∧ w'.cell? ⟨z, 3, none⟩ = some (.int .i64 sc)) (first | with_reducible exact hSd | with_reducible exact hSq | go_keep) (first
   | (go_at_call 33
      refine (SL.out _ (HBC.out.trans (HCUR.out.mono HBC.out.size)) _ _ (by first | exact .inl ⟨rfl, rfl⟩ | exact .inr ⟨rfl, rfl⟩)).mono ?_
      rintro e wq ⟨rfl, hbq⟩
      have HCUR := Lib.hid (HCUR.out.trans (hbq.mono HCUR.out.size))
      have hSq := HSS.out _ HCUR.out
      clear hbq)
   | (go_at_call 97
      refine (DV.out _).mono ?_
      rintro e wd ⟨rfl, rfl⟩))
  all_goals
   obtain ⟨k0, k1, k2, k3, k4, k5, k6, k7, k8, _, z1, _, _⟩ := hSq
   have HWD := HCUR
   have stw := ST.out _ (HBC.out.trans (HCUR.out.mono HBC.out.size))
   unfold stepV at stw
   have STW := Lib.hid stw; clear stw
   go_wp2_with fail
   refine STW.out.mono ?_
   rintro e w5 ⟨rfl, hT5, hf5⟩
   clear k0 k1 k2 k3 k4 k5 k6 k7 k8 z1
   have hr5 := hf5.heap (HRW.out _ HWD.out) (fun e => by have := HFLT.out (w.heap.size + 1) e; omega)
   obtain ⟨⟨u0, u1, u2, u3, u4, u5, u6⟩, n0, n1, n2, n3, n4, n5, n6⟩ := seven_cells hr5
   have hfs := seven_fr w5 (.int .i64 0) (.int .i64 0) (.int .i64 0) (.int .i64 0) (.int .i64 0) (.bool false) (.slice none 0 0) (w.heap.size + 1)
   have hrs := seven_row hr5 (.int .i64 0) (.int .i64 0) (.int .i64 0) (.int .i64 0) (.int .i64 0) (.bool false) (.slice none 0 0)
   have hT6 := hT5.fr hfs (fun q hq e => by have := HFLT.out q hq; have e : q = w.heap.size + 1 := e; omega) (fun q hq e => by have := HOUT.out q hq; have e : q = w.heap.size + 1 := e; omega)
   have hfw := (Fr.of_below (HBC.out.trans (HWD.out.mono HBC.out.size)) F).trans hf5 (fun _ _ h => h)
   have hf6 := hfw.trans hfs (fun q hq e => by have e : q = w.heap.size + 1 := e; omega)
   have HPP := Lib.hid (show RunPost w F tb p X _ (actV 0 0 0 0 0 false (.slice none 0 0)) _ _ from ⟨rfl, F, X, hT6, rfl, fun _ h => .inl h, hf6⟩)
   clear hfs hr5 hT5 hT6 hfw hf6 hf5
   have HRS := Lib.hid hrs; clear hrs
   unfold actV
   go_wp2_with fail
   refine bodyPost_ret ?_ rfl HPP.out
   have k0 := (row_cell HRS.out 0).1; have k1 := (row_cell HRS.out 1).1; have k2 := (row_cell HRS.out 2).1; have k3 := (row_cell HRS.out 3).1; have k4 := (row_cell HRS.out 4).1; have k5 := (row_cell HRS.out 5).1; have k6 := (row_cell HRS.out 6).1; simp at k0 k1 k2 k3 k4 k5 k6; simp [results, Tryz.results69, go_sem, k0, k1, k2, k3, k4, k5, k6, actV]
set_option maxRecDepth 100000 in
set_option maxHeartbeats 3200000 in
theorem run_do6 (w : World) (F : Nat → Prop) (tb : Nat) (p : TPrg) (T : Tk) (X : TB) (h : TaskAt w F tb p T X) (ht : TkOk T) (P : List Part) (q : Part) (hP : T.parts = P ++ [q]) (hq : 0 ≤ q.pc ∧ q.pc ≤ 100000) (j : Nat) (hj : j < p.funcs.length) (hfj : q.fn = j) (bn : Nat) (hbn : q.base = bn) (sa sb sc : Nat) (hs : (sa : Int) < p.funcs[j].slots ∧ (sb : Int) < p.funcs[j].slots ∧ (sc : Int) < p.funcs[j].slots) (hs2 : sa ≤ 3000 ∧ sb ≤ 3000 ∧ sc ≤ 3000) (hin : bn + (2 + sa) < T.words.length ∧ bn + (2 + sb) < T.words.length ∧ bn + (2 + sc) < T.words.length) (xb xc : Int) (hxb : T.words[bn + (2 + sb)]? = some xb) (hxc : T.words[bn + (2 + sc)]? = some xc) (c0 c1 c2 mp : Value) :
  Calls Tryz.prog 69 #[.agg (stepV c0 c1 c2 mp tb 6 sa sb sc)] w (RunPost w F tb p X ⟨T.base, T.words.set (bn + (2 + sa)) (doV 6 xb xc).1, P ++ [⟨q.fn, q.pc + 1, q.base, q.ret, q.ta, q.tn, q.tc⟩], T.marks⟩ (actV 0 0 0 0 0 false (.slice none 0 0))) := by
 have st := fun wr (hw : Below w.heap.size w wr) => stSet_any wr F tb p T X (h.below hw) ht P q hP hq j hj hfj bn hbn sa hs.1 hs2.1 hin.1 (doV 6 xb xc).1 c0 c1 c2 mp 6 sa sb sc
 have hl : T.parts.length = P.length + 1 := by rw [hP]; simp
 have e0 : (T.parts[P.length]'(by omega)) = q := by simp only [hP]; simp
 have sl1 := fun wr (hw : Below w.heap.size w wr) => slot_in wr F tb p T X (h.below hw) ht P.length hl j hj (by rw [e0]; exact hfj) bn (by rw [e0]; exact hbn) sb hs.2.1 hs2.2.1 hin.2.1
 have sl2 := fun wr (hw : Below w.heap.size w wr) => slot_in wr F tb p T X (h.below hw) ht P.length hl j hj (by rw [e0]; exact hfj) bn (by rw [e0]; exact hbn) sc hs.2.2 hs2.2.2 hin.2.2
 rw [List.getElem?_eq_getElem hin.2.1] at hxb
 rw [List.getElem?_eq_getElem hin.2.2] at hxc
 injection hxb with hxb
 injection hxc with hxc
 rw [hxb] at sl1
 rw [hxc] at sl2
 have sl : ∀ wr, Below w.heap.size w wr → ∀ (s : Nat) (x : Int), ((s = sb ∧ x = xb) ∨ (s = sc ∧ x = xc)) → Calls Tryz.prog 33 #[.pointer (some ⟨tb, 0, none⟩), .int .i64 s] wr fun e w' => e = .returned (.int .i64 x) ∧ Below wr.heap.size wr w' := fun wr hw s x hx => by
  rcases hx with ⟨rfl, rfl⟩ | ⟨rfl, rfl⟩
  ·exact sl1 wr hw
  ·exact sl2 wr hw
 have dv := do_any 6 xb xc
 generalize (doV 6 xb xc).1 = dv1 at *
 generalize (doV 6 xb xc).2 = dv2 at *
 clear sl1 sl2 hxb hxc hl e0 hs hin
 have ST := Lib.hid st; clear st
 have SL := Lib.hid sl; clear sl
 have DV := Lib.hid dv; clear dv
 have hb0 := ((Below.refl w.heap.size w).alloc (Nat.le_refl _) (.cells (stepV c0 c1 c2 mp tb 6 sa sb sc) 124))
 have hb1 := hb0.alloc hb0.size act0
 have hr0 := row_alloc (heap_new w (.cells (stepV c0 c1 c2 mp tb 6 sa sb sc) 124)) act0
 have hr1 := heap_new (w.alloc (.cells (stepV c0 c1 c2 mp tb 6 sa sb sc) 124)) act0
 rw [show (w.alloc (.cells (stepV c0 c1 c2 mp tb 6 sa sb sc) 124)).heap.size = w.heap.size + 1 from by simp] at hr1
 obtain ⟨W, hW⟩ : ∃ W, W = (w.alloc (.cells (stepV c0 c1 c2 mp tb 6 sa sb sc) 124)).alloc act0 := ⟨_, rfl⟩
 rw [← hW] at hb1 hr0 hr1
 have HFLT := Lib.hid h.flt
 have HOUT := Lib.hid (fun k (hk : X.D k) => (h.out k hk).2)
 have hwz : W.heap.size = w.heap.size + 2 := by rw [hW]; simp
 unfold act0 at hW hr1
 unfold stepV at hW hr0
 have HW := Lib.hid hW
 have k4 : W.cell? ⟨w.heap.size, 4, none⟩ = some (.pointer (some ⟨tb, 0, none⟩)) := (row_cell hr0 4).1
 have k5 : W.cell? ⟨w.heap.size, 5, none⟩ = some (.int .i64 6) := (row_cell hr0 5).1
 have k6 : W.cell? ⟨w.heap.size, 6, none⟩ = some (.int .i64 sa) := (row_cell hr0 6).1
 have k7 : W.cell? ⟨w.heap.size, 7, none⟩ = some (.int .i64 sb) := (row_cell hr0 7).1
 have k8 : W.cell? ⟨w.heap.size, 8, none⟩ = some (.int .i64 sc) := (row_cell hr0 8).1
 have HRR := Lib.hid (Below.refl W.heap.size W)
 clear hb0 hW
 have HB1 := Lib.hid hb1; clear hb1
 have HR1 := Lib.hid hr1; clear hr1
 have HR0 := Lib.hid hr0; clear hr0
 have HWZ := Lib.hid hwz; clear hwz
 unfold stepV
 go_enter Tryz.func69, Tryz.ntmps69
 go_upto_region 1 with fail
 rw [← HW.out]
 go_cut [3, 4] (fun x y wx => ∃ z : Nat, x = .pointer (some ⟨z, 0, none⟩) ∧ y = .pointer (some ⟨tb, 0, none⟩) ∧ wx.heap[z]? = some (.cells #[.int .i64 6, .int .i64 sa, .int .i64 sb, .int .i64 sc] 59) ∧ w.heap.size + 2 ≤ z ∧ Below W.heap.size W wx)
 case first =>
  have bs := World.block_lt k4
  dsimp only at bs
  go_region
  all_goals
   go_wp2_with fail
   go_meet
   case rel => exact ⟨_, rfl, rfl, heap_new _ _, by have := HWZ.out; omega, (HRR.out.drew).alloc (HRR.out.size) _⟩
 case rest =>
  obtain ⟨z, rfl, rfl, hz, hzl, hR⟩ := hcut
  have hbc := HB1.out.trans (hR.mono HB1.out.size)
  have hrb := (Fr.of_below hR (fun _ => False)).heap HR0.out (fun h => h)
  have hrc := (Fr.of_below hR (fun _ => False)).heap HR1.out (fun h => h)
  have HBC := Lib.hid hbc
  have HRW := Lib.hid (fun wx (hw : Below wc.heap.size wc wx) => (Fr.of_below hw (fun _ => False)).heap hrc (fun h => h))
  have HSS := Lib.hid (show ∀ wx, Below wc.heap.size wc wx → wx.cell? ⟨w.heap.size, 0, none⟩ = some (c0) ∧ wx.cell? ⟨w.heap.size, 1, none⟩ = some (c1) ∧ wx.cell? ⟨w.heap.size, 2, none⟩ = some (c2) ∧ wx.cell? ⟨w.heap.size, 3, none⟩ = some (mp) ∧ wx.cell? ⟨w.heap.size, 4, none⟩ = some (.pointer (some ⟨tb, 0, none⟩)) ∧ wx.cell? ⟨w.heap.size, 5, none⟩ = some (.int .i64 6) ∧ wx.cell? ⟨w.heap.size, 6, none⟩ = some (.int .i64 sa) ∧ wx.cell? ⟨w.heap.size, 7, none⟩ = some (.int .i64 sb) ∧ wx.cell? ⟨w.heap.size, 8, none⟩ = some (.int .i64 sc) ∧ wx.cell? ⟨z, 0, none⟩ = some (.int .i64 6) ∧ wx.cell? ⟨z, 1, none⟩ = some (.int .i64 sa) ∧ wx.cell? ⟨z, 2, none⟩ = some (.int .i64 sb) ∧ wx.cell? ⟨z, 3, none⟩ = some (.int .i64 sc) from fun wx hw => by
   have g1 := (Fr.of_below hw (fun _ => False)).heap hrb (fun h => h)
   have g2 := (Fr.of_below hw (fun _ => False)).heap hz (fun h => h)
   exact ⟨(row_cell g1 0).1, (row_cell g1 1).1, (row_cell g1 2).1, (row_cell g1 3).1, (row_cell g1 4).1, (row_cell g1 5).1, (row_cell g1 6).1, (row_cell g1 7).1, (row_cell g1 8).1, (row_cell g2 0).1, (row_cell g2 1).1, (row_cell g2 2).1, (row_cell g2 3).1⟩)
  have hSd := HSS.out wc.drew (Below.refl wc.heap.size wc).drew
  have HRC := Lib.hid (Below.refl wc.heap.size wc)
  have HRD := Lib.hid (Below.refl wc.heap.size wc).drew
  have z0 : wc.cell? ⟨z, 0, none⟩ = some (.int .i64 6) := (row_cell hz 0).1
  clear hR hrb hrc hz k4 k5 k6 k7 k8 hbc
  have HCUR := HRD
  go_upto_region 13 with fail
  clear z0
  go_region_held3 (fun w' => w'.cell? ⟨w.heap.size, 0, none⟩ = some (c0) ∧ w'.cell? ⟨w.heap.size, 1, none⟩ = some (c1) ∧ w'.cell? ⟨w.heap.size, 2, none⟩ = some (c2) ∧ w'.cell? ⟨w.heap.size, 3, none⟩ = some (mp) ∧ w'.cell? ⟨w.heap.size, 4, none⟩ = some (.pointer (some ⟨tb, 0, none⟩)) ∧ w'.cell? ⟨w.heap.size, 5, none⟩ = some (.int .i64 6) ∧ w'.cell? ⟨w.heap.size, 6, none⟩ = some (.int .i64 sa) ∧ w'.cell? ⟨w.heap.size, 7, none⟩ = some (.int .i64 sb) ∧ w'.cell? ⟨w.heap.size, 8, none⟩ = some (.int .i64 sc) ∧ w'.cell? ⟨z, 0, none⟩ = some (.int .i64 6) ∧ w'.cell? ⟨z, 1, none⟩ = some (.int .i64 sa) ∧ w'.cell? ⟨z, 2, none⟩ = some (.int .i64 sb) ∧ w'.cell? ⟨z, 3, none⟩ = some (.int .i64 sc)) (first | with_reducible exact hSd | with_reducible exact hSq | go_keep) (first
   | (go_at_call 33
      refine (SL.out _ (HBC.out.trans (HCUR.out.mono HBC.out.size)) _ _ (by first | exact .inl ⟨rfl, rfl⟩ | exact .inr ⟨rfl, rfl⟩)).mono ?_
      rintro e wq ⟨rfl, hbq⟩
      have HCUR := Lib.hid (HCUR.out.trans (hbq.mono HCUR.out.size))
      have hSq := HSS.out _ HCUR.out
      clear hbq)
   | (go_at_call 97
      refine (DV.out _).mono ?_
      rintro e wd ⟨rfl, rfl⟩))
  all_goals
   obtain ⟨k0, k1, k2, k3, k4, k5, k6, k7, k8, _, z1, _, _⟩ := hSq
   have HWD := HCUR
   have stw := ST.out _ (HBC.out.trans (HCUR.out.mono HBC.out.size))
   unfold stepV at stw
   have STW := Lib.hid stw; clear stw
   go_wp2_with fail
   refine STW.out.mono ?_
   rintro e w5 ⟨rfl, hT5, hf5⟩
   clear k0 k1 k2 k3 k4 k5 k6 k7 k8 z1
   have hr5 := hf5.heap (HRW.out _ HWD.out) (fun e => by have := HFLT.out (w.heap.size + 1) e; omega)
   obtain ⟨⟨u0, u1, u2, u3, u4, u5, u6⟩, n0, n1, n2, n3, n4, n5, n6⟩ := seven_cells hr5
   have hfs := seven_fr w5 (.int .i64 0) (.int .i64 0) (.int .i64 0) (.int .i64 0) (.int .i64 0) (.bool false) (.slice none 0 0) (w.heap.size + 1)
   have hrs := seven_row hr5 (.int .i64 0) (.int .i64 0) (.int .i64 0) (.int .i64 0) (.int .i64 0) (.bool false) (.slice none 0 0)
   have hT6 := hT5.fr hfs (fun q hq e => by have := HFLT.out q hq; have e : q = w.heap.size + 1 := e; omega) (fun q hq e => by have := HOUT.out q hq; have e : q = w.heap.size + 1 := e; omega)
   have hfw := (Fr.of_below (HBC.out.trans (HWD.out.mono HBC.out.size)) F).trans hf5 (fun _ _ h => h)
   have hf6 := hfw.trans hfs (fun q hq e => by have e : q = w.heap.size + 1 := e; omega)
   have HPP := Lib.hid (show RunPost w F tb p X _ (actV 0 0 0 0 0 false (.slice none 0 0)) _ _ from ⟨rfl, F, X, hT6, rfl, fun _ h => .inl h, hf6⟩)
   clear hfs hr5 hT5 hT6 hfw hf6 hf5
   have HRS := Lib.hid hrs; clear hrs
   unfold actV
   go_wp2_with fail
   refine bodyPost_ret ?_ rfl HPP.out
   have k0 := (row_cell HRS.out 0).1; have k1 := (row_cell HRS.out 1).1; have k2 := (row_cell HRS.out 2).1; have k3 := (row_cell HRS.out 3).1; have k4 := (row_cell HRS.out 4).1; have k5 := (row_cell HRS.out 5).1; have k6 := (row_cell HRS.out 6).1; simp at k0 k1 k2 k3 k4 k5 k6; simp [results, Tryz.results69, go_sem, k0, k1, k2, k3, k4, k5, k6, actV]
set_option maxRecDepth 100000 in
set_option maxHeartbeats 3200000 in
theorem run_do7 (w : World) (F : Nat → Prop) (tb : Nat) (p : TPrg) (T : Tk) (X : TB) (h : TaskAt w F tb p T X) (ht : TkOk T) (P : List Part) (q : Part) (hP : T.parts = P ++ [q]) (hq : 0 ≤ q.pc ∧ q.pc ≤ 100000) (j : Nat) (hj : j < p.funcs.length) (hfj : q.fn = j) (bn : Nat) (hbn : q.base = bn) (sa sb sc : Nat) (hs : (sa : Int) < p.funcs[j].slots ∧ (sb : Int) < p.funcs[j].slots ∧ (sc : Int) < p.funcs[j].slots) (hs2 : sa ≤ 3000 ∧ sb ≤ 3000 ∧ sc ≤ 3000) (hin : bn + (2 + sa) < T.words.length ∧ bn + (2 + sb) < T.words.length ∧ bn + (2 + sc) < T.words.length) (xb xc : Int) (hxb : T.words[bn + (2 + sb)]? = some xb) (hxc : T.words[bn + (2 + sc)]? = some xc) (c0 c1 c2 mp : Value) :
  Calls Tryz.prog 69 #[.agg (stepV c0 c1 c2 mp tb 7 sa sb sc)] w (RunPost w F tb p X ⟨T.base, T.words.set (bn + (2 + sa)) (doV 7 xb xc).1, P ++ [⟨q.fn, q.pc + 1, q.base, q.ret, q.ta, q.tn, q.tc⟩], T.marks⟩ (actV 0 0 0 0 0 false (.slice none 0 0))) := by
 have st := fun wr (hw : Below w.heap.size w wr) => stSet_any wr F tb p T X (h.below hw) ht P q hP hq j hj hfj bn hbn sa hs.1 hs2.1 hin.1 (doV 7 xb xc).1 c0 c1 c2 mp 7 sa sb sc
 have hl : T.parts.length = P.length + 1 := by rw [hP]; simp
 have e0 : (T.parts[P.length]'(by omega)) = q := by simp only [hP]; simp
 have sl1 := fun wr (hw : Below w.heap.size w wr) => slot_in wr F tb p T X (h.below hw) ht P.length hl j hj (by rw [e0]; exact hfj) bn (by rw [e0]; exact hbn) sb hs.2.1 hs2.2.1 hin.2.1
 have sl2 := fun wr (hw : Below w.heap.size w wr) => slot_in wr F tb p T X (h.below hw) ht P.length hl j hj (by rw [e0]; exact hfj) bn (by rw [e0]; exact hbn) sc hs.2.2 hs2.2.2 hin.2.2
 rw [List.getElem?_eq_getElem hin.2.1] at hxb
 rw [List.getElem?_eq_getElem hin.2.2] at hxc
 injection hxb with hxb
 injection hxc with hxc
 rw [hxb] at sl1
 rw [hxc] at sl2
 have sl : ∀ wr, Below w.heap.size w wr → ∀ (s : Nat) (x : Int), ((s = sb ∧ x = xb) ∨ (s = sc ∧ x = xc)) → Calls Tryz.prog 33 #[.pointer (some ⟨tb, 0, none⟩), .int .i64 s] wr fun e w' => e = .returned (.int .i64 x) ∧ Below wr.heap.size wr w' := fun wr hw s x hx => by
  rcases hx with ⟨rfl, rfl⟩ | ⟨rfl, rfl⟩
  ·exact sl1 wr hw
  ·exact sl2 wr hw
 have dv := do_any 7 xb xc
 generalize (doV 7 xb xc).1 = dv1 at *
 generalize (doV 7 xb xc).2 = dv2 at *
 clear sl1 sl2 hxb hxc hl e0 hs hin
 have ST := Lib.hid st; clear st
 have SL := Lib.hid sl; clear sl
 have DV := Lib.hid dv; clear dv
 have hb0 := ((Below.refl w.heap.size w).alloc (Nat.le_refl _) (.cells (stepV c0 c1 c2 mp tb 7 sa sb sc) 124))
 have hb1 := hb0.alloc hb0.size act0
 have hr0 := row_alloc (heap_new w (.cells (stepV c0 c1 c2 mp tb 7 sa sb sc) 124)) act0
 have hr1 := heap_new (w.alloc (.cells (stepV c0 c1 c2 mp tb 7 sa sb sc) 124)) act0
 rw [show (w.alloc (.cells (stepV c0 c1 c2 mp tb 7 sa sb sc) 124)).heap.size = w.heap.size + 1 from by simp] at hr1
 obtain ⟨W, hW⟩ : ∃ W, W = (w.alloc (.cells (stepV c0 c1 c2 mp tb 7 sa sb sc) 124)).alloc act0 := ⟨_, rfl⟩
 rw [← hW] at hb1 hr0 hr1
 have HFLT := Lib.hid h.flt
 have HOUT := Lib.hid (fun k (hk : X.D k) => (h.out k hk).2)
 have hwz : W.heap.size = w.heap.size + 2 := by rw [hW]; simp
 unfold act0 at hW hr1
 unfold stepV at hW hr0
 have HW := Lib.hid hW
 have k4 : W.cell? ⟨w.heap.size, 4, none⟩ = some (.pointer (some ⟨tb, 0, none⟩)) := (row_cell hr0 4).1
 have k5 : W.cell? ⟨w.heap.size, 5, none⟩ = some (.int .i64 7) := (row_cell hr0 5).1
 have k6 : W.cell? ⟨w.heap.size, 6, none⟩ = some (.int .i64 sa) := (row_cell hr0 6).1
 have k7 : W.cell? ⟨w.heap.size, 7, none⟩ = some (.int .i64 sb) := (row_cell hr0 7).1
 have k8 : W.cell? ⟨w.heap.size, 8, none⟩ = some (.int .i64 sc) := (row_cell hr0 8).1
 have HRR := Lib.hid (Below.refl W.heap.size W)
 clear hb0 hW
 have HB1 := Lib.hid hb1; clear hb1
 have HR1 := Lib.hid hr1; clear hr1
 have HR0 := Lib.hid hr0; clear hr0
 have HWZ := Lib.hid hwz; clear hwz
 unfold stepV
 go_enter Tryz.func69, Tryz.ntmps69
 go_upto_region 1 with fail
 rw [← HW.out]
 go_cut [3, 4] (fun x y wx => ∃ z : Nat, x = .pointer (some ⟨z, 0, none⟩) ∧ y = .pointer (some ⟨tb, 0, none⟩) ∧ wx.heap[z]? = some (.cells #[.int .i64 7, .int .i64 sa, .int .i64 sb, .int .i64 sc] 59) ∧ w.heap.size + 2 ≤ z ∧ Below W.heap.size W wx)
 case first =>
  have bs := World.block_lt k4
  dsimp only at bs
  go_region
  all_goals
   go_wp2_with fail
   go_meet
   case rel => exact ⟨_, rfl, rfl, heap_new _ _, by have := HWZ.out; omega, (HRR.out.drew).alloc (HRR.out.size) _⟩
 case rest =>
  obtain ⟨z, rfl, rfl, hz, hzl, hR⟩ := hcut
  have hbc := HB1.out.trans (hR.mono HB1.out.size)
  have hrb := (Fr.of_below hR (fun _ => False)).heap HR0.out (fun h => h)
  have hrc := (Fr.of_below hR (fun _ => False)).heap HR1.out (fun h => h)
  have HBC := Lib.hid hbc
  have HRW := Lib.hid (fun wx (hw : Below wc.heap.size wc wx) => (Fr.of_below hw (fun _ => False)).heap hrc (fun h => h))
  have HSS := Lib.hid (show ∀ wx, Below wc.heap.size wc wx → wx.cell? ⟨w.heap.size, 0, none⟩ = some (c0) ∧ wx.cell? ⟨w.heap.size, 1, none⟩ = some (c1) ∧ wx.cell? ⟨w.heap.size, 2, none⟩ = some (c2) ∧ wx.cell? ⟨w.heap.size, 3, none⟩ = some (mp) ∧ wx.cell? ⟨w.heap.size, 4, none⟩ = some (.pointer (some ⟨tb, 0, none⟩)) ∧ wx.cell? ⟨w.heap.size, 5, none⟩ = some (.int .i64 7) ∧ wx.cell? ⟨w.heap.size, 6, none⟩ = some (.int .i64 sa) ∧ wx.cell? ⟨w.heap.size, 7, none⟩ = some (.int .i64 sb) ∧ wx.cell? ⟨w.heap.size, 8, none⟩ = some (.int .i64 sc) ∧ wx.cell? ⟨z, 0, none⟩ = some (.int .i64 7) ∧ wx.cell? ⟨z, 1, none⟩ = some (.int .i64 sa) ∧ wx.cell? ⟨z, 2, none⟩ = some (.int .i64 sb) ∧ wx.cell? ⟨z, 3, none⟩ = some (.int .i64 sc) from fun wx hw => by
   have g1 := (Fr.of_below hw (fun _ => False)).heap hrb (fun h => h)
   have g2 := (Fr.of_below hw (fun _ => False)).heap hz (fun h => h)
   exact ⟨(row_cell g1 0).1, (row_cell g1 1).1, (row_cell g1 2).1, (row_cell g1 3).1, (row_cell g1 4).1, (row_cell g1 5).1, (row_cell g1 6).1, (row_cell g1 7).1, (row_cell g1 8).1, (row_cell g2 0).1, (row_cell g2 1).1, (row_cell g2 2).1, (row_cell g2 3).1⟩)
  have hSd := HSS.out wc.drew (Below.refl wc.heap.size wc).drew
  have HRC := Lib.hid (Below.refl wc.heap.size wc)
  have HRD := Lib.hid (Below.refl wc.heap.size wc).drew
  have z0 : wc.cell? ⟨z, 0, none⟩ = some (.int .i64 7) := (row_cell hz 0).1
  clear hR hrb hrc hz k4 k5 k6 k7 k8 hbc
  have HCUR := HRD
  go_upto_region 13 with fail
  clear z0
  go_region_held3 (fun w' => w'.cell? ⟨w.heap.size, 0, none⟩ = some (c0) ∧ w'.cell? ⟨w.heap.size, 1, none⟩ = some (c1) ∧ w'.cell? ⟨w.heap.size, 2, none⟩ = some (c2) ∧ w'.cell? ⟨w.heap.size, 3, none⟩ = some (mp) ∧ w'.cell? ⟨w.heap.size, 4, none⟩ = some (.pointer (some ⟨tb, 0, none⟩)) ∧ w'.cell? ⟨w.heap.size, 5, none⟩ = some (.int .i64 7) ∧ w'.cell? ⟨w.heap.size, 6, none⟩ = some (.int .i64 sa) ∧ w'.cell? ⟨w.heap.size, 7, none⟩ = some (.int .i64 sb) ∧ w'.cell? ⟨w.heap.size, 8, none⟩ = some (.int .i64 sc) ∧ w'.cell? ⟨z, 0, none⟩ = some (.int .i64 7) ∧ w'.cell? ⟨z, 1, none⟩ = some (.int .i64 sa) ∧ w'.cell? ⟨z, 2, none⟩ = some (.int .i64 sb) ∧ w'.cell? ⟨z, 3, none⟩ = some (.int .i64 sc)) (first | with_reducible exact hSd | with_reducible exact hSq | go_keep) (first
   | (go_at_call 33
      refine (SL.out _ (HBC.out.trans (HCUR.out.mono HBC.out.size)) _ _ (by first | exact .inl ⟨rfl, rfl⟩ | exact .inr ⟨rfl, rfl⟩)).mono ?_
      rintro e wq ⟨rfl, hbq⟩
      have HCUR := Lib.hid (HCUR.out.trans (hbq.mono HCUR.out.size))
      have hSq := HSS.out _ HCUR.out
      clear hbq)
   | (go_at_call 97
      refine (DV.out _).mono ?_
      rintro e wd ⟨rfl, rfl⟩))
  all_goals
   obtain ⟨k0, k1, k2, k3, k4, k5, k6, k7, k8, _, z1, _, _⟩ := hSq
   have HWD := HCUR
   have stw := ST.out _ (HBC.out.trans (HCUR.out.mono HBC.out.size))
   unfold stepV at stw
   have STW := Lib.hid stw; clear stw
   go_wp2_with fail
   refine STW.out.mono ?_
   rintro e w5 ⟨rfl, hT5, hf5⟩
   clear k0 k1 k2 k3 k4 k5 k6 k7 k8 z1
   have hr5 := hf5.heap (HRW.out _ HWD.out) (fun e => by have := HFLT.out (w.heap.size + 1) e; omega)
   obtain ⟨⟨u0, u1, u2, u3, u4, u5, u6⟩, n0, n1, n2, n3, n4, n5, n6⟩ := seven_cells hr5
   have hfs := seven_fr w5 (.int .i64 0) (.int .i64 0) (.int .i64 0) (.int .i64 0) (.int .i64 0) (.bool false) (.slice none 0 0) (w.heap.size + 1)
   have hrs := seven_row hr5 (.int .i64 0) (.int .i64 0) (.int .i64 0) (.int .i64 0) (.int .i64 0) (.bool false) (.slice none 0 0)
   have hT6 := hT5.fr hfs (fun q hq e => by have := HFLT.out q hq; have e : q = w.heap.size + 1 := e; omega) (fun q hq e => by have := HOUT.out q hq; have e : q = w.heap.size + 1 := e; omega)
   have hfw := (Fr.of_below (HBC.out.trans (HWD.out.mono HBC.out.size)) F).trans hf5 (fun _ _ h => h)
   have hf6 := hfw.trans hfs (fun q hq e => by have e : q = w.heap.size + 1 := e; omega)
   have HPP := Lib.hid (show RunPost w F tb p X _ (actV 0 0 0 0 0 false (.slice none 0 0)) _ _ from ⟨rfl, F, X, hT6, rfl, fun _ h => .inl h, hf6⟩)
   clear hfs hr5 hT5 hT6 hfw hf6 hf5
   have HRS := Lib.hid hrs; clear hrs
   unfold actV
   go_wp2_with fail
   refine bodyPost_ret ?_ rfl HPP.out
   have k0 := (row_cell HRS.out 0).1; have k1 := (row_cell HRS.out 1).1; have k2 := (row_cell HRS.out 2).1; have k3 := (row_cell HRS.out 3).1; have k4 := (row_cell HRS.out 4).1; have k5 := (row_cell HRS.out 5).1; have k6 := (row_cell HRS.out 6).1; simp at k0 k1 k2 k3 k4 k5 k6; simp [results, Tryz.results69, go_sem, k0, k1, k2, k3, k4, k5, k6, actV]
set_option maxRecDepth 100000 in
set_option maxHeartbeats 3200000 in
theorem run_do8 (w : World) (F : Nat → Prop) (tb : Nat) (p : TPrg) (T : Tk) (X : TB) (h : TaskAt w F tb p T X) (ht : TkOk T) (P : List Part) (q : Part) (hP : T.parts = P ++ [q]) (hq : 0 ≤ q.pc ∧ q.pc ≤ 100000) (j : Nat) (hj : j < p.funcs.length) (hfj : q.fn = j) (bn : Nat) (hbn : q.base = bn) (sa sb sc : Nat) (hs : (sa : Int) < p.funcs[j].slots ∧ (sb : Int) < p.funcs[j].slots ∧ (sc : Int) < p.funcs[j].slots) (hs2 : sa ≤ 3000 ∧ sb ≤ 3000 ∧ sc ≤ 3000) (hin : bn + (2 + sa) < T.words.length ∧ bn + (2 + sb) < T.words.length ∧ bn + (2 + sc) < T.words.length) (xb xc : Int) (hxb : T.words[bn + (2 + sb)]? = some xb) (hxc : T.words[bn + (2 + sc)]? = some xc) (c0 c1 c2 mp : Value) :
  Calls Tryz.prog 69 #[.agg (stepV c0 c1 c2 mp tb 8 sa sb sc)] w (RunPost w F tb p X ⟨T.base, T.words.set (bn + (2 + sa)) (doV 8 xb xc).1, P ++ [⟨q.fn, q.pc + 1, q.base, q.ret, q.ta, q.tn, q.tc⟩], T.marks⟩ (actV 0 0 0 0 0 false (.slice none 0 0))) := by
 have st := fun wr (hw : Below w.heap.size w wr) => stSet_any wr F tb p T X (h.below hw) ht P q hP hq j hj hfj bn hbn sa hs.1 hs2.1 hin.1 (doV 8 xb xc).1 c0 c1 c2 mp 8 sa sb sc
 have hl : T.parts.length = P.length + 1 := by rw [hP]; simp
 have e0 : (T.parts[P.length]'(by omega)) = q := by simp only [hP]; simp
 have sl1 := fun wr (hw : Below w.heap.size w wr) => slot_in wr F tb p T X (h.below hw) ht P.length hl j hj (by rw [e0]; exact hfj) bn (by rw [e0]; exact hbn) sb hs.2.1 hs2.2.1 hin.2.1
 have sl2 := fun wr (hw : Below w.heap.size w wr) => slot_in wr F tb p T X (h.below hw) ht P.length hl j hj (by rw [e0]; exact hfj) bn (by rw [e0]; exact hbn) sc hs.2.2 hs2.2.2 hin.2.2
 rw [List.getElem?_eq_getElem hin.2.1] at hxb
 rw [List.getElem?_eq_getElem hin.2.2] at hxc
 injection hxb with hxb
 injection hxc with hxc
 rw [hxb] at sl1
 rw [hxc] at sl2
 have sl : ∀ wr, Below w.heap.size w wr → ∀ (s : Nat) (x : Int), ((s = sb ∧ x = xb) ∨ (s = sc ∧ x = xc)) → Calls Tryz.prog 33 #[.pointer (some ⟨tb, 0, none⟩), .int .i64 s] wr fun e w' => e = .returned (.int .i64 x) ∧ Below wr.heap.size wr w' := fun wr hw s x hx => by
  rcases hx with ⟨rfl, rfl⟩ | ⟨rfl, rfl⟩
  ·exact sl1 wr hw
  ·exact sl2 wr hw
 have dv := do_any 8 xb xc
 generalize (doV 8 xb xc).1 = dv1 at *
 generalize (doV 8 xb xc).2 = dv2 at *
 clear sl1 sl2 hxb hxc hl e0 hs hin
 have ST := Lib.hid st; clear st
 have SL := Lib.hid sl; clear sl
 have DV := Lib.hid dv; clear dv
 have hb0 := ((Below.refl w.heap.size w).alloc (Nat.le_refl _) (.cells (stepV c0 c1 c2 mp tb 8 sa sb sc) 124))
 have hb1 := hb0.alloc hb0.size act0
 have hr0 := row_alloc (heap_new w (.cells (stepV c0 c1 c2 mp tb 8 sa sb sc) 124)) act0
 have hr1 := heap_new (w.alloc (.cells (stepV c0 c1 c2 mp tb 8 sa sb sc) 124)) act0
 rw [show (w.alloc (.cells (stepV c0 c1 c2 mp tb 8 sa sb sc) 124)).heap.size = w.heap.size + 1 from by simp] at hr1
 obtain ⟨W, hW⟩ : ∃ W, W = (w.alloc (.cells (stepV c0 c1 c2 mp tb 8 sa sb sc) 124)).alloc act0 := ⟨_, rfl⟩
 rw [← hW] at hb1 hr0 hr1
 have HFLT := Lib.hid h.flt
 have HOUT := Lib.hid (fun k (hk : X.D k) => (h.out k hk).2)
 have hwz : W.heap.size = w.heap.size + 2 := by rw [hW]; simp
 unfold act0 at hW hr1
 unfold stepV at hW hr0
 have HW := Lib.hid hW
 have k4 : W.cell? ⟨w.heap.size, 4, none⟩ = some (.pointer (some ⟨tb, 0, none⟩)) := (row_cell hr0 4).1
 have k5 : W.cell? ⟨w.heap.size, 5, none⟩ = some (.int .i64 8) := (row_cell hr0 5).1
 have k6 : W.cell? ⟨w.heap.size, 6, none⟩ = some (.int .i64 sa) := (row_cell hr0 6).1
 have k7 : W.cell? ⟨w.heap.size, 7, none⟩ = some (.int .i64 sb) := (row_cell hr0 7).1
 have k8 : W.cell? ⟨w.heap.size, 8, none⟩ = some (.int .i64 sc) := (row_cell hr0 8).1
 have HRR := Lib.hid (Below.refl W.heap.size W)
 clear hb0 hW
 have HB1 := Lib.hid hb1; clear hb1
 have HR1 := Lib.hid hr1; clear hr1
 have HR0 := Lib.hid hr0; clear hr0
 have HWZ := Lib.hid hwz; clear hwz
 unfold stepV
 go_enter Tryz.func69, Tryz.ntmps69
 go_upto_region 1 with fail
 rw [← HW.out]
 go_cut [3, 4] (fun x y wx => ∃ z : Nat, x = .pointer (some ⟨z, 0, none⟩) ∧ y = .pointer (some ⟨tb, 0, none⟩) ∧ wx.heap[z]? = some (.cells #[.int .i64 8, .int .i64 sa, .int .i64 sb, .int .i64 sc] 59) ∧ w.heap.size + 2 ≤ z ∧ Below W.heap.size W wx)
 case first =>
  have bs := World.block_lt k4
  dsimp only at bs
  go_region
  all_goals
   go_wp2_with fail
   go_meet
   case rel => exact ⟨_, rfl, rfl, heap_new _ _, by have := HWZ.out; omega, (HRR.out.drew).alloc (HRR.out.size) _⟩
 case rest =>
  obtain ⟨z, rfl, rfl, hz, hzl, hR⟩ := hcut
  have hbc := HB1.out.trans (hR.mono HB1.out.size)
  have hrb := (Fr.of_below hR (fun _ => False)).heap HR0.out (fun h => h)
  have hrc := (Fr.of_below hR (fun _ => False)).heap HR1.out (fun h => h)
  have HBC := Lib.hid hbc
  have HRW := Lib.hid (fun wx (hw : Below wc.heap.size wc wx) => (Fr.of_below hw (fun _ => False)).heap hrc (fun h => h))
  have HSS := Lib.hid (show ∀ wx, Below wc.heap.size wc wx → wx.cell? ⟨w.heap.size, 0, none⟩ = some (c0) ∧ wx.cell? ⟨w.heap.size, 1, none⟩ = some (c1) ∧ wx.cell? ⟨w.heap.size, 2, none⟩ = some (c2) ∧ wx.cell? ⟨w.heap.size, 3, none⟩ = some (mp) ∧ wx.cell? ⟨w.heap.size, 4, none⟩ = some (.pointer (some ⟨tb, 0, none⟩)) ∧ wx.cell? ⟨w.heap.size, 5, none⟩ = some (.int .i64 8) ∧ wx.cell? ⟨w.heap.size, 6, none⟩ = some (.int .i64 sa) ∧ wx.cell? ⟨w.heap.size, 7, none⟩ = some (.int .i64 sb) ∧ wx.cell? ⟨w.heap.size, 8, none⟩ = some (.int .i64 sc) ∧ wx.cell? ⟨z, 0, none⟩ = some (.int .i64 8) ∧ wx.cell? ⟨z, 1, none⟩ = some (.int .i64 sa) ∧ wx.cell? ⟨z, 2, none⟩ = some (.int .i64 sb) ∧ wx.cell? ⟨z, 3, none⟩ = some (.int .i64 sc) from fun wx hw => by
   have g1 := (Fr.of_below hw (fun _ => False)).heap hrb (fun h => h)
   have g2 := (Fr.of_below hw (fun _ => False)).heap hz (fun h => h)
   exact ⟨(row_cell g1 0).1, (row_cell g1 1).1, (row_cell g1 2).1, (row_cell g1 3).1, (row_cell g1 4).1, (row_cell g1 5).1, (row_cell g1 6).1, (row_cell g1 7).1, (row_cell g1 8).1, (row_cell g2 0).1, (row_cell g2 1).1, (row_cell g2 2).1, (row_cell g2 3).1⟩)
  have hSd := HSS.out wc.drew (Below.refl wc.heap.size wc).drew
  have HRC := Lib.hid (Below.refl wc.heap.size wc)
  have HRD := Lib.hid (Below.refl wc.heap.size wc).drew
  have z0 : wc.cell? ⟨z, 0, none⟩ = some (.int .i64 8) := (row_cell hz 0).1
  clear hR hrb hrc hz k4 k5 k6 k7 k8 hbc
  have HCUR := HRD
  go_upto_region 13 with fail
  clear z0
  go_region_held3 (fun w' => w'.cell? ⟨w.heap.size, 0, none⟩ = some (c0) ∧ w'.cell? ⟨w.heap.size, 1, none⟩ = some (c1) ∧ w'.cell? ⟨w.heap.size, 2, none⟩ = some (c2) ∧ w'.cell? ⟨w.heap.size, 3, none⟩ = some (mp) ∧ w'.cell? ⟨w.heap.size, 4, none⟩ = some (.pointer (some ⟨tb, 0, none⟩)) ∧ w'.cell? ⟨w.heap.size, 5, none⟩ = some (.int .i64 8) ∧ w'.cell? ⟨w.heap.size, 6, none⟩ = some (.int .i64 sa) ∧ w'.cell? ⟨w.heap.size, 7, none⟩ = some (.int .i64 sb) ∧ w'.cell? ⟨w.heap.size, 8, none⟩ = some (.int .i64 sc) ∧ w'.cell? ⟨z, 0, none⟩ = some (.int .i64 8) ∧ w'.cell? ⟨z, 1, none⟩ = some (.int .i64 sa) ∧ w'.cell? ⟨z, 2, none⟩ = some (.int .i64 sb) ∧ w'.cell? ⟨z, 3, none⟩ = some (.int .i64 sc)) (first | with_reducible exact hSd | with_reducible exact hSq | go_keep) (first
   | (go_at_call 33
      refine (SL.out _ (HBC.out.trans (HCUR.out.mono HBC.out.size)) _ _ (by first | exact .inl ⟨rfl, rfl⟩ | exact .inr ⟨rfl, rfl⟩)).mono ?_
      rintro e wq ⟨rfl, hbq⟩
      have HCUR := Lib.hid (HCUR.out.trans (hbq.mono HCUR.out.size))
      have hSq := HSS.out _ HCUR.out
      clear hbq)
   | (go_at_call 97
      refine (DV.out _).mono ?_
      rintro e wd ⟨rfl, rfl⟩))
  all_goals
   obtain ⟨k0, k1, k2, k3, k4, k5, k6, k7, k8, _, z1, _, _⟩ := hSq
   have HWD := HCUR
   have stw := ST.out _ (HBC.out.trans (HCUR.out.mono HBC.out.size))
   unfold stepV at stw
   have STW := Lib.hid stw; clear stw
   go_wp2_with fail
   refine STW.out.mono ?_
   rintro e w5 ⟨rfl, hT5, hf5⟩
   clear k0 k1 k2 k3 k4 k5 k6 k7 k8 z1
   have hr5 := hf5.heap (HRW.out _ HWD.out) (fun e => by have := HFLT.out (w.heap.size + 1) e; omega)
   obtain ⟨⟨u0, u1, u2, u3, u4, u5, u6⟩, n0, n1, n2, n3, n4, n5, n6⟩ := seven_cells hr5
   have hfs := seven_fr w5 (.int .i64 0) (.int .i64 0) (.int .i64 0) (.int .i64 0) (.int .i64 0) (.bool false) (.slice none 0 0) (w.heap.size + 1)
   have hrs := seven_row hr5 (.int .i64 0) (.int .i64 0) (.int .i64 0) (.int .i64 0) (.int .i64 0) (.bool false) (.slice none 0 0)
   have hT6 := hT5.fr hfs (fun q hq e => by have := HFLT.out q hq; have e : q = w.heap.size + 1 := e; omega) (fun q hq e => by have := HOUT.out q hq; have e : q = w.heap.size + 1 := e; omega)
   have hfw := (Fr.of_below (HBC.out.trans (HWD.out.mono HBC.out.size)) F).trans hf5 (fun _ _ h => h)
   have hf6 := hfw.trans hfs (fun q hq e => by have e : q = w.heap.size + 1 := e; omega)
   have HPP := Lib.hid (show RunPost w F tb p X _ (actV 0 0 0 0 0 false (.slice none 0 0)) _ _ from ⟨rfl, F, X, hT6, rfl, fun _ h => .inl h, hf6⟩)
   clear hfs hr5 hT5 hT6 hfw hf6 hf5
   have HRS := Lib.hid hrs; clear hrs
   unfold actV
   go_wp2_with fail
   refine bodyPost_ret ?_ rfl HPP.out
   have k0 := (row_cell HRS.out 0).1; have k1 := (row_cell HRS.out 1).1; have k2 := (row_cell HRS.out 2).1; have k3 := (row_cell HRS.out 3).1; have k4 := (row_cell HRS.out 4).1; have k5 := (row_cell HRS.out 5).1; have k6 := (row_cell HRS.out 6).1; simp at k0 k1 k2 k3 k4 k5 k6; simp [results, Tryz.results69, go_sem, k0, k1, k2, k3, k4, k5, k6, actV]
end Go.Proofs.YthkhgihjigmkoaaGreat.Tk
