/- Walks: a step's local: LLoad, LStore. -/
import Derived.Test.YthkhgihjigmkoaaGreatSBq
set_option linter.unusedVariables false
set_option linter.unusedSimpArgs false
namespace Go.Proofs.YthkhgihjigmkoaaGreat.Tk
open Go.ChangeShapes Go.WideShapes Go.ChangeAt Go.RowKit Go.Maps
set_option maxRecDepth 100000 in
set_option maxHeartbeats 3200000 in
theorem local_lload (w : World) (F : Nat → Prop) (tb : Nat) (p : TPrg) (T : Tk) (X : TB) (h : TaskAt w F tb p T X) (hp : PSmall p) (ht : TkOk T) (P : List Part) (q : Part) (hP : T.parts = P ++ [q]) (hq : 0 ≤ q.pc ∧ q.pc ≤ 100000) (hi : ∀ q ∈ T.parts, ∃ j : Nat, j < p.funcs.length ∧ q.fn = j) (hB : baseOk T.base) (j : Nat) (hj : j < p.funcs.length) (hfj : q.fn = j) (bn : Nat) (hbn : q.base = bn) (sa sb : Nat) (hs : (sa : Int) < p.funcs[j].slots ∧ (sb : Int) < p.funcs[j].slots) (hs2 : sa ≤ 3000 ∧ sb ≤ 3000) (hin : bn + (2 + sa) < T.words.length ∧ bn + (2 + sb) < T.words.length) (x : Int) (hx : T.words[bn + (2 + sb)]? = some x) (ic v : Int) (hv : IntKind.i64.wrap (x + ic) = v) (hwi : withinR p T v) (k : Nat) (hk : k < T.words.length) (hvk : v - T.base = k) (y : Int) (hy : T.words[k]? = some y) (c0 c1 c2 mp : Value) :
    Calls Tryz.prog 99 #[.agg (stepV c0 c1 c2 mp tb 19 sa sb ic)] w (RunPost w F tb p X ⟨T.base, T.words.set (bn + (2 + sa)) y, P ++ [⟨q.fn, q.pc + 1, q.base, q.ret, q.ta, q.tn, q.tc⟩], T.marks⟩ (actV 0 0 0 0 0 false (.slice none 0 0))) := by
  have hl : T.parts.length = P.length + 1 := by rw [hP]; simp
  have e0 : (T.parts[P.length]'(by omega)) = q := by simp only [hP]; simp
  have sl := fun wr (hw : Below w.heap.size w wr) => slot_in wr F tb p T X (h.below hw) ht P.length hl j hj (by rw [e0]; exact hfj) bn (by rw [e0]; exact hbn) sb hs.2 hs2.2 hin.2
  rw [List.getElem?_eq_getElem hin.2] at hx
  injection hx with hx
  rw [hx] at sl
  have wd := fun wr (hw : Below w.heap.size w wr) => word_in wr F tb p T X (h.below hw) hp ht hi hB v hwi k hk hvk
  rw [List.getElem?_eq_getElem hk] at hy
  injection hy with hy
  rw [hy] at wd
  have st := fun wr (hw : Below w.heap.size w wr) => stSet_any wr F tb p T X (h.below hw) ht P q hP hq j hj hfj bn hbn sa hs.1 hs2.1 hin.1 y c0 c1 c2 mp 19 sa sb ic
  clear hl e0 hs hx hwi hvk hi hB hp ht hy hk
  have SL := Lib.hid sl; clear sl
  have WD := Lib.hid wd; clear wd
  have ST := Lib.hid st; clear st
  have hb0 := ((Below.refl w.heap.size w).alloc (Nat.le_refl _) (.cells (stepV c0 c1 c2 mp tb 19 sa sb ic) 124))
  have hb1 := hb0.alloc hb0.size act0
  have hr0 := row_alloc (heap_new w (.cells (stepV c0 c1 c2 mp tb 19 sa sb ic) 124)) act0
  have hr1 := heap_new (w.alloc (.cells (stepV c0 c1 c2 mp tb 19 sa sb ic) 124)) act0
  rw [show (w.alloc (.cells (stepV c0 c1 c2 mp tb 19 sa sb ic) 124)).heap.size = w.heap.size + 1 from by simp] at hr1
  obtain ⟨W, hW⟩ : ∃ W, W = (w.alloc (.cells (stepV c0 c1 c2 mp tb 19 sa sb ic) 124)).alloc act0 := ⟨_, rfl⟩
  rw [← hW] at hb1 hr0 hr1
  have HFLT := Lib.hid h.flt
  have HOUT := Lib.hid (fun k (hk : X.D k) => (h.out k hk).2)
  have hwz : W.heap.size = w.heap.size + 2 := by rw [hW]; simp
  unfold act0 at hW hr1
  unfold stepV at hW hr0
  have HW := Lib.hid hW
  have k4 : W.cell? ⟨w.heap.size, 4, none⟩ = some (.pointer (some ⟨tb, 0, none⟩)) := (row_cell hr0 4).1
  have k5 : W.cell? ⟨w.heap.size, 5, none⟩ = some (.int .i64 19) := (row_cell hr0 5).1
  have k6 : W.cell? ⟨w.heap.size, 6, none⟩ = some (.int .i64 sa) := (row_cell hr0 6).1
  have k7 : W.cell? ⟨w.heap.size, 7, none⟩ = some (.int .i64 sb) := (row_cell hr0 7).1
  have k8 : W.cell? ⟨w.heap.size, 8, none⟩ = some (.int .i64 ic) := (row_cell hr0 8).1
  have HRR := Lib.hid (Below.refl W.heap.size W)
  clear hb0 hW
  have HB1 := Lib.hid hb1; clear hb1
  have HR1 := Lib.hid hr1; clear hr1
  have HR0 := Lib.hid hr0; clear hr0
  have HWZ := Lib.hid hwz; clear hwz
  unfold stepV
  go_enter Tryz.func99, Tryz.ntmps99
  go_upto_region 1 with fail
  rw [← HW.out]
  go_cut [3, 4] (fun x y wx => ∃ z : Nat, x = .pointer (some ⟨z, 0, none⟩) ∧ y = .pointer (some ⟨tb, 0, none⟩) ∧ wx.heap[z]? = some (.cells #[.int .i64 19, .int .i64 sa, .int .i64 sb, .int .i64 ic] 59) ∧ w.heap.size + 2 ≤ z ∧ Below W.heap.size W wx)
  case first =>
    have bs := World.block_lt k4
    dsimp only at bs
    go_region
    all_goals
      go_wp2_with fail
      go_meet
      case rel => exact ⟨_, rfl, rfl, heap_new _ _, by have := HWZ.out; omega, (HRR.out.drew).alloc (HRR.out.size) _⟩
  case rest =>
    obtain ⟨z, rfl, rfl, hz, hzl, hR⟩ := hcut
    have hbc := HB1.out.trans (hR.mono HB1.out.size)
    have hrb := (Fr.of_below hR (fun _ => False)).heap HR0.out (fun h => h)
    have hrc := (Fr.of_below hR (fun _ => False)).heap HR1.out (fun h => h)
    have HBC := Lib.hid hbc
    have HSZ := Lib.hid (show w.heap.size + 2 ≤ wc.heap.size from by have := hR.size; have := HWZ.out; omega)
    have HRW := Lib.hid (fun wx (hw : Below wc.heap.size wc wx) => (Fr.of_below hw (fun _ => False)).heap hrc (fun h => h))
    have HSS := Lib.hid (show ∀ wx, Below wc.heap.size wc wx → wx.cell? ⟨w.heap.size, 0, none⟩ = some (c0) ∧ wx.cell? ⟨w.heap.size, 1, none⟩ = some (c1) ∧ wx.cell? ⟨w.heap.size, 2, none⟩ = some (c2) ∧ wx.cell? ⟨w.heap.size, 3, none⟩ = some (mp) ∧ wx.cell? ⟨w.heap.size, 4, none⟩ = some (.pointer (some ⟨tb, 0, none⟩)) ∧ wx.cell? ⟨w.heap.size, 5, none⟩ = some (.int .i64 19) ∧ wx.cell? ⟨w.heap.size, 6, none⟩ = some (.int .i64 sa) ∧ wx.cell? ⟨w.heap.size, 7, none⟩ = some (.int .i64 sb) ∧ wx.cell? ⟨w.heap.size, 8, none⟩ = some (.int .i64 ic) ∧ wx.cell? ⟨z, 0, none⟩ = some (.int .i64 19) ∧ wx.cell? ⟨z, 1, none⟩ = some (.int .i64 sa) ∧ wx.cell? ⟨z, 2, none⟩ = some (.int .i64 sb) ∧ wx.cell? ⟨z, 3, none⟩ = some (.int .i64 ic) from fun wx hw => by
      have g1 := (Fr.of_below hw (fun _ => False)).heap hrb (fun h => h)
      have g2 := (Fr.of_below hw (fun _ => False)).heap hz (fun h => h)
      exact ⟨(row_cell g1 0).1, (row_cell g1 1).1, (row_cell g1 2).1, (row_cell g1 3).1, (row_cell g1 4).1, (row_cell g1 5).1, (row_cell g1 6).1, (row_cell g1 7).1, (row_cell g1 8).1, (row_cell g2 0).1, (row_cell g2 1).1, (row_cell g2 2).1, (row_cell g2 3).1⟩)
    have hSd := HSS.out wc.drew (Below.refl wc.heap.size wc).drew
    have HRC := Lib.hid (Below.refl wc.heap.size wc)
    have HRD := Lib.hid (Below.refl wc.heap.size wc).drew
    have z0 : wc.cell? ⟨z, 0, none⟩ = some (.int .i64 19) := (row_cell hz 0).1
    clear hR hrb hrc hz k4 k5 k6 k7 k8 hbc
    clear hSd
    go_upto_region 13 with fail
    clear z0
    have HKK := Lib.hid (fun wx (hx : Below wc.heap.size wc wx) => HSS.out wx hx)
    have sl4 := fun wx (hx : Below wc.heap.size wc wx) => SL.out wx (HBC.out.trans (hx.mono HBC.out.size))
    have wd4 := fun wx (hx : Below wc.heap.size wc wx) => WD.out wx (HBC.out.trans (hx.mono HBC.out.size))
    have SL4 := Lib.hid sl4; clear sl4
    have WD4 := Lib.hid wd4; clear wd4
    refine wp_region_noPanic ?_
    refine wp_region_held_drew (S := fun w' => Below wc.heap.size wc w') (by kernel_rfl) (Below.refl _ _).drew (fun _ => ?_)
    have HR1 := Lib.hid (Below.refl wc.heap.size wc).drew
    generalize wc.drew = r1 at *
    refine wpAnyH_take (i := 0) (v := ?_) rfl (by kernel_rfl) (by kernel_rfl) (by kernel_rfl) (fun _ _ _ h => h) (Or.inl ⟨by kernel_rfl, ?tq1⟩) HR1.out ?_
    case tq1 => (intro wq hq; obtain ⟨f0, f1, f2, f3, f4, f5, f6, f7, f8, f9, f10, f11, f12⟩ := HKK.out wq hq; go_simp; first | done | with_reducible rfl)
    refine wpAnyH_take (i := 1) (v := ?_) rfl (by kernel_rfl) (by kernel_rfl) (by kernel_rfl) (fun _ _ _ h => h) (Or.inl ⟨by kernel_rfl, ?tq2⟩) HR1.out ?_
    case tq2 => (intro wq hq; obtain ⟨f0, f1, f2, f3, f4, f5, f6, f7, f8, f9, f10, f11, f12⟩ := HKK.out wq hq; go_simp; first | done | with_reducible rfl)
    refine wpAnyH_take (i := 2) (v := ?_) rfl (by kernel_rfl) (by kernel_rfl) (by kernel_rfl) (fun _ _ _ h => h) (Or.inl ⟨by kernel_rfl, ?tq3⟩) HR1.out ?_
    case tq3 => (intro wq hq; obtain ⟨f0, f1, f2, f3, f4, f5, f6, f7, f8, f9, f10, f11, f12⟩ := HKK.out wq hq; go_simp; first | done | with_reducible rfl)
    refine wpAnyH_take (i := 3) (v := ?_) rfl (by kernel_rfl) (by kernel_rfl) (by kernel_rfl) (fun _ _ _ h => h) (Or.inl ⟨by kernel_rfl, ?tq4⟩) HR1.out ?_
    case tq4 => (intro wq hq; obtain ⟨f0, f1, f2, f3, f4, f5, f6, f7, f8, f9, f10, f11, f12⟩ := HKK.out wq hq; go_simp; first | done | with_reducible rfl)
    refine wpAnyH_take (i := 5) (v := ?_) rfl (by kernel_rfl) (by kernel_rfl) (by kernel_rfl) (fun _ _ _ h => h) (Or.inl ⟨by kernel_rfl, ?tq5⟩) HR1.out ?_
    case tq5 => (intro wq hq; obtain ⟨f0, f1, f2, f3, f4, f5, f6, f7, f8, f9, f10, f11, f12⟩ := HKK.out wq hq; go_simp; first | done | with_reducible rfl)
    refine wpAnyH_take (i := 6) (v := ?_) rfl (by kernel_rfl) (by kernel_rfl) (by kernel_rfl) (fun _ _ _ h => h) (Or.inl ⟨by kernel_rfl, ?tq6⟩) HR1.out ?_
    case tq6 => (intro wq hq; obtain ⟨f0, f1, f2, f3, f4, f5, f6, f7, f8, f9, f10, f11, f12⟩ := HKK.out wq hq; go_simp; first | done | with_reducible rfl)
    refine wpAnyH_ready (rs := [4]) (by kernel_rfl) (by simp) ?_
    refine (AllReadyH.cons rfl (fun K hK => ?_) AllReadyH.nil)
    go_simp
    go_at_call 33
    refine (SL4.out r1 HR1.out).mono ?_
    rintro e r2 ⟨rfl, hb⟩
    have HR2 := Lib.hid (HR1.out.trans (hb.mono HR1.out.size))
    clear hb
    refine hK.out _ _ HR2.out (fun _ => ?_)
    clear hK K
    refine wpAnyH_take (i := 7) (v := ?_) rfl (by kernel_rfl) (by kernel_rfl) (by kernel_rfl) (fun _ _ _ h => h) (Or.inl ⟨by kernel_rfl, ?tq7⟩) HR2.out ?_
    case tq7 => (intro wq hq; obtain ⟨f0, f1, f2, f3, f4, f5, f6, f7, f8, f9, f10, f11, f12⟩ := HKK.out wq hq; go_simp; first | done | with_reducible rfl)
    refine wpAnyH_ready (rs := [8]) (by kernel_rfl) (by simp) ?_
    refine (AllReadyH.cons rfl (fun K hK => ?_) AllReadyH.nil)
    go_simp
    go_at_call 24
    refine (WD4.out r2 HR2.out).mono ?_
    rintro e r3 ⟨rfl, hb⟩
    have HR3 := Lib.hid (HR2.out.trans (hb.mono HR2.out.size))
    clear hb
    refine hK.out _ _ HR3.out (fun _ => ?_)
    clear hK K
    refine wpAnyH_take (i := 9) (v := ?_) rfl (by kernel_rfl) (by kernel_rfl) (by kernel_rfl) (fun _ _ _ h => h) (Or.inl ⟨by kernel_rfl, ?tq8⟩) HR3.out ?_
    case tq8 => (intro wq hq; obtain ⟨f0, f1, f2, f3, f4, f5, f6, f7, f8, f9, f10, f11, f12⟩ := HKK.out wq hq; go_simp; first | done | with_reducible rfl)
    refine wpAnyH_take (i := 10) (v := ?_) rfl (by kernel_rfl) (by kernel_rfl) (by kernel_rfl) (fun _ _ _ h => h) (Or.inl ⟨by kernel_rfl, ?tq9⟩) HR3.out ?_
    case tq9 => (intro wq hq; obtain ⟨f0, f1, f2, f3, f4, f5, f6, f7, f8, f9, f10, f11, f12⟩ := HKK.out wq hq; go_simp; first | done | with_reducible rfl)
    refine wpAnyH_take (i := 11) (v := ?_) rfl (by kernel_rfl) (by kernel_rfl) (by kernel_rfl) (fun _ _ _ h => h) (Or.inl ⟨by kernel_rfl, ?tq10⟩) HR3.out ?_
    case tq10 => (intro wq hq; obtain ⟨f0, f1, f2, f3, f4, f5, f6, f7, f8, f9, f10, f11, f12⟩ := HKK.out wq hq; go_simp; first | done | with_reducible rfl)
    refine wpAnyH_ready (rs := [12]) (by kernel_rfl) (by simp) ?_
    refine (AllReadyH.cons rfl (fun K hK => ?_) AllReadyH.nil)
    go_simp
    refine hK.out _ _ HR3.out (fun _ => ?_)
    clear hK K
    refine wpAnyH_ready (rs := [13]) (by kernel_rfl) (by simp) ?_
    refine (AllReadyH.cons rfl (fun K hK => ?_) AllReadyH.nil)
    go_simp
    refine hK.out _ _ HR3.out (fun _ => ?_)
    clear hK K
    refine wpAnyH_done (by kernel_rfl) ?_ _
    refine NoPanic.normal ?_
    have hS := HSS.out _ HR3.out
    obtain ⟨y0, y1, y2, y3, y4, y5, y6, y7, y8, z0, z1, z2, z3⟩ := hS
    have st := ST.out r3 (HBC.out.trans (HR3.out.mono HBC.out.size))
    unfold stepV at st
    have ST := Lib.hid st; clear st
    go_wp2_with fail
    refine ST.out.mono ?_
    rintro e w5 ⟨rfl, hT5, hf5⟩
    have HWD := HR3
    obtain ⟨F', X', hT5, hXD, hF', hf5⟩ : ∃ F' X', TaskAt w5 F' tb p _ X' ∧ X'.D = X.D ∧ (∀ k, F' k → F k ∨ r3.heap.size ≤ k) ∧ Fr F r3 w5 := ⟨F, X, hT5, rfl, fun _ h => .inl h, hf5⟩
    clear y0 y1 y2 y3 y4 y5 y6 y7 y8 z0 z1 z2 z3
    have hsz5 : w.heap.size + 2 ≤ wc.heap.size := by have := HSZ.out; omega
    have hr5 := hf5.heap (HRW.out _ HWD.out) (fun e => by have := HFLT.out (w.heap.size + 1) e; omega)
    obtain ⟨⟨u0, u1, u2, u3, u4, u5, u6⟩, n0, n1, n2, n3, n4, n5, n6⟩ := seven_cells hr5
    have hfs := seven_fr w5 (.int .i64 0) (.int .i64 0) (.int .i64 0) (.int .i64 0) (.int .i64 0) (.bool false) (.slice none 0 0) (w.heap.size + 1)
    have hrs := seven_row hr5 (.int .i64 0) (.int .i64 0) (.int .i64 0) (.int .i64 0) (.int .i64 0) (.bool false) (.slice none 0 0)
    have hFz : ∀ q, F' q → q ≠ w.heap.size + 1 := fun q hq e => by
      rcases hF' q hq with h1 | h1
      · have := HFLT.out q h1; omega
      · have := HWD.out.size; omega
    have hT6 := hT5.fr hfs (fun q hq e => hFz q hq e) (fun q hq e => by rw [hXD] at hq; have := HOUT.out q hq; have e : q = w.heap.size + 1 := e; omega)
    have hfw := (Fr.of_below (HBC.out.trans (HWD.out.mono HBC.out.size)) F).trans hf5 (fun _ _ h => h)
    have hf6 := hfw.trans hfs (fun q hq e => by have e : q = w.heap.size + 1 := e; omega)
    have hF6 : ∀ q, F' q → F q ∨ w.heap.size ≤ q := fun q hq => (hF' q hq).imp id (fun h1 => by have := HWD.out.size; omega)
    have HPP := Lib.hid (show RunPost w F tb p X _ (actV 0 0 0 0 0 false (.slice none 0 0)) _ _ from ⟨rfl, F', X', hT6, hXD, hF6, hf6⟩)
    clear hfs hr5 hT5 hT6 hfw hf6 hf5 hF6 hFz hF' hXD hsz5
    have HRS := Lib.hid hrs; clear hrs
    unfold actV
    go_wp2_with fail
    refine bodyPost_ret ?_ rfl HPP.out
    have k0 := (row_cell HRS.out 0).1; have k1 := (row_cell HRS.out 1).1; have k2 := (row_cell HRS.out 2).1; have k3 := (row_cell HRS.out 3).1; have k4 := (row_cell HRS.out 4).1; have k5 := (row_cell HRS.out 5).1; have k6 := (row_cell HRS.out 6).1; simp at k0 k1 k2 k3 k4 k5 k6; simp [results, Tryz.results99, go_sem, k0, k1, k2, k3, k4, k5, k6, actV]
set_option maxRecDepth 100000 in
set_option maxHeartbeats 3200000 in
theorem local_lstore (w : World) (F : Nat → Prop) (tb : Nat) (p : TPrg) (T : Tk) (X : TB) (h : TaskAt w F tb p T X) (hp : PSmall p) (ht : TkOk T) (P : List Part) (q : Part) (hP : T.parts = P ++ [q]) (hq : 0 ≤ q.pc ∧ q.pc ≤ 100000) (hi : ∀ q ∈ T.parts, ∃ j : Nat, j < p.funcs.length ∧ q.fn = j) (hB : baseOk T.base) (j : Nat) (hj : j < p.funcs.length) (hfj : q.fn = j) (bn : Nat) (hbn : q.base = bn) (sa sc : Nat) (hs : (sa : Int) < p.funcs[j].slots ∧ (sc : Int) < p.funcs[j].slots) (hs2 : sa ≤ 3000 ∧ sc ≤ 3000) (hin : bn + (2 + sa) < T.words.length ∧ bn + (2 + sc) < T.words.length) (x : Int) (hx : T.words[bn + (2 + sa)]? = some x) (ib v : Int) (hv : IntKind.i64.wrap (x + ib) = v) (hwi : withinR p T v) (k : Nat) (hk : k < T.words.length) (hvk : v - T.base = k) (y : Int) (hy : T.words[bn + (2 + sc)]? = some y) (c0 c1 c2 mp : Value) :
    Calls Tryz.prog 99 #[.agg (stepV c0 c1 c2 mp tb 20 sa ib sc)] w (RunPost w F tb p X ⟨T.base, T.words.set k y, P ++ [⟨q.fn, q.pc + 1, q.base, q.ret, q.ta, q.tn, q.tc⟩], T.marks⟩ (actV 0 0 0 0 0 false (.slice none 0 0))) := by
  have hl : T.parts.length = P.length + 1 := by rw [hP]; simp
  have e0 : (T.parts[P.length]'(by omega)) = q := by simp only [hP]; simp
  have sla := fun wr (hw : Below w.heap.size w wr) => slot_in wr F tb p T X (h.below hw) ht P.length hl j hj (by rw [e0]; exact hfj) bn (by rw [e0]; exact hbn) sa hs.1 hs2.1 hin.1
  rw [List.getElem?_eq_getElem hin.1] at hx
  injection hx with hx
  rw [hx] at sla
  have slc := fun wr (hw : Below w.heap.size w wr) => slot_in wr F tb p T X (h.below hw) ht P.length hl j hj (by rw [e0]; exact hfj) bn (by rw [e0]; exact hbn) sc hs.2 hs2.2 hin.2
  rw [List.getElem?_eq_getElem hin.2] at hy
  injection hy with hy
  rw [hy] at slc
  have pu := fun wr (hw : Below w.heap.size w wr) => put_in wr F tb p T X (h.below hw) hp ht hi hB v hwi k hk hvk y
  have on := fun wr (hT : TaskAt wr F tb p ⟨T.base, T.words.set k y, T.parts, T.marks⟩ X) => on_any wr F tb p ⟨T.base, T.words.set k y, T.parts, T.marks⟩ X hT ht.1 P q hP hq c0 c1 c2 mp 20 sa ib sc
  clear hl e0 hs hx hwi hvk hi hB hp ht hy hk hin hs2
  have SA := Lib.hid sla; clear sla
  have SC := Lib.hid slc; clear slc
  have PU := Lib.hid pu; clear pu
  have ON := Lib.hid on; clear on
  have hb0 := ((Below.refl w.heap.size w).alloc (Nat.le_refl _) (.cells (stepV c0 c1 c2 mp tb 20 sa ib sc) 124))
  have hb1 := hb0.alloc hb0.size act0
  have hr0 := row_alloc (heap_new w (.cells (stepV c0 c1 c2 mp tb 20 sa ib sc) 124)) act0
  have hr1 := heap_new (w.alloc (.cells (stepV c0 c1 c2 mp tb 20 sa ib sc) 124)) act0
  rw [show (w.alloc (.cells (stepV c0 c1 c2 mp tb 20 sa ib sc) 124)).heap.size = w.heap.size + 1 from by simp] at hr1
  obtain ⟨W, hW⟩ : ∃ W, W = (w.alloc (.cells (stepV c0 c1 c2 mp tb 20 sa ib sc) 124)).alloc act0 := ⟨_, rfl⟩
  rw [← hW] at hb1 hr0 hr1
  have HFLT := Lib.hid h.flt
  have HOUT := Lib.hid (fun k (hk : X.D k) => (h.out k hk).2)
  have hwz : W.heap.size = w.heap.size + 2 := by rw [hW]; simp
  unfold act0 at hW hr1
  unfold stepV at hW hr0
  have HW := Lib.hid hW
  have k4 : W.cell? ⟨w.heap.size, 4, none⟩ = some (.pointer (some ⟨tb, 0, none⟩)) := (row_cell hr0 4).1
  have k5 : W.cell? ⟨w.heap.size, 5, none⟩ = some (.int .i64 20) := (row_cell hr0 5).1
  have k6 : W.cell? ⟨w.heap.size, 6, none⟩ = some (.int .i64 sa) := (row_cell hr0 6).1
  have k7 : W.cell? ⟨w.heap.size, 7, none⟩ = some (.int .i64 ib) := (row_cell hr0 7).1
  have k8 : W.cell? ⟨w.heap.size, 8, none⟩ = some (.int .i64 sc) := (row_cell hr0 8).1
  have HRR := Lib.hid (Below.refl W.heap.size W)
  clear hb0 hW
  have HB1 := Lib.hid hb1; clear hb1
  have HR1 := Lib.hid hr1; clear hr1
  have HR0 := Lib.hid hr0; clear hr0
  have HWZ := Lib.hid hwz; clear hwz
  unfold stepV
  go_enter Tryz.func99, Tryz.ntmps99
  go_upto_region 1 with fail
  rw [← HW.out]
  go_cut [3, 4] (fun x y wx => ∃ z : Nat, x = .pointer (some ⟨z, 0, none⟩) ∧ y = .pointer (some ⟨tb, 0, none⟩) ∧ wx.heap[z]? = some (.cells #[.int .i64 20, .int .i64 sa, .int .i64 ib, .int .i64 sc] 59) ∧ w.heap.size + 2 ≤ z ∧ Below W.heap.size W wx)
  case first =>
    have bs := World.block_lt k4
    dsimp only at bs
    go_region
    all_goals
      go_wp2_with fail
      go_meet
      case rel => exact ⟨_, rfl, rfl, heap_new _ _, by have := HWZ.out; omega, (HRR.out.drew).alloc (HRR.out.size) _⟩
  case rest =>
    obtain ⟨z, rfl, rfl, hz, hzl, hR⟩ := hcut
    have hbc := HB1.out.trans (hR.mono HB1.out.size)
    have hrb := (Fr.of_below hR (fun _ => False)).heap HR0.out (fun h => h)
    have hrc := (Fr.of_below hR (fun _ => False)).heap HR1.out (fun h => h)
    have HBC := Lib.hid hbc
    have HSZ := Lib.hid (show w.heap.size + 2 ≤ wc.heap.size from by have := hR.size; have := HWZ.out; omega)
    have HRW := Lib.hid (fun wx (hw : Below wc.heap.size wc wx) => (Fr.of_below hw (fun _ => False)).heap hrc (fun h => h))
    have HSS := Lib.hid (show ∀ wx, Below wc.heap.size wc wx → wx.cell? ⟨w.heap.size, 0, none⟩ = some (c0) ∧ wx.cell? ⟨w.heap.size, 1, none⟩ = some (c1) ∧ wx.cell? ⟨w.heap.size, 2, none⟩ = some (c2) ∧ wx.cell? ⟨w.heap.size, 3, none⟩ = some (mp) ∧ wx.cell? ⟨w.heap.size, 4, none⟩ = some (.pointer (some ⟨tb, 0, none⟩)) ∧ wx.cell? ⟨w.heap.size, 5, none⟩ = some (.int .i64 20) ∧ wx.cell? ⟨w.heap.size, 6, none⟩ = some (.int .i64 sa) ∧ wx.cell? ⟨w.heap.size, 7, none⟩ = some (.int .i64 ib) ∧ wx.cell? ⟨w.heap.size, 8, none⟩ = some (.int .i64 sc) ∧ wx.cell? ⟨z, 0, none⟩ = some (.int .i64 20) ∧ wx.cell? ⟨z, 1, none⟩ = some (.int .i64 sa) ∧ wx.cell? ⟨z, 2, none⟩ = some (.int .i64 ib) ∧ wx.cell? ⟨z, 3, none⟩ = some (.int .i64 sc) from fun wx hw => by
      have g1 := (Fr.of_below hw (fun _ => False)).heap hrb (fun h => h)
      have g2 := (Fr.of_below hw (fun _ => False)).heap hz (fun h => h)
      exact ⟨(row_cell g1 0).1, (row_cell g1 1).1, (row_cell g1 2).1, (row_cell g1 3).1, (row_cell g1 4).1, (row_cell g1 5).1, (row_cell g1 6).1, (row_cell g1 7).1, (row_cell g1 8).1, (row_cell g2 0).1, (row_cell g2 1).1, (row_cell g2 2).1, (row_cell g2 3).1⟩)
    have hSd := HSS.out wc.drew (Below.refl wc.heap.size wc).drew
    have HRC := Lib.hid (Below.refl wc.heap.size wc)
    have HRD := Lib.hid (Below.refl wc.heap.size wc).drew
    have z0 : wc.cell? ⟨z, 0, none⟩ = some (.int .i64 20) := (row_cell hz 0).1
    clear hR hrb hrc hz k4 k5 k6 k7 k8 hbc
    clear hSd
    go_upto_region 15 with fail
    clear z0
    have hnF : ¬ F w.heap.size := fun e => Nat.lt_irrefl _ (HFLT.out w.heap.size e)
    have hnZ : ¬ F z := fun e => by have := HFLT.out z e; omega
    have HKK := Lib.hid (fun wx (hx : Fr F wc wx) => by
      obtain ⟨y0, y1, y2, y3, y4, y5, y6, y7, y8, z0, z1, z2, z3⟩ := HSS.out _ HRC.out
      exact And.intro (hx.cell y0 hnF) (And.intro (hx.cell y1 hnF) (And.intro (hx.cell y2 hnF) (And.intro (hx.cell y3 hnF) (And.intro (hx.cell y4 hnF) (And.intro (hx.cell y5 hnF) (And.intro (hx.cell y6 hnF) (And.intro (hx.cell y7 hnF) (And.intro (hx.cell y8 hnF) (And.intro (hx.cell z0 hnZ) (And.intro (hx.cell z1 hnZ) (And.intro (hx.cell z2 hnZ) (hx.cell z3 hnZ)))))))))))))
    have HTW := Lib.hid (fun wx (hx : Below wc.heap.size wc wx) => HBC.out.trans (hx.mono HBC.out.size))
    have sa4 := fun wx (hx : Below wc.heap.size wc wx) => SA.out wx (HTW.out wx hx)
    have sc4 := fun wx (hx : Below wc.heap.size wc wx) => SC.out wx (HTW.out wx hx)
    have pu4 := fun wx (hx : Below wc.heap.size wc wx) => PU.out wx (HTW.out wx hx)
    have SA4 := Lib.hid sa4; clear sa4
    have SC4 := Lib.hid sc4; clear sc4
    have PU4 := Lib.hid pu4; clear pu4
    have HNF := Lib.hid hnF; clear hnF
    have HNZ := Lib.hid hnZ; clear hnZ
    refine wp_region_noPanic ?_
    refine wp_region_held_drew (S := fun w' => Fr F wc w') (by kernel_rfl) (Fr.of_below (Below.refl _ _).drew F) (fun _ => ?_)
    have HR1 := Lib.hid (Below.refl wc.heap.size wc).drew
    generalize wc.drew = r1 at *
    refine wpAnyH_take (i := 0) (v := ?_) rfl (by kernel_rfl) (by kernel_rfl) (by kernel_rfl) (fun _ _ _ h => h) (Or.inl ⟨by kernel_rfl, ?tq1⟩) (Fr.of_below HR1.out F) ?_
    case tq1 => (intro wq hq; obtain ⟨f0, f1, f2, f3, f4, f5, f6, f7, f8, f9, f10, f11, f12⟩ := HKK.out wq hq; go_simp; first | done | with_reducible rfl)
    refine wpAnyH_take (i := 1) (v := ?_) rfl (by kernel_rfl) (by kernel_rfl) (by kernel_rfl) (fun _ _ _ h => h) (Or.inl ⟨by kernel_rfl, ?tq2⟩) (Fr.of_below HR1.out F) ?_
    case tq2 => (intro wq hq; obtain ⟨f0, f1, f2, f3, f4, f5, f6, f7, f8, f9, f10, f11, f12⟩ := HKK.out wq hq; go_simp; first | done | with_reducible rfl)
    refine wpAnyH_take (i := 2) (v := ?_) rfl (by kernel_rfl) (by kernel_rfl) (by kernel_rfl) (fun _ _ _ h => h) (Or.inl ⟨by kernel_rfl, ?tq3⟩) (Fr.of_below HR1.out F) ?_
    case tq3 => (intro wq hq; obtain ⟨f0, f1, f2, f3, f4, f5, f6, f7, f8, f9, f10, f11, f12⟩ := HKK.out wq hq; go_simp; first | done | with_reducible rfl)
    refine wpAnyH_take (i := 3) (v := ?_) rfl (by kernel_rfl) (by kernel_rfl) (by kernel_rfl) (fun _ _ _ h => h) (Or.inl ⟨by kernel_rfl, ?tq4⟩) (Fr.of_below HR1.out F) ?_
    case tq4 => (intro wq hq; obtain ⟨f0, f1, f2, f3, f4, f5, f6, f7, f8, f9, f10, f11, f12⟩ := HKK.out wq hq; go_simp; first | done | with_reducible rfl)
    refine wpAnyH_take (i := 5) (v := ?_) rfl (by kernel_rfl) (by kernel_rfl) (by kernel_rfl) (fun _ _ _ h => h) (Or.inl ⟨by kernel_rfl, ?tq5⟩) (Fr.of_below HR1.out F) ?_
    case tq5 => (intro wq hq; obtain ⟨f0, f1, f2, f3, f4, f5, f6, f7, f8, f9, f10, f11, f12⟩ := HKK.out wq hq; go_simp; first | done | with_reducible rfl)
    refine wpAnyH_take (i := 6) (v := ?_) rfl (by kernel_rfl) (by kernel_rfl) (by kernel_rfl) (fun _ _ _ h => h) (Or.inl ⟨by kernel_rfl, ?tq6⟩) (Fr.of_below HR1.out F) ?_
    case tq6 => (intro wq hq; obtain ⟨f0, f1, f2, f3, f4, f5, f6, f7, f8, f9, f10, f11, f12⟩ := HKK.out wq hq; go_simp; first | done | with_reducible rfl)
    refine wpAnyH_take (i := 8) (v := ?_) rfl (by kernel_rfl) (by kernel_rfl) (by kernel_rfl) (fun _ _ _ h => h) (Or.inl ⟨by kernel_rfl, ?tq7⟩) (Fr.of_below HR1.out F) ?_
    case tq7 => (intro wq hq; obtain ⟨f0, f1, f2, f3, f4, f5, f6, f7, f8, f9, f10, f11, f12⟩ := HKK.out wq hq; go_simp; first | done | with_reducible rfl)
    refine wpAnyH_take (i := 9) (v := ?_) rfl (by kernel_rfl) (by kernel_rfl) (by kernel_rfl) (fun _ _ _ h => h) (Or.inl ⟨by kernel_rfl, ?tq8⟩) (Fr.of_below HR1.out F) ?_
    case tq8 => (intro wq hq; obtain ⟨f0, f1, f2, f3, f4, f5, f6, f7, f8, f9, f10, f11, f12⟩ := HKK.out wq hq; go_simp; first | done | with_reducible rfl)
    refine wpAnyH_take (i := 10) (v := ?_) rfl (by kernel_rfl) (by kernel_rfl) (by kernel_rfl) (fun _ _ _ h => h) (Or.inl ⟨by kernel_rfl, ?tq9⟩) (Fr.of_below HR1.out F) ?_
    case tq9 => (intro wq hq; obtain ⟨f0, f1, f2, f3, f4, f5, f6, f7, f8, f9, f10, f11, f12⟩ := HKK.out wq hq; go_simp; first | done | with_reducible rfl)
    refine wpAnyH_ready (rs := [4]) (by kernel_rfl) (by simp) ?_
    refine (AllReadyH.cons rfl (fun K hK => ?_) AllReadyH.nil)
    go_simp
    go_at_call 33
    refine (SA4.out r1 HR1.out).mono ?_
    rintro e r2 ⟨rfl, hb⟩
    have HR2 := Lib.hid (HR1.out.trans (hb.mono HR1.out.size))
    clear hb
    refine hK.out _ _ (Fr.of_below HR2.out F) (fun _ => ?_)
    clear hK K
    refine wpAnyH_take (i := 7) (v := ?_) rfl (by kernel_rfl) (by kernel_rfl) (by kernel_rfl) (fun _ _ _ h => h) (Or.inl ⟨by kernel_rfl, ?tq10⟩) (Fr.of_below HR2.out F) ?_
    case tq10 => (intro wq hq; obtain ⟨f0, f1, f2, f3, f4, f5, f6, f7, f8, f9, f10, f11, f12⟩ := HKK.out wq hq; go_simp; first | done | with_reducible rfl)
    refine wpAnyH_ready (rs := [11]) (by kernel_rfl) (by simp) ?_
    refine (AllReadyH.cons rfl (fun K hK => ?_) AllReadyH.nil)
    go_simp
    go_at_call 33
    refine (SC4.out r2 HR2.out).mono ?_
    rintro e r3 ⟨rfl, hb⟩
    have HR3 := Lib.hid (HR2.out.trans (hb.mono HR2.out.size))
    clear hb
    refine hK.out _ _ (Fr.of_below HR3.out F) (fun _ => ?_)
    clear hK K
    refine wpAnyH_ready (rs := [12]) (by kernel_rfl) (by simp) ?_
    refine (AllReadyH.cons rfl (fun K hK => ?_) AllReadyH.nil)
    go_simp
    go_at_call 19
    refine (PU4.out r3 HR3.out).mono ?_
    rintro e r4 ⟨rfl, hTn, hfn⟩
    have HTN := Lib.hid hTn
    have HFN := Lib.hid ((Fr.of_below HR3.out F).trans hfn (fun _ _ h => h))
    clear hTn hfn
    refine hK.out _ _ HFN.out (fun _ => ?_)
    clear hK K
    refine wpAnyH_done (by kernel_rfl) ?_ _
    refine NoPanic.normal ?_
    obtain ⟨y0, y1, y2, y3, y4, y5, y6, y7, y8, z0, z1, z2, z3⟩ := HKK.out _ HFN.out
    have hrr := HFN.out.heap (HRW.out _ HRC.out) (fun e => by have := HFLT.out (w.heap.size + 1) e; omega)
    have hfr := (Fr.of_below HBC.out F).trans HFN.out (fun _ _ h => h)
    have on := ON.out r4 HTN.out
    unfold stepV at on
    clear HTN
    have ON := Lib.hid on; clear on
    have HRR := Lib.hid hrr; clear hrr
    have HFR := Lib.hid hfr; clear hfr
    go_wp2_with fail
    refine ON.out.mono ?_
    rintro e w5 ⟨rfl, hT5, hf5⟩
    have hr5 := hf5.heap HRR.out (fun e => by have := HFLT.out (w.heap.size + 1) e; omega)
    have hfw := HFR.out.trans hf5 (fun _ _ h => h)
    obtain ⟨F', X', hT5, hXD, hF'⟩ : ∃ F' X', TaskAt w5 F' tb p _ X' ∧ X'.D = X.D ∧ (∀ k, F' k → F k ∨ w.heap.size + 2 ≤ k) := ⟨F, X, hT5, rfl, fun _ h => .inl h⟩
    clear y0 y1 y2 y3 y4 y5 y6 y7 y8 z0 z1 z2 z3 hf5
    obtain ⟨⟨u0, u1, u2, u3, u4, u5, u6⟩, n0, n1, n2, n3, n4, n5, n6⟩ := seven_cells hr5
    have hfs := seven_fr w5 (.int .i64 0) (.int .i64 0) (.int .i64 0) (.int .i64 0) (.int .i64 0) (.bool false) (.slice none 0 0) (w.heap.size + 1)
    have hrs := seven_row hr5 (.int .i64 0) (.int .i64 0) (.int .i64 0) (.int .i64 0) (.int .i64 0) (.bool false) (.slice none 0 0)
    have hFz : ∀ q, F' q → q ≠ w.heap.size + 1 := fun q hq e => by
      rcases hF' q hq with h1 | h1
      · have := HFLT.out q h1; omega
      · omega
    have hT6 := hT5.fr hfs (fun q hq e => hFz q hq e) (fun q hq e => by rw [hXD] at hq; have := HOUT.out q hq; have e : q = w.heap.size + 1 := e; omega)
    have hf6 := hfw.trans hfs (fun q hq e => by have e : q = w.heap.size + 1 := e; omega)
    have hF6 : ∀ q, F' q → F q ∨ w.heap.size ≤ q := fun q hq => (hF' q hq).imp id (fun h1 => by omega)
    have HPP := Lib.hid (show RunPost w F tb p X _ (actV 0 0 0 0 0 false (.slice none 0 0)) _ _ from ⟨rfl, F', X', hT6, hXD, hF6, hf6⟩)
    clear hfs hr5 hT5 hT6 hfw hf6 hF6 hFz hF' hXD
    have HRS := Lib.hid hrs; clear hrs
    unfold actV
    go_wp2_with fail
    refine bodyPost_ret ?_ rfl HPP.out
    have k0 := (row_cell HRS.out 0).1; have k1 := (row_cell HRS.out 1).1; have k2 := (row_cell HRS.out 2).1; have k3 := (row_cell HRS.out 3).1; have k4 := (row_cell HRS.out 4).1; have k5 := (row_cell HRS.out 5).1; have k6 := (row_cell HRS.out 6).1; simp at k0 k1 k2 k3 k4 k5 k6; simp [results, Tryz.results99, go_sem, k0, k1, k2, k3, k4, k5, k6, actV]
end Go.Proofs.YthkhgihjigmkoaaGreat.Tk
