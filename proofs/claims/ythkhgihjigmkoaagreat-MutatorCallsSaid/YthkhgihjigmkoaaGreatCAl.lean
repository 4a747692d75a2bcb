import Derived.Test.YthkhgihjigmkoaaGreatCAk
set_option linter.unusedVariables false
set_option linter.unusedSimpArgs false
namespace Go.Proofs.YthkhgihjigmkoaaGreat.Tk
open Go.ChangeShapes Go.WideShapes Go.ChangeAt Go.RowKit Go.Maps
theorem own_base {P : Program} {α : Type} {E : Elem P α} {w : World} {B : Nat} {v : Value} {l : List α} (h : Own E w B v l) {k : Nat} (hk : v.ownBlock = some k) : B ≤ k := (h.lt hk).1
set_option maxRecDepth 100000 in
set_option maxHeartbeats 1600000 in
theorem own_any (w : World) (B : Nat) (v : Value) (l : List Mark) (h : Own markE w B v l) (hn : l.length ≤ 100000) (B2 : Nat) (av : Value) (A : List Alarm) (ha : Own alarmE w B2 av A) (hna : A.length ≤ 100000) :
  Calls Tryz.prog 87 #[.agg #[v, av]] w fun e w' => ∃ v' av', e = .returned (.agg #[v', av']) ∧ Own markE w' w.heap.size v' l ∧ Own alarmE w' w.heap.size av' A ∧ Below w.heap.size w w' := by
 obtain ⟨a, n, c, rfl⟩ := h.slice
 obtain ⟨a', n', c', rfl⟩ := ha.slice
 have hbx := fun wr h => box2 w #[.slice a n c, .slice a' n' c'] #[.slice none 0 0, .slice none 0 0] 95 95 wr h
 have hz0 : ((w.alloc (.cells #[.slice a n c, .slice a' n' c'] 95)).alloc (.cells #[.slice none 0 0, .slice none 0 0] 95)).heap.size = w.heap.size + 2 := by simp
 have hrow := heap_new (w.alloc (.cells #[.slice a n c, .slice a' n' c'] 95)) (.cells #[.slice none 0 0, .slice none 0 0] 95)
 rw [show (w.alloc (.cells #[.slice a n c, .slice a' n' c'] 95)).heap.size = w.heap.size + 1 from by simp] at hrow
 obtain ⟨W, hW⟩ : ∃ W, W = (w.alloc (.cells #[.slice a n c, .slice a' n' c'] 95)).alloc (.cells #[.slice none 0 0, .slice none 0 0] 95) := ⟨_, rfl⟩
 rw [← hW] at hbx hz0 hrow
 have hb := hbx W (by rw [← hz0]; exact Below.refl _ _)
 have k0 := hb.1 0 _ rfl
 have k1 := hb.1 1 _ rfl
 have hb0 := hb.2.2.1
 have cm := cloneMarks_any W.drew B (.slice a n c) l ((h.below hb0).drew) hn
 have ca := fun wx (hx : Below W.heap.size W wx) => cloneAlarms_any wx B2 (.slice a' n' c') A ((ha.below hb0).below hx) hna
 have hr0 := (Below.refl W.heap.size W).drew
 have hzw : w.heap.size + 1 < W.heap.size := by omega
 have HW := Lib.hid hW
 have HROW := Lib.hid hrow
 have HZW := Lib.hid hzw
 clear hW hbx hz0 hb hrow hzw h ha
 have CM := Lib.hid cm; clear cm
 have CA := Lib.hid ca; clear ca
 have HB0 := Lib.hid hb0; clear hb0
 have HR0 := Lib.hid hr0; clear hr0
 go_enter Tryz.func87, Tryz.ntmps87
 go_upto_region 1 with fail
 rw [← HW.out]
 go_region_held3 (fun w' => w'.cell? ⟨w.heap.size, 0, none⟩ = some (.slice a n c) ∧ w'.cell? ⟨w.heap.size, 1, none⟩ = some (.slice a' n' c')) (first | go_keep | exact ⟨k0, k1⟩ | exact ⟨kk0, kk1⟩ | exact ⟨kq0, kq1⟩) (first
  | (go_at_call 115
     refine CM.out.mono ?_
     rintro e w3 ⟨v3, rfl, ho3, hb3⟩
     obtain ⟨a3, n3, c3, rfl⟩ := ho3.slice
     have hb3' := HR0.out.trans (hb3.mono HR0.out.size)
     have kk0 := below_cell hb3' k0
     have kk1 := below_cell hb3' k1
     have hrow3 := (Fr.of_below hb3' (fun _ => False)).heap HROW.out (fun h => h))
  | (go_at_call 62
     refine (CA.out _ hb3').mono ?_
     rintro e w4 ⟨v4, rfl, ho4, hb4⟩
     obtain ⟨a4, n4, c4, rfl⟩ := ho4.slice
     have hb4' := hb3'.trans (hb4.mono hb3'.size)
     have kq0 := below_cell hb4 kk0
     have kq1 := below_cell hb4 kk1
     have hrow4 := (Fr.of_below hb4 (fun _ => False)).heap hrow3 (fun h => h)
     have ho5 := ho3.below hb4
     have hz3 := hb3'.size
     obtain ⟨_, _, f0, f1⟩ : _ ∧ _ ∧ w4.frozen? ⟨w.heap.size + 1, 0, none⟩ = false ∧ w4.frozen? ⟨w.heap.size + 1, 1, none⟩ = false := ⟨(row_cell hrow4 0).1, (row_cell hrow4 1).1, (row_cell hrow4 0).2, (row_cell hrow4 1).2⟩))
 have hf : Fr (fun q => q = w.heap.size + 1) w4 _ := ((Fr.refl (fun q => q = w.heap.size + 1) w4).setCell (p := ⟨w.heap.size + 1, 0, none⟩) (fun _ => rfl) (.slice a3 n3 c3)).setCell (p := ⟨w.heap.size + 1, 1, none⟩) (fun _ => rfl) (.slice a4 n4 c4)
 have hr := row_set (row_set hrow4 0 (.slice a3 n3 c3)) 1 (.slice a4 n4 c4)
 have hd0 : W.drew.heap.size = W.heap.size := rfl
 have hlow : ∀ k, (Value.slice a3 n3 c3).ownBlock = some k → w.heap.size + 1 < k := fun k hk => by have := (ho3.lt hk).1; have := HZW.out; omega
 have hlow4 : ∀ k, (Value.slice a4 n4 c4).ownBlock = some k → w.heap.size + 1 < k := fun k hk => by have := (ho4.lt hk).1; have := HZW.out; omega
 have ho := (ho5.fr hf (fun k hk e => by have := hlow k hk; omega)).base (B' := w.heap.size) (fun k hk => by have := hlow k hk; omega)
 have hoA := (ho4.fr hf (fun k hk e => by have := hlow4 k hk; omega)).base (B' := w.heap.size) (fun k hk => by have := hlow4 k hk; omega)
 have hbz := HB0.out.trans (hb4'.mono HB0.out.size)
 have hbf := hbz.trans (hf.below hbz.size (fun k hk => by omega))
 have hP : (fun (e : Ending) (w' : World) => ∃ v' av', e = .returned (.agg #[v', av']) ∧ Own markE w' w.heap.size v' l ∧ Own alarmE w' w.heap.size av' A ∧ Below w.heap.size w w') (.returned (.agg #[.slice a3 n3 c3, .slice a4 n4 c4])) _ := ⟨_, _, rfl, ho, hoA, hbf⟩
 clear hf ho hoA hbz hbf hlow hlow4 ho3 hb3 hb3' hrow3 ho4 ho5 hb4 hb4' hrow4
 have HR := Lib.hid hr; clear hr
 have HP := Lib.hid hP; clear hP
 go_wp2_with (with_reducible refine bodyPost_ret ?_ rfl HP.out; have k0 := (row_cell HR.out 0).1; have k1 := (row_cell HR.out 1).1; simp at k0 k1; simp [results, Tryz.results87, go_sem, k0, k1])
structure SOwn (w0 : World) (M : List Mark) (A : List Alarm) (mv av : Value) (w : World) : Prop where
 row : w.heap[w0.heap.size]? = some (.cells #[mv, av] 95)
 res : w.heap[w0.heap.size + 1]? = some (.cells #[.slice none 0 0, .slice none 0 0] 95)
 om : Own markE w (w0.heap.size + 2) mv M
 oa : Own alarmE w (w0.heap.size + 2) av A
 b : Below w0.heap.size w0 w
 sz : w0.heap.size + 2 ≤ w.heap.size
theorem SOwn.below {w0 w w' : World} {M : List Mark} {A : List Alarm} {mv av : Value} (h : SOwn w0 M A mv av w) (hb : Below w.heap.size w w') : SOwn w0 M A mv av w' where
 row := (Fr.of_below hb (fun _ => False)).heap h.row (fun h => h)
 res := (Fr.of_below hb (fun _ => False)).heap h.res (fun h => h)
 om := h.om.below hb
 oa := h.oa.below hb
 b := h.b.trans (hb.mono h.b.size)
 sz := Nat.le_trans h.sz hb.size
theorem SOwn.cells {w0 w : World} {M : List Mark} {A : List Alarm} {mv av : Value} (h : SOwn w0 M A mv av w) : w.cell? ⟨w0.heap.size, 0, none⟩ = some mv ∧ w.cell? ⟨w0.heap.size, 1, none⟩ = some av ∧ w.frozen? ⟨w0.heap.size, 0, none⟩ = false ∧ w.frozen? ⟨w0.heap.size, 1, none⟩ = false := ⟨(row_cell h.row 0).1, (row_cell h.row 1).1, (row_cell h.row 0).2, (row_cell h.row 1).2⟩
theorem SOwn.rcells {w0 w : World} {M : List Mark} {A : List Alarm} {mv av : Value} (h : SOwn w0 M A mv av w) : w.cell? ⟨w0.heap.size + 1, 0, none⟩ = some (.slice none 0 0) ∧ w.cell? ⟨w0.heap.size + 1, 1, none⟩ = some (.slice none 0 0) ∧ w.frozen? ⟨w0.heap.size + 1, 0, none⟩ = false ∧ w.frozen? ⟨w0.heap.size + 1, 1, none⟩ = false := ⟨(row_cell h.res 0).1, (row_cell h.res 1).1, (row_cell h.res 0).2, (row_cell h.res 1).2⟩
theorem SOwn.set {w0 w : World} {M M' : List Mark} {A A' : List Alarm} {mv av mv' av' : Value} (h : SOwn w0 M A mv av w) (hm : Own markE w (w0.heap.size + 2) mv' M') (ha : Own alarmE w (w0.heap.size + 2) av' A') : SOwn w0 M' A' mv' av' ((w.setCell ⟨w0.heap.size, 0, none⟩ mv').setCell ⟨w0.heap.size, 1, none⟩ av') := by
 have hf : Fr (fun q => q = w0.heap.size) w ((w.setCell ⟨w0.heap.size, 0, none⟩ mv').setCell ⟨w0.heap.size, 1, none⟩ av') := ((Fr.refl (fun q => q = w0.heap.size) w).setCell (p := ⟨w0.heap.size, 0, none⟩) (fun _ => rfl) _).setCell (p := ⟨w0.heap.size, 1, none⟩) (fun _ => rfl) _
 refine ⟨?_, hf.heap h.res (by show ¬ w0.heap.size + 1 = w0.heap.size; omega), hm.fr hf (fun k hk e => by have := own_base hm hk; omega), ha.fr hf (fun k hk e => by have := own_base ha hk; omega), h.b.trans (hf.below h.b.size (fun k hk => by omega)), Nat.le_trans h.sz hf.size⟩
 have := row_set (row_set h.row 0 mv') 1 av'
 simpa using this
theorem SOwn.set0 {w0 w : World} {M M' : List Mark} {A : List Alarm} {mv av mv' : Value} (h : SOwn w0 M A mv av w) (hm : Own markE w (w0.heap.size + 2) mv' M') : SOwn w0 M' A mv' av (w.setCell ⟨w0.heap.size, 0, none⟩ mv') := by
 have hf : Fr (fun q => q = w0.heap.size) w (w.setCell ⟨w0.heap.size, 0, none⟩ mv') := (Fr.refl (fun q => q = w0.heap.size) w).setCell (p := ⟨w0.heap.size, 0, none⟩) (fun _ => rfl) _
 refine ⟨?_, hf.heap h.res (by show ¬ w0.heap.size + 1 = w0.heap.size; omega), hm.fr hf (fun k hk e => by have := own_base hm hk; omega), h.oa.fr hf (fun k hk e => by have := own_base h.oa hk; omega), h.b.trans (hf.below h.b.size (fun k hk => by omega)), Nat.le_trans h.sz hf.size⟩
 have := row_set h.row 0 mv'
 simpa using this
theorem SOwn.mark {w0 w : World} {M : List Mark} {m y : Mark} {A : List Alarm} {g n c : Nat} {av : Value} (h : SOwn w0 (M ++ [m]) A (.slice (some ⟨g, 0, none⟩) n c) av w) (r : Nat) (u : Value) (hy : markE.enc y = (markE.enc m).set r u) : SOwn w0 (M ++ [y]) A (.slice (some ⟨g, 0, none⟩) n c) av (w.setCell ⟨g, M.length * 3 + r, none⟩ u) := by
 have hg : w0.heap.size + 2 ≤ g := own_base h.om rfl
 have hf : Fr (fun q => q = g) w (w.setCell ⟨g, M.length * 3 + r, none⟩ u) := (Fr.refl (fun q => q = g) w).setCell (p := ⟨g, M.length * 3 + r, none⟩) (fun _ => rfl) _
 refine ⟨hf.heap h.row (by show ¬ w0.heap.size = g; omega), hf.heap h.res (by show ¬ w0.heap.size + 1 = g; omega), own_put h.om r u y hy, h.oa.fr hf (fun k hk e => ?_), h.b.trans (hf.below h.b.size (fun k hk => by omega)), Nat.le_trans h.sz hf.size⟩
 obtain ⟨c1, f1, h1⟩ := own_row h.oa hk
 obtain ⟨c2, f2, h2⟩ := own_row h.om rfl
 exact cells_ne h1 h2 (by decide) e
theorem SOwn.alarm {w0 w : World} {M : List Mark} {A : List Alarm} {x y : Alarm} {g n c : Nat} {mv : Value} (h : SOwn w0 M (A ++ [x]) mv (.slice (some ⟨g, 0, none⟩) n c) w) (r : Nat) (u : Value) (hy : alarmE.enc y = (alarmE.enc x).set r u) : SOwn w0 M (A ++ [y]) mv (.slice (some ⟨g, 0, none⟩) n c) (w.setCell ⟨g, A.length * 5 + r, none⟩ u) := by
 have hg : w0.heap.size + 2 ≤ g := own_base h.oa rfl
 have hf : Fr (fun q => q = g) w (w.setCell ⟨g, A.length * 5 + r, none⟩ u) := (Fr.refl (fun q => q = g) w).setCell (p := ⟨g, A.length * 5 + r, none⟩) (fun _ => rfl) _
 refine ⟨hf.heap h.row (by show ¬ w0.heap.size = g; omega), hf.heap h.res (by show ¬ w0.heap.size + 1 = g; omega), h.om.fr hf (fun k hk e => ?_), own_put h.oa r u y hy, h.b.trans (hf.below h.b.size (fun k hk => by omega)), Nat.le_trans h.sz hf.size⟩
 obtain ⟨c1, f1, h1⟩ := own_row h.om hk
 obtain ⟨c2, f2, h2⟩ := own_row h.oa rfl
 exact cells_ne h1 h2 (by decide) e
theorem SOwn.done {w0 w : World} {M : List Mark} {A : List Alarm} {mv av : Value} (h : SOwn w0 M A mv av w) : ((w.setCell ⟨w0.heap.size + 1, 0, none⟩ mv).setCell ⟨w0.heap.size + 1, 1, none⟩ av).heap[w0.heap.size + 1]? = some (.cells #[mv, av] 95) ∧ Own markE ((w.setCell ⟨w0.heap.size + 1, 0, none⟩ mv).setCell ⟨w0.heap.size + 1, 1, none⟩ av) w0.heap.size mv M ∧ Own alarmE ((w.setCell ⟨w0.heap.size + 1, 0, none⟩ mv).setCell ⟨w0.heap.size + 1, 1, none⟩ av) w0.heap.size av A ∧ Below w0.heap.size w0 ((w.setCell ⟨w0.heap.size + 1, 0, none⟩ mv).setCell ⟨w0.heap.size + 1, 1, none⟩ av) := by
 have hf : Fr (fun q => q = w0.heap.size + 1) w ((w.setCell ⟨w0.heap.size + 1, 0, none⟩ mv).setCell ⟨w0.heap.size + 1, 1, none⟩ av) := ((Fr.refl (fun q => q = w0.heap.size + 1) w).setCell (p := ⟨w0.heap.size + 1, 0, none⟩) (fun _ => rfl) _).setCell (p := ⟨w0.heap.size + 1, 1, none⟩) (fun _ => rfl) _
 refine ⟨?_, (h.om.fr hf (fun k hk e => by have := own_base h.om hk; omega)).base (fun k hk => by have := own_base h.om hk; omega), (h.oa.fr hf (fun k hk e => by have := own_base h.oa hk; omega)).base (fun k hk => by have := own_base h.oa hk; omega), h.b.trans (hf.below h.b.size (fun k hk => by omega))⟩
 have := row_set (row_set h.res 0 mv) 1 av
 simpa using this
theorem SOwn.start {w0 w : World} {M : List Mark} {A : List Alarm} {mv av x y : Value} {B B2 : Nat} (hr : w.heap[w0.heap.size]? = some (.cells #[x, y] 95)) (hs : w.heap[w0.heap.size + 1]? = some (.cells #[.slice none 0 0, .slice none 0 0] 95)) (hm : Own markE w B mv M) (ha : Own alarmE w B2 av A) (hB : w0.heap.size + 2 ≤ B) (hB2 : w0.heap.size + 2 ≤ B2) (hb : Below w0.heap.size w0 w) : SOwn w0 M A mv av ((w.setCell ⟨w0.heap.size, 0, none⟩ mv).setCell ⟨w0.heap.size, 1, none⟩ av) := by
 have hf : Fr (fun q => q = w0.heap.size) w ((w.setCell ⟨w0.heap.size, 0, none⟩ mv).setCell ⟨w0.heap.size, 1, none⟩ av) := ((Fr.refl (fun q => q = w0.heap.size) w).setCell (p := ⟨w0.heap.size, 0, none⟩) (fun _ => rfl) _).setCell (p := ⟨w0.heap.size, 1, none⟩) (fun _ => rfl) _
 have hz := heap_lt hs
 refine ⟨?_, hf.heap hs (by show ¬ w0.heap.size + 1 = w0.heap.size; omega), (hm.fr hf (fun k hk e => by have := own_base hm hk; omega)).base (fun k hk => by have := own_base hm hk; omega), (ha.fr hf (fun k hk e => by have := own_base ha hk; omega)).base (fun k hk => by have := own_base ha hk; omega), hb.trans (hf.below hb.size (fun k hk => by omega)), ?_⟩
 ·have := row_set (row_set hr 0 mv) 1 av
  simpa using this
 ·have := hf.size
  omega
theorem SOwn.appendM {w0 w w5 : World} {M M' : List Mark} {A : List Alarm} {mv av v5 : Value} {ob : Obj} (h : SOwn w0 M A mv av w) (ho : Own markE w5 (w0.heap.size + 2) v5 M') (hg : (w.alloc ob).grownBy w5 mv.ownBlock) : w5.heap[w0.heap.size]? = some (.cells #[mv, av] 95) ∧ SOwn w0 M' A v5 av (w5.setCell ⟨w0.heap.size, 0, none⟩ v5) := by
 have hfr : Fr (fun k => mv.ownBlock = some k) w w5 := ((Fr.refl (fun k => mv.ownBlock = some k) w).alloc ob).grown hg (fun k hk _ => hk)
 have hr := hfr.heap h.row (fun e => by have := own_base h.om e; omega)
 have hs := hfr.heap h.res (fun e => by have := own_base h.om e; omega)
 have ha := h.oa.fr hfr (fun k hk e => by
  obtain ⟨c1, f1, h1⟩ := own_row h.oa hk
  obtain ⟨c2, f2, h2⟩ := own_row h.om e
  exact cells_ne h1 h2 (by decide) rfl)
 have hb := h.b.trans (hfr.below h.b.size (fun k hk => by have := own_base h.om hk; omega))
 refine ⟨hr, ?_⟩
 have hf : Fr (fun q => q = w0.heap.size) w5 (w5.setCell ⟨w0.heap.size, 0, none⟩ v5) := (Fr.refl (fun q => q = w0.heap.size) w5).setCell (p := ⟨w0.heap.size, 0, none⟩) (fun _ => rfl) _
 refine ⟨?_, hf.heap hs (by show ¬ w0.heap.size + 1 = w0.heap.size; omega), ho.fr hf (fun k hk e => by have := own_base ho hk; omega), ha.fr hf (fun k hk e => by have := own_base ha hk; omega), hb.trans (hf.below hb.size (fun k hk => by omega)), Nat.le_trans (Nat.le_trans h.sz hfr.size) hf.size⟩
 have := row_set hr 0 v5
 simpa using this
theorem SOwn.appendA {w0 w w5 : World} {M : List Mark} {A A' : List Alarm} {mv av v5 : Value} {ob : Obj} (h : SOwn w0 M A mv av w) (ho : Own alarmE w5 (w0.heap.size + 2) v5 A') (hg : (w.alloc ob).grownBy w5 av.ownBlock) : w5.heap[w0.heap.size]? = some (.cells #[mv, av] 95) ∧ SOwn w0 M A' mv v5 (w5.setCell ⟨w0.heap.size, 1, none⟩ v5) := by
 have hfr : Fr (fun k => av.ownBlock = some k) w w5 := ((Fr.refl (fun k => av.ownBlock = some k) w).alloc ob).grown hg (fun k hk _ => hk)
 have hr := hfr.heap h.row (fun e => by have := own_base h.oa e; omega)
 have hs := hfr.heap h.res (fun e => by have := own_base h.oa e; omega)
 have hm := h.om.fr hfr (fun k hk e => by
  obtain ⟨c1, f1, h1⟩ := own_row h.om hk
  obtain ⟨c2, f2, h2⟩ := own_row h.oa e
  exact cells_ne h1 h2 (by decide) rfl)
 have hb := h.b.trans (hfr.below h.b.size (fun k hk => by have := own_base h.oa hk; omega))
 refine ⟨hr, ?_⟩
 have hf : Fr (fun q => q = w0.heap.size) w5 (w5.setCell ⟨w0.heap.size, 1, none⟩ v5) := (Fr.refl (fun q => q = w0.heap.size) w5).setCell (p := ⟨w0.heap.size, 1, none⟩) (fun _ => rfl) _
 refine ⟨?_, hf.heap hs (by show ¬ w0.heap.size + 1 = w0.heap.size; omega), hm.fr hf (fun k hk e => by have := own_base hm hk; omega), ho.fr hf (fun k hk e => by have := own_base ho hk; omega), hb.trans (hf.below hb.size (fun k hk => by omega)), Nat.le_trans (Nat.le_trans h.sz hfr.size) hf.size⟩
 have := row_set hr 1 v5
 simpa using this
def StPost (w : World) (M : List Mark) (A : List Alarm) (e : Ending) (w' : World) : Prop := ∃ v' av', e = .returned (.agg #[v', av']) ∧ Own markE w' w.heap.size v' M ∧ Own alarmE w' w.heap.size av' A ∧ Below w.heap.size w w'
end Go.Proofs.YthkhgihjigmkoaaGreat.Tk
namespace Go.Proofs.YthkhgihjigmkoaaGreat.Tk
open Go.ChangeShapes Go.WideShapes Go.ChangeAt Go.RowKit Go.Maps
def clearL (l : List Int) (o n : Nat) : List Int := (List.range n).foldl (fun s i => s.set (o + i) 0) l
theorem clearL_len (l : List Int) (o n : Nat) : (clearL l o n).length = l.length := clear_len n o l
set_option maxRecDepth 100000 in
set_option maxHeartbeats 1600000 in
theorem clear_any (w : World) (sb wb : Nat) (base : Int) (l : List Int) (h : StAt w sb wb base l) (hl : l.length ≤ 100000) (o n : Nat) (hn : 0 < n) (hon : o + n ≤ l.length) :
  Calls Tryz.prog 86 #[.pointer (some ⟨sb, 0, none⟩), .int .i64 o, .int .i64 (o + n : Nat)] w fun e w' => e = .returned (.tuple #[]) ∧ w' = w.setCells wb o (List.replicate n (.int .i64 0)) := by
 have ws := stWords_any w sb wb base l h
 obtain ⟨_, k1⟩ := h.cells
 have hcl : ∀ (c : Nat) ty, (Builtin.clear_ #[23] ty #[.slice (some ⟨wb, o, none⟩) n c]).run Tryz.prog w = .ok (.tuple #[]) (w.setCells wb o (List.replicate n (.int .i64 0))) := fun c ty =>
  Lib.run_clear_slice w 23 3 ty (.int .i64 0) Tryz.underlying23 zero_int rfl rfl wb o n c hn (fun j hj => by rw [(h.word (o + j) (by omega)).1]; rfl) (fun j hj => (h.word (o + j) (by omega)).2)
 clear h
 obtain ⟨e, he⟩ : ∃ e, e = o + n := ⟨_, rfl⟩
 rw [← he]
 have n0 : (0 : Int) ≤ (o : Int) := by omega
 have n1 : (e : Int) ≤ (l.length : Int) := by omega
 have n2 : (o : Int) < (e : Int) := by omega
 have n3 : ¬ (l.length : Int) < (e : Int) := by omega
 have n4 : e - o = n := by omega
 have n5 : e ≤ l.length := by omega
 have n6 : o ≤ e := by omega
 have n7 : (o : Int) ≤ (e : Int) := by omega
 clear he hon
 have WS := Lib.hid ws; clear ws
 go_enter Tryz.func86, Tryz.ntmps86
 go_wp2_with fail
 refine WS.out.mono ?_
 rintro e w' ⟨rfl, rfl⟩
 go_wp2_with (simp only [hcl])
 go_end0
 exact ⟨rfl, rfl⟩
end Go.Proofs.YthkhgihjigmkoaaGreat.Tk
namespace Go.Proofs.YthkhgihjigmkoaaGreat.Tk
open Go.ChangeShapes Go.WideShapes Go.ChangeAt Go.RowKit Go.Maps
theorem TaskAt.push {w w5 : World} {F : Nat → Prop} {tb : Nat} {p : TPrg} {T : Tk} {X : TB} {ob : Obj} {v5 : Value} {l : List Part} (h : TaskAt w F tb p T X) (ho : Own partE w5 0 v5 l) (hg : (w.alloc ob).grownBy w5 X.pv.ownBlock) (hf : Fresh (w.alloc ob) X.pv v5) :
  TaskAt (w5.setCell ⟨tb, 4, none⟩ v5) (fun k => F k ∨ v5.ownBlock = some k) tb p ⟨T.base, T.words, l, T.marks⟩ { X with pv := v5 } ∧ Fr F w (w5.setCell ⟨tb, 4, none⟩ v5) := by
 have hfr : Fr (fun k => X.pv.ownBlock = some k) w w5 := ((Fr.refl (fun k => X.pv.ownBlock = some k) w).alloc ob).grown hg (fun k hk _ => hk)
 have hfr2 : Fr (fun k => X.pv.ownBlock = some k ∨ k = tb) w (w5.setCell ⟨tb, 4, none⟩ v5) := (hfr.mono fun k hk => .inl hk).setCell (p := ⟨tb, 4, none⟩) (fun _ => .inr rfl) _
 obtain ⟨d1, d2, d3, d4, d5, d6, d7⟩ := h.distinct
 have hrow := hfr.heap h.row (fun e => (d4 _ e).1 rfl)
 have hv : ∀ k, v5.ownBlock = some k → k ≠ tb := fun k hk e => by
  rcases hf k hk with h1 | h1
  ·exact (d4 k h1).1 e
  ·have := h.lt
   simp at h1
   omega
 have hvl : ∀ k, v5.ownBlock = some k → k < w5.heap.size := fun k hk => (ho.lt hk).2
 have hfs : Fr (fun k => k = tb) w5 (w5.setCell ⟨tb, 4, none⟩ v5) := (Fr.refl (fun k => k = tb) w5).setCell (p := ⟨tb, 4, none⟩) (fun _ => rfl) _
 refine ⟨?_, hfr2.mono (fun k hk => hk.elim (h.fp k) (fun e => e ▸ h.ft))⟩
 constructor
 ·have := row_set hrow 4 v5
  simpa using this
 ·exact h.prg.fr hfr2 fun k hk hk2 => (h.out k hk).1 (hk2.elim (h.fp k) (fun e => e ▸ h.ft))
 ·intro k hk
  refine ⟨fun hk2 => ?_, Nat.lt_of_lt_of_le (h.out k hk).2 hfr2.size⟩
  rcases hk2 with h1 | h1
  ·exact (h.out k hk).1 h1
  ·rcases hf k h1 with h2 | h2
   ·exact (h.out k hk).1 (h.fp k h2)
   ·have := (h.out k hk).2
    simp at h2
    omega
 ·exact hfr2.heap h.srow (fun e => e.elim (fun e => (d4 _ e).2.1 rfl) (fun e => d1 e.symm))
 ·exact hfr2.heap h.wrow (fun e => e.elim (fun e => (d4 _ e).2.2 rfl) (fun e => d2 e.symm))
 ·exact ho.fr hfs (fun k hk e => hv k hk e)
 ·exact h.marks.fr hfr2 (fun k hk e => e.elim (fun e => d6 k e hk) (fun e => (d5 k hk).1 e))
 ·exact Nat.lt_of_lt_of_le h.kb hfr2.size
 ·exact h.kept.imp fun n hm => ⟨hm.1, hm.2.fr hfr2 (fun e => e.elim (fun e => by obtain ⟨cur, f, hc⟩ := own_row h.parts e; exact map_ne hm.2 hc rfl) (fun e => map_ne hm.2 h.row e))⟩
 ·exact h.alarms.fr hfr2 (fun k hk e => e.elim (fun e => (d7 k hk).2.2.2.1 e) (fun e => (d7 k hk).1 e))
 ·exact .inl h.ft
 ·exact .inl h.fs
 ·exact .inl h.fw
 ·exact .inl h.fk
 ·exact fun k hk => .inr hk
 ·exact fun k hk => .inl (h.fm k hk)
 ·exact fun k hk => .inl (h.fa k hk)
 ·intro k hk
  rcases hk with h1 | h1
  ·exact Nat.lt_of_lt_of_le (h.flt k h1) hfr2.size
  ·exact Nat.lt_of_lt_of_le (hvl k h1) hfs.size
theorem TaskAt.mark {w : World} {F : Nat → Prop} {tb : Nat} {p : TPrg} {T : Tk} {X : TB} {B : Nat} {v av : Value} {l : List Mark} {al : List Alarm} (h : TaskAt w F tb p T X) (ho : Own markE w B v l) (ha : Own alarmE w B av al) (hB : ∀ k, F k ∨ X.D k → k < B) :
  TaskAt ((w.setCell ⟨tb, 5, none⟩ v).setCell ⟨tb, 6, none⟩ av) (fun k => (F k ∨ v.ownBlock = some k) ∨ av.ownBlock = some k) tb p ⟨T.base, T.words, T.parts, l⟩ { X with mv := v, av := av, al := al } ∧ Fr F w ((w.setCell ⟨tb, 5, none⟩ v).setCell ⟨tb, 6, none⟩ av) := by
 have hfs : Fr (fun k => k = tb) w ((w.setCell ⟨tb, 5, none⟩ v).setCell ⟨tb, 6, none⟩ av) := ((Fr.refl (fun k => k = tb) w).setCell (p := ⟨tb, 5, none⟩) (fun _ => rfl) _).setCell (p := ⟨tb, 6, none⟩) (fun _ => rfl) _
 obtain ⟨d1, d2, d3, d4, d5, d6, d7⟩ := h.distinct
 have hv : ∀ k, v.ownBlock = some k → B ≤ k := fun k hk => (ho.lt hk).1
 have hva : ∀ k, av.ownBlock = some k → B ≤ k := fun k hk => (ha.lt hk).1
 have htb := hB tb (.inl h.ft)
 refine ⟨?_, hfs.mono (fun k e => e ▸ h.ft)⟩
 constructor
 ·have := row_set (row_set h.row 5 v) 6 av
  simpa using this
 ·exact h.prg.fr hfs fun k hk e => (h.out k hk).1 (e ▸ h.ft)
 ·intro k hk
  refine ⟨fun hk2 => ?_, Nat.lt_of_lt_of_le (h.out k hk).2 hfs.size⟩
  have h3 := hB k (.inr hk)
  rcases hk2 with (h1 | h1) | h1
  ·exact (h.out k hk).1 h1
  ·have h2 := hv k h1
   omega
  ·have h2 := hva k h1
   omega
 ·exact hfs.heap h.srow (fun e => d1 e.symm)
 ·exact hfs.heap h.wrow (fun e => d2 e.symm)
 ·exact h.parts.fr hfs (fun k hk e => (d4 k hk).1 e)
 ·exact (ho.fr hfs (fun k hk e => by have := hv k hk; omega)).base (fun k _ => Nat.zero_le _)
 ·exact Nat.lt_of_lt_of_le h.kb hfs.size
 ·exact h.kept.imp fun n hm => ⟨hm.1, hm.2.fr hfs (fun e => map_ne hm.2 h.row e)⟩
 ·exact (ha.fr hfs (fun k hk e => by have := hva k hk; omega)).base (fun k _ => Nat.zero_le _)
 ·exact .inl (.inl h.ft)
 ·exact .inl (.inl h.fs)
 ·exact .inl (.inl h.fw)
 ·exact .inl (.inl h.fk)
 ·exact fun k hk => .inl (.inl (h.fp k hk))
 ·exact fun k hk => .inl (.inr hk)
 ·exact fun k hk => .inr hk
 ·intro k hk
  rcases hk with (h1 | h1) | h1
  ·exact Nat.lt_of_lt_of_le (h.flt k h1) hfs.size
  ·exact Nat.lt_of_lt_of_le (ho.lt h1).2 hfs.size
  ·exact Nat.lt_of_lt_of_le (ha.lt h1).2 hfs.size
end Go.Proofs.YthkhgihjigmkoaaGreat.Tk
