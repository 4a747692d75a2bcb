/- Walks: a state without alarms: its last frame leaves, gets a deferred call, begins one. -/
import Derived.Test.YtmanoclahcpaoaaTmC
namespace Go.Proofs.Ytmanoclahcpaoaa
open Go.ChangeShapes Go.WideShapes Go.ChangeAt Go.RowKit Go.Maps

set_option maxRecDepth 100000 in
set_option maxHeartbeats 1600000 in
theorem stLeave_some (w : World) (B : Nat) (v : Value) (l : List Mark) (m : Mark) (h : Own markE w B v (l ++ [m])) (hl : l.length ≤ 10000) :
    Calls Try.prog 37 #[.agg #[v, .slice none 0 0]] w fun e w' => ∃ v', e = .returned (.agg #[v', .slice none 0 0]) ∧ Own markE w' w.heap.size v' (l ++ [⟨true, m.deferred, m.thunks⟩]) ∧ Below w.heap.size w w' := by
  obtain ⟨a, n, c, rfl⟩ := h.slice
  have hbx := fun wr h => box2 w #[.slice a n c, .slice none 0 0] #[.slice none 0 0, .slice none 0 0] 64 64 wr h
  have hz0 : ((w.alloc (.cells #[.slice a n c, .slice none 0 0] 64)).alloc (.cells #[.slice none 0 0, .slice none 0 0] 64)).heap.size = w.heap.size + 2 := by simp
  have hrow := heap_new (w.alloc (.cells #[.slice a n c, .slice none 0 0] 64)) (.cells #[.slice none 0 0, .slice none 0 0] 64)
  rw [show (w.alloc (.cells #[.slice a n c, .slice none 0 0] 64)).heap.size = w.heap.size + 1 from by simp] at hrow
  have hrow1 := row_alloc (heap_new w (.cells #[.slice a n c, .slice none 0 0] 64)) (.cells #[.slice none 0 0, .slice none 0 0] 64)
  obtain ⟨W, hW⟩ : ∃ W, W = (w.alloc (.cells #[.slice a n c, .slice none 0 0] 64)).alloc (.cells #[.slice none 0 0, .slice none 0 0] 64) := ⟨_, rfl⟩
  rw [← hW] at hbx hz0 hrow hrow1
  have hb := hbx W (by rw [← hz0]; exact Below.refl _ _)
  have k0 := hb.1 0 _ rfl
  have k1 := hb.1 1 _ rfl
  have hb0 := hb.2.2.1
  have hzw : w.heap.size + 1 < W.heap.size := by omega
  have HW := Lib.hid hW
  have HROW := Lib.hid hrow
  have HROW1 := Lib.hid hrow1
  have HZW := Lib.hid hzw
  clear hW hbx hz0 hb hrow hrow1 hzw
  have ow := own_any W B (.slice a n c) (l ++ [m]) (h.below hb0) (by simp; omega)
  obtain ⟨N, hN⟩ : ∃ N, l.length + 1 = N := ⟨_, rfl⟩
  have n0 : (0 : Int) < (N : Int) := by omega
  have i1 : IntKind.i64.wrap ((N : Int) - 1) = (l.length : Int) := by rw [show ((N : Int) - 1) = (l.length : Int) from by omega]; exact IntWalk.i64_in _ (by omega)
  have n1 : (l.length : Int) < (N : Int) := by omega
  clear h
  have OW := Lib.hid ow; clear ow
  have HB0 := Lib.hid hb0; clear hb0
  go_enter Try.func37, Try.ntmps37
  go_upto_region 1 with fail
  rw [← HW.out]
  go_wp2_with fail
  refine OW.out.mono ?_
  rintro e w3 ⟨v3, rfl, ho3, hb3⟩
  obtain ⟨g3, c3, rfl, hc3, _⟩ := own_pop ho3
  rw [hN] at ho3 hc3
  rw [hN]
  have hlow : W.heap.size ≤ g3 := own_base ho3 rfl
  have hg3 : g3 < w3.heap.size := (ho3.lt rfl).2
  have hrow3 := (Fr.of_below hb3 (fun _ => False)).heap HROW1.out (fun h => h)
  have hrow4 := (Fr.of_below hb3 (fun _ => False)).heap HROW.out (fun h => h)
  have f0 : w3.frozen? ⟨w.heap.size, 0, none⟩ = false := (row_cell hrow3 0).2
  have f1 : w3.frozen? ⟨w.heap.size, 1, none⟩ = false := (row_cell hrow3 1).2
  have k0 : w3.cell? ⟨w.heap.size, 0, none⟩ = some (.slice a n c) := (row_cell hrow3 0).1
  have k1 : w3.cell? ⟨w.heap.size, 1, none⟩ = some (.slice none 0 0) := (row_cell hrow3 1).1
  have hf : Fr (fun q => q = w.heap.size) w3 _ := ((Fr.refl (fun q => q = w.heap.size) w3).setCell (p := ⟨w.heap.size, 0, none⟩) (fun _ => rfl) (.slice (some ⟨g3, 0, none⟩) N c3)).setCell (p := ⟨w.heap.size, 1, none⟩) (fun _ => rfl) (.slice none 0 0)
  have hrq := row_set (row_set hrow3 0 (.slice (some ⟨g3, 0, none⟩) N c3)) 1 (.slice none 0 0)
  have hr : ((w3.setCell ⟨w.heap.size, 0, none⟩ (.slice (some ⟨g3, 0, none⟩) N c3)).setCell ⟨w.heap.size, 1, none⟩ (.slice none 0 0)).heap[w.heap.size]? = some (.cells #[.slice (some ⟨g3, 0, none⟩) N c3, .slice none 0 0] 64) := by simpa using hrq
  clear hrq
  have ho4 := ho3.fr hf (fun k hk e => by have := own_base ho3 hk; have := HZW.out; omega)
  have hrow5 := hf.heap hrow4 (by show ¬ w.heap.size + 1 = w.heap.size; omega)
  have hbz := HB0.out.trans (hb3.mono HB0.out.size)
  have hb4 := hbz.trans (hf.below hbz.size (fun k hk => by omega))
  have hsz : W.heap.size ≤ ((w3.setCell ⟨w.heap.size, 0, none⟩ (.slice (some ⟨g3, 0, none⟩) N c3)).setCell ⟨w.heap.size, 1, none⟩ (.slice none 0 0)).heap.size := Nat.le_trans hb3.size hf.size
  clear hf hbz ho3 hb3 hrow3 hrow4
  have HR := Lib.hid hr; clear hr
  have HO4 := Lib.hid ho4; clear ho4
  have HROW5 := Lib.hid hrow5; clear hrow5
  have HB4 := Lib.hid hb4; clear hb4
  have HSZ := Lib.hid hsz; clear hsz
  have HLOW := Lib.hid hlow; clear hlow
  go_upto_region 2 with fail
  obtain ⟨w4, hw4⟩ : ∃ w4, w4 = (w3.setCell ⟨w.heap.size, 0, none⟩ (.slice (some ⟨g3, 0, none⟩) N c3)).setCell ⟨w.heap.size, 1, none⟩ (.slice none 0 0) := ⟨_, rfl⟩
  rw [← hw4] at HR HO4 HROW5 HB4 HSZ ⊢
  clear hw4 f0 f1 k0 k1 hg3
  have k0 : w4.cell? ⟨w.heap.size, 0, none⟩ = some (.slice (some ⟨g3, 0, none⟩) N c3) := (row_cell HR.out 0).1
  have k1 : w4.cell? ⟨w.heap.size, 1, none⟩ = some (.slice none 0 0) := (row_cell HR.out 1).1
  have c0 : w4.cell? ⟨g3, l.length * 3, none⟩ = some (.bool m.leaving) := (own_lastc HO4.out 0 _ rfl).1
  have f0 : w4.frozen? ⟨g3, l.length * 3, none⟩ = false := (own_lastc HO4.out 0 _ rfl).2
  have hput := own_put HO4.out 0 (.bool true) ⟨true, m.deferred, m.thunks⟩ rfl
  change Own markE (World.setCell _ ⟨g3, l.length * 3, none⟩ _) _ _ _ at hput
  have hf5 := (Fr.refl (fun q => q = g3) w4).setCell (p := ⟨g3, l.length * 3, none⟩) (fun _ => rfl) (.bool true)
  have hlo5 := HLOW.out
  have hzw5 := HZW.out
  have hr5 := hf5.heap HR.out (by show ¬ w.heap.size = g3; omega)
  have hq5 := hf5.heap HROW5.out (by show ¬ w.heap.size + 1 = g3; omega)
  have hb5 := HB4.out.trans (hf5.below HB4.out.size (fun k hk => by omega))
  have hsz5 := Nat.le_trans HSZ.out hf5.size
  clear hf5 hlo5 hzw5
  have HPUT := Lib.hid hput; clear hput
  have HR5 := Lib.hid hr5; clear hr5
  have HQ5 := Lib.hid hq5; clear hq5
  have HB5 := Lib.hid hb5; clear hb5
  have HSZ5 := Lib.hid hsz5; clear hsz5
  go_upto_region 5 with fail
  obtain ⟨w5, hw5⟩ : ∃ w5, w5 = (w4).setCell ⟨g3, l.length * 3, none⟩ (.bool true) := ⟨_, rfl⟩
  rw [← hw5] at HPUT HR5 HQ5 HB5 HSZ5 ⊢
  clear hw5 k0 k1
  have k0 : w5.cell? ⟨w.heap.size, 0, none⟩ = some (.slice (some ⟨g3, 0, none⟩) N c3) := (row_cell HR5.out 0).1
  have k1 : w5.cell? ⟨w.heap.size, 1, none⟩ = some (.slice none 0 0) := (row_cell HR5.out 1).1
  clear c0 f0
  have hb6 := Below.refl w5.heap.size w5
  have hq7 := (Fr.of_below hb6 (fun _ => False)).heap HQ5.out (fun h => h)
  have ho7 := (HPUT.out).below hb6
  have hb9 := (HB5.out).trans (hb6.mono (HB5.out).size)
  have hlo := HLOW.out
  have hzw := HZW.out
  have hfr := (((Fr.refl (fun q => q = w.heap.size + 1) w5).setCell (p := ⟨w.heap.size + 1, 0, none⟩) (fun _ => rfl) (.slice (some ⟨g3, 0, none⟩) N c3)).setCell (p := ⟨w.heap.size + 1, 1, none⟩) (fun _ => rfl) (.slice none 0 0))
  have hr7 := row_set (row_set hq7 0 (.slice (some ⟨g3, 0, none⟩) N c3)) 1 (.slice none 0 0)
  have ho := (ho7.fr hfr (fun k hk e => by have := own_base ho7 hk; omega)).base (B' := w.heap.size) (fun k hk => by have := own_base ho7 hk; omega)
  have hbf := hb9.trans (hfr.below hb9.size (fun k hk => by omega))
  have q0 : (w5).cell? ⟨w.heap.size + 1, 0, none⟩ = some (.slice none 0 0) := (row_cell hq7 0).1
  have q1 : (w5).cell? ⟨w.heap.size + 1, 1, none⟩ = some (.slice none 0 0) := (row_cell hq7 1).1
  have f0 : (w5).frozen? ⟨w.heap.size + 1, 0, none⟩ = false := (row_cell hq7 0).2
  have f1 : (w5).frozen? ⟨w.heap.size + 1, 1, none⟩ = false := (row_cell hq7 1).2
  have hP : (fun (e : Ending) (w' : World) => ∃ v', e = .returned (.agg #[v', .slice none 0 0]) ∧ Own markE w' w.heap.size v' (l ++ [⟨true, m.deferred, m.thunks⟩]) ∧ Below w.heap.size w w') (.returned (.agg #[.slice (some ⟨g3, 0, none⟩) N c3, .slice none 0 0])) _ := ⟨_, rfl, ho, hbf⟩
  clear hq7 ho7 hb9 hfr ho hbf hb6
  have HR7 := Lib.hid hr7; clear hr7
  have HP := Lib.hid hP; clear hP
  go_wp2_with (with_reducible refine bodyPost_ret ?_ rfl HP.out; have k0 := (row_cell HR7.out 0).1; have k1 := (row_cell HR7.out 1).1; simp at k0 k1; simp [results, Try.results37, go_sem, k0, k1])
set_option maxRecDepth 100000 in
set_option maxHeartbeats 1600000 in
theorem stDefer_some (w : World) (B : Nat) (v : Value) (l : List Mark) (m : Mark) (h : Own markE w B v (l ++ [m])) (hl : l.length ≤ 10000) (h0 : 0 ≤ m.thunks) (h16 : m.thunks < 16) :
    Calls Try.prog 35 #[.agg #[v, .slice none 0 0]] w fun e w' => ∃ v', e = .returned (.tuple #[.agg #[v', .slice none 0 0], .bool true]) ∧ Own markE w' w.heap.size v' (l ++ [⟨m.leaving, m.deferred, m.thunks + 1⟩]) ∧ Below w.heap.size w w' := by
  obtain ⟨a, n, c, rfl⟩ := h.slice
  have hbx := fun wr h => box2 w #[.slice a n c, .slice none 0 0] #[.slice none 0 0, .slice none 0 0] 64 64 wr h
  have hz0 : ((w.alloc (.cells #[.slice a n c, .slice none 0 0] 64)).alloc (.cells #[.slice none 0 0, .slice none 0 0] 64)).heap.size = w.heap.size + 2 := by simp
  have hrow := heap_new (w.alloc (.cells #[.slice a n c, .slice none 0 0] 64)) (.cells #[.slice none 0 0, .slice none 0 0] 64)
  rw [show (w.alloc (.cells #[.slice a n c, .slice none 0 0] 64)).heap.size = w.heap.size + 1 from by simp] at hrow
  have hrow1 := row_alloc (heap_new w (.cells #[.slice a n c, .slice none 0 0] 64)) (.cells #[.slice none 0 0, .slice none 0 0] 64)
  obtain ⟨W, hW⟩ : ∃ W, W = (w.alloc (.cells #[.slice a n c, .slice none 0 0] 64)).alloc (.cells #[.slice none 0 0, .slice none 0 0] 64) := ⟨_, rfl⟩
  rw [← hW] at hbx hz0 hrow hrow1
  have hb := hbx W (by rw [← hz0]; exact Below.refl _ _)
  have k0 := hb.1 0 _ rfl
  have k1 := hb.1 1 _ rfl
  have hb0 := hb.2.2.1
  have hzw : w.heap.size + 1 < W.heap.size := by omega
  have HW := Lib.hid hW
  have HROW := Lib.hid hrow
  have HROW1 := Lib.hid hrow1
  have HZW := Lib.hid hzw
  clear hW hbx hz0 hb hrow hrow1 hzw
  have ow := own_any W B (.slice a n c) (l ++ [m]) (h.below hb0) (by simp; omega)
  obtain ⟨N, hN⟩ : ∃ N, l.length + 1 = N := ⟨_, rfl⟩
  have i1 : IntKind.i64.wrap ((N : Int) - 1) = (l.length : Int) := by rw [show ((N : Int) - 1) = (l.length : Int) from by omega]; exact IntWalk.i64_in _ (by omega)
  have i2 : IntKind.i64.wrap (m.thunks + 1) = m.thunks + 1 := IntWalk.i64_in _ (by omega)
  have n1 : (l.length : Int) < (N : Int) := by omega
  clear h
  have OW := Lib.hid ow; clear ow
  have HB0 := Lib.hid hb0; clear hb0
  go_enter Try.func35, Try.ntmps35
  go_upto_region 1 with fail
  rw [← HW.out]
  go_wp2_with fail
  refine OW.out.mono ?_
  rintro e w3 ⟨v3, rfl, ho3, hb3⟩
  obtain ⟨g3, c3, rfl, hc3, _⟩ := own_pop ho3
  rw [hN] at ho3 hc3
  rw [hN]
  have hlow : W.heap.size ≤ g3 := own_base ho3 rfl
  have hg3 : g3 < w3.heap.size := (ho3.lt rfl).2
  have hrow3 := (Fr.of_below hb3 (fun _ => False)).heap HROW1.out (fun h => h)
  have hrow4 := (Fr.of_below hb3 (fun _ => False)).heap HROW.out (fun h => h)
  have f0 : w3.frozen? ⟨w.heap.size, 0, none⟩ = false := (row_cell hrow3 0).2
  have f1 : w3.frozen? ⟨w.heap.size, 1, none⟩ = false := (row_cell hrow3 1).2
  have k0 : w3.cell? ⟨w.heap.size, 0, none⟩ = some (.slice a n c) := (row_cell hrow3 0).1
  have k1 : w3.cell? ⟨w.heap.size, 1, none⟩ = some (.slice none 0 0) := (row_cell hrow3 1).1
  have hf : Fr (fun q => q = w.heap.size) w3 _ := ((Fr.refl (fun q => q = w.heap.size) w3).setCell (p := ⟨w.heap.size, 0, none⟩) (fun _ => rfl) (.slice (some ⟨g3, 0, none⟩) N c3)).setCell (p := ⟨w.heap.size, 1, none⟩) (fun _ => rfl) (.slice none 0 0)
  have hrq := row_set (row_set hrow3 0 (.slice (some ⟨g3, 0, none⟩) N c3)) 1 (.slice none 0 0)
  have hr : ((w3.setCell ⟨w.heap.size, 0, none⟩ (.slice (some ⟨g3, 0, none⟩) N c3)).setCell ⟨w.heap.size, 1, none⟩ (.slice none 0 0)).heap[w.heap.size]? = some (.cells #[.slice (some ⟨g3, 0, none⟩) N c3, .slice none 0 0] 64) := by simpa using hrq
  clear hrq
  have ho4 := ho3.fr hf (fun k hk e => by have := own_base ho3 hk; have := HZW.out; omega)
  have hrow5 := hf.heap hrow4 (by show ¬ w.heap.size + 1 = w.heap.size; omega)
  have hbz := HB0.out.trans (hb3.mono HB0.out.size)
  have hb4 := hbz.trans (hf.below hbz.size (fun k hk => by omega))
  have hsz : W.heap.size ≤ ((w3.setCell ⟨w.heap.size, 0, none⟩ (.slice (some ⟨g3, 0, none⟩) N c3)).setCell ⟨w.heap.size, 1, none⟩ (.slice none 0 0)).heap.size := Nat.le_trans hb3.size hf.size
  clear hf hbz ho3 hb3 hrow3 hrow4
  have HR := Lib.hid hr; clear hr
  have HO4 := Lib.hid ho4; clear ho4
  have HROW5 := Lib.hid hrow5; clear hrow5
  have HB4 := Lib.hid hb4; clear hb4
  have HSZ := Lib.hid hsz; clear hsz
  have HLOW := Lib.hid hlow; clear hlow
  go_upto_region 2 with fail
  obtain ⟨w4, hw4⟩ : ∃ w4, w4 = (w3.setCell ⟨w.heap.size, 0, none⟩ (.slice (some ⟨g3, 0, none⟩) N c3)).setCell ⟨w.heap.size, 1, none⟩ (.slice none 0 0) := ⟨_, rfl⟩
  rw [← hw4] at HR HO4 HROW5 HB4 HSZ ⊢
  clear hw4 f0 f1 k0 k1 hg3
  have k0 : w4.cell? ⟨w.heap.size, 0, none⟩ = some (.slice (some ⟨g3, 0, none⟩) N c3) := (row_cell HR.out 0).1
  have k1 : w4.cell? ⟨w.heap.size, 1, none⟩ = some (.slice none 0 0) := (row_cell HR.out 1).1
  have tp := stTop_some w4 W.heap.size (.slice (some ⟨g3, 0, none⟩) N c3) l m HO4.out (by omega)
  have TP := Lib.hid tp; clear tp
  go_wp2_with fail
  refine TP.out.mono ?_
  rintro e wa ⟨rfl, hb5⟩
  have hb6 := hb5.alloc hb5.size (.cells #[.bool m.leaving, .bool m.deferred, .int .i64 m.thunks] 80)
  have hrow := heap_new wa (.cells #[.bool m.leaving, .bool m.deferred, .int .i64 m.thunks] 80)
  obtain ⟨lb, hlb⟩ : ∃ lb, lb = wa.heap.size := ⟨_, rfl⟩
  clear hb5
  have HB6 := Lib.hid hb6
  have HRW := Lib.hid hrow
  have HLB := Lib.hid hlb
  clear hb6 hrow hlb k0 k1
  dsimp only
  go_upto_region 3 with fail
  obtain ⟨w6, hw6⟩ : ∃ w6, w6 = wa.alloc (.cells #[.bool m.leaving, .bool m.deferred, .int .i64 m.thunks] 80) := ⟨_, rfl⟩
  rw [← hw6] at HB6 HRW ⊢
  rw [← HLB.out] at HRW ⊢
  have HO6 := Lib.hid (HO4.out.below HB6.out)
  have HR6 := Lib.hid ((Fr.of_below HB6.out (fun _ => False)).heap HR.out (fun h => h))
  have HQ6 := Lib.hid ((Fr.of_below HB6.out (fun _ => False)).heap HROW5.out (fun h => h))
  have HB7 := Lib.hid (HB4.out.trans (HB6.out.mono HB4.out.size))
  have HS6 := Lib.hid (Nat.le_trans HSZ.out HB6.out.size)
  clear hw6 HO4 HR HROW5 HB4 HSZ
  have k0 : w6.cell? ⟨w.heap.size, 0, none⟩ = some (.slice (some ⟨g3, 0, none⟩) N c3) := (row_cell HR6.out 0).1
  have k1 : w6.cell? ⟨w.heap.size, 1, none⟩ = some (.slice none 0 0) := (row_cell HR6.out 1).1
  have q2 : w6.cell? ⟨lb, 2, none⟩ = some (.int .i64 m.thunks) := (row_cell HRW.out 2).1
  have n2 : ¬ 16 ≤ m.thunks := by omega
  have c0 : w6.cell? ⟨g3, l.length * 3 + 2, none⟩ = some (.int .i64 m.thunks) := (own_lastc HO6.out 2 _ rfl).1
  have f0 : w6.frozen? ⟨g3, l.length * 3 + 2, none⟩ = false := (own_lastc HO6.out 2 _ rfl).2
  have HO4 := HO6
  have HR := HR6
  have HROW5 := HQ6
  have HB4 := HB7
  have HSZ := HS6
  clear HO6 HR6 HQ6 HB7 HS6
  have hput := own_put HO4.out 2 (.int .i64 (m.thunks + 1)) ⟨m.leaving, m.deferred, m.thunks + 1⟩ rfl
  change Own markE (World.setCell _ ⟨g3, l.length * 3 + 2, none⟩ _) _ _ _ at hput
  have hf5 := (Fr.refl (fun q => q = g3) w6).setCell (p := ⟨g3, l.length * 3 + 2, none⟩) (fun _ => rfl) (.int .i64 (m.thunks + 1))
  have hlo5 := HLOW.out
  have hzw5 := HZW.out
  have hr5 := hf5.heap HR.out (by show ¬ w.heap.size = g3; omega)
  have hq5 := hf5.heap HROW5.out (by show ¬ w.heap.size + 1 = g3; omega)
  have hb5 := HB4.out.trans (hf5.below HB4.out.size (fun k hk => by omega))
  have hsz5 := Nat.le_trans HSZ.out hf5.size
  clear hf5 hlo5 hzw5
  have HPUT := Lib.hid hput; clear hput
  have HR5 := Lib.hid hr5; clear hr5
  have HQ5 := Lib.hid hq5; clear hq5
  have HB5 := Lib.hid hb5; clear hb5
  have HSZ5 := Lib.hid hsz5; clear hsz5
  go_upto_region 6 with fail
  obtain ⟨w5, hw5⟩ : ∃ w5, w5 = (w6).setCell ⟨g3, l.length * 3 + 2, none⟩ (.int .i64 (m.thunks + 1)) := ⟨_, rfl⟩
  rw [← hw5] at HPUT HR5 HQ5 HB5 HSZ5 ⊢
  clear hw5 k0 k1
  have k0 : w5.cell? ⟨w.heap.size, 0, none⟩ = some (.slice (some ⟨g3, 0, none⟩) N c3) := (row_cell HR5.out 0).1
  have k1 : w5.cell? ⟨w.heap.size, 1, none⟩ = some (.slice none 0 0) := (row_cell HR5.out 1).1
  clear c0 f0 q2
  have hb6 := Below.refl w5.heap.size w5
  have hq7 := (Fr.of_below hb6 (fun _ => False)).heap HQ5.out (fun h => h)
  have ho7 := (HPUT.out).below hb6
  have hb9 := (HB5.out).trans (hb6.mono (HB5.out).size)
  have hlo := HLOW.out
  have hzw := HZW.out
  have hfr := (((Fr.refl (fun q => q = w.heap.size + 1) w5).setCell (p := ⟨w.heap.size + 1, 0, none⟩) (fun _ => rfl) (.slice (some ⟨g3, 0, none⟩) N c3)).setCell (p := ⟨w.heap.size + 1, 1, none⟩) (fun _ => rfl) (.slice none 0 0))
  have hr7 := row_set (row_set hq7 0 (.slice (some ⟨g3, 0, none⟩) N c3)) 1 (.slice none 0 0)
  have ho := (ho7.fr hfr (fun k hk e => by have := own_base ho7 hk; omega)).base (B' := w.heap.size) (fun k hk => by have := own_base ho7 hk; omega)
  have hbf := hb9.trans (hfr.below hb9.size (fun k hk => by omega))
  have q0 : (w5).cell? ⟨w.heap.size + 1, 0, none⟩ = some (.slice none 0 0) := (row_cell hq7 0).1
  have q1 : (w5).cell? ⟨w.heap.size + 1, 1, none⟩ = some (.slice none 0 0) := (row_cell hq7 1).1
  have f0 : (w5).frozen? ⟨w.heap.size + 1, 0, none⟩ = false := (row_cell hq7 0).2
  have f1 : (w5).frozen? ⟨w.heap.size + 1, 1, none⟩ = false := (row_cell hq7 1).2
  have hP : (fun (e : Ending) (w' : World) => ∃ v', e = .returned (.tuple #[.agg #[v', .slice none 0 0], .bool true]) ∧ Own markE w' w.heap.size v' (l ++ [⟨m.leaving, m.deferred, m.thunks + 1⟩]) ∧ Below w.heap.size w w') (.returned (.tuple #[.agg #[.slice (some ⟨g3, 0, none⟩) N c3, .slice none 0 0], .bool true])) _ := ⟨_, rfl, ho, hbf⟩
  clear hq7 ho7 hb9 hfr ho hbf hb6
  have HR7 := Lib.hid hr7; clear hr7
  have HP := Lib.hid hP; clear hP
  go_wp2_with (with_reducible refine bodyPost_ret ?_ rfl HP.out; have k0 := (row_cell HR7.out 0).1; have k1 := (row_cell HR7.out 1).1; simp at k0 k1; simp [results, Try.results35, go_sem, k0, k1])
set_option maxRecDepth 100000 in
set_option maxHeartbeats 1600000 in
theorem stThunk_some (w : World) (B : Nat) (v : Value) (l : List Mark) (m : Mark) (h : Own markE w B v (l ++ [m])) (hl : l.length ≤ 10000) (hv : m.leaving = true) (h0 : 0 < m.thunks) (h16 : m.thunks < 100) :
    Calls Try.prog 39 #[.agg #[v, .slice none 0 0]] w fun e w' => ∃ v', e = .returned (.agg #[v', .slice none 0 0]) ∧ Own markE w' w.heap.size v' (l ++ [⟨true, m.deferred, m.thunks - 1⟩] ++ [⟨false, true, 0⟩]) ∧ Below w.heap.size w w' := by
  obtain ⟨a, n, c, rfl⟩ := h.slice
  obtain ⟨L, hL⟩ : ∃ L, L = l ++ [⟨true, m.deferred, m.thunks - 1⟩] := ⟨_, rfl⟩
  have hLl : L.length = l.length + 1 := by rw [hL]; simp
  rw [← hL]
  have HL := Lib.hid hL
  have HLL := Lib.hid hLl
  clear hL hLl
  have hbx := fun wr h => box2 w #[.slice a n c, .slice none 0 0] #[.slice none 0 0, .slice none 0 0] 64 64 wr h
  have hz0 : ((w.alloc (.cells #[.slice a n c, .slice none 0 0] 64)).alloc (.cells #[.slice none 0 0, .slice none 0 0] 64)).heap.size = w.heap.size + 2 := by simp
  have hrow := heap_new (w.alloc (.cells #[.slice a n c, .slice none 0 0] 64)) (.cells #[.slice none 0 0, .slice none 0 0] 64)
  rw [show (w.alloc (.cells #[.slice a n c, .slice none 0 0] 64)).heap.size = w.heap.size + 1 from by simp] at hrow
  have hrow1 := row_alloc (heap_new w (.cells #[.slice a n c, .slice none 0 0] 64)) (.cells #[.slice none 0 0, .slice none 0 0] 64)
  obtain ⟨W, hW⟩ : ∃ W, W = (w.alloc (.cells #[.slice a n c, .slice none 0 0] 64)).alloc (.cells #[.slice none 0 0, .slice none 0 0] 64) := ⟨_, rfl⟩
  rw [← hW] at hbx hz0 hrow hrow1
  have hb := hbx W (by rw [← hz0]; exact Below.refl _ _)
  have k0 := hb.1 0 _ rfl
  have k1 := hb.1 1 _ rfl
  have hb0 := hb.2.2.1
  have hzw : w.heap.size + 1 < W.heap.size := by omega
  have HW := Lib.hid hW
  have HROW := Lib.hid hrow
  have HROW1 := Lib.hid hrow1
  have HZW := Lib.hid hzw
  clear hW hbx hz0 hb hrow hrow1 hzw
  have nx := stNext_some W B (.slice a n c) l m (h.below hb0) (by omega)
  rw [show nextN (l ++ [m]) = 1 from by unfold nextN; rw [List.getLast?_concat]; simp [hv, h0]] at nx
  have hO := fun wr (hw : Below W.heap.size W wr) => (h.below hb0).below hw
  obtain ⟨N, hN⟩ : ∃ N, l.length + 1 = N := ⟨_, rfl⟩
  have i1 : IntKind.i64.wrap ((N : Int) - 1) = (l.length : Int) := by rw [show ((N : Int) - 1) = (l.length : Int) from by omega]; exact IntWalk.i64_in _ (by omega)
  have i2 : IntKind.i64.wrap (m.thunks - 1) = m.thunks - 1 := IntWalk.i64_in _ (by omega)
  have n1 : (l.length : Int) < (N : Int) := by omega
  clear h
  have NX := Lib.hid nx; clear nx
  have HB0 := Lib.hid hb0; clear hb0
  have HO := Lib.hid hO; clear hO
  go_enter Try.func39, Try.ntmps39
  go_upto_region 1 with fail
  rw [← HW.out]
  go_wp2_with fail
  refine NX.out.mono ?_
  rintro e w1 ⟨rfl, hb1⟩
  have ow := own_any w1 B (.slice a n c) (l ++ [m]) (HO.out w1 hb1) (by simp; omega)
  have hb0 := HB0.out.trans (hb1.mono HB0.out.size)
  have hrow := (Fr.of_below hb1 (fun _ => False)).heap HROW.out (fun h => h)
  have hrow1 := (Fr.of_below hb1 (fun _ => False)).heap HROW1.out (fun h => h)
  have hzw := Nat.lt_of_lt_of_le HZW.out hb1.size
  clear HB0 HROW HROW1 HZW hb1 k0 k1
  have k0 : w1.cell? ⟨w.heap.size, 0, none⟩ = some (.slice a n c) := (row_cell hrow1 0).1
  have k1 : w1.cell? ⟨w.heap.size, 1, none⟩ = some (.slice none 0 0) := (row_cell hrow1 1).1
  have OW := Lib.hid ow; clear ow
  have HB0 := Lib.hid hb0; clear hb0
  have HROW := Lib.hid hrow; clear hrow
  have HROW1 := Lib.hid hrow1; clear hrow1
  have HZW := Lib.hid hzw; clear hzw
  go_wp2_with fail
  refine OW.out.mono ?_
  rintro e w3 ⟨v3, rfl, ho3, hb3⟩
  obtain ⟨g3, c3, rfl, hc3, _⟩ := own_pop ho3
  rw [hN] at ho3 hc3
  rw [hN]
  have hlow : w1.heap.size ≤ g3 := own_base ho3 rfl
  have hg3 : g3 < w3.heap.size := (ho3.lt rfl).2
  have hrow3 := (Fr.of_below hb3 (fun _ => False)).heap HROW1.out (fun h => h)
  have hrow4 := (Fr.of_below hb3 (fun _ => False)).heap HROW.out (fun h => h)
  have f0 : w3.frozen? ⟨w.heap.size, 0, none⟩ = false := (row_cell hrow3 0).2
  have f1 : w3.frozen? ⟨w.heap.size, 1, none⟩ = false := (row_cell hrow3 1).2
  have k0 : w3.cell? ⟨w.heap.size, 0, none⟩ = some (.slice a n c) := (row_cell hrow3 0).1
  have k1 : w3.cell? ⟨w.heap.size, 1, none⟩ = some (.slice none 0 0) := (row_cell hrow3 1).1
  have hf : Fr (fun q => q = w.heap.size) w3 _ := ((Fr.refl (fun q => q = w.heap.size) w3).setCell (p := ⟨w.heap.size, 0, none⟩) (fun _ => rfl) (.slice (some ⟨g3, 0, none⟩) N c3)).setCell (p := ⟨w.heap.size, 1, none⟩) (fun _ => rfl) (.slice none 0 0)
  have hrq := row_set (row_set hrow3 0 (.slice (some ⟨g3, 0, none⟩) N c3)) 1 (.slice none 0 0)
  have hr : ((w3.setCell ⟨w.heap.size, 0, none⟩ (.slice (some ⟨g3, 0, none⟩) N c3)).setCell ⟨w.heap.size, 1, none⟩ (.slice none 0 0)).heap[w.heap.size]? = some (.cells #[.slice (some ⟨g3, 0, none⟩) N c3, .slice none 0 0] 64) := by simpa using hrq
  clear hrq
  have ho4 := ho3.fr hf (fun k hk e => by have := own_base ho3 hk; have := HZW.out; omega)
  have hrow5 := hf.heap hrow4 (by show ¬ w.heap.size + 1 = w.heap.size; omega)
  have hbz := HB0.out.trans (hb3.mono HB0.out.size)
  have hb4 := hbz.trans (hf.below hbz.size (fun k hk => by omega))
  have hsz : w1.heap.size ≤ ((w3.setCell ⟨w.heap.size, 0, none⟩ (.slice (some ⟨g3, 0, none⟩) N c3)).setCell ⟨w.heap.size, 1, none⟩ (.slice none 0 0)).heap.size := Nat.le_trans hb3.size hf.size
  clear hf hbz ho3 hb3 hrow3 hrow4
  have HR := Lib.hid hr; clear hr
  have HO4 := Lib.hid ho4; clear ho4
  have HROW5 := Lib.hid hrow5; clear hrow5
  have HB4 := Lib.hid hb4; clear hb4
  have HSZ := Lib.hid hsz; clear hsz
  have HLOW := Lib.hid hlow; clear hlow
  go_upto_region 3 with fail
  obtain ⟨w4, hw4⟩ : ∃ w4, w4 = (w3.setCell ⟨w.heap.size, 0, none⟩ (.slice (some ⟨g3, 0, none⟩) N c3)).setCell ⟨w.heap.size, 1, none⟩ (.slice none 0 0) := ⟨_, rfl⟩
  rw [← hw4] at HR HO4 HROW5 HB4 HSZ ⊢
  clear hw4 f0 f1 k0 k1 hg3
  have k0 : w4.cell? ⟨w.heap.size, 0, none⟩ = some (.slice (some ⟨g3, 0, none⟩) N c3) := (row_cell HR.out 0).1
  have k1 : w4.cell? ⟨w.heap.size, 1, none⟩ = some (.slice none 0 0) := (row_cell HR.out 1).1
  have c0 : w4.cell? ⟨g3, l.length * 3 + 2, none⟩ = some (.int .i64 m.thunks) := (own_lastc HO4.out 2 _ rfl).1
  have f0 : w4.frozen? ⟨g3, l.length * 3 + 2, none⟩ = false := (own_lastc HO4.out 2 _ rfl).2
  have hmt : Own markE w4 w1.heap.size (.slice (some ⟨g3, 0, none⟩) N c3) (l ++ [⟨true, m.deferred, m.thunks⟩]) := by
    have := HO4.out
    obtain ⟨m1, m2, m3⟩ := m
    have hv : m1 = true := hv
    subst hv
    exact this
  clear HO4
  have HO4 := Lib.hid hmt
  clear hmt
  have hput := own_put HO4.out 2 (.int .i64 (m.thunks - 1)) ⟨true, m.deferred, m.thunks - 1⟩ rfl
  change Own markE (World.setCell _ ⟨g3, l.length * 3 + 2, none⟩ _) _ _ _ at hput
  have hf5 := (Fr.refl (fun q => q = g3) w4).setCell (p := ⟨g3, l.length * 3 + 2, none⟩) (fun _ => rfl) (.int .i64 (m.thunks - 1))
  have hlo5 := HLOW.out
  have hzw5 := HZW.out
  have hr5 := hf5.heap HR.out (by show ¬ w.heap.size = g3; omega)
  have hq5 := hf5.heap HROW5.out (by show ¬ w.heap.size + 1 = g3; omega)
  have hb5 := HB4.out.trans (hf5.below HB4.out.size (fun k hk => by omega))
  have hsz5 := Nat.le_trans HSZ.out hf5.size
  clear hf5 hlo5 hzw5
  have HPUT := Lib.hid hput; clear hput
  have HR5 := Lib.hid hr5; clear hr5
  have HQ5 := Lib.hid hq5; clear hq5
  have HB5 := Lib.hid hb5; clear hb5
  have HSZ5 := Lib.hid hsz5; clear hsz5
  go_upto_region 6 with fail
  obtain ⟨w5, hw5⟩ : ∃ w5, w5 = (w4).setCell ⟨g3, l.length * 3 + 2, none⟩ (.int .i64 (m.thunks - 1)) := ⟨_, rfl⟩
  rw [← hw5] at HPUT HR5 HQ5 HB5 HSZ5 ⊢
  clear hw5 k0 k1
  have k0 : w5.cell? ⟨w.heap.size, 0, none⟩ = some (.slice (some ⟨g3, 0, none⟩) N c3) := (row_cell HR5.out 0).1
  have k1 : w5.cell? ⟨w.heap.size, 1, none⟩ = some (.slice none 0 0) := (row_cell HR5.out 1).1
  clear c0 f0
  have hput := HPUT.out
  rw [← HL.out] at hput
  clear HPUT
  have HO5 := Lib.hid hput
  clear hput k1
  go_wp2_with (at_builtin; refine append_fresh markE rfl (.tmp 25) (.tmp 27) rfl w1.heap.size L [⟨false, true, 0⟩] _ rfl (HO5.out.alloc _) w5.heap.size 0 1 rfl (CellsAt.new _ _ _ _) ?c1 ?c2 ?_)
  case c1 => have := HLL.out; show L.length + 1 ≤ 100000000; omega
  case c2 => have := HSZ5.out; simp; omega
  intro v5 w6 ho5 hg5 hf5
  obtain ⟨g5, c5, rfl, _, _⟩ := own_pop ho5
  obtain ⟨N5, hN5⟩ : ∃ N5, N5 = L.length + 1 := ⟨_, rfl⟩
  rw [← hN5] at ho5 ⊢
  have hz1 := HZW.out
  have hz4 := HSZ5.out
  have hlo3 := HLOW.out
  have hr5 := (hg5.block w.heap.size (by simp; omega) (fun e => by have := own_base HO5.out e.symm; omega)).trans ((Below.heap_alloc w5 _ w.heap.size (by omega)).trans HR5.out)
  have hq5 := (hg5.block (w.heap.size + 1) (by simp; omega) (fun e => by have := own_base HO5.out e.symm; omega)).trans ((Below.heap_alloc w5 _ (w.heap.size + 1) (by omega)).trans HQ5.out)
  have hb5 := below_grown (HB5.out.alloc HB5.out.size _) (HO5.out.alloc (.cells #[.bool false, .bool true, .int .i64 0] 80)) hg5 (by have := HB5.out.size; simp; omega) (by omega)
  have hlow5 : w1.heap.size ≤ g5 := own_base ho5 rfl
  have hf6 := (Fr.refl (fun q => q = w.heap.size) w6).setCell (p := ⟨w.heap.size, 0, none⟩) (fun _ => rfl) (.slice (some ⟨g5, 0, none⟩) N5 c5)
  have hr6 := row_set hr5 0 (.slice (some ⟨g5, 0, none⟩) N5 c5)
  have hq6 := hf6.heap hq5 (by show ¬ w.heap.size + 1 = w.heap.size; omega)
  have ho6 := ho5.fr hf6 (fun k hk e => by have := own_base ho5 hk; omega)
  have hb6 := hb5.trans (hf6.below hb5.size (fun k hk => by omega))
  have f0 : w6.frozen? ⟨w.heap.size, 0, none⟩ = false := (row_cell hr5 0).2
  have k0 : w6.cell? ⟨w.heap.size, 0, none⟩ = some (.slice (some ⟨g3, 0, none⟩) N c3) := (row_cell hr5 0).1
  have un := fun w => unwinds_nil w (some ⟨g5, 0, none⟩) N5 c5
  clear hg5 hf5 ho5 hb5 hr5 hq5 hf6 HO5 HR5 HQ5 HB5 hN5 hz1 hz4 hlo3
  have HR6 := Lib.hid hr6; clear hr6
  have HQ6 := Lib.hid hq6; clear hq6
  have HO6 := Lib.hid ho6; clear ho6
  have HB6 := Lib.hid hb6; clear hb6
  have HLOW5 := Lib.hid hlow5; clear hlow5
  have UN := Lib.hid un; clear un
  go_upto_region 7 with fail
  obtain ⟨w7, hw7⟩ : ∃ w7, w7 = w6.setCell ⟨w.heap.size, 0, none⟩ (.slice (some ⟨g5, 0, none⟩) N5 c5) := ⟨_, rfl⟩
  rw [← hw7] at HR6 HQ6 HO6 HB6 ⊢
  clear hw7 f0 k0
  have k0 : w7.cell? ⟨w.heap.size, 0, none⟩ = some (.slice (some ⟨g5, 0, none⟩) N5 c5) := (row_cell HR6.out 0).1
  have k1 : w7.cell? ⟨w.heap.size, 1, none⟩ = some (.slice none 0 0) := (row_cell HR6.out 1).1
  go_wp2_with fail
  refine (UN.out _).mono ?_
  rintro e w8 ⟨rfl, hb8⟩
  have k0 := below_cell hb8 k0
  have k1 := below_cell hb8 k1
  go_upto_region 9 with fail
  have hq7 := (Fr.of_below hb8 (fun _ => False)).heap HQ6.out (fun h => h)
  have ho7 := (HO6.out).below hb8
  have hb9 := (HB6.out).trans (hb8.mono (HB6.out).size)
  have hlo := HLOW.out
  have hzw := HZW.out
  have hfr := (((Fr.refl (fun q => q = w.heap.size + 1) w8).setCell (p := ⟨w.heap.size + 1, 0, none⟩) (fun _ => rfl) (.slice (some ⟨g5, 0, none⟩) N5 c5)).setCell (p := ⟨w.heap.size + 1, 1, none⟩) (fun _ => rfl) (.slice none 0 0))
  have hr7 := row_set (row_set hq7 0 (.slice (some ⟨g5, 0, none⟩) N5 c5)) 1 (.slice none 0 0)
  have ho := (ho7.fr hfr (fun k hk e => by have := own_base ho7 hk; omega)).base (B' := w.heap.size) (fun k hk => by have := own_base ho7 hk; omega)
  have hbf := hb9.trans (hfr.below hb9.size (fun k hk => by omega))
  have q0 : (w8).cell? ⟨w.heap.size + 1, 0, none⟩ = some (.slice none 0 0) := (row_cell hq7 0).1
  have q1 : (w8).cell? ⟨w.heap.size + 1, 1, none⟩ = some (.slice none 0 0) := (row_cell hq7 1).1
  have f0 : (w8).frozen? ⟨w.heap.size + 1, 0, none⟩ = false := (row_cell hq7 0).2
  have f1 : (w8).frozen? ⟨w.heap.size + 1, 1, none⟩ = false := (row_cell hq7 1).2
  have hP : (fun (e : Ending) (w' : World) => ∃ v', e = .returned (.agg #[v', .slice none 0 0]) ∧ Own markE w' w.heap.size v' (L ++ [⟨false, true, 0⟩]) ∧ Below w.heap.size w w') (.returned (.agg #[.slice (some ⟨g5, 0, none⟩) N5 c5, .slice none 0 0])) _ := ⟨_, rfl, ho, hbf⟩
  clear hq7 ho7 hb9 hfr ho hbf hb8
  have HR7 := Lib.hid hr7; clear hr7
  have HP := Lib.hid hP; clear hP
  go_wp2_with (with_reducible refine bodyPost_ret ?_ rfl HP.out; have k0 := (row_cell HR7.out 0).1; have k1 := (row_cell HR7.out 1).1; simp at k0 k1; simp [results, Try.results39, go_sem, k0, k1])
end Go.Proofs.Ytmanoclahcpaoaa
