/- Walks: a state without alarms ends a frame. -/
import Derived.Test.YtmanoclahcpaoaaTmB
namespace Go.Proofs.Ytmanoclahcpaoaa
open Go.ChangeShapes Go.WideShapes Go.ChangeAt Go.RowKit Go.Maps

set_option maxRecDepth 100000 in
theorem ended_nil (w : World) (a : Option Addr) (n c : Nat) (k : Int) :
    Calls Try.prog 50 #[.agg #[.slice a n c, .slice none 0 0], .int .i64 k] w fun e w' => e = .returned (.agg #[.slice a n c, .slice none 0 0]) ∧ Below w.heap.size w w' := by
  go_enter Try.func50, Try.ntmps50
  go_wp2_with fail
  refine bodyPost_ret ?_ rfl ⟨rfl, ((Below.refl w.heap.size w).alloc (Nat.le_refl _) _).alloc (by simp) _⟩
  simp [results, Try.results50, go_sem, cell_new2]
set_option maxRecDepth 100000 in
set_option maxHeartbeats 1600000 in
theorem stPop_some (w : World) (B : Nat) (v : Value) (l : List Mark) (m : Mark) (h : Own markE w B v (l ++ [m])) (hl : l.length ≤ 10000) :
    Calls Try.prog 34 #[.agg #[v, .slice none 0 0]] w fun e w' => ∃ v', e = .returned (.agg #[v', .slice none 0 0]) ∧ Own markE w' w.heap.size v' l ∧ Below w.heap.size w w' := by
  obtain ⟨a, n, c, rfl⟩ := h.slice
  have hbx := fun wr h => box2 w #[.slice a n c, .slice none 0 0] #[.slice none 0 0, .slice none 0 0] 64 64 wr h
  have hz0 : ((w.alloc (.cells #[.slice a n c, .slice none 0 0] 64)).alloc (.cells #[.slice none 0 0, .slice none 0 0] 64)).heap.size = w.heap.size + 2 := by simp
  have hrow := heap_new (w.alloc (.cells #[.slice a n c, .slice none 0 0] 64)) (.cells #[.slice none 0 0, .slice none 0 0] 64)
  rw [show (w.alloc (.cells #[.slice a n c, .slice none 0 0] 64)).heap.size = w.heap.size + 1 from by simp] at hrow
  have hrow1 := row_alloc (heap_new w (.cells #[.slice a n c, .slice none 0 0] 64)) (.cells #[.slice none 0 0, .slice none 0 0] 64)
  obtain ⟨W, hW⟩ : ∃ W, W = (w.alloc (.cells #[.slice a n c, .slice none 0 0] 64)).alloc (.cells #[.slice none 0 0, .slice none 0 0] 64) := ⟨_, rfl⟩
  rw [← hW] at hbx hz0 hrow hrow1
  have hb := hbx W (by rw [← hz0]; exact Below.refl _ _)
  have k0 := hb.1 0 _ rfl
  have k1 := hb.1 1 _ rfl
  have hb0 := hb.2.2.1
  have hzw : w.heap.size + 1 < W.heap.size := by omega
  have HW := Lib.hid hW
  have HROW := Lib.hid hrow
  have HROW1 := Lib.hid hrow1
  have HZW := Lib.hid hzw
  clear hW hbx hz0 hb hrow hrow1 hzw
  have ow := own_any W B (.slice a n c) (l ++ [m]) (h.below hb0) (by simp; omega)
  obtain ⟨N, hN⟩ : ∃ N, l.length + 1 = N := ⟨_, rfl⟩
  have n0 : ((N : Int) == 0) = false := by rw [beq_eq_false_iff_ne]; omega
  have i1 : IntKind.i64.wrap ((N : Int) - 1) = (l.length : Int) := by rw [show ((N : Int) - 1) = (l.length : Int) from by omega]; exact IntWalk.i64_in _ (by omega)
  clear h
  have OW := Lib.hid ow; clear ow
  have HB0 := Lib.hid hb0; clear hb0
  go_enter Try.func34, Try.ntmps34
  go_upto_region 1 with fail
  rw [← HW.out]
  go_wp2_with fail
  refine OW.out.mono ?_
  rintro e w3 ⟨v3, rfl, ho3, hb3⟩
  obtain ⟨g3, c3, rfl, hc3, _⟩ := own_pop ho3
  rw [hN] at ho3 hc3
  rw [hN]
  have hlow : W.heap.size ≤ g3 := own_base ho3 rfl
  have hg3 : g3 < w3.heap.size := (ho3.lt rfl).2
  have hrow3 := (Fr.of_below hb3 (fun _ => False)).heap HROW1.out (fun h => h)
  have hrow4 := (Fr.of_below hb3 (fun _ => False)).heap HROW.out (fun h => h)
  have f0 : w3.frozen? ⟨w.heap.size, 0, none⟩ = false := (row_cell hrow3 0).2
  have f1 : w3.frozen? ⟨w.heap.size, 1, none⟩ = false := (row_cell hrow3 1).2
  have k0 : w3.cell? ⟨w.heap.size, 0, none⟩ = some (.slice a n c) := (row_cell hrow3 0).1
  have k1 : w3.cell? ⟨w.heap.size, 1, none⟩ = some (.slice none 0 0) := (row_cell hrow3 1).1
  have hf : Fr (fun q => q = w.heap.size) w3 _ := ((Fr.refl (fun q => q = w.heap.size) w3).setCell (p := ⟨w.heap.size, 0, none⟩) (fun _ => rfl) (.slice (some ⟨g3, 0, none⟩) N c3)).setCell (p := ⟨w.heap.size, 1, none⟩) (fun _ => rfl) (.slice none 0 0)
  have hrq := row_set (row_set hrow3 0 (.slice (some ⟨g3, 0, none⟩) N c3)) 1 (.slice none 0 0)
  have hr : ((w3.setCell ⟨w.heap.size, 0, none⟩ (.slice (some ⟨g3, 0, none⟩) N c3)).setCell ⟨w.heap.size, 1, none⟩ (.slice none 0 0)).heap[w.heap.size]? = some (.cells #[.slice (some ⟨g3, 0, none⟩) N c3, .slice none 0 0] 64) := by simpa using hrq
  clear hrq
  have ho4 := ho3.fr hf (fun k hk e => by have := own_base ho3 hk; have := HZW.out; omega)
  have hrow5 := hf.heap hrow4 (by show ¬ w.heap.size + 1 = w.heap.size; omega)
  have hbz := HB0.out.trans (hb3.mono HB0.out.size)
  have hb4 := hbz.trans (hf.below hbz.size (fun k hk => by omega))
  have hsz : W.heap.size ≤ ((w3.setCell ⟨w.heap.size, 0, none⟩ (.slice (some ⟨g3, 0, none⟩) N c3)).setCell ⟨w.heap.size, 1, none⟩ (.slice none 0 0)).heap.size := Nat.le_trans hb3.size hf.size
  clear hf hbz ho3 hb3 hrow3 hrow4
  have HR := Lib.hid hr; clear hr
  have HO4 := Lib.hid ho4; clear ho4
  have HROW5 := Lib.hid hrow5; clear hrow5
  have HB4 := Lib.hid hb4; clear hb4
  have HSZ := Lib.hid hsz; clear hsz
  have HLOW := Lib.hid hlow; clear hlow
  go_upto_region 2 with fail
  obtain ⟨w4, hw4⟩ : ∃ w4, w4 = (w3.setCell ⟨w.heap.size, 0, none⟩ (.slice (some ⟨g3, 0, none⟩) N c3)).setCell ⟨w.heap.size, 1, none⟩ (.slice none 0 0) := ⟨_, rfl⟩
  rw [← hw4] at HR HO4 HROW5 HB4 HSZ ⊢
  clear hw4 f0 f1 k0 k1 hg3
  have k0 : w4.cell? ⟨w.heap.size, 0, none⟩ = some (.slice (some ⟨g3, 0, none⟩) N c3) := (row_cell HR.out 0).1
  have k1 : w4.cell? ⟨w.heap.size, 1, none⟩ = some (.slice none 0 0) := (row_cell HR.out 1).1
  have un := fun w => unwinds_nil w (some ⟨g3, 0, none⟩) N c3
  have en := fun w => ended_nil w (some ⟨g3, 0, none⟩) l.length c3 N
  have UN := Lib.hid un; clear un
  have EN := Lib.hid en; clear en
  go_wp2_with fail
  refine (UN.out _).mono ?_
  rintro e w5 ⟨rfl, hb5⟩
  have hr5 := (Fr.of_below hb5 (fun _ => False)).heap HR.out (fun h => h)
  have hq5 := (Fr.of_below hb5 (fun _ => False)).heap HROW5.out (fun h => h)
  have ho5 := HO4.out.below hb5
  have hb6 := HB4.out.trans (hb5.mono HB4.out.size)
  have hs5 := hb5.size
  obtain ⟨_, _, he, _, ho6⟩ := own_pop ho5
  injection he with e1 e2 e3
  injection e1 with e1
  injection e1 with e1
  subst e1 e3
  clear e2
  clear hb5 ho5 k0 k1
  have k0 : w5.cell? ⟨w.heap.size, 0, none⟩ = some (.slice (some ⟨g3, 0, none⟩) N c3) := (row_cell hr5 0).1
  have f0 : w5.frozen? ⟨w.heap.size, 0, none⟩ = false := (row_cell hr5 0).2
  have hrq := row_set hr5 0 (.slice (some ⟨g3, 0, none⟩) l.length c3)
  have hr6 : (w5.setCell ⟨w.heap.size, 0, none⟩ (.slice (some ⟨g3, 0, none⟩) l.length c3)).heap[w.heap.size]? = some (.cells #[.slice (some ⟨g3, 0, none⟩) l.length c3, .slice none 0 0] 64) := by simpa using hrq
  clear hrq
  have hf6 := (Fr.refl (fun q => q = w.heap.size) w5).setCell (p := ⟨w.heap.size, 0, none⟩) (fun _ => rfl) (.slice (some ⟨g3, 0, none⟩) l.length c3)
  have hq6 := hf6.heap hq5 (by show ¬ w.heap.size + 1 = w.heap.size; omega)
  have ho6 := ho6.fr hf6 (fun k hk e => by have := own_base ho6 hk; have := HZW.out; omega)
  have hb7 := hb6.trans (hf6.below hb6.size (fun k hk => by omega))
  clear hr5 hq5 hb6 hf6
  have HR6 := Lib.hid hr6; clear hr6
  have HQ6 := Lib.hid hq6; clear hq6
  have HO6 := Lib.hid ho6; clear ho6
  have HB7 := Lib.hid hb7; clear hb7
  dsimp only
  go_upto_region 7 with fail
  obtain ⟨w6, hw6⟩ : ∃ w6, w6 = w5.setCell ⟨w.heap.size, 0, none⟩ (.slice (some ⟨g3, 0, none⟩) l.length c3) := ⟨_, rfl⟩
  rw [← hw6] at HR6 HQ6 HO6 HB7 ⊢
  clear hw6 k0 f0 k1
  have k0 : w6.cell? ⟨w.heap.size, 0, none⟩ = some (.slice (some ⟨g3, 0, none⟩) l.length c3) := (row_cell HR6.out 0).1
  have k1 : w6.cell? ⟨w.heap.size, 1, none⟩ = some (.slice none 0 0) := (row_cell HR6.out 1).1
  go_wp2_with fail
  refine (EN.out _).mono ?_
  rintro e w7 ⟨rfl, hb8⟩
  have hq7 := (Fr.of_below hb8 (fun _ => False)).heap HQ6.out (fun h => h)
  have ho7 := (HO6.out).below hb8
  have hb9 := (HB7.out).trans (hb8.mono (HB7.out).size)
  have hlo := HLOW.out
  have hzw := HZW.out
  have hfr := (((Fr.refl (fun q => q = w.heap.size + 1) w7).setCell (p := ⟨w.heap.size + 1, 0, none⟩) (fun _ => rfl) (.slice (some ⟨g3, 0, none⟩) l.length c3)).setCell (p := ⟨w.heap.size + 1, 1, none⟩) (fun _ => rfl) (.slice none 0 0))
  have hr7 := row_set (row_set hq7 0 (.slice (some ⟨g3, 0, none⟩) l.length c3)) 1 (.slice none 0 0)
  have ho := (ho7.fr hfr (fun k hk e => by have := own_base ho7 hk; omega)).base (B' := w.heap.size) (fun k hk => by have := own_base ho7 hk; omega)
  have hbf := hb9.trans (hfr.below hb9.size (fun k hk => by omega))
  have q0 : (w7).cell? ⟨w.heap.size + 1, 0, none⟩ = some (.slice none 0 0) := (row_cell hq7 0).1
  have q1 : (w7).cell? ⟨w.heap.size + 1, 1, none⟩ = some (.slice none 0 0) := (row_cell hq7 1).1
  have f0 : (w7).frozen? ⟨w.heap.size + 1, 0, none⟩ = false := (row_cell hq7 0).2
  have f1 : (w7).frozen? ⟨w.heap.size + 1, 1, none⟩ = false := (row_cell hq7 1).2
  have hP : (fun (e : Ending) (w' : World) => ∃ v', e = .returned (.agg #[v', .slice none 0 0]) ∧ Own markE w' w.heap.size v' l ∧ Below w.heap.size w w') (.returned (.agg #[.slice (some ⟨g3, 0, none⟩) l.length c3, .slice none 0 0])) _ := ⟨_, rfl, ho, hbf⟩
  clear hq7 ho7 hb9 hfr ho hbf hb8
  have HR7 := Lib.hid hr7; clear hr7
  have HP := Lib.hid hP; clear hP
  go_wp2_with (with_reducible refine bodyPost_ret ?_ rfl HP.out; have k0 := (row_cell HR7.out 0).1; have k1 := (row_cell HR7.out 1).1; simp at k0 k1; simp [results, Try.results34, go_sem, k0, k1])
end Go.Proofs.Ytmanoclahcpaoaa
