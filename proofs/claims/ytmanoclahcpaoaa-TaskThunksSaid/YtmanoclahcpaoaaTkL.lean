/- Walks: a state of its own; one more mark. -/
import Derived.Test.YtmanoclahcpaoaaTkK
namespace Go.Proofs.Ytmanoclahcpaoaa
open Go.ChangeShapes Go.WideShapes Go.ChangeAt Go.RowKit Go.Maps

theorem own_base {P : Program} {α : Type} {E : Elem P α} {w : World} {B : Nat} {v : Value} {l : List α} (h : Own E w B v l) {k : Nat} (hk : v.ownBlock = some k) : B ≤ k := (h.lt hk).1
set_option maxRecDepth 100000 in
set_option maxHeartbeats 1600000 in
theorem own_any (w : World) (B : Nat) (v : Value) (l : List Mark) (h : Own markE w B v l) (hn : l.length ≤ 100000) :
    Calls Try.prog 45 #[.agg #[v, .slice none 0 0]] w fun e w' => ∃ v', e = .returned (.agg #[v', .slice none 0 0]) ∧ Own markE w' w.heap.size v' l ∧ Below w.heap.size w w' := by
  obtain ⟨a, n, c, rfl⟩ := h.slice
  have hbx := fun wr h => box2 w #[.slice a n c, .slice none 0 0] #[.slice none 0 0, .slice none 0 0] 64 64 wr h
  have hz0 : ((w.alloc (.cells #[.slice a n c, .slice none 0 0] 64)).alloc (.cells #[.slice none 0 0, .slice none 0 0] 64)).heap.size = w.heap.size + 2 := by simp
  have hrow := heap_new (w.alloc (.cells #[.slice a n c, .slice none 0 0] 64)) (.cells #[.slice none 0 0, .slice none 0 0] 64)
  rw [show (w.alloc (.cells #[.slice a n c, .slice none 0 0] 64)).heap.size = w.heap.size + 1 from by simp] at hrow
  obtain ⟨W, hW⟩ : ∃ W, W = (w.alloc (.cells #[.slice a n c, .slice none 0 0] 64)).alloc (.cells #[.slice none 0 0, .slice none 0 0] 64) := ⟨_, rfl⟩
  rw [← hW] at hbx hz0 hrow
  have hb := hbx W (by rw [← hz0]; exact Below.refl _ _)
  have k0 := hb.1 0 _ rfl
  have k1 := hb.1 1 _ rfl
  have hb0 := hb.2.2.1
  have cm := cloneMarks_any W.drew B (.slice a n c) l ((h.below hb0).drew) hn
  have hr0 := (Below.refl W.heap.size W).drew
  have hzw : w.heap.size + 1 < W.heap.size := by omega
  have HW := Lib.hid hW
  have HROW := Lib.hid hrow
  have HZW := Lib.hid hzw
  have ca := cloneAlarms_nil
  clear hW hbx hz0 hb hrow hzw h
  have CM := Lib.hid cm; clear cm
  have CA := Lib.hid ca; clear ca
  have HB0 := Lib.hid hb0; clear hb0
  have HR0 := Lib.hid hr0; clear hr0
  go_enter Try.func45, Try.ntmps45
  go_upto_region 1 with fail
  rw [← HW.out]
  go_region_held3 (fun w' => w'.cell? ⟨w.heap.size, 0, none⟩ = some (.slice a n c) ∧ w'.cell? ⟨w.heap.size, 1, none⟩ = some (.slice none 0 0)) (first | go_keep | exact ⟨k0, k1⟩ | exact ⟨kk0, kk1⟩) (first | (go_at_call 54; refine CM.out.mono ?_; rintro e w3 ⟨v3, rfl, ho3, hb3⟩; obtain ⟨a3, n3, c3, rfl⟩ := ho3.slice; have hb3' := HR0.out.trans (hb3.mono HR0.out.size); have kk0 := below_cell hb3' k0; have kk1 := below_cell hb3' k1; have hrow3 := (Fr.of_below hb3' (fun _ => False)).heap HROW.out (fun h => h); obtain ⟨_, _, f0, f1⟩ : _ ∧ _ ∧ w3.frozen? ⟨w.heap.size + 1, 0, none⟩ = false ∧ w3.frozen? ⟨w.heap.size + 1, 1, none⟩ = false := ⟨(row_cell hrow3 0).1, (row_cell hrow3 1).1, (row_cell hrow3 0).2, (row_cell hrow3 1).2⟩) | (go_at_call 41; refine (CA.out _).mono ?_; rintro e w4 ⟨rfl, rfl⟩))
  have hf : Fr (fun q => q = w.heap.size + 1) w3 _ := ((Fr.refl (fun q => q = w.heap.size + 1) w3).setCell (p := ⟨w.heap.size + 1, 0, none⟩) (fun _ => rfl) (.slice a3 n3 c3)).setCell (p := ⟨w.heap.size + 1, 1, none⟩) (fun _ => rfl) (.slice none 0 0)
  have hr := row_set (row_set hrow3 0 (.slice a3 n3 c3)) 1 (.slice none 0 0)
  have hlow : ∀ k, (Value.slice a3 n3 c3).ownBlock = some k → w.heap.size + 1 < k := fun k hk => Nat.lt_of_lt_of_le HZW.out (ho3.lt hk).1
  have ho := (ho3.fr hf (fun k hk e => by have := hlow k hk; omega)).base (B' := w.heap.size) (fun k hk => by have := hlow k hk; omega)
  have hbz := HB0.out.trans (hb3'.mono HB0.out.size)
  have hbf := hbz.trans (hf.below hbz.size (fun k hk => by omega))
  have hP : (fun (e : Ending) (w' : World) => ∃ v', e = .returned (.agg #[v', .slice none 0 0]) ∧ Own markE w' w.heap.size v' l ∧ Below w.heap.size w w') (.returned (.agg #[.slice a3 n3 c3, .slice none 0 0])) _ := ⟨_, rfl, ho, hbf⟩
  clear hf ho hbz hbf hlow ho3 hb3 hb3' hrow3
  have HR := Lib.hid hr; clear hr
  have HP := Lib.hid hP; clear hP
  go_wp2_with (with_reducible refine bodyPost_ret ?_ rfl HP.out; have k0 := (row_cell HR.out 0).1; have k1 := (row_cell HR.out 1).1; simp at k0 k1; simp [results, Try.results45, go_sem, k0, k1])
set_option maxRecDepth 100000 in
set_option maxHeartbeats 1600000 in
theorem stEnter_any (w : World) (B : Nat) (v : Value) (l : List Mark) (h : Own markE w B v l) (hn : l.length ≤ 100000) :
    Calls Try.prog 29 #[.agg #[v, .slice none 0 0]] w fun e w' => ∃ v', e = .returned (.agg #[v', .slice none 0 0]) ∧ Own markE w' w.heap.size v' (l ++ [⟨false, false, 0⟩]) ∧ Below w.heap.size w w' := by
  obtain ⟨a, n, c, rfl⟩ := h.slice
  have hbx := fun wr h => box2 w #[.slice a n c, .slice none 0 0] #[.slice none 0 0, .slice none 0 0] 64 64 wr h
  have hz0 : ((w.alloc (.cells #[.slice a n c, .slice none 0 0] 64)).alloc (.cells #[.slice none 0 0, .slice none 0 0] 64)).heap.size = w.heap.size + 2 := by simp
  have hrow := heap_new (w.alloc (.cells #[.slice a n c, .slice none 0 0] 64)) (.cells #[.slice none 0 0, .slice none 0 0] 64)
  rw [show (w.alloc (.cells #[.slice a n c, .slice none 0 0] 64)).heap.size = w.heap.size + 1 from by simp] at hrow
  have hrow1 := row_alloc (heap_new w (.cells #[.slice a n c, .slice none 0 0] 64)) (.cells #[.slice none 0 0, .slice none 0 0] 64)
  obtain ⟨W, hW⟩ : ∃ W, W = (w.alloc (.cells #[.slice a n c, .slice none 0 0] 64)).alloc (.cells #[.slice none 0 0, .slice none 0 0] 64) := ⟨_, rfl⟩
  rw [← hW] at hbx hz0 hrow hrow1
  have hb := hbx W (by rw [← hz0]; exact Below.refl _ _)
  have k0 := hb.1 0 _ rfl
  have k1 := hb.1 1 _ rfl
  have hb0 := hb.2.2.1
  have ow := own_any W B (.slice a n c) l (h.below hb0) hn
  have hzw : w.heap.size + 1 < W.heap.size := by omega
  have HW := Lib.hid hW
  have HROW := Lib.hid hrow
  have HROW1 := Lib.hid hrow1
  have HZW := Lib.hid hzw
  clear hW hbx hz0 hb hrow hrow1 hzw h
  have OW := Lib.hid ow; clear ow
  have HB0 := Lib.hid hb0; clear hb0
  go_enter Try.func29, Try.ntmps29
  go_upto_region 1 with fail
  rw [← HW.out]
  go_wp2_with fail
  refine OW.out.mono ?_
  rintro e w3 ⟨v3, rfl, ho3, hb3⟩
  obtain ⟨a3, n3, c3, rfl⟩ := ho3.slice
  have hrow3 := (Fr.of_below hb3 (fun _ => False)).heap HROW1.out (fun h => h)
  have hrow4 := (Fr.of_below hb3 (fun _ => False)).heap HROW.out (fun h => h)
  have f0 : w3.frozen? ⟨w.heap.size, 0, none⟩ = false := (row_cell hrow3 0).2
  have f1 : w3.frozen? ⟨w.heap.size, 1, none⟩ = false := (row_cell hrow3 1).2
  have k0 : w3.cell? ⟨w.heap.size, 0, none⟩ = some (.slice a n c) := (row_cell hrow3 0).1
  have k1 : w3.cell? ⟨w.heap.size, 1, none⟩ = some (.slice none 0 0) := (row_cell hrow3 1).1
  have hlow : ∀ k, (Value.slice a3 n3 c3).ownBlock = some k → W.heap.size ≤ k := fun k hk => (ho3.lt hk).1
  have hf : Fr (fun q => q = w.heap.size) w3 _ := ((Fr.refl (fun q => q = w.heap.size) w3).setCell (p := ⟨w.heap.size, 0, none⟩) (fun _ => rfl) (.slice a3 n3 c3)).setCell (p := ⟨w.heap.size, 1, none⟩) (fun _ => rfl) (.slice none 0 0)
  have hr := row_set (row_set hrow3 0 (.slice a3 n3 c3)) 1 (.slice none 0 0)
  have ho4 := ho3.fr hf (fun k hk e => by have := hlow k hk; have := HZW.out; omega)
  have hrow5 := hf.heap hrow4 (by show ¬ w.heap.size + 1 = w.heap.size; omega)
  have hbz := HB0.out.trans (hb3.mono HB0.out.size)
  have hb4 := hbz.trans (hf.below hbz.size (fun k hk => by omega))
  have hsz : W.heap.size ≤ ((w3.setCell ⟨w.heap.size, 0, none⟩ (.slice a3 n3 c3)).setCell ⟨w.heap.size, 1, none⟩ (.slice none 0 0)).heap.size := Nat.le_trans hb3.size hf.size
  clear hf hbz ho3 hb3 hrow3 hrow4
  have HR := Lib.hid hr; clear hr
  have HO4 := Lib.hid ho4; clear ho4
  have HROW5 := Lib.hid hrow5; clear hrow5
  have HB4 := Lib.hid hb4; clear hb4
  have HSZ := Lib.hid hsz; clear hsz
  have HLOW := Lib.hid hlow; clear hlow
  go_upto_region 2 with fail
  obtain ⟨w4, hw4⟩ : ∃ w4, w4 = (w3.setCell ⟨w.heap.size, 0, none⟩ (.slice a3 n3 c3)).setCell ⟨w.heap.size, 1, none⟩ (.slice none 0 0) := ⟨_, rfl⟩
  rw [← hw4] at HR HO4 HROW5 HB4 HSZ ⊢
  clear hw4 f0 f1 k0 k1
  have k0 : w4.cell? ⟨w.heap.size, 0, none⟩ = some (.slice a3 n3 c3) := (row_cell HR.out 0).1
  go_wp2_with (at_builtin; refine append_fresh markE rfl (.tmp 6) (.tmp 8) rfl W.heap.size l [⟨false, false, 0⟩] _ rfl (HO4.out.alloc _) w4.heap.size 0 1 rfl (CellsAt.new _ _ _ _) ?c1 ?c2 ?_)
  case c1 => simp; omega
  case c2 => have := HSZ.out; simp; omega
  intro v5 w5 ho5 hg5 hf5
  obtain ⟨a5, n5, c5, rfl⟩ := ho5.slice
  have hz1 := HZW.out
  have hz4 := HSZ.out
  have hr5 := (hg5.block w.heap.size (by simp; omega) (fun e => by have := HLOW.out _ e.symm; omega)).trans ((Below.heap_alloc w4 _ w.heap.size (by omega)).trans HR.out)
  have hq5 := (hg5.block (w.heap.size + 1) (by simp; omega) (fun e => by have := HLOW.out _ e.symm; omega)).trans ((Below.heap_alloc w4 _ (w.heap.size + 1) (by omega)).trans HROW5.out)
  have hb5 := below_grown (HB4.out.alloc HB4.out.size _) (HO4.out.alloc (.cells #[.bool false, .bool false, .int .i64 0] 80)) hg5 (by have := HB4.out.size; simp; omega) (by omega)
  have hlow5 : ∀ k, (Value.slice a5 n5 c5).ownBlock = some k → W.heap.size ≤ k := fun k hk => (ho5.lt hk).1
  have hf6 := (Fr.refl (fun q => q = w.heap.size) w5).setCell (p := ⟨w.heap.size, 0, none⟩) (fun _ => rfl) (.slice a5 n5 c5)
  have hr6 := row_set hr5 0 (.slice a5 n5 c5)
  have hq6 := hf6.heap hq5 (by show ¬ w.heap.size + 1 = w.heap.size; omega)
  have ho6 := ho5.fr hf6 (fun k hk e => by have := hlow5 k hk; omega)
  have hb6 := hb5.trans (hf6.below hb5.size (fun k hk => by omega))
  have f0 : w5.frozen? ⟨w.heap.size, 0, none⟩ = false := (row_cell hr5 0).2
  have k0 : w5.cell? ⟨w.heap.size, 0, none⟩ = some (.slice a3 n3 c3) := (row_cell hr5 0).1
  clear hg5 hf5 ho5 hb5 hr5 hq5 hf6
  have HR6 := Lib.hid hr6; clear hr6
  have HQ6 := Lib.hid hq6; clear hq6
  have HO6 := Lib.hid ho6; clear ho6
  have HB6 := Lib.hid hb6; clear hb6
  have HLOW5 := Lib.hid hlow5; clear hlow5
  go_upto_region 3 with fail
  obtain ⟨w6, hw6⟩ : ∃ w6, w6 = w5.setCell ⟨w.heap.size, 0, none⟩ (.slice a5 n5 c5) := ⟨_, rfl⟩
  rw [← hw6] at HR6 HQ6 HO6 HB6 ⊢
  clear hw6 f0 k0
  have k0 : w6.cell? ⟨w.heap.size, 0, none⟩ = some (.slice a5 n5 c5) := (row_cell HR6.out 0).1
  have k1 : w6.cell? ⟨w.heap.size, 1, none⟩ = some (.slice none 0 0) := (row_cell HR6.out 1).1
  have q0 : w6.cell? ⟨w.heap.size + 1, 0, none⟩ = some (.slice none 0 0) := (row_cell HQ6.out 0).1
  have q1 : w6.cell? ⟨w.heap.size + 1, 1, none⟩ = some (.slice none 0 0) := (row_cell HQ6.out 1).1
  have f0 : w6.frozen? ⟨w.heap.size + 1, 0, none⟩ = false := (row_cell HQ6.out 0).2
  have f1 : w6.frozen? ⟨w.heap.size + 1, 1, none⟩ = false := (row_cell HQ6.out 1).2
  have hf : Fr (fun q => q = w.heap.size + 1) w6 _ := ((Fr.refl (fun q => q = w.heap.size + 1) w6).setCell (p := ⟨w.heap.size + 1, 0, none⟩) (fun _ => rfl) (.slice a5 n5 c5)).setCell (p := ⟨w.heap.size + 1, 1, none⟩) (fun _ => rfl) (.slice none 0 0)
  have hr := row_set (row_set HQ6.out 0 (.slice a5 n5 c5)) 1 (.slice none 0 0)
  have ho := (HO6.out.fr hf (fun k hk e => by have := HLOW5.out k hk; omega)).base (B' := w.heap.size) (fun k hk => by have := HLOW5.out k hk; omega)
  have hbf := HB6.out.trans (hf.below HB6.out.size (fun k hk => by omega))
  have hP : (fun (e : Ending) (w' : World) => ∃ v', e = .returned (.agg #[v', .slice none 0 0]) ∧ Own markE w' w.heap.size v' (l ++ [⟨false, false, 0⟩]) ∧ Below w.heap.size w w') (.returned (.agg #[.slice a5 n5 c5, .slice none 0 0])) _ := ⟨_, rfl, ho, hbf⟩
  clear hf ho hbf HR HROW5 HO4
  have HR8 := Lib.hid hr
  clear hr
  have HP := Lib.hid hP; clear hP
  go_wp2_with (with_reducible refine bodyPost_ret ?_ rfl HP.out; have k0 := (row_cell HR8.out 0).1; have k1 := (row_cell HR8.out 1).1; simp at k0 k1; simp [results, Try.results29, go_sem, k0, k1])
end Go.Proofs.Ytmanoclahcpaoaa
