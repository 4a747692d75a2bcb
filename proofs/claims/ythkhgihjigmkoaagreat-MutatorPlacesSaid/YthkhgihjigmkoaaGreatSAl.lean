/- Walks: a state of its own; one more mark. Walks: words of a stack are cleared. A task has one more frame, one more mark. Nothing of the program's text is walked here. Walk: Task.push. -/
import Derived.Test.YthkhgihjigmkoaaGreatSAk
set_option linter.unusedVariables false
set_option linter.unusedSimpArgs false
namespace Go.Proofs.YthkhgihjigmkoaaGreat.Tk
open Go.ChangeShapes Go.WideShapes Go.ChangeAt Go.RowKit Go.Maps
set_option maxRecDepth 100000 in
set_option maxHeartbeats 1600000 in
theorem own_any (w : World) (B : Nat) (v : Value) (l : List Mark) (h : Own markE w B v l) (hn : l.length ≤ 100000) :
    Calls Tryz.prog 87 #[.agg #[v, .slice none 0 0]] w fun e w' => ∃ v', e = .returned (.agg #[v', .slice none 0 0]) ∧ Own markE w' w.heap.size v' l ∧ Below w.heap.size w w' := by
  obtain ⟨a, n, c, rfl⟩ := h.slice
  have hbx := fun wr h => box2 w #[.slice a n c, .slice none 0 0] #[.slice none 0 0, .slice none 0 0] 95 95 wr h
  have hz0 : ((w.alloc (.cells #[.slice a n c, .slice none 0 0] 95)).alloc (.cells #[.slice none 0 0, .slice none 0 0] 95)).heap.size = w.heap.size + 2 := by simp
  have hrow := heap_new (w.alloc (.cells #[.slice a n c, .slice none 0 0] 95)) (.cells #[.slice none 0 0, .slice none 0 0] 95)
  rw [show (w.alloc (.cells #[.slice a n c, .slice none 0 0] 95)).heap.size = w.heap.size + 1 from by simp] at hrow
  obtain ⟨W, hW⟩ : ∃ W, W = (w.alloc (.cells #[.slice a n c, .slice none 0 0] 95)).alloc (.cells #[.slice none 0 0, .slice none 0 0] 95) := ⟨_, rfl⟩
  rw [← hW] at hbx hz0 hrow
  have hb := hbx W (by rw [← hz0]; exact Below.refl _ _)
  have k0 := hb.1 0 _ rfl
  have k1 := hb.1 1 _ rfl
  have hb0 := hb.2.2.1
  have cm := cloneMarks_any W.drew B (.slice a n c) l ((h.below hb0).drew) hn
  have hr0 := (Below.refl W.heap.size W).drew
  have hzw : w.heap.size + 1 < W.heap.size := by omega
  have HW := Lib.hid hW
  have HROW := Lib.hid hrow
  have HZW := Lib.hid hzw
  have ca := cloneAlarms_nil
  clear hW hbx hz0 hb hrow hzw h
  have CM := Lib.hid cm; clear cm
  have CA := Lib.hid ca; clear ca
  have HB0 := Lib.hid hb0; clear hb0
  have HR0 := Lib.hid hr0; clear hr0
  go_enter Tryz.func87, Tryz.ntmps87
  go_upto_region 1 with fail
  rw [← HW.out]
  go_region_held3 (fun w' => w'.cell? ⟨w.heap.size, 0, none⟩ = some (.slice a n c) ∧ w'.cell? ⟨w.heap.size, 1, none⟩ = some (.slice none 0 0)) (first | go_keep | exact ⟨k0, k1⟩ | exact ⟨kk0, kk1⟩) (first | (go_at_call 115; refine CM.out.mono ?_; rintro e w3 ⟨v3, rfl, ho3, hb3⟩; obtain ⟨a3, n3, c3, rfl⟩ := ho3.slice; have hb3' := HR0.out.trans (hb3.mono HR0.out.size); have kk0 := below_cell hb3' k0; have kk1 := below_cell hb3' k1; have hrow3 := (Fr.of_below hb3' (fun _ => False)).heap HROW.out (fun h => h); obtain ⟨_, _, f0, f1⟩ : _ ∧ _ ∧ w3.frozen? ⟨w.heap.size + 1, 0, none⟩ = false ∧ w3.frozen? ⟨w.heap.size + 1, 1, none⟩ = false := ⟨(row_cell hrow3 0).1, (row_cell hrow3 1).1, (row_cell hrow3 0).2, (row_cell hrow3 1).2⟩) | (go_at_call 62; refine (CA.out _).mono ?_; rintro e w4 ⟨rfl, rfl⟩))
  have hf : Fr (fun q => q = w.heap.size + 1) w3 _ := ((Fr.refl (fun q => q = w.heap.size + 1) w3).setCell (p := ⟨w.heap.size + 1, 0, none⟩) (fun _ => rfl) (.slice a3 n3 c3)).setCell (p := ⟨w.heap.size + 1, 1, none⟩) (fun _ => rfl) (.slice none 0 0)
  have hr := row_set (row_set hrow3 0 (.slice a3 n3 c3)) 1 (.slice none 0 0)
  have hlow : ∀ k, (Value.slice a3 n3 c3).ownBlock = some k → w.heap.size + 1 < k := fun k hk => Nat.lt_of_lt_of_le HZW.out (ho3.lt hk).1
  have ho := (ho3.fr hf (fun k hk e => by have := hlow k hk; omega)).base (B' := w.heap.size) (fun k hk => by have := hlow k hk; omega)
  have hbz := HB0.out.trans (hb3'.mono HB0.out.size)
  have hbf := hbz.trans (hf.below hbz.size (fun k hk => by omega))
  have hP : (fun (e : Ending) (w' : World) => ∃ v', e = .returned (.agg #[v', .slice none 0 0]) ∧ Own markE w' w.heap.size v' l ∧ Below w.heap.size w w') (.returned (.agg #[.slice a3 n3 c3, .slice none 0 0])) _ := ⟨_, rfl, ho, hbf⟩
  clear hf ho hbz hbf hlow ho3 hb3 hb3' hrow3
  have HR := Lib.hid hr; clear hr
  have HP := Lib.hid hP; clear hP
  go_wp2_with (with_reducible refine bodyPost_ret ?_ rfl HP.out; have k0 := (row_cell HR.out 0).1; have k1 := (row_cell HR.out 1).1; simp at k0 k1; simp [results, Tryz.results87, go_sem, k0, k1])
set_option maxRecDepth 100000 in
set_option maxHeartbeats 1600000 in
theorem stEnter_any (w : World) (B : Nat) (v : Value) (l : List Mark) (h : Own markE w B v l) (hn : l.length ≤ 100000) :
    Calls Tryz.prog 60 #[.agg #[v, .slice none 0 0]] w fun e w' => ∃ v', e = .returned (.agg #[v', .slice none 0 0]) ∧ Own markE w' w.heap.size v' (l ++ [⟨false, false, 0⟩]) ∧ Below w.heap.size w w' := by
  obtain ⟨a, n, c, rfl⟩ := h.slice
  have hbx := fun wr h => box2 w #[.slice a n c, .slice none 0 0] #[.slice none 0 0, .slice none 0 0] 95 95 wr h
  have hz0 : ((w.alloc (.cells #[.slice a n c, .slice none 0 0] 95)).alloc (.cells #[.slice none 0 0, .slice none 0 0] 95)).heap.size = w.heap.size + 2 := by simp
  have hrow := heap_new (w.alloc (.cells #[.slice a n c, .slice none 0 0] 95)) (.cells #[.slice none 0 0, .slice none 0 0] 95)
  rw [show (w.alloc (.cells #[.slice a n c, .slice none 0 0] 95)).heap.size = w.heap.size + 1 from by simp] at hrow
  have hrow1 := row_alloc (heap_new w (.cells #[.slice a n c, .slice none 0 0] 95)) (.cells #[.slice none 0 0, .slice none 0 0] 95)
  obtain ⟨W, hW⟩ : ∃ W, W = (w.alloc (.cells #[.slice a n c, .slice none 0 0] 95)).alloc (.cells #[.slice none 0 0, .slice none 0 0] 95) := ⟨_, rfl⟩
  rw [← hW] at hbx hz0 hrow hrow1
  have hb := hbx W (by rw [← hz0]; exact Below.refl _ _)
  have k0 := hb.1 0 _ rfl
  have k1 := hb.1 1 _ rfl
  have hb0 := hb.2.2.1
  have ow := own_any W B (.slice a n c) l (h.below hb0) hn
  have hzw : w.heap.size + 1 < W.heap.size := by omega
  have HW := Lib.hid hW
  have HROW := Lib.hid hrow
  have HROW1 := Lib.hid hrow1
  have HZW := Lib.hid hzw
  clear hW hbx hz0 hb hrow hrow1 hzw h
  have OW := Lib.hid ow; clear ow
  have HB0 := Lib.hid hb0; clear hb0
  go_enter Tryz.func60, Tryz.ntmps60
  go_upto_region 1 with fail
  rw [← HW.out]
  go_wp2_with fail
  refine OW.out.mono ?_
  rintro e w3 ⟨v3, rfl, ho3, hb3⟩
  obtain ⟨a3, n3, c3, rfl⟩ := ho3.slice
  have hrow3 := (Fr.of_below hb3 (fun _ => False)).heap HROW1.out (fun h => h)
  have hrow4 := (Fr.of_below hb3 (fun _ => False)).heap HROW.out (fun h => h)
  have f0 : w3.frozen? ⟨w.heap.size, 0, none⟩ = false := (row_cell hrow3 0).2
  have f1 : w3.frozen? ⟨w.heap.size, 1, none⟩ = false := (row_cell hrow3 1).2
  have k0 : w3.cell? ⟨w.heap.size, 0, none⟩ = some (.slice a n c) := (row_cell hrow3 0).1
  have k1 : w3.cell? ⟨w.heap.size, 1, none⟩ = some (.slice none 0 0) := (row_cell hrow3 1).1
  have hlow : ∀ k, (Value.slice a3 n3 c3).ownBlock = some k → W.heap.size ≤ k := fun k hk => (ho3.lt hk).1
  have hf : Fr (fun q => q = w.heap.size) w3 _ := ((Fr.refl (fun q => q = w.heap.size) w3).setCell (p := ⟨w.heap.size, 0, none⟩) (fun _ => rfl) (.slice a3 n3 c3)).setCell (p := ⟨w.heap.size, 1, none⟩) (fun _ => rfl) (.slice none 0 0)
  have hr := row_set (row_set hrow3 0 (.slice a3 n3 c3)) 1 (.slice none 0 0)
  have ho4 := ho3.fr hf (fun k hk e => by have := hlow k hk; have := HZW.out; omega)
  have hrow5 := hf.heap hrow4 (by show ¬ w.heap.size + 1 = w.heap.size; omega)
  have hbz := HB0.out.trans (hb3.mono HB0.out.size)
  have hb4 := hbz.trans (hf.below hbz.size (fun k hk => by omega))
  have hsz : W.heap.size ≤ ((w3.setCell ⟨w.heap.size, 0, none⟩ (.slice a3 n3 c3)).setCell ⟨w.heap.size, 1, none⟩ (.slice none 0 0)).heap.size := Nat.le_trans hb3.size hf.size
  clear hf hbz ho3 hb3 hrow3 hrow4
  have HR := Lib.hid hr; clear hr
  have HO4 := Lib.hid ho4; clear ho4
  have HROW5 := Lib.hid hrow5; clear hrow5
  have HB4 := Lib.hid hb4; clear hb4
  have HSZ := Lib.hid hsz; clear hsz
  have HLOW := Lib.hid hlow; clear hlow
  go_upto_region 2 with fail
  obtain ⟨w4, hw4⟩ : ∃ w4, w4 = (w3.setCell ⟨w.heap.size, 0, none⟩ (.slice a3 n3 c3)).setCell ⟨w.heap.size, 1, none⟩ (.slice none 0 0) := ⟨_, rfl⟩
  rw [← hw4] at HR HO4 HROW5 HB4 HSZ ⊢
  clear hw4 f0 f1 k0 k1
  have k0 : w4.cell? ⟨w.heap.size, 0, none⟩ = some (.slice a3 n3 c3) := (row_cell HR.out 0).1
  go_wp2_with (at_builtin; refine append_fresh markE rfl (.tmp 6) (.tmp 8) rfl W.heap.size l [⟨false, false, 0⟩] _ rfl (HO4.out.alloc _) w4.heap.size 0 1 rfl (CellsAt.new _ _ _ _) ?c1 ?c2 ?_)
  case c1 => simp; omega
  case c2 => have := HSZ.out; simp; omega
  intro v5 w5 ho5 hg5 hf5
  obtain ⟨a5, n5, c5, rfl⟩ := ho5.slice
  have hz1 := HZW.out
  have hz4 := HSZ.out
  have hr5 := (hg5.block w.heap.size (by simp; omega) (fun e => by have := HLOW.out _ e.symm; omega)).trans ((Below.heap_alloc w4 _ w.heap.size (by omega)).trans HR.out)
  have hq5 := (hg5.block (w.heap.size + 1) (by simp; omega) (fun e => by have := HLOW.out _ e.symm; omega)).trans ((Below.heap_alloc w4 _ (w.heap.size + 1) (by omega)).trans HROW5.out)
  have hb5 := below_grown (HB4.out.alloc HB4.out.size _) (HO4.out.alloc (.cells #[.bool false, .bool false, .int .i64 0] 152)) hg5 (by have := HB4.out.size; simp; omega) (by omega)
  have hlow5 : ∀ k, (Value.slice a5 n5 c5).ownBlock = some k → W.heap.size ≤ k := fun k hk => (ho5.lt hk).1
  have hf6 := (Fr.refl (fun q => q = w.heap.size) w5).setCell (p := ⟨w.heap.size, 0, none⟩) (fun _ => rfl) (.slice a5 n5 c5)
  have hr6 := row_set hr5 0 (.slice a5 n5 c5)
  have hq6 := hf6.heap hq5 (by show ¬ w.heap.size + 1 = w.heap.size; omega)
  have ho6 := ho5.fr hf6 (fun k hk e => by have := hlow5 k hk; omega)
  have hb6 := hb5.trans (hf6.below hb5.size (fun k hk => by omega))
  have f0 : w5.frozen? ⟨w.heap.size, 0, none⟩ = false := (row_cell hr5 0).2
  have k0 : w5.cell? ⟨w.heap.size, 0, none⟩ = some (.slice a3 n3 c3) := (row_cell hr5 0).1
  clear hg5 hf5 ho5 hb5 hr5 hq5 hf6
  have HR6 := Lib.hid hr6; clear hr6
  have HQ6 := Lib.hid hq6; clear hq6
  have HO6 := Lib.hid ho6; clear ho6
  have HB6 := Lib.hid hb6; clear hb6
  have HLOW5 := Lib.hid hlow5; clear hlow5
  go_upto_region 3 with fail
  obtain ⟨w6, hw6⟩ : ∃ w6, w6 = w5.setCell ⟨w.heap.size, 0, none⟩ (.slice a5 n5 c5) := ⟨_, rfl⟩
  rw [← hw6] at HR6 HQ6 HO6 HB6 ⊢
  clear hw6 f0 k0
  have k0 : w6.cell? ⟨w.heap.size, 0, none⟩ = some (.slice a5 n5 c5) := (row_cell HR6.out 0).1
  have k1 : w6.cell? ⟨w.heap.size, 1, none⟩ = some (.slice none 0 0) := (row_cell HR6.out 1).1
  have q0 : w6.cell? ⟨w.heap.size + 1, 0, none⟩ = some (.slice none 0 0) := (row_cell HQ6.out 0).1
  have q1 : w6.cell? ⟨w.heap.size + 1, 1, none⟩ = some (.slice none 0 0) := (row_cell HQ6.out 1).1
  have f0 : w6.frozen? ⟨w.heap.size + 1, 0, none⟩ = false := (row_cell HQ6.out 0).2
  have f1 : w6.frozen? ⟨w.heap.size + 1, 1, none⟩ = false := (row_cell HQ6.out 1).2
  have hf : Fr (fun q => q = w.heap.size + 1) w6 _ := ((Fr.refl (fun q => q = w.heap.size + 1) w6).setCell (p := ⟨w.heap.size + 1, 0, none⟩) (fun _ => rfl) (.slice a5 n5 c5)).setCell (p := ⟨w.heap.size + 1, 1, none⟩) (fun _ => rfl) (.slice none 0 0)
  have hr := row_set (row_set HQ6.out 0 (.slice a5 n5 c5)) 1 (.slice none 0 0)
  have ho := (HO6.out.fr hf (fun k hk e => by have := HLOW5.out k hk; omega)).base (B' := w.heap.size) (fun k hk => by have := HLOW5.out k hk; omega)
  have hbf := HB6.out.trans (hf.below HB6.out.size (fun k hk => by omega))
  have hP : (fun (e : Ending) (w' : World) => ∃ v', e = .returned (.agg #[v', .slice none 0 0]) ∧ Own markE w' w.heap.size v' (l ++ [⟨false, false, 0⟩]) ∧ Below w.heap.size w w') (.returned (.agg #[.slice a5 n5 c5, .slice none 0 0])) _ := ⟨_, rfl, ho, hbf⟩
  clear hf ho hbf HR HROW5 HO4
  have HR8 := Lib.hid hr
  clear hr
  have HP := Lib.hid hP; clear hP
  go_wp2_with (with_reducible refine bodyPost_ret ?_ rfl HP.out; have k0 := (row_cell HR8.out 0).1; have k1 := (row_cell HR8.out 1).1; simp at k0 k1; simp [results, Tryz.results60, go_sem, k0, k1])
end Go.Proofs.YthkhgihjigmkoaaGreat.Tk
namespace Go.Proofs.YthkhgihjigmkoaaGreat.Tk
open Go.ChangeShapes Go.WideShapes Go.ChangeAt Go.RowKit Go.Maps
/-- n numbers from o on are 0 -/
def clearL (l : List Int) (o n : Nat) : List Int := (List.range n).foldl (fun s i => s.set (o + i) 0) l
theorem clearL_len (l : List Int) (o n : Nat) : (clearL l o n).length = l.length := clear_len n o l
set_option maxRecDepth 100000 in
set_option maxHeartbeats 1600000 in
theorem clear_any (w : World) (sb wb : Nat) (base : Int) (l : List Int) (h : StAt w sb wb base l) (hl : l.length ≤ 100000) (o n : Nat) (hn : 0 < n) (hon : o + n ≤ l.length) :
    Calls Tryz.prog 86 #[.pointer (some ⟨sb, 0, none⟩), .int .i64 o, .int .i64 (o + n : Nat)] w fun e w' => e = .returned (.tuple #[]) ∧ w' = w.setCells wb o (List.replicate n (.int .i64 0)) := by
  have ws := stWords_any w sb wb base l h
  obtain ⟨_, k1⟩ := h.cells
  have hcl : ∀ (c : Nat) ty, (Builtin.clear_ #[23] ty #[.slice (some ⟨wb, o, none⟩) n c]).run Tryz.prog w = .ok (.tuple #[]) (w.setCells wb o (List.replicate n (.int .i64 0))) := fun c ty =>
    Lib.run_clear_slice w 23 3 ty (.int .i64 0) Tryz.underlying23 zero_int rfl rfl wb o n c hn (fun j hj => by rw [(h.word (o + j) (by omega)).1]; rfl) (fun j hj => (h.word (o + j) (by omega)).2)
  clear h
  obtain ⟨e, he⟩ : ∃ e, e = o + n := ⟨_, rfl⟩
  rw [← he]
  have n0 : (0 : Int) ≤ (o : Int) := by omega
  have n1 : (e : Int) ≤ (l.length : Int) := by omega
  have n2 : (o : Int) < (e : Int) := by omega
  have n3 : ¬ (l.length : Int) < (e : Int) := by omega
  have n4 : e - o = n := by omega
  have n5 : e ≤ l.length := by omega
  have n6 : o ≤ e := by omega
  have n7 : (o : Int) ≤ (e : Int) := by omega
  clear he hon
  have WS := Lib.hid ws; clear ws
  go_enter Tryz.func86, Tryz.ntmps86
  go_wp2_with fail
  refine WS.out.mono ?_
  rintro e w' ⟨rfl, rfl⟩
  go_wp2_with (simp only [hcl])
  go_end0
  exact ⟨rfl, rfl⟩
end Go.Proofs.YthkhgihjigmkoaaGreat.Tk
namespace Go.Proofs.YthkhgihjigmkoaaGreat.Tk
open Go.ChangeShapes Go.WideShapes Go.ChangeAt Go.RowKit Go.Maps
theorem TaskAt.push {w w5 : World} {F : Nat → Prop} {tb : Nat} {p : TPrg} {T : Tk} {X : TB} {ob : Obj} {v5 : Value} {l : List Part} (h : TaskAt w F tb p T X) (ho : Own partE w5 0 v5 l) (hg : (w.alloc ob).grownBy w5 X.pv.ownBlock) (hf : Fresh (w.alloc ob) X.pv v5) :
    TaskAt (w5.setCell ⟨tb, 4, none⟩ v5) (fun k => F k ∨ v5.ownBlock = some k) tb p ⟨T.base, T.words, l, T.marks⟩ { X with pv := v5 } ∧ Fr F w (w5.setCell ⟨tb, 4, none⟩ v5) := by
  have hfr : Fr (fun k => X.pv.ownBlock = some k) w w5 := ((Fr.refl (fun k => X.pv.ownBlock = some k) w).alloc ob).grown hg (fun k hk _ => hk)
  have hfr2 : Fr (fun k => X.pv.ownBlock = some k ∨ k = tb) w (w5.setCell ⟨tb, 4, none⟩ v5) := (hfr.mono fun k hk => .inl hk).setCell (p := ⟨tb, 4, none⟩) (fun _ => .inr rfl) _
  obtain ⟨d1, d2, d3, d4, d5, d6⟩ := h.distinct
  have hrow := hfr.heap h.row (fun e => (d4 _ e).1 rfl)
  have hv : ∀ k, v5.ownBlock = some k → k ≠ tb := fun k hk e => by
    rcases hf k hk with h1 | h1
    · exact (d4 k h1).1 e
    · have := h.lt
      simp at h1
      omega
  have hvl : ∀ k, v5.ownBlock = some k → k < w5.heap.size := fun k hk => (ho.lt hk).2
  have hfs : Fr (fun k => k = tb) w5 (w5.setCell ⟨tb, 4, none⟩ v5) := (Fr.refl (fun k => k = tb) w5).setCell (p := ⟨tb, 4, none⟩) (fun _ => rfl) _
  refine ⟨?_, hfr2.mono (fun k hk => hk.elim (h.fp k) (fun e => e ▸ h.ft))⟩
  constructor
  · have := row_set hrow 4 v5
    simpa using this
  · exact h.prg.fr hfr2 fun k hk hk2 => (h.out k hk).1 (hk2.elim (h.fp k) (fun e => e ▸ h.ft))
  · intro k hk
    refine ⟨fun hk2 => ?_, Nat.lt_of_lt_of_le (h.out k hk).2 hfr2.size⟩
    rcases hk2 with h1 | h1
    · exact (h.out k hk).1 h1
    · rcases hf k h1 with h2 | h2
      · exact (h.out k hk).1 (h.fp k h2)
      · have := (h.out k hk).2
        simp at h2
        omega
  · exact hfr2.heap h.srow (fun e => e.elim (fun e => (d4 _ e).2.1 rfl) (fun e => d1 e.symm))
  · exact hfr2.heap h.wrow (fun e => e.elim (fun e => (d4 _ e).2.2 rfl) (fun e => d2 e.symm))
  · exact ho.fr hfs (fun k hk e => hv k hk e)
  · exact h.marks.fr hfr2 (fun k hk e => e.elim (fun e => d6 k e hk) (fun e => (d5 k hk).1 e))
  · exact Nat.lt_of_lt_of_le h.kb hfr2.size
  · exact h.kept.imp fun n hm => hm.fr hfr2 (fun e => e.elim (fun e => by obtain ⟨cur, f, hc⟩ := own_row h.parts e; exact map_ne hm hc rfl) (fun e => map_ne hm h.row e))
  · exact .inl h.ft
  · exact .inl h.fs
  · exact .inl h.fw
  · exact .inl h.fk
  · exact fun k hk => .inr hk
  · exact fun k hk => .inl (h.fm k hk)
  · intro k hk
    rcases hk with h1 | h1
    · exact Nat.lt_of_lt_of_le (h.flt k h1) hfr2.size
    · exact Nat.lt_of_lt_of_le (hvl k h1) hfs.size
theorem TaskAt.mark {w : World} {F : Nat → Prop} {tb : Nat} {p : TPrg} {T : Tk} {X : TB} {B : Nat} {v : Value} {l : List Mark} (h : TaskAt w F tb p T X) (ho : Own markE w B v l) (hB : ∀ k, F k ∨ X.D k → k < B) :
    TaskAt ((w.setCell ⟨tb, 5, none⟩ v).setCell ⟨tb, 6, none⟩ (.slice none 0 0)) (fun k => F k ∨ v.ownBlock = some k) tb p ⟨T.base, T.words, T.parts, l⟩ { X with mv := v } ∧ Fr F w ((w.setCell ⟨tb, 5, none⟩ v).setCell ⟨tb, 6, none⟩ (.slice none 0 0)) := by
  have hfs : Fr (fun k => k = tb) w ((w.setCell ⟨tb, 5, none⟩ v).setCell ⟨tb, 6, none⟩ (.slice none 0 0)) := ((Fr.refl (fun k => k = tb) w).setCell (p := ⟨tb, 5, none⟩) (fun _ => rfl) _).setCell (p := ⟨tb, 6, none⟩) (fun _ => rfl) _
  obtain ⟨d1, d2, d3, d4, d5, d6⟩ := h.distinct
  have hv : ∀ k, v.ownBlock = some k → B ≤ k := fun k hk => (ho.lt hk).1
  have htb := hB tb (.inl h.ft)
  refine ⟨?_, hfs.mono (fun k e => e ▸ h.ft)⟩
  constructor
  · have := row_set (row_set h.row 5 v) 6 (.slice none 0 0)
    simpa using this
  · exact h.prg.fr hfs fun k hk e => (h.out k hk).1 (e ▸ h.ft)
  · intro k hk
    refine ⟨fun hk2 => ?_, Nat.lt_of_lt_of_le (h.out k hk).2 hfs.size⟩
    rcases hk2 with h1 | h1
    · exact (h.out k hk).1 h1
    · have h2 := hv k h1
      have h3 := hB k (.inr hk)
      omega
  · exact hfs.heap h.srow (fun e => d1 e.symm)
  · exact hfs.heap h.wrow (fun e => d2 e.symm)
  · exact h.parts.fr hfs (fun k hk e => (d4 k hk).1 e)
  · exact (ho.fr hfs (fun k hk e => by have := hv k hk; omega)).base (fun k _ => Nat.zero_le _)
  · exact Nat.lt_of_lt_of_le h.kb hfs.size
  · exact h.kept.imp fun n hm => hm.fr hfs (fun e => map_ne hm h.row e)
  · exact .inl h.ft
  · exact .inl h.fs
  · exact .inl h.fw
  · exact .inl h.fk
  · exact fun k hk => .inl (h.fp k hk)
  · exact fun k hk => .inr hk
  · intro k hk
    rcases hk with h1 | h1
    · exact Nat.lt_of_lt_of_le (h.flt k h1) hfs.size
    · exact Nat.lt_of_lt_of_le (ho.lt h1).2 hfs.size
end Go.Proofs.YthkhgihjigmkoaaGreat.Tk
namespace Go.Proofs.YthkhgihjigmkoaaGreat.Tk
open Go.ChangeShapes Go.WideShapes Go.ChangeAt Go.RowKit Go.Maps
/-- the words behind the first k arguments -/
def setArgs (words : List Int) (base : Nat) (al : List Int) (k : Nat) : List Int := (List.range k).foldl (fun s i => s.set (base + (2 + i)) (al[i]?.getD 0)) words
theorem setArgs_len (words : List Int) (base : Nat) (al : List Int) (k : Nat) : (setArgs words base al k).length = words.length := by
  unfold setArgs
  induction k with
  | zero => rfl
  | succ k ih => rw [List.range_succ, List.foldl_append]; simp [ih]
theorem setArgs_succ (words : List Int) (base : Nat) (al : List Int) (k : Nat) (hk : k < al.length) : setArgs words base al (k + 1) = (setArgs words base al k).set (base + (2 + k)) al[k] := by
  unfold setArgs
  rw [List.range_succ, List.foldl_append]
  simp [hk]
/-- a task behind a push -/
def pushT (T : Tk) (un wn : Nat) (j : Nat) (ret : Int) (al : List Int) : Tk := ⟨T.base, setArgs (clearL T.words un wn) un al al.length, T.parts ++ [⟨j, 0, un, ret, none, 0, 0⟩], T.marks⟩
set_option maxRecDepth 100000 in
set_option maxHeartbeats 3200000 in
theorem push_any (w : World) (F : Nat → Prop) (tb : Nat) (p : TPrg) (T : Tk) (X : TB) (h : TaskAt w F tb p T X) (hp : PSmall p) (ht : TkOk T) (hlen : T.parts.length < 1000) (j : Nat) (hj : j < p.funcs.length) (un : Nat) (hun : usedN p T = un) (hfit : un + wordsN p j ≤ T.words.length)
    (D : Nat → Prop) (a : Option Addr) (al : List Int) (c : Nat) (hal : IntSl w D a al) (hD : ∀ k, D k → ¬ F k ∧ k < w.heap.size) (hsl : (al.length : Int) ≤ p.funcs[j].slots) (hal2 : al.length ≤ 3000) (ret : Int) :
    Calls Tryz.prog 59 #[.pointer (some ⟨tb, 0, none⟩), .int .i64 j, .slice a al.length c, .int .i64 ret] w fun e w' => e = .returned (.tuple #[]) ∧ ∃ F' X', TaskAt w' F' tb p (pushT T un (wordsN p j) j ret al) X' ∧ (∀ k, F' k → F k ∨ w.heap.size ≤ k) ∧ Fr F w w' := by
  have us := used_any w F tb p T X h hp ht
  rw [hun] at us
  have hwn : 2 + al.length ≤ wordsN p j := by rw [wordsN_at j hj]; unfold frameN; omega
  obtain ⟨wn, hwn0⟩ : ∃ wn, wn = wordsN p j := ⟨_, rfl⟩
  have hb1 := ht.2.2.1
  have hprg := h.prg
  obtain ⟨⟨a0, n0, m0, e0⟩, ⟨a1, m1, e1, _⟩, a2, m2, e2, _⟩ := hprg
  have wd := fun wr (hw : Below w.heap.size w wr) => words_any wr X.D (fun k hk => Nat.lt_of_lt_of_le (h.out k hk).2 hw.size) p X.c0 X.c1 X.c2 j (h.prg.below hw) hp
  rw [← hwn0] at hwn hfit wd ⊢
  rw [e0, e1, e2] at wd
  have cl := fun wr (hw : Below w.heap.size w wr) => clear_any wr X.sb X.wb T.base T.words (h.below hw).st hb1 un wn (by omega) hfit
  have hcells : ∀ wr, Below w.heap.size w wr → wr.cell? ⟨tb, 0, none⟩ = some (.slice a0 n0 m0) ∧ wr.cell? ⟨tb, 1, none⟩ = some (.slice a1 p.shapes.length m1) ∧ wr.cell? ⟨tb, 2, none⟩ = some (.slice a2 p.funcs.length m2) ∧ wr.cell? ⟨tb, 3, none⟩ = some (.pointer (some ⟨X.sb, 0, none⟩)) := fun wr hw => by
    obtain ⟨q0, q1, q2, q3, _⟩ := (h.below hw).cells
    rw [e0] at q0
    rw [e1] at q1
    rw [e2] at q2
    exact ⟨q0, q1, q2, q3⟩
  have hcl : ∀ wr, Below w.heap.size w wr → TaskAt (wr.setCells X.wb un (List.replicate wn (.int .i64 0))) F tb p ⟨T.base, clearL T.words un wn, T.parts, T.marks⟩ X ∧ Fr F w (wr.setCells X.wb un (List.replicate wn (.int .i64 0))) := fun wr hw =>
    ⟨(h.below hw).words (sets_fr _ _ _) _ (clearL_len _ _ _) (intRow_sets wn wr un T.words (h.below hw).wrow), (Fr.of_below hw F).trans (sets_fr _ _ _) (fun k _ e => e ▸ h.fw)⟩
  obtain ⟨en, hen⟩ : ∃ en, en = un + wn := ⟨_, rfl⟩
  have i1 : IntKind.i64.wrap ((un : Int) + (wn : Int)) = (en : Int) := by rw [show ((un : Int) + (wn : Int)) = (en : Int) from by omega]; exact IntWalk.i64_in _ (by omega)
  rw [← hen] at cl
  have hwb := h.distinct.2.1
  clear e0 e1 e2
  have US := Lib.hid us; clear us
  have WD := Lib.hid wd; clear wd
  have CL := Lib.hid cl; clear cl
  have HCELLS := Lib.hid hcells; clear hcells
  have HCL := Lib.hid hcl; clear hcl
  have HEN := Lib.hid hen; clear hen
  have HWN0 := Lib.hid hwn0; clear hwn0
  have HUN := Lib.hid hun; clear hun
  go_enter Tryz.func59, Tryz.ntmps59
  go_wp2_with fail
  refine US.out.mono ?_
  rintro e w1 ⟨rfl, hb⟩
  obtain ⟨q0, q1, q2, q3⟩ := HCELLS.out w1 hb
  have hr0 := hb.drew
  have HB := Lib.hid hb; clear hb
  have HR0 := Lib.hid hr0; clear hr0
  go_upto_region 1 with fail
  go_cut [] (fun wx => TaskAt wx F tb p ⟨T.base, clearL T.words un wn, T.parts, T.marks⟩ X ∧ Fr F w wx)
  case first =>
    go_region_law (first | (go_simp; go_at_call 86; refine (CL.out w3 hbw).mono ?_; rintro e w4 ⟨rfl, rfl⟩) | (go_simp; go_at_call 44; refine (WD.out _ HR0.out).mono ?_; rintro e w3 ⟨rfl, hb3⟩; have hbw := HR0.out.trans (hb3.mono HR0.out.size); obtain ⟨z0, z1, z2, z3⟩ := HCELLS.out w3 hbw))
    all_goals
      have hq := HCL.out w3 hbw
      clear hb3 z0 z1 z2 z3
      have HQ := Lib.hid hq; clear hq
      go_wp2_with fail
      go_meet
      first | exact HQ.out | (case rel => exact HQ.out)
  case rest =>
    obtain ⟨hT, hF⟩ := hcut
    clear q0 q1 q2 q3
    have hpt := hT.parts
    have q4 := hT.cells.2.2.2.2.1
    have hlt := hT.lt
    have hd4 := hT.distinct.2.2.2.1
    have hrow := hT.row
    have HPT := Lib.hid hpt; clear hpt
    have HF := Lib.hid hF; clear hF
    go_wp2_with (at_builtin; refine append_fresh partE rfl (.tmp 31) (.tmp 36) rfl 0 T.parts [⟨j, 0, un, ret, none, 0, 0⟩] _ rfl (HPT.out.alloc _) wc.heap.size 0 1 rfl (CellsAt.new _ _ _ _) ?c1 ?c2 ?_)
    case c1 => first | omega | (show T.parts.length + 1 ≤ 100000000; omega)
    try (case c2 => exact Nat.zero_le _)
    intro v5 w5 ho5 hg5 hf5
    obtain ⟨a5, n5, c5, rfl⟩ := ho5.slice
    obtain ⟨hT2, hF2⟩ := hT.push ho5 hg5 hf5
    have hrow5 := (hg5.block tb (by simp; omega) (fun e => (hd4 _ e.symm).1 rfl)).trans ((Below.heap_alloc wc _ tb hlt).trans hrow)
    have f4 : w5.frozen? ⟨tb, 4, none⟩ = false := (row_cell hrow5 4).2
    have q4 : w5.cell? ⟨tb, 4, none⟩ = some X.pv := (row_cell hrow5 4).1
    have hnew : ∀ k, F k ∨ (Value.slice a5 n5 c5).ownBlock = some k → F k ∨ w.heap.size ≤ k := fun k hk => by
      rcases hk with h1 | h1
      · exact .inl h1
      · rcases hf5 k h1 with h2 | h2
        · exact .inl (hT.fp k h2)
        · have := HF.out.size
          simp at h2
          exact .inr (by omega)
    have hF3 := HF.out.trans hF2 (fun k _ hk => hk)
    clear hT hg5 hf5 ho5 hrow hrow5 hd4 hF2
    obtain ⟨F', X2, hT2, hnew⟩ : ∃ F' X2, TaskAt (w5.setCell ⟨tb, 4, none⟩ (.slice a5 n5 c5)) F' tb p ⟨T.base, clearL T.words un wn, T.parts ++ [⟨j, 0, un, ret, none, 0, 0⟩], T.marks⟩ X2 ∧ ∀ k, F' k → F k ∨ w.heap.size ≤ k := ⟨_, _, hT2, hnew⟩
    have HRW := Lib.hid hnew
    clear hnew
    have HT2 := Lib.hid hT2; clear hT2
    have HF3 := Lib.hid hF3; clear hF3
    go_wp2_with fail
    obtain ⟨w6, hw6⟩ : ∃ w6, w6 = w5.setCell ⟨tb, 4, none⟩ (.slice a5 n5 c5) := ⟨_, rfl⟩
    rw [← hw6] at HT2 HF3 ⊢
    clear hw6 f4 q4
    have hok : ∀ l, l.length = T.words.length → TkOk ⟨T.base, l, T.parts ++ [⟨j, 0, un, ret, none, 0, 0⟩], T.marks⟩ := fun l hl => by
      refine ⟨by simp; omega, ht.2.1, by simp only; omega, fun q hq => ?_⟩
      rcases List.mem_append.1 hq with h1 | h1
      · exact ht.2.2.2 q h1
      · simp at h1
        subst h1
        simp only
        omega
    have hpl : (T.parts ++ [(⟨j, 0, un, ret, none, 0, 0⟩ : Part)]).length = T.parts.length + 1 := by simp
    have hpn : ∀ h, (T.parts ++ [(⟨j, 0, un, ret, none, 0, 0⟩ : Part)])[T.parts.length]'h = ⟨j, 0, un, ret, none, 0, 0⟩ := fun h => by simp
    have hcw := clearL_len T.words un wn
    obtain ⟨W0, hW0⟩ : ∃ W0, W0 = clearL T.words un wn := ⟨_, rfl⟩
    have hgoal : ∀ wr, TaskAt wr F' tb p ⟨T.base, setArgs W0 un al al.length, T.parts ++ [⟨j, 0, un, ret, none, 0, 0⟩], T.marks⟩ X2 → Fr F' w6 wr → ∃ F' X', TaskAt wr F' tb p (pushT T un wn j ret al) X' ∧ (∀ k, F' k → F k ∨ w.heap.size ≤ k) ∧ Fr F w wr := fun wr h1 h2 => by
      refine ⟨F', X2, ?_, HRW.out, HF3.out.trans h2 (fun k hk1 hk2 => (HRW.out k hk2).elim (fun h => h) (fun h => absurd h (by omega)))⟩
      unfold pushT
      rw [← hW0]
      exact h1
    have halr : ∀ wr, Fr F' w6 wr → IntSl wr D a al := fun wr h2 => (hal.fr HF3.out (fun k hk => (hD k hk).1)).fr h2 (fun k hk hk2 => (HRW.out k hk2).elim (hD k hk).1 (fun h => by have := (hD k hk).2; omega))
    rw [← hW0] at hcw HT2
    generalize T.parts ++ [(⟨j, 0, un, ret, none, 0, 0⟩ : Part)] = P' at *
    clear hal hD hW0 hlt hwb
    have hplen : P'.length = T.parts.length + 1 := hpl
    clear hpl
    have HOK := Lib.hid hok; clear hok
    have HPN := Lib.hid hpn; clear hpn
    have HGOAL := Lib.hid hgoal; clear hgoal
    have HALR := Lib.hid halr; clear halr
    have HPLEN := Lib.hid hplen; clear hplen
    go_loopw [42] (fun i wr => ∃ k : Nat, k ≤ al.length ∧ i = .int .i64 k ∧ TaskAt wr F' tb p ⟨T.base, setArgs W0 un al k, P', T.marks⟩ X2 ∧ Fr F' w6 wr) (fun i _ => al.length - (intOf i).toNat)
    case atStart => exact ⟨0, Nat.zero_le _, rfl, HT2.out, Fr.refl _ _⟩
    case round =>
      obtain ⟨k, hk, rfl, hTr, hFr⟩ := hrel
      by_cases hltk : k < al.length
      · obtain ⟨b', o', rfl, _, hx⟩ := HALR.out wr hFr k hltk
        have hsl2 := setArgs_len W0 un al k
        have hss := setArgs_succ W0 un al k hltk
        have hpn2 := HPN.out (by rw [HPLEN.out]; omega)
        have st := set_in wr F' tb p ⟨T.base, setArgs W0 un al k, P', T.marks⟩ X2 hTr (HOK.out _ (by rw [hsl2, hcw])) T.parts.length HPLEN.out j hj (by simp only; rw [hpn2]) un (by simp only; rw [hpn2]) k (by omega) (by omega) (by simp only; rw [hsl2, hcw]; omega) al[k]
        simp only at st
        rw [← hss] at st
        generalize al[k] = x at *
        clear hsl2 hss hpn2 hTr
        have ST := Lib.hid st; clear st
        have HFR := Lib.hid hFr; clear hFr
        go_wp2_with fail
        refine ST.out.mono ?_
        rintro e w9 ⟨rfl, hT9, hF9⟩
        have hF10 := HFR.out.trans hF9 (fun _ _ h => h)
        clear hF9
        have HT9 := Lib.hid hT9; clear hT9
        have HF10 := Lib.hid hF10; clear hF10
        go_wp2_with fail
        go_roundw
        case rel => exact ⟨k + 1, by omega, by go_num, HT9.out, HF10.out⟩
        case measure => simp [intOf]; omega
      · have hk' : k = al.length := by omega
        subst hk'
        have hg := HGOAL.out wr hTr hFr
        clear hTr hFr
        have HG := Lib.hid hg; clear hg
        go_wp2_with fail
        go_end0
        exact ⟨rfl, HG.out⟩
end Go.Proofs.YthkhgihjigmkoaaGreat.Tk
