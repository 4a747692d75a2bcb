/- Walk: package image's reader: a function. -/
import Derived.Test.YtmmdppjbofbjhaaReader
namespace Go.Proofs.Ytmmdppjbofbjhaa
open Go.ChangeShapes Go.WideShapes Go.ChangeAt Go.RowKit

def rFn (s : RS) : Fun × RS :=
  let a := rList s
  let r := rNum a.2
  let l := rNum r.2
  let o := rList l.2
  let n := rNum o.2
  let c := rTake n.2 (n.1.toNat * 7)
  (⟨a.1, r.1, l.1, o.1, readL c.1⟩, (c.2.1, c.2.2 || !readOk c.1))
theorem row_cell {w : World} {q : Nat} {cs : Array Value} {t : TypeId} (h : w.heap[q]? = some (.cells cs t)) (j : Nat) : w.cell? ⟨q, j, none⟩ = cs[j]? ∧ w.frozen? ⟨q, j, none⟩ = false := by
  simp [World.cell?, World.frozen?, h]
theorem row_set {w : World} {q : Nat} {cs : Array Value} {t : TypeId} (h : w.heap[q]? = some (.cells cs t)) (j : Nat) (u : Value) : (w.setCell ⟨q, j, none⟩ u).heap[q]? = some (.cells (cs.setIfInBounds j u) t) := by
  simp only [World.setCell, Array.getElem?_modify, if_pos rfl, h, Option.map]
  rfl
theorem row_alloc {w : World} {q : Nat} {ob : Obj} (h : w.heap[q]? = some ob) (o : Obj) : (w.alloc o).heap[q]? = some ob := by
  rw [Below.heap_alloc _ _ _ (heap_lt h)]; exact h
/-- five cells of a block -/
theorem five_cells {w : World} {q : Nat} {x0 x1 x2 x3 x4 : Value} {t : TypeId} (h : w.heap[q]? = some (.cells #[x0, x1, x2, x3, x4] t)) :
    (w.cell? ⟨q, 0, none⟩ = some x0 ∧ w.cell? ⟨q, 1, none⟩ = some x1 ∧ w.cell? ⟨q, 2, none⟩ = some x2 ∧ w.cell? ⟨q, 3, none⟩ = some x3 ∧ w.cell? ⟨q, 4, none⟩ = some x4) ∧
    (w.frozen? ⟨q, 0, none⟩ = false ∧ w.frozen? ⟨q, 1, none⟩ = false ∧ w.frozen? ⟨q, 2, none⟩ = false ∧ w.frozen? ⟨q, 3, none⟩ = false ∧ w.frozen? ⟨q, 4, none⟩ = false) :=
  ⟨⟨(row_cell h 0).1, (row_cell h 1).1, (row_cell h 2).1, (row_cell h 3).1, (row_cell h 4).1⟩, (row_cell h 0).2, (row_cell h 1).2, (row_cell h 2).2, (row_cell h 3).2, (row_cell h 4).2⟩
def FnPost (w : World) (p : Nat) (f : Fun) (s : RS) (e : Ending) (w' : World) : Prop :=
  ∃ c0 c3 c4, e = .returned (.agg #[c0, .int .i64 f.result, .int .i64 f.slots, c3, c4]) ∧ Own intE w' w.heap.size c0 f.args ∧ Own intE w' w.heap.size c3 f.objects ∧ Own insE w' w.heap.size c4 f.code ∧ Rdr w' p s ∧ Fr (onB p) w w'
theorem Fr.setAt (w : World) (q j : Nat) (u : Value) : Fr (onB q) w (w.setCell ⟨q, j, none⟩ u) := (Fr.refl (onB q) w).setCell (p := ⟨q, j, none⟩) (fun _ => rfl) u
def pqB (p q : Nat) : Nat → Prop := fun k => k = p ∨ k = q
theorem take_int (w : World) (p : Nat) (s : RS) (hr : Rdr w p s) (m : Int) (n : Nat) (hm : m = n) (hn : n ≤ 1000000) (hs : s.1.size ≤ 1000000) :
    Calls Try.prog 159 #[.pointer (some ⟨p, 0, none⟩), .int .i64 m] w fun e w' => e = .returned (.string (rTake s n).1) ∧ Rdr w' p (rTake s n).2 ∧ Fr (onB p) w w' := by
  subst hm; exact take_any w p s hr n hn hs

set_option maxRecDepth 100000 in
set_option maxHeartbeats 3200000 in
theorem rfn_any (w : World) (p : Nat) (s : RS) (hr : Rdr w p s) (hs : s.1.size ≤ 100000) :
    Calls Try.prog 120 #[.pointer (some ⟨p, 0, none⟩)] w (FnPost w p (rFn s).1 (rFn s).2) := by
  have hpl := heap_lt hr
  have hx : rFn s = (⟨(rList s).1, (rNum (rList s).2).1, (rNum (rNum (rList s).2).2).1, (rList (rNum (rNum (rList s).2).2).2).1, readL (rTake (rNum (rList (rNum (rNum (rList s).2).2).2).2).2 ((rNum (rList (rNum (rNum (rList s).2).2).2).2).1.toNat * 7)).1⟩, ((rTake (rNum (rList (rNum (rNum (rList s).2).2).2).2).2 ((rNum (rList (rNum (rNum (rList s).2).2).2).2).1.toNat * 7)).2.1, (rTake (rNum (rList (rNum (rNum (rList s).2).2).2).2).2 ((rNum (rList (rNum (rNum (rList s).2).2).2).2).1.toNat * 7)).2.2 || !readOk (rTake (rNum (rList (rNum (rNum (rList s).2).2).2).2).2 ((rNum (rList (rNum (rNum (rList s).2).2).2).2).1.toNat * 7)).1)) := rfl
  rw [hx]
  clear hx
  have l1 := fun w1 (h : Rdr w1 p s) => rlist_any w1 p s h (by omega)
  have z1 := rList_size s
  generalize rList s = t1 at *
  obtain ⟨args, s1⟩ := t1
  dsimp only at l1 z1 ⊢
  have l2 := fun w1 (h : Rdr w1 p s1) => num_any w1 p s1 h (by omega)
  have z2 := rNum_size s1
  generalize rNum s1 = t2 at *
  obtain ⟨res, s2⟩ := t2
  dsimp only at l2 z2 ⊢
  have l3 := fun w1 (h : Rdr w1 p s2) => num_any w1 p s2 h (by omega)
  have z3 := rNum_size s2
  generalize rNum s2 = t3 at *
  obtain ⟨slots, s3⟩ := t3
  dsimp only at l3 z3 ⊢
  have l4 := fun w1 (h : Rdr w1 p s3) => rlist_any w1 p s3 h (by omega)
  have z4 := rList_size s3
  generalize rList s3 = t4 at *
  obtain ⟨objs, s4⟩ := t4
  dsimp only at l4 z4 ⊢
  have l5 := fun w1 (h : Rdr w1 p s4) => num_any w1 p s4 h (by omega)
  have z5 := rNum_size s4
  have b5 := rNum_bd s4
  generalize rNum s4 = t5 at *
  obtain ⟨n, s5⟩ := t5
  dsimp only at l5 z5 b5 ⊢
  have l6 := fun w1 (h : Rdr w1 p s5) => take_int w1 p s5 h (n * 7) (n.toNat * 7) (by omega) (by omega) (by omega)
  have z6 : (rTake s5 (n.toNat * 7)).1.size ≤ 1000000 := by
    unfold rTake
    split
    · exact Nat.zero_le _
    · rw [ByteArray.size_extract]; omega
  generalize rTake s5 (n.toNat * 7) = t6 at *
  obtain ⟨cb, s6⟩ := t6
  dsimp only at l6 z6 ⊢
  have l7 := fun w1 => read_code cb w1 z6
  unfold ReadPost at l7
  clear z1 z2 z3 z4 z5 z6 hs
  have L1 := Lib.hid l1; clear l1
  have L2 := Lib.hid l2; clear l2
  have L3 := Lib.hid l3; clear l3
  have L4 := Lib.hid l4; clear l4
  have L5 := Lib.hid l5; clear l5
  have L6 := Lib.hid l6; clear l6
  have L7 := Lib.hid l7; clear l7
  have hr0 := hr.alloc (.cells #[.slice none 0 0, .int .i64 0, .int .i64 0, .slice none 0 0, .slice none 0 0] 86)
  clear hr
  have HR0 := Lib.hid hr0; clear hr0
  go_enter Try.func120, Try.ntmps120
  go_wp2_with fail
  refine (L1.out _ HR0.out).mono ?_
  rintro e w1 ⟨v0, rfl, ho0, hr1, hf1⟩
  obtain ⟨a0, n0, c0, rfl⟩ := ho0.slice
  have res1 : w1.heap[w.heap.size]? = some (.cells #[.slice none 0 0, .int .i64 0, .int .i64 0, .slice none 0 0, .slice none 0 0] 86) := hf1.heap (heap_new w _) (by unfold onB; omega)
  have hF1 : Fr (onB p) w w1 := ((Fr.refl _ _).alloc _).trans hf1 (fun _ _ h => h)
  have hq : w.heap.size < w1.heap.size := heap_lt res1
  have rd1 := hr1.alloc (.cells #[.slice a0 n0 c0, .int .i64 0, .int .i64 0, .slice none 0 0, .slice none 0 0] 86)
  have loc1 := heap_new w1 (.cells #[.slice a0 n0 c0, .int .i64 0, .int .i64 0, .slice none 0 0, .slice none 0 0] 86)
  have fA : Fr (pqB p w1.heap.size) w1 (w1.alloc (.cells #[.slice a0 n0 c0, .int .i64 0, .int .i64 0, .slice none 0 0, .slice none 0 0] 86)) := (Fr.refl _ _).alloc _
  have HO0 := Lib.hid ho0; clear ho0
  have RES1 := Lib.hid res1; clear res1
  have HF1 := Lib.hid hF1; clear hF1
  have FA := Lib.hid fA; clear fA
  have LOC1 := Lib.hid loc1; clear loc1
  clear hf1 hr1
  have call := L2.out _ rd1
  clear rd1
  have CALL := Lib.hid call; clear call
  go_wp2_with fail
  refine CALL.out.mono ?_
  rintro e w2 ⟨rfl, hr2, hf2⟩
  have hqp : w1.heap.size ≠ p := by omega
  have loc2 := hf2.heap LOC1.out (by unfold onB; omega)
  have f2 := FA.out.trans hf2 (fun k _ h => .inl h)
  obtain ⟨_, g0, g1, g2, g3, g4⟩ := five_cells loc2
  have rd2 : Rdr (w2.setCell ⟨w1.heap.size, 1, none⟩ (.int .i64 res)) p s2 := hr2.fr (Fr.setAt _ w1.heap.size _ _) (by unfold onB; omega)
  have loc2' : (w2.setCell ⟨w1.heap.size, 1, none⟩ (.int .i64 res)).heap[w1.heap.size]? = some (.cells #[.slice a0 n0 c0, .int .i64 res, .int .i64 0, .slice none 0 0, .slice none 0 0] 86) := row_set loc2 1 _
  have f2' := f2.setCell (p := ⟨w1.heap.size, 1, none⟩) (fun _ => .inr rfl) (.int .i64 res)
  have call := L3.out _ rd2
  obtain ⟨⟨k0, k1, k2, k3, k4⟩, _⟩ := five_cells loc2
  clear hf2 hr2 loc2 rd2 f2
  have CALL := Lib.hid call; clear call
  have LOC2' := Lib.hid loc2'; clear loc2'
  have F2' := Lib.hid f2'; clear f2'
  go_wp2_with fail
  refine CALL.out.mono ?_
  rintro e w3 ⟨rfl, hr3, hf3⟩
  clear g0 g1 g2 g3 g4 k0 k1 k2 k3 k4
  have loc3 := hf3.heap LOC2'.out (by unfold onB; omega)
  have f3 := F2'.out.trans hf3 (fun k _ h => .inl h)
  have rd3 : Rdr (w3.setCell ⟨w1.heap.size, 2, none⟩ (.int .i64 slots)) p s3 := hr3.fr (Fr.setAt _ w1.heap.size _ _) (by unfold onB; omega)
  have loc3' : (w3.setCell ⟨w1.heap.size, 2, none⟩ (.int .i64 slots)).heap[w1.heap.size]? = some (.cells #[.slice a0 n0 c0, .int .i64 res, .int .i64 slots, .slice none 0 0, .slice none 0 0] 86) := row_set loc3 2 _
  have f3' := f3.setCell (p := ⟨w1.heap.size, 2, none⟩) (fun _ => .inr rfl) (.int .i64 slots)
  have call := L4.out _ rd3
  obtain ⟨⟨k0, k1, k2, k3, k4⟩, g0, g1, g2, g3, g4⟩ := five_cells loc3
  clear hf3 hr3 loc3 rd3 f3
  have CALL4 := Lib.hid call
  have LOC3' := Lib.hid loc3'; clear loc3'
  have F3' := Lib.hid f3'; clear f3'
  clear call CALL
  go_wp2_with fail
  refine CALL4.out.mono ?_
  rintro e w4 ⟨v3, rfl, ho3, hr4, hf4⟩
  clear g0 g1 g2 g3 g4 k0 k1 k2 k3 k4
  obtain ⟨a3, n3, c3, rfl⟩ := ho3.slice
  have loc4 := hf4.heap LOC3'.out (by unfold onB; omega)
  have f4 := F3'.out.trans hf4 (fun k _ h => .inl h)
  have ho3' : ∀ k, (Value.slice a3 n3 c3).ownBlock = some k → w1.heap.size < k := fun k hk => by
    have h1 := (ho3.lt hk).1
    have h2 := heap_lt LOC3'.out
    omega
  have rd4 : Rdr (w4.setCell ⟨w1.heap.size, 3, none⟩ (.slice a3 n3 c3)) p s4 := hr4.fr (Fr.setAt _ w1.heap.size _ _) (by unfold onB; omega)
  have loc4' : (w4.setCell ⟨w1.heap.size, 3, none⟩ (.slice a3 n3 c3)).heap[w1.heap.size]? = some (.cells #[.slice a0 n0 c0, .int .i64 res, .int .i64 slots, .slice a3 n3 c3, .slice none 0 0] 86) := row_set loc4 3 _
  have f4' := f4.setCell (p := ⟨w1.heap.size, 3, none⟩) (fun _ => .inr rfl) (.slice a3 n3 c3)
  have fB4 := Fr.setCell (Fr.refl (pqB p w1.heap.size) w4) (p := ⟨w1.heap.size, 3, none⟩) (fun _ => .inr rfl) (.slice a3 n3 c3)
  have call := L5.out _ rd4
  obtain ⟨⟨k0, k1, k2, k3, k4⟩, g0, g1, g2, g3, g4⟩ := five_cells loc4
  have HO3 := Lib.hid ho3
  clear hf4 hr4 loc4 rd4 f4 ho3
  have CALL5 := Lib.hid call
  have LOC4' := Lib.hid loc4'; clear loc4'
  have F4' := Lib.hid f4'; clear f4'
  have FB4 := Lib.hid fB4; clear fB4
  have HO3' := Lib.hid ho3'; clear ho3'
  clear call CALL4
  go_wp2_with fail
  refine CALL5.out.mono ?_
  rintro e w5 ⟨rfl, hr5, hf5⟩
  clear g0 g1 g2 g3 g4 k0 k1 k2 k3 k4
  have loc5 := hf5.heap LOC4'.out (by unfold onB; omega)
  have f5 := F4'.out.trans hf5 (fun k _ h => .inl h)
  have fB5 := FB4.out.trans hf5 (fun k _ h => .inl h)
  have CALL6 := Lib.hid (L6.out _ hr5)
  clear hf5 hr5
  have LOC5 := Lib.hid loc5; clear loc5
  have F5 := Lib.hid f5; clear f5
  have FB5 := Lib.hid fB5; clear fB5
  clear CALL5
  go_wp2_with fail
  refine CALL6.out.mono ?_
  rintro e w6 ⟨rfl, hr6, hf6⟩
  have loc6 := hf6.heap LOC5.out (by unfold onB; omega)
  have f6 := F5.out.trans hf6 (fun k _ h => .inl h)
  have fB6 := FB5.out.trans hf6 (fun k _ h => .inl h)
  clear hf6
  have LOC6 := Lib.hid loc6; clear loc6
  have F6 := Lib.hid f6; clear f6
  have FB6 := Lib.hid fB6; clear fB6
  have HR6 := Lib.hid hr6; clear hr6
  clear CALL6
  go_wp2_with fail
  refine (L7.out _).mono ?_
  rintro e w7 ⟨v4, rfl, ho4, hb7⟩
  obtain ⟨a4, n4, c4, rfl⟩ := ho4.slice
  have loc7 := (Fr.of_below hb7 (fun _ => False)).heap LOC6.out (fun h => h)
  have rd7 := HR6.out.fr (Fr.of_below hb7 (fun _ => False)) (fun h => h)
  have f7 := F6.out.trans (Fr.of_below hb7 (fun _ => False)) (fun k _ h => h.elim)
  have fB7 := FB6.out.trans (Fr.of_below hb7 (fun _ => False)) (fun k _ h => h.elim)
  have ho4' : ∀ k, (Value.slice a4 n4 c4).ownBlock = some k → w1.heap.size < k := fun k hk => by
    have h1 := (ho4.lt hk).1
    have h2 := heap_lt LOC6.out
    omega
  obtain ⟨r0, r1, r2, r3⟩ := two_cells (show _ = some (Obj.cells #[.string s6.1, .bool s6.2] 139) from rd7)
  obtain ⟨⟨k0, k1, k2, k3, k4⟩, g0, g1, g2, g3, g4⟩ := five_cells loc7
  have HO4 := Lib.hid ho4
  clear hb7 ho4
  have res7 := f7.heap RES1.out (by unfold pqB; omega)
  obtain ⟨_, e0, e1, e2, e3, e4⟩ := five_cells res7
  have hqw : w1.heap.size ≠ w.heap.size := by omega
  have hpw : p ≠ w.heap.size := by omega
  have fin : ∀ bad, bad = (s6.2 || !readOk cb) → FnPost w p ⟨args, res, slots, objs, readL cb⟩ (s6.1, s6.2 || !readOk cb) (.returned (.agg #[.slice a0 n0 c0, .int .i64 res, .int .i64 slots, .slice a3 n3 c3, .slice a4 n4 c4]))
      (((((((w7.setCell ⟨p, 1, none⟩ (.bool bad)).setCell ⟨w1.heap.size, 4, none⟩ (.slice a4 n4 c4)).setCell ⟨w.heap.size, 0, none⟩ (.slice a0 n0 c0)).setCell ⟨w.heap.size, 1, none⟩ (.int .i64 res)).setCell ⟨w.heap.size, 2, none⟩ (.int .i64 slots)).setCell ⟨w.heap.size, 3, none⟩ (.slice a3 n3 c3)).setCell ⟨w.heap.size, 4, none⟩ (.slice a4 n4 c4)) := by
    intro bad hb
    rw [← hb]
    have g1 := Fr.setAt w7 p 1 (.bool bad)
    have g2 := Fr.setAt (w7.setCell ⟨p, 1, none⟩ (.bool bad)) w1.heap.size 4 (.slice a4 n4 c4)
    generalize hW : (w7.setCell ⟨p, 1, none⟩ (.bool bad)).setCell ⟨w1.heap.size, 4, none⟩ (.slice a4 n4 c4) = W at *
    have g3 : Fr (onB w.heap.size) W (((((W.setCell ⟨w.heap.size, 0, none⟩ (.slice a0 n0 c0)).setCell ⟨w.heap.size, 1, none⟩ (.int .i64 res)).setCell ⟨w.heap.size, 2, none⟩ (.int .i64 slots)).setCell ⟨w.heap.size, 3, none⟩ (.slice a3 n3 c3)).setCell ⟨w.heap.size, 4, none⟩ (.slice a4 n4 c4)) :=
      (((((Fr.refl (onB w.heap.size) W).setCell (p := ⟨w.heap.size, 0, none⟩) (fun _ => rfl) _).setCell (p := ⟨w.heap.size, 1, none⟩) (fun _ => rfl) _).setCell (p := ⟨w.heap.size, 2, none⟩) (fun _ => rfl) _).setCell (p := ⟨w.heap.size, 3, none⟩) (fun _ => rfl) _).setCell (p := ⟨w.heap.size, 4, none⟩) (fun _ => rfl) _
    have g4 : Fr (fun k => k = p ∨ k = w1.heap.size ∨ k = w.heap.size) w7 (((((W.setCell ⟨w.heap.size, 0, none⟩ (.slice a0 n0 c0)).setCell ⟨w.heap.size, 1, none⟩ (.int .i64 res)).setCell ⟨w.heap.size, 2, none⟩ (.int .i64 slots)).setCell ⟨w.heap.size, 3, none⟩ (.slice a3 n3 c3)).setCell ⟨w.heap.size, 4, none⟩ (.slice a4 n4 c4)) :=
      ((g1.mono (fun k h => .inl h)).trans g2 (fun k _ h => .inr (.inl h))).trans g3 (fun k _ h => .inr (.inr h))
    have hs0 : w.heap.size + 1 = (w.alloc (.cells #[.slice none 0 0, .int .i64 0, .int .i64 0, .slice none 0 0, .slice none 0 0] 86)).heap.size := by simp
    refine ⟨_, _, _, rfl, ?_, ?_, ?_, ?_, ?_⟩
    · have hb0 : ∀ k, (Value.slice a0 n0 c0).ownBlock = some k → w.heap.size < k ∧ k < w1.heap.size := fun k hk => by
        have := HO0.out.lt hk; omega
      refine Own.base ((HO0.out.fr f7 (fun k hk => ?_)).fr g4 (fun k hk => ?_)) (fun k hk => by have := hb0 k hk; omega)
      · have := hb0 k hk; unfold pqB; omega
      · have := hb0 k hk; omega
    · refine Own.base ((HO3.out.fr fB7 (fun k hk => ?_)).fr g4 (fun k hk => ?_)) (fun k hk => by have := HO3'.out k hk; omega)
      · have := HO3'.out k hk; unfold pqB; omega
      · have := HO3'.out k hk; omega
    · refine Own.base (HO4.out.fr g4 (fun k hk => ?_)) (fun k hk => by have := ho4' k hk; omega)
      have := ho4' k hk; omega
    · have h1 : Rdr (w7.setCell ⟨p, 1, none⟩ (.bool bad)) p (s6.1, bad) := two_set1 rd7
      have h2 := h1.fr g2 (by unfold onB; omega)
      exact h2.fr g3 (by unfold onB; omega)
    · refine (HF1.out.trans f7 (fun k hk h => ?_)).trans g4 (fun k hk h => ?_)
      · rcases h with h | h
        · exact h
        · omega
      · rcases h with h | h | h
        · exact h
        · omega
        · omega
  have fin2 : ∀ bad, (((((((w7.setCell ⟨p, 1, none⟩ (.bool bad)).setCell ⟨w1.heap.size, 4, none⟩ (.slice a4 n4 c4)).setCell ⟨w.heap.size, 0, none⟩ (.slice a0 n0 c0)).setCell ⟨w.heap.size, 1, none⟩ (.int .i64 res)).setCell ⟨w.heap.size, 2, none⟩ (.int .i64 slots)).setCell ⟨w.heap.size, 3, none⟩ (.slice a3 n3 c3)).setCell ⟨w.heap.size, 4, none⟩ (.slice a4 n4 c4)).heap[w.heap.size]? = some (.cells #[.slice a0 n0 c0, .int .i64 res, .int .i64 slots, .slice a3 n3 c3, .slice a4 n4 c4] 86) := by
    intro bad
    have h1 := (Fr.setAt (w7.setCell ⟨p, 1, none⟩ (.bool bad)) w1.heap.size 4 (.slice a4 n4 c4)).heap ((Fr.setAt w7 p 1 (.bool bad)).heap res7 (by unfold onB; omega)) (by unfold onB; omega)
    exact row_set (row_set (row_set (row_set (row_set h1 0 _) 1 _) 2 _) 3 _) 4 _
  clear ho4' rd7 f7 fB7 loc7 res7
  have FIN := Lib.hid fin; clear fin
  have FINB := Lib.hid fin2; clear fin2
  cases hs6 : s6.2 <;> cases hok : readOk cb
  all_goals
    rw [hs6] at r1
    first | have FIN2 := Lib.hid (FIN.out true (by rw [hs6, hok]; rfl)) | have FIN2 := Lib.hid (FIN.out false (by rw [hs6, hok]; rfl))
    clear FIN
    go_wp2_with fail
    first | obtain ⟨⟨j0, j1, j2, j3, j4⟩, _⟩ := five_cells (FINB.out true) | skip
    first | obtain ⟨⟨i0, i1, i2, i3, i4⟩, _⟩ := five_cells (FINB.out false) | skip
    exact bodyPost_ret (v := .agg #[.slice a0 n0 c0, .int .i64 res, .int .i64 slots, .slice a3 n3 c3, .slice a4 n4 c4]) (by
      first
      | simp only [results, Try.results120, go_sem, j0, j1, j2, j3, j4]; done
      | simp only [results, Try.results120, go_sem, i0, i1, i2, i3, i4]; done
      | simp [results, Try.results120, go_sem, j0, j1, j2, j3, j4]; done
      | simp [results, Try.results120, go_sem, i0, i1, i2, i3, i4]; done) rfl FIN2.out
end Go.Proofs.Ytmmdppjbofbjhaa
