/- Rows that lose or change their last element; the readers of a state without alarms. Walks: what a state without alarms does next. Walk: Task.Pop. Walks: Task.Pop where there is no frame; Task.Fn. Walks: Task.Leave, Task.Next; numbers copied; a frame's deferred calls. Walks: where the top stands (Pc, Goto); the place of a stack object; its words (within, Word, Put). -/
import Derived.Test.YthkhgihjigmkoaaGreatSAl
import Derived.WalkSmall
import Derived.Test.YthkhgihjigmkoaaGreatSAm
import Derived.Test.YthkhgihjigmkoaaGreatSAn
import Derived.Test.YthkhgihjigmkoaaGreatSAk
set_option linter.unusedVariables false
set_option linter.unusedSimpArgs false
namespace Go.Proofs.YthkhgihjigmkoaaGreat.Tk
open Go.ChangeShapes Go.WideShapes Go.ChangeAt Go.RowKit Go.Maps
theorem own_pop {P : Program} {α : Type} {E : Elem P α} {w : World} {B : Nat} {v : Value} {l : List α} {x : α} (h : Own E w B v (l ++ [x])) : ∃ g cap, v = .slice (some ⟨g, 0, none⟩) (l.length + 1) cap ∧ l.length + 1 ≤ cap ∧ Own E w B (.slice (some ⟨g, 0, none⟩) l.length cap) l := by
  have h0 : w.ownsRow B E.e E.size v (l ++ [x]).length ((l ++ [x]).flatMap E.enc) := h
  rw [List.length_append, List.flatMap_append] at h0
  have h1 : w.ownsRow B E.e E.size v (l.length + 1) (l.flatMap E.enc ++ [x].flatMap E.enc) := h0
  rcases id h1.2 with ⟨_, hz⟩ | ⟨g, cap, cur, hv, _, _, hc, _⟩
  · exact absurd hz (by omega)
  subst hv
  exact ⟨g, cap, rfl, hc, ownsRow_pop (E.len l) h1⟩
theorem own_put {P : Program} {α : Type} {E : Elem P α} {w : World} {B : Nat} {l : List α} {x : α} {g n cap : Nat} (h : Own E w B (.slice (some ⟨g, 0, none⟩) n cap) (l ++ [x])) (r : Nat) (u : Value) (y : α) (hy : E.enc y = (E.enc x).set r u) : Own E (w.setCell ⟨g, l.length * E.size + r, none⟩ u) B (.slice (some ⟨g, 0, none⟩) n cap) (l ++ [y]) := by
  obtain ⟨g', cap', he, _, _⟩ := own_pop h
  injection he with e1 e2 e3
  injection e1 with e1
  injection e1 with e1
  subst e1 e2 e3
  have h0 : w.ownsRow B E.e E.size (.slice (some ⟨g, 0, none⟩) (l.length + 1) cap) (l ++ [x]).length ((l ++ [x]).flatMap E.enc) := h
  rw [List.length_append, List.flatMap_append] at h0
  have h1 : w.ownsRow B E.e E.size (.slice (some ⟨g, 0, none⟩) (l.length + 1) cap) (l.length + 1) (l.flatMap E.enc ++ [x].flatMap E.enc) := h0
  have h2 := (World.ownsRow.stored h1 (l.length * E.size + r) u).1
  unfold Own
  rw [List.length_append, List.flatMap_append]
  have h3 : (l.flatMap E.enc ++ [x].flatMap E.enc).set (l.length * E.size + r) u = l.flatMap E.enc ++ [y].flatMap E.enc := by
    rw [← E.len l, List.set_append_right _ _ (Nat.le_add_right _ _), Nat.add_sub_cancel_left]
    simp [hy]
  rw [h3] at h2
  exact h2
theorem own_lastc {P : Program} {α : Type} {E : Elem P α} {w : World} {B : Nat} {l : List α} {x : α} {g n cap : Nat} (h : Own E w B (.slice (some ⟨g, 0, none⟩) n cap) (l ++ [x])) (r : Nat) (u : Value) (hu : (E.enc x)[r]? = some u) : w.cell? ⟨g, l.length * E.size + r, none⟩ = some u ∧ w.frozen? ⟨g, l.length * E.size + r, none⟩ = false := by
  obtain ⟨a, c, h1, h2⟩ := own_elems h
  injection h1 with e1 e2 e3
  obtain ⟨b, h3, h4, h5⟩ := h2 l.length (by simp)
  rw [← e1] at h3
  injection h3 with h3
  injection h3 with h3
  subst h3
  refine ⟨h5 r u (by simpa using hu), ?_⟩
  obtain ⟨g', cap', he, _, _⟩ := own_pop h
  injection he with e4 e5 e6
  subst e5
  have h0 : w.ownsRow B E.e E.size (.slice (some ⟨g, 0, none⟩) (l.length + 1) cap) (l.length + 1) ((l ++ [x]).flatMap E.enc) := by
    have h0 : w.ownsRow B E.e E.size (.slice (some ⟨g, 0, none⟩) (l.length + 1) cap) (l ++ [x]).length ((l ++ [x]).flatMap E.enc) := h
    rw [List.length_append] at h0
    exact h0
  exact World.ownsRow.frozenAt h0 _
theorem cell_new2 (w : World) (o : Obj) (cs : Array Value) (t : TypeId) (fz : Nat × Nat) (j : Nat) : ((w.alloc o).alloc (.cells cs t fz)).cell? ⟨w.heap.size + 1, j, none⟩ = cs[j]? := by
  have := cell_new (w.alloc o) cs t fz j
  rw [show (w.alloc o).heap.size = w.heap.size + 1 from by simp] at this
  exact this
set_option maxRecDepth 100000 in
theorem last_nil (w : World) (a : Option Addr) (n c : Nat) :
    Calls Tryz.prog 117 #[.agg #[.slice a n c, .slice none 0 0]] w fun e w' => e = .returned (.tuple #[.agg #[.int .i64 0, .int .i64 0, .int .i64 0, .bool false, .bool false], .bool false]) ∧ Below w.heap.size w w' := by
  go_enter Tryz.func117, Tryz.ntmps117
  go_wp2_with fail
  refine bodyPost_ret ?_ rfl ⟨rfl, ((Below.refl w.heap.size w).alloc (Nat.le_refl _) _).alloc (by simp) _⟩
  simp [results, Tryz.results117, go_sem, cell_new2]
set_option maxRecDepth 100000 in
theorem stTop_nil (w : World) (a : Option Addr) (c : Nat) :
    Calls Tryz.prog 116 #[.agg #[.slice a 0 c, .slice none 0 0]] w fun e w' => e = .returned (.tuple #[.agg #[.bool false, .bool false, .int .i64 0], .bool false]) ∧ Below w.heap.size w w' := by
  go_enter Tryz.func116, Tryz.ntmps116
  go_wp2_with fail
  refine bodyPost_ret ?_ rfl ⟨rfl, ((Below.refl w.heap.size w).alloc (Nat.le_refl _) _).alloc (by simp) _⟩
  simp [results, Tryz.results116, go_sem, cell_new2]
set_option maxRecDepth 100000 in
theorem stTop_some (w : World) (B : Nat) (v : Value) (l : List Mark) (m : Mark) (h : Own markE w B v (l ++ [m])) (hl : l.length ≤ 100000) :
    Calls Tryz.prog 116 #[.agg #[v, .slice none 0 0]] w fun e w' => e = .returned (.tuple #[.agg #[.bool m.leaving, .bool m.deferred, .int .i64 m.thunks], .bool true]) ∧ Below w.heap.size w w' := by
  obtain ⟨g, c, rfl, _, _⟩ := own_pop h
  have c0 := (own_lastc h 0 _ rfl).1
  have c1 := (own_lastc h 1 _ rfl).1
  have c2 := (own_lastc h 2 _ rfl).1
  have hbx := (((Below.refl w.heap.size w).alloc (Nat.le_refl _) (.cells #[.slice (some ⟨g, 0, none⟩) (l.length + 1) c, .slice none 0 0] 95)).alloc (by simp) (.cells #[.bool false, .bool false, .int .i64 0] 152))
  have hbz := (((Below.refl w.heap.size w).alloc (Nat.le_refl _) (.cells #[.slice (some ⟨g, 0, none⟩) (l.length + 1) c, .slice none 0 0] 95)).alloc (by simp) (.cells #[.bool m.leaving, .bool m.deferred, .int .i64 m.thunks] 152))
  have k0 := below_cell hbx c0
  have k1 := below_cell hbx c1
  have k2 := below_cell hbx c2
  change World.cell? _ ⟨g, l.length * 3, none⟩ = _ at k0
  change World.cell? _ ⟨g, l.length * 3 + 1, none⟩ = _ at k1
  change World.cell? _ ⟨g, l.length * 3 + 2, none⟩ = _ at k2
  have i1 : IntKind.i64.wrap (((l.length + 1 : Nat) : Int) - 1) = (l.length : Int) := by rw [show (((l.length + 1 : Nat) : Int) - 1) = (l.length : Int) from by omega]; exact IntWalk.i64_in _ (by omega)
  have n0 : (((l.length + 1 : Nat) : Int) == 0) = false := by rw [beq_eq_false_iff_ne]; omega
  have n1 : (l.length : Int) < ((l.length + 1 : Nat) : Int) := by omega
  generalize l.length + 1 = N at *
  have HB := Lib.hid hbz
  clear h c0 c1 c2 hbx hbz
  go_enter Tryz.func116, Tryz.ntmps116
  go_wp2_with fail
  refine bodyPost_ret ?_ rfl ⟨rfl, HB.out⟩
  simp [results, Tryz.results116, go_sem, cell_new2]
end Go.Proofs.YthkhgihjigmkoaaGreat.Tk
namespace Go.Proofs.YthkhgihjigmkoaaGreat.Tk
open Go.ChangeShapes Go.WideShapes Go.ChangeAt Go.RowKit Go.Maps
set_option maxRecDepth 100000 in
theorem unwinds_nil (w : World) (a : Option Addr) (n c : Nat) :
    Calls Tryz.prog 118 #[.agg #[.slice a n c, .slice none 0 0]] w fun e w' => e = .returned (.bool false) ∧ Below w.heap.size w w' := by
  have la := fun w => last_nil w a n c
  have LA := Lib.hid la; clear la
  go_enter Tryz.func118, Tryz.ntmps118
  go_wp2_with fail
  refine (LA.out _).mono ?_
  rintro e w1 ⟨rfl, hb⟩
  have HB := Lib.hid (((Below.refl w.heap.size w).alloc (Nat.le_refl _) (.cells #[.slice a n c, .slice none 0 0] 95)).trans (hb.mono (by simp)))
  clear hb
  go_wp2_with fail
  go_ret
  exact ⟨rfl, HB.out.alloc HB.out.size _⟩
/-- what is done next -/
def nextN (l : List Mark) : Int := match l.getLast? with | none => 3 | some m => if m.leaving = false then 0 else if 0 < m.thunks then 1 else 2
set_option maxRecDepth 100000 in
theorem stNext_nil (w : World) (a : Option Addr) (c : Nat) :
    Calls Tryz.prog 89 #[.agg #[.slice a 0 c, .slice none 0 0]] w fun e w' => e = .returned (.int .i64 3) ∧ Below w.heap.size w w' := by
  have la := fun w => last_nil w a 0 c
  have tp := fun w => stTop_nil w a c
  have LA := Lib.hid la; clear la
  have TP := Lib.hid tp; clear tp
  go_enter Tryz.func89, Tryz.ntmps89
  go_wp2_with fail
  refine (TP.out _).mono ?_
  rintro e w1 ⟨rfl, hb⟩
  obtain ⟨k0, hb1, hz⟩ := box1 w _ _ w1 (hb.mono (by simp))
  have j0 := k0 0 _ rfl
  have j1 := k0 1 _ rfl
  have j0 := below_cell ((Below.refl w1.heap.size w1).alloc (Nat.le_refl _) (.cells #[.bool false, .bool false, .int .i64 0] 152)) j0
  have j1 := below_cell ((Below.refl w1.heap.size w1).alloc (Nat.le_refl _) (.cells #[.bool false, .bool false, .int .i64 0] 152)) j1
  have HB := Lib.hid (hb1.alloc hb1.size (.cells #[.bool false, .bool false, .int .i64 0] 152))
  clear hb hb1 k0
  go_wp2_with fail
  refine (LA.out _).mono ?_
  rintro e w2 ⟨rfl, hb⟩
  have HB2 := Lib.hid (HB.out.trans (hb.mono HB.out.size))
  clear hb
  go_wp2_with fail
  go_ret
  exact ⟨rfl, HB2.out.alloc HB2.out.size _⟩
set_option maxRecDepth 100000 in
set_option maxHeartbeats 1600000 in
theorem stNext_some (w : World) (B : Nat) (v : Value) (l : List Mark) (m : Mark) (h : Own markE w B v (l ++ [m])) (hl : l.length ≤ 100000) :
    Calls Tryz.prog 89 #[.agg #[v, .slice none 0 0]] w fun e w' => e = .returned (.int .i64 (nextN (l ++ [m]))) ∧ Below w.heap.size w w' := by
  have hn : nextN (l ++ [m]) = if m.leaving = false then 0 else if 0 < m.thunks then 1 else 2 := by
    unfold nextN
    rw [List.getLast?_concat]
  rw [hn]
  have tp := fun wr (hw : Below w.heap.size w wr) => stTop_some wr B v l m (h.below hw) hl
  obtain ⟨g, c, rfl, _, _⟩ := own_pop h
  have hb0 := (Below.refl w.heap.size w).alloc (Nat.le_refl _) (.cells #[.slice (some ⟨g, 0, none⟩) (l.length + 1) c, .slice none 0 0] 95)
  generalize l.length + 1 = N at *
  have un := fun w => unwinds_nil w (some ⟨g, 0, none⟩) N c
  obtain ⟨b0, b1, b2⟩ := m
  clear h hn
  have TP := Lib.hid tp; clear tp
  have UN := Lib.hid un; clear un
  have HB0 := Lib.hid hb0; clear hb0
  go_enter Tryz.func89, Tryz.ntmps89
  go_wp2_with fail
  refine (TP.out _ HB0.out).mono ?_
  rintro e w1 ⟨rfl, hb⟩
  obtain ⟨k0, hb1, hz⟩ := box1 w _ _ w1 (hb.mono (by simp))
  have j0 := k0 0 _ rfl
  have j1 := k0 1 _ rfl
  have j0 := below_cell ((Below.refl w1.heap.size w1).alloc (Nat.le_refl _) (.cells #[.bool b0, .bool b1, .int .i64 b2] 152)) j0
  have j1 := below_cell ((Below.refl w1.heap.size w1).alloc (Nat.le_refl _) (.cells #[.bool b0, .bool b1, .int .i64 b2] 152)) j1
  have hrow := heap_new w1 (.cells #[.bool b0, .bool b1, .int .i64 b2] 152)
  have HB := Lib.hid (hb1.alloc hb1.size (.cells #[.bool b0, .bool b1, .int .i64 b2] 152))
  have HROW := Lib.hid hrow
  clear hb hb1 k0 hrow
  go_wp2_with fail
  refine (UN.out _).mono ?_
  rintro e w2 ⟨rfl, hb⟩
  have HB2 := Lib.hid (HB.out.trans (hb.mono HB.out.size))
  have hr2 := (Fr.of_below hb (fun _ => False)).heap HROW.out (fun h => h)
  have q0 : w2.cell? ⟨w1.heap.size, 0, none⟩ = some (.bool b0) := (row_cell hr2 0).1
  have q2 : w2.cell? ⟨w1.heap.size, 2, none⟩ = some (.int .i64 b2) := (row_cell hr2 2).1
  clear hb hr2
  cases b0
  · go_wp2_with fail
    go_ret
    exact ⟨rfl, HB2.out⟩
  · by_cases hp : 0 < b2
    · go_wp2_with fail
      go_ret
      exact ⟨by simp [hp], HB2.out⟩
    · go_wp2_with fail
      go_ret
      exact ⟨by simp [hp], HB2.out⟩
end Go.Proofs.YthkhgihjigmkoaaGreat.Tk
namespace Go.Proofs.YthkhgihjigmkoaaGreat.Tk
open Go.ChangeShapes Go.WideShapes Go.ChangeAt Go.RowKit Go.Maps
theorem TaskAt.turned {w w' : World} {F : Nat → Prop} {tb : Nat} {p : TPrg} {T : Tk} {X : TB} (h : TaskAt w F tb p T X) {n : Nat} {f : { x : Int × Int // i64B x.1 ∧ i64B x.2 } → Option Int} (hm : MapIs spK (Value.int .i64) w' X.kb n f) (hf : ∀ a, f a = none) (ht : w.mapTurned w' X.kb) : TaskAt w' F tb p T X ∧ Fr F w w' := by
  have hr := turned_fr ht
  obtain ⟨_, hk⟩ := h.kept
  refine ⟨?_, hr.mono fun k e => e ▸ h.fk⟩
  constructor
  · exact hr.heap h.row (fun e => map_ne hk h.row e.symm)
  · exact h.prg.fr hr fun k hk e => (h.out k hk).1 (e ▸ h.fk)
  · exact fun k hk => ⟨(h.out k hk).1, Nat.lt_of_lt_of_le (h.out k hk).2 hr.size⟩
  · exact hr.heap h.srow (fun e => map_ne hk h.srow e.symm)
  · exact hr.heap h.wrow (fun e => map_ne hk h.wrow e.symm)
  · exact h.parts.fr hr fun k hk2 e => by obtain ⟨cur, f, hc⟩ := own_row h.parts hk2; exact map_ne hk hc e.symm
  · exact h.marks.fr hr fun k hk2 e => by obtain ⟨cur, f, hc⟩ := own_row h.marks hk2; exact map_ne hk hc e.symm
  · exact Nat.lt_of_lt_of_le h.kb hr.size
  · exact ⟨n, hm.congr fun a _ => hf a⟩
  · exact h.ft
  · exact h.fs
  · exact h.fw
  · exact h.fk
  · exact h.fp
  · exact h.fm
  · exact fun k hk => Nat.lt_of_lt_of_le (h.flt k hk) hr.size
end Go.Proofs.YthkhgihjigmkoaaGreat.Tk
namespace Go.Proofs.YthkhgihjigmkoaaGreat.Tk
open Go.ChangeShapes Go.WideShapes Go.ChangeAt Go.RowKit Go.Maps
set_option maxRecDepth 100000 in
theorem fn_some (w : World) (F : Nat → Prop) (tb : Nat) (p : TPrg) (T : Tk) (X : TB) (h : TaskAt w F tb p T X) (hn : T.parts.length ≤ 1000) (n : Nat) (h0 : T.parts.length = n + 1) :
    Calls Tryz.prog 38 #[.pointer (some ⟨tb, 0, none⟩)] w fun e w' => e = .returned (.int .i64 (T.parts[n]'(by omega)).fn) ∧ ∃ m, w' = w.drewN m := by
  obtain ⟨a, c, hpv, hel⟩ := h.pv
  obtain ⟨g, rfl, hgo, k0, k1, k2, k3, k4⟩ := hel n (by omega)
  have tp := top_some w F tb p T X h hn n h0 g hgo
  generalize (T.parts[n]'(by omega)).fn = x at *
  clear h0 h hel k1 k2 k3 k4 hpv hgo hn
  have TP := Lib.hid tp; clear tp
  go_enter Tryz.func38, Tryz.ntmps38
  go_wp2_with fail
  refine TP.out.mono ?_
  rintro e w' ⟨rfl, m, rfl⟩
  have k0 := below_cell (below_drewN (Below.refl w.heap.size w) m) k0
  go_wp2_with fail
  go_ret
  exact ⟨rfl, m, rfl⟩
end Go.Proofs.YthkhgihjigmkoaaGreat.Tk
namespace Go.Proofs.YthkhgihjigmkoaaGreat.Tk
open Go.ChangeShapes Go.WideShapes Go.ChangeAt Go.RowKit Go.Maps
set_option maxRecDepth 100000 in
theorem tkNext_any (w : World) (F : Nat → Prop) (tb : Nat) (p : TPrg) (T : Tk) (X : TB) (h : TaskAt w F tb p T X) (hl : T.marks.length ≤ 10000) :
    Calls Tryz.prog 66 #[.pointer (some ⟨tb, 0, none⟩)] w fun e w' => e = .returned (.int .i64 (nextN T.marks)) ∧ Below w.heap.size w w' := by
  obtain ⟨_, _, _, _, _, q5, q6, _⟩ := h.cells
  have sp : Calls Tryz.prog 89 #[.agg #[X.mv, .slice none 0 0]] w fun e w' => e = .returned (.int .i64 (nextN T.marks)) ∧ Below w.heap.size w w' := by
    have hm := h.marks
    by_cases h0 : T.marks = []
    · rw [h0] at hm ⊢
      obtain ⟨a, c, he, _⟩ := own_elems hm
      rw [he]
      exact stNext_nil w a c
    · have hd := List.dropLast_concat_getLast h0
      rw [← hd] at hm ⊢
      exact stNext_some w 0 X.mv _ _ hm (by simp; omega)
  obtain ⟨a6, n6, c6, hmv2⟩ := h.marks.slice
  rw [hmv2] at sp q5
  generalize nextN T.marks = x at *
  clear hmv2 h
  have SP := Lib.hid sp; clear sp
  go_enter Tryz.func66, Tryz.ntmps66
  go_wp2_with fail
  refine SP.out.mono ?_
  rintro e w4 ⟨rfl, hb4⟩
  have HB4 := Lib.hid hb4
  clear hb4
  go_wp2_with fail
  go_ret
  exact ⟨rfl, HB4.out⟩
set_option maxRecDepth 100000 in
set_option maxHeartbeats 1600000 in
theorem cloneInts_any (w : World) (g : Nat) (l : List Int) (c : Nat) (hc : ∀ j (hj : j < l.length), w.cell? ⟨g, j, none⟩ = some (.int .i64 l[j])) (hn : l.length ≤ 100000) :
    Calls Tryz.prog 64 #[.slice (some ⟨g, 0, none⟩) l.length c] w fun e w' => ∃ v', e = .returned v' ∧ Own intE w' w.heap.size v' l ∧ Below w.heap.size w w' := by
  have ho := own_new intE w [] #[] rfl (by decide)
  have hb0 := (Below.refl w.heap.size w).alloc (Nat.le_refl _) (.cells #[] intE.e)
  have hc1 : ∀ j u, (l.flatMap intE.enc)[j]? = some u → w.cell? ((⟨g, 0, none⟩ : Addr).add j) = some u := fun j u hj => by
    have hlt : j < l.length := by
      have h1 := (List.getElem?_eq_some_iff.1 hj).1
      have h2 := intE.len l
      rw [h2] at h1
      have h3 : intE.size = 1 := rfl
      rw [h3] at h1
      omega
    have h4 := intE.get l j 0 hlt (by decide)
    have h5 : (l.flatMap intE.enc)[j]? = some (.int .i64 l[j]) := by
      have h6 : j * intE.size + 0 = j := by show j * 1 + 0 = j; omega
      rw [h6] at h4
      rw [h4]; rfl
    rw [h5] at hj
    injection hj with hj
    subst hj
    have := hc j hlt
    by_cases hj0 : j = 0
    · subst hj0; simpa [Addr.add] using this
    · simpa [Addr.add, hj0] using this
  have hc2 := fun j u hj => alloc_cellA (o := .cells #[] intE.e) (hc1 j u hj)
  have hnil := fun w => eq_nil_run intE (some ⟨g, 0, none⟩) l.length c w
  have hnil : ∀ w, (binOp .eql 23 (.slice (some ⟨g, 0, none⟩) l.length c) (.slice none 0 0)).run Tryz.prog w = .ok (.bool false) w := hnil
  clear hc hc1
  have HC2 := Lib.hid hc2; clear hc2
  have HO := Lib.hid ho; clear ho
  have HB0 := Lib.hid hb0; clear hb0
  go_enter Tryz.func64, Tryz.ntmps64
  go_wp2_with (at_builtin; refine append_own_addr intE rfl (.tmp 5) (.tmp 6) rfl w.heap.size [] l _ rfl HO.out ⟨g, 0, none⟩ c rfl HC2.out ?c1 ?c2 ?_)
  case c1 => simp; omega
  case c2 => simp
  intro v2 w2 hown2 hg2
  have hB2 := below_grown HB0.out HO.out hg2 (by simp) (Nat.le_refl _)
  clear hg2
  have HB2 := Lib.hid hB2; clear hB2
  have HOWN2 := Lib.hid hown2; clear hown2
  go_wp2_with fail
  go_ret
  exact ⟨_, rfl, HOWN2.out, HB2.out⟩
theorem TaskAt.putPart {w : World} {F : Nat → Prop} {tb : Nat} {p : TPrg} {T : Tk} {X : TB} {P : List Part} {q y : Part} {g n c : Nat} (h : TaskAt w F tb p T X) (hP : T.parts = P ++ [q]) (hv : X.pv = .slice (some ⟨g, 0, none⟩) n c) (r : Nat) (u : Value) (hy : partE.enc y = (partE.enc q).set r u) :
    TaskAt (w.setCell ⟨g, P.length * 5 + r, none⟩ u) F tb p ⟨T.base, T.words, P ++ [y], T.marks⟩ X ∧ Fr F w (w.setCell ⟨g, P.length * 5 + r, none⟩ u) := by
  have hgo : X.pv.ownBlock = some g := by rw [hv]; rfl
  have hfs : Fr (fun k => k = g) w (w.setCell ⟨g, P.length * 5 + r, none⟩ u) := (Fr.refl (fun k => k = g) w).setCell (p := ⟨g, P.length * 5 + r, none⟩) (fun _ => rfl) _
  obtain ⟨d1, d2, d3, d4, d5, d6⟩ := h.distinct
  obtain ⟨e1, e2, e3⟩ := d4 g hgo
  have ho := h.parts
  rw [hP, hv] at ho
  have ho2 := own_put ho r u y hy
  have hF : ∀ k, k = g → F k := fun k e => e ▸ h.fp g hgo
  refine ⟨?_, hfs.mono hF⟩
  constructor
  · exact hfs.heap h.row (fun e => e1 e.symm)
  · exact h.prg.fr hfs fun k hk e => (h.out k hk).1 (hF k e)
  · exact fun k hk => ⟨(h.out k hk).1, Nat.lt_of_lt_of_le (h.out k hk).2 hfs.size⟩
  · exact hfs.heap h.srow (fun e => e2 e.symm)
  · exact hfs.heap h.wrow (fun e => e3 e.symm)
  · rw [hv]; exact ho2
  · exact h.marks.fr hfs (fun k hk e => d6 k (e ▸ hgo) hk)
  · exact Nat.lt_of_lt_of_le h.kb hfs.size
  · exact h.kept.imp fun n hm => hm.fr hfs (fun e => by obtain ⟨cur, f, hc⟩ := own_row h.parts hgo; exact map_ne hm hc e)
  · exact h.ft
  · exact h.fs
  · exact h.fw
  · exact h.fk
  · exact h.fp
  · exact h.fm
  · exact fun k hk => Nat.lt_of_lt_of_le (h.flt k hk) hfs.size
end Go.Proofs.YthkhgihjigmkoaaGreat.Tk
namespace Go.Proofs.YthkhgihjigmkoaaGreat.Tk
open Go.ChangeShapes Go.WideShapes Go.ChangeAt Go.RowKit Go.Maps
set_option maxRecDepth 100000 in
theorem pc_some (w : World) (F : Nat → Prop) (tb : Nat) (p : TPrg) (T : Tk) (X : TB) (h : TaskAt w F tb p T X) (hn : T.parts.length ≤ 1000) (n : Nat) (h0 : T.parts.length = n + 1) :
    Calls Tryz.prog 31 #[.pointer (some ⟨tb, 0, none⟩)] w fun e w' => e = .returned (.int .i64 (T.parts[n]'(by omega)).pc) ∧ ∃ m, w' = w.drewN m := by
  obtain ⟨a, c, hpv, hel⟩ := h.pv
  obtain ⟨g, rfl, hgo, k0, k1, k2, k3, k4⟩ := hel n (by omega)
  have tp := top_some w F tb p T X h hn n h0 g hgo
  generalize (T.parts[n]'(by omega)).pc = x at *
  clear h0 h hel k0 k2 k3 k4 hpv hgo hn
  have TP := Lib.hid tp; clear tp
  go_enter Tryz.func31, Tryz.ntmps31
  go_wp2_with fail
  refine TP.out.mono ?_
  rintro e w' ⟨rfl, m, rfl⟩
  have k1 := below_cell (below_drewN (Below.refl w.heap.size w) m) k1
  go_wp2_with fail
  go_ret
  exact ⟨rfl, m, rfl⟩
set_option maxRecDepth 100000 in
theorem goto_any (w : World) (F : Nat → Prop) (tb : Nat) (p : TPrg) (T : Tk) (X : TB) (h : TaskAt w F tb p T X) (hn : T.parts.length ≤ 1000) (P : List Part) (q : Part) (hP : T.parts = P ++ [q]) (v : Int) :
    Calls Tryz.prog 16 #[.pointer (some ⟨tb, 0, none⟩), .int .i64 v] w fun e w' => e = .returned (.tuple #[]) ∧ TaskAt w' F tb p ⟨T.base, T.words, P ++ [⟨q.fn, v, q.base, q.ret, q.ta, q.tn, q.tc⟩], T.marks⟩ X ∧ Fr F w w' := by
  have h0 : T.parts.length = P.length + 1 := by rw [hP]; simp
  obtain ⟨a, c, hpv, hel⟩ := h.pv
  obtain ⟨g, rfl, hgo, k0, k1, k2, k3, k4⟩ := hel P.length (by omega)
  have tp := top_some w F tb p T X h hn P.length h0 g hgo
  have fin := fun m => (h.below (below_drewN (Below.refl w.heap.size w) m)).putPart hP (by rw [hpv]) 1 (.int .i64 v) (y := ⟨q.fn, v, q.base, q.ret, q.ta, q.tn, q.tc⟩) rfl
  have hfz : ∀ m, (w.drewN m).frozen? ⟨g, P.length * 5 + 1, none⟩ = false := fun m => by
    have ho := (h.below (below_drewN (Below.refl w.heap.size w) m)).parts
    rw [hpv, hP] at ho
    exact (own_lastc ho 1 _ rfl).2
  have hfr := fun m => Fr.of_below (below_drewN (Below.refl w.heap.size w) m) F
  generalize (T.parts[P.length]'(by omega)).pc = x at k1
  clear h0 h hel k0 k2 k3 k4 hpv hgo hn hP
  have TP := Lib.hid tp; clear tp
  have FIN := Lib.hid fin; clear fin
  have HFR := Lib.hid hfr; clear hfr
  go_enter Tryz.func16, Tryz.ntmps16
  go_wp2_with fail
  refine TP.out.mono ?_
  rintro e w' ⟨rfl, m, rfl⟩
  have k1 := below_cell (below_drewN (Below.refl w.heap.size w) m) k1
  have hfz := hfz m
  have FINM := Lib.hid (FIN.out m)
  have HFRM := Lib.hid (HFR.out m)
  generalize w.drewN m = wd at *
  go_wp2_with fail
  go_end0
  first | exact ⟨rfl, FINM.out.1, HFRM.out.trans FINM.out.2 (fun _ _ h => h)⟩
end Go.Proofs.YthkhgihjigmkoaaGreat.Tk
