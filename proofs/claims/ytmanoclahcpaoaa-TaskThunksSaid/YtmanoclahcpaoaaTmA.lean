/- Rows that lose or change their last element; the readers of a state without alarms. -/
import Derived.Test.YtmanoclahcpaoaaTkL
import Derived.WalkSmall
namespace Go.Proofs.Ytmanoclahcpaoaa
open Go.ChangeShapes Go.WideShapes Go.ChangeAt Go.RowKit Go.Maps

theorem own_pop {P : Program} {α : Type} {E : Elem P α} {w : World} {B : Nat} {v : Value} {l : List α} {x : α} (h : Own E w B v (l ++ [x])) : ∃ g cap, v = .slice (some ⟨g, 0, none⟩) (l.length + 1) cap ∧ l.length + 1 ≤ cap ∧ Own E w B (.slice (some ⟨g, 0, none⟩) l.length cap) l := by
  have h0 : w.ownsRow B E.e E.size v (l ++ [x]).length ((l ++ [x]).flatMap E.enc) := h
  rw [List.length_append, List.flatMap_append] at h0
  have h1 : w.ownsRow B E.e E.size v (l.length + 1) (l.flatMap E.enc ++ [x].flatMap E.enc) := h0
  rcases id h1.2 with ⟨_, hz⟩ | ⟨g, cap, cur, hv, _, _, hc, _⟩
  · exact absurd hz (by omega)
  subst hv
  exact ⟨g, cap, rfl, hc, ownsRow_pop (E.len l) h1⟩
theorem own_put {P : Program} {α : Type} {E : Elem P α} {w : World} {B : Nat} {l : List α} {x : α} {g n cap : Nat} (h : Own E w B (.slice (some ⟨g, 0, none⟩) n cap) (l ++ [x])) (r : Nat) (u : Value) (y : α) (hy : E.enc y = (E.enc x).set r u) : Own E (w.setCell ⟨g, l.length * E.size + r, none⟩ u) B (.slice (some ⟨g, 0, none⟩) n cap) (l ++ [y]) := by
  obtain ⟨g', cap', he, _, _⟩ := own_pop h
  injection he with e1 e2 e3
  injection e1 with e1
  injection e1 with e1
  subst e1 e2 e3
  have h0 : w.ownsRow B E.e E.size (.slice (some ⟨g, 0, none⟩) (l.length + 1) cap) (l ++ [x]).length ((l ++ [x]).flatMap E.enc) := h
  rw [List.length_append, List.flatMap_append] at h0
  have h1 : w.ownsRow B E.e E.size (.slice (some ⟨g, 0, none⟩) (l.length + 1) cap) (l.length + 1) (l.flatMap E.enc ++ [x].flatMap E.enc) := h0
  have h2 := (World.ownsRow.stored h1 (l.length * E.size + r) u).1
  unfold Own
  rw [List.length_append, List.flatMap_append]
  have h3 : (l.flatMap E.enc ++ [x].flatMap E.enc).set (l.length * E.size + r) u = l.flatMap E.enc ++ [y].flatMap E.enc := by
    rw [← E.len l, List.set_append_right _ _ (Nat.le_add_right _ _), Nat.add_sub_cancel_left]
    simp [hy]
  rw [h3] at h2
  exact h2
theorem own_lastc {P : Program} {α : Type} {E : Elem P α} {w : World} {B : Nat} {l : List α} {x : α} {g n cap : Nat} (h : Own E w B (.slice (some ⟨g, 0, none⟩) n cap) (l ++ [x])) (r : Nat) (u : Value) (hu : (E.enc x)[r]? = some u) : w.cell? ⟨g, l.length * E.size + r, none⟩ = some u ∧ w.frozen? ⟨g, l.length * E.size + r, none⟩ = false := by
  obtain ⟨a, c, h1, h2⟩ := own_elems h
  injection h1 with e1 e2 e3
  obtain ⟨b, h3, h4, h5⟩ := h2 l.length (by simp)
  rw [← e1] at h3
  injection h3 with h3
  injection h3 with h3
  subst h3
  refine ⟨h5 r u (by simpa using hu), ?_⟩
  obtain ⟨g', cap', he, _, _⟩ := own_pop h
  injection he with e4 e5 e6
  subst e5
  have h0 : w.ownsRow B E.e E.size (.slice (some ⟨g, 0, none⟩) (l.length + 1) cap) (l.length + 1) ((l ++ [x]).flatMap E.enc) := by
    have h0 : w.ownsRow B E.e E.size (.slice (some ⟨g, 0, none⟩) (l.length + 1) cap) (l ++ [x]).length ((l ++ [x]).flatMap E.enc) := h
    rw [List.length_append] at h0
    exact h0
  exact World.ownsRow.frozenAt h0 _
theorem cell_new2 (w : World) (o : Obj) (cs : Array Value) (t : TypeId) (fz : Nat × Nat) (j : Nat) : ((w.alloc o).alloc (.cells cs t fz)).cell? ⟨w.heap.size + 1, j, none⟩ = cs[j]? := by
  have := cell_new (w.alloc o) cs t fz j
  rw [show (w.alloc o).heap.size = w.heap.size + 1 from by simp] at this
  exact this
set_option maxRecDepth 100000 in
theorem last_nil (w : World) (a : Option Addr) (n c : Nat) :
    Calls Try.prog 52 #[.agg #[.slice a n c, .slice none 0 0]] w fun e w' => e = .returned (.tuple #[.agg #[.int .i64 0, .int .i64 0, .int .i64 0, .bool false, .bool false], .bool false]) ∧ Below w.heap.size w w' := by
  go_enter Try.func52, Try.ntmps52
  go_wp2_with fail
  refine bodyPost_ret ?_ rfl ⟨rfl, ((Below.refl w.heap.size w).alloc (Nat.le_refl _) _).alloc (by simp) _⟩
  simp [results, Try.results52, go_sem, cell_new2]
set_option maxRecDepth 100000 in
theorem stTop_nil (w : World) (a : Option Addr) (c : Nat) :
    Calls Try.prog 51 #[.agg #[.slice a 0 c, .slice none 0 0]] w fun e w' => e = .returned (.tuple #[.agg #[.bool false, .bool false, .int .i64 0], .bool false]) ∧ Below w.heap.size w w' := by
  go_enter Try.func51, Try.ntmps51
  go_wp2_with fail
  refine bodyPost_ret ?_ rfl ⟨rfl, ((Below.refl w.heap.size w).alloc (Nat.le_refl _) _).alloc (by simp) _⟩
  simp [results, Try.results51, go_sem, cell_new2]
set_option maxRecDepth 100000 in
theorem stTop_some (w : World) (B : Nat) (v : Value) (l : List Mark) (m : Mark) (h : Own markE w B v (l ++ [m])) (hl : l.length ≤ 100000) :
    Calls Try.prog 51 #[.agg #[v, .slice none 0 0]] w fun e w' => e = .returned (.tuple #[.agg #[.bool m.leaving, .bool m.deferred, .int .i64 m.thunks], .bool true]) ∧ Below w.heap.size w w' := by
  obtain ⟨g, c, rfl, _, _⟩ := own_pop h
  have c0 := (own_lastc h 0 _ rfl).1
  have c1 := (own_lastc h 1 _ rfl).1
  have c2 := (own_lastc h 2 _ rfl).1
  have hbx := (((Below.refl w.heap.size w).alloc (Nat.le_refl _) (.cells #[.slice (some ⟨g, 0, none⟩) (l.length + 1) c, .slice none 0 0] 64)).alloc (by simp) (.cells #[.bool false, .bool false, .int .i64 0] 80))
  have hbz := (((Below.refl w.heap.size w).alloc (Nat.le_refl _) (.cells #[.slice (some ⟨g, 0, none⟩) (l.length + 1) c, .slice none 0 0] 64)).alloc (by simp) (.cells #[.bool m.leaving, .bool m.deferred, .int .i64 m.thunks] 80))
  have k0 := below_cell hbx c0
  have k1 := below_cell hbx c1
  have k2 := below_cell hbx c2
  change World.cell? _ ⟨g, l.length * 3, none⟩ = _ at k0
  change World.cell? _ ⟨g, l.length * 3 + 1, none⟩ = _ at k1
  change World.cell? _ ⟨g, l.length * 3 + 2, none⟩ = _ at k2
  have i1 : IntKind.i64.wrap (((l.length + 1 : Nat) : Int) - 1) = (l.length : Int) := by rw [show (((l.length + 1 : Nat) : Int) - 1) = (l.length : Int) from by omega]; exact IntWalk.i64_in _ (by omega)
  have n0 : (((l.length + 1 : Nat) : Int) == 0) = false := by rw [beq_eq_false_iff_ne]; omega
  have n1 : (l.length : Int) < ((l.length + 1 : Nat) : Int) := by omega
  generalize l.length + 1 = N at *
  have HB := Lib.hid hbz
  clear h c0 c1 c2 hbx hbz
  go_enter Try.func51, Try.ntmps51
  go_wp2_with fail
  refine bodyPost_ret ?_ rfl ⟨rfl, HB.out⟩
  simp [results, Try.results51, go_sem, cell_new2]
end Go.Proofs.Ytmanoclahcpaoaa
