/- Walks: what a state without alarms does next. -/
import Derived.Test.YtmanoclahcpaoaaTmA
namespace Go.Proofs.Ytmanoclahcpaoaa
open Go.ChangeShapes Go.WideShapes Go.ChangeAt Go.RowKit Go.Maps

set_option maxRecDepth 100000 in
theorem unwinds_nil (w : World) (a : Option Addr) (n c : Nat) :
    Calls Try.prog 48 #[.agg #[.slice a n c, .slice none 0 0]] w fun e w' => e = .returned (.bool false) ∧ Below w.heap.size w w' := by
  have la := fun w => last_nil w a n c
  have LA := Lib.hid la; clear la
  go_enter Try.func48, Try.ntmps48
  go_wp2_with fail
  refine (LA.out _).mono ?_
  rintro e w1 ⟨rfl, hb⟩
  have HB := Lib.hid (((Below.refl w.heap.size w).alloc (Nat.le_refl _) (.cells #[.slice a n c, .slice none 0 0] 64)).trans (hb.mono (by simp)))
  clear hb
  go_wp2_with fail
  go_ret
  exact ⟨rfl, HB.out.alloc HB.out.size _⟩
/-- what is done next -/
def nextN (l : List Mark) : Int := match l.getLast? with | none => 3 | some m => if m.leaving = false then 0 else if 0 < m.thunks then 1 else 2
set_option maxRecDepth 100000 in
theorem stNext_nil (w : World) (a : Option Addr) (c : Nat) :
    Calls Try.prog 38 #[.agg #[.slice a 0 c, .slice none 0 0]] w fun e w' => e = .returned (.int .i64 3) ∧ Below w.heap.size w w' := by
  have la := fun w => last_nil w a 0 c
  have tp := fun w => stTop_nil w a c
  have LA := Lib.hid la; clear la
  have TP := Lib.hid tp; clear tp
  go_enter Try.func38, Try.ntmps38
  go_wp2_with fail
  refine (TP.out _).mono ?_
  rintro e w1 ⟨rfl, hb⟩
  obtain ⟨k0, hb1, hz⟩ := box1 w _ _ w1 (hb.mono (by simp))
  have j0 := k0 0 _ rfl
  have j1 := k0 1 _ rfl
  have j0 := below_cell ((Below.refl w1.heap.size w1).alloc (Nat.le_refl _) (.cells #[.bool false, .bool false, .int .i64 0] 80)) j0
  have j1 := below_cell ((Below.refl w1.heap.size w1).alloc (Nat.le_refl _) (.cells #[.bool false, .bool false, .int .i64 0] 80)) j1
  have HB := Lib.hid (hb1.alloc hb1.size (.cells #[.bool false, .bool false, .int .i64 0] 80))
  clear hb hb1 k0
  go_wp2_with fail
  refine (LA.out _).mono ?_
  rintro e w2 ⟨rfl, hb⟩
  have HB2 := Lib.hid (HB.out.trans (hb.mono HB.out.size))
  clear hb
  go_wp2_with fail
  go_ret
  exact ⟨rfl, HB2.out.alloc HB2.out.size _⟩
set_option maxRecDepth 100000 in
set_option maxHeartbeats 1600000 in
theorem stNext_some (w : World) (B : Nat) (v : Value) (l : List Mark) (m : Mark) (h : Own markE w B v (l ++ [m])) (hl : l.length ≤ 100000) :
    Calls Try.prog 38 #[.agg #[v, .slice none 0 0]] w fun e w' => e = .returned (.int .i64 (nextN (l ++ [m]))) ∧ Below w.heap.size w w' := by
  have hn : nextN (l ++ [m]) = if m.leaving = false then 0 else if 0 < m.thunks then 1 else 2 := by
    unfold nextN
    rw [List.getLast?_concat]
  rw [hn]
  have tp := fun wr (hw : Below w.heap.size w wr) => stTop_some wr B v l m (h.below hw) hl
  obtain ⟨g, c, rfl, _, _⟩ := own_pop h
  have hb0 := (Below.refl w.heap.size w).alloc (Nat.le_refl _) (.cells #[.slice (some ⟨g, 0, none⟩) (l.length + 1) c, .slice none 0 0] 64)
  generalize l.length + 1 = N at *
  have un := fun w => unwinds_nil w (some ⟨g, 0, none⟩) N c
  obtain ⟨b0, b1, b2⟩ := m
  clear h hn
  have TP := Lib.hid tp; clear tp
  have UN := Lib.hid un; clear un
  have HB0 := Lib.hid hb0; clear hb0
  go_enter Try.func38, Try.ntmps38
  go_wp2_with fail
  refine (TP.out _ HB0.out).mono ?_
  rintro e w1 ⟨rfl, hb⟩
  obtain ⟨k0, hb1, hz⟩ := box1 w _ _ w1 (hb.mono (by simp))
  have j0 := k0 0 _ rfl
  have j1 := k0 1 _ rfl
  have j0 := below_cell ((Below.refl w1.heap.size w1).alloc (Nat.le_refl _) (.cells #[.bool b0, .bool b1, .int .i64 b2] 80)) j0
  have j1 := below_cell ((Below.refl w1.heap.size w1).alloc (Nat.le_refl _) (.cells #[.bool b0, .bool b1, .int .i64 b2] 80)) j1
  have hrow := heap_new w1 (.cells #[.bool b0, .bool b1, .int .i64 b2] 80)
  have HB := Lib.hid (hb1.alloc hb1.size (.cells #[.bool b0, .bool b1, .int .i64 b2] 80))
  have HROW := Lib.hid hrow
  clear hb hb1 k0 hrow
  go_wp2_with fail
  refine (UN.out _).mono ?_
  rintro e w2 ⟨rfl, hb⟩
  have HB2 := Lib.hid (HB.out.trans (hb.mono HB.out.size))
  have hr2 := (Fr.of_below hb (fun _ => False)).heap HROW.out (fun h => h)
  have q0 : w2.cell? ⟨w1.heap.size, 0, none⟩ = some (.bool b0) := (row_cell hr2 0).1
  have q2 : w2.cell? ⟨w1.heap.size, 2, none⟩ = some (.int .i64 b2) := (row_cell hr2 2).1
  clear hb hr2
  cases b0
  · go_wp2_with fail
    go_ret
    exact ⟨rfl, HB2.out⟩
  · by_cases hp : 0 < b2
    · go_wp2_with fail
      go_ret
      exact ⟨by simp [hp], HB2.out⟩
    · go_wp2_with fail
      go_ret
      exact ⟨by simp [hp], HB2.out⟩
end Go.Proofs.Ytmanoclahcpaoaa
