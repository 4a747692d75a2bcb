/- Walks: the stack. -/
import Derived.Test.YtmanoclahcpaoaaTkC
import Derived.BigRegion
import Derived.Deep.RegionLaw
import Derived.Deep.RegionHeld3
import Derived.Deep.CutBlock
import Derived.Deep.DeepCutAuto
namespace Go.Proofs.Ytmanoclahcpaoaa
open Go.ChangeShapes Go.WideShapes Go.ChangeAt Go.RowKit Go.Maps

/-- a stack as it lies in memory -/
def StAt (w : World) (sb wb : Nat) (base : Int) (l : List Int) : Prop :=
  w.heap[sb]? = some (.cells #[.int .i64 base, .slice (some ⟨wb, 0, none⟩) l.length l.length] 95) ∧ w.heap[wb]? = some (intRow l 3)
theorem StAt.cells {w : World} {sb wb : Nat} {base : Int} {l : List Int} (h : StAt w sb wb base l) : w.cell? ⟨sb, 0, none⟩ = some (.int .i64 base) ∧ w.cell? ⟨sb, 1, none⟩ = some (.slice (some ⟨wb, 0, none⟩) l.length l.length) :=
  ⟨(row_cell h.1 0).1, (row_cell h.1 1).1⟩
theorem StAt.word {w : World} {sb wb : Nat} {base : Int} {l : List Int} (h : StAt w sb wb base l) (k : Nat) (hk : k < l.length) : w.cell? ⟨wb, k, none⟩ = some (.int .i64 l[k]) ∧ w.frozen? ⟨wb, k, none⟩ = false := by
  obtain ⟨h1, h2⟩ := row_cell h.2 k
  refine ⟨?_, h2⟩
  rw [h1]
  simp [hk]
theorem TaskAt.st {w : World} {F : Nat → Prop} {tb : Nat} {p : TPrg} {T : Tk} {X : TB} (h : TaskAt w F tb p T X) : StAt w X.sb X.wb T.base T.words := ⟨h.srow, h.wrow⟩
set_option maxRecDepth 100000 in
theorem stWords_any (w : World) (sb wb : Nat) (base : Int) (l : List Int) (h : StAt w sb wb base l) :
    Calls Try.prog 26 #[.pointer (some ⟨sb, 0, none⟩)] w fun e w' => e = .returned (.int .i64 l.length) ∧ w = w' := by
  obtain ⟨k0, k1⟩ := h.cells
  clear h
  go_enter Try.func26, Try.ntmps26
  go_wp2_with fail
  go_ret
  exact ⟨rfl, rfl⟩
set_option maxRecDepth 100000 in
theorem stThere_any (w : World) (sb wb : Nat) (base : Int) (l : List Int) (h : StAt w sb wb base l) (off : Int) :
    Calls Try.prog 46 #[.pointer (some ⟨sb, 0, none⟩), .int .i64 off] w fun e w' => e = .returned (.bool (withinB off l.length)) ∧ w = w' := by
  have ws := stWords_any w sb wb base l h
  have WS := Lib.hid ws; clear ws
  by_cases h0 : 0 ≤ off
  · by_cases h1 : off < l.length
    · rw [show withinB off l.length = true from by simp [withinB, h0, h1]]
      go_enter Try.func46, Try.ntmps46
      go_wp2_with fail
      refine WS.out.mono ?_
      rintro e w' ⟨rfl, rfl⟩
      go_wp2_with fail
      go_ret
      first | exact ⟨rfl, rfl⟩ | exact ⟨congrArg (fun b => Ending.returned (Value.bool b)) (decide_eq_false (by omega)), rfl⟩ | exact ⟨congrArg (fun b => Ending.returned (Value.bool b)) (decide_eq_true (by omega)), rfl⟩
    · rw [show withinB off l.length = false from by simp [withinB, h0, h1]]
      go_enter Try.func46, Try.ntmps46
      go_wp2_with fail
      refine WS.out.mono ?_
      rintro e w' ⟨rfl, rfl⟩
      go_wp2_with fail
      go_ret
      first | exact ⟨rfl, rfl⟩ | exact ⟨congrArg (fun b => Ending.returned (Value.bool b)) (decide_eq_false (by omega)), rfl⟩ | exact ⟨congrArg (fun b => Ending.returned (Value.bool b)) (decide_eq_true (by omega)), rfl⟩
  · rw [show withinB off l.length = false from by simp [withinB, h0]]
    go_enter Try.func46, Try.ntmps46
    go_wp2_with fail
    go_ret
    first | exact ⟨rfl, rfl⟩ | exact ⟨congrArg (fun b => Ending.returned (Value.bool b)) (decide_eq_false (by omega)), rfl⟩ | exact ⟨congrArg (fun b => Ending.returned (Value.bool b)) (decide_eq_true (by omega)), rfl⟩
set_option maxRecDepth 100000 in
theorem stStore_out (w : World) (sb wb : Nat) (base : Int) (l : List Int) (h : StAt w sb wb base l) (off v : Int) (ho : withinB off l.length = false) :
    Calls Try.prog 31 #[.pointer (some ⟨sb, 0, none⟩), .int .i64 off, .int .i64 v] w fun e w' => e = .returned (.bool false) ∧ w = w' := by
  have th := stThere_any w sb wb base l h off
  rw [ho] at th
  clear ho
  have TH := Lib.hid th; clear th
  go_enter Try.func31, Try.ntmps31
  go_wp2_with fail
  refine TH.out.mono ?_
  rintro e w' ⟨rfl, rfl⟩
  go_wp2_with fail
  go_ret
  exact ⟨rfl, rfl⟩
set_option maxRecDepth 100000 in
theorem stStore_in (w : World) (sb wb : Nat) (base : Int) (l : List Int) (h : StAt w sb wb base l) (k : Nat) (hk : k < l.length) (v : Int) :
    Calls Try.prog 31 #[.pointer (some ⟨sb, 0, none⟩), .int .i64 k, .int .i64 v] w fun e w' => e = .returned (.bool true) ∧ w' = w.setCell ⟨wb, k, none⟩ (.int .i64 v) := by
  have th := stThere_any w sb wb base l h k
  rw [show withinB (k : Int) l.length = true from by simp [withinB]; omega] at th
  obtain ⟨k0, k1⟩ := h.cells
  obtain ⟨x0, x1⟩ := h.word k hk
  have hk1 : (k : Int) < l.length := by omega
  clear h
  have TH := Lib.hid th; clear th
  go_enter Try.func31, Try.ntmps31
  go_wp2_with fail
  refine TH.out.mono ?_
  rintro e w' ⟨rfl, rfl⟩
  go_wp2_with fail
  go_ret
  exact ⟨rfl, rfl⟩
set_option maxRecDepth 100000 in
theorem stLoad_out (w : World) (sb wb : Nat) (base : Int) (l : List Int) (h : StAt w sb wb base l) (off : Int) (ho : withinB off l.length = false) :
    Calls Try.prog 33 #[.pointer (some ⟨sb, 0, none⟩), .int .i64 off] w fun e w' => e = .returned (.tuple #[.int .i64 0, .bool false]) ∧ w = w' := by
  have th := stThere_any w sb wb base l h off
  rw [ho] at th
  clear ho
  have TH := Lib.hid th; clear th
  go_enter Try.func33, Try.ntmps33
  go_wp2_with fail
  refine TH.out.mono ?_
  rintro e w' ⟨rfl, rfl⟩
  go_wp2_with fail
  go_ret2
  exact ⟨rfl, rfl⟩
set_option maxRecDepth 100000 in
theorem stLoad_in (w : World) (sb wb : Nat) (base : Int) (l : List Int) (h : StAt w sb wb base l) (k : Nat) (hk : k < l.length) :
    Calls Try.prog 33 #[.pointer (some ⟨sb, 0, none⟩), .int .i64 k] w fun e w' => e = .returned (.tuple #[.int .i64 l[k], .bool true]) ∧ w = w' := by
  have th := stThere_any w sb wb base l h k
  rw [show withinB (k : Int) l.length = true from by simp [withinB]; omega] at th
  obtain ⟨k0, k1⟩ := h.cells
  obtain ⟨x0, x1⟩ := h.word k hk
  have hk1 : (k : Int) < l.length := by omega
  clear h
  generalize l[k] = x at *
  have TH := Lib.hid th; clear th
  go_enter Try.func33, Try.ntmps33
  go_wp2_with fail
  refine TH.out.mono ?_
  rintro e w' ⟨rfl, rfl⟩
  go_wp2_with fail
  go_ret2
  exact ⟨rfl, rfl⟩
end Go.Proofs.Ytmanoclahcpaoaa
