/- Walks: Task.Pop where there is no frame; Task.Fn. -/
import Derived.Test.YtmanoclahcpaoaaTmE
namespace Go.Proofs.Ytmanoclahcpaoaa
open Go.ChangeShapes Go.WideShapes Go.ChangeAt Go.RowKit Go.Maps

set_option maxRecDepth 100000 in
theorem pop_none (w : World) (F : Nat → Prop) (tb : Nat) (p : TPrg) (T : Tk) (X : TB) (h : TaskAt w F tb p T X) (h0 : T.parts.length = 0) (v : Int) (has : Bool) :
    Calls Try.prog 16 #[.pointer (some ⟨tb, 0, none⟩), .int .i64 v, .bool has] w fun e w' => e = .returned (.bool false) ∧ w = w' := by
  have tp := top_nil w F tb p T X h h0
  clear h0 h
  have TP := Lib.hid tp; clear tp
  go_enter Try.func16, Try.ntmps16
  go_wp2_with fail
  refine TP.out.mono ?_
  rintro e w' ⟨rfl, rfl⟩
  go_wp2_with fail
  go_ret
  exact ⟨rfl, rfl⟩
set_option maxRecDepth 100000 in
theorem fn_none (w : World) (F : Nat → Prop) (tb : Nat) (p : TPrg) (T : Tk) (X : TB) (h : TaskAt w F tb p T X) (h0 : T.parts.length = 0) :
    Calls Try.prog 17 #[.pointer (some ⟨tb, 0, none⟩)] w fun e w' => e = .returned (.int .i64 0) ∧ w = w' := by
  have tp := top_nil w F tb p T X h h0
  clear h0 h
  have TP := Lib.hid tp; clear tp
  go_enter Try.func17, Try.ntmps17
  go_wp2_with fail
  refine TP.out.mono ?_
  rintro e w' ⟨rfl, rfl⟩
  go_wp2_with fail
  go_ret
  exact ⟨rfl, rfl⟩
set_option maxRecDepth 100000 in
theorem fn_some (w : World) (F : Nat → Prop) (tb : Nat) (p : TPrg) (T : Tk) (X : TB) (h : TaskAt w F tb p T X) (hn : T.parts.length ≤ 1000) (n : Nat) (h0 : T.parts.length = n + 1) :
    Calls Try.prog 17 #[.pointer (some ⟨tb, 0, none⟩)] w fun e w' => e = .returned (.int .i64 (T.parts[n]'(by omega)).fn) ∧ ∃ m, w' = w.drewN m := by
  obtain ⟨a, c, hpv, hel⟩ := h.pv
  obtain ⟨g, rfl, hgo, k0, k1, k2, k3, k4⟩ := hel n (by omega)
  have tp := top_some w F tb p T X h hn n h0 g hgo
  generalize (T.parts[n]'(by omega)).fn = x at *
  clear h0 h hel k1 k2 k3 k4 hpv hgo hn
  have TP := Lib.hid tp; clear tp
  go_enter Try.func17, Try.ntmps17
  go_wp2_with fail
  refine TP.out.mono ?_
  rintro e w' ⟨rfl, m, rfl⟩
  have k0 := below_cell (below_drewN (Below.refl w.heap.size w) m) k0
  go_wp2_with fail
  go_ret
  exact ⟨rfl, m, rfl⟩
end Go.Proofs.Ytmanoclahcpaoaa
