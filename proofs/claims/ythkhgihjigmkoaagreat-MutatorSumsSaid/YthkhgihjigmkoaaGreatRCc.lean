import Derived.Test.YthkhgihjigmkoaaGreatRBp
import Derived.Test.YthkhgihjigmkoaaGreatRCb
set_option linter.unusedVariables false
set_option linter.unusedSimpArgs false
namespace Go.Proofs.YthkhgihjigmkoaaGreat.Tk
open Go.ChangeShapes Go.WideShapes Go.ChangeAt Go.RowKit Go.Maps
theorem runDoS {w : World} {F : Nat → Prop} {tb sl : Nat} {X : TB} {pc : Nat} {ws : List Int} (h : TaskAt w F tb (qS sl) (SF pc ws) X) (hl : ws.length = 64) (hs : sl ≤ 10) (hpc : pc ≤ 1000) (op : Int) (ho : 3 ≤ op ∧ op ≤ 8) (sa sb sc : Nat) (ha : sa < sl) (hb : sb < sl) (hc : sc < sl) (x y : Int) (hx : ws[2 + sb]? = some x) (hy : ws[2 + sc]? = some y) (c0 c1 c2 mp : Value) :
  Calls Tryz.prog 69 #[.agg (stepV c0 c1 c2 mp tb op sa sb sc)] w (RunPost w F tb (qS sl) X (SF ((pc + 1 : Nat) : Int) (ws.set (2 + sa) (doV op x y).1)) (actV 0 0 0 0 0 false (.slice none 0 0))) := by
 have ho2 : op = 3 ∨ op = 4 ∨ op = 5 ∨ op = 6 ∨ op = 7 ∨ op = 8 := by omega
 have f1 : (sa : Int) < ((sl : Nat) : Int) ∧ (sb : Int) < ((sl : Nat) : Int) ∧ (sc : Int) < ((sl : Nat) : Int) := by omega
 have f2 : 0 + (2 + sa) < ws.length ∧ 0 + (2 + sb) < ws.length ∧ 0 + (2 + sc) < ws.length := by omega
 have f3 : (0 : Int) ≤ (pc : Int) ∧ (pc : Int) ≤ 100000 := by omega
 have hx' : (SF pc ws).words[0 + (2 + sb)]? = some x := by rw [Nat.zero_add]; exact hx
 have hy' : (SF pc ws).words[0 + (2 + sc)]? = some y := by rw [Nat.zero_add]; exact hy
 rcases ho2 with rfl | rfl | rfl | rfl | rfl | rfl
 ·have rs := run_do3 w F tb (qS sl) (SF pc ws) X h (SF_ok pc ws hl) [] ⟨0, pc, 0, -1, none, 0, 0⟩ rfl f3 0 (by show 0 < 1; decide) rfl 0 rfl sa sb sc f1 (by omega) f2 x y hx' hy' c0 c1 c2 mp
  rw [Nat.zero_add] at rs
  exact rs
 ·have rs := run_do4 w F tb (qS sl) (SF pc ws) X h (SF_ok pc ws hl) [] ⟨0, pc, 0, -1, none, 0, 0⟩ rfl f3 0 (by show 0 < 1; decide) rfl 0 rfl sa sb sc f1 (by omega) f2 x y hx' hy' c0 c1 c2 mp
  rw [Nat.zero_add] at rs
  exact rs
 ·have rs := run_do5 w F tb (qS sl) (SF pc ws) X h (SF_ok pc ws hl) [] ⟨0, pc, 0, -1, none, 0, 0⟩ rfl f3 0 (by show 0 < 1; decide) rfl 0 rfl sa sb sc f1 (by omega) f2 x y hx' hy' c0 c1 c2 mp
  rw [Nat.zero_add] at rs
  exact rs
 ·have rs := run_do6 w F tb (qS sl) (SF pc ws) X h (SF_ok pc ws hl) [] ⟨0, pc, 0, -1, none, 0, 0⟩ rfl f3 0 (by show 0 < 1; decide) rfl 0 rfl sa sb sc f1 (by omega) f2 x y hx' hy' c0 c1 c2 mp
  rw [Nat.zero_add] at rs
  exact rs
 ·have rs := run_do7 w F tb (qS sl) (SF pc ws) X h (SF_ok pc ws hl) [] ⟨0, pc, 0, -1, none, 0, 0⟩ rfl f3 0 (by show 0 < 1; decide) rfl 0 rfl sa sb sc f1 (by omega) f2 x y hx' hy' c0 c1 c2 mp
  rw [Nat.zero_add] at rs
  exact rs
 ·have rs := run_do8 w F tb (qS sl) (SF pc ws) X h (SF_ok pc ws hl) [] ⟨0, pc, 0, -1, none, 0, 0⟩ rfl f3 0 (by show 0 < 1; decide) rfl 0 rfl sa sb sc f1 (by omega) f2 x y hx' hy' c0 c1 c2 mp
  rw [Nat.zero_add] at rs
  exact rs
end Go.Proofs.YthkhgihjigmkoaaGreat.Tk
