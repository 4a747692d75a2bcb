import Derived.Test.YtjcjhfnjamphlaaGreatZAh
set_option linter.unusedVariables false
set_option linter.unusedSimpArgs false
namespace Go.Proofs.YtjcjhfnjamphlaaGreat
open Go.ChangeShapes Go.WideShapes Go.ChangeAt Go.RowKit
set_option maxRecDepth 100000 in
theorem noStillPairs (w : World) (p : Nat) (q0 : w.cell? ⟨p, 4, none⟩ = some (.slice none 0 0)) :
  Calls Tryz.prog 32 #[.pointer (some ⟨p, 0, none⟩)] w fun e w' => e = .returned (.bool true) ∧ w' = w := by
 go_enter Tryz.func32, Tryz.ntmps32
 go_wp2_with fail
 go_loopw [3] (fun i wr => i = .int .i64 0 ∧ wr = w) (fun i _ => 0)
 case atStart => exact ⟨rfl, rfl⟩
 case round =>
  obtain ⟨rfl, rfl⟩ := hrel
  go_wp2_with fail
  go_ret
  exact ⟨rfl, rfl⟩
set_option maxRecDepth 100000 in
theorem noPutPairs (w : World) (p : Nat) (q0 : w.cell? ⟨p, 4, none⟩ = some (.slice none 0 0)) :
  Calls Tryz.prog 38 #[.pointer (some ⟨p, 0, none⟩)] w fun e w' => e = .returned (.tuple #[]) ∧ w' = w := by
 go_enter Tryz.func38, Tryz.ntmps38
 go_wp2_with fail
 go_loopw [2] (fun i wr => i = .int .i64 0 ∧ wr = w) (fun i _ => 0)
 case atStart => exact ⟨rfl, rfl⟩
 case round =>
  obtain ⟨rfl, rfl⟩ := hrel
  go_wp2_with fail
  go_end0
  exact ⟨rfl, rfl⟩
set_option maxRecDepth 100000 in
theorem noGrowPairs (w : World) (p : Nat) (q0 : w.cell? ⟨p, 4, none⟩ = some (.slice none 0 0)) :
  Calls Tryz.prog 42 #[.pointer (some ⟨p, 0, none⟩)] w fun e w' => e = .returned (.slice none 0 0) ∧ w' = w := by
 go_enter Tryz.func42, Tryz.ntmps42
 go_wp2_with fail
 go_loopw [3, 4] (fun v i wr => v = .slice none 0 0 ∧ i = .int .i64 0 ∧ wr = w) (fun _ i _ => 0)
 case atStart => exact ⟨rfl, rfl, rfl⟩
 case round =>
  obtain ⟨rfl, rfl, rfl⟩ := hrel
  go_wp2_with fail
  go_ret
  exact ⟨rfl, rfl⟩
set_option maxRecDepth 100000 in
theorem noMarkedPairs (w : World) :
  Calls Tryz.prog 47 #[.slice none 0 0] w fun e w' => e = .returned (.bool true) ∧ w' = w := by
 go_enter Tryz.func47, Tryz.ntmps47
 go_wp2_with fail
 go_loopw [3] (fun i wr => i = .int .i64 0 ∧ wr = w) (fun i _ => 0)
 case atStart => exact ⟨rfl, rfl⟩
 case round =>
  obtain ⟨rfl, rfl⟩ := hrel
  go_wp2_with fail
  go_ret
  exact ⟨rfl, rfl⟩
set_option maxRecDepth 100000 in
theorem noStillEntries (w : World) (p : Nat) (q0 : w.cell? ⟨p, 6, none⟩ = some (.slice none 0 0)) :
  Calls Tryz.prog 33 #[.pointer (some ⟨p, 0, none⟩)] w fun e w' => e = .returned (.bool true) ∧ w' = w := by
 go_enter Tryz.func33, Tryz.ntmps33
 go_wp2_with fail
 go_loopw [3] (fun i wr => i = .int .i64 0 ∧ wr = w) (fun i _ => 0)
 case atStart => exact ⟨rfl, rfl⟩
 case round =>
  obtain ⟨rfl, rfl⟩ := hrel
  go_wp2_with fail
  go_ret
  exact ⟨rfl, rfl⟩
set_option maxRecDepth 100000 in
theorem noPutEntries (w : World) (p : Nat) (q0 : w.cell? ⟨p, 6, none⟩ = some (.slice none 0 0)) :
  Calls Tryz.prog 39 #[.pointer (some ⟨p, 0, none⟩)] w fun e w' => e = .returned (.tuple #[]) ∧ w' = w := by
 go_enter Tryz.func39, Tryz.ntmps39
 go_wp2_with fail
 go_loopw [2] (fun i wr => i = .int .i64 0 ∧ wr = w) (fun i _ => 0)
 case atStart => exact ⟨rfl, rfl⟩
 case round =>
  obtain ⟨rfl, rfl⟩ := hrel
  go_wp2_with fail
  go_end0
  exact ⟨rfl, rfl⟩
set_option maxRecDepth 100000 in
theorem noGrowEntries (w : World) (p : Nat) (q0 : w.cell? ⟨p, 6, none⟩ = some (.slice none 0 0)) :
  Calls Tryz.prog 43 #[.pointer (some ⟨p, 0, none⟩)] w fun e w' => e = .returned (.slice none 0 0) ∧ w' = w := by
 go_enter Tryz.func43, Tryz.ntmps43
 go_wp2_with fail
 go_loopw [3, 4] (fun v i wr => v = .slice none 0 0 ∧ i = .int .i64 0 ∧ wr = w) (fun _ i _ => 0)
 case atStart => exact ⟨rfl, rfl, rfl⟩
 case round =>
  obtain ⟨rfl, rfl, rfl⟩ := hrel
  go_wp2_with fail
  go_ret
  exact ⟨rfl, rfl⟩
set_option maxRecDepth 100000 in
theorem noMarkedEntries (w : World) :
  Calls Tryz.prog 48 #[.slice none 0 0] w fun e w' => e = .returned (.bool true) ∧ w' = w := by
 go_enter Tryz.func48, Tryz.ntmps48
 go_wp2_with fail
 go_loopw [3] (fun i wr => i = .int .i64 0 ∧ wr = w) (fun i _ => 0)
 case atStart => exact ⟨rfl, rfl⟩
 case round =>
  obtain ⟨rfl, rfl⟩ := hrel
  go_wp2_with fail
  go_ret
  exact ⟨rfl, rfl⟩
set_option maxRecDepth 100000 in
theorem noStillObjects (w : World) (p : Nat) (q0 : w.cell? ⟨p, 8, none⟩ = some (.slice none 0 0)) :
  Calls Tryz.prog 34 #[.pointer (some ⟨p, 0, none⟩)] w fun e w' => e = .returned (.bool true) ∧ w' = w := by
 go_enter Tryz.func34, Tryz.ntmps34
 go_wp2_with fail
 go_loopw [3] (fun i wr => i = .int .i64 0 ∧ wr = w) (fun i _ => 0)
 case atStart => exact ⟨rfl, rfl⟩
 case round =>
  obtain ⟨rfl, rfl⟩ := hrel
  go_wp2_with fail
  go_ret
  exact ⟨rfl, rfl⟩
set_option maxRecDepth 100000 in
theorem noPutObjects (w : World) (p : Nat) (q0 : w.cell? ⟨p, 8, none⟩ = some (.slice none 0 0)) :
  Calls Tryz.prog 35 #[.pointer (some ⟨p, 0, none⟩)] w fun e w' => e = .returned (.tuple #[]) ∧ w' = w := by
 go_enter Tryz.func35, Tryz.ntmps35
 go_wp2_with fail
 go_loopw [2] (fun i wr => i = .int .i64 0 ∧ wr = w) (fun i _ => 0)
 case atStart => exact ⟨rfl, rfl⟩
 case round =>
  obtain ⟨rfl, rfl⟩ := hrel
  go_wp2_with fail
  go_end0
  exact ⟨rfl, rfl⟩
set_option maxRecDepth 100000 in
theorem noGrowObjects (w : World) (p : Nat) (q0 : w.cell? ⟨p, 8, none⟩ = some (.slice none 0 0)) :
  Calls Tryz.prog 44 #[.pointer (some ⟨p, 0, none⟩)] w fun e w' => e = .returned (.slice none 0 0) ∧ w' = w := by
 go_enter Tryz.func44, Tryz.ntmps44
 go_wp2_with fail
 go_loopw [3, 4] (fun v i wr => v = .slice none 0 0 ∧ i = .int .i64 0 ∧ wr = w) (fun _ i _ => 0)
 case atStart => exact ⟨rfl, rfl, rfl⟩
 case round =>
  obtain ⟨rfl, rfl, rfl⟩ := hrel
  go_wp2_with fail
  go_ret
  exact ⟨rfl, rfl⟩
set_option maxRecDepth 100000 in
theorem noMarkedObjects (w : World) :
  Calls Tryz.prog 49 #[.slice none 0 0] w fun e w' => e = .returned (.bool true) ∧ w' = w := by
 go_enter Tryz.func49, Tryz.ntmps49
 go_wp2_with fail
 go_loopw [3] (fun i wr => i = .int .i64 0 ∧ wr = w) (fun i _ => 0)
 case atStart => exact ⟨rfl, rfl⟩
 case round =>
  obtain ⟨rfl, rfl⟩ := hrel
  go_wp2_with fail
  go_ret
  exact ⟨rfl, rfl⟩
def Bk (w : World) (p : Nat) (cs : Array Value) : Prop := w.heap[p]? = some (.cells cs 45)
theorem Bk.cell {w : World} {p : Nat} {cs : Array Value} (h : Bk w p cs) (j : Nat) : w.cell? ⟨p, j, none⟩ = cs[j]? := (row_cell h j).1
theorem Bk.frozen {w : World} {p : Nat} {cs : Array Value} (h : Bk w p cs) (j : Nat) : w.frozen? ⟨p, j, none⟩ = false := (row_cell h j).2
theorem Fam.snoc {α : Type} {E : Elem Tryz.prog α} {HE : Elem Tryz.prog Hd} {w w' : World} {B : Nat} {X : Nat → Prop} {v v' : Value} {hs : List Hd} {ls : List (List α)} (h : Fam E HE w B X v hs ls) {x : Hd} {l : List α} (hx : Own E w B x.val l) (hxX : ∀ k, x.val.ownBlock = some k → ¬ X k)
  (hXw : ∀ k, X k → k < w.heap.size) (ho : Own HE w' B v' (hs ++ [x])) (hg : w.grownBy w' v.ownBlock) (hf : Fresh w v v') : Fam E HE w' B (fun k => X k ∨ x.val.ownBlock = some k ∨ v'.ownBlock = some k) v' (hs ++ [x]) (ls ++ [l]) := by
 have hfr : Fr (fun k => v.ownBlock = some k) w w' := (Fr.refl _ _).grown hg (fun k hk _ => hk)
 have hxv : ∀ k, x.val.ownBlock = some k → v.ownBlock ≠ some k := fun k hk e => hxX k hk (h.row k e)
 have hmem : ∀ j (hj : j < hs.length) k, hs[j].val.ownBlock = some k → v'.ownBlock ≠ some k := fun j hj k hk e => by
  rcases hf k e with h5 | h5
  ·exact (h.mem j hj k hk).2 h5
  ·have := hXw k (h.mem j hj k hk).1; omega
 refine ⟨ho, by simp [h.len], fun j hj hj' => ?_, fun i j hi hj hij k hk e => ?_, fun k hk => .inr (.inr hk), fun j hj k hk => ?_⟩
 ·rcases snoc_get hs x j hj with ⟨h5, h6⟩ | ⟨h5, h6⟩
  ·rcases snoc_get ls l j hj' with ⟨h7, h8⟩ | ⟨h7, h8⟩
   ·rw [h6, h8]; exact (h.each j h5 h7).fr hfr (fun k hk => (h.mem j h5 k hk).2)
   ·have := h.len; omega
  ·rcases snoc_get ls l j hj' with ⟨h7, h8⟩ | ⟨h7, h8⟩
   ·have := h.len; omega
   ·rw [h6, h8]; exact hx.fr hfr hxv
 ·rcases snoc_get hs x i hi with ⟨h5, h6⟩ | ⟨h5, h6⟩
  ·rcases snoc_get hs x j hj with ⟨h7, h8⟩ | ⟨h7, h8⟩
   ·rw [h6] at hk; rw [h8] at e; exact h.apart i j h5 h7 hij k hk e
   ·rw [h6] at hk; rw [h8] at e; exact hxX k e (h.mem i h5 k hk).1
  ·rcases snoc_get hs x j hj with ⟨h7, h8⟩ | ⟨h7, h8⟩
   ·rw [h6] at hk; rw [h8] at e; exact hxX k hk (h.mem j h7 k e).1
   ·omega
 ·rcases snoc_get hs x j hj with ⟨h5, h6⟩ | ⟨h5, h6⟩
  ·rw [h6] at hk; exact ⟨.inl (h.mem j h5 k hk).1, hmem j h5 k hk⟩
  ·rw [h6] at hk
   refine ⟨.inr (.inl hk), fun e => ?_⟩
   rcases hf k e with h7 | h7
   ·exact hxv k hk h7
   ·have := (hx.lt hk).2; omega
end Go.Proofs.YtjcjhfnjamphlaaGreat
