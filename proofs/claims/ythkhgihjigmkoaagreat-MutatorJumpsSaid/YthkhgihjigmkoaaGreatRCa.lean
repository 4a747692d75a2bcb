import Derived.Test.YthkhgihjigmkoaaGreatRBr
set_option linter.unusedVariables false
set_option linter.unusedSimpArgs false
namespace Go.Proofs.YthkhgihjigmkoaaGreat.Tk
open Go.ChangeShapes Go.WideShapes Go.ChangeAt Go.RowKit Go.Maps
def codeJ (x d : Int) : List Ins := [⟨1, 0, x, 0⟩, ⟨10, 0, d, 0⟩, ⟨9, 0, d, 0⟩, ⟨0, 0, 0, 0⟩]
def tJ (d : Nat) (_ : Nat) : List (Option (List Int)) := [some [0], some [1], some [1], if d = 3 then some [1] else none, if d = 3 ∨ d = 4 then some [1] else none]
theorem jmp_tab (x : Int) (d : Nat) (hd : d < 5) : TabOk (pS (1 : Nat) (codeJ x d)) (tJ d) ∧ (progS (pS (1 : Nat) (codeJ x d))).1 = 0 := by
 have hd2 : d = 0 ∨ d = 1 ∨ d = 2 ∨ d = 3 ∨ d = 4 := by omega
 have hk : (solB (pS (1 : Nat) (codeJ x d)) (fnAt (pS (1 : Nat) (codeJ x d)) 0) (tJ d 0) = true ∧ ∃ par, treeB (pS (1 : Nat) (codeJ x d)) (fnAt (pS (1 : Nat) (codeJ x d)) 0) (tJ d 0) par = true) ∧ (flowE (pS (1 : Nat) (codeJ x d)) (fnAt (pS (1 : Nat) (codeJ x d)) 0) (tblF (tJ d 0))).1 = 0 ∧ (progS (pS (1 : Nat) (codeJ x d))).1 = 0 := by
  rcases hd2 with rfl | rfl | rfl | rfl | rfl
  ·exact ⟨⟨by kernel_rfl, [0, 0, 1, 0, 0], by kernel_rfl⟩, by kernel_rfl, by kernel_rfl⟩
  ·exact ⟨⟨by kernel_rfl, [0, 0, 1, 0, 0], by kernel_rfl⟩, by kernel_rfl, by kernel_rfl⟩
  ·exact ⟨⟨by kernel_rfl, [0, 0, 1, 0, 0], by kernel_rfl⟩, by kernel_rfl, by kernel_rfl⟩
  ·exact ⟨⟨by kernel_rfl, [0, 0, 1, 2, 3], by kernel_rfl⟩, by kernel_rfl, by kernel_rfl⟩
  ·exact ⟨⟨by kernel_rfl, [0, 0, 1, 0, 2], by kernel_rfl⟩, by kernel_rfl, by kernel_rfl⟩
 refine ⟨fun i hi => ?_, hk.2.2⟩
 obtain rfl : i = 0 := by have : i < 1 := hi; omega
 obtain ⟨par, hp⟩ := hk.1.2
 refine ⟨isFlow_tbl (par := par) (fun j hj => ?_) hk.1.1 hp, hk.2.1⟩
 have hj : j ∈ codeJ x d ++ [(⟨27, 0, 0, 0⟩ : Ins)] := hj
 simp [codeJ] at hj
 rcases hj with rfl | rfl | rfl | rfl | rfl <;> exact insOk_of _ _ _ _ _ (by decide)
theorem jmp_B (x : Int) (d : Nat) (hx : i64B x) (hd : d < 5) : PrgB (pS (1 : Nat) (codeJ x d)) ∧ PrgR (pS (1 : Nat) (codeJ x d)) := by
 unfold i64B at hx
 unfold PrgB PrgR FunB Ins.wf i64B pS codeJ
 simp
 omega
def jW (x : Int) : List Int := (List.replicate 64 0).set 2 x
theorem jW_len (x : Int) : (jW x).length = 64 := by unfold jW; simp
theorem jStep0 {w : World} {F : Nat → Prop} {tb : Nat} {X : TB} {x : Int} {d : Nat} (hx : wrap32 x = x) (h : TaskAt w F tb (qS (1 : Nat)) (SF (0 : Nat) (List.replicate 64 0)) X) (D : Nat → Prop) (hD : ∀ k, D k → ¬ F k ∧ k < w.heap.size) (c0 c1 c2 : Value) (ma : Option Addr) (hv : PrgVal w D (pS (1 : Nat) (codeJ x d)) c0 c1 c2) :
  Calls Tryz.prog 30 #[.agg #[c0, c1, c2], .pointer ma, .pointer (some ⟨tb, 0, none⟩)] w (RunPost w F tb (qS (1 : Nat)) X (SF (1 : Nat) (jW x)) (actV 0 0 0 0 0 false (.slice none 0 0))) := by
 refine stepS h D hD (codeJ x d) c0 c1 c2 ma hv ⟨1, 0, x, 0⟩ rfl _ 0 0 0 0 0 false none 0 0 (fun wr hw => ?_)
 have := runSetS (h.below hw) (List.length_replicate ..) (by omega) (by omega) 0 (by omega) c0 c1 c2 (.pointer ma) x 0
 rw [hx] at this
 exact this
theorem jStep1 {w : World} {F : Nat → Prop} {tb : Nat} {X : TB} {x : Int} {d : Nat} (h : TaskAt w F tb (qS (1 : Nat)) (SF (1 : Nat) (jW x)) X) (D : Nat → Prop) (hD : ∀ k, D k → ¬ F k ∧ k < w.heap.size) (c0 c1 c2 : Value) (ma : Option Addr) (hv : PrgVal w D (pS (1 : Nat) (codeJ x d)) c0 c1 c2) :
  Calls Tryz.prog 30 #[.agg #[c0, c1, c2], .pointer ma, .pointer (some ⟨tb, 0, none⟩)] w (RunPost w F tb (qS (1 : Nat)) X (SF (if x = 0 then 2 else d : Nat) (jW x)) (actV 0 0 0 0 0 false (.slice none 0 0))) := by
 refine stepS h D hD (codeJ x d) c0 c1 c2 ma hv ⟨10, 0, d, 0⟩ rfl _ 0 0 0 0 0 false none 0 0 (fun wr hw => ?_)
 by_cases h0 : x = 0
 ·rw [if_pos h0]
  exact runIfNoS (h.below hw) (jW_len x) (by omega) (by omega) 0 (by omega) (by rw [h0]; rfl) c0 c1 c2 (.pointer ma) d 0
 ·rw [if_neg h0]
  exact runIfYesS (h.below hw) (jW_len x) (by omega) (by omega) 0 (by omega) x rfl h0 c0 c1 c2 (.pointer ma) d 0
theorem jStep2 {w : World} {F : Nat → Prop} {tb : Nat} {X : TB} {x : Int} {d : Nat} (h : TaskAt w F tb (qS (1 : Nat)) (SF (2 : Nat) (jW x)) X) (D : Nat → Prop) (hD : ∀ k, D k → ¬ F k ∧ k < w.heap.size) (c0 c1 c2 : Value) (ma : Option Addr) (hv : PrgVal w D (pS (1 : Nat) (codeJ x d)) c0 c1 c2) :
  Calls Tryz.prog 30 #[.agg #[c0, c1, c2], .pointer ma, .pointer (some ⟨tb, 0, none⟩)] w (RunPost w F tb (qS (1 : Nat)) X (SF (d : Nat) (jW x)) (actV 0 0 0 0 0 false (.slice none 0 0))) := by
 refine stepS h D hD (codeJ x d) c0 c1 c2 ma hv ⟨9, 0, d, 0⟩ rfl _ 0 0 0 0 0 false none 0 0 (fun wr hw => ?_)
 exact runJumpS (h.below hw) (jW_len x) (by omega) c0 c1 c2 (.pointer ma) 0 d 0
end Go.Proofs.YthkhgihjigmkoaaGreat.Tk
