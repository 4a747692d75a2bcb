import Derived.Test.YthkhgihjigmkoaaGreatCAz
import Derived.Test.YthkhgihjigmkoaaGreatCBv
import Derived.Test.YthkhgihjigmkoaaGreatCAu
import Derived.Test.YthkhgihjigmkoaaGreatCAp
import Derived.Test.YthkhgihjigmkoaaGreatCAa
set_option linter.unusedVariables false
set_option linter.unusedSimpArgs false
namespace Go.Proofs.YthkhgihjigmkoaaGreat.Tk
open Go.ChangeShapes Go.WideShapes Go.ChangeAt Go.RowKit Go.Maps
theorem w10 : wordsN p1 (0 : Nat) = 7 := by decide
theorem w11 : wordsN p1 (1 : Nat) = 7 := by decide
end Go.Proofs.YthkhgihjigmkoaaGreat.Tk
namespace Go.Proofs.YthkhgihjigmkoaaGreat.Tk
open Go.ChangeShapes Go.WideShapes Go.ChangeAt Go.RowKit Go.Maps
theorem singleS (w : World) (sl : Nat) (code : List Ins) (cb co cc : Nat) (hcd : CellsAt w cb co (code.flatMap insE.enc)) (hn : code.length ≤ 1000) :
  Calls Tryz.prog 27 #[.int .i64 sl, .slice (some ⟨cb, co, none⟩) code.length cc] w fun e w' => ∃ a0 n0 m0 a1 m1 a2 m2, ∃ D : Nat → Prop, e = .returned (.agg #[.slice a0 n0 m0, .slice a1 1 m1, .slice a2 1 m2]) ∧ (∀ k, D k → k < w'.heap.size) ∧ PV w' D (qS sl) (.slice a0 n0 m0) (.slice a1 1 m1) (.slice a2 1 m2) ∧ PrgVal w' D (pS sl code) (.slice a0 n0 m0) (.slice a1 1 m1) (.slice a2 1 m2) ∧ Below w.heap.size w w' := by
 refine (single_any w sl code cb co cc hcd hn).mono ?_
 rintro e w' ⟨c0, c1, c2, rfl, hv, hg, hb⟩
 obtain ⟨a0, n0, m0, a1, m1, a2, m2, rfl, rfl, rfl⟩ := hv.three
 exact ⟨a0, n0, m0, a1, m1, a2, m2, _, rfl, fun k hk => hk.2, hv, hg, hb⟩
theorem boxS {w4 : World} {D : Nat → Prop} {sl : Nat} {code : List Ins} {a0 a1 a2 : Option Addr} {n0 m0 m1 m2 : Nat} {tb' : Nat → List (Option (List Int))} (hv : PV w4 D (qS sl) (.slice a0 n0 m0) (.slice a1 1 m1) (.slice a2 1 m2)) (hg : PrgVal w4 D (pS sl code) (.slice a0 n0 m0) (.slice a1 1 m1) (.slice a2 1 m2)) (hD : ∀ k, D k → k < w4.heap.size) (hs : sl ≤ 10) (hB : PrgB (pS sl code) ∧ PrgR (pS sl code)) (ht : TabOk (pS sl code) tb' ∧ (progS (pS sl code)).1 = 0) (W : World) (hW : W = w4.alloc (.cells #[.slice a0 n0 m0, .slice a1 1 m1, .slice a2 1 m2] 27)) :
  (∀ wx, Below W.heap.size W wx → wx.cell? ⟨w4.heap.size, 0, none⟩ = some (.slice a0 n0 m0) ∧ wx.cell? ⟨w4.heap.size, 1, none⟩ = some (.slice a1 1 m1) ∧ wx.cell? ⟨w4.heap.size, 2, none⟩ = some (.slice a2 1 m2) ∧ PrgVal wx D (pS sl code) (.slice a0 n0 m0) (.slice a1 1 m1) (.slice a2 1 m2)) ∧
  (∀ k, D k → k < W.heap.size) ∧ Below w4.heap.size w4 W ∧ Calls Tryz.prog 29 #[.agg #[.slice a0 n0 m0, .slice a1 1 m1, .slice a2 1 m2]] W (BegS W sl code tb') := by
 have hba := (Below.refl w4.heap.size w4).alloc (Nat.le_refl _) (.cells #[.slice a0 n0 m0, .slice a1 1 m1, .slice a2 1 m2] 27)
 have hra := heap_new w4 (.cells #[.slice a0 n0 m0, .slice a1 1 m1, .slice a2 1 m2] 27)
 rw [← hW] at hba hra
 have hg' := hg.fr (Fr.of_below hba (fun _ => False)) (fun _ _ h => h)
 have hD' : ∀ k, D k → k < W.heap.size := fun k hk => Nat.lt_of_lt_of_le (hD k hk) hba.size
 refine ⟨fun wx hw => ?_, hD', hba, beginS W D hD' sl hs code _ _ _ (hv.below hba) hg' hB ht.2 tb' ht.1⟩
 have g1 := (Fr.of_below hw (fun _ => False)).heap hra (fun h => h)
 exact ⟨(row_cell g1 0).1, (row_cell g1 1).1, (row_cell g1 2).1, hg'.fr (Fr.of_below hw (fun _ => False)) (fun _ _ h => h)⟩
end Go.Proofs.YthkhgihjigmkoaaGreat.Tk
