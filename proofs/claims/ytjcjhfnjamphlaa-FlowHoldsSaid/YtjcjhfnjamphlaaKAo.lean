/- Walk: the reference's ReadCode: the instructions of bytes. -/
import Derived.Test.YtjcjhfnjamphlaaKAe
import Derived.Test.YtjcjhfnjamphlaaKAd
import Derived.Test.YtjcjhfnjamphlaaKAf
import Derived.Deep.RegionLaw
import Derived.Deep.RegionHeld3
import Derived.BigRegion
import Derived.Deep.CutBlock
import Derived.Deep.DeepCutAuto
set_option linter.unusedVariables false
set_option linter.unusedSimpArgs false
namespace Go.Proofs.Ytjcjhfnjamphlaa
open Go.ChangeShapes Go.WideShapes Go.ChangeAt Go.RowKit
theorem four_cells {w : World} {q : Nat} {x0 x1 x2 x3 : Value} {t : TypeId} (h : w.heap[q]? = some (.cells #[x0, x1, x2, x3] t)) :
    (w.cell? ⟨q, 0, none⟩ = some x0 ∧ w.cell? ⟨q, 1, none⟩ = some x1 ∧ w.cell? ⟨q, 2, none⟩ = some x2 ∧ w.cell? ⟨q, 3, none⟩ = some x3) ∧ w.frozen? ⟨q, 0, none⟩ = false ∧ w.frozen? ⟨q, 1, none⟩ = false ∧ w.frozen? ⟨q, 2, none⟩ = false ∧ w.frozen? ⟨q, 3, none⟩ = false :=
  ⟨⟨(row_cell h 0).1, (row_cell h 1).1, (row_cell h 2).1, (row_cell h 3).1⟩, (row_cell h 0).2, (row_cell h 1).2, (row_cell h 2).2, (row_cell h 3).2⟩
end Go.Proofs.Ytjcjhfnjamphlaa
