/- Regions that draw their order, whose operations leave what lay below alone (they may make memory): one walk of the text's order. Nothing of the program stands here. -/
import Derived.Test.YtmanoclahcpaoaaMem
import Derived.Deep.QuietTactic
import Derived.BigQuiet
namespace Go.Proofs.Ytmanoclahcpaoaa
open Go.RowKit

/-- the worlds that are as w below w's end -/
def BelowW (w : World) : Type := { W : World // Below w.heap.size w W }
instance (w : World) : Nonempty (BelowW w) := ⟨⟨w, Below.refl _ _⟩⟩
theorem BelowW.cell {w : World} (W : BelowW w) {a : Addr} {v : Value} (h : w.cell? a = some v) : W.val.cell? a = some v := by
  have hlt : a.block < w.heap.size := by
    unfold World.cell? at h
    rcases Nat.lt_or_ge a.block w.heap.size with h' | h'
    · exact h'
    · rw [Array.getElem?_eq_none h'] at h; cases h
  rw [W.2.cell hlt]; exact h
theorem wp_region_below {P : Program} {id : Nat} {Q : Exit → Act → World → Prop} {a : Act} {w : World} {l : List Oper} (hm : P.follows .mixedOrders = true) (hB : Region.lexB .any l.toArray = true)
    (h : wpQuiet P l.toArray (fun w' => ∃ W : BelowW w, w' = W.val) (fun a' => ∀ w', (∃ W : BelowW w, w' = W.val) → Q .normal a' w') l a) : (Code.region id l.toArray true).wp P Q a w :=
  wp_region_quiet (C := fun w' => ∃ W : BelowW w, w' = W.val) hm hB ⟨⟨{ w with drawn := w.drawn + 1 }, (Below.refl w.heap.size w).drew⟩, rfl⟩ (by simpa using h)
theorem Calls.below_of {P : Program} {f : FuncId} {args : Array Value} {w : World} {W : BelowW w} {v : Value}
    (h : Calls P f args W.val fun e w' => e = .returned v ∧ Below W.val.heap.size W.val w') : Calls P f args W.val fun e w'' => e = .returned v ∧ ∃ W' : BelowW w, w'' = W'.val :=
  h.mono fun _ w' ⟨he, hb⟩ => ⟨he, ⟨w', W.2.trans (hb.mono W.2.size)⟩, rfl⟩
theorem Calls.below_same {P : Program} {f : FuncId} {args : Array Value} {w : World} {W : BelowW w} {v : Value}
    (h : Calls P f args W.val fun e w' => e = .returned v ∧ W.val = w') : Calls P f args W.val fun e w'' => e = .returned v ∧ ∃ W' : BelowW w, w'' = W'.val :=
  h.mono fun _ _ ⟨he, hb⟩ => ⟨he, W, hb.symm⟩
end Go.Proofs.Ytmanoclahcpaoaa
