/-
  No cell of these rows narrows 'for every input' (looked for: loops, veiled, ifaces, maps, wideKeys, modest, calm, conditions, laid).
  DERIVED. THE GIVEN ROWS OF THIS SEAT. 4 by the template 'for every input the law returns true; each argument reads behind the call as it read before'; 0 by the template 'total and deterministic' (their statements: YtjcjhfnjamphlaaTotals.lean).
  GIVEN WITH THE SEED: the statements are not yours to turn. If you find one false, say at which input.
  Laid BY PROGRAM, IN A SANDBOX (cutbox-rows.mjs): the forced cells as the released guide's own fill.sh prints them over the translation 8a715fb3f9b86451… (all of the seat's roots in one cut). By AI agents, Wed Nov 11 2026. No macro, syntax, notation, axiom, sorry.
-/
import Derived.Test.YtjcjhfnjamphlaaChecked
import GoSem.Claim
import GoSem.ClaimJoined
import GoSem.ClaimMapViews
import Derived.JoinedTies
import Derived.KernelRfl
namespace Go.Proofs.Ytjcjhfnjamphlaa
/- THE CELL 'sum', in the pinned program and in every row, IS THE sha256 OF THE DUMP (.gsa) THAT YtjcjhfnjamphlaaProg.lean LOADS. Nothing in Lean hashes anything: it is a label: what it is worth is what the hold of that sum in a sandbox is worth. -/
noncomputable def Try.pinned : Pinned := { name := "ytjcjhfnjamphlaa", sum := "8a715fb3f9b86451cfcda72a5dc5c163e6fbbf18b3a400b751f3eb5427461231", checked := Try.checked }
namespace Rows
def none {H : Type} : Left H := { results := [], args := [] }

/-- 'besomlaw12.FlowSteps': WHATEVER THE INPUT: true; the input reads as it did. -/
def flowStepsSpec : ChangeSpec := { name := "flowSteps", fn := fun _ => fun
  | [d1, d2, d3, d4, d5] => { results := [.lit (.bool true)], args := [d1, d2, d3, d4, d5] }
  | _ => none }
def flowStepsRow : OpenClaim := { program := "ytjcjhfnjamphlaa", sum := "8a715fb3f9b86451cfcda72a5dc5c163e6fbbf18b3a400b751f3eb5427461231", func := "besom/besomlaw12.FlowSteps", spec := "flowSteps", unfollowed := true, recurses := true, plainKeys := false, apart := false }
def FlowStepsSaid : Prop := flowStepsRow.holds Try.pinned (OpenSpec.ofChange flowStepsSpec)

/-- ITS FALSE NEIGHBOUR: 'it returns false'. Refute it at one input. -/
def flowStepsWrong : ChangeSpec := { name := "flowSteps", fn := fun _ => fun
  | [d1, d2, d3, d4, d5] => { results := [.lit (.bool false)], args := [d1, d2, d3, d4, d5] }
  | _ => none }
def FlowStepsWrongFalsely : Prop := flowStepsRow.holds Try.pinned (OpenSpec.ofChange flowStepsWrong)

/-- 'besomlaw12.FlowHolds': WHATEVER THE INPUT: true; the input reads as it did. -/
def flowHoldsSpec : ChangeSpec := { name := "flowHolds", fn := fun _ => fun
  | [d] => { results := [.lit (.bool true)], args := [d] }
  | _ => none }
def flowHoldsRow : OpenClaim := { program := "ytjcjhfnjamphlaa", sum := "8a715fb3f9b86451cfcda72a5dc5c163e6fbbf18b3a400b751f3eb5427461231", func := "besom/besomlaw12.FlowHolds", spec := "flowHolds", unfollowed := true, recurses := true, plainKeys := false, apart := false }
def FlowHoldsSaid : Prop := flowHoldsRow.holds Try.pinned (OpenSpec.ofChange flowHoldsSpec)

/-- ITS FALSE NEIGHBOUR: 'it returns false'. Refute it at one input. -/
def flowHoldsWrong : ChangeSpec := { name := "flowHolds", fn := fun _ => fun
  | [d] => { results := [.lit (.bool false)], args := [d] }
  | _ => none }
def FlowHoldsWrongFalsely : Prop := flowHoldsRow.holds Try.pinned (OpenSpec.ofChange flowHoldsWrong)

/-- 'besomlaw12.FlowJoins': WHATEVER THE INPUT: true; the input reads as it did. -/
def flowJoinsSpec : ChangeSpec := { name := "flowJoins", fn := fun _ => fun
  | [d1, d2, d3] => { results := [.lit (.bool true)], args := [d1, d2, d3] }
  | _ => none }
def flowJoinsRow : OpenClaim := { program := "ytjcjhfnjamphlaa", sum := "8a715fb3f9b86451cfcda72a5dc5c163e6fbbf18b3a400b751f3eb5427461231", func := "besom/besomlaw12.FlowJoins", spec := "flowJoins", unfollowed := true, recurses := true, plainKeys := false, apart := false }
def FlowJoinsSaid : Prop := flowJoinsRow.holds Try.pinned (OpenSpec.ofChange flowJoinsSpec)

/-- ITS FALSE NEIGHBOUR: 'it returns false'. Refute it at one input. -/
def flowJoinsWrong : ChangeSpec := { name := "flowJoins", fn := fun _ => fun
  | [d1, d2, d3] => { results := [.lit (.bool false)], args := [d1, d2, d3] }
  | _ => none }
def FlowJoinsWrongFalsely : Prop := flowJoinsRow.holds Try.pinned (OpenSpec.ofChange flowJoinsWrong)

/-- 'besomlaw12.FlowReaches': WHATEVER THE INPUT: true; the input reads as it did. -/
def flowReachesSpec : ChangeSpec := { name := "flowReaches", fn := fun _ => fun
  | [d] => { results := [.lit (.bool true)], args := [d] }
  | _ => none }
def flowReachesRow : OpenClaim := { program := "ytjcjhfnjamphlaa", sum := "8a715fb3f9b86451cfcda72a5dc5c163e6fbbf18b3a400b751f3eb5427461231", func := "besom/besomlaw12.FlowReaches", spec := "flowReaches", unfollowed := true, recurses := true, plainKeys := false, apart := false }
def FlowReachesSaid : Prop := flowReachesRow.holds Try.pinned (OpenSpec.ofChange flowReachesSpec)

/-- ITS FALSE NEIGHBOUR: 'it returns false'. Refute it at one input. -/
def flowReachesWrong : ChangeSpec := { name := "flowReaches", fn := fun _ => fun
  | [d] => { results := [.lit (.bool false)], args := [d] }
  | _ => none }
def FlowReachesWrongFalsely : Prop := flowReachesRow.holds Try.pinned (OpenSpec.ofChange flowReachesWrong)

/- THE SECOND FORM. 'bulk': how many values and letters a reading holds, each counted each time it is reached (what is shared counts as often as it is met; a slice's spare places count too). A statement '..UptoSaid' is the law's where the arguments, and the package variables that the reading takes, are together of bulk at most 1048576: NARROWER than '..Said'. Prove '..Said' where nothing that the law and all that it calls make is longer than what came in: it says more and counts as full. Else prove '..UptoSaid'. A law counts once. -/
mutual
def uptoBulk {H : Type} : DataW H → Nat
  | .lit (.string bytes) => bytes.length + 1
  | .lit _ => 1
  | .nil => 1
  | .ptr d => uptoBulk d + 1
  | .slice elems spare => uptoBulkAll elems + uptoBulkAll spare + 1
  | .agg parts => uptoBulkAll parts + 1
  | .iface _ d => uptoBulk d + 1
  | .map entries => uptoBulkEntries entries + 1
  | .held _ => 1
def uptoBulkAll {H : Type} : List (DataW H) → Nat
  | [] => 0
  | d :: r => uptoBulk d + uptoBulkAll r
def uptoBulkEntries {H : Type} : List (Lit × DataW H) → Nat
  | [] => 0
  | x :: r => uptoBulkEntry x + uptoBulkEntries r
def uptoBulkEntry {H : Type} : Lit × DataW H → Nat
  | (.string bytes, d) => bytes.length + uptoBulk d + 1
  | (_, d) => uptoBulk d + 1
 end
def uptoSmall : (H : Type) → List (DataW H) → Bool := fun _ ds => decide (uptoBulkAll ds ≤ 1048576)
def OpenSpec.upto (s : _root_.Go.ChangeSpec) : _root_.Go.OpenSpec := { _root_.Go.OpenSpec.ofChange s with cond := some uptoSmall }

/-- 'besomlaw12.FlowSteps', WHERE WHAT IT READS IS OF BULK AT MOST 1048576: true; the input reads as it did. -/
def flowStepsUptoRow : OpenClaim := { program := "ytjcjhfnjamphlaa", sum := "8a715fb3f9b86451cfcda72a5dc5c163e6fbbf18b3a400b751f3eb5427461231", func := "besom/besomlaw12.FlowSteps", spec := "flowSteps", unfollowed := true, recurses := true, plainKeys := false, apart := false, narrowed := true }
def FlowStepsUptoSaid : Prop := flowStepsUptoRow.holds Try.pinned (OpenSpec.upto flowStepsSpec)

/-- 'besomlaw12.FlowHolds', WHERE WHAT IT READS IS OF BULK AT MOST 1048576: true; the input reads as it did. -/
def flowHoldsUptoRow : OpenClaim := { program := "ytjcjhfnjamphlaa", sum := "8a715fb3f9b86451cfcda72a5dc5c163e6fbbf18b3a400b751f3eb5427461231", func := "besom/besomlaw12.FlowHolds", spec := "flowHolds", unfollowed := true, recurses := true, plainKeys := false, apart := false, narrowed := true }
def FlowHoldsUptoSaid : Prop := flowHoldsUptoRow.holds Try.pinned (OpenSpec.upto flowHoldsSpec)

/-- 'besomlaw12.FlowJoins', WHERE WHAT IT READS IS OF BULK AT MOST 1048576: true; the input reads as it did. -/
def flowJoinsUptoRow : OpenClaim := { program := "ytjcjhfnjamphlaa", sum := "8a715fb3f9b86451cfcda72a5dc5c163e6fbbf18b3a400b751f3eb5427461231", func := "besom/besomlaw12.FlowJoins", spec := "flowJoins", unfollowed := true, recurses := true, plainKeys := false, apart := false, narrowed := true }
def FlowJoinsUptoSaid : Prop := flowJoinsUptoRow.holds Try.pinned (OpenSpec.upto flowJoinsSpec)

/-- 'besomlaw12.FlowReaches', WHERE WHAT IT READS IS OF BULK AT MOST 1048576: true; the input reads as it did. -/
def flowReachesUptoRow : OpenClaim := { program := "ytjcjhfnjamphlaa", sum := "8a715fb3f9b86451cfcda72a5dc5c163e6fbbf18b3a400b751f3eb5427461231", func := "besom/besomlaw12.FlowReaches", spec := "flowReaches", unfollowed := true, recurses := true, plainKeys := false, apart := false, narrowed := true }
def FlowReachesUptoSaid : Prop := flowReachesUptoRow.holds Try.pinned (OpenSpec.upto flowReachesSpec)

end Rows
end Go.Proofs.Ytjcjhfnjamphlaa
