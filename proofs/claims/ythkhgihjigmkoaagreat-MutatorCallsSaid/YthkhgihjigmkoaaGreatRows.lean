/-
  No cell of these rows narrows 'for every input' (looked for: loops, veiled, ifaces, maps, wideKeys, modest, calm, conditions, laid).
  DERIVED. THE GIVEN ROWS OF THIS SEAT. 7 by the template 'for every input the law returns true; each argument reads behind the call as it read before'; 0 by the template 'total and deterministic' (their statements: YthkhgihjigmkoaaGreatTotals.lean).
  GIVEN WITH THE SEED: the statements are not yours to turn. If you find one false, say at which input.
  Laid BY PROGRAM, IN A SANDBOX (cutbox-rows.mjs): the forced cells as the released guide's own fill.sh prints them over the translation 1fc67eef22291b85… (all of the seat's roots in one cut). By AI agents, Wed Nov 11 2026. No macro, syntax, notation, axiom, sorry.
-/
import Derived.Test.YthkhgihjigmkoaaGreatChecked
import GoSem.Claim
import GoSem.ClaimJoined
import GoSem.ClaimMapViews
import Derived.JoinedTies
import Derived.KernelRfl
namespace Go.Proofs.YthkhgihjigmkoaaGreat
/- THE CELL 'sum', in the pinned program and in every row, IS THE sha256 OF THE DUMP (.gsa) THAT YthkhgihjigmkoaaGreatProg.lean LOADS. Nothing in Lean hashes anything: it is a label: what it is worth is what the hold of that sum in a sandbox is worth. -/
noncomputable def Tryz.pinned : Pinned := { name := "ythkhgihjigmkoaagreat", sum := "1fc67eef22291b859cd8d10d5ba605e391f1e200629cd12413480a6aecdae268", checked := Tryz.checked }
namespace Rows
def none {H : Type} : Left H := { results := [], args := [] }

/-- 'besomlaw16.TaskMoves': WHATEVER THE INPUT: true; the input reads as it did. -/
def taskMovesSpec : ChangeSpec := { name := "taskMoves", fn := fun _ => fun
  | [d1, d2, d3, d4] => { results := [.lit (.bool true)], args := [d1, d2, d3, d4] }
  | _ => none }
def taskMovesRow : OpenClaim := { program := "ythkhgihjigmkoaagreat", sum := "1fc67eef22291b859cd8d10d5ba605e391f1e200629cd12413480a6aecdae268", func := "besom/besomlaw16.TaskMoves", spec := "taskMoves", unfollowed := true, recurses := true, plainKeys := false, apart := false }
def TaskMovesSaid : Prop := taskMovesRow.holds Tryz.pinned (OpenSpec.ofChange taskMovesSpec)

/-- ITS FALSE NEIGHBOUR: 'it returns false'. Refute it at one input. -/
def taskMovesWrong : ChangeSpec := { name := "taskMoves", fn := fun _ => fun
  | [d1, d2, d3, d4] => { results := [.lit (.bool false)], args := [d1, d2, d3, d4] }
  | _ => none }
def TaskMovesWrongFalsely : Prop := taskMovesRow.holds Tryz.pinned (OpenSpec.ofChange taskMovesWrong)

/-- 'besomlaw23.MutatorSums': WHATEVER THE INPUT: true; the input reads as it did. -/
def mutatorSumsSpec : ChangeSpec := { name := "mutatorSums", fn := fun _ => fun
  | [d1, d2, d3, d4] => { results := [.lit (.bool true)], args := [d1, d2, d3, d4] }
  | _ => none }
def mutatorSumsRow : OpenClaim := { program := "ythkhgihjigmkoaagreat", sum := "1fc67eef22291b859cd8d10d5ba605e391f1e200629cd12413480a6aecdae268", func := "besom/besomlaw23.MutatorSums", spec := "mutatorSums", unfollowed := true, recurses := true, plainKeys := false, apart := false }
def MutatorSumsSaid : Prop := mutatorSumsRow.holds Tryz.pinned (OpenSpec.ofChange mutatorSumsSpec)

/-- ITS FALSE NEIGHBOUR: 'it returns false'. Refute it at one input. -/
def mutatorSumsWrong : ChangeSpec := { name := "mutatorSums", fn := fun _ => fun
  | [d1, d2, d3, d4] => { results := [.lit (.bool false)], args := [d1, d2, d3, d4] }
  | _ => none }
def MutatorSumsWrongFalsely : Prop := mutatorSumsRow.holds Tryz.pinned (OpenSpec.ofChange mutatorSumsWrong)

/-- 'besomlaw23.MutatorJumps': WHATEVER THE INPUT: true; the input reads as it did. -/
def mutatorJumpsSpec : ChangeSpec := { name := "mutatorJumps", fn := fun _ => fun
  | [d1, d2] => { results := [.lit (.bool true)], args := [d1, d2] }
  | _ => none }
def mutatorJumpsRow : OpenClaim := { program := "ythkhgihjigmkoaagreat", sum := "1fc67eef22291b859cd8d10d5ba605e391f1e200629cd12413480a6aecdae268", func := "besom/besomlaw23.MutatorJumps", spec := "mutatorJumps", unfollowed := true, recurses := true, plainKeys := false, apart := false }
def MutatorJumpsSaid : Prop := mutatorJumpsRow.holds Tryz.pinned (OpenSpec.ofChange mutatorJumpsSpec)

/-- ITS FALSE NEIGHBOUR: 'it returns false'. Refute it at one input. -/
def mutatorJumpsWrong : ChangeSpec := { name := "mutatorJumps", fn := fun _ => fun
  | [d1, d2] => { results := [.lit (.bool false)], args := [d1, d2] }
  | _ => none }
def MutatorJumpsWrongFalsely : Prop := mutatorJumpsRow.holds Tryz.pinned (OpenSpec.ofChange mutatorJumpsWrong)

/-- 'besomlaw23.MutatorNils': WHATEVER THE INPUT: true; the input reads as it did. -/
def mutatorNilsSpec : ChangeSpec := { name := "mutatorNils", fn := fun _ => fun
  | [d] => { results := [.lit (.bool true)], args := [d] }
  | _ => none }
def mutatorNilsRow : OpenClaim := { program := "ythkhgihjigmkoaagreat", sum := "1fc67eef22291b859cd8d10d5ba605e391f1e200629cd12413480a6aecdae268", func := "besom/besomlaw23.MutatorNils", spec := "mutatorNils", unfollowed := true, recurses := true, plainKeys := false, apart := false }
def MutatorNilsSaid : Prop := mutatorNilsRow.holds Tryz.pinned (OpenSpec.ofChange mutatorNilsSpec)

/-- ITS FALSE NEIGHBOUR: 'it returns false'. Refute it at one input. -/
def mutatorNilsWrong : ChangeSpec := { name := "mutatorNils", fn := fun _ => fun
  | [d] => { results := [.lit (.bool false)], args := [d] }
  | _ => none }
def MutatorNilsWrongFalsely : Prop := mutatorNilsRow.holds Tryz.pinned (OpenSpec.ofChange mutatorNilsWrong)

/-- 'besomlaw23.MutatorAsks': WHATEVER THE INPUT: true; the input reads as it did. -/
def mutatorAsksSpec : ChangeSpec := { name := "mutatorAsks", fn := fun _ => fun
  | [d1, d2, d3] => { results := [.lit (.bool true)], args := [d1, d2, d3] }
  | _ => none }
def mutatorAsksRow : OpenClaim := { program := "ythkhgihjigmkoaagreat", sum := "1fc67eef22291b859cd8d10d5ba605e391f1e200629cd12413480a6aecdae268", func := "besom/besomlaw23.MutatorAsks", spec := "mutatorAsks", unfollowed := true, recurses := true, plainKeys := false, apart := false }
def MutatorAsksSaid : Prop := mutatorAsksRow.holds Tryz.pinned (OpenSpec.ofChange mutatorAsksSpec)

/-- ITS FALSE NEIGHBOUR: 'it returns false'. Refute it at one input. -/
def mutatorAsksWrong : ChangeSpec := { name := "mutatorAsks", fn := fun _ => fun
  | [d1, d2, d3] => { results := [.lit (.bool false)], args := [d1, d2, d3] }
  | _ => none }
def MutatorAsksWrongFalsely : Prop := mutatorAsksRow.holds Tryz.pinned (OpenSpec.ofChange mutatorAsksWrong)

/-- 'besomlaw23.MutatorPlaces': WHATEVER THE INPUT: true; the input reads as it did. -/
def mutatorPlacesSpec : ChangeSpec := { name := "mutatorPlaces", fn := fun _ => fun
  | [d1, d2] => { results := [.lit (.bool true)], args := [d1, d2] }
  | _ => none }
def mutatorPlacesRow : OpenClaim := { program := "ythkhgihjigmkoaagreat", sum := "1fc67eef22291b859cd8d10d5ba605e391f1e200629cd12413480a6aecdae268", func := "besom/besomlaw23.MutatorPlaces", spec := "mutatorPlaces", unfollowed := true, recurses := true, plainKeys := false, apart := false }
def MutatorPlacesSaid : Prop := mutatorPlacesRow.holds Tryz.pinned (OpenSpec.ofChange mutatorPlacesSpec)

/-- ITS FALSE NEIGHBOUR: 'it returns false'. Refute it at one input. -/
def mutatorPlacesWrong : ChangeSpec := { name := "mutatorPlaces", fn := fun _ => fun
  | [d1, d2] => { results := [.lit (.bool false)], args := [d1, d2] }
  | _ => none }
def MutatorPlacesWrongFalsely : Prop := mutatorPlacesRow.holds Tryz.pinned (OpenSpec.ofChange mutatorPlacesWrong)

/-- 'besomlaw23.MutatorCalls': WHATEVER THE INPUT: true; the input reads as it did. -/
def mutatorCallsSpec : ChangeSpec := { name := "mutatorCalls", fn := fun _ => fun
  | [d1, d2, d3] => { results := [.lit (.bool true)], args := [d1, d2, d3] }
  | _ => none }
def mutatorCallsRow : OpenClaim := { program := "ythkhgihjigmkoaagreat", sum := "1fc67eef22291b859cd8d10d5ba605e391f1e200629cd12413480a6aecdae268", func := "besom/besomlaw23.MutatorCalls", spec := "mutatorCalls", unfollowed := true, recurses := true, plainKeys := false, apart := false }
def MutatorCallsSaid : Prop := mutatorCallsRow.holds Tryz.pinned (OpenSpec.ofChange mutatorCallsSpec)

/-- ITS FALSE NEIGHBOUR: 'it returns false'. Refute it at one input. -/
def mutatorCallsWrong : ChangeSpec := { name := "mutatorCalls", fn := fun _ => fun
  | [d1, d2, d3] => { results := [.lit (.bool false)], args := [d1, d2, d3] }
  | _ => none }
def MutatorCallsWrongFalsely : Prop := mutatorCallsRow.holds Tryz.pinned (OpenSpec.ofChange mutatorCallsWrong)

/- THE SECOND FORM. 'bulk': how many values and letters a reading holds, each counted each time it is reached (what is shared counts as often as it is met; a slice's spare places count too). A statement '..UptoSaid' is the law's where the arguments, and the package variables that the reading takes, are together of bulk at most 1048576: NARROWER than '..Said'. Prove '..Said' where nothing that the law and all that it calls make is longer than what came in: it says more and counts as full. Else prove '..UptoSaid'. A law counts once. -/
mutual
def uptoBulk {H : Type} : DataW H → Nat
  | .lit (.string bytes) => bytes.length + 1
  | .lit _ => 1
  | .nil => 1
  | .ptr d => uptoBulk d + 1
  | .slice elems spare => uptoBulkAll elems + uptoBulkAll spare + 1
  | .agg parts => uptoBulkAll parts + 1
  | .iface _ d => uptoBulk d + 1
  | .map entries => uptoBulkEntries entries + 1
  | .held _ => 1
def uptoBulkAll {H : Type} : List (DataW H) → Nat
  | [] => 0
  | d :: r => uptoBulk d + uptoBulkAll r
def uptoBulkEntries {H : Type} : List (Lit × DataW H) → Nat
  | [] => 0
  | x :: r => uptoBulkEntry x + uptoBulkEntries r
def uptoBulkEntry {H : Type} : Lit × DataW H → Nat
  | (.string bytes, d) => bytes.length + uptoBulk d + 1
  | (_, d) => uptoBulk d + 1
 end
def uptoSmall : (H : Type) → List (DataW H) → Bool := fun _ ds => decide (uptoBulkAll ds ≤ 1048576)
def OpenSpec.upto (s : _root_.Go.ChangeSpec) : _root_.Go.OpenSpec := { _root_.Go.OpenSpec.ofChange s with cond := some uptoSmall }

/-- 'besomlaw16.TaskMoves', WHERE WHAT IT READS IS OF BULK AT MOST 1048576: true; the input reads as it did. -/
def taskMovesUptoRow : OpenClaim := { program := "ythkhgihjigmkoaagreat", sum := "1fc67eef22291b859cd8d10d5ba605e391f1e200629cd12413480a6aecdae268", func := "besom/besomlaw16.TaskMoves", spec := "taskMoves", unfollowed := true, recurses := true, plainKeys := false, apart := false, narrowed := true }
def TaskMovesUptoSaid : Prop := taskMovesUptoRow.holds Tryz.pinned (OpenSpec.upto taskMovesSpec)

/-- 'besomlaw23.MutatorSums', WHERE WHAT IT READS IS OF BULK AT MOST 1048576: true; the input reads as it did. -/
def mutatorSumsUptoRow : OpenClaim := { program := "ythkhgihjigmkoaagreat", sum := "1fc67eef22291b859cd8d10d5ba605e391f1e200629cd12413480a6aecdae268", func := "besom/besomlaw23.MutatorSums", spec := "mutatorSums", unfollowed := true, recurses := true, plainKeys := false, apart := false, narrowed := true }
def MutatorSumsUptoSaid : Prop := mutatorSumsUptoRow.holds Tryz.pinned (OpenSpec.upto mutatorSumsSpec)

/-- 'besomlaw23.MutatorJumps', WHERE WHAT IT READS IS OF BULK AT MOST 1048576: true; the input reads as it did. -/
def mutatorJumpsUptoRow : OpenClaim := { program := "ythkhgihjigmkoaagreat", sum := "1fc67eef22291b859cd8d10d5ba605e391f1e200629cd12413480a6aecdae268", func := "besom/besomlaw23.MutatorJumps", spec := "mutatorJumps", unfollowed := true, recurses := true, plainKeys := false, apart := false, narrowed := true }
def MutatorJumpsUptoSaid : Prop := mutatorJumpsUptoRow.holds Tryz.pinned (OpenSpec.upto mutatorJumpsSpec)

/-- 'besomlaw23.MutatorNils', WHERE WHAT IT READS IS OF BULK AT MOST 1048576: true; the input reads as it did. -/
def mutatorNilsUptoRow : OpenClaim := { program := "ythkhgihjigmkoaagreat", sum := "1fc67eef22291b859cd8d10d5ba605e391f1e200629cd12413480a6aecdae268", func := "besom/besomlaw23.MutatorNils", spec := "mutatorNils", unfollowed := true, recurses := true, plainKeys := false, apart := false, narrowed := true }
def MutatorNilsUptoSaid : Prop := mutatorNilsUptoRow.holds Tryz.pinned (OpenSpec.upto mutatorNilsSpec)

/-- 'besomlaw23.MutatorAsks', WHERE WHAT IT READS IS OF BULK AT MOST 1048576: true; the input reads as it did. -/
def mutatorAsksUptoRow : OpenClaim := { program := "ythkhgihjigmkoaagreat", sum := "1fc67eef22291b859cd8d10d5ba605e391f1e200629cd12413480a6aecdae268", func := "besom/besomlaw23.MutatorAsks", spec := "mutatorAsks", unfollowed := true, recurses := true, plainKeys := false, apart := false, narrowed := true }
def MutatorAsksUptoSaid : Prop := mutatorAsksUptoRow.holds Tryz.pinned (OpenSpec.upto mutatorAsksSpec)

/-- 'besomlaw23.MutatorPlaces', WHERE WHAT IT READS IS OF BULK AT MOST 1048576: true; the input reads as it did. -/
def mutatorPlacesUptoRow : OpenClaim := { program := "ythkhgihjigmkoaagreat", sum := "1fc67eef22291b859cd8d10d5ba605e391f1e200629cd12413480a6aecdae268", func := "besom/besomlaw23.MutatorPlaces", spec := "mutatorPlaces", unfollowed := true, recurses := true, plainKeys := false, apart := false, narrowed := true }
def MutatorPlacesUptoSaid : Prop := mutatorPlacesUptoRow.holds Tryz.pinned (OpenSpec.upto mutatorPlacesSpec)

/-- 'besomlaw23.MutatorCalls', WHERE WHAT IT READS IS OF BULK AT MOST 1048576: true; the input reads as it did. -/
def mutatorCallsUptoRow : OpenClaim := { program := "ythkhgihjigmkoaagreat", sum := "1fc67eef22291b859cd8d10d5ba605e391f1e200629cd12413480a6aecdae268", func := "besom/besomlaw23.MutatorCalls", spec := "mutatorCalls", unfollowed := true, recurses := true, plainKeys := false, apart := false, narrowed := true }
def MutatorCallsUptoSaid : Prop := mutatorCallsUptoRow.holds Tryz.pinned (OpenSpec.upto mutatorCallsSpec)

end Rows
end Go.Proofs.YthkhgihjigmkoaaGreat
