/-
  No cell of these rows narrows 'for every input' (looked for: loops, veiled, ifaces, maps, wideKeys, modest, calm, conditions, laid).
  DERIVED. THE GIVEN ROWS OF THIS SEAT. 3 by the template 'for every input the law returns true; each argument reads behind the call as it read before'; 0 by the template 'total and deterministic' (their statements: YtmanoclahcpaoaaTotals.lean).
  GIVEN WITH THE SEED: the statements are not yours to turn. If you find one false, say at which input.
  Laid BY PROGRAM, IN A SANDBOX (cutbox-rows.mjs): the forced cells as the released guide's own fill.sh prints them over the translation 725826ec2365654d… (all of the seat's roots in one cut). By AI agents, Wed Nov 11 2026. No macro, syntax, notation, axiom, sorry.
-/
import Derived.Test.YtmanoclahcpaoaaChecked
import GoSem.Claim
import GoSem.ClaimJoined
import GoSem.ClaimMapViews
import Derived.JoinedTies
import Derived.KernelRfl
namespace Go.Proofs.Ytmanoclahcpaoaa
/- THE CELL 'sum', in the pinned program and in every row, IS THE sha256 OF THE DUMP (.gsa) THAT YtmanoclahcpaoaaProg.lean LOADS. Nothing in Lean hashes anything: it is a label: what it is worth is what the hold of that sum in a sandbox is worth. -/
noncomputable def Try.pinned : Pinned := { name := "ytmanoclahcpaoaa", sum := "725826ec2365654d16ee1f9e3146c66e152a6683e47ab21a7b96e400d48d7481", checked := Try.checked }
namespace Rows
def none {H : Type} : Left H := { results := [], args := [] }

/-- 'besomlaw16.TaskNeeds': WHATEVER THE INPUT: true; the input reads as it did. -/
def taskNeedsSpec : ChangeSpec := { name := "taskNeeds", fn := fun _ => fun
  | [d1, d2] => { results := [.lit (.bool true)], args := [d1, d2] }
  | _ => none }
def taskNeedsRow : OpenClaim := { program := "ytmanoclahcpaoaa", sum := "725826ec2365654d16ee1f9e3146c66e152a6683e47ab21a7b96e400d48d7481", func := "besom/besomlaw16.TaskNeeds", spec := "taskNeeds", plainKeys := false, apart := false }
def TaskNeedsSaid : Prop := taskNeedsRow.holds Try.pinned (OpenSpec.ofChange taskNeedsSpec)

/-- ITS FALSE NEIGHBOUR: 'it returns false'. Refute it at one input. -/
def taskNeedsWrong : ChangeSpec := { name := "taskNeeds", fn := fun _ => fun
  | [d1, d2] => { results := [.lit (.bool false)], args := [d1, d2] }
  | _ => none }
def TaskNeedsWrongFalsely : Prop := taskNeedsRow.holds Try.pinned (OpenSpec.ofChange taskNeedsWrong)

/-- 'besomlaw16.TaskFrames': WHATEVER THE INPUT: true; the input reads as it did. -/
def taskFramesSpec : ChangeSpec := { name := "taskFrames", fn := fun _ => fun
  | [d1, d2, d3, d4, d5] => { results := [.lit (.bool true)], args := [d1, d2, d3, d4, d5] }
  | _ => none }
def taskFramesRow : OpenClaim := { program := "ytmanoclahcpaoaa", sum := "725826ec2365654d16ee1f9e3146c66e152a6683e47ab21a7b96e400d48d7481", func := "besom/besomlaw16.TaskFrames", spec := "taskFrames", plainKeys := false, apart := false }
def TaskFramesSaid : Prop := taskFramesRow.holds Try.pinned (OpenSpec.ofChange taskFramesSpec)

/-- ITS FALSE NEIGHBOUR: 'it returns false'. Refute it at one input. -/
def taskFramesWrong : ChangeSpec := { name := "taskFrames", fn := fun _ => fun
  | [d1, d2, d3, d4, d5] => { results := [.lit (.bool false)], args := [d1, d2, d3, d4, d5] }
  | _ => none }
def TaskFramesWrongFalsely : Prop := taskFramesRow.holds Try.pinned (OpenSpec.ofChange taskFramesWrong)

/-- 'besomlaw16.TaskThunks': WHATEVER THE INPUT: true; the input reads as it did. -/
def taskThunksSpec : ChangeSpec := { name := "taskThunks", fn := fun _ => fun
  | [d] => { results := [.lit (.bool true)], args := [d] }
  | _ => none }
def taskThunksRow : OpenClaim := { program := "ytmanoclahcpaoaa", sum := "725826ec2365654d16ee1f9e3146c66e152a6683e47ab21a7b96e400d48d7481", func := "besom/besomlaw16.TaskThunks", spec := "taskThunks", plainKeys := false, apart := false }
def TaskThunksSaid : Prop := taskThunksRow.holds Try.pinned (OpenSpec.ofChange taskThunksSpec)

/-- ITS FALSE NEIGHBOUR: 'it returns false'. Refute it at one input. -/
def taskThunksWrong : ChangeSpec := { name := "taskThunks", fn := fun _ => fun
  | [d] => { results := [.lit (.bool false)], args := [d] }
  | _ => none }
def TaskThunksWrongFalsely : Prop := taskThunksRow.holds Try.pinned (OpenSpec.ofChange taskThunksWrong)

/- THE SECOND FORM. 'bulk': how many values and letters a reading holds, each counted each time it is reached (what is shared counts as often as it is met; a slice's spare places count too). A statement '..UptoSaid' is the law's where the arguments, and the package variables that the reading takes, are together of bulk at most 1048576: NARROWER than '..Said'. Prove '..Said' where nothing that the law and all that it calls make is longer than what came in: it says more and counts as full. Else prove '..UptoSaid'. A law counts once. -/
mutual
def uptoBulk {H : Type} : DataW H → Nat
  | .lit (.string bytes) => bytes.length + 1
  | .lit _ => 1
  | .nil => 1
  | .ptr d => uptoBulk d + 1
  | .slice elems spare => uptoBulkAll elems + uptoBulkAll spare + 1
  | .agg parts => uptoBulkAll parts + 1
  | .iface _ d => uptoBulk d + 1
  | .map entries => uptoBulkEntries entries + 1
  | .held _ => 1
def uptoBulkAll {H : Type} : List (DataW H) → Nat
  | [] => 0
  | d :: r => uptoBulk d + uptoBulkAll r
def uptoBulkEntries {H : Type} : List (Lit × DataW H) → Nat
  | [] => 0
  | x :: r => uptoBulkEntry x + uptoBulkEntries r
def uptoBulkEntry {H : Type} : Lit × DataW H → Nat
  | (.string bytes, d) => bytes.length + uptoBulk d + 1
  | (_, d) => uptoBulk d + 1
 end
def uptoSmall : (H : Type) → List (DataW H) → Bool := fun _ ds => decide (uptoBulkAll ds ≤ 1048576)
def OpenSpec.upto (s : _root_.Go.ChangeSpec) : _root_.Go.OpenSpec := { _root_.Go.OpenSpec.ofChange s with cond := some uptoSmall }

/-- 'besomlaw16.TaskNeeds', WHERE WHAT IT READS IS OF BULK AT MOST 1048576: true; the input reads as it did. -/
def taskNeedsUptoRow : OpenClaim := { program := "ytmanoclahcpaoaa", sum := "725826ec2365654d16ee1f9e3146c66e152a6683e47ab21a7b96e400d48d7481", func := "besom/besomlaw16.TaskNeeds", spec := "taskNeeds", plainKeys := false, apart := false, narrowed := true }
def TaskNeedsUptoSaid : Prop := taskNeedsUptoRow.holds Try.pinned (OpenSpec.upto taskNeedsSpec)

/-- 'besomlaw16.TaskFrames', WHERE WHAT IT READS IS OF BULK AT MOST 1048576: true; the input reads as it did. -/
def taskFramesUptoRow : OpenClaim := { program := "ytmanoclahcpaoaa", sum := "725826ec2365654d16ee1f9e3146c66e152a6683e47ab21a7b96e400d48d7481", func := "besom/besomlaw16.TaskFrames", spec := "taskFrames", plainKeys := false, apart := false, narrowed := true }
def TaskFramesUptoSaid : Prop := taskFramesUptoRow.holds Try.pinned (OpenSpec.upto taskFramesSpec)

/-- 'besomlaw16.TaskThunks', WHERE WHAT IT READS IS OF BULK AT MOST 1048576: true; the input reads as it did. -/
def taskThunksUptoRow : OpenClaim := { program := "ytmanoclahcpaoaa", sum := "725826ec2365654d16ee1f9e3146c66e152a6683e47ab21a7b96e400d48d7481", func := "besom/besomlaw16.TaskThunks", spec := "taskThunks", plainKeys := false, apart := false, narrowed := true }
def TaskThunksUptoSaid : Prop := taskThunksUptoRow.holds Try.pinned (OpenSpec.upto taskThunksSpec)

end Rows
end Go.Proofs.Ytmanoclahcpaoaa
