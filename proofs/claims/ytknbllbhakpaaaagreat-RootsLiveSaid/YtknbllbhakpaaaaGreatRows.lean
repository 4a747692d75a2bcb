/-
  No cell of these rows narrows 'for every input' (looked for: loops, veiled, ifaces, maps, wideKeys, modest, calm, conditions, laid).
  DERIVED. THE GIVEN ROWS OF THIS SEAT. 5 by the template 'for every input the law returns true; each argument reads behind the call as it read before'; 0 by the template 'total and deterministic' (their statements: YtknbllbhakpaaaaGreatTotals.lean).
  GIVEN WITH THE SEED: the statements are not yours to turn. If you find one false, say at which input.
  Laid BY PROGRAM, IN A SANDBOX (cutbox-rows.mjs): the forced cells as the released guide's own fill.sh prints them over the translation 2cade2b6ea37c0b6… (all of the seat's roots in one cut). By AI agents, Wed Nov 11 2026. No macro, syntax, notation, axiom, sorry.
-/
import Derived.Test.YtknbllbhakpaaaaGreatChecked
import GoSem.Claim
import GoSem.ClaimJoined
import GoSem.ClaimMapViews
import Derived.JoinedTies
import Derived.KernelRfl
namespace Go.Proofs.YtknbllbhakpaaaaGreat
/- THE CELL 'sum', in the pinned program and in every row, IS THE sha256 OF THE DUMP (.gsa) THAT YtknbllbhakpaaaaGreatProg.lean LOADS. Nothing in Lean hashes anything: it is a label: what it is worth is what the hold of that sum in a sandbox is worth. -/
noncomputable def Tryz.pinned : Pinned := { name := "ytknbllbhakpaaaagreat", sum := "2cade2b6ea37c0b6ab09497fdcb56ceb60ba21080b227969b1f0402d16a5f2d0", checked := Tryz.checked }
namespace Rows
def none {H : Type} : Left H := { results := [], args := [] }

/-- 'besomlaw17.RootsRecords': WHATEVER THE INPUT: true; the input reads as it did. -/
def rootsRecordsSpec : ChangeSpec := { name := "rootsRecords", fn := fun _ => fun
  | [d1, d2, d3, d4] => { results := [.lit (.bool true)], args := [d1, d2, d3, d4] }
  | _ => none }
def rootsRecordsRow : OpenClaim := { program := "ytknbllbhakpaaaagreat", sum := "2cade2b6ea37c0b6ab09497fdcb56ceb60ba21080b227969b1f0402d16a5f2d0", func := "besom/besomlaw17.RootsRecords", spec := "rootsRecords", unfollowed := true, recurses := true, plainKeys := false, apart := false }
def RootsRecordsSaid : Prop := rootsRecordsRow.holds Tryz.pinned (OpenSpec.ofChange rootsRecordsSpec)

/-- ITS FALSE NEIGHBOUR: 'it returns false'. Refute it at one input. -/
def rootsRecordsWrong : ChangeSpec := { name := "rootsRecords", fn := fun _ => fun
  | [d1, d2, d3, d4] => { results := [.lit (.bool false)], args := [d1, d2, d3, d4] }
  | _ => none }
def RootsRecordsWrongFalsely : Prop := rootsRecordsRow.holds Tryz.pinned (OpenSpec.ofChange rootsRecordsWrong)

/-- 'besomlaw17.RootsLive': WHATEVER THE INPUT: true; the input reads as it did. -/
def rootsLiveSpec : ChangeSpec := { name := "rootsLive", fn := fun _ => fun
  | [d1, d2, d3] => { results := [.lit (.bool true)], args := [d1, d2, d3] }
  | _ => none }
def rootsLiveRow : OpenClaim := { program := "ytknbllbhakpaaaagreat", sum := "2cade2b6ea37c0b6ab09497fdcb56ceb60ba21080b227969b1f0402d16a5f2d0", func := "besom/besomlaw17.RootsLive", spec := "rootsLive", unfollowed := true, recurses := true, plainKeys := false, apart := false }
def RootsLiveSaid : Prop := rootsLiveRow.holds Tryz.pinned (OpenSpec.ofChange rootsLiveSpec)

/-- ITS FALSE NEIGHBOUR: 'it returns false'. Refute it at one input. -/
def rootsLiveWrong : ChangeSpec := { name := "rootsLive", fn := fun _ => fun
  | [d1, d2, d3] => { results := [.lit (.bool false)], args := [d1, d2, d3] }
  | _ => none }
def RootsLiveWrongFalsely : Prop := rootsLiveRow.holds Tryz.pinned (OpenSpec.ofChange rootsLiveWrong)

/-- 'besomlaw17.RootsMore': WHATEVER THE INPUT: true; the input reads as it did. -/
def rootsMoreSpec : ChangeSpec := { name := "rootsMore", fn := fun _ => fun
  | [d1, d2] => { results := [.lit (.bool true)], args := [d1, d2] }
  | _ => none }
def rootsMoreRow : OpenClaim := { program := "ytknbllbhakpaaaagreat", sum := "2cade2b6ea37c0b6ab09497fdcb56ceb60ba21080b227969b1f0402d16a5f2d0", func := "besom/besomlaw17.RootsMore", spec := "rootsMore", unfollowed := true, recurses := true, plainKeys := false, apart := false }
def RootsMoreSaid : Prop := rootsMoreRow.holds Tryz.pinned (OpenSpec.ofChange rootsMoreSpec)

/-- ITS FALSE NEIGHBOUR: 'it returns false'. Refute it at one input. -/
def rootsMoreWrong : ChangeSpec := { name := "rootsMore", fn := fun _ => fun
  | [d1, d2] => { results := [.lit (.bool false)], args := [d1, d2] }
  | _ => none }
def RootsMoreWrongFalsely : Prop := rootsMoreRow.holds Tryz.pinned (OpenSpec.ofChange rootsMoreWrong)

/-- 'besomlaw17.RootsGlobals': WHATEVER THE INPUT: true; the input reads as it did. -/
def rootsGlobalsSpec : ChangeSpec := { name := "rootsGlobals", fn := fun _ => fun
  | [d] => { results := [.lit (.bool true)], args := [d] }
  | _ => none }
def rootsGlobalsRow : OpenClaim := { program := "ytknbllbhakpaaaagreat", sum := "2cade2b6ea37c0b6ab09497fdcb56ceb60ba21080b227969b1f0402d16a5f2d0", func := "besom/besomlaw17.RootsGlobals", spec := "rootsGlobals", unfollowed := true, recurses := true, plainKeys := false, apart := false }
def RootsGlobalsSaid : Prop := rootsGlobalsRow.holds Tryz.pinned (OpenSpec.ofChange rootsGlobalsSpec)

/-- ITS FALSE NEIGHBOUR: 'it returns false'. Refute it at one input. -/
def rootsGlobalsWrong : ChangeSpec := { name := "rootsGlobals", fn := fun _ => fun
  | [d] => { results := [.lit (.bool false)], args := [d] }
  | _ => none }
def RootsGlobalsWrongFalsely : Prop := rootsGlobalsRow.holds Tryz.pinned (OpenSpec.ofChange rootsGlobalsWrong)

/-- 'besomlaw17.RootsTell': WHATEVER THE INPUT: true; the input reads as it did. -/
def rootsTellSpec : ChangeSpec := { name := "rootsTell", fn := fun _ => fun
  | [d1, d2, d3] => { results := [.lit (.bool true)], args := [d1, d2, d3] }
  | _ => none }
def rootsTellRow : OpenClaim := { program := "ytknbllbhakpaaaagreat", sum := "2cade2b6ea37c0b6ab09497fdcb56ceb60ba21080b227969b1f0402d16a5f2d0", func := "besom/besomlaw17.RootsTell", spec := "rootsTell", unfollowed := true, recurses := true, plainKeys := false, apart := false }
def RootsTellSaid : Prop := rootsTellRow.holds Tryz.pinned (OpenSpec.ofChange rootsTellSpec)

/-- ITS FALSE NEIGHBOUR: 'it returns false'. Refute it at one input. -/
def rootsTellWrong : ChangeSpec := { name := "rootsTell", fn := fun _ => fun
  | [d1, d2, d3] => { results := [.lit (.bool false)], args := [d1, d2, d3] }
  | _ => none }
def RootsTellWrongFalsely : Prop := rootsTellRow.holds Tryz.pinned (OpenSpec.ofChange rootsTellWrong)

/- THE SECOND FORM. 'bulk': how many values and letters a reading holds, each counted each time it is reached (what is shared counts as often as it is met; a slice's spare places count too). A statement '..UptoSaid' is the law's where the arguments, and the package variables that the reading takes, are together of bulk at most 1048576: NARROWER than '..Said'. Prove '..Said' where nothing that the law and all that it calls make is longer than what came in: it says more and counts as full. Else prove '..UptoSaid'. A law counts once. -/
mutual
def uptoBulk {H : Type} : DataW H → Nat
  | .lit (.string bytes) => bytes.length + 1
  | .lit _ => 1
  | .nil => 1
  | .ptr d => uptoBulk d + 1
  | .slice elems spare => uptoBulkAll elems + uptoBulkAll spare + 1
  | .agg parts => uptoBulkAll parts + 1
  | .iface _ d => uptoBulk d + 1
  | .map entries => uptoBulkEntries entries + 1
  | .held _ => 1
def uptoBulkAll {H : Type} : List (DataW H) → Nat
  | [] => 0
  | d :: r => uptoBulk d + uptoBulkAll r
def uptoBulkEntries {H : Type} : List (Lit × DataW H) → Nat
  | [] => 0
  | x :: r => uptoBulkEntry x + uptoBulkEntries r
def uptoBulkEntry {H : Type} : Lit × DataW H → Nat
  | (.string bytes, d) => bytes.length + uptoBulk d + 1
  | (_, d) => uptoBulk d + 1
 end
def uptoSmall : (H : Type) → List (DataW H) → Bool := fun _ ds => decide (uptoBulkAll ds ≤ 1048576)
def OpenSpec.upto (s : _root_.Go.ChangeSpec) : _root_.Go.OpenSpec := { _root_.Go.OpenSpec.ofChange s with cond := some uptoSmall }

/-- 'besomlaw17.RootsRecords', WHERE WHAT IT READS IS OF BULK AT MOST 1048576: true; the input reads as it did. -/
def rootsRecordsUptoRow : OpenClaim := { program := "ytknbllbhakpaaaagreat", sum := "2cade2b6ea37c0b6ab09497fdcb56ceb60ba21080b227969b1f0402d16a5f2d0", func := "besom/besomlaw17.RootsRecords", spec := "rootsRecords", unfollowed := true, recurses := true, plainKeys := false, apart := false, narrowed := true }
def RootsRecordsUptoSaid : Prop := rootsRecordsUptoRow.holds Tryz.pinned (OpenSpec.upto rootsRecordsSpec)

/-- 'besomlaw17.RootsLive', WHERE WHAT IT READS IS OF BULK AT MOST 1048576: true; the input reads as it did. -/
def rootsLiveUptoRow : OpenClaim := { program := "ytknbllbhakpaaaagreat", sum := "2cade2b6ea37c0b6ab09497fdcb56ceb60ba21080b227969b1f0402d16a5f2d0", func := "besom/besomlaw17.RootsLive", spec := "rootsLive", unfollowed := true, recurses := true, plainKeys := false, apart := false, narrowed := true }
def RootsLiveUptoSaid : Prop := rootsLiveUptoRow.holds Tryz.pinned (OpenSpec.upto rootsLiveSpec)

/-- 'besomlaw17.RootsMore', WHERE WHAT IT READS IS OF BULK AT MOST 1048576: true; the input reads as it did. -/
def rootsMoreUptoRow : OpenClaim := { program := "ytknbllbhakpaaaagreat", sum := "2cade2b6ea37c0b6ab09497fdcb56ceb60ba21080b227969b1f0402d16a5f2d0", func := "besom/besomlaw17.RootsMore", spec := "rootsMore", unfollowed := true, recurses := true, plainKeys := false, apart := false, narrowed := true }
def RootsMoreUptoSaid : Prop := rootsMoreUptoRow.holds Tryz.pinned (OpenSpec.upto rootsMoreSpec)

/-- 'besomlaw17.RootsGlobals', WHERE WHAT IT READS IS OF BULK AT MOST 1048576: true; the input reads as it did. -/
def rootsGlobalsUptoRow : OpenClaim := { program := "ytknbllbhakpaaaagreat", sum := "2cade2b6ea37c0b6ab09497fdcb56ceb60ba21080b227969b1f0402d16a5f2d0", func := "besom/besomlaw17.RootsGlobals", spec := "rootsGlobals", unfollowed := true, recurses := true, plainKeys := false, apart := false, narrowed := true }
def RootsGlobalsUptoSaid : Prop := rootsGlobalsUptoRow.holds Tryz.pinned (OpenSpec.upto rootsGlobalsSpec)

/-- 'besomlaw17.RootsTell', WHERE WHAT IT READS IS OF BULK AT MOST 1048576: true; the input reads as it did. -/
def rootsTellUptoRow : OpenClaim := { program := "ytknbllbhakpaaaagreat", sum := "2cade2b6ea37c0b6ab09497fdcb56ceb60ba21080b227969b1f0402d16a5f2d0", func := "besom/besomlaw17.RootsTell", spec := "rootsTell", unfollowed := true, recurses := true, plainKeys := false, apart := false, narrowed := true }
def RootsTellUptoSaid : Prop := rootsTellUptoRow.holds Tryz.pinned (OpenSpec.upto rootsTellSpec)

end Rows
end Go.Proofs.YtknbllbhakpaaaaGreat
