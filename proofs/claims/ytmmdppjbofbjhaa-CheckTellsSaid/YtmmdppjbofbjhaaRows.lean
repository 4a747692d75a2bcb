/-
  No cell of these rows narrows 'for every input' (looked for: loops, veiled, ifaces, maps, wideKeys, modest, calm, conditions, laid).
  DERIVED. THE GIVEN ROWS OF THIS SEAT. 19 by the template 'for every input the law returns true; each argument reads behind the call as it read before'; 0 by the template 'total and deterministic' (their statements: YtmmdppjbofbjhaaTotals.lean).
  GIVEN WITH THE SEED: the statements are not yours to turn. If you find one false, say at which input.
  Laid BY PROGRAM, IN A SANDBOX (cutbox-rows.mjs): the forced cells as the released guide's own fill.sh prints them over the translation 33b01777b2003dbf… (all of the seat's roots in one cut). By AI agents, Wed Nov 11 2026. No macro, syntax, notation, axiom, sorry.
-/
import Derived.Test.YtmmdppjbofbjhaaChecked
import GoSem.Claim
import GoSem.ClaimJoined
import GoSem.ClaimMapViews
import Derived.JoinedTies
import Derived.KernelRfl
namespace Go.Proofs.Ytmmdppjbofbjhaa
/- THE CELL 'sum', in the pinned program and in every row, IS THE sha256 OF THE DUMP (.gsa) THAT YtmmdppjbofbjhaaProg.lean LOADS. Nothing in Lean hashes anything: it is a label: what it is worth is what the hold of that sum in a sandbox is worth. -/
noncomputable def Try.pinned : Pinned := { name := "ytmmdppjbofbjhaa", sum := "33b01777b2003dbf72b3f030dd5affaf105844fd7e4bbb019cecede7111966f9", checked := Try.checked }
namespace Rows
def none {H : Type} : Left H := { results := [], args := [] }

/-- 'besomlaw2.WordLaws': WHATEVER THE INPUT: true; the input reads as it did. -/
def wordLawsSpec : ChangeSpec := { name := "wordLaws", fn := fun _ => fun
  | [d1, d2] => { results := [.lit (.bool true)], args := [d1, d2] }
  | _ => none }
def wordLawsRow : OpenClaim := { program := "ytmmdppjbofbjhaa", sum := "33b01777b2003dbf72b3f030dd5affaf105844fd7e4bbb019cecede7111966f9", func := "besom/besomlaw2.WordLaws", spec := "wordLaws", plainKeys := false, apart := false }
def WordLawsSaid : Prop := wordLawsRow.holds Try.pinned (OpenSpec.ofChange wordLawsSpec)

/-- ITS FALSE NEIGHBOUR: 'it returns false'. Refute it at one input. -/
def wordLawsWrong : ChangeSpec := { name := "wordLaws", fn := fun _ => fun
  | [d1, d2] => { results := [.lit (.bool false)], args := [d1, d2] }
  | _ => none }
def WordLawsWrongFalsely : Prop := wordLawsRow.holds Try.pinned (OpenSpec.ofChange wordLawsWrong)

/-- 'besomlaw2.WordRing': WHATEVER THE INPUT: true; the input reads as it did. -/
def wordRingSpec : ChangeSpec := { name := "wordRing", fn := fun _ => fun
  | [d1, d2, d3] => { results := [.lit (.bool true)], args := [d1, d2, d3] }
  | _ => none }
def wordRingRow : OpenClaim := { program := "ytmmdppjbofbjhaa", sum := "33b01777b2003dbf72b3f030dd5affaf105844fd7e4bbb019cecede7111966f9", func := "besom/besomlaw2.WordRing", spec := "wordRing", plainKeys := false, apart := false }
def WordRingSaid : Prop := wordRingRow.holds Try.pinned (OpenSpec.ofChange wordRingSpec)

/-- ITS FALSE NEIGHBOUR: 'it returns false'. Refute it at one input. -/
def wordRingWrong : ChangeSpec := { name := "wordRing", fn := fun _ => fun
  | [d1, d2, d3] => { results := [.lit (.bool false)], args := [d1, d2, d3] }
  | _ => none }
def WordRingWrongFalsely : Prop := wordRingRow.holds Try.pinned (OpenSpec.ofChange wordRingWrong)

/-- 'besomlaw2.WordShifts': WHATEVER THE INPUT: true; the input reads as it did. -/
def wordShiftsSpec : ChangeSpec := { name := "wordShifts", fn := fun _ => fun
  | [d1, d2, d3] => { results := [.lit (.bool true)], args := [d1, d2, d3] }
  | _ => none }
def wordShiftsRow : OpenClaim := { program := "ytmmdppjbofbjhaa", sum := "33b01777b2003dbf72b3f030dd5affaf105844fd7e4bbb019cecede7111966f9", func := "besom/besomlaw2.WordShifts", spec := "wordShifts", plainKeys := false, apart := false }
def WordShiftsSaid : Prop := wordShiftsRow.holds Try.pinned (OpenSpec.ofChange wordShiftsSpec)

/-- ITS FALSE NEIGHBOUR: 'it returns false'. Refute it at one input. -/
def wordShiftsWrong : ChangeSpec := { name := "wordShifts", fn := fun _ => fun
  | [d1, d2, d3] => { results := [.lit (.bool false)], args := [d1, d2, d3] }
  | _ => none }
def WordShiftsWrongFalsely : Prop := wordShiftsRow.holds Try.pinned (OpenSpec.ofChange wordShiftsWrong)

/-- 'besomlaw2.WordTells': WHATEVER THE INPUT: true; the input reads as it did. -/
def wordTellsSpec : ChangeSpec := { name := "wordTells", fn := fun _ => fun
  | [d1, d2, d3] => { results := [.lit (.bool true)], args := [d1, d2, d3] }
  | _ => none }
def wordTellsRow : OpenClaim := { program := "ytmmdppjbofbjhaa", sum := "33b01777b2003dbf72b3f030dd5affaf105844fd7e4bbb019cecede7111966f9", func := "besom/besomlaw2.WordTells", spec := "wordTells", plainKeys := false, apart := false }
def WordTellsSaid : Prop := wordTellsRow.holds Try.pinned (OpenSpec.ofChange wordTellsSpec)

/-- ITS FALSE NEIGHBOUR: 'it returns false'. Refute it at one input. -/
def wordTellsWrong : ChangeSpec := { name := "wordTells", fn := fun _ => fun
  | [d1, d2, d3] => { results := [.lit (.bool false)], args := [d1, d2, d3] }
  | _ => none }
def WordTellsWrongFalsely : Prop := wordTellsRow.holds Try.pinned (OpenSpec.ofChange wordTellsWrong)

/-- 'besomlaw2.WordSame': WHATEVER THE INPUT: true; the input reads as it did. -/
def wordSameSpec : ChangeSpec := { name := "wordSame", fn := fun _ => fun
  | [d1, d2] => { results := [.lit (.bool true)], args := [d1, d2] }
  | _ => none }
def wordSameRow : OpenClaim := { program := "ytmmdppjbofbjhaa", sum := "33b01777b2003dbf72b3f030dd5affaf105844fd7e4bbb019cecede7111966f9", func := "besom/besomlaw2.WordSame", spec := "wordSame", plainKeys := false, apart := false }
def WordSameSaid : Prop := wordSameRow.holds Try.pinned (OpenSpec.ofChange wordSameSpec)

/-- ITS FALSE NEIGHBOUR: 'it returns false'. Refute it at one input. -/
def wordSameWrong : ChangeSpec := { name := "wordSame", fn := fun _ => fun
  | [d1, d2] => { results := [.lit (.bool false)], args := [d1, d2] }
  | _ => none }
def WordSameWrongFalsely : Prop := wordSameRow.holds Try.pinned (OpenSpec.ofChange wordSameWrong)

/-- 'besomlaw2.WordBytes': WHATEVER THE INPUT: true; the input reads as it did. -/
def wordBytesSpec : ChangeSpec := { name := "wordBytes", fn := fun _ => fun
  | [d1, d2] => { results := [.lit (.bool true)], args := [d1, d2] }
  | _ => none }
def wordBytesRow : OpenClaim := { program := "ytmmdppjbofbjhaa", sum := "33b01777b2003dbf72b3f030dd5affaf105844fd7e4bbb019cecede7111966f9", func := "besom/besomlaw2.WordBytes", spec := "wordBytes", plainKeys := false, apart := false }
def WordBytesSaid : Prop := wordBytesRow.holds Try.pinned (OpenSpec.ofChange wordBytesSpec)

/-- ITS FALSE NEIGHBOUR: 'it returns false'. Refute it at one input. -/
def wordBytesWrong : ChangeSpec := { name := "wordBytes", fn := fun _ => fun
  | [d1, d2] => { results := [.lit (.bool false)], args := [d1, d2] }
  | _ => none }
def WordBytesWrongFalsely : Prop := wordBytesRow.holds Try.pinned (OpenSpec.ofChange wordBytesWrong)

/-- 'besomlaw9.InstrBytes': WHATEVER THE INPUT: true; the input reads as it did. -/
def instrBytesSpec : ChangeSpec := { name := "instrBytes", fn := fun _ => fun
  | [d1, d2] => { results := [.lit (.bool true)], args := [d1, d2] }
  | _ => none }
def instrBytesRow : OpenClaim := { program := "ytmmdppjbofbjhaa", sum := "33b01777b2003dbf72b3f030dd5affaf105844fd7e4bbb019cecede7111966f9", func := "besom/besomlaw9.InstrBytes", spec := "instrBytes", plainKeys := false, apart := false }
def InstrBytesSaid : Prop := instrBytesRow.holds Try.pinned (OpenSpec.ofChange instrBytesSpec)

/-- ITS FALSE NEIGHBOUR: 'it returns false'. Refute it at one input. -/
def instrBytesWrong : ChangeSpec := { name := "instrBytes", fn := fun _ => fun
  | [d1, d2] => { results := [.lit (.bool false)], args := [d1, d2] }
  | _ => none }
def InstrBytesWrongFalsely : Prop := instrBytesRow.holds Try.pinned (OpenSpec.ofChange instrBytesWrong)

/-- 'besomlaw9.InstrPrefix': WHATEVER THE INPUT: true; the input reads as it did. -/
def instrPrefixSpec : ChangeSpec := { name := "instrPrefix", fn := fun _ => fun
  | [d1, d2] => { results := [.lit (.bool true)], args := [d1, d2] }
  | _ => none }
def instrPrefixRow : OpenClaim := { program := "ytmmdppjbofbjhaa", sum := "33b01777b2003dbf72b3f030dd5affaf105844fd7e4bbb019cecede7111966f9", func := "besom/besomlaw9.InstrPrefix", spec := "instrPrefix", plainKeys := false, apart := false }
def InstrPrefixSaid : Prop := instrPrefixRow.holds Try.pinned (OpenSpec.ofChange instrPrefixSpec)

/-- ITS FALSE NEIGHBOUR: 'it returns false'. Refute it at one input. -/
def instrPrefixWrong : ChangeSpec := { name := "instrPrefix", fn := fun _ => fun
  | [d1, d2] => { results := [.lit (.bool false)], args := [d1, d2] }
  | _ => none }
def InstrPrefixWrongFalsely : Prop := instrPrefixRow.holds Try.pinned (OpenSpec.ofChange instrPrefixWrong)

/-- 'besomlaw9.InstrTells': WHATEVER THE INPUT: true; the input reads as it did. -/
def instrTellsSpec : ChangeSpec := { name := "instrTells", fn := fun _ => fun
  | [d1, d2] => { results := [.lit (.bool true)], args := [d1, d2] }
  | _ => none }
def instrTellsRow : OpenClaim := { program := "ytmmdppjbofbjhaa", sum := "33b01777b2003dbf72b3f030dd5affaf105844fd7e4bbb019cecede7111966f9", func := "besom/besomlaw9.InstrTells", spec := "instrTells", plainKeys := false, apart := false }
def InstrTellsSaid : Prop := instrTellsRow.holds Try.pinned (OpenSpec.ofChange instrTellsSpec)

/-- ITS FALSE NEIGHBOUR: 'it returns false'. Refute it at one input. -/
def instrTellsWrong : ChangeSpec := { name := "instrTells", fn := fun _ => fun
  | [d1, d2] => { results := [.lit (.bool false)], args := [d1, d2] }
  | _ => none }
def InstrTellsWrongFalsely : Prop := instrTellsRow.holds Try.pinned (OpenSpec.ofChange instrTellsWrong)

/-- 'besomlaw10.ImageTells': WHATEVER THE INPUT: true; the input reads as it did. -/
def imageTellsSpec : ChangeSpec := { name := "imageTells", fn := fun _ => fun
  | [d1, d2, d3] => { results := [.lit (.bool true)], args := [d1, d2, d3] }
  | _ => none }
def imageTellsRow : OpenClaim := { program := "ytmmdppjbofbjhaa", sum := "33b01777b2003dbf72b3f030dd5affaf105844fd7e4bbb019cecede7111966f9", func := "besom/besomlaw10.ImageTells", spec := "imageTells", unfollowed := true, recurses := true, plainKeys := false, apart := false }
def ImageTellsSaid : Prop := imageTellsRow.holds Try.pinned (OpenSpec.ofChange imageTellsSpec)

/-- ITS FALSE NEIGHBOUR: 'it returns false'. Refute it at one input. -/
def imageTellsWrong : ChangeSpec := { name := "imageTells", fn := fun _ => fun
  | [d1, d2, d3] => { results := [.lit (.bool false)], args := [d1, d2, d3] }
  | _ => none }
def ImageTellsWrongFalsely : Prop := imageTellsRow.holds Try.pinned (OpenSpec.ofChange imageTellsWrong)

/-- 'besomlaw10.ImageCuts': WHATEVER THE INPUT: true; the input reads as it did. -/
def imageCutsSpec : ChangeSpec := { name := "imageCuts", fn := fun _ => fun
  | [d1, d2, d3] => { results := [.lit (.bool true)], args := [d1, d2, d3] }
  | _ => none }
def imageCutsRow : OpenClaim := { program := "ytmmdppjbofbjhaa", sum := "33b01777b2003dbf72b3f030dd5affaf105844fd7e4bbb019cecede7111966f9", func := "besom/besomlaw10.ImageCuts", spec := "imageCuts", unfollowed := true, recurses := true, plainKeys := false, apart := false }
def ImageCutsSaid : Prop := imageCutsRow.holds Try.pinned (OpenSpec.ofChange imageCutsSpec)

/-- ITS FALSE NEIGHBOUR: 'it returns false'. Refute it at one input. -/
def imageCutsWrong : ChangeSpec := { name := "imageCuts", fn := fun _ => fun
  | [d1, d2, d3] => { results := [.lit (.bool false)], args := [d1, d2, d3] }
  | _ => none }
def ImageCutsWrongFalsely : Prop := imageCutsRow.holds Try.pinned (OpenSpec.ofChange imageCutsWrong)

/-- 'besomlaw10.ImageUnlike': WHATEVER THE INPUT: true; the input reads as it did. -/
def imageUnlikeSpec : ChangeSpec := { name := "imageUnlike", fn := fun _ => fun
  | [d1, d2] => { results := [.lit (.bool true)], args := [d1, d2] }
  | _ => none }
def imageUnlikeRow : OpenClaim := { program := "ytmmdppjbofbjhaa", sum := "33b01777b2003dbf72b3f030dd5affaf105844fd7e4bbb019cecede7111966f9", func := "besom/besomlaw10.ImageUnlike", spec := "imageUnlike", unfollowed := true, recurses := true, plainKeys := false, apart := false }
def ImageUnlikeSaid : Prop := imageUnlikeRow.holds Try.pinned (OpenSpec.ofChange imageUnlikeSpec)

/-- ITS FALSE NEIGHBOUR: 'it returns false'. Refute it at one input. -/
def imageUnlikeWrong : ChangeSpec := { name := "imageUnlike", fn := fun _ => fun
  | [d1, d2] => { results := [.lit (.bool false)], args := [d1, d2] }
  | _ => none }
def ImageUnlikeWrongFalsely : Prop := imageUnlikeRow.holds Try.pinned (OpenSpec.ofChange imageUnlikeWrong)

/-- 'besomlaw10.ImageCopies': WHATEVER THE INPUT: true; the input reads as it did. -/
def imageCopiesSpec : ChangeSpec := { name := "imageCopies", fn := fun _ => fun
  | [d] => { results := [.lit (.bool true)], args := [d] }
  | _ => none }
def imageCopiesRow : OpenClaim := { program := "ytmmdppjbofbjhaa", sum := "33b01777b2003dbf72b3f030dd5affaf105844fd7e4bbb019cecede7111966f9", func := "besom/besomlaw10.ImageCopies", spec := "imageCopies", unfollowed := true, recurses := true, plainKeys := false, apart := false }
def ImageCopiesSaid : Prop := imageCopiesRow.holds Try.pinned (OpenSpec.ofChange imageCopiesSpec)

/-- ITS FALSE NEIGHBOUR: 'it returns false'. Refute it at one input. -/
def imageCopiesWrong : ChangeSpec := { name := "imageCopies", fn := fun _ => fun
  | [d] => { results := [.lit (.bool false)], args := [d] }
  | _ => none }
def ImageCopiesWrongFalsely : Prop := imageCopiesRow.holds Try.pinned (OpenSpec.ofChange imageCopiesWrong)

/-- 'besomlaw11.CheckEach': WHATEVER THE INPUT: true; the input reads as it did. -/
def checkEachSpec : ChangeSpec := { name := "checkEach", fn := fun _ => fun
  | [d] => { results := [.lit (.bool true)], args := [d] }
  | _ => none }
def checkEachRow : OpenClaim := { program := "ytmmdppjbofbjhaa", sum := "33b01777b2003dbf72b3f030dd5affaf105844fd7e4bbb019cecede7111966f9", func := "besom/besomlaw11.CheckEach", spec := "checkEach", unfollowed := true, recurses := true, plainKeys := false, apart := false }
def CheckEachSaid : Prop := checkEachRow.holds Try.pinned (OpenSpec.ofChange checkEachSpec)

/-- ITS FALSE NEIGHBOUR: 'it returns false'. Refute it at one input. -/
def checkEachWrong : ChangeSpec := { name := "checkEach", fn := fun _ => fun
  | [d] => { results := [.lit (.bool false)], args := [d] }
  | _ => none }
def CheckEachWrongFalsely : Prop := checkEachRow.holds Try.pinned (OpenSpec.ofChange checkEachWrong)

/-- 'besomlaw11.CheckTells': WHATEVER THE INPUT: true; the input reads as it did. -/
def checkTellsSpec : ChangeSpec := { name := "checkTells", fn := fun _ => fun
  | [d1, d2, d3] => { results := [.lit (.bool true)], args := [d1, d2, d3] }
  | _ => none }
def checkTellsRow : OpenClaim := { program := "ytmmdppjbofbjhaa", sum := "33b01777b2003dbf72b3f030dd5affaf105844fd7e4bbb019cecede7111966f9", func := "besom/besomlaw11.CheckTells", spec := "checkTells", unfollowed := true, recurses := true, plainKeys := false, apart := false }
def CheckTellsSaid : Prop := checkTellsRow.holds Try.pinned (OpenSpec.ofChange checkTellsSpec)

/-- ITS FALSE NEIGHBOUR: 'it returns false'. Refute it at one input. -/
def checkTellsWrong : ChangeSpec := { name := "checkTells", fn := fun _ => fun
  | [d1, d2, d3] => { results := [.lit (.bool false)], args := [d1, d2, d3] }
  | _ => none }
def CheckTellsWrongFalsely : Prop := checkTellsRow.holds Try.pinned (OpenSpec.ofChange checkTellsWrong)

/-- 'besomlaw12.FlowSteps': WHATEVER THE INPUT: true; the input reads as it did. -/
def flowStepsSpec : ChangeSpec := { name := "flowSteps", fn := fun _ => fun
  | [d1, d2, d3, d4, d5] => { results := [.lit (.bool true)], args := [d1, d2, d3, d4, d5] }
  | _ => none }
def flowStepsRow : OpenClaim := { program := "ytmmdppjbofbjhaa", sum := "33b01777b2003dbf72b3f030dd5affaf105844fd7e4bbb019cecede7111966f9", func := "besom/besomlaw12.FlowSteps", spec := "flowSteps", unfollowed := true, recurses := true, plainKeys := false, apart := false }
def FlowStepsSaid : Prop := flowStepsRow.holds Try.pinned (OpenSpec.ofChange flowStepsSpec)

/-- ITS FALSE NEIGHBOUR: 'it returns false'. Refute it at one input. -/
def flowStepsWrong : ChangeSpec := { name := "flowSteps", fn := fun _ => fun
  | [d1, d2, d3, d4, d5] => { results := [.lit (.bool false)], args := [d1, d2, d3, d4, d5] }
  | _ => none }
def FlowStepsWrongFalsely : Prop := flowStepsRow.holds Try.pinned (OpenSpec.ofChange flowStepsWrong)

/-- 'besomlaw12.FlowHolds': WHATEVER THE INPUT: true; the input reads as it did. -/
def flowHoldsSpec : ChangeSpec := { name := "flowHolds", fn := fun _ => fun
  | [d] => { results := [.lit (.bool true)], args := [d] }
  | _ => none }
def flowHoldsRow : OpenClaim := { program := "ytmmdppjbofbjhaa", sum := "33b01777b2003dbf72b3f030dd5affaf105844fd7e4bbb019cecede7111966f9", func := "besom/besomlaw12.FlowHolds", spec := "flowHolds", unfollowed := true, recurses := true, plainKeys := false, apart := false }
def FlowHoldsSaid : Prop := flowHoldsRow.holds Try.pinned (OpenSpec.ofChange flowHoldsSpec)

/-- ITS FALSE NEIGHBOUR: 'it returns false'. Refute it at one input. -/
def flowHoldsWrong : ChangeSpec := { name := "flowHolds", fn := fun _ => fun
  | [d] => { results := [.lit (.bool false)], args := [d] }
  | _ => none }
def FlowHoldsWrongFalsely : Prop := flowHoldsRow.holds Try.pinned (OpenSpec.ofChange flowHoldsWrong)

/-- 'besomlaw12.FlowJoins': WHATEVER THE INPUT: true; the input reads as it did. -/
def flowJoinsSpec : ChangeSpec := { name := "flowJoins", fn := fun _ => fun
  | [d1, d2, d3] => { results := [.lit (.bool true)], args := [d1, d2, d3] }
  | _ => none }
def flowJoinsRow : OpenClaim := { program := "ytmmdppjbofbjhaa", sum := "33b01777b2003dbf72b3f030dd5affaf105844fd7e4bbb019cecede7111966f9", func := "besom/besomlaw12.FlowJoins", spec := "flowJoins", unfollowed := true, recurses := true, plainKeys := false, apart := false }
def FlowJoinsSaid : Prop := flowJoinsRow.holds Try.pinned (OpenSpec.ofChange flowJoinsSpec)

/-- ITS FALSE NEIGHBOUR: 'it returns false'. Refute it at one input. -/
def flowJoinsWrong : ChangeSpec := { name := "flowJoins", fn := fun _ => fun
  | [d1, d2, d3] => { results := [.lit (.bool false)], args := [d1, d2, d3] }
  | _ => none }
def FlowJoinsWrongFalsely : Prop := flowJoinsRow.holds Try.pinned (OpenSpec.ofChange flowJoinsWrong)

/-- 'besomlaw12.FlowReaches': WHATEVER THE INPUT: true; the input reads as it did. -/
def flowReachesSpec : ChangeSpec := { name := "flowReaches", fn := fun _ => fun
  | [d] => { results := [.lit (.bool true)], args := [d] }
  | _ => none }
def flowReachesRow : OpenClaim := { program := "ytmmdppjbofbjhaa", sum := "33b01777b2003dbf72b3f030dd5affaf105844fd7e4bbb019cecede7111966f9", func := "besom/besomlaw12.FlowReaches", spec := "flowReaches", unfollowed := true, recurses := true, plainKeys := false, apart := false }
def FlowReachesSaid : Prop := flowReachesRow.holds Try.pinned (OpenSpec.ofChange flowReachesSpec)

/-- ITS FALSE NEIGHBOUR: 'it returns false'. Refute it at one input. -/
def flowReachesWrong : ChangeSpec := { name := "flowReaches", fn := fun _ => fun
  | [d] => { results := [.lit (.bool false)], args := [d] }
  | _ => none }
def FlowReachesWrongFalsely : Prop := flowReachesRow.holds Try.pinned (OpenSpec.ofChange flowReachesWrong)

/- THE SECOND FORM. 'bulk': how many values and letters a reading holds, each counted each time it is reached (what is shared counts as often as it is met; a slice's spare places count too). A statement '..UptoSaid' is the law's where the arguments, and the package variables that the reading takes, are together of bulk at most 1048576: NARROWER than '..Said'. Prove '..Said' where nothing that the law and all that it calls make is longer than what came in: it says more and counts as full. Else prove '..UptoSaid'. A law counts once. -/
mutual
def uptoBulk {H : Type} : DataW H → Nat
  | .lit (.string bytes) => bytes.length + 1
  | .lit _ => 1
  | .nil => 1
  | .ptr d => uptoBulk d + 1
  | .slice elems spare => uptoBulkAll elems + uptoBulkAll spare + 1
  | .agg parts => uptoBulkAll parts + 1
  | .iface _ d => uptoBulk d + 1
  | .map entries => uptoBulkEntries entries + 1
  | .held _ => 1
def uptoBulkAll {H : Type} : List (DataW H) → Nat
  | [] => 0
  | d :: r => uptoBulk d + uptoBulkAll r
def uptoBulkEntries {H : Type} : List (Lit × DataW H) → Nat
  | [] => 0
  | x :: r => uptoBulkEntry x + uptoBulkEntries r
def uptoBulkEntry {H : Type} : Lit × DataW H → Nat
  | (.string bytes, d) => bytes.length + uptoBulk d + 1
  | (_, d) => uptoBulk d + 1
 end
def uptoSmall : (H : Type) → List (DataW H) → Bool := fun _ ds => decide (uptoBulkAll ds ≤ 1048576)
def OpenSpec.upto (s : _root_.Go.ChangeSpec) : _root_.Go.OpenSpec := { _root_.Go.OpenSpec.ofChange s with cond := some uptoSmall }

/-- 'besomlaw2.WordLaws', WHERE WHAT IT READS IS OF BULK AT MOST 1048576: true; the input reads as it did. -/
def wordLawsUptoRow : OpenClaim := { program := "ytmmdppjbofbjhaa", sum := "33b01777b2003dbf72b3f030dd5affaf105844fd7e4bbb019cecede7111966f9", func := "besom/besomlaw2.WordLaws", spec := "wordLaws", plainKeys := false, apart := false, narrowed := true }
def WordLawsUptoSaid : Prop := wordLawsUptoRow.holds Try.pinned (OpenSpec.upto wordLawsSpec)

/-- 'besomlaw2.WordRing', WHERE WHAT IT READS IS OF BULK AT MOST 1048576: true; the input reads as it did. -/
def wordRingUptoRow : OpenClaim := { program := "ytmmdppjbofbjhaa", sum := "33b01777b2003dbf72b3f030dd5affaf105844fd7e4bbb019cecede7111966f9", func := "besom/besomlaw2.WordRing", spec := "wordRing", plainKeys := false, apart := false, narrowed := true }
def WordRingUptoSaid : Prop := wordRingUptoRow.holds Try.pinned (OpenSpec.upto wordRingSpec)

/-- 'besomlaw2.WordShifts', WHERE WHAT IT READS IS OF BULK AT MOST 1048576: true; the input reads as it did. -/
def wordShiftsUptoRow : OpenClaim := { program := "ytmmdppjbofbjhaa", sum := "33b01777b2003dbf72b3f030dd5affaf105844fd7e4bbb019cecede7111966f9", func := "besom/besomlaw2.WordShifts", spec := "wordShifts", plainKeys := false, apart := false, narrowed := true }
def WordShiftsUptoSaid : Prop := wordShiftsUptoRow.holds Try.pinned (OpenSpec.upto wordShiftsSpec)

/-- 'besomlaw2.WordTells', WHERE WHAT IT READS IS OF BULK AT MOST 1048576: true; the input reads as it did. -/
def wordTellsUptoRow : OpenClaim := { program := "ytmmdppjbofbjhaa", sum := "33b01777b2003dbf72b3f030dd5affaf105844fd7e4bbb019cecede7111966f9", func := "besom/besomlaw2.WordTells", spec := "wordTells", plainKeys := false, apart := false, narrowed := true }
def WordTellsUptoSaid : Prop := wordTellsUptoRow.holds Try.pinned (OpenSpec.upto wordTellsSpec)

/-- 'besomlaw2.WordSame', WHERE WHAT IT READS IS OF BULK AT MOST 1048576: true; the input reads as it did. -/
def wordSameUptoRow : OpenClaim := { program := "ytmmdppjbofbjhaa", sum := "33b01777b2003dbf72b3f030dd5affaf105844fd7e4bbb019cecede7111966f9", func := "besom/besomlaw2.WordSame", spec := "wordSame", plainKeys := false, apart := false, narrowed := true }
def WordSameUptoSaid : Prop := wordSameUptoRow.holds Try.pinned (OpenSpec.upto wordSameSpec)

/-- 'besomlaw2.WordBytes', WHERE WHAT IT READS IS OF BULK AT MOST 1048576: true; the input reads as it did. -/
def wordBytesUptoRow : OpenClaim := { program := "ytmmdppjbofbjhaa", sum := "33b01777b2003dbf72b3f030dd5affaf105844fd7e4bbb019cecede7111966f9", func := "besom/besomlaw2.WordBytes", spec := "wordBytes", plainKeys := false, apart := false, narrowed := true }
def WordBytesUptoSaid : Prop := wordBytesUptoRow.holds Try.pinned (OpenSpec.upto wordBytesSpec)

/-- 'besomlaw9.InstrBytes', WHERE WHAT IT READS IS OF BULK AT MOST 1048576: true; the input reads as it did. -/
def instrBytesUptoRow : OpenClaim := { program := "ytmmdppjbofbjhaa", sum := "33b01777b2003dbf72b3f030dd5affaf105844fd7e4bbb019cecede7111966f9", func := "besom/besomlaw9.InstrBytes", spec := "instrBytes", plainKeys := false, apart := false, narrowed := true }
def InstrBytesUptoSaid : Prop := instrBytesUptoRow.holds Try.pinned (OpenSpec.upto instrBytesSpec)

/-- 'besomlaw9.InstrPrefix', WHERE WHAT IT READS IS OF BULK AT MOST 1048576: true; the input reads as it did. -/
def instrPrefixUptoRow : OpenClaim := { program := "ytmmdppjbofbjhaa", sum := "33b01777b2003dbf72b3f030dd5affaf105844fd7e4bbb019cecede7111966f9", func := "besom/besomlaw9.InstrPrefix", spec := "instrPrefix", plainKeys := false, apart := false, narrowed := true }
def InstrPrefixUptoSaid : Prop := instrPrefixUptoRow.holds Try.pinned (OpenSpec.upto instrPrefixSpec)

/-- 'besomlaw9.InstrTells', WHERE WHAT IT READS IS OF BULK AT MOST 1048576: true; the input reads as it did. -/
def instrTellsUptoRow : OpenClaim := { program := "ytmmdppjbofbjhaa", sum := "33b01777b2003dbf72b3f030dd5affaf105844fd7e4bbb019cecede7111966f9", func := "besom/besomlaw9.InstrTells", spec := "instrTells", plainKeys := false, apart := false, narrowed := true }
def InstrTellsUptoSaid : Prop := instrTellsUptoRow.holds Try.pinned (OpenSpec.upto instrTellsSpec)

/-- 'besomlaw10.ImageTells', WHERE WHAT IT READS IS OF BULK AT MOST 1048576: true; the input reads as it did. -/
def imageTellsUptoRow : OpenClaim := { program := "ytmmdppjbofbjhaa", sum := "33b01777b2003dbf72b3f030dd5affaf105844fd7e4bbb019cecede7111966f9", func := "besom/besomlaw10.ImageTells", spec := "imageTells", unfollowed := true, recurses := true, plainKeys := false, apart := false, narrowed := true }
def ImageTellsUptoSaid : Prop := imageTellsUptoRow.holds Try.pinned (OpenSpec.upto imageTellsSpec)

/-- 'besomlaw10.ImageCuts', WHERE WHAT IT READS IS OF BULK AT MOST 1048576: true; the input reads as it did. -/
def imageCutsUptoRow : OpenClaim := { program := "ytmmdppjbofbjhaa", sum := "33b01777b2003dbf72b3f030dd5affaf105844fd7e4bbb019cecede7111966f9", func := "besom/besomlaw10.ImageCuts", spec := "imageCuts", unfollowed := true, recurses := true, plainKeys := false, apart := false, narrowed := true }
def ImageCutsUptoSaid : Prop := imageCutsUptoRow.holds Try.pinned (OpenSpec.upto imageCutsSpec)

/-- 'besomlaw10.ImageUnlike', WHERE WHAT IT READS IS OF BULK AT MOST 1048576: true; the input reads as it did. -/
def imageUnlikeUptoRow : OpenClaim := { program := "ytmmdppjbofbjhaa", sum := "33b01777b2003dbf72b3f030dd5affaf105844fd7e4bbb019cecede7111966f9", func := "besom/besomlaw10.ImageUnlike", spec := "imageUnlike", unfollowed := true, recurses := true, plainKeys := false, apart := false, narrowed := true }
def ImageUnlikeUptoSaid : Prop := imageUnlikeUptoRow.holds Try.pinned (OpenSpec.upto imageUnlikeSpec)

/-- 'besomlaw10.ImageCopies', WHERE WHAT IT READS IS OF BULK AT MOST 1048576: true; the input reads as it did. -/
def imageCopiesUptoRow : OpenClaim := { program := "ytmmdppjbofbjhaa", sum := "33b01777b2003dbf72b3f030dd5affaf105844fd7e4bbb019cecede7111966f9", func := "besom/besomlaw10.ImageCopies", spec := "imageCopies", unfollowed := true, recurses := true, plainKeys := false, apart := false, narrowed := true }
def ImageCopiesUptoSaid : Prop := imageCopiesUptoRow.holds Try.pinned (OpenSpec.upto imageCopiesSpec)

/-- 'besomlaw11.CheckEach', WHERE WHAT IT READS IS OF BULK AT MOST 1048576: true; the input reads as it did. -/
def checkEachUptoRow : OpenClaim := { program := "ytmmdppjbofbjhaa", sum := "33b01777b2003dbf72b3f030dd5affaf105844fd7e4bbb019cecede7111966f9", func := "besom/besomlaw11.CheckEach", spec := "checkEach", unfollowed := true, recurses := true, plainKeys := false, apart := false, narrowed := true }
def CheckEachUptoSaid : Prop := checkEachUptoRow.holds Try.pinned (OpenSpec.upto checkEachSpec)

/-- 'besomlaw11.CheckTells', WHERE WHAT IT READS IS OF BULK AT MOST 1048576: true; the input reads as it did. -/
def checkTellsUptoRow : OpenClaim := { program := "ytmmdppjbofbjhaa", sum := "33b01777b2003dbf72b3f030dd5affaf105844fd7e4bbb019cecede7111966f9", func := "besom/besomlaw11.CheckTells", spec := "checkTells", unfollowed := true, recurses := true, plainKeys := false, apart := false, narrowed := true }
def CheckTellsUptoSaid : Prop := checkTellsUptoRow.holds Try.pinned (OpenSpec.upto checkTellsSpec)

/-- 'besomlaw12.FlowSteps', WHERE WHAT IT READS IS OF BULK AT MOST 1048576: true; the input reads as it did. -/
def flowStepsUptoRow : OpenClaim := { program := "ytmmdppjbofbjhaa", sum := "33b01777b2003dbf72b3f030dd5affaf105844fd7e4bbb019cecede7111966f9", func := "besom/besomlaw12.FlowSteps", spec := "flowSteps", unfollowed := true, recurses := true, plainKeys := false, apart := false, narrowed := true }
def FlowStepsUptoSaid : Prop := flowStepsUptoRow.holds Try.pinned (OpenSpec.upto flowStepsSpec)

/-- 'besomlaw12.FlowHolds', WHERE WHAT IT READS IS OF BULK AT MOST 1048576: true; the input reads as it did. -/
def flowHoldsUptoRow : OpenClaim := { program := "ytmmdppjbofbjhaa", sum := "33b01777b2003dbf72b3f030dd5affaf105844fd7e4bbb019cecede7111966f9", func := "besom/besomlaw12.FlowHolds", spec := "flowHolds", unfollowed := true, recurses := true, plainKeys := false, apart := false, narrowed := true }
def FlowHoldsUptoSaid : Prop := flowHoldsUptoRow.holds Try.pinned (OpenSpec.upto flowHoldsSpec)

/-- 'besomlaw12.FlowJoins', WHERE WHAT IT READS IS OF BULK AT MOST 1048576: true; the input reads as it did. -/
def flowJoinsUptoRow : OpenClaim := { program := "ytmmdppjbofbjhaa", sum := "33b01777b2003dbf72b3f030dd5affaf105844fd7e4bbb019cecede7111966f9", func := "besom/besomlaw12.FlowJoins", spec := "flowJoins", unfollowed := true, recurses := true, plainKeys := false, apart := false, narrowed := true }
def FlowJoinsUptoSaid : Prop := flowJoinsUptoRow.holds Try.pinned (OpenSpec.upto flowJoinsSpec)

/-- 'besomlaw12.FlowReaches', WHERE WHAT IT READS IS OF BULK AT MOST 1048576: true; the input reads as it did. -/
def flowReachesUptoRow : OpenClaim := { program := "ytmmdppjbofbjhaa", sum := "33b01777b2003dbf72b3f030dd5affaf105844fd7e4bbb019cecede7111966f9", func := "besom/besomlaw12.FlowReaches", spec := "flowReaches", unfollowed := true, recurses := true, plainKeys := false, apart := false, narrowed := true }
def FlowReachesUptoSaid : Prop := flowReachesUptoRow.holds Try.pinned (OpenSpec.upto flowReachesSpec)

end Rows
end Go.Proofs.Ytmmdppjbofbjhaa
