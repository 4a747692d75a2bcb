/-
  DERIVED. GIVEN WITH THE SEED: THE CARDS: each row of YtbkkhmafheimfaaGreatDoorRows.lean that lists a variable, with what it lists TIED to the program's text (the seventh form; the later family's looks); each row that meets fmt, with fmt's text TOLD by the authors' own Lean function (tested against real Go, not proved from fmt's source: count such statements apart). THE CARD IS WHAT COUNTS. Prove the row's statement (the work); the ties are given (YtbkkhmafheimfaaGreatDoorTie.lean); close each card by the builder's one call (the guide's Derived/Test/ToyasCard.lean, 'card_holds'). Laid BY PROGRAM, IN A SANDBOX (cutbox-door.mjs). By AI agents, Wed Nov 11 2026. No macro, syntax, notation, axiom, sorry.
-/
import Derived.Test.YtbkkhmafheimfaaGreatDoorRows
import GoSem.ClaimSeven
namespace Go.Proofs.YtbkkhmafheimfaaGreatDoor
namespace Rows

/-- THE TIED CARD OF 'besomlaw26.ScriptCuts'. -/
def scriptCutsCard : Claim7 := { stood := { row := scriptCutsRow, standIns := [], harness := (true, "83f7dd93076116e69867feb3093894251fc1e5859681834255656c9a1493424b"), looks := false }, kinds := [], alts := [], laidByText := true, laidKinds := [.data, .data, .data], laidTests := true, laidLooks := .later }
def ScriptCutsCardSaid : Prop := Claim7.holds Tryz.pinned (.plain (OpenSpec.ofChange scriptCutsSpec)) scriptCutsCard

/-- THE TIED CARD OF 'besomlaw26.PackLimits'. -/
def packLimitsCard : Claim7 := { stood := { row := packLimitsRow, standIns := [], harness := (true, "83f7dd93076116e69867feb3093894251fc1e5859681834255656c9a1493424b"), looks := false }, kinds := [], alts := [], laidByText := true, laidKinds := [.data, .data, .data], laidTests := true, laidLooks := .later }
def PackLimitsCardSaid : Prop := Claim7.holds Tryz.pinned (.plain (OpenSpec.ofChange packLimitsSpec)) packLimitsCard

/-- THE SECOND FORM's CARD OF 'besomlaw26.ScriptCuts'. -/
def scriptCutsUptoCard : Claim7 := { stood := { row := scriptCutsUptoRow, standIns := [], harness := (true, "83f7dd93076116e69867feb3093894251fc1e5859681834255656c9a1493424b"), looks := false }, kinds := [], alts := [], laidByText := true, laidKinds := [.data, .data, .data], laidTests := true, laidLooks := .later }
def ScriptCutsUptoCardSaid : Prop := Claim7.holds Tryz.pinned (.plain (OpenSpec.upto scriptCutsSpec)) scriptCutsUptoCard

/-- THE SECOND FORM's CARD OF 'besomlaw26.PackLimits'. -/
def packLimitsUptoCard : Claim7 := { stood := { row := packLimitsUptoRow, standIns := [], harness := (true, "83f7dd93076116e69867feb3093894251fc1e5859681834255656c9a1493424b"), looks := false }, kinds := [], alts := [], laidByText := true, laidKinds := [.data, .data, .data], laidTests := true, laidLooks := .later }
def PackLimitsUptoCardSaid : Prop := Claim7.holds Tryz.pinned (.plain (OpenSpec.upto packLimitsSpec)) packLimitsUptoCard
end Rows
end Go.Proofs.YtbkkhmafheimfaaGreatDoor
