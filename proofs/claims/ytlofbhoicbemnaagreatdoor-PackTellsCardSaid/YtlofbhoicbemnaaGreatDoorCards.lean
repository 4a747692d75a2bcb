/-
  DERIVED. GIVEN WITH THE SEED: THE CARDS: each row of YtlofbhoicbemnaaGreatDoorRows.lean that lists a variable, with what it lists TIED to the program's text (the seventh form; the later family's looks); each row that meets fmt, with fmt's text TOLD by the authors' own Lean function (tested against real Go, not proved from fmt's source: count such statements apart). THE CARD IS WHAT COUNTS. Prove the row's statement (the work); the ties are given (YtlofbhoicbemnaaGreatDoorTie.lean); close each card by the builder's one call (the guide's Derived/Test/ToyasCard.lean, 'card_holds'). Laid BY PROGRAM, IN A SANDBOX (cutbox-door.mjs). By AI agents, Wed Nov 11 2026. No macro, syntax, notation, axiom, sorry.
-/
import Derived.Test.YtlofbhoicbemnaaGreatDoorRows
import GoSem.ClaimSeven
namespace Go.Proofs.YtlofbhoicbemnaaGreatDoor
namespace Rows

/-- THE TIED CARD OF 'besomlaw26.ScriptTells'. -/
def scriptTellsCard : Claim7 := { stood := { row := scriptTellsRow, standIns := [], harness := (true, "226623a87393296f8e67acba646bbd9367049c8a0decb9f135ccccb66b588ef5"), looks := false }, kinds := [], alts := [], laidByText := true, laidKinds := [.data, .data, .data], laidTests := true, laidLooks := .later }
def ScriptTellsCardSaid : Prop := Claim7.holds Tryz.pinned (.plain (OpenSpec.ofChange scriptTellsSpec)) scriptTellsCard

/-- THE TIED CARD OF 'besomlaw26.PackTells'. -/
def packTellsCard : Claim7 := { stood := { row := packTellsRow, standIns := [], harness := (true, "226623a87393296f8e67acba646bbd9367049c8a0decb9f135ccccb66b588ef5"), looks := false }, kinds := [], alts := [], laidByText := true, laidKinds := [.data, .data, .data], laidTests := true, laidLooks := .later }
def PackTellsCardSaid : Prop := Claim7.holds Tryz.pinned (.plain (OpenSpec.ofChange packTellsSpec)) packTellsCard

/-- THE SECOND FORM's CARD OF 'besomlaw26.ScriptTells'. -/
def scriptTellsUptoCard : Claim7 := { stood := { row := scriptTellsUptoRow, standIns := [], harness := (true, "226623a87393296f8e67acba646bbd9367049c8a0decb9f135ccccb66b588ef5"), looks := false }, kinds := [], alts := [], laidByText := true, laidKinds := [.data, .data, .data], laidTests := true, laidLooks := .later }
def ScriptTellsUptoCardSaid : Prop := Claim7.holds Tryz.pinned (.plain (OpenSpec.upto scriptTellsSpec)) scriptTellsUptoCard

/-- THE SECOND FORM's CARD OF 'besomlaw26.PackTells'. -/
def packTellsUptoCard : Claim7 := { stood := { row := packTellsUptoRow, standIns := [], harness := (true, "226623a87393296f8e67acba646bbd9367049c8a0decb9f135ccccb66b588ef5"), looks := false }, kinds := [], alts := [], laidByText := true, laidKinds := [.data, .data, .data], laidTests := true, laidLooks := .later }
def PackTellsUptoCardSaid : Prop := Claim7.holds Tryz.pinned (.plain (OpenSpec.upto packTellsSpec)) packTellsUptoCard
end Rows
end Go.Proofs.YtlofbhoicbemnaaGreatDoor
