/-
  DERIVED. GIVEN WITH THE SEED: THE CARDS: each row of YtfkbejimghamkaaGreatDoorRows.lean that lists a variable, with what it lists TIED to the program's text (the seventh form; the later family's looks); each row that meets fmt, with fmt's text TOLD by the authors' own Lean function (tested against real Go, not proved from fmt's source: count such statements apart). THE CARD IS WHAT COUNTS. Prove the row's statement (the work); the ties are given (YtfkbejimghamkaaGreatDoorTie.lean); close each card by the builder's one call (the guide's Derived/Test/ToyasCard.lean, 'card_holds'). Laid BY PROGRAM, IN A SANDBOX (cutbox-door.mjs). By AI agents, Wed Nov 11 2026. No macro, syntax, notation, axiom, sorry.
-/
import Derived.Test.YtfkbejimghamkaaGreatDoorRows
import GoSem.ClaimSeven
namespace Go.Proofs.YtfkbejimghamkaaGreatDoor
namespace Rows

/-- THE TIED CARD OF 'macaroonlaw33.ScriptFormat'. -/
def scriptFormatCard : Claim7 := { stood := { row := scriptFormatRow, standIns := [], harness := (true, "6d3e40d2c84cadd5cfd05bb9e46f19514b52cd58bf92da850fb6d69992ecd904"), looks := true }, kinds := [], alts := [], laidByText := true, laidKinds := [.data, .data, .data, .data, .sentinel, .sentinel, .data, .data, .pinned], laidTests := true, laidLooks := .later }
def ScriptFormatCardSaid : Prop := Claim7.holds Tryz.pinned (.plain (OpenSpec.ofChange scriptFormatSpec)) scriptFormatCard

/-- THE TIED CARD OF 'macaroonlaw33.ScriptParse'. -/
def scriptParseCard : Claim7 := { stood := { row := scriptParseRow, standIns := [], harness := (true, "6d3e40d2c84cadd5cfd05bb9e46f19514b52cd58bf92da850fb6d69992ecd904"), looks := true }, kinds := [], alts := [], laidByText := true, laidKinds := [.data, .data, .data, .data, .sentinel, .sentinel, .data, .data, .pinned], laidTests := true, laidLooks := .later }
def ScriptParseCardSaid : Prop := Claim7.holds Tryz.pinned (.plain (OpenSpec.ofChange scriptParseSpec)) scriptParseCard

/-- THE TIED CARD OF 'macaroonlaw33.ScriptBack'. -/
def scriptBackCard : Claim7 := { stood := { row := scriptBackRow, standIns := [], harness := (true, "6d3e40d2c84cadd5cfd05bb9e46f19514b52cd58bf92da850fb6d69992ecd904"), looks := true }, kinds := [], alts := [], laidByText := true, laidKinds := [.data, .data, .data, .data, .sentinel, .sentinel, .data, .data, .pinned], laidTests := true, laidLooks := .later }
def ScriptBackCardSaid : Prop := Claim7.holds Tryz.pinned (.plain (OpenSpec.ofChange scriptBackSpec)) scriptBackCard

/-- THE SECOND FORM's CARD OF 'macaroonlaw33.ScriptFormat'. -/
def scriptFormatUptoCard : Claim7 := { stood := { row := scriptFormatUptoRow, standIns := [], harness := (true, "6d3e40d2c84cadd5cfd05bb9e46f19514b52cd58bf92da850fb6d69992ecd904"), looks := true }, kinds := [], alts := [], laidByText := true, laidKinds := [.data, .data, .data, .data, .sentinel, .sentinel, .data, .data, .pinned], laidTests := true, laidLooks := .later }
def ScriptFormatUptoCardSaid : Prop := Claim7.holds Tryz.pinned (.plain (OpenSpec.upto scriptFormatSpec)) scriptFormatUptoCard

/-- THE SECOND FORM's CARD OF 'macaroonlaw33.ScriptParse'. -/
def scriptParseUptoCard : Claim7 := { stood := { row := scriptParseUptoRow, standIns := [], harness := (true, "6d3e40d2c84cadd5cfd05bb9e46f19514b52cd58bf92da850fb6d69992ecd904"), looks := true }, kinds := [], alts := [], laidByText := true, laidKinds := [.data, .data, .data, .data, .sentinel, .sentinel, .data, .data, .pinned], laidTests := true, laidLooks := .later }
def ScriptParseUptoCardSaid : Prop := Claim7.holds Tryz.pinned (.plain (OpenSpec.upto scriptParseSpec)) scriptParseUptoCard

/-- THE SECOND FORM's CARD OF 'macaroonlaw33.ScriptBack'. -/
def scriptBackUptoCard : Claim7 := { stood := { row := scriptBackUptoRow, standIns := [], harness := (true, "6d3e40d2c84cadd5cfd05bb9e46f19514b52cd58bf92da850fb6d69992ecd904"), looks := true }, kinds := [], alts := [], laidByText := true, laidKinds := [.data, .data, .data, .data, .sentinel, .sentinel, .data, .data, .pinned], laidTests := true, laidLooks := .later }
def ScriptBackUptoCardSaid : Prop := Claim7.holds Tryz.pinned (.plain (OpenSpec.upto scriptBackSpec)) scriptBackUptoCard
end Rows
end Go.Proofs.YtfkbejimghamkaaGreatDoor
