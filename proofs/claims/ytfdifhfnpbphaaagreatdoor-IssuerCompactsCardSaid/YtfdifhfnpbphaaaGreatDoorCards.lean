/-
  DERIVED. GIVEN WITH THE SEED: THE CARDS: each row of YtfdifhfnpbphaaaGreatDoorRows.lean that lists a variable, with what it lists TIED to the program's text (the seventh form; the later family's looks); each row that meets fmt, with fmt's text TOLD by the authors' own Lean function (tested against real Go, not proved from fmt's source: count such statements apart). THE CARD IS WHAT COUNTS. Prove the row's statement (the work); the ties are given (YtfdifhfnpbphaaaGreatDoorTie.lean); close each card by the builder's one call (the guide's Derived/Test/ToyasCard.lean, 'card_holds'). Laid BY PROGRAM, IN A SANDBOX (cutbox-door.mjs). By AI agents, Wed Nov 11 2026. No macro, syntax, notation, axiom, sorry.
-/
import Derived.Test.YtfdifhfnpbphaaaGreatDoorRows
import GoSem.ClaimSeven
namespace Go.Proofs.YtfdifhfnpbphaaaGreatDoor
namespace Rows

/-- THE TIED CARD OF 'macaroonlaw26.IssuerRecovers'. -/
def issuerRecoversCard : Claim7 := { stood := { row := issuerRecoversRow, standIns := [], harness := (true, "504ebc798fa0ddb08daa63e027fb3385d006d20408489e7375be5ca167193b53"), looks := false }, kinds := [], alts := [], laidByText := true, laidKinds := [.data, .data], laidTests := true, laidLooks := .later }
def IssuerRecoversCardSaid : Prop := Claim7.holds Tryz.pinned (.plain (OpenSpec.ofChange issuerRecoversSpec)) issuerRecoversCard

/-- THE TIED CARD OF 'macaroonlaw26.IssuerCompacts'. -/
def issuerCompactsCard : Claim7 := { stood := { row := issuerCompactsRow, standIns := [], harness := (true, "504ebc798fa0ddb08daa63e027fb3385d006d20408489e7375be5ca167193b53"), looks := false }, kinds := [], alts := [], laidByText := true, laidKinds := [.data, .data], laidTests := true, laidLooks := .later }
def IssuerCompactsCardSaid : Prop := Claim7.holds Tryz.pinned (.plain (OpenSpec.ofChange issuerCompactsSpec)) issuerCompactsCard

/-- THE TIED CARD OF 'macaroonlaw26.IssuerSteps'. -/
def issuerStepsCard : Claim7 := { stood := { row := issuerStepsRow, standIns := [], harness := (true, "504ebc798fa0ddb08daa63e027fb3385d006d20408489e7375be5ca167193b53"), looks := false }, kinds := [], alts := [], laidByText := true, laidKinds := [.data, .data], laidTests := true, laidLooks := .later }
def IssuerStepsCardSaid : Prop := Claim7.holds Tryz.pinned (.plain (OpenSpec.ofChange issuerStepsSpec)) issuerStepsCard

/-- THE TIED CARD OF 'macaroonlaw26.IssuerMints'. -/
def issuerMintsCard : Claim7 := { stood := { row := issuerMintsRow, standIns := [], harness := (true, "504ebc798fa0ddb08daa63e027fb3385d006d20408489e7375be5ca167193b53"), looks := false }, kinds := [], alts := [], laidByText := true, laidKinds := [.data, .data], laidTests := true, laidLooks := .later }
def IssuerMintsCardSaid : Prop := Claim7.holds Tryz.pinned (.plain (OpenSpec.ofChange issuerMintsSpec)) issuerMintsCard

/-- THE SECOND FORM's CARD OF 'macaroonlaw26.IssuerRecovers'. -/
def issuerRecoversUptoCard : Claim7 := { stood := { row := issuerRecoversUptoRow, standIns := [], harness := (true, "504ebc798fa0ddb08daa63e027fb3385d006d20408489e7375be5ca167193b53"), looks := false }, kinds := [], alts := [], laidByText := true, laidKinds := [.data, .data], laidTests := true, laidLooks := .later }
def IssuerRecoversUptoCardSaid : Prop := Claim7.holds Tryz.pinned (.plain (OpenSpec.upto issuerRecoversSpec)) issuerRecoversUptoCard

/-- THE SECOND FORM's CARD OF 'macaroonlaw26.IssuerCompacts'. -/
def issuerCompactsUptoCard : Claim7 := { stood := { row := issuerCompactsUptoRow, standIns := [], harness := (true, "504ebc798fa0ddb08daa63e027fb3385d006d20408489e7375be5ca167193b53"), looks := false }, kinds := [], alts := [], laidByText := true, laidKinds := [.data, .data], laidTests := true, laidLooks := .later }
def IssuerCompactsUptoCardSaid : Prop := Claim7.holds Tryz.pinned (.plain (OpenSpec.upto issuerCompactsSpec)) issuerCompactsUptoCard

/-- THE SECOND FORM's CARD OF 'macaroonlaw26.IssuerSteps'. -/
def issuerStepsUptoCard : Claim7 := { stood := { row := issuerStepsUptoRow, standIns := [], harness := (true, "504ebc798fa0ddb08daa63e027fb3385d006d20408489e7375be5ca167193b53"), looks := false }, kinds := [], alts := [], laidByText := true, laidKinds := [.data, .data], laidTests := true, laidLooks := .later }
def IssuerStepsUptoCardSaid : Prop := Claim7.holds Tryz.pinned (.plain (OpenSpec.upto issuerStepsSpec)) issuerStepsUptoCard

/-- THE SECOND FORM's CARD OF 'macaroonlaw26.IssuerMints'. -/
def issuerMintsUptoCard : Claim7 := { stood := { row := issuerMintsUptoRow, standIns := [], harness := (true, "504ebc798fa0ddb08daa63e027fb3385d006d20408489e7375be5ca167193b53"), looks := false }, kinds := [], alts := [], laidByText := true, laidKinds := [.data, .data], laidTests := true, laidLooks := .later }
def IssuerMintsUptoCardSaid : Prop := Claim7.holds Tryz.pinned (.plain (OpenSpec.upto issuerMintsSpec)) issuerMintsUptoCard
end Rows
end Go.Proofs.YtfdifhfnpbphaaaGreatDoor
