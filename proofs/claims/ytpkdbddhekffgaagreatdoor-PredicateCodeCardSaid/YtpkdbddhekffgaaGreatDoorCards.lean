/-
  DERIVED. GIVEN WITH THE SEED: THE CARDS: each row of YtpkdbddhekffgaaGreatDoorRows.lean that lists a variable, with what it lists TIED to the program's text (the seventh form; the later family's looks); each row that meets fmt, with fmt's text TOLD by the authors' own Lean function (tested against real Go, not proved from fmt's source: count such statements apart). THE CARD IS WHAT COUNTS. Prove the row's statement (the work); the ties are given (YtpkdbddhekffgaaGreatDoorTie.lean); close each card by the builder's one call (the guide's Derived/Test/ToyasCard.lean, 'card_holds'). Laid BY PROGRAM, IN A SANDBOX (cutbox-door.mjs). By AI agents, Wed Nov 11 2026. No macro, syntax, notation, axiom, sorry.
-/
import Derived.Test.YtpkdbddhekffgaaGreatDoorRows
import GoSem.ClaimSeven
namespace Go.Proofs.YtpkdbddhekffgaaGreatDoor
namespace Rows

/-- THE TIED CARD OF 'macaroonlaw06.PredicateCode'. -/
def predicateCodeCard : Claim7 := { stood := { row := predicateCodeRow, standIns := [], harness := (true, "ae663dc7b58ac02e20457f392f658e86d72aa53723c54f6a64e421649b01b1fe"), looks := true }, kinds := [], alts := [], laidByText := true, laidKinds := [.data, .data, .data, .data, .sentinel, .sentinel, .data, .data, .pinned], laidTests := true, laidLooks := .later }
def PredicateCodeCardSaid : Prop := Claim7.holds Tryz.pinned (.plain (OpenSpec.ofChange predicateCodeSpec)) predicateCodeCard

/-- THE SECOND FORM's CARD OF 'macaroonlaw06.PredicateCode'. -/
def predicateCodeUptoCard : Claim7 := { stood := { row := predicateCodeUptoRow, standIns := [], harness := (true, "ae663dc7b58ac02e20457f392f658e86d72aa53723c54f6a64e421649b01b1fe"), looks := true }, kinds := [], alts := [], laidByText := true, laidKinds := [.data, .data, .data, .data, .sentinel, .sentinel, .data, .data, .pinned], laidTests := true, laidLooks := .later }
def PredicateCodeUptoCardSaid : Prop := Claim7.holds Tryz.pinned (.plain (OpenSpec.upto predicateCodeSpec)) predicateCodeUptoCard
end Rows
end Go.Proofs.YtpkdbddhekffgaaGreatDoor
