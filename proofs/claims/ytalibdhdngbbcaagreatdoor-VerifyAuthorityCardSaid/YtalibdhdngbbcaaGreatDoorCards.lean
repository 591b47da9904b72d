/-
  DERIVED. GIVEN WITH THE SEED: THE CARDS: each row of YtalibdhdngbbcaaGreatDoorRows.lean that lists a variable, with what it lists TIED to the program's text (the seventh form; the later family's looks); each row that meets fmt, with fmt's text TOLD by the authors' own Lean function (tested against real Go, not proved from fmt's source: count such statements apart). THE CARD IS WHAT COUNTS. Prove the row's statement (the work); the ties are given (YtalibdhdngbbcaaGreatDoorTie.lean); close each card by the builder's one call (the guide's Derived/Test/ToyasCard.lean, 'card_holds'). Laid BY PROGRAM, IN A SANDBOX (cutbox-door.mjs). By AI agents, Wed Nov 11 2026. No macro, syntax, notation, axiom, sorry.
-/
import Derived.Test.YtalibdhdngbbcaaGreatDoorRows
import GoSem.ClaimSeven
namespace Go.Proofs.YtalibdhdngbbcaaGreatDoor
namespace Rows

/-- THE TIED CARD OF 'macaroonlaw17.VerifyAuthority'. -/
def verifyAuthorityCard : Claim7 := { stood := { row := verifyAuthorityRow, standIns := [], harness := (true, "4a45e8146086353bfa968d4d5f8e6a06349a60ca57b52d55b2b41ad3f8668915"), looks := false }, kinds := [], alts := [], laidByText := true, laidKinds := [.data, .data], laidTests := true, laidLooks := .later }
def VerifyAuthorityCardSaid : Prop := Claim7.holds Tryz.pinned (.plain (OpenSpec.ofChange verifyAuthoritySpec)) verifyAuthorityCard

/-- THE SECOND FORM's CARD OF 'macaroonlaw17.VerifyAuthority'. -/
def verifyAuthorityUptoCard : Claim7 := { stood := { row := verifyAuthorityUptoRow, standIns := [], harness := (true, "4a45e8146086353bfa968d4d5f8e6a06349a60ca57b52d55b2b41ad3f8668915"), looks := false }, kinds := [], alts := [], laidByText := true, laidKinds := [.data, .data], laidTests := true, laidLooks := .later }
def VerifyAuthorityUptoCardSaid : Prop := Claim7.holds Tryz.pinned (.plain (OpenSpec.upto verifyAuthoritySpec)) verifyAuthorityUptoCard
end Rows
end Go.Proofs.YtalibdhdngbbcaaGreatDoor
