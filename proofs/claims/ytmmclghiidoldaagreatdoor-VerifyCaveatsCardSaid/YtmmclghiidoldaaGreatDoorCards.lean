/-
  DERIVED. GIVEN WITH THE SEED: THE CARDS: each row of YtmmclghiidoldaaGreatDoorRows.lean that lists a variable, with what it lists TIED to the program's text (the seventh form; the later family's looks); each row that meets fmt, with fmt's text TOLD by the authors' own Lean function (tested against real Go, not proved from fmt's source: count such statements apart). THE CARD IS WHAT COUNTS. Prove the row's statement (the work); the ties are given (YtmmclghiidoldaaGreatDoorTie.lean); close each card by the builder's one call (the guide's Derived/Test/ToyasCard.lean, 'card_holds'). Laid BY PROGRAM, IN A SANDBOX (cutbox-door.mjs). By AI agents, Wed Nov 11 2026. No macro, syntax, notation, axiom, sorry.
-/
import Derived.Test.YtmmclghiidoldaaGreatDoorRows
import GoSem.ClaimSeven
namespace Go.Proofs.YtmmclghiidoldaaGreatDoor
namespace Rows

/-- THE TIED CARD OF 'macaroonlaw17.VerifyExact'. -/
def verifyExactCard : Claim7 := { stood := { row := verifyExactRow, standIns := [], harness := (true, "5fdb7b550b4830da1e8b150d6d005405127b00b32262d946495145abf812bc9b"), looks := false }, kinds := [], alts := [], laidByText := true, laidKinds := [.data, .data], laidTests := true, laidLooks := .later }
def VerifyExactCardSaid : Prop := Claim7.holds Tryz.pinned (.plain (OpenSpec.ofChange verifyExactSpec)) verifyExactCard

/-- THE TIED CARD OF 'macaroonlaw17.VerifyHonest'. -/
def verifyHonestCard : Claim7 := { stood := { row := verifyHonestRow, standIns := [], harness := (true, "5fdb7b550b4830da1e8b150d6d005405127b00b32262d946495145abf812bc9b"), looks := false }, kinds := [], alts := [], laidByText := true, laidKinds := [.data, .data], laidTests := true, laidLooks := .later }
def VerifyHonestCardSaid : Prop := Claim7.holds Tryz.pinned (.plain (OpenSpec.ofChange verifyHonestSpec)) verifyHonestCard

/-- THE TIED CARD OF 'macaroonlaw17.VerifyTampered'. -/
def verifyTamperedCard : Claim7 := { stood := { row := verifyTamperedRow, standIns := [], harness := (true, "5fdb7b550b4830da1e8b150d6d005405127b00b32262d946495145abf812bc9b"), looks := false }, kinds := [], alts := [], laidByText := true, laidKinds := [.data, .data], laidTests := true, laidLooks := .later }
def VerifyTamperedCardSaid : Prop := Claim7.holds Tryz.pinned (.plain (OpenSpec.ofChange verifyTamperedSpec)) verifyTamperedCard

/-- THE TIED CARD OF 'macaroonlaw17.VerifyEpoch'. -/
def verifyEpochCard : Claim7 := { stood := { row := verifyEpochRow, standIns := [], harness := (true, "5fdb7b550b4830da1e8b150d6d005405127b00b32262d946495145abf812bc9b"), looks := false }, kinds := [], alts := [], laidByText := true, laidKinds := [.data, .data], laidTests := true, laidLooks := .later }
def VerifyEpochCardSaid : Prop := Claim7.holds Tryz.pinned (.plain (OpenSpec.ofChange verifyEpochSpec)) verifyEpochCard

/-- THE TIED CARD OF 'macaroonlaw17.VerifyCaveats'. -/
def verifyCaveatsCard : Claim7 := { stood := { row := verifyCaveatsRow, standIns := [], harness := (true, "5fdb7b550b4830da1e8b150d6d005405127b00b32262d946495145abf812bc9b"), looks := false }, kinds := [], alts := [], laidByText := true, laidKinds := [.data, .data], laidTests := true, laidLooks := .later }
def VerifyCaveatsCardSaid : Prop := Claim7.holds Tryz.pinned (.plain (OpenSpec.ofChange verifyCaveatsSpec)) verifyCaveatsCard

/-- THE TIED CARD OF 'macaroonlaw17.VerifyAuthority'. -/
def verifyAuthorityCard : Claim7 := { stood := { row := verifyAuthorityRow, standIns := [], harness := (true, "5fdb7b550b4830da1e8b150d6d005405127b00b32262d946495145abf812bc9b"), looks := false }, kinds := [], alts := [], laidByText := true, laidKinds := [.data, .data], laidTests := true, laidLooks := .later }
def VerifyAuthorityCardSaid : Prop := Claim7.holds Tryz.pinned (.plain (OpenSpec.ofChange verifyAuthoritySpec)) verifyAuthorityCard

/-- THE SECOND FORM's CARD OF 'macaroonlaw17.VerifyExact'. -/
def verifyExactUptoCard : Claim7 := { stood := { row := verifyExactUptoRow, standIns := [], harness := (true, "5fdb7b550b4830da1e8b150d6d005405127b00b32262d946495145abf812bc9b"), looks := false }, kinds := [], alts := [], laidByText := true, laidKinds := [.data, .data], laidTests := true, laidLooks := .later }
def VerifyExactUptoCardSaid : Prop := Claim7.holds Tryz.pinned (.plain (OpenSpec.upto verifyExactSpec)) verifyExactUptoCard

/-- THE SECOND FORM's CARD OF 'macaroonlaw17.VerifyHonest'. -/
def verifyHonestUptoCard : Claim7 := { stood := { row := verifyHonestUptoRow, standIns := [], harness := (true, "5fdb7b550b4830da1e8b150d6d005405127b00b32262d946495145abf812bc9b"), looks := false }, kinds := [], alts := [], laidByText := true, laidKinds := [.data, .data], laidTests := true, laidLooks := .later }
def VerifyHonestUptoCardSaid : Prop := Claim7.holds Tryz.pinned (.plain (OpenSpec.upto verifyHonestSpec)) verifyHonestUptoCard

/-- THE SECOND FORM's CARD OF 'macaroonlaw17.VerifyTampered'. -/
def verifyTamperedUptoCard : Claim7 := { stood := { row := verifyTamperedUptoRow, standIns := [], harness := (true, "5fdb7b550b4830da1e8b150d6d005405127b00b32262d946495145abf812bc9b"), looks := false }, kinds := [], alts := [], laidByText := true, laidKinds := [.data, .data], laidTests := true, laidLooks := .later }
def VerifyTamperedUptoCardSaid : Prop := Claim7.holds Tryz.pinned (.plain (OpenSpec.upto verifyTamperedSpec)) verifyTamperedUptoCard

/-- THE SECOND FORM's CARD OF 'macaroonlaw17.VerifyEpoch'. -/
def verifyEpochUptoCard : Claim7 := { stood := { row := verifyEpochUptoRow, standIns := [], harness := (true, "5fdb7b550b4830da1e8b150d6d005405127b00b32262d946495145abf812bc9b"), looks := false }, kinds := [], alts := [], laidByText := true, laidKinds := [.data, .data], laidTests := true, laidLooks := .later }
def VerifyEpochUptoCardSaid : Prop := Claim7.holds Tryz.pinned (.plain (OpenSpec.upto verifyEpochSpec)) verifyEpochUptoCard

/-- THE SECOND FORM's CARD OF 'macaroonlaw17.VerifyCaveats'. -/
def verifyCaveatsUptoCard : Claim7 := { stood := { row := verifyCaveatsUptoRow, standIns := [], harness := (true, "5fdb7b550b4830da1e8b150d6d005405127b00b32262d946495145abf812bc9b"), looks := false }, kinds := [], alts := [], laidByText := true, laidKinds := [.data, .data], laidTests := true, laidLooks := .later }
def VerifyCaveatsUptoCardSaid : Prop := Claim7.holds Tryz.pinned (.plain (OpenSpec.upto verifyCaveatsSpec)) verifyCaveatsUptoCard

/-- THE SECOND FORM's CARD OF 'macaroonlaw17.VerifyAuthority'. -/
def verifyAuthorityUptoCard : Claim7 := { stood := { row := verifyAuthorityUptoRow, standIns := [], harness := (true, "5fdb7b550b4830da1e8b150d6d005405127b00b32262d946495145abf812bc9b"), looks := false }, kinds := [], alts := [], laidByText := true, laidKinds := [.data, .data], laidTests := true, laidLooks := .later }
def VerifyAuthorityUptoCardSaid : Prop := Claim7.holds Tryz.pinned (.plain (OpenSpec.upto verifyAuthoritySpec)) verifyAuthorityUptoCard
end Rows
end Go.Proofs.YtmmclghiidoldaaGreatDoor
