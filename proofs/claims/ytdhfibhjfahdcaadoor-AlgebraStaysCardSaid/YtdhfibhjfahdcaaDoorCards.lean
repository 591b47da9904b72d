/-
  DERIVED. GIVEN WITH THE SEED: THE CARDS: each row of YtdhfibhjfahdcaaDoorRows.lean that lists a variable, with what it lists TIED to the program's text (the seventh form; the later family's looks); each row that meets fmt, with fmt's text TOLD by the authors' own Lean function (tested against real Go, not proved from fmt's source: count such statements apart). THE CARD IS WHAT COUNTS. Prove the row's statement (the work); the ties are given (YtdhfibhjfahdcaaDoorTie.lean); close each card by the builder's one call (the guide's Derived/Test/ToyasCard.lean, 'card_holds'). Laid BY PROGRAM, IN A SANDBOX (cutbox-door.mjs). By AI agents, Wed Nov 11 2026. No macro, syntax, notation, axiom, sorry.
-/
import Derived.Test.YtdhfibhjfahdcaaDoorRows
import GoSem.ClaimSeven
namespace Go.Proofs.YtdhfibhjfahdcaaDoor
namespace Rows

/-- THE TIED CARD OF 'macaroonlaw10.AlgebraStays'. -/
def algebraStaysCard : Claim7 := { stood := { row := algebraStaysRow, standIns := [], harness := (true, "dc84efe47d79a05cc0833d717ce5f4497bff4bb3d8f376d6aa3cff364451ad68"), looks := false }, kinds := [], alts := [], laidByText := true, laidKinds := [.data], laidTests := true, laidLooks := .later }
def AlgebraStaysCardSaid : Prop := Claim7.holds Tryd.pinned (.plain (OpenSpec.ofChange algebraStaysSpec)) algebraStaysCard

/-- THE SECOND FORM's CARD OF 'macaroonlaw10.AlgebraStays'. -/
def algebraStaysUptoCard : Claim7 := { stood := { row := algebraStaysUptoRow, standIns := [], harness := (true, "dc84efe47d79a05cc0833d717ce5f4497bff4bb3d8f376d6aa3cff364451ad68"), looks := false }, kinds := [], alts := [], laidByText := true, laidKinds := [.data], laidTests := true, laidLooks := .later }
def AlgebraStaysUptoCardSaid : Prop := Claim7.holds Tryd.pinned (.plain (OpenSpec.upto algebraStaysSpec)) algebraStaysUptoCard
end Rows
end Go.Proofs.YtdhfibhjfahdcaaDoor
