/-
  DERIVED. GIVEN WITH THE SEED: THE CARDS: each row of YtiekhjbhlekaeaaDoorRows.lean that lists a variable, with what it lists TIED to the program's text (the seventh form; the later family's looks); each row that meets fmt, with fmt's text TOLD by the authors' own Lean function (tested against real Go, not proved from fmt's source: count such statements apart). THE CARD IS WHAT COUNTS. Prove the row's statement (the work); the ties are given (YtiekhjbhlekaeaaDoorTie.lean); close each card by the builder's one call (the guide's Derived/Test/ToyasCard.lean, 'card_holds'). Laid BY PROGRAM, IN A SANDBOX (cutbox-door.mjs). By AI agents, Wed Nov 11 2026. No macro, syntax, notation, axiom, sorry.
-/
import Derived.Test.YtiekhjbhlekaeaaDoorRows
import GoSem.ClaimSeven
namespace Go.Proofs.YtiekhjbhlekaeaaDoor
namespace Rows

/-- THE TIED CARD OF 'macaroonlaw10.AlgebraMac'. -/
def algebraMacCard : Claim7 := { stood := { row := algebraMacRow, standIns := [], harness := (true, "bd3dcf62ed3b4daae1f72593fc86d051e48b1d9fa3a80e60bea724da00cdd97a"), looks := false }, kinds := [], alts := [], laidByText := true, laidKinds := [.data], laidTests := true, laidLooks := .later }
def AlgebraMacCardSaid : Prop := Claim7.holds Tryd.pinned (.plain (OpenSpec.ofChange algebraMacSpec)) algebraMacCard

/-- THE TIED CARD OF 'macaroonlaw10.AlgebraLook'. -/
def algebraLookCard : Claim7 := { stood := { row := algebraLookRow, standIns := [], harness := (true, "bd3dcf62ed3b4daae1f72593fc86d051e48b1d9fa3a80e60bea724da00cdd97a"), looks := false }, kinds := [], alts := [], laidByText := true, laidKinds := [.data], laidTests := true, laidLooks := .later }
def AlgebraLookCardSaid : Prop := Claim7.holds Tryd.pinned (.plain (OpenSpec.ofChange algebraLookSpec)) algebraLookCard

/-- THE TIED CARD OF 'macaroonlaw10.AlgebraFound'. -/
def algebraFoundCard : Claim7 := { stood := { row := algebraFoundRow, standIns := [], harness := (true, "bd3dcf62ed3b4daae1f72593fc86d051e48b1d9fa3a80e60bea724da00cdd97a"), looks := false }, kinds := [], alts := [], laidByText := true, laidKinds := [.data], laidTests := true, laidLooks := .later }
def AlgebraFoundCardSaid : Prop := Claim7.holds Tryd.pinned (.plain (OpenSpec.ofChange algebraFoundSpec)) algebraFoundCard

/-- THE TIED CARD OF 'macaroonlaw10.AlgebraStays'. -/
def algebraStaysCard : Claim7 := { stood := { row := algebraStaysRow, standIns := [], harness := (true, "bd3dcf62ed3b4daae1f72593fc86d051e48b1d9fa3a80e60bea724da00cdd97a"), looks := false }, kinds := [], alts := [], laidByText := true, laidKinds := [.data], laidTests := true, laidLooks := .later }
def AlgebraStaysCardSaid : Prop := Claim7.holds Tryd.pinned (.plain (OpenSpec.ofChange algebraStaysSpec)) algebraStaysCard

/-- THE TIED CARD OF 'macaroonlaw10.AlgebraKey'. -/
def algebraKeyCard : Claim7 := { stood := { row := algebraKeyRow, standIns := [], harness := (true, "bd3dcf62ed3b4daae1f72593fc86d051e48b1d9fa3a80e60bea724da00cdd97a"), looks := false }, kinds := [], alts := [], laidByText := true, laidKinds := [.data], laidTests := true, laidLooks := .later }
def AlgebraKeyCardSaid : Prop := Claim7.holds Tryd.pinned (.plain (OpenSpec.ofChange algebraKeySpec)) algebraKeyCard

/-- THE TIED CARD OF 'macaroonlaw10.AlgebraFree'. -/
def algebraFreeCard : Claim7 := { stood := { row := algebraFreeRow, standIns := [], harness := (true, "bd3dcf62ed3b4daae1f72593fc86d051e48b1d9fa3a80e60bea724da00cdd97a"), looks := false }, kinds := [], alts := [], laidByText := true, laidKinds := [.data], laidTests := true, laidLooks := .later }
def AlgebraFreeCardSaid : Prop := Claim7.holds Tryd.pinned (.plain (OpenSpec.ofChange algebraFreeSpec)) algebraFreeCard

/-- THE TIED CARD OF 'macaroonlaw11.BoxSeal'. -/
def boxSealCard : Claim7 := { stood := { row := boxSealRow, standIns := [], harness := (true, "bd3dcf62ed3b4daae1f72593fc86d051e48b1d9fa3a80e60bea724da00cdd97a"), looks := false }, kinds := [], alts := [], laidByText := true, laidKinds := [.data], laidTests := true, laidLooks := .later }
def BoxSealCardSaid : Prop := Claim7.holds Tryd.pinned (.plain (OpenSpec.ofChange boxSealSpec)) boxSealCard

/-- THE TIED CARD OF 'macaroonlaw11.BoxOpen'. -/
def boxOpenCard : Claim7 := { stood := { row := boxOpenRow, standIns := [], harness := (true, "bd3dcf62ed3b4daae1f72593fc86d051e48b1d9fa3a80e60bea724da00cdd97a"), looks := false }, kinds := [], alts := [], laidByText := true, laidKinds := [.data], laidTests := true, laidLooks := .later }
def BoxOpenCardSaid : Prop := Claim7.holds Tryd.pinned (.plain (OpenSpec.ofChange boxOpenSpec)) boxOpenCard

/-- THE TIED CARD OF 'macaroonlaw11.BoxBack'. -/
def boxBackCard : Claim7 := { stood := { row := boxBackRow, standIns := [], harness := (true, "bd3dcf62ed3b4daae1f72593fc86d051e48b1d9fa3a80e60bea724da00cdd97a"), looks := false }, kinds := [], alts := [], laidByText := true, laidKinds := [.data], laidTests := true, laidLooks := .later }
def BoxBackCardSaid : Prop := Claim7.holds Tryd.pinned (.plain (OpenSpec.ofChange boxBackSpec)) boxBackCard

/-- THE TIED CARD OF 'macaroonlaw11.BoxFree'. -/
def boxFreeCard : Claim7 := { stood := { row := boxFreeRow, standIns := [], harness := (true, "bd3dcf62ed3b4daae1f72593fc86d051e48b1d9fa3a80e60bea724da00cdd97a"), looks := false }, kinds := [], alts := [], laidByText := true, laidKinds := [.data], laidTests := true, laidLooks := .later }
def BoxFreeCardSaid : Prop := Claim7.holds Tryd.pinned (.plain (OpenSpec.ofChange boxFreeSpec)) boxFreeCard

/-- THE TIED CARD OF 'macaroonlaw24.FeedCheck'. -/
def feedCheckCard : Claim7 := { stood := { row := feedCheckRow, standIns := [], harness := (true, "bd3dcf62ed3b4daae1f72593fc86d051e48b1d9fa3a80e60bea724da00cdd97a"), looks := false }, kinds := [], alts := [], laidByText := true, laidKinds := [.data], laidTests := true, laidLooks := .later }
def FeedCheckCardSaid : Prop := Claim7.holds Tryd.pinned (.plain (OpenSpec.ofChange feedCheckSpec)) feedCheckCard

/-- THE TIED CARD OF 'macaroonlaw24.FeedFree'. -/
def feedFreeCard : Claim7 := { stood := { row := feedFreeRow, standIns := [], harness := (true, "bd3dcf62ed3b4daae1f72593fc86d051e48b1d9fa3a80e60bea724da00cdd97a"), looks := false }, kinds := [], alts := [], laidByText := true, laidKinds := [.data], laidTests := true, laidLooks := .later }
def FeedFreeCardSaid : Prop := Claim7.holds Tryd.pinned (.plain (OpenSpec.ofChange feedFreeSpec)) feedFreeCard

/-- THE TIED CARD OF 'macaroonlaw24.FeedSign'. -/
def feedSignCard : Claim7 := { stood := { row := feedSignRow, standIns := [], harness := (true, "bd3dcf62ed3b4daae1f72593fc86d051e48b1d9fa3a80e60bea724da00cdd97a"), looks := false }, kinds := [], alts := [], laidByText := true, laidKinds := [.data], laidTests := true, laidLooks := .later }
def FeedSignCardSaid : Prop := Claim7.holds Tryd.pinned (.plain (OpenSpec.ofChange feedSignSpec)) feedSignCard

/-- THE SECOND FORM's CARD OF 'macaroonlaw10.AlgebraMac'. -/
def algebraMacUptoCard : Claim7 := { stood := { row := algebraMacUptoRow, standIns := [], harness := (true, "bd3dcf62ed3b4daae1f72593fc86d051e48b1d9fa3a80e60bea724da00cdd97a"), looks := false }, kinds := [], alts := [], laidByText := true, laidKinds := [.data], laidTests := true, laidLooks := .later }
def AlgebraMacUptoCardSaid : Prop := Claim7.holds Tryd.pinned (.plain (OpenSpec.upto algebraMacSpec)) algebraMacUptoCard

/-- THE SECOND FORM's CARD OF 'macaroonlaw10.AlgebraLook'. -/
def algebraLookUptoCard : Claim7 := { stood := { row := algebraLookUptoRow, standIns := [], harness := (true, "bd3dcf62ed3b4daae1f72593fc86d051e48b1d9fa3a80e60bea724da00cdd97a"), looks := false }, kinds := [], alts := [], laidByText := true, laidKinds := [.data], laidTests := true, laidLooks := .later }
def AlgebraLookUptoCardSaid : Prop := Claim7.holds Tryd.pinned (.plain (OpenSpec.upto algebraLookSpec)) algebraLookUptoCard

/-- THE SECOND FORM's CARD OF 'macaroonlaw10.AlgebraFound'. -/
def algebraFoundUptoCard : Claim7 := { stood := { row := algebraFoundUptoRow, standIns := [], harness := (true, "bd3dcf62ed3b4daae1f72593fc86d051e48b1d9fa3a80e60bea724da00cdd97a"), looks := false }, kinds := [], alts := [], laidByText := true, laidKinds := [.data], laidTests := true, laidLooks := .later }
def AlgebraFoundUptoCardSaid : Prop := Claim7.holds Tryd.pinned (.plain (OpenSpec.upto algebraFoundSpec)) algebraFoundUptoCard

/-- THE SECOND FORM's CARD OF 'macaroonlaw10.AlgebraStays'. -/
def algebraStaysUptoCard : Claim7 := { stood := { row := algebraStaysUptoRow, standIns := [], harness := (true, "bd3dcf62ed3b4daae1f72593fc86d051e48b1d9fa3a80e60bea724da00cdd97a"), looks := false }, kinds := [], alts := [], laidByText := true, laidKinds := [.data], laidTests := true, laidLooks := .later }
def AlgebraStaysUptoCardSaid : Prop := Claim7.holds Tryd.pinned (.plain (OpenSpec.upto algebraStaysSpec)) algebraStaysUptoCard

/-- THE SECOND FORM's CARD OF 'macaroonlaw10.AlgebraKey'. -/
def algebraKeyUptoCard : Claim7 := { stood := { row := algebraKeyUptoRow, standIns := [], harness := (true, "bd3dcf62ed3b4daae1f72593fc86d051e48b1d9fa3a80e60bea724da00cdd97a"), looks := false }, kinds := [], alts := [], laidByText := true, laidKinds := [.data], laidTests := true, laidLooks := .later }
def AlgebraKeyUptoCardSaid : Prop := Claim7.holds Tryd.pinned (.plain (OpenSpec.upto algebraKeySpec)) algebraKeyUptoCard

/-- THE SECOND FORM's CARD OF 'macaroonlaw10.AlgebraFree'. -/
def algebraFreeUptoCard : Claim7 := { stood := { row := algebraFreeUptoRow, standIns := [], harness := (true, "bd3dcf62ed3b4daae1f72593fc86d051e48b1d9fa3a80e60bea724da00cdd97a"), looks := false }, kinds := [], alts := [], laidByText := true, laidKinds := [.data], laidTests := true, laidLooks := .later }
def AlgebraFreeUptoCardSaid : Prop := Claim7.holds Tryd.pinned (.plain (OpenSpec.upto algebraFreeSpec)) algebraFreeUptoCard

/-- THE SECOND FORM's CARD OF 'macaroonlaw11.BoxSeal'. -/
def boxSealUptoCard : Claim7 := { stood := { row := boxSealUptoRow, standIns := [], harness := (true, "bd3dcf62ed3b4daae1f72593fc86d051e48b1d9fa3a80e60bea724da00cdd97a"), looks := false }, kinds := [], alts := [], laidByText := true, laidKinds := [.data], laidTests := true, laidLooks := .later }
def BoxSealUptoCardSaid : Prop := Claim7.holds Tryd.pinned (.plain (OpenSpec.upto boxSealSpec)) boxSealUptoCard

/-- THE SECOND FORM's CARD OF 'macaroonlaw11.BoxOpen'. -/
def boxOpenUptoCard : Claim7 := { stood := { row := boxOpenUptoRow, standIns := [], harness := (true, "bd3dcf62ed3b4daae1f72593fc86d051e48b1d9fa3a80e60bea724da00cdd97a"), looks := false }, kinds := [], alts := [], laidByText := true, laidKinds := [.data], laidTests := true, laidLooks := .later }
def BoxOpenUptoCardSaid : Prop := Claim7.holds Tryd.pinned (.plain (OpenSpec.upto boxOpenSpec)) boxOpenUptoCard

/-- THE SECOND FORM's CARD OF 'macaroonlaw11.BoxBack'. -/
def boxBackUptoCard : Claim7 := { stood := { row := boxBackUptoRow, standIns := [], harness := (true, "bd3dcf62ed3b4daae1f72593fc86d051e48b1d9fa3a80e60bea724da00cdd97a"), looks := false }, kinds := [], alts := [], laidByText := true, laidKinds := [.data], laidTests := true, laidLooks := .later }
def BoxBackUptoCardSaid : Prop := Claim7.holds Tryd.pinned (.plain (OpenSpec.upto boxBackSpec)) boxBackUptoCard

/-- THE SECOND FORM's CARD OF 'macaroonlaw11.BoxFree'. -/
def boxFreeUptoCard : Claim7 := { stood := { row := boxFreeUptoRow, standIns := [], harness := (true, "bd3dcf62ed3b4daae1f72593fc86d051e48b1d9fa3a80e60bea724da00cdd97a"), looks := false }, kinds := [], alts := [], laidByText := true, laidKinds := [.data], laidTests := true, laidLooks := .later }
def BoxFreeUptoCardSaid : Prop := Claim7.holds Tryd.pinned (.plain (OpenSpec.upto boxFreeSpec)) boxFreeUptoCard

/-- THE SECOND FORM's CARD OF 'macaroonlaw24.FeedCheck'. -/
def feedCheckUptoCard : Claim7 := { stood := { row := feedCheckUptoRow, standIns := [], harness := (true, "bd3dcf62ed3b4daae1f72593fc86d051e48b1d9fa3a80e60bea724da00cdd97a"), looks := false }, kinds := [], alts := [], laidByText := true, laidKinds := [.data], laidTests := true, laidLooks := .later }
def FeedCheckUptoCardSaid : Prop := Claim7.holds Tryd.pinned (.plain (OpenSpec.upto feedCheckSpec)) feedCheckUptoCard

/-- THE SECOND FORM's CARD OF 'macaroonlaw24.FeedFree'. -/
def feedFreeUptoCard : Claim7 := { stood := { row := feedFreeUptoRow, standIns := [], harness := (true, "bd3dcf62ed3b4daae1f72593fc86d051e48b1d9fa3a80e60bea724da00cdd97a"), looks := false }, kinds := [], alts := [], laidByText := true, laidKinds := [.data], laidTests := true, laidLooks := .later }
def FeedFreeUptoCardSaid : Prop := Claim7.holds Tryd.pinned (.plain (OpenSpec.upto feedFreeSpec)) feedFreeUptoCard

/-- THE SECOND FORM's CARD OF 'macaroonlaw24.FeedSign'. -/
def feedSignUptoCard : Claim7 := { stood := { row := feedSignUptoRow, standIns := [], harness := (true, "bd3dcf62ed3b4daae1f72593fc86d051e48b1d9fa3a80e60bea724da00cdd97a"), looks := false }, kinds := [], alts := [], laidByText := true, laidKinds := [.data], laidTests := true, laidLooks := .later }
def FeedSignUptoCardSaid : Prop := Claim7.holds Tryd.pinned (.plain (OpenSpec.upto feedSignSpec)) feedSignUptoCard
end Rows
end Go.Proofs.YtiekhjbhlekaeaaDoor
