/-
  DERIVED. GIVEN WITH THE SEED: THE CARDS: each row of YtlohppddhbimnaaDoorRows.lean that lists a variable, with what it lists TIED to the program's text (the seventh form; the later family's looks); each row that meets fmt, with fmt's text TOLD by the authors' own Lean function (tested against real Go, not proved from fmt's source: count such statements apart). THE CARD IS WHAT COUNTS. Prove the row's statement (the work); the ties are given (YtlohppddhbimnaaDoorTie.lean); close each card by the builder's one call (the guide's Derived/Test/ToyasCard.lean, 'card_holds'). Laid BY PROGRAM, IN A SANDBOX (cutbox-door.mjs). By AI agents, Wed Nov 11 2026. No macro, syntax, notation, axiom, sorry.
-/
import Derived.Test.YtlohppddhbimnaaDoorRows
import GoSem.ClaimSeven
namespace Go.Proofs.YtlohppddhbimnaaDoor
namespace Rows

/-- THE TIED CARD OF 'macaroonlaw01.ShaDigest'. -/
def shaDigestCard : Claim7 := { stood := { row := shaDigestRow, standIns := [], harness := (true, "2c06a2dce8cb01e13b174b2bc1c967ebad978ba5fb6edca72e1e39c94d54c1b2"), looks := false }, kinds := [], alts := [], laidByText := true, laidKinds := [.data], laidTests := true, laidLooks := .later }
def ShaDigestCardSaid : Prop := Claim7.holds Tryd.pinned (.plain (OpenSpec.ofChange shaDigestSpec)) shaDigestCard

/-- THE TIED CARD OF 'macaroonlaw01.ShaState'. -/
def shaStateCard : Claim7 := { stood := { row := shaStateRow, standIns := [], harness := (true, "2c06a2dce8cb01e13b174b2bc1c967ebad978ba5fb6edca72e1e39c94d54c1b2"), looks := false }, kinds := [], alts := [], laidByText := true, laidKinds := [.data], laidTests := true, laidLooks := .later }
def ShaStateCardSaid : Prop := Claim7.holds Tryd.pinned (.plain (OpenSpec.ofChange shaStateSpec)) shaStateCard

/-- THE TIED CARD OF 'macaroonlaw01.ShaParts'. -/
def shaPartsCard : Claim7 := { stood := { row := shaPartsRow, standIns := [], harness := (true, "2c06a2dce8cb01e13b174b2bc1c967ebad978ba5fb6edca72e1e39c94d54c1b2"), looks := false }, kinds := [], alts := [], laidByText := true, laidKinds := [.data], laidTests := true, laidLooks := .later }
def ShaPartsCardSaid : Prop := Claim7.holds Tryd.pinned (.plain (OpenSpec.ofChange shaPartsSpec)) shaPartsCard

/-- THE TIED CARD OF 'macaroonlaw01.ShaSum'. -/
def shaSumCard : Claim7 := { stood := { row := shaSumRow, standIns := [], harness := (true, "2c06a2dce8cb01e13b174b2bc1c967ebad978ba5fb6edca72e1e39c94d54c1b2"), looks := false }, kinds := [], alts := [], laidByText := true, laidKinds := [.data], laidTests := true, laidLooks := .later }
def ShaSumCardSaid : Prop := Claim7.holds Tryd.pinned (.plain (OpenSpec.ofChange shaSumSpec)) shaSumCard

/-- THE TIED CARD OF 'macaroonlaw01.ShaBorders'. -/
def shaBordersCard : Claim7 := { stood := { row := shaBordersRow, standIns := [], harness := (true, "2c06a2dce8cb01e13b174b2bc1c967ebad978ba5fb6edca72e1e39c94d54c1b2"), looks := false }, kinds := [], alts := [], laidByText := true, laidKinds := [.data], laidTests := true, laidLooks := .later }
def ShaBordersCardSaid : Prop := Claim7.holds Tryd.pinned (.plain (OpenSpec.ofChange shaBordersSpec)) shaBordersCard

/-- THE TIED CARD OF 'macaroonlaw02.HmacTag'. -/
def hmacTagCard : Claim7 := { stood := { row := hmacTagRow, standIns := [], harness := (true, "2c06a2dce8cb01e13b174b2bc1c967ebad978ba5fb6edca72e1e39c94d54c1b2"), looks := false }, kinds := [], alts := [], laidByText := true, laidKinds := [.data], laidTests := true, laidLooks := .later }
def HmacTagCardSaid : Prop := Claim7.holds Tryd.pinned (.plain (OpenSpec.ofChange hmacTagSpec)) hmacTagCard

/-- THE TIED CARD OF 'macaroonlaw02.HmacPadding'. -/
def hmacPaddingCard : Claim7 := { stood := { row := hmacPaddingRow, standIns := [], harness := (true, "2c06a2dce8cb01e13b174b2bc1c967ebad978ba5fb6edca72e1e39c94d54c1b2"), looks := false }, kinds := [], alts := [], laidByText := true, laidKinds := [.data], laidTests := true, laidLooks := .later }
def HmacPaddingCardSaid : Prop := Claim7.holds Tryd.pinned (.plain (OpenSpec.ofChange hmacPaddingSpec)) hmacPaddingCard

/-- THE TIED CARD OF 'macaroonlaw02.HmacEqual'. -/
def hmacEqualCard : Claim7 := { stood := { row := hmacEqualRow, standIns := [], harness := (true, "2c06a2dce8cb01e13b174b2bc1c967ebad978ba5fb6edca72e1e39c94d54c1b2"), looks := false }, kinds := [], alts := [], laidByText := true, laidKinds := [.data], laidTests := true, laidLooks := .later }
def HmacEqualCardSaid : Prop := Claim7.holds Tryd.pinned (.plain (OpenSpec.ofChange hmacEqualSpec)) hmacEqualCard

/-- THE TIED CARD OF 'macaroonlaw02.HmacDerive'. -/
def hmacDeriveCard : Claim7 := { stood := { row := hmacDeriveRow, standIns := [], harness := (true, "2c06a2dce8cb01e13b174b2bc1c967ebad978ba5fb6edca72e1e39c94d54c1b2"), looks := false }, kinds := [], alts := [], laidByText := true, laidKinds := [.data], laidTests := true, laidLooks := .later }
def HmacDeriveCardSaid : Prop := Claim7.holds Tryd.pinned (.plain (OpenSpec.ofChange hmacDeriveSpec)) hmacDeriveCard

/-- THE SECOND FORM's CARD OF 'macaroonlaw01.ShaDigest'. -/
def shaDigestUptoCard : Claim7 := { stood := { row := shaDigestUptoRow, standIns := [], harness := (true, "2c06a2dce8cb01e13b174b2bc1c967ebad978ba5fb6edca72e1e39c94d54c1b2"), looks := false }, kinds := [], alts := [], laidByText := true, laidKinds := [.data], laidTests := true, laidLooks := .later }
def ShaDigestUptoCardSaid : Prop := Claim7.holds Tryd.pinned (.plain (OpenSpec.upto shaDigestSpec)) shaDigestUptoCard

/-- THE SECOND FORM's CARD OF 'macaroonlaw01.ShaState'. -/
def shaStateUptoCard : Claim7 := { stood := { row := shaStateUptoRow, standIns := [], harness := (true, "2c06a2dce8cb01e13b174b2bc1c967ebad978ba5fb6edca72e1e39c94d54c1b2"), looks := false }, kinds := [], alts := [], laidByText := true, laidKinds := [.data], laidTests := true, laidLooks := .later }
def ShaStateUptoCardSaid : Prop := Claim7.holds Tryd.pinned (.plain (OpenSpec.upto shaStateSpec)) shaStateUptoCard

/-- THE SECOND FORM's CARD OF 'macaroonlaw01.ShaParts'. -/
def shaPartsUptoCard : Claim7 := { stood := { row := shaPartsUptoRow, standIns := [], harness := (true, "2c06a2dce8cb01e13b174b2bc1c967ebad978ba5fb6edca72e1e39c94d54c1b2"), looks := false }, kinds := [], alts := [], laidByText := true, laidKinds := [.data], laidTests := true, laidLooks := .later }
def ShaPartsUptoCardSaid : Prop := Claim7.holds Tryd.pinned (.plain (OpenSpec.upto shaPartsSpec)) shaPartsUptoCard

/-- THE SECOND FORM's CARD OF 'macaroonlaw01.ShaSum'. -/
def shaSumUptoCard : Claim7 := { stood := { row := shaSumUptoRow, standIns := [], harness := (true, "2c06a2dce8cb01e13b174b2bc1c967ebad978ba5fb6edca72e1e39c94d54c1b2"), looks := false }, kinds := [], alts := [], laidByText := true, laidKinds := [.data], laidTests := true, laidLooks := .later }
def ShaSumUptoCardSaid : Prop := Claim7.holds Tryd.pinned (.plain (OpenSpec.upto shaSumSpec)) shaSumUptoCard

/-- THE SECOND FORM's CARD OF 'macaroonlaw01.ShaBorders'. -/
def shaBordersUptoCard : Claim7 := { stood := { row := shaBordersUptoRow, standIns := [], harness := (true, "2c06a2dce8cb01e13b174b2bc1c967ebad978ba5fb6edca72e1e39c94d54c1b2"), looks := false }, kinds := [], alts := [], laidByText := true, laidKinds := [.data], laidTests := true, laidLooks := .later }
def ShaBordersUptoCardSaid : Prop := Claim7.holds Tryd.pinned (.plain (OpenSpec.upto shaBordersSpec)) shaBordersUptoCard

/-- THE SECOND FORM's CARD OF 'macaroonlaw02.HmacTag'. -/
def hmacTagUptoCard : Claim7 := { stood := { row := hmacTagUptoRow, standIns := [], harness := (true, "2c06a2dce8cb01e13b174b2bc1c967ebad978ba5fb6edca72e1e39c94d54c1b2"), looks := false }, kinds := [], alts := [], laidByText := true, laidKinds := [.data], laidTests := true, laidLooks := .later }
def HmacTagUptoCardSaid : Prop := Claim7.holds Tryd.pinned (.plain (OpenSpec.upto hmacTagSpec)) hmacTagUptoCard

/-- THE SECOND FORM's CARD OF 'macaroonlaw02.HmacPadding'. -/
def hmacPaddingUptoCard : Claim7 := { stood := { row := hmacPaddingUptoRow, standIns := [], harness := (true, "2c06a2dce8cb01e13b174b2bc1c967ebad978ba5fb6edca72e1e39c94d54c1b2"), looks := false }, kinds := [], alts := [], laidByText := true, laidKinds := [.data], laidTests := true, laidLooks := .later }
def HmacPaddingUptoCardSaid : Prop := Claim7.holds Tryd.pinned (.plain (OpenSpec.upto hmacPaddingSpec)) hmacPaddingUptoCard

/-- THE SECOND FORM's CARD OF 'macaroonlaw02.HmacEqual'. -/
def hmacEqualUptoCard : Claim7 := { stood := { row := hmacEqualUptoRow, standIns := [], harness := (true, "2c06a2dce8cb01e13b174b2bc1c967ebad978ba5fb6edca72e1e39c94d54c1b2"), looks := false }, kinds := [], alts := [], laidByText := true, laidKinds := [.data], laidTests := true, laidLooks := .later }
def HmacEqualUptoCardSaid : Prop := Claim7.holds Tryd.pinned (.plain (OpenSpec.upto hmacEqualSpec)) hmacEqualUptoCard

/-- THE SECOND FORM's CARD OF 'macaroonlaw02.HmacDerive'. -/
def hmacDeriveUptoCard : Claim7 := { stood := { row := hmacDeriveUptoRow, standIns := [], harness := (true, "2c06a2dce8cb01e13b174b2bc1c967ebad978ba5fb6edca72e1e39c94d54c1b2"), looks := false }, kinds := [], alts := [], laidByText := true, laidKinds := [.data], laidTests := true, laidLooks := .later }
def HmacDeriveUptoCardSaid : Prop := Claim7.holds Tryd.pinned (.plain (OpenSpec.upto hmacDeriveSpec)) hmacDeriveUptoCard
end Rows
end Go.Proofs.YtlohppddhbimnaaDoor
