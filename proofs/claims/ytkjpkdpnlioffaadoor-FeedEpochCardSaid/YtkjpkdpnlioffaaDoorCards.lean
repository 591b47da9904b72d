/-
  DERIVED. GIVEN WITH THE SEED: THE CARDS: each row of YtkjpkdpnlioffaaDoorRows.lean that lists a variable, with what it lists TIED to the program's text (the seventh form; the later family's looks); each row that meets fmt, with fmt's text TOLD by the authors' own Lean function (tested against real Go, not proved from fmt's source: count such statements apart). THE CARD IS WHAT COUNTS. Prove the row's statement (the work); the ties are given (YtkjpkdpnlioffaaDoorTie.lean); close each card by the builder's one call (the guide's Derived/Test/ToyasCard.lean, 'card_holds'). Laid BY PROGRAM, IN A SANDBOX (cutbox-door.mjs). By AI agents, Wed Nov 11 2026. No macro, syntax, notation, axiom, sorry.
-/
import Derived.Test.YtkjpkdpnlioffaaDoorRows
import GoSem.ClaimSeven
namespace Go.Proofs.YtkjpkdpnlioffaaDoor
namespace Rows

/-- THE TIED CARD OF 'macaroonlaw24.FeedEpoch'. -/
def feedEpochCard : Claim7 := { stood := { row := feedEpochRow, standIns := [], harness := (true, "91ffd5e9df1669c1e87107dcff0700060c5e705b357d3ee3ebcc516421a34798"), looks := false }, kinds := [], alts := [], laidByText := true, laidKinds := [.data], laidTests := true, laidLooks := .later }
def FeedEpochCardSaid : Prop := Claim7.holds Tryd.pinned (.plain (OpenSpec.ofChange feedEpochSpec)) feedEpochCard

/-- THE SECOND FORM's CARD OF 'macaroonlaw24.FeedEpoch'. -/
def feedEpochUptoCard : Claim7 := { stood := { row := feedEpochUptoRow, standIns := [], harness := (true, "91ffd5e9df1669c1e87107dcff0700060c5e705b357d3ee3ebcc516421a34798"), looks := false }, kinds := [], alts := [], laidByText := true, laidKinds := [.data], laidTests := true, laidLooks := .later }
def FeedEpochUptoCardSaid : Prop := Claim7.holds Tryd.pinned (.plain (OpenSpec.upto feedEpochSpec)) feedEpochUptoCard
end Rows
end Go.Proofs.YtkjpkdpnlioffaaDoor
