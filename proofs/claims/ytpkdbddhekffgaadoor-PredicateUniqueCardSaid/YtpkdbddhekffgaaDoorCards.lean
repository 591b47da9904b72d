/-
  DERIVED. GIVEN WITH THE SEED: THE CARDS: each row of YtpkdbddhekffgaaDoorRows.lean that lists a variable, with what it lists TIED to the program's text (the seventh form; the later family's looks); each row that meets fmt, with fmt's text TOLD by the authors' own Lean function (tested against real Go, not proved from fmt's source: count such statements apart). THE CARD IS WHAT COUNTS. Prove the row's statement (the work); the ties are given (YtpkdbddhekffgaaDoorTie.lean); close each card by the builder's one call (the guide's Derived/Test/ToyasCard.lean, 'card_holds'). Laid BY PROGRAM, IN A SANDBOX (cutbox-door.mjs). By AI agents, Wed Nov 11 2026. No macro, syntax, notation, axiom, sorry.
-/
import Derived.Test.YtpkdbddhekffgaaDoorRows
import GoSem.ClaimSeven
namespace Go.Proofs.YtpkdbddhekffgaaDoor
namespace Rows

/-- THE TIED CARD OF 'macaroonlaw06.PredicateValid'. -/
def predicateValidCard : Claim7 := { stood := { row := predicateValidRow, standIns := [], harness := (true, "9d4783f4e811f5b0f2c9b9bdf5392f37efd190dfa3d81a4cdf52e254e288dc95"), looks := true }, kinds := [], alts := [], laidByText := true, laidKinds := [.data, .data, .data, .data, .sentinel, .sentinel, .data, .data, .pinned], laidTests := true, laidLooks := .later }
def PredicateValidCardSaid : Prop := Claim7.holds Tryd.pinned (.plain (OpenSpec.ofChange predicateValidSpec)) predicateValidCard

/-- THE TIED CARD OF 'macaroonlaw06.PredicateFormat'. -/
def predicateFormatCard : Claim7 := { stood := { row := predicateFormatRow, standIns := [], harness := (true, "9d4783f4e811f5b0f2c9b9bdf5392f37efd190dfa3d81a4cdf52e254e288dc95"), looks := true }, kinds := [], alts := [], laidByText := true, laidKinds := [.data, .data, .data, .data, .sentinel, .sentinel, .data, .data, .pinned], laidTests := true, laidLooks := .later }
def PredicateFormatCardSaid : Prop := Claim7.holds Tryd.pinned (.plain (OpenSpec.ofChange predicateFormatSpec)) predicateFormatCard

/-- THE TIED CARD OF 'macaroonlaw06.PredicateParse'. -/
def predicateParseCard : Claim7 := { stood := { row := predicateParseRow, standIns := [], harness := (true, "9d4783f4e811f5b0f2c9b9bdf5392f37efd190dfa3d81a4cdf52e254e288dc95"), looks := true }, kinds := [], alts := [], laidByText := true, laidKinds := [.data, .data, .data, .data, .sentinel, .sentinel, .data, .data, .pinned], laidTests := true, laidLooks := .later }
def PredicateParseCardSaid : Prop := Claim7.holds Tryd.pinned (.plain (OpenSpec.ofChange predicateParseSpec)) predicateParseCard

/-- THE TIED CARD OF 'macaroonlaw06.PredicateBack'. -/
def predicateBackCard : Claim7 := { stood := { row := predicateBackRow, standIns := [], harness := (true, "9d4783f4e811f5b0f2c9b9bdf5392f37efd190dfa3d81a4cdf52e254e288dc95"), looks := true }, kinds := [], alts := [], laidByText := true, laidKinds := [.data, .data, .data, .data, .sentinel, .sentinel, .data, .data, .pinned], laidTests := true, laidLooks := .later }
def PredicateBackCardSaid : Prop := Claim7.holds Tryd.pinned (.plain (OpenSpec.ofChange predicateBackSpec)) predicateBackCard

/-- THE TIED CARD OF 'macaroonlaw06.PredicateUnique'. -/
def predicateUniqueCard : Claim7 := { stood := { row := predicateUniqueRow, standIns := [], harness := (true, "9d4783f4e811f5b0f2c9b9bdf5392f37efd190dfa3d81a4cdf52e254e288dc95"), looks := true }, kinds := [], alts := [], laidByText := true, laidKinds := [.data, .data, .data, .data, .sentinel, .sentinel, .data, .data, .pinned], laidTests := true, laidLooks := .later }
def PredicateUniqueCardSaid : Prop := Claim7.holds Tryd.pinned (.plain (OpenSpec.ofChange predicateUniqueSpec)) predicateUniqueCard

/-- THE SECOND FORM's CARD OF 'macaroonlaw06.PredicateValid'. -/
def predicateValidUptoCard : Claim7 := { stood := { row := predicateValidUptoRow, standIns := [], harness := (true, "9d4783f4e811f5b0f2c9b9bdf5392f37efd190dfa3d81a4cdf52e254e288dc95"), looks := true }, kinds := [], alts := [], laidByText := true, laidKinds := [.data, .data, .data, .data, .sentinel, .sentinel, .data, .data, .pinned], laidTests := true, laidLooks := .later }
def PredicateValidUptoCardSaid : Prop := Claim7.holds Tryd.pinned (.plain (OpenSpec.upto predicateValidSpec)) predicateValidUptoCard

/-- THE SECOND FORM's CARD OF 'macaroonlaw06.PredicateFormat'. -/
def predicateFormatUptoCard : Claim7 := { stood := { row := predicateFormatUptoRow, standIns := [], harness := (true, "9d4783f4e811f5b0f2c9b9bdf5392f37efd190dfa3d81a4cdf52e254e288dc95"), looks := true }, kinds := [], alts := [], laidByText := true, laidKinds := [.data, .data, .data, .data, .sentinel, .sentinel, .data, .data, .pinned], laidTests := true, laidLooks := .later }
def PredicateFormatUptoCardSaid : Prop := Claim7.holds Tryd.pinned (.plain (OpenSpec.upto predicateFormatSpec)) predicateFormatUptoCard

/-- THE SECOND FORM's CARD OF 'macaroonlaw06.PredicateParse'. -/
def predicateParseUptoCard : Claim7 := { stood := { row := predicateParseUptoRow, standIns := [], harness := (true, "9d4783f4e811f5b0f2c9b9bdf5392f37efd190dfa3d81a4cdf52e254e288dc95"), looks := true }, kinds := [], alts := [], laidByText := true, laidKinds := [.data, .data, .data, .data, .sentinel, .sentinel, .data, .data, .pinned], laidTests := true, laidLooks := .later }
def PredicateParseUptoCardSaid : Prop := Claim7.holds Tryd.pinned (.plain (OpenSpec.upto predicateParseSpec)) predicateParseUptoCard

/-- THE SECOND FORM's CARD OF 'macaroonlaw06.PredicateBack'. -/
def predicateBackUptoCard : Claim7 := { stood := { row := predicateBackUptoRow, standIns := [], harness := (true, "9d4783f4e811f5b0f2c9b9bdf5392f37efd190dfa3d81a4cdf52e254e288dc95"), looks := true }, kinds := [], alts := [], laidByText := true, laidKinds := [.data, .data, .data, .data, .sentinel, .sentinel, .data, .data, .pinned], laidTests := true, laidLooks := .later }
def PredicateBackUptoCardSaid : Prop := Claim7.holds Tryd.pinned (.plain (OpenSpec.upto predicateBackSpec)) predicateBackUptoCard

/-- THE SECOND FORM's CARD OF 'macaroonlaw06.PredicateUnique'. -/
def predicateUniqueUptoCard : Claim7 := { stood := { row := predicateUniqueUptoRow, standIns := [], harness := (true, "9d4783f4e811f5b0f2c9b9bdf5392f37efd190dfa3d81a4cdf52e254e288dc95"), looks := true }, kinds := [], alts := [], laidByText := true, laidKinds := [.data, .data, .data, .data, .sentinel, .sentinel, .data, .data, .pinned], laidTests := true, laidLooks := .later }
def PredicateUniqueUptoCardSaid : Prop := Claim7.holds Tryd.pinned (.plain (OpenSpec.upto predicateUniqueSpec)) predicateUniqueUptoCard
end Rows
end Go.Proofs.YtpkdbddhekffgaaDoor
