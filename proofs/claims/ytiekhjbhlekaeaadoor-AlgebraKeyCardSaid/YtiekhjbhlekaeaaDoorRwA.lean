/- What the rows of this seat share: the laid variable, the types of the arguments. -/
import Derived.Test.YtiekhjbhlekaeaaDoorShaA
import Derived.Test.YtiekhjbhlekaeaaDoorRows
import Derived.Test.YtiekhjbhlekaeaaDoorTie
import Derived.Test.YtiekhjbhlekaeaaDoorCards
import Derived.Test.YtiekhjbhlekaeaaDoorAc
import Derived.SevenTiedAt
set_option maxRecDepth 1000000
set_option linter.unusedVariables false
namespace Go.Proofs.YtiekhjbhlekaeaaDoor
open Go.Fl Go.Ab Go.Mac Go.Sha
open Go.ChangeShapes Go.WideShapes Go.ChangeAt Go.RowKit
theorem ownK : ownKnob Tryd.prog.godebug = none := by kernel_rfl
theorem laidOutK : laidOutB Tryd.prog = true := by kernel_rfl
/-- The settled world, but k holds its words. -/
noncomputable def kWorld (os : Os) : World :=
  let w0 := World.holding Tryd.prog os ⟨#[], #[], []⟩
  { w0 with heap := w0.heap.modify 1 fun
      | .cells _ t frozen => .cells (kk.map Fl.u32).toArray t frozen
      | o => o }
def kLaid : List (String × DataW Unit) := [("macaroon/sha.k", Rows.laid_macaroon_sha_k)]
set_option maxRecDepth 100000 in
theorem k_met (os : Os) (args : Array Value) : laidMet Tryd.prog kLaid ((kWorld os).forCall (fun _ _ => 0) ⟨#[], args, []⟩).memory :=
  laidMet_of_run' 8 (by kernel_rfl) (by kernel_rfl)
set_option maxRecDepth 100000 in
theorem k_cells {W : World} (h : laidMet Tryd.prog kLaid W) : gl.p (imOf W) :=
  words_laid (l := kk) (T := 132) (E := 112) (by kernel_rfl) (by kernel_rfl) Tryd.underlying132 Tryd.underlying112 (by kernel_rfl) (by decide) rfl h
theorem op4 : Opens Tryd.prog 4 Bool := .bool Tryd.underlying4 (by kernel_rfl)
theorem op5 : Opens Tryd.prog 5 UInt8 := .u8 Tryd.underlying5 (by kernel_rfl)
theorem op28 : Opens Tryd.prog 28 (Arr 32 UInt8) := .array Tryd.underlying28 (by kernel_rfl) op5
theorem op3 : Opens Tryd.prog 3 Int := .i64 Tryd.underlying3 (by kernel_rfl)
theorem op22 : Opens Tryd.prog 22 (List Int) := .slice Tryd.underlying22 (by kernel_rfl) op3 (by decide)
theorem op23 : Opens Tryd.prog 23 (List UInt8) := .slice Tryd.underlying23 (by kernel_rfl) op5 (by decide)
end Go.Proofs.YtiekhjbhlekaeaaDoor
