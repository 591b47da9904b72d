/- Plain Lean over any program, and walks of this seat's functions: contracts, each proved once (part 5). -/
import Derived.Test.YtfkbejimghamkaaGreatDoorZ4
import Derived.Test.YtfkbejimghamkaaGreatDoorRows
import Derived.Test.YtfkbejimghamkaaGreatDoorTie
import Derived.Test.YtfkbejimghamkaaGreatDoorCards
import Derived.SevenTiedAt
set_option linter.unusedSimpArgs false
set_option maxRecDepth 1000000
set_option linter.unusedVariables false
namespace Go.Proofs.YtfkbejimghamkaaGreatDoor
open Go.Fl Go.Ab Go.Mac Go.Sha
open Go.ChangeShapes Go.WideShapes Go.ChangeAt Go.RowKit
theorem ownK : ownKnob Tryz.prog.godebug = none := by kernel_rfl
theorem laidOutK : laidOutB Tryz.prog = true := by kernel_rfl
def lit1 : DataW Unit → Value
  | .lit (.int k n) => .int k n
  | .lit (.string s) => .string ⟨s.toArray⟩
  | _ => .nilIface
def agg1 : DataW Unit → List Value
  | .agg l => l.map lit1
  | _ => []
def agg2 : DataW Unit → List Value
  | .agg l => (l.map agg1).flatten
  | _ => []
def setV (h : Array Obj) (g : Nat) (cs : List Value) : Array Obj := h.modify g fun
  | .cells _ t frozen => .cells cs.toArray t frozen
  | o => o
noncomputable def kLow : Nat := (World.holding Tryz.prog default ⟨#[], #[], []⟩).heap.size
noncomputable def kWorld (os : Os) : World :=
  let w0 := World.holding Tryz.prog os ⟨#[.cells #[.string ⟨#[118, 97, 108, 117, 101, 32, 111, 117, 116, 32, 111, 102, 32, 114, 97, 110, 103, 101]⟩] 172, .cells #[.string ⟨#[105, 110, 118, 97, 108, 105, 100, 32, 115, 121, 110, 116, 97, 120]⟩] 172], #[], []⟩
  { w0 with heap := setV (setV (setV (setV (setV (setV (setV (setV (setV w0.heap 8 (agg1 Rows.laid_math_bits_deBruijn32tab)) 9 (agg1 Rows.laid_math_bits_deBruijn64tab)) 2 (agg1 Rows.laid_internal_strconv_uint64pow10))
      7 (agg2 Rows.laid_unicode_utf8_acceptRanges)) 1 (agg1 Rows.laid_macaroon_predicate_words)) 0 (agg1 Rows.laid_macaroon_predicate_bits)) 6 (agg1 Rows.laid_unicode_utf8_first))
      5 [.iface 170 (.pointer (some ⟨kLow, 0, none⟩))]) 4 [.iface 170 (.pointer (some ⟨kLow + 1, 0, none⟩))] }
def kLaid : List (String × DataW Unit) := [("math/bits.deBruijn32tab", Rows.laid_math_bits_deBruijn32tab), ("math/bits.deBruijn64tab", Rows.laid_math_bits_deBruijn64tab), ("internal/strconv.uint64pow10", Rows.laid_internal_strconv_uint64pow10), ("unicode/utf8.acceptRanges", Rows.laid_unicode_utf8_acceptRanges), ("strconv.ErrRange", Rows.laid_strconv_ErrRange), ("strconv.ErrSyntax", Rows.laid_strconv_ErrSyntax), ("macaroon/predicate.words", Rows.laid_macaroon_predicate_words), ("macaroon/predicate.bits", Rows.laid_macaroon_predicate_bits), ("unicode/utf8.first", Rows.laid_unicode_utf8_first)]
set_option maxRecDepth 100000 in
theorem k_met (os : Os) (args : Array Value) : laidMet Tryz.prog kLaid ((kWorld os).forCall (fun _ _ => 0) ⟨#[], args, []⟩).memory :=
  laidMet_of_run' 8 (by kernel_rfl) (by kernel_rfl)
set_option maxRecDepth 100000 in
theorem k_bits : kLaid.filter (fun x => x.1 == "macaroon/predicate.bits") = [("macaroon/predicate.bits", Rows.laid_macaroon_predicate_bits)] := by kernel_rfl
set_option maxRecDepth 100000 in
theorem k_words : kLaid.filter (fun x => x.1 == "macaroon/predicate.words") = [("macaroon/predicate.words", Rows.laid_macaroon_predicate_words)] := by kernel_rfl
set_option maxRecDepth 100000 in
theorem k_pow : kLaid.filter (fun x => x.1 == "internal/strconv.uint64pow10") = [("internal/strconv.uint64pow10", Lib.tabData .u64 Lib.pow10Tab)] := by kernel_rfl
set_option maxRecDepth 100000 in
theorem k_errS : kLaid.filter (fun x => x.1 == "strconv.ErrSyntax") = [("strconv.ErrSyntax", Rows.laid_strconv_ErrSyntax)] := by kernel_rfl
set_option maxRecDepth 100000 in
theorem k_errR : kLaid.filter (fun x => x.1 == "strconv.ErrRange") = [("strconv.ErrRange", Rows.laid_strconv_ErrRange)] := by kernel_rfl
theorem k_star : "*" ++ "errors.errorString" = "*errors.errorString" := by decide
theorem k_row (u : TypeId) (h : Tryz.prog.typeName? 3 u = some "*errors.errorString") : u = 170 :=
  typeName_ptr_named (nm := "errors.errorString") (by rw [k_star]; kernel_rfl) (by kernel_rfl) (by decide) u (by rw [k_star]; exact h)
set_option maxRecDepth 100000 in
theorem k_cells {W : World} (h : laidMet Tryz.prog kLaid W) (hs : W.ShapedOpen Tryz.prog) : gl.p (imOf W) := by
  have h1 := h.filter fun x => x.1 == "macaroon/predicate.bits"
  have h2 := h.filter fun x => x.1 == "macaroon/predicate.words"
  have h3 := h.filter fun x => x.1 == "internal/strconv.uint64pow10"
  have h4 := h.filter fun x => x.1 == "strconv.ErrSyntax"
  have h5 := h.filter fun x => x.1 == "strconv.ErrRange"
  rw [k_bits] at h1
  rw [k_words] at h2
  rw [k_pow] at h3
  rw [k_errS] at h4
  rw [k_errR] at h5
  obtain ⟨m, hm⟩ := cell_of_shapedOpen_int (g := 3) (zero := #[.int .i64 0]) (t := 3) hs (of_decide_eq_true (by kernel_rfl)) (by kernel_rfl) rfl (by kernel_rfl) (by kernel_rfl) Tryz.underlying3
  exact ⟨ints_laid (l := bitsA.l) (T := 117) (E := 3) (by kernel_rfl) (by kernel_rfl) Tryz.underlying117 Tryz.underlying3 (by kernel_rfl) (by decide) rfl h1,
    strs_laid (l := wordsA.l.map Str.l) (T := 118) (E := 9) (by kernel_rfl) (by kernel_rfl) Tryz.underlying118 Tryz.underlying9 (by kernel_rfl) (by kernel_rfl) rfl h2,
    ⟨m, cells_of_cell hm⟩,
    im_of_var (by kernel_rfl) (Lib.tabIs_of_head (g := 2) (t := 151) (e := 37) (n := 20) (by kernel_rfl) (by kernel_rfl) Tryz.underlying151 Tryz.underlying37 (by kernel_rfl) (by kernel_rfl) h3),
    sent_laid rfl h4 (by kernel_rfl) (by kernel_rfl) Tryz.underlying64 k_row Tryz.underlying170 Tryz.underlying172 rfl rfl Tryz.underlying9 (by kernel_rfl) (by kernel_rfl),
    sent_laid rfl h5 (by kernel_rfl) (by kernel_rfl) Tryz.underlying64 k_row Tryz.underlying170 Tryz.underlying172 rfl rfl Tryz.underlying9 (by kernel_rfl) (by kernel_rfl)⟩
theorem op3 : Opens Tryz.prog 3 Int := .i64 Tryz.underlying3 (by kernel_rfl)
theorem op9 : Opens Tryz.prog 9 Str := .str Tryz.underlying9 (by kernel_rfl)
theorem op23 : Opens Tryz.prog 23 (List Int) := .slice Tryz.underlying23 (by kernel_rfl) op3 (by decide)
theorem op5 : Opens Tryz.prog 5 UInt8 := .u8 Tryz.underlying5 (by kernel_rfl)
end Go.Proofs.YtfkbejimghamkaaGreatDoor
