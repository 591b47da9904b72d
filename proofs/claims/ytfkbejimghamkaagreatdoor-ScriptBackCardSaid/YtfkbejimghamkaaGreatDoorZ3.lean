/- Plain Lean over any program, and walks of this seat's functions: contracts, each proved once (part 3). -/
import Derived.Test.YtfkbejimghamkaaGreatDoorZ2
import Derived.Shelf.Strings.Builder1
set_option linter.unusedSimpArgs false
set_option maxRecDepth 1000000
set_option linter.unusedVariables false
set_option linter.unusedSimpArgs false
namespace Go.Proofs.YtfkbejimghamkaaGreatDoor
open Go.Fl Go.Ab Go.Mac Go.Sha
def restR (s : Step) : List Pred := if kpr s.Kind = true then s.Predicates else []
def refBad (s : Step) : Bool := !decide (s = stepR s.Kind (valsS s) (restR s) ((hLens s).get s)) || (!khl s.Kind && decide ((hLens s).get s ≠ ⟨[]⟩))
theorem bad1 (a b n le mo z li mi : Int) (p : List Pred) (h ho : Str) : refBad ⟨1, a, b, n, p, ⟨le, mo⟩, h, ⟨z, li, mi, ho⟩⟩ = extraS ⟨1, a, b, n, p, ⟨le, mo⟩, h, ⟨z, li, mi, ho⟩⟩ := by
  show (!decide ((⟨1, a, b, n, p, ⟨le, mo⟩, h, ⟨z, li, mi, ho⟩⟩ : Step) = ⟨1, 0, 0, 0, [], ⟨0, 0⟩, ⟨[]⟩, ⟨0, 0, 0, ⟨[]⟩⟩⟩) || (!false && decide (ho ≠ ⟨[]⟩))) = fullS ⟨1, a, b, n, p, ⟨le, mo⟩, h, ⟨z, li, mi, ho⟩⟩
  unfold fullS
  cases p <;> (rw [Bool.eq_iff_iff]; simp [default, G_api_Step.mk.injEq, G_api_Context.mk.injEq, G_api_Terms.mk.injEq]; try (by_cases q1 : h = ⟨[]⟩ <;> by_cases q2 : ho = ⟨[]⟩ <;> simp [q1, q2] <;> omega))
theorem bad2 (a b n le mo z li mi : Int) (p : List Pred) (h ho : Str) : refBad ⟨2, a, b, n, p, ⟨le, mo⟩, h, ⟨z, li, mi, ho⟩⟩ = extraS ⟨2, a, b, n, p, ⟨le, mo⟩, h, ⟨z, li, mi, ho⟩⟩ := by
  show (!decide ((⟨2, a, b, n, p, ⟨le, mo⟩, h, ⟨z, li, mi, ho⟩⟩ : Step) = ⟨2, 0, 0, n, [], ⟨0, 0⟩, ⟨[]⟩, ⟨0, 0, 0, ⟨[]⟩⟩⟩) || (!false && decide (ho ≠ ⟨[]⟩))) = fullS ⟨2, a, b, 0, p, ⟨le, mo⟩, h, ⟨z, li, mi, ho⟩⟩
  unfold fullS
  cases p <;> (rw [Bool.eq_iff_iff]; simp [default, G_api_Step.mk.injEq, G_api_Context.mk.injEq, G_api_Terms.mk.injEq]; try (by_cases q1 : h = ⟨[]⟩ <;> by_cases q2 : ho = ⟨[]⟩ <;> simp [q1, q2] <;> omega))
theorem bad3 (a b n le mo z li mi : Int) (p : List Pred) (h ho : Str) : refBad ⟨3, a, b, n, p, ⟨le, mo⟩, h, ⟨z, li, mi, ho⟩⟩ = extraS ⟨3, a, b, n, p, ⟨le, mo⟩, h, ⟨z, li, mi, ho⟩⟩ := by
  show (!decide ((⟨3, a, b, n, p, ⟨le, mo⟩, h, ⟨z, li, mi, ho⟩⟩ : Step) = ⟨3, a, 0, 0, p, ⟨0, 0⟩, ⟨[]⟩, ⟨0, 0, 0, ⟨[]⟩⟩⟩) || (!false && decide (ho ≠ ⟨[]⟩))) = fullS ⟨3, 0, b, n, [], ⟨le, mo⟩, h, ⟨z, li, mi, ho⟩⟩
  unfold fullS
  cases p <;> (rw [Bool.eq_iff_iff]; simp [default, G_api_Step.mk.injEq, G_api_Context.mk.injEq, G_api_Terms.mk.injEq]; try (by_cases q1 : h = ⟨[]⟩ <;> by_cases q2 : ho = ⟨[]⟩ <;> simp [q1, q2] <;> omega))
theorem bad4 (a b n le mo z li mi : Int) (p : List Pred) (h ho : Str) : refBad ⟨4, a, b, n, p, ⟨le, mo⟩, h, ⟨z, li, mi, ho⟩⟩ = extraS ⟨4, a, b, n, p, ⟨le, mo⟩, h, ⟨z, li, mi, ho⟩⟩ := by
  show (!decide ((⟨4, a, b, n, p, ⟨le, mo⟩, h, ⟨z, li, mi, ho⟩⟩ : Step) = ⟨4, a, b, n, [], ⟨0, 0⟩, ⟨[]⟩, ⟨0, 0, 0, ⟨[]⟩⟩⟩) || (!false && decide (ho ≠ ⟨[]⟩))) = fullS ⟨4, 0, 0, 0, p, ⟨le, mo⟩, h, ⟨z, li, mi, ho⟩⟩
  unfold fullS
  cases p <;> (rw [Bool.eq_iff_iff]; simp [default, G_api_Step.mk.injEq, G_api_Context.mk.injEq, G_api_Terms.mk.injEq]; try (by_cases q1 : h = ⟨[]⟩ <;> by_cases q2 : ho = ⟨[]⟩ <;> simp [q1, q2] <;> omega))
theorem bad5 (a b n le mo z li mi : Int) (p : List Pred) (h ho : Str) : refBad ⟨5, a, b, n, p, ⟨le, mo⟩, h, ⟨z, li, mi, ho⟩⟩ = extraS ⟨5, a, b, n, p, ⟨le, mo⟩, h, ⟨z, li, mi, ho⟩⟩ := by
  show (!decide ((⟨5, a, b, n, p, ⟨le, mo⟩, h, ⟨z, li, mi, ho⟩⟩ : Step) = ⟨5, a, 0, n, [], ⟨0, 0⟩, ⟨[]⟩, ⟨0, 0, 0, ⟨[]⟩⟩⟩) || (!false && decide (ho ≠ ⟨[]⟩))) = fullS ⟨5, 0, b, 0, p, ⟨le, mo⟩, h, ⟨z, li, mi, ho⟩⟩
  unfold fullS
  cases p <;> (rw [Bool.eq_iff_iff]; simp [default, G_api_Step.mk.injEq, G_api_Context.mk.injEq, G_api_Terms.mk.injEq]; try (by_cases q1 : h = ⟨[]⟩ <;> by_cases q2 : ho = ⟨[]⟩ <;> simp [q1, q2] <;> omega))
theorem bad6 (a b n le mo z li mi : Int) (p : List Pred) (h ho : Str) : refBad ⟨6, a, b, n, p, ⟨le, mo⟩, h, ⟨z, li, mi, ho⟩⟩ = extraS ⟨6, a, b, n, p, ⟨le, mo⟩, h, ⟨z, li, mi, ho⟩⟩ := by
  show (!decide ((⟨6, a, b, n, p, ⟨le, mo⟩, h, ⟨z, li, mi, ho⟩⟩ : Step) = ⟨6, a, b, 0, p, ⟨0, 0⟩, ⟨[]⟩, ⟨0, 0, 0, ⟨[]⟩⟩⟩) || (!false && decide (ho ≠ ⟨[]⟩))) = fullS ⟨6, 0, 0, n, [], ⟨le, mo⟩, h, ⟨z, li, mi, ho⟩⟩
  unfold fullS
  cases p <;> (rw [Bool.eq_iff_iff]; simp [default, G_api_Step.mk.injEq, G_api_Context.mk.injEq, G_api_Terms.mk.injEq]; try (by_cases q1 : h = ⟨[]⟩ <;> by_cases q2 : ho = ⟨[]⟩ <;> simp [q1, q2] <;> omega))
theorem bad7 (a b n le mo z li mi : Int) (p : List Pred) (h ho : Str) : refBad ⟨7, a, b, n, p, ⟨le, mo⟩, h, ⟨z, li, mi, ho⟩⟩ = extraS ⟨7, a, b, n, p, ⟨le, mo⟩, h, ⟨z, li, mi, ho⟩⟩ := by
  show (!decide ((⟨7, a, b, n, p, ⟨le, mo⟩, h, ⟨z, li, mi, ho⟩⟩ : Step) = ⟨7, a, b, n, [], ⟨le, mo⟩, ⟨[]⟩, ⟨0, 0, 0, ⟨[]⟩⟩⟩) || (!false && decide (ho ≠ ⟨[]⟩))) = fullS ⟨7, 0, 0, 0, p, ⟨0, 0⟩, h, ⟨z, li, mi, ho⟩⟩
  unfold fullS
  cases p <;> (rw [Bool.eq_iff_iff]; simp [default, G_api_Step.mk.injEq, G_api_Context.mk.injEq, G_api_Terms.mk.injEq]; try (by_cases q1 : h = ⟨[]⟩ <;> by_cases q2 : ho = ⟨[]⟩ <;> simp [q1, q2] <;> omega))
theorem bad8 (a b n le mo z li mi : Int) (p : List Pred) (h ho : Str) : refBad ⟨8, a, b, n, p, ⟨le, mo⟩, h, ⟨z, li, mi, ho⟩⟩ = extraS ⟨8, a, b, n, p, ⟨le, mo⟩, h, ⟨z, li, mi, ho⟩⟩ := by
  show (!decide ((⟨8, a, b, n, p, ⟨le, mo⟩, h, ⟨z, li, mi, ho⟩⟩ : Step) = ⟨8, a, b, 0, [], ⟨0, 0⟩, h, ⟨0, 0, 0, ⟨[]⟩⟩⟩) || (!true && decide (h ≠ ⟨[]⟩))) = fullS ⟨8, 0, 0, n, p, ⟨le, mo⟩, ⟨[]⟩, ⟨z, li, mi, ho⟩⟩
  unfold fullS
  cases p <;> (rw [Bool.eq_iff_iff]; simp [default, G_api_Step.mk.injEq, G_api_Context.mk.injEq, G_api_Terms.mk.injEq]; try (by_cases q1 : h = ⟨[]⟩ <;> by_cases q2 : ho = ⟨[]⟩ <;> simp [q1, q2] <;> omega))
theorem bad9 (a b n le mo z li mi : Int) (p : List Pred) (h ho : Str) : refBad ⟨9, a, b, n, p, ⟨le, mo⟩, h, ⟨z, li, mi, ho⟩⟩ = extraS ⟨9, a, b, n, p, ⟨le, mo⟩, h, ⟨z, li, mi, ho⟩⟩ := by
  show (!decide ((⟨9, a, b, n, p, ⟨le, mo⟩, h, ⟨z, li, mi, ho⟩⟩ : Step) = ⟨9, a, b, n, [], ⟨0, 0⟩, ⟨[]⟩, ⟨0, 0, 0, ⟨[]⟩⟩⟩) || (!false && decide (ho ≠ ⟨[]⟩))) = fullS ⟨9, 0, 0, 0, p, ⟨le, mo⟩, h, ⟨z, li, mi, ho⟩⟩
  unfold fullS
  cases p <;> (rw [Bool.eq_iff_iff]; simp [default, G_api_Step.mk.injEq, G_api_Context.mk.injEq, G_api_Terms.mk.injEq]; try (by_cases q1 : h = ⟨[]⟩ <;> by_cases q2 : ho = ⟨[]⟩ <;> simp [q1, q2] <;> omega))
theorem bad10 (a b n le mo z li mi : Int) (p : List Pred) (h ho : Str) : refBad ⟨10, a, b, n, p, ⟨le, mo⟩, h, ⟨z, li, mi, ho⟩⟩ = extraS ⟨10, a, b, n, p, ⟨le, mo⟩, h, ⟨z, li, mi, ho⟩⟩ := by
  show (!decide ((⟨10, a, b, n, p, ⟨le, mo⟩, h, ⟨z, li, mi, ho⟩⟩ : Step) = ⟨10, a, 0, 0, [], ⟨0, 0⟩, ⟨[]⟩, ⟨0, 0, 0, ⟨[]⟩⟩⟩) || (!false && decide (ho ≠ ⟨[]⟩))) = fullS ⟨10, 0, b, n, p, ⟨le, mo⟩, h, ⟨z, li, mi, ho⟩⟩
  unfold fullS
  cases p <;> (rw [Bool.eq_iff_iff]; simp [default, G_api_Step.mk.injEq, G_api_Context.mk.injEq, G_api_Terms.mk.injEq]; try (by_cases q1 : h = ⟨[]⟩ <;> by_cases q2 : ho = ⟨[]⟩ <;> simp [q1, q2] <;> omega))
theorem bad11 (a b n le mo z li mi : Int) (p : List Pred) (h ho : Str) : refBad ⟨11, a, b, n, p, ⟨le, mo⟩, h, ⟨z, li, mi, ho⟩⟩ = extraS ⟨11, a, b, n, p, ⟨le, mo⟩, h, ⟨z, li, mi, ho⟩⟩ := by
  show (!decide ((⟨11, a, b, n, p, ⟨le, mo⟩, h, ⟨z, li, mi, ho⟩⟩ : Step) = ⟨11, a, b, n, [], ⟨0, 0⟩, ⟨[]⟩, ⟨z, li, 0, ho⟩⟩) || (!true && decide (ho ≠ ⟨[]⟩))) = fullS ⟨11, 0, 0, 0, p, ⟨le, mo⟩, h, ⟨0, 0, mi, ⟨[]⟩⟩⟩
  unfold fullS
  cases p <;> (rw [Bool.eq_iff_iff]; simp [default, G_api_Step.mk.injEq, G_api_Context.mk.injEq, G_api_Terms.mk.injEq]; try (by_cases q1 : h = ⟨[]⟩ <;> by_cases q2 : ho = ⟨[]⟩ <;> simp [q1, q2] <;> omega))
theorem bad12 (a b n le mo z li mi : Int) (p : List Pred) (h ho : Str) : refBad ⟨12, a, b, n, p, ⟨le, mo⟩, h, ⟨z, li, mi, ho⟩⟩ = extraS ⟨12, a, b, n, p, ⟨le, mo⟩, h, ⟨z, li, mi, ho⟩⟩ := by
  show (!decide ((⟨12, a, b, n, p, ⟨le, mo⟩, h, ⟨z, li, mi, ho⟩⟩ : Step) = ⟨12, 0, 0, n, [], ⟨0, 0⟩, ⟨[]⟩, ⟨0, 0, 0, ⟨[]⟩⟩⟩) || (!false && decide (ho ≠ ⟨[]⟩))) = fullS ⟨12, a, b, 0, p, ⟨le, mo⟩, h, ⟨z, li, mi, ho⟩⟩
  unfold fullS
  cases p <;> (rw [Bool.eq_iff_iff]; simp [default, G_api_Step.mk.injEq, G_api_Context.mk.injEq, G_api_Terms.mk.injEq]; try (by_cases q1 : h = ⟨[]⟩ <;> by_cases q2 : ho = ⟨[]⟩ <;> simp [q1, q2] <;> omega))
theorem bad13 (a b n le mo z li mi : Int) (p : List Pred) (h ho : Str) : refBad ⟨13, a, b, n, p, ⟨le, mo⟩, h, ⟨z, li, mi, ho⟩⟩ = extraS ⟨13, a, b, n, p, ⟨le, mo⟩, h, ⟨z, li, mi, ho⟩⟩ := by
  show (!decide ((⟨13, a, b, n, p, ⟨le, mo⟩, h, ⟨z, li, mi, ho⟩⟩ : Step) = ⟨13, 0, 0, n, [], ⟨0, 0⟩, ⟨[]⟩, ⟨0, 0, 0, ⟨[]⟩⟩⟩) || (!false && decide (ho ≠ ⟨[]⟩))) = fullS ⟨13, a, b, 0, p, ⟨le, mo⟩, h, ⟨z, li, mi, ho⟩⟩
  unfold fullS
  cases p <;> (rw [Bool.eq_iff_iff]; simp [default, G_api_Step.mk.injEq, G_api_Context.mk.injEq, G_api_Terms.mk.injEq]; try (by_cases q1 : h = ⟨[]⟩ <;> by_cases q2 : ho = ⟨[]⟩ <;> simp [q1, q2] <;> omega))
theorem bad14 (a b n le mo z li mi : Int) (p : List Pred) (h ho : Str) : refBad ⟨14, a, b, n, p, ⟨le, mo⟩, h, ⟨z, li, mi, ho⟩⟩ = extraS ⟨14, a, b, n, p, ⟨le, mo⟩, h, ⟨z, li, mi, ho⟩⟩ := by
  show (!decide ((⟨14, a, b, n, p, ⟨le, mo⟩, h, ⟨z, li, mi, ho⟩⟩ : Step) = ⟨14, 0, 0, n, [], ⟨0, 0⟩, ⟨[]⟩, ⟨0, 0, 0, ⟨[]⟩⟩⟩) || (!false && decide (ho ≠ ⟨[]⟩))) = fullS ⟨14, a, b, 0, p, ⟨le, mo⟩, h, ⟨z, li, mi, ho⟩⟩
  unfold fullS
  cases p <;> (rw [Bool.eq_iff_iff]; simp [default, G_api_Step.mk.injEq, G_api_Context.mk.injEq, G_api_Terms.mk.injEq]; try (by_cases q1 : h = ⟨[]⟩ <;> by_cases q2 : ho = ⟨[]⟩ <;> simp [q1, q2] <;> omega))
theorem bad15 (a b n le mo z li mi : Int) (p : List Pred) (h ho : Str) : refBad ⟨15, a, b, n, p, ⟨le, mo⟩, h, ⟨z, li, mi, ho⟩⟩ = extraS ⟨15, a, b, n, p, ⟨le, mo⟩, h, ⟨z, li, mi, ho⟩⟩ := by
  show (!decide ((⟨15, a, b, n, p, ⟨le, mo⟩, h, ⟨z, li, mi, ho⟩⟩ : Step) = ⟨15, 0, 0, n, [], ⟨0, 0⟩, ⟨[]⟩, ⟨0, 0, 0, ⟨[]⟩⟩⟩) || (!false && decide (ho ≠ ⟨[]⟩))) = fullS ⟨15, a, b, 0, p, ⟨le, mo⟩, h, ⟨z, li, mi, ho⟩⟩
  unfold fullS
  cases p <;> (rw [Bool.eq_iff_iff]; simp [default, G_api_Step.mk.injEq, G_api_Context.mk.injEq, G_api_Terms.mk.injEq]; try (by_cases q1 : h = ⟨[]⟩ <;> by_cases q2 : ho = ⟨[]⟩ <;> simp [q1, q2] <;> omega))
theorem bad16 (a b n le mo z li mi : Int) (p : List Pred) (h ho : Str) : refBad ⟨16, a, b, n, p, ⟨le, mo⟩, h, ⟨z, li, mi, ho⟩⟩ = extraS ⟨16, a, b, n, p, ⟨le, mo⟩, h, ⟨z, li, mi, ho⟩⟩ := by
  show (!decide ((⟨16, a, b, n, p, ⟨le, mo⟩, h, ⟨z, li, mi, ho⟩⟩ : Step) = ⟨16, a, 0, n, [], ⟨0, 0⟩, ⟨[]⟩, ⟨0, 0, 0, ⟨[]⟩⟩⟩) || (!false && decide (ho ≠ ⟨[]⟩))) = fullS ⟨16, 0, b, 0, p, ⟨le, mo⟩, h, ⟨z, li, mi, ho⟩⟩
  unfold fullS
  cases p <;> (rw [Bool.eq_iff_iff]; simp [default, G_api_Step.mk.injEq, G_api_Context.mk.injEq, G_api_Terms.mk.injEq]; try (by_cases q1 : h = ⟨[]⟩ <;> by_cases q2 : ho = ⟨[]⟩ <;> simp [q1, q2] <;> omega))
theorem bad17 (a b n le mo z li mi : Int) (p : List Pred) (h ho : Str) : refBad ⟨17, a, b, n, p, ⟨le, mo⟩, h, ⟨z, li, mi, ho⟩⟩ = extraS ⟨17, a, b, n, p, ⟨le, mo⟩, h, ⟨z, li, mi, ho⟩⟩ := by
  show (!decide ((⟨17, a, b, n, p, ⟨le, mo⟩, h, ⟨z, li, mi, ho⟩⟩ : Step) = ⟨17, a, 0, 0, [], ⟨0, 0⟩, ⟨[]⟩, ⟨0, 0, 0, ⟨[]⟩⟩⟩) || (!false && decide (ho ≠ ⟨[]⟩))) = fullS ⟨17, 0, b, n, p, ⟨le, mo⟩, h, ⟨z, li, mi, ho⟩⟩
  unfold fullS
  cases p <;> (rw [Bool.eq_iff_iff]; simp [default, G_api_Step.mk.injEq, G_api_Context.mk.injEq, G_api_Terms.mk.injEq]; try (by_cases q1 : h = ⟨[]⟩ <;> by_cases q2 : ho = ⟨[]⟩ <;> simp [q1, q2] <;> omega))
theorem bad18 (a b n le mo z li mi : Int) (p : List Pred) (h ho : Str) : refBad ⟨18, a, b, n, p, ⟨le, mo⟩, h, ⟨z, li, mi, ho⟩⟩ = extraS ⟨18, a, b, n, p, ⟨le, mo⟩, h, ⟨z, li, mi, ho⟩⟩ := by
  show (!decide ((⟨18, a, b, n, p, ⟨le, mo⟩, h, ⟨z, li, mi, ho⟩⟩ : Step) = ⟨18, a, 0, 0, [], ⟨0, 0⟩, ⟨[]⟩, ⟨0, 0, 0, ⟨[]⟩⟩⟩) || (!false && decide (ho ≠ ⟨[]⟩))) = fullS ⟨18, 0, b, n, p, ⟨le, mo⟩, h, ⟨z, li, mi, ho⟩⟩
  unfold fullS
  cases p <;> (rw [Bool.eq_iff_iff]; simp [default, G_api_Step.mk.injEq, G_api_Context.mk.injEq, G_api_Terms.mk.injEq]; try (by_cases q1 : h = ⟨[]⟩ <;> by_cases q2 : ho = ⟨[]⟩ <;> simp [q1, q2] <;> omega))
theorem bad19 (a b n le mo z li mi : Int) (p : List Pred) (h ho : Str) : refBad ⟨19, a, b, n, p, ⟨le, mo⟩, h, ⟨z, li, mi, ho⟩⟩ = extraS ⟨19, a, b, n, p, ⟨le, mo⟩, h, ⟨z, li, mi, ho⟩⟩ := by
  show (!decide ((⟨19, a, b, n, p, ⟨le, mo⟩, h, ⟨z, li, mi, ho⟩⟩ : Step) = ⟨19, a, b, 0, [], ⟨0, 0⟩, ⟨[]⟩, ⟨0, 0, 0, ⟨[]⟩⟩⟩) || (!false && decide (ho ≠ ⟨[]⟩))) = fullS ⟨19, 0, 0, n, p, ⟨le, mo⟩, h, ⟨z, li, mi, ho⟩⟩
  unfold fullS
  cases p <;> (rw [Bool.eq_iff_iff]; simp [default, G_api_Step.mk.injEq, G_api_Context.mk.injEq, G_api_Terms.mk.injEq]; try (by_cases q1 : h = ⟨[]⟩ <;> by_cases q2 : ho = ⟨[]⟩ <;> simp [q1, q2] <;> omega))
theorem bad20 (a b n le mo z li mi : Int) (p : List Pred) (h ho : Str) : refBad ⟨20, a, b, n, p, ⟨le, mo⟩, h, ⟨z, li, mi, ho⟩⟩ = extraS ⟨20, a, b, n, p, ⟨le, mo⟩, h, ⟨z, li, mi, ho⟩⟩ := by
  show (!decide ((⟨20, a, b, n, p, ⟨le, mo⟩, h, ⟨z, li, mi, ho⟩⟩ : Step) = ⟨20, a, b, 0, p, ⟨0, 0⟩, ⟨[]⟩, ⟨z, li, 0, ho⟩⟩) || (!true && decide (ho ≠ ⟨[]⟩))) = fullS ⟨20, 0, 0, n, [], ⟨le, mo⟩, h, ⟨0, 0, mi, ⟨[]⟩⟩⟩
  unfold fullS
  cases p <;> (rw [Bool.eq_iff_iff]; simp [default, G_api_Step.mk.injEq, G_api_Context.mk.injEq, G_api_Terms.mk.injEq]; try (by_cases q1 : h = ⟨[]⟩ <;> by_cases q2 : ho = ⟨[]⟩ <;> simp [q1, q2] <;> omega))
theorem bad21 (a b n le mo z li mi : Int) (p : List Pred) (h ho : Str) : refBad ⟨21, a, b, n, p, ⟨le, mo⟩, h, ⟨z, li, mi, ho⟩⟩ = extraS ⟨21, a, b, n, p, ⟨le, mo⟩, h, ⟨z, li, mi, ho⟩⟩ := by
  show (!decide ((⟨21, a, b, n, p, ⟨le, mo⟩, h, ⟨z, li, mi, ho⟩⟩ : Step) = ⟨21, a, b, 0, [], ⟨0, 0⟩, ⟨[]⟩, ⟨z, li, 0, ho⟩⟩) || (!true && decide (ho ≠ ⟨[]⟩))) = fullS ⟨21, 0, 0, n, p, ⟨le, mo⟩, h, ⟨0, 0, mi, ⟨[]⟩⟩⟩
  unfold fullS
  cases p <;> (rw [Bool.eq_iff_iff]; simp [default, G_api_Step.mk.injEq, G_api_Context.mk.injEq, G_api_Terms.mk.injEq]; try (by_cases q1 : h = ⟨[]⟩ <;> by_cases q2 : ho = ⟨[]⟩ <;> simp [q1, q2] <;> omega))
theorem bad22 (a b n le mo z li mi : Int) (p : List Pred) (h ho : Str) : refBad ⟨22, a, b, n, p, ⟨le, mo⟩, h, ⟨z, li, mi, ho⟩⟩ = extraS ⟨22, a, b, n, p, ⟨le, mo⟩, h, ⟨z, li, mi, ho⟩⟩ := by
  show (!decide ((⟨22, a, b, n, p, ⟨le, mo⟩, h, ⟨z, li, mi, ho⟩⟩ : Step) = ⟨22, a, b, n, [], ⟨0, 0⟩, ⟨[]⟩, ⟨0, 0, 0, ⟨[]⟩⟩⟩) || (!false && decide (ho ≠ ⟨[]⟩))) = fullS ⟨22, 0, 0, 0, p, ⟨le, mo⟩, h, ⟨z, li, mi, ho⟩⟩
  unfold fullS
  cases p <;> (rw [Bool.eq_iff_iff]; simp [default, G_api_Step.mk.injEq, G_api_Context.mk.injEq, G_api_Terms.mk.injEq]; try (by_cases q1 : h = ⟨[]⟩ <;> by_cases q2 : ho = ⟨[]⟩ <;> simp [q1, q2] <;> omega))
theorem bad_eq (s : Step) (hk : 1 ≤ s.Kind ∧ s.Kind < 23) : refBad s = extraS s := by
  obtain ⟨k, a, b, n, p, ⟨le, mo⟩, h, ⟨z, li, mi, ho⟩⟩ := s
  dsimp only at hk
  have h22 : k = 1 ∨ k = 2 ∨ k = 3 ∨ k = 4 ∨ k = 5 ∨ k = 6 ∨ k = 7 ∨ k = 8 ∨ k = 9 ∨ k = 10 ∨ k = 11 ∨ k = 12 ∨ k = 13 ∨ k = 14 ∨ k = 15 ∨ k = 16 ∨ k = 17 ∨ k = 18 ∨ k = 19 ∨ k = 20 ∨ k = 21 ∨ k = 22 := by omega
  rcases h22 with rfl | rfl | rfl | rfl | rfl | rfl | rfl | rfl | rfl | rfl | rfl | rfl | rfl | rfl | rfl | rfl | rfl | rfl | rfl | rfl | rfl | rfl
  · exact bad1 a b n le mo z li mi p h ho
  · exact bad2 a b n le mo z li mi p h ho
  · exact bad3 a b n le mo z li mi p h ho
  · exact bad4 a b n le mo z li mi p h ho
  · exact bad5 a b n le mo z li mi p h ho
  · exact bad6 a b n le mo z li mi p h ho
  · exact bad7 a b n le mo z li mi p h ho
  · exact bad8 a b n le mo z li mi p h ho
  · exact bad9 a b n le mo z li mi p h ho
  · exact bad10 a b n le mo z li mi p h ho
  · exact bad11 a b n le mo z li mi p h ho
  · exact bad12 a b n le mo z li mi p h ho
  · exact bad13 a b n le mo z li mi p h ho
  · exact bad14 a b n le mo z li mi p h ho
  · exact bad15 a b n le mo z li mi p h ho
  · exact bad16 a b n le mo z li mi p h ho
  · exact bad17 a b n le mo z li mi p h ho
  · exact bad18 a b n le mo z li mi p h ho
  · exact bad19 a b n le mo z li mi p h ho
  · exact bad20 a b n le mo z li mi p h ho
  · exact bad21 a b n le mo z li mi p h ho
  · exact bad22 a b n le mo z li mi p h ho
end Go.Proofs.YtfkbejimghamkaaGreatDoor
set_option maxRecDepth 1000000
set_option linter.unusedVariables false
set_option linter.unusedSimpArgs false
namespace Go.Proofs.YtfkbejimghamkaaGreatDoor
open Go.Fl Go.Ab Go.Mac Go.Sha
def tailP (l : List Pred) : List UInt8 := Lib.joinTail [59, 32] (l.map textL)
theorem tailP_succ (l : List Pred) (j : Nat) (h : j < l.length) : tailP (l.take (j + 1)) = tailP (l.take j) ++ (59 :: 32 :: textL l[j]) := by
  unfold tailP Lib.joinTail
  rw [List.take_succ_eq_append_getElem h, List.map_append, List.map_append, List.flatten_append]
  congr 1
  simp
theorem tailP_len (l : List Pred) (h : ∀ p ∈ l, predOk p = true) : ∀ j, j ≤ l.length → (tailP (l.take j)).length ≤ 202 * j
  | 0, _ => by simp [tailP, Lib.joinTail]
  | j + 1, hj => by
    have h1 := tailP_len l h j (by omega)
    have h2 := txt_len (h _ (List.getElem_mem (show j < l.length by omega)))
    rw [tailP_succ l j (by omega)]
    simp; omega
theorem zero_preds (l : List Fld) : ∀ s : Step, (zeroF l s).Predicates = s.Predicates := by
  induction l with
  | nil => intro s; rfl
  | cons f l ih => intro s; show (zeroF l (f.lens.set 0 s)).Predicates = _; rw [ih]; cases f <;> rfl
theorem hset_preds (u : Step) (x : Str) : ((hLens u).set x u).Predicates = u.Predicates := by unfold hLens; split <;> rfl
theorem rest_eq {s : Step} (h : extraS s = false) : restR s = s.Predicates := by
  unfold restR
  split
  · rfl
  · rename_i hk
    unfold extraS fullS at h
    simp only [Bool.or_eq_false_iff, decide_eq_false_iff_not] at h
    have h1 := h.1.1.1.2
    have e : (blankS s).Predicates = s.Predicates := by
      unfold blankS
      dsimp only
      rw [if_neg hk]
      split
      · rw [hset_preds, zero_preds]
      · rw [zero_preds]
    rw [e] at h1
    cases hp : s.Predicates with
    | nil => rfl
    | cons a t => rw [hp] at h1; simp at h1
theorem tail_app (a b : List (List UInt8)) : Lib.joinTail [59, 32] (a ++ b) = Lib.joinTail [59, 32] a ++ Lib.joinTail [59, 32] b := by simp [Lib.joinTail]
theorem lineT_eq {s : Step} (h : restR s = s.Predicates) : lineT s = numsS (swL.getD s.Kind.toNat []) (valsS s) ++ tailP (restR s) ++ (if khl s.Kind = true then 59 :: 32 :: ((hLens s).get s).l else []) := by
  unfold lineT partsS
  rw [Lib.join_cons, tail_app, h]
  unfold tailP
  split
  · rw [List.append_assoc]; simp [Lib.joinTail]
  · simp [Lib.joinTail]
end Go.Proofs.YtfkbejimghamkaaGreatDoor
set_option maxRecDepth 1000000
set_option linter.unusedVariables false
set_option linter.unusedSimpArgs false
namespace Go.Proofs.YtfkbejimghamkaaGreatDoor
open Go.Fl Go.Ab Go.Mac Go.Sha
def textF (l : List Step) : List UInt8 := (l.map fun s => lineT s ++ [10]).flatten
def formatF : List Step → Str × Int
  | [] => (⟨[]⟩, 0)
  | s :: r => if (lineF s).2 ≠ 0 then (⟨[]⟩, (lineF s).2) else if (formatF r).2 ≠ 0 then (⟨[]⟩, (formatF r).2) else (⟨lineT s ++ 10 :: (formatF r).1.l⟩, 0)
theorem formatF_ok : ∀ (l : List Step), (∀ i (h : i < l.length), (lineF l[i]).2 = 0) → formatF l = (⟨textF l⟩, 0)
  | [], _ => rfl
  | s :: r, h => by
    have h0 : (lineF s).2 = 0 := h 0 (by simp)
    have h1 := formatF_ok r fun i hi => h (i + 1) (by simp; omega)
    rw [formatF, if_neg (by rw [h0]; decide), h1, if_neg (by simp)]
    simp [textF]
theorem formatF_err : ∀ (l : List Step) (j : Nat) (hj : j < l.length), (∀ i (h : i < l.length), i < j → (lineF l[i]).2 = 0) → (lineF l[j]).2 ≠ 0 → formatF l = (⟨[]⟩, (lineF l[j]).2)
  | [], j, hj, _, _ => by simp at hj
  | s :: r, 0, _, _, h => by rw [formatF]; exact if_pos h
  | s :: r, j + 1, hj, h, hb => by
    have h0 : (lineF s).2 = 0 := h 0 (by simp) (by omega)
    have hj2 : j < r.length := by simp at hj; omega
    have h1 := formatF_err r j hj2 (fun i hi hij => h (i + 1) (by simp; omega) (by omega)) hb
    rw [formatF, if_neg (by rw [h0]; decide), h1, if_pos (show (lineF (r[j]'hj2)).2 ≠ 0 from hb)]; rfl
theorem textF_succ (l : List Step) (j : Nat) (h : j < l.length) : textF (l.take (j + 1)) = textF (l.take j) ++ (lineT l[j] ++ [10]) := by
  unfold textF
  rw [List.take_succ_eq_append_getElem h, List.map_append, List.flatten_append]
  congr 1
  simp
theorem lineF_ok {s : Step} (h : (lineF s).2 = 0) : (1 ≤ s.Kind ∧ s.Kind < 23) ∧ checkS s = 0 ∧ lineF s = (⟨lineT s⟩, 0) := by
  unfold lineF at h ⊢
  split at h
  · cases h
  · rename_i h1
    split at h
    · rename_i h2; exact absurd h h2
    · rename_i h2
      exact ⟨by omega, Decidable.not_not.1 h2, by rw [if_neg h1, if_neg h2]⟩
theorem textF_len (l : List Step) (h : ∀ s ∈ l, s.Predicates.length ≤ 4000) : ∀ j, j ≤ l.length → (∀ i (hi : i < l.length), i < j → (lineF l[i]).2 = 0) → (textF (l.take j)).length ≤ 1000001 * j
  | 0, _, _ => by simp [textF]
  | j + 1, hj, h2 => by
    have h1 := textF_len l h j (by omega) fun i hi hij => h2 i hi (by omega)
    have hx := line_le (checkS_ok (lineF_ok (h2 j (by omega) (by omega))).2.1) (h _ (List.getElem_mem (show j < l.length by omega)))
    rw [textF_succ l j (by omega)]
    simp; omega
theorem sameSteps_c (a b : List Step) : FunA gl Tryz.prog 13 [.v a, .v b] (fun r => r = .v (decide (a = b))) := by
  refine FunA.intro Tryz.func13 rfl (by kernel_rfl) 27 rfl rfl _ rfl fun C hC hG => ?_
  refine .seq ?_
  refine .region rfl ?_
  refine .p (.assign .b ?_)
  refine .nil ?_
  refine .seq ?_
  refine .seq ?_
  refine .lenLe 0 rfl fun hl0 => ?_
  refine .lenLe 1 rfl fun hl1 => ?_
  refine .region rfl ?_
  refine .p (.move (.t rfl) (.p (.len Tryz.underlying22 (.t rfl) (.p (.move (.t rfl) (.p (.len Tryz.underlying22 (.t rfl) (.p (.neqI (.t rfl) (.t rfl) ?_)))))))))
  refine .nil ?_
  refine .condP (.t rfl) (fun hc10 => ?_) (fun hc10 => ?_)
  · refine .seq ?_
    refine .region rfl ?_
    refine .p (.assign .b ?_)
    refine .nil ?_
    refine .ret ?_
    refine ⟨_, .r1 rfl (.tmp rfl), ?_⟩
    rw [decide_eq_false (fun e => hc10 (by rw [e]))]
  · refine .skip ?_
    refine .seq ?_
    refine .seq ?_
    have hll : a.length = b.length := by omega
    refine .region rfl ?_
    refine .p (.assign (.i rfl) ?_)
    refine .nil ?_
    refine .block ?_
    refine .loopR (α := Nat) [(0, _), (1, _)] (fun k R => (5, .v (k : Int)) :: R) (fun k => []) (fun k => k ≤ a.length ∧ a.take k = b.take k) (fun k => a.length - k) (0) (.cons rfl (.cons rfl (.nil _))) ?_ (.cons rfl (.cons rfl (.cons rfl (.nil _)))) (rfl) fun k hF => ?_
    · simp
    obtain ⟨h1, h2⟩ := hF
    refine .seq ?_
    refine .seq ?_
    refine .region rfl ?_
    refine .p (.move (.t rfl) (.p (.move (.t rfl) (.p (.len Tryz.underlying22 (.t rfl) (.p (.lss (.t rfl) (.t rfl) ?_)))))))
    refine .nil ?_
    refine .condP (.t rfl) (fun hc14 => ?_) (fun hc14 => ?_)
    · refine .skip ?_
      refine .seq ?_
      refine .block ?_
      refine .seq ?_
      refine .draw (by kernel_rfl) 10 [[], [], [(17, 0), (18, 1)], [(19, 2)], [], [], [(21, 4), (22, 5)], [(23, 6)], [(20, 3), (24, 7)], [(25, 8)]] rfl (by kernel_rfl) rfl ?_
      refine ⟨_, OpP.move (.t rfl) rfl, ?_⟩
      refine ⟨_, OpP.move (.t rfl) rfl, ?_⟩
      refine ⟨_, OpP.idx ty30 Tryz.underlying22 (.t rfl) (.t rfl) (by first | omega | (simp; done) | (simp; omega) | (simp at *; omega)) (by first | omega | (simp; done) | (simp; omega) | (simp at *; omega)) rfl, ?_⟩
      refine ⟨_, OpP.ldP ty30 (.t rfl) rfl, ?_⟩
      refine ⟨_, OpP.move (.t rfl) rfl, ?_⟩
      refine ⟨_, OpP.move (.t rfl) rfl, ?_⟩
      refine ⟨_, OpP.idx ty30 Tryz.underlying22 (.t rfl) (.t rfl) (by first | omega | (simp; done) | (simp; omega) | (simp at *; omega)) (by first | omega | (simp; done) | (simp; omega) | (simp at *; omega)) rfl, ?_⟩
      refine ⟨_, OpP.ldP ty30 (.t rfl) rfl, ?_⟩
      refine ⟨_, OpP.call1 hG (sameStep_c _ _) (.cons (.t rfl) (.cons (.t rfl) .nil)) rfl, ?_⟩
      refine ⟨_, OpP.not (.t rfl) rfl, ?_⟩
      show wpB _ _ _ _ _ _ ((26, _) :: (25, _) :: (24, _) :: (23, _) :: (22, _) :: (21, _) :: (20, _) :: (19, _) :: (18, _) :: (17, _) :: _) _
      refine .nil ?_
      refine .cond (.t rfl) (fun hc26 => ?_) (fun hc26 => ?_)
      · refine .seq ?_
        refine .region rfl ?_
        refine .p (.assign .b ?_)
        refine .nil ?_
        refine .ret ?_
        refine ⟨_, .r1 rfl (.tmp rfl), ?_⟩
        rw [decide_eq_false (take_ne (k := k) (by omega) (by omega) (by simpa using hc26))]
      · refine .skip ?_
        refine .region rfl ?_
        refine .p (.move (.t rfl) (.p (.add (.t rfl) (.i rfl) (by first | omega | (simp; done) | (simp; omega) | (simp at *; omega)) (by first | omega | (simp; done) | (simp; omega) | (simp at *; omega)) (.p (.assign (.t rfl) ?_)))))
        refine .nil ?_
        refine ⟨k + 1, .cons rfl (.cons rfl (.cons rfl (.nil _))), rfl, ?_, by omega⟩
        exact ⟨by omega, take_eq_step (by omega) (by omega) h2 (by simpa using hc26)⟩
    · refine .exit ?_
      refine .seq ?_
      refine .region rfl ?_
      refine .p (.assign .b ?_)
      refine .nil ?_
      refine .ret ?_
      refine ⟨_, .r1 rfl (.tmp rfl), ?_⟩
      rw [decide_eq_true (take_all h2 (by omega) hll)]
end Go.Proofs.YtfkbejimghamkaaGreatDoor
set_option linter.unusedVariables false
set_option linter.unusedSimpArgs false
set_option maxRecDepth 1000000
namespace Go.Proofs.YtfkbejimghamkaaGreatDoor
open Go.Fl Go.Ab Go.Mac Go.Sha Go.Lib
theorem numOk_eq (n : Int) (l : List UInt8) : numOk n l = (atoiOk l && (decide (0 ≤ atoiV l) && decide (atoiV l < n))) := by
  unfold numOk atoiOk atoiV
  cases atoiAll l <;> rfl
theorem orL_snoc (l : List Nat) (i : Nat) : orL (l ++ [i]) = orL l ||| (1 <<< UInt64.ofNat i) := by unfold orL; rw [List.foldl_append]; rfl
theorem maskR_bad {l : List (List UInt8)} {n : Int} {k : Nat} (hk : k < l.length) (h : numOk n l[k] = false) : maskR l n = 0 := by
  unfold maskR
  rw [if_neg]
  intro e
  have := List.all_eq_true.1 e l[k] (List.getElem_mem hk)
  rw [h] at this; cases this
theorem splitC_small {c : UInt8} {l : List UInt8} {k : Nat} (hk : k < (splitC c l).length) : (splitC c l)[k].length ≤ l.length := splitC_len c l _ (List.getElem_mem hk)
theorem numOk_no {n : Int} {l : List UInt8} (h : (!atoiOk l || decide (atoiV l < 0) || decide (n ≤ atoiV l)) = true) : numOk n l = false := by
  rw [numOk_eq]
  simp only [Bool.or_eq_true, Bool.not_eq_true', decide_eq_true_eq] at h
  rcases h with (h | h) | h
  · rw [h]; rfl
  · rw [decide_eq_false (show ¬ 0 ≤ atoiV l by omega)]; simp
  · rw [decide_eq_false (show ¬ atoiV l < n by omega)]; simp
theorem numOk_yes {n : Int} {l : List UInt8} (h : (!atoiOk l || decide (atoiV l < 0) || decide (n ≤ atoiV l)) = false) : numOk n l = true ∧ 0 ≤ atoiV l ∧ atoiV l < n := by
  simp only [Bool.or_eq_false_iff, Bool.not_eq_false', decide_eq_false_iff_not] at h
  rw [numOk_eq, h.1.1, decide_eq_true (show 0 ≤ atoiV l by omega), decide_eq_true (show atoiV l < n by omega)]
  exact ⟨rfl, by omega, by omega⟩
theorem maskR_all {l : List (List UInt8)} {n : Int} (h : l.all (numOk n) = true) : maskR l n = orL (l.map fun x => (atoiV x).toNat) := by unfold maskR; rw [if_pos h]
theorem or_take (l : List (List UInt8)) (k : Nat) (h : k < l.length) : orL ((l.take (k + 1)).map fun x => (atoiV x).toNat) = orL ((l.take k).map fun x => (atoiV x).toNat) ||| (1 <<< UInt64.ofNat (atoiV l[k]).toNat) := by
  rw [List.take_succ_eq_append_getElem h, List.map_append]; exact orL_snoc _ _
theorem predList_c (s : Str) (n : Int) (hn0 : 0 ≤ n) (hn : n ≤ 64) (hs : s.l.length ≤ 20000) : FunA gl Tryz.prog 94 [.v s, .v n] (fun r => r = .v (maskR (splitC 44 s.l) n)) := by
  have hcnt := splitC_count 44 s.l
  refine FunA.intro Tryz.func94 rfl (by kernel_rfl) 39 rfl rfl _ rfl fun C hC hG => ?_
  refine .seq ?_
  refine .region rfl ?_
  refine .p (.assign (.u64 0 rfl) ?_)
  refine .nil ?_
  refine .seq ?_
  refine .region rfl ?_
  refine .p (.assign (.u64 0 rfl) ?_)
  refine .nil ?_
  refine .seq ?_
  refine .seq ?_
  have hmap : ((splitC 44 s.l).map Str.mk).length = (splitC 44 s.l).length := List.length_map _
  refine .region rfl ?_
  refine .p (.move (.t rfl) (.p (.call1 hG (libSplit_c _ _ (by first | omega | (simp; done) | (simp; omega) | (simp at *; omega))) (.cons (.t rfl) (.cons (.s [44] (by decide) (by decide)) .nil)) (.p (.len Tryz.underlying36 (.c rfl) (.p (.move (.i rfl) ?_)))))))
  refine .nil ?_
  refine .block ?_
  refine .loopR (α := Nat) [(1, _), (11, _), (12, _)] (fun k R => (5, .v (orL (((splitC 44 s.l).take k).map fun x => (atoiV x).toNat))) :: (13, .v (k : Int)) :: R) (fun k => []) (fun k => k ≤ (splitC 44 s.l).length ∧ ((splitC 44 s.l).take k).all (numOk n) = true) (fun k => (splitC 44 s.l).length - k) (0) (.cons rfl (.cons rfl (.cons rfl (.nil _)))) ?_ (.cons rfl (.cons rfl (.cons rfl (.cons rfl (.cons rfl (.nil _)))))) (rfl) fun k hF => ?_
  · simp
  obtain ⟨h1, h2⟩ := hF
  refine .seq ?_
  refine .region rfl ?_
  refine .p (.lss (.t rfl) (.t rfl) ?_)
  refine .nil ?_
  refine .seq ?_
  refine .condP (.t rfl) (fun hc14 => ?_) (fun hc14 => ?_)
  · refine .skip ?_
    refine .seq ?_
    refine .block ?_
    refine .seq ?_
    refine .region rfl ?_
    refine .p (.idx ty9 Tryz.underlying36 (.c rfl) (.t rfl) (by first | omega | (simp; done) | (simp; omega) | (simp at *; omega)) (by first | omega | (simp; done) | (simp; omega) | (simp at *; omega)) ?_)
    simp only [List.getElem_map, Int.toNat_natCast]
    have hsk := splitC_small (c := 44) (l := s.l) (k := k) (by omega)
    refine .p (.ldP ty9 (.t rfl) (.p (.assign (.t rfl) ?_)))
    refine .nil ?_
    refine .seq ?_
    refine .region rfl ?_
    refine .p (.move (.t rfl) (.p (.call1 hG (libAtoi_c _ (by first | omega | (simp; done) | (simp; omega) | (simp at *; omega))) (.cons (.t rfl) .nil) (.p (.move (.t rfl) (.p (.ext2_0 (.t rfl) (.p (.ext2_1 (.t rfl) (.p (.assign (.t rfl) ?_)))))))))))
    refine .p (.assign (.t rfl) ?_)
    refine .nil ?_
    refine .seq ?_
    refine .seq ?_
    refine .region rfl ?_
    refine .p (.move (.t rfl) (.p (.neNilI Tryz.underlying64 (.t rfl) (.p (.move (.t rfl) ?_)))))
    refine .go 24 rfl (.t rfl) (fun hg25 => .move (.t rfl) rfl) ?_
    refine .go 24 rfl (.t rfl) (fun hg26 => .lss (.o rfl (beq_iff_eq.2 hg26)) (.i rfl) rfl) ?_
    refine .p (.pickOr (.t rfl) (fun hp => (.o rfl (beq_iff_eq.2 hp))) (.p (.move (.t rfl) ?_)))
    refine .go 28 rfl (.t rfl) (fun hg29 => .move (.t rfl) rfl) ?_
    refine .go 28 rfl (.t rfl) (fun hg30 => .move (.t rfl) rfl) ?_
    refine .go 28 rfl (.t rfl) (fun hg31 => .geq (.o rfl (beq_iff_eq.2 hg31)) (.o rfl (beq_iff_eq.2 hg31)) rfl) ?_
    refine .p (.pickOr (.t rfl) (fun hp => (.o rfl (beq_iff_eq.2 hp))) ?_)
    refine .nil ?_
    refine .cond (.t rfl) (fun hc32 => ?_) (fun hc32 => ?_)
    · refine .seq ?_
      refine .region rfl ?_
      refine .p (.assign (.u64 0 rfl) ?_)
      refine .nil ?_
      refine .ret ?_
      refine ⟨_, .r1 rfl (.tmp rfl), ?_⟩
      exact congrArg AV.v (maskR_bad (k := k) (by omega) (numOk_no hc32)).symm
    · refine .skip ?_
      obtain ⟨hy1, hy2, hy3⟩ := numOk_yes hc32
      refine .region rfl ?_
      refine .p (.move (.t rfl) (.p (.move (.t rfl) (.p (.shl64I (.u64 1 rfl) (.t rfl) (by first | omega | (simp; done) | (simp; omega) | (simp at *; omega)) (by first | omega | (simp; done) | (simp; omega) | (simp at *; omega)) (.p (.or64 (.t rfl) (.t rfl) (.p (.assign (.t rfl) ?_)))))))))
      refine .nil ?_
      refine .region rfl ?_
      refine .p (.add (.t rfl) (.i rfl) (by first | omega | (simp; done) | (simp; omega) | (simp at *; omega)) (by first | omega | (simp; done) | (simp; omega) | (simp at *; omega)) (.p (.move (.t rfl) ?_)))
      refine .nil ?_
      refine ⟨k + 1, .cons (congrArg (fun q => some (AV.v q)) (or_take _ k (by omega)).symm) (.cons rfl (.cons rfl (.cons rfl (.cons rfl (.nil _))))), rfl, ?_, by omega⟩
      exact ⟨by omega, by rw [all_succ _ _ _ (by omega), h2]; exact hy1⟩
  · refine .exit ?_
    refine .seq ?_
    refine .region rfl ?_
    refine .p (.move (.t rfl) (.p (.assign (.t rfl) ?_)))
    refine .nil ?_
    refine .ret ?_
    refine ⟨_, .r1 rfl (.tmp rfl), ?_⟩
    rw [List.take_of_length_le (by omega)] at h2 ⊢
    rw [maskR_all h2]
theorem predRead_c (k : Int) (s : Str) (hk : 1 ≤ k ∧ k ≤ 7) (hs : s.l.length ≤ 20000) : FunA gl Tryz.prog 79 [.v k, .v s] (fun r => r = .v (readL k s.l)) := by
  have hcut := cutC_len 45 s.l
  refine FunA.intro Tryz.func79 rfl (by kernel_rfl) 52 rfl rfl _ rfl fun C hC hG => ?_
  refine .seq ?_
  refine .region rfl ?_
  refine .h (.alloc ty39 fun b4 => ?_)
  refine .nil ?_
  refine .seq ?_
  refine .region rfl ?_
  refine .p (.move (.t rfl) (.p (.bS1 G_api_Predicate.l0 rfl ty39 fo39 (fun c0 => (⟨c0, 0, 0, 0, ⟨[]⟩, 0⟩ : G_api_Predicate)) (fun _ => rfl) rfl rfl (.t rfl) (.h (.alloc ty39 fun b5 => .n (.stW ty39 (.t rfl) (.t rfl) .z ?_))))))
  refine .nil ?_
  refine .seq ?_
  refine .seq ?_
  refine .region rfl ?_
  refine .p (.move (.t rfl) ?_)
  refine .nil ?_
  refine .block ?_
  refine .seq ?_
  refine .seq ?_
  refine .region rfl ?_
  refine .p (.eqlI (.t rfl) (.i rfl) (.p (.assign (.t rfl) ?_)))
  refine .nil ?_
  refine .condP (.t rfl) (fun hc18 => ?_) (fun hc18 => ?_)
  · refine .skip ?_
    refine .condP (.t rfl) (fun hc18y => ?_) (fun y => absurd hc18 y)
    refine .seq ?_
    refine .region rfl ?_
    refine .p (.move (.t rfl) (.p (.call1 hG (libCut_c _ _ (by first | omega | (simp; done) | (simp; omega) | (simp at *; omega))) (.cons (.t rfl) (.cons (.s [45] (by decide) (by decide)) .nil)) (.p (.move (.t rfl) (.p (.ext3_0 (.t rfl) (.p (.ext3_1 (.t rfl) (.p (.ext3_2 (.t rfl) ?_)))))))))))
    refine .p (.assign (.t rfl) (.p (.assign (.t rfl) (.p (.assign (.t rfl) ?_)))))
    refine .nil ?_
    refine .seq ?_
    refine .region rfl ?_
    refine .p (.move (.t rfl) (.p (.call1 hG (libAtoi_c _ (by first | omega | (simp; done) | (simp; omega) | (simp at *; omega))) (.cons (.t rfl) .nil) (.p (.move (.t rfl) (.p (.ext2_0 (.t rfl) (.p (.ext2_1 (.t rfl) (.p (.fldW G_api_Predicate.l2 fd39_2 rfl (.t rfl) ?_)))))))))))
    refine .n (.stF (fun y x => { x with From := y }) ty3 (.t rfl) (.t rfl) .z (fun _ _ => rfl) ?_)
    refine .nil ?_
    refine .region rfl ?_
    refine .p (.move (.t rfl) (.p (.call1 hG (libAtoi_c _ (by first | omega | (simp; done) | (simp; omega) | (simp at *; omega))) (.cons (.t rfl) .nil) (.p (.move (.t rfl) (.p (.ext2_0 (.t rfl) (.p (.ext2_1 (.t rfl) (.p (.fldW G_api_Predicate.l3 fd39_3 rfl (.t rfl) ?_)))))))))))
    refine .n (.stF (fun y x => { x with To := y }) ty3 (.t rfl) (.t rfl) .z (fun _ _ => rfl) ?_)
    refine .nil ?_
    refine .seq ?_
    refine .region rfl ?_
    refine .p (.ldW ty39 (.t rfl) .z (.n (.stW ty39 (.t rfl) (.t rfl) (.s .z) ?_)))
    refine .nil ?_
    refine .ret ?_
    refine ⟨_, .r1 rfl (.cell ty39 rfl (.s .z)), ?_⟩
    first | (exfalso; omega) | (unfold readL; (repeat (first | rw [if_pos (by omega)] | rw [if_neg (by omega)])); try rfl)
  · refine .region rfl ?_
    refine .p (.eqlI (.t rfl) (.i rfl) (.p (.assign (.t rfl) ?_)))
    refine .nil ?_
    refine .condP (.t rfl) (fun hc18 => ?_) (fun hc18 => ?_)
    · refine .seq ?_
      refine .region rfl ?_
      refine .p (.move (.t rfl) (.p (.call1 hG (libCut_c _ _ (by first | omega | (simp; done) | (simp; omega) | (simp at *; omega))) (.cons (.t rfl) (.cons (.s [45] (by decide) (by decide)) .nil)) (.p (.move (.t rfl) (.p (.ext3_0 (.t rfl) (.p (.ext3_1 (.t rfl) (.p (.ext3_2 (.t rfl) ?_)))))))))))
      refine .p (.assign (.t rfl) (.p (.assign (.t rfl) (.p (.assign (.t rfl) ?_)))))
      refine .nil ?_
      refine .seq ?_
      refine .region rfl ?_
      refine .p (.move (.t rfl) (.p (.call1 hG (libAtoi_c _ (by first | omega | (simp; done) | (simp; omega) | (simp at *; omega))) (.cons (.t rfl) .nil) (.p (.move (.t rfl) (.p (.ext2_0 (.t rfl) (.p (.ext2_1 (.t rfl) (.p (.fldW G_api_Predicate.l2 fd39_2 rfl (.t rfl) ?_)))))))))))
      refine .n (.stF (fun y x => { x with From := y }) ty3 (.t rfl) (.t rfl) .z (fun _ _ => rfl) ?_)
      refine .nil ?_
      refine .region rfl ?_
      refine .p (.move (.t rfl) (.p (.call1 hG (libAtoi_c _ (by first | omega | (simp; done) | (simp; omega) | (simp at *; omega))) (.cons (.t rfl) .nil) (.p (.move (.t rfl) (.p (.ext2_0 (.t rfl) (.p (.ext2_1 (.t rfl) (.p (.fldW G_api_Predicate.l3 fd39_3 rfl (.t rfl) ?_)))))))))))
      refine .n (.stF (fun y x => { x with To := y }) ty3 (.t rfl) (.t rfl) .z (fun _ _ => rfl) ?_)
      refine .nil ?_
      refine .seq ?_
      refine .region rfl ?_
      refine .p (.ldW ty39 (.t rfl) .z (.n (.stW ty39 (.t rfl) (.t rfl) (.s .z) ?_)))
      refine .nil ?_
      refine .ret ?_
      refine ⟨_, .r1 rfl (.cell ty39 rfl (.s .z)), ?_⟩
      first | (exfalso; omega) | (unfold readL; (repeat (first | rw [if_pos (by omega)] | rw [if_neg (by omega)])); try rfl)
    · refine .seq ?_
      refine .region rfl ?_
      refine .p (.eqlI (.t rfl) (.i rfl) (.p (.assign (.t rfl) ?_)))
      refine .nil ?_
      refine .condP (.t rfl) (fun hc39 => ?_) (fun hc39 => ?_)
      · refine .region rfl ?_
        refine .p (.move (.t rfl) (.p (.fldW G_api_Predicate.l4 fd39_4 rfl (.t rfl) (.n (.stF (fun y x => { x with Name := y }) ty9 (.t rfl) (.t rfl) .z (fun _ _ => rfl) ?_)))))
        refine .nil ?_
        refine .seq ?_
        refine .region rfl ?_
        refine .p (.ldW ty39 (.t rfl) .z (.n (.stW ty39 (.t rfl) (.t rfl) (.s .z) ?_)))
        refine .nil ?_
        refine .ret ?_
        refine ⟨_, .r1 rfl (.cell ty39 rfl (.s .z)), ?_⟩
        first | (exfalso; omega) | (unfold readL; (repeat (first | rw [if_pos (by omega)] | rw [if_neg (by omega)])); try rfl)
      · refine .seq ?_
        refine .region rfl ?_
        refine .p (.eqlI (.t rfl) (.i rfl) (.p (.assign (.t rfl) ?_)))
        refine .nil ?_
        refine .condP (.t rfl) (fun hc43 => ?_) (fun hc43 => ?_)
        · refine .region rfl ?_
          refine .p (.move (.t rfl) (.p (.call1 hG (libAtoi_c _ (by first | omega | (simp; done) | (simp; omega) | (simp at *; omega))) (.cons (.t rfl) .nil) (.p (.move (.t rfl) (.p (.ext2_0 (.t rfl) (.p (.ext2_1 (.t rfl) (.p (.fldW G_api_Predicate.l5 fd39_5 rfl (.t rfl) ?_)))))))))))
          refine .n (.stF (fun y x => { x with Number := y }) ty3 (.t rfl) (.t rfl) .z (fun _ _ => rfl) ?_)
          refine .nil ?_
          refine .seq ?_
          refine .region rfl ?_
          refine .p (.ldW ty39 (.t rfl) .z (.n (.stW ty39 (.t rfl) (.t rfl) (.s .z) ?_)))
          refine .nil ?_
          refine .ret ?_
          refine ⟨_, .r1 rfl (.cell ty39 rfl (.s .z)), ?_⟩
          first | (exfalso; omega) | (unfold readL; (repeat (first | rw [if_pos (by omega)] | rw [if_neg (by omega)])); try rfl)
        · refine .region rfl ?_
          refine .p (.move (.t rfl) (.p (.move (.t rfl) (.p (.idxP ar117 (.glob hG gl_predicate_bits) (.t rfl) (by first | omega | (simp; done) | (simp; omega) | (simp at *; omega)) (by first | omega | (simp; done) | (simp; omega) | (simp at *; omega)) ?_)))))
          rw [bits_at k (by omega)]
          have hbn : 0 ≤ bitsN k ∧ bitsN k ≤ 64 := (by have h3 : k = 1 ∨ k = 2 ∨ k = 3 := (by omega); rcases h3 with e | e | e <;> rw [e] <;> decide)
          refine .p (.ldP ty3 (.t rfl) (.p (.call1 hG (predList_c _ _ (by first | omega | (simp; done) | (simp; omega) | (simp at *; omega)) (by first | omega | (simp; done) | (simp; omega) | (simp at *; omega)) (by first | omega | (simp; done) | (simp; omega) | (simp at *; omega))) (.cons (.t rfl) (.cons (.t rfl) .nil)) (.p (.fldW G_api_Predicate.l1 fd39_1 rfl (.t rfl) (.n (.stF (fun y x => { x with Mask := y }) ty37 (.t rfl) (.t rfl) .z (fun _ _ => rfl) ?_)))))))
          refine .nil ?_
          refine .seq ?_
          refine .region rfl ?_
          refine .p (.ldW ty39 (.t rfl) .z (.n (.stW ty39 (.t rfl) (.t rfl) (.s .z) ?_)))
          refine .nil ?_
          refine .ret ?_
          refine ⟨_, .r1 rfl (.cell ty39 rfl (.s .z)), ?_⟩
          first | (exfalso; omega) | (unfold readL; (repeat (first | rw [if_pos (by omega)] | rw [if_neg (by omega)])); try rfl)
theorem fmt_hit {q : Pred} {s : Str} (h : (decide ((fmtF q).2 = 0) && decide ((fmtF q).1 = s)) = true) : predOk q = true ∧ textL q = s.l := by
  simp only [Bool.and_eq_true, decide_eq_true_eq] at h
  by_cases hq : predOk q = true
  · rw [fmtF_ok hq] at h; exact ⟨hq, congrArg Str.l h.2⟩
  · rw [fmtF_no hq] at h; exact absurd h.1 (by decide)
theorem fmt_miss {q : Pred} {s : Str} (hq : predOk q = true) (h : textL q = s.l) : (decide ((fmtF q).2 = 0) && decide ((fmtF q).1 = s)) = true := by
  have e : (⟨textL q⟩ : Str) = s := by cases s; exact congrArg Str.mk h
  rw [fmtF_ok hq, e]; simp
theorem cut_of {p : Pred} {s : Str} (h : textL p = s.l) : cutC 32 s.l = (wordL p.Kind, bodyL p, true) := h ▸ cut_text p
theorem predParse_c (s : Str) (hs : s.l.length ≤ 20000) : FunA gl Tryz.prog 50 [.v s] (fun r => r = .t2 (.v (parF s 8).1) (.v (parF s 8).2)) := by
  have hcut := cutC_len 32 s.l
  refine FunA.intro Tryz.func50 rfl (by kernel_rfl) 43 rfl rfl _ rfl fun C hC hG => ?_
  refine .seq ?_
  refine .region rfl ?_
  refine .h (.alloc ty39 fun b2 => .p (.assign (.i rfl) ?_))
  refine .nil ?_
  refine .seq ?_
  refine .region rfl ?_
  refine .p (.move (.t rfl) (.p (.call1 hG (libCut_c _ _ (by first | omega | (simp; done) | (simp; omega) | (simp at *; omega))) (.cons (.t rfl) (.cons (.s [32] (by decide) (by decide)) .nil)) (.p (.move (.t rfl) (.p (.ext3_0 (.t rfl) (.p (.ext3_1 (.t rfl) (.p (.ext3_2 (.t rfl) ?_)))))))))))
  refine .p (.assign (.t rfl) (.p (.assign (.t rfl) (.p (.assign (.t rfl) ?_)))))
  refine .nil ?_
  refine .seq ?_
  refine .seq ?_
  refine .region rfl ?_
  refine .p (.assign (.i rfl) ?_)
  refine .nil ?_
  refine .block ?_
  refine .loopR (α := Nat) [(0, _), (2, _), (4, _), (5, _)] (fun k R => (7, .v (k : Int)) :: R) (fun k => [(true, .ob (ptr b2 0) (default : Pred))]) (fun k => 1 ≤ k ∧ k ≤ 8 ∧ ∀ p, predOk p = true → textL p = s.l → (k : Int) ≤ p.Kind) (fun k => 8 - k) (1) (.cons rfl (.cons rfl (.cons rfl (.cons rfl (.nil _))))) ?_ (.cons rfl (.cons rfl (.cons rfl (.cons rfl (.cons rfl (.nil _)))))) (rfl) fun k hF => ?_
  · exact ⟨by omega, by omega, fun p hp _ => (pred_kind7 hp).1⟩
  obtain ⟨h1, h2, h3⟩ := hF
  refine .seq ?_
  refine .seq ?_
  refine .region rfl ?_
  refine .p (.move (.t rfl) (.p (.lss (.t rfl) (.i rfl) ?_)))
  refine .nil ?_
  refine .condP (.t rfl) (fun hc18 => ?_) (fun hc18 => ?_)
  · refine .skip ?_
    refine .seq ?_
    refine .block ?_
    refine .seq ?_
    refine .seq ?_
    refine .region rfl ?_
    refine .p (.move (.t rfl) (.p (.idxP ar118 (.glob hG gl_predicate_words) (.t rfl) (by first | omega | (simp; done) | (simp; omega) | (simp at *; omega)) (by first | omega | (simp; done) | (simp; omega) | (simp at *; omega)) ?_)))
    rw [words_at (k : Int) (by omega)]
    refine .p (.ldP ty9 (.t rfl) (.p (.move (.t rfl) (.p (.neqS (.t rfl) (.t rfl) ?_)))))
    refine .nil ?_
    refine .condP (.t rfl) (fun hc25 => ?_) (fun hc25 => ?_)
    · refine .exit ?_
      refine .region rfl ?_
      refine .p (.move (.t rfl) (.p (.add (.t rfl) (.i rfl) (by first | omega | (simp; done) | (simp; omega) | (simp at *; omega)) (by first | omega | (simp; done) | (simp; omega) | (simp at *; omega)) (.p (.assign (.t rfl) ?_)))))
      refine .nil ?_
      refine ⟨k + 1, .cons rfl (.cons rfl (.cons rfl (.cons rfl (.cons rfl (.nil _))))), rfl, ?_, by omega⟩
      exact ⟨by omega, by omega, fun p hp ht => by have h5 := h3 p hp ht; have h6 := cut_of ht; have h7 : p.Kind ≠ k := fun e => hc25 (by rw [h6, e]); omega⟩
    · refine .skip ?_
      refine .seq ?_
      refine .region rfl ?_
      refine .p (.move (.t rfl) (.p (.move (.t rfl) (.p (.call1 hG (predRead_c _ _ (by first | omega | (simp; done) | (simp; omega) | (simp at *; omega)) (by first | omega | (simp; done) | (simp; omega) | (simp at *; omega))) (.cons (.t rfl) (.cons (.t rfl) .nil)) (.h (.alloc ty39 fun b8 => .n (.stW ty39 (.t rfl) (.t rfl) .z ?_))))))))
      refine .nil ?_
      refine .seq ?_
      refine .region rfl ?_
      refine .p (.ldW ty39 (.t rfl) .z (.p (.call1 hG (predFmt_c _) (.cons (.t rfl) .nil) (.p (.move (.t rfl) (.p (.ext2_0 (.t rfl) (.p (.ext2_1 (.t rfl) (.p (.assign (.t rfl) ?_)))))))))))
      refine .p (.assign (.t rfl) ?_)
      refine .nil ?_
      refine .seq ?_
      refine .region rfl ?_
      refine .p (.move (.t rfl) (.p (.eqlI (.t rfl) (.i rfl) (.p (.move (.t rfl) ?_)))))
      refine .go 36 rfl (.t rfl) (fun hg37 => .move (.t rfl) rfl) ?_
      refine .go 36 rfl (.t rfl) (fun hg38 => .move (.t rfl) rfl) ?_
      refine .go 36 rfl (.t rfl) (fun hg39 => .eqlS (.o rfl (beq_iff_eq.2 hg39)) (.o rfl (beq_iff_eq.2 hg39)) rfl) ?_
      refine .p (.pickAnd (.t rfl) (fun hp => (.o rfl (beq_iff_eq.2 hp))) ?_)
      refine .nil ?_
      refine .cond (.t rfl) (fun hc40 => ?_) (fun hc40 => ?_)
      · refine .seq ?_
        refine .region rfl ?_
        refine .p (.ldW ty39 (.t rfl) .z (.n (.stW ty39 (.t rfl) (.t rfl) (.s .z) (.p (.assign (.i rfl) ?_)))))
        refine .nil ?_
        refine .ret ?_
        refine ⟨_, .r2 rfl (.cell ty39 rfl (.s .z)) (.tmp rfl), ?_⟩
        obtain ⟨hq1, hq2⟩ := fmt_hit hc40
        rw [parF_ok hq1 hq2]
      · refine .skip ?_
        refine .drop ?_
        refine .region rfl ?_
        refine .p (.move (.t rfl) (.p (.add (.t rfl) (.i rfl) (by first | omega | (simp; done) | (simp; omega) | (simp at *; omega)) (by first | omega | (simp; done) | (simp; omega) | (simp at *; omega)) (.p (.assign (.t rfl) ?_)))))
        refine .nil ?_
        refine ⟨k + 1, .cons rfl (.cons rfl (.cons rfl (.cons rfl (.cons rfl (.nil _))))), rfl, ?_, by omega⟩
        exact ⟨by omega, by omega, fun p hp ht => by have h5 := h3 p hp ht; have h6 := cut_of ht; have h7 : p.Kind ≠ k := fun e => (by rw [h6, ← e] at hc40; dsimp only at hc40; rw [read_body hp, fmt_miss hp ht] at hc40; cases hc40); omega⟩
  · refine .exit ?_
    refine .seq ?_
    refine .region rfl ?_
    refine .p (.bS0 (α := G_api_Predicate) rfl ty39 fo39 (.n (.stW ty39 (.t rfl) (.t rfl) .z (.p (.assign (.i rfl) ?_)))))
    refine .nil ?_
    refine .ret ?_
    refine ⟨_, .r2 rfl (.cell ty39 rfl .z) (.tmp rfl), ?_⟩
    rw [parF_no fun p hp ht => by have h5 := h3 p hp ht; have h6 := pred_kind7 hp; omega]
theorem cutC_less {c : UInt8} : ∀ {l : List UInt8}, (cutC c l).2.2 = true → (cutC c l).2.1.length < l.length
  | [], h => by cases h
  | x :: l, h => by
    rw [cutC] at h ⊢
    by_cases e : x = c
    · rw [if_pos e]; simp
    · rw [if_neg e] at h ⊢
      have := cutC_less (l := l) h
      show (cutC c l).2.1.length < (x :: l).length
      rw [List.length_cons]; omega
theorem par_miss {s : Str} {q : Pred} (h : (decide ((fmtF q).2 = 0) && decide ((fmtF q).1 = s)) = false) (hq : ∀ p, predOk p = true → textL p = s.l → q = p) : parF s 8 = (default, 8) :=
  parF_no fun p hp ht => by
    obtain rfl := hq p hp ht
    rw [fmt_miss hp ht] at h; cases h
end Go.Proofs.YtfkbejimghamkaaGreatDoor
set_option linter.unusedVariables false
set_option linter.unusedSimpArgs false
namespace Go.Ab
open Go.Fl Go.RowKit
theorem index_app (t : List UInt8) : ∀ x : List UInt8, (∀ c ∈ x, c ≠ 59) → Lib.index (x ++ (59 :: 32 :: t)) [59, 32] = (x.length : Int)
  | [], _ => by simp [Lib.index, List.isPrefixOf]
  | b :: x, h => by
    have ih := index_app t x fun c hc => h c (by simp [hc])
    have hb := h b (by simp)
    rw [List.cons_append, Lib.index, ih]
    rw [if_neg (by simp [List.isPrefixOf, Ne.symm hb]), if_neg (by simp <;> omega)]
    simp
theorem index_no : ∀ x : List UInt8, (∀ c ∈ x, c ≠ 59) → Lib.index x [59, 32] = -1
  | [], _ => by simp [Lib.index]
  | b :: x, h => by
    have ih := index_no x fun c hc => h c (by simp [hc])
    have hb := h b (by simp)
    rw [Lib.index, ih]
    rw [if_neg (by simp [List.isPrefixOf, Ne.symm hb]), if_pos (by simp)]
theorem split_join2 : ∀ (x : List UInt8) (r : List (List UInt8)), (∀ y ∈ x :: r, ∀ c ∈ y, c ≠ 59) → Lib.split (Lib.join (x :: r) [59, 32]) [59, 32] = x :: r
  | x, [], h => by
    have hi := index_no x (h x (by simp))
    rw [Lib.join_one, Lib.split, Lib.count_miss hi]; rfl
  | x, y :: r, h => by
    have ih := split_join2 y r fun z hz => h z (by simp at hz ⊢; exact .inr hz)
    have e : Lib.join (x :: y :: r) [59, 32] = x ++ (59 :: 32 :: Lib.join (y :: r) [59, 32]) := by
      rw [Lib.join_cons, Lib.join_cons]; simp [Lib.joinTail]
    have hi := index_app (Lib.join (y :: r) [59, 32]) x (h x (by simp))
    rw [e, Lib.split, Lib.count_hit (by simp) hi]
    have hd : (x ++ (59 :: 32 :: Lib.join (y :: r) [59, 32])).drop (x.length + ([59, 32] : List UInt8).length) = Lib.join (y :: r) [59, 32] := by
      rw [← List.drop_drop, List.drop_left]; rfl
    rw [hd, Nat.add_comm, Lib.splitK, hi, if_neg (by simp <;> omega)]
    rw [Int.toNat_natCast, Nat.add_zero, List.take_left, hd]
    unfold Lib.split at ih
    rw [ih]
end Go.Ab
set_option maxRecDepth 1000000
set_option linter.unusedVariables false
set_option linter.unusedSimpArgs false
namespace Go.Proofs.YtfkbejimghamkaaGreatDoor
open Go.Fl Go.Ab Go.Mac Go.Sha Go.Lib
theorem atoi_neg {m : Nat} (h0 : 0 < m) (h : m < 1000000000000000000) : atoiAll (45 :: decDigits m) = .ok (-(m : Int)) := by
  have hm : parseMag (decDigits m) = .ok m := by unfold parseMag; rw [if_neg (dec_ne m), parse_dec m h]
  have h3 : ¬ 9223372036854775808 < m := by omega
  unfold atoiAll
  simp [hm, h3]
theorem atoi_itoa {n : Int} (h0 : -1000000000000000 < n) (h1 : n < 1000000000000000) : atoiAll (Lib.itoa n) = .ok n := by
  unfold Lib.itoa
  split
  · rw [atoi_neg (by omega) (by omega), show -(n.natAbs : Int) = n by omega]
  · rw [atoi_dec (by omega), show (n.toNat : Int) = n by omega]
theorem itoa_no (n : Int) {c : UInt8} (h : digit c = false) (h2 : c ≠ 45) : ∀ x ∈ Lib.itoa n, x ≠ c := by
  intro x hx
  unfold Lib.itoa at hx
  split at hx
  · rcases List.mem_cons.1 hx with rfl | hx
    · exact Ne.symm h2
    · exact dec_no _ h x hx
  · exact dec_no _ h x hx
theorem sw_no (k : Nat) {c : UInt8} (h : labelC c = false) : ∀ x ∈ swL.getD k [], x ≠ c := by
  have key : ∀ w ∈ swL, ∀ x ∈ w, labelC x = true := by decide
  intro x hx e
  rcases Nat.lt_or_ge k swL.length with hk | hk
  · rw [List.getD_eq_getElem?_getD, List.getElem?_eq_getElem hk] at hx
    have := key _ (List.getElem_mem hk) x hx
    rw [e, h] at this; cases this
  · rw [List.getD_eq_getElem?_getD, List.getElem?_eq_none hk] at hx; cases hx
theorem joinC_app (c : UInt8) (a b : List UInt8) (r : List (List UInt8)) : joinC c ((a ++ c :: b) :: r) = joinC c (a :: b :: r) := by
  cases r with
  | nil => simp [joinC]
  | cons x r => simp [joinC]
theorem nums_join : ∀ (l : List Int) (w : List UInt8), numsS w l = joinC 32 (w :: l.map Lib.itoa)
  | [], w => rfl
  | n :: l, w => by
    have ih := nums_join l (w ++ 32 :: Lib.itoa n)
    rw [joinC_app] at ih
    exact ih
theorem joinC_mem (c : UInt8) : ∀ (l : List (List UInt8)) (x : UInt8), x ∈ joinC c l → x = c ∨ ∃ a ∈ l, x ∈ a
  | [], x, h => by simp [joinC] at h
  | [a], x, h => .inr ⟨a, by simp, h⟩
  | a :: b :: l, x, h => by
    rw [joinC] at h
    rcases List.mem_append.1 h with h | h
    · exact .inr ⟨a, by simp, h⟩
    · rcases List.mem_cons.1 h with rfl | h
      · exact .inl rfl
      · rcases joinC_mem c (b :: l) x h with h | ⟨y, h1, h2⟩
        · exact .inl h
        · exact .inr ⟨y, List.mem_cons_of_mem _ h1, h2⟩
theorem nums_no (k : Nat) (l : List Int) : ∀ x ∈ numsS (swL.getD k []) l, x ≠ 59 := by
  intro x hx
  rw [nums_join] at hx
  rcases joinC_mem _ _ _ hx with rfl | ⟨a, h1, h2⟩
  · decide
  · rcases List.mem_cons.1 h1 with rfl | h1
    · exact sw_no k (by decide) x h2
    · obtain ⟨n, _, rfl⟩ := List.mem_map.1 h1
      exact itoa_no n (by decide) (by decide) x h2
theorem nums_split (k : Nat) (l : List Int) : splitC 32 (numsS (swL.getD k []) l) = swL.getD k [] :: l.map Lib.itoa := by
  rw [nums_join]
  refine split_join (by simp) fun a ha => ?_
  rcases List.mem_cons.1 ha with rfl | h1
  · exact sw_no k (by decide)
  · obtain ⟨n, _, rfl⟩ := List.mem_map.1 h1
    exact itoa_no n (by decide) (by decide)
theorem label_no {s : Str} (h : isLabel s = true) {c : UInt8} (hc : labelC c = false) : ∀ x ∈ s.l, x ≠ c := by
  intro x hx e
  unfold isLabel at h
  simp only [Bool.and_eq_true] at h
  have := List.all_eq_true.1 h.2 x hx
  rw [e, hc] at this; cases this
theorem wordL_no (k : Int) : ∀ x ∈ wordL k, x ≠ 59 := by
  intro x hx
  unfold wordL at hx
  repeat' split at hx
  all_goals (revert x; decide)
theorem text_no {p : Pred} (h : predOk p = true) : ∀ x ∈ textL p, x ≠ 59 := by
  intro x hx
  unfold textL at hx
  rcases List.mem_append.1 hx with hx | hx
  · exact wordL_no _ x hx
  rcases List.mem_cons.1 hx with rfl | hx
  · decide
  have hd : ∀ n, ∀ x ∈ decDigits n, x ≠ 59 := fun n => dec_no n (by decide)
  unfold bodyL at hx
  split at hx
  · rcases List.mem_append.1 hx with hx | hx
    · exact hd _ x hx
    · rcases List.mem_cons.1 hx with rfl | hx
      · decide
      · exact hd _ x hx
  split at hx
  · rename_i h6
    unfold predOk at h
    rw [h6] at h
    simp at h
    exact label_no h.1 (by decide) x hx
  split at hx
  · exact hd _ x hx
  · rcases joinC_mem _ _ _ hx with rfl | ⟨a, h1, h2⟩
    · decide
    · unfold listL at h1
      obtain ⟨i, _, rfl⟩ := List.mem_map.1 h1
      exact hd _ x h2
theorem parts_no {s : Step} (h : StepOk s) : ∀ y ∈ partsS s, ∀ c ∈ y, c ≠ 59 := by
  intro y hy
  unfold partsS at hy
  rcases List.mem_cons.1 hy with rfl | hy
  · exact nums_no _ _
  rcases List.mem_append.1 hy with hy | hy
  · obtain ⟨p, hp, rfl⟩ := List.mem_map.1 hy
    exact text_no (h.pred p hp)
  · split at hy
    · rename_i hk
      rw [List.mem_singleton.1 hy]
      exact label_no (h.name hk) (by decide)
    · cases hy
def Said (s : Step) (t : List UInt8) : Prop := (lineF s).2 = 0 ∧ lineT s = t
theorem Said.kind {s : Step} {t : List UInt8} (h : Said s t) : 1 ≤ s.Kind ∧ s.Kind < 23 := (lineF_ok h.1).1
theorem Said.ok {s : Step} {t : List UInt8} (h : Said s t) : StepOk s := checkS_ok (lineF_ok h.1).2.1
theorem Said.split {s : Step} {t : List UInt8} (h : Said s t) : Lib.split t [59, 32] = partsS s := by
  rw [← h.2]
  exact split_join2 _ _ (parts_no h.ok)
theorem Said.of {s : Step} {t : List UInt8} (h : lineF s = (⟨t⟩, 0)) : Said s t := by
  have h0 : (lineF s).2 = 0 := by rw [h]
  exact ⟨h0, by have := (lineF_ok h0).2.2; rw [h] at this; simpa using this.symm⟩
theorem Said.line {s : Step} {t : List UInt8} (h : Said s t) : lineF s = (⟨t⟩, 0) := by rw [(lineF_ok h.1).2.2, h.2]
def restS (s : Step) : List (List UInt8) := s.Predicates.map textL ++ if khl s.Kind = true then [((hLens s).get s).l] else []
theorem parts_eq (s : Step) : partsS s = numsS (swL.getD s.Kind.toNat []) (valsS s) :: restS s := rfl
theorem far_in {n : Int} (h : farN n = false) : -1000000000000000 < n ∧ n < 1000000000000000 := by
  unfold farN at h
  simp only [Bool.or_eq_false_iff, decide_eq_false_iff_not] at h
  omega
theorem vals_len (s : Step) : (valsS s).length = (kfl s.Kind).length := by simp [valsS]
theorem sw_inj {i j : Nat} (hi : i < 23) (hj : j < 23) (h : swL.getD i [] = swL.getD j []) : i = j := by
  have key : ∀ i : Fin 23, ∀ j : Fin 23, swL.getD i [] = swL.getD j [] → i = j := by decide +kernel
  exact congrArg Fin.val (key ⟨i, hi⟩ ⟨j, hj⟩ h)
theorem forms_word (k : Nat) (h : k < formsL.length) : formsL[k].word = ⟨swL.getD k []⟩ := by
  have h3 : k < 23 := h
  rcases Nat.eq_zero_or_pos k with rfl | h1
  · rfl
  · exact (form_at k h1 h).2.1
theorem kind_idx {k : Nat} (h2 : k < 23) : idx formsL (fun f => decide (f.word = ⟨swL.getD k []⟩)) = (k : Int) := by
  refine idx_at (show k < formsL.length from h2) (decide_eq_true (forms_word k h2)) fun j hj hjk => decide_eq_false fun e => ?_
  have e2 := sw_inj (show j < 23 from hj) h2 (congrArg Str.l ((forms_word j hj).symm.trans e))
  omega
theorem idx_found {w : List UInt8} {k : Int} (h : idx formsL (fun f => decide (f.word = ⟨w⟩)) = k) (h1 : 0 ≤ k) : ∃ n : Nat, k = n ∧ n < 23 ∧ swL.getD n [] = w := by
  have hx := idx_any formsL (fun f => decide (f.word = ⟨w⟩))
  rw [h, decide_eq_true h1] at hx
  obtain ⟨f, hf, hw⟩ := List.any_eq_true.1 hx.symm
  obtain ⟨n, hn, rfl⟩ := List.getElem_of_mem hf
  have h3 : n < 23 := hn
  have e : swL.getD n [] = w := by
    exact congrArg Str.l ((forms_word n hn).symm.trans (of_decide_eq_true hw))
  refine ⟨n, ?_, h3, e⟩
  rw [← h, ← e, kind_idx h3]
def stepP (k : Int) (n : List Int) (l : List Pred) (h : Str) : Step :=
  let s : Step := ⟨k, 0, 0, 0, [], default, ⟨[]⟩, default⟩
  let s := if khl k = true then (hLens s).set h s else s
  setF (kfl k) n { s with Predicates := l }
theorem kinds {k : Int} (h : 1 ≤ k ∧ k < 23) : k = 1 ∨ k = 2 ∨ k = 3 ∨ k = 4 ∨ k = 5 ∨ k = 6 ∨ k = 7 ∨ k = 8 ∨ k = 9 ∨ k = 10 ∨ k = 11 ∨ k = 12 ∨ k = 13 ∨ k = 14 ∨ k = 15 ∨ k = 16 ∨ k = 17 ∨ k = 18 ∨ k = 19 ∨ k = 20 ∨ k = 21 ∨ k = 22 := by omega
theorem stepP_eq {k : Int} (hk : 1 ≤ k ∧ k < 23) (n : List Int) (l : List Pred) (h : Str) (hn : n.length = (kfl k).length) : stepP k n l h = stepR k n l h := by
  rcases n with _ | ⟨a0, _ | ⟨a1, _ | ⟨a2, _ | ⟨a3, _ | ⟨a4, _ | ⟨a5, t⟩⟩⟩⟩⟩⟩ <;> rcases kinds hk with rfl | rfl | rfl | rfl | rfl | rfl | rfl | rfl | rfl | rfl | rfl | rfl | rfl | rfl | rfl | rfl | rfl | rfl | rfl | rfl | rfl | rfl <;> first | rfl | (exfalso; revert hn; simp [kfl])
theorem Said.made {s : Step} {t : List UInt8} (h : Said s t) : s = stepR s.Kind (valsS s) s.Predicates ((hLens s).get s) := by
  have hf := h.ok.full
  have hr := rest_eq hf
  rw [← bad_eq s h.kind] at hf
  unfold refBad at hf
  simp only [Bool.or_eq_false_iff] at hf
  have h1 := hf.1
  rw [hr] at h1
  simpa using h1
theorem Said.noholder {s : Step} {t : List UInt8} (h : Said s t) (hp : khl s.Kind = false) : (hLens s).get s = ⟨[]⟩ := by
  have hf := h.ok.full
  rw [← bad_eq s h.kind] at hf
  unfold refBad at hf
  simp only [Bool.or_eq_false_iff] at hf
  have h1 := hf.2
  rw [hp] at h1
  simpa using h1
end Go.Proofs.YtfkbejimghamkaaGreatDoor
set_option maxRecDepth 1000000
set_option linter.unusedVariables false
set_option linter.unusedSimpArgs false
namespace Go.Proofs.YtfkbejimghamkaaGreatDoor
open Go.Fl Go.Ab Go.Mac Go.Sha Go.Lib
theorem splitK_count (k : Nat) : ∀ s : List UInt8, (Lib.splitK [59, 32] 0 k s).length * 2 ≤ s.length + 2 := by
  induction k with
  | zero => intro s; simp [Lib.splitK]
  | succ k ih =>
    intro s
    rw [Lib.splitK]
    split
    · simp
    · rename_i h
      have hge := Lib.index_ge s [59, 32]
      have h0 : 0 ≤ Lib.index s [59, 32] := by have : Lib.index s [59, 32] ≠ -1 := fun e => h (beq_iff_eq.2 e); omega
      have hr := Lib.index_room s [59, 32] h0
      have := ih (s.drop ((Lib.index s [59, 32]).toNat + ([59, 32] : List UInt8).length))
      rw [List.length_drop] at this
      simp only [List.length_cons, List.length_nil] at this hr ⊢
      omega
theorem split_pos (s sep : List UInt8) : 0 < (Lib.split s sep).length := by
  unfold Lib.split
  cases Lib.count s sep with
  | zero => simp [Lib.splitK]
  | succ k => rw [Lib.splitK]; split <;> simp
theorem split_small (s : List UInt8) : ∀ x ∈ Lib.split s [59, 32], x.length ≤ s.length := fun x hx => splitK_len _ _ _ _ x hx
theorem setF_succ (fs : List Fld) (n : List Int) (s : Step) (j : Nat) (h1 : j < fs.length) (h2 : j < n.length) : setF (fs.take (j + 1)) (n.take (j + 1)) s = (fs[j]).lens.set n[j] (setF (fs.take j) (n.take j) s) := by
  have hz : ∀ i, (fs.take i).zip (n.take i) = (fs.zip n).take i := fun i => List.take_zipWith.symm
  unfold setF
  rw [hz, hz, List.take_succ_eq_append_getElem (by rw [List.length_zip]; omega), List.foldl_append, List.getElem_zip]; rfl
def numV (l : List Str) : List Int := l.map fun x => atoiV x.l
def badN (l : List Str) : Nat := l.findIdx fun x => !atoiOk x.l
def fillF (fs : List Fld) (ps : List Str) (s : Step) : Bool × Step := if fs.length ≠ ps.length then (false, s) else if badN ps < ps.length then (false, setF (fs.take (badN ps)) ((numV ps).take (badN ps)) s) else (true, setF fs (numV ps) s)
theorem fillF_ok {fs : List Fld} {ps : List Str} (s : Step) (hl : fs.length = ps.length) (h : ∀ x ∈ ps, atoiOk x.l = true) : fillF fs ps s = (true, setF fs (numV ps) s) := by
  have e : badN ps = ps.length := List.findIdx_eq_length.2 fun x hx => by rw [h x hx]; rfl
  unfold fillF; rw [if_neg (by omega), if_neg (by omega)]
theorem fill_c (b : Nat) (fs : List Fld) (ps : List Str) (s : Step) (hf : fs.length ≤ 5) (hp : ∀ x ∈ ps, x.l.length ≤ 20000) : FunH gl Tryz.prog 51 [.v (ptrs b fs), .v ps] [.ob (ptr b 0) s] (fun r Hs => r = .v (fillF fs ps s).1 ∧ Hs = [.ob (ptr b 0) (fillF fs ps s).2]) := by
  refine FunH.introS Tryz.func51 rfl (by kernel_rfl) 35 rfl rfl _ rfl _ rfl fun C hC hG => ?_
  refine .seq ?_
  refine .region rfl ?_
  refine .p (.assign .b ?_)
  refine .nil ?_
  refine .seq ?_
  refine .seq ?_
  refine .lenLe 1 rfl fun hl1 => ?_
  have hpl := ptrs_len b fs
  refine .region rfl ?_
  refine .p (.move (.t rfl) (.p (.len Tryz.underlying87 (.t rfl) (.p (.move (.t rfl) (.p (.len Tryz.underlying36 (.t rfl) (.p (.neqI (.t rfl) (.t rfl) ?_)))))))))
  refine .nil ?_
  refine .condP (.t rfl) (fun hc13 => ?_) (fun hc13 => ?_)
  · refine .seq ?_
    refine .region rfl ?_
    refine .p (.assign .b ?_)
    refine .nil ?_
    refine .ret ?_
    refine ⟨_, .r1 rfl (.tmp rfl), ?_⟩
    refine ⟨_, .cons .z (.nil), ?_⟩
    have e : fillF fs ps s = (false, s) := if_pos (by omega)
    rw [e]; exact ⟨rfl, rfl⟩
  · refine .skip ?_
    refine .seq ?_
    refine .seq ?_
    refine .region rfl ?_
    refine .p (.move (.t rfl) (.p (.len Tryz.underlying36 (.t rfl) (.p (.move (.i rfl) ?_)))))
    refine .nil ?_
    refine .block ?_
    refine .loopR (α := Nat) [(0, _), (14, _), (15, _)] (fun j R => (16, .v (j : Int)) :: R) (fun j => [(false, .ob (ptr b 0) (setF (fs.take j) ((numV ps).take j) s))]) (fun j => j ≤ ps.length ∧ ∀ i (h : i < ps.length), i < j → atoiOk ps[i].l = true) (fun j => ps.length - j) (0) (.cons rfl (.cons rfl (.cons rfl (.nil _)))) ?_ (.cons rfl (.cons rfl (.cons rfl (.cons rfl (.nil _))))) (rfl) fun j hF => ?_
    · exact ⟨Nat.zero_le _, fun i hi hij => absurd hij (Nat.not_lt_zero _)⟩
    obtain ⟨h1, h2⟩ := hF
    refine .seq ?_
    refine .region rfl ?_
    refine .p (.lss (.t rfl) (.t rfl) ?_)
    refine .nil ?_
    refine .seq ?_
    refine .condP (.t rfl) (fun hc17 => ?_) (fun hc17 => ?_)
    · refine .skip ?_
      refine .seq ?_
      refine .block ?_
      refine .seq ?_
      have hj : j < ps.length := (by omega)
      have hjf : j < fs.length := (by omega)
      refine .region rfl ?_
      refine .p (.move (.t rfl) (.p (.idx ty9 Tryz.underlying36 (.t rfl) (.t rfl) (by first | omega | (simp; done) | (simp; omega) | (simp at *; omega)) (by first | omega | (simp; done) | (simp; omega) | (simp at *; omega)) (.p (.ldP ty9 (.t rfl) (.p (.assign (.t rfl) (.p (.assign (.t rfl) ?_)))))))))
      refine .nil ?_
      refine .seq ?_
      refine .region rfl ?_
      refine .p (.move (.t rfl) (.p (.call1 hG (libAtoi_c _ (Nat.le_trans (hp _ (List.getElem_mem _)) (by decide))) (.cons (.t rfl) .nil) (.p (.move (.t rfl) (.p (.ext2_0 (.t rfl) (.p (.ext2_1 (.t rfl) (.p (.assign (.t rfl) ?_)))))))))))
      refine .p (.assign (.t rfl) ?_)
      refine .nil ?_
      refine .seq ?_
      refine .seq ?_
      refine .region rfl ?_
      refine .p (.move (.t rfl) (.p (.neNilI Tryz.underlying64 (.t rfl) ?_)))
      refine .nil ?_
      refine .cond (.t rfl) (fun hc27 => ?_) (fun hc27 => ?_)
      · refine .seq ?_
        refine .region rfl ?_
        refine .p (.assign .b ?_)
        refine .nil ?_
        refine .ret ?_
        refine ⟨_, .r1 rfl (.tmp rfl), ?_⟩
        refine ⟨_, .cons .z (.nil), ?_⟩
        have eb : badN ps = j := (List.findIdx_eq hj).2 ⟨by simpa using hc27, fun i hij => by rw [h2 i (by omega) hij]; rfl⟩
        have e : fillF fs ps s = (false, setF (fs.take j) ((numV ps).take j) s) := (by unfold fillF; rw [if_neg (by omega), if_pos (by omega), eb])
        rw [e]; exact ⟨rfl, rfl⟩
      · refine .skip ?_
        have hok : atoiOk (ps[j]'hj).l = true := (by simpa using hc27)
        refine .region rfl ?_
        refine .p (.move (.t rfl) (.p (.move (.t rfl) (.p (.idx ty89 Tryz.underlying87 (.t rfl) (.t rfl) (by first | omega | (simp; done) | (simp; omega) | (simp at *; omega)) (by first | omega | (simp; done) | (simp; omega) | (simp at *; omega)) (.p (.ldP ty89 (.t rfl) (.p (.move (.t rfl) (.p (.nilCheckT (((fs)[j]'(by assumption)).lens) (.t rfl) (by simp [ptrs]) ?_)))))))))))
        refine .n (.stL ty3 (.t rfl) (.t rfl) .z ?_)
        refine .nil ?_
        refine .region rfl ?_
        refine .p (.add (.t rfl) (.i rfl) (by first | omega | (simp; done) | (simp; omega) | (simp at *; omega)) (by first | omega | (simp; done) | (simp; omega) | (simp at *; omega)) (.p (.move (.t rfl) ?_)))
        refine .nil ?_
        refine ⟨j + 1, .cons rfl (.cons rfl (.cons rfl (.cons rfl (.nil _)))), congrArg (fun q => [(false, Blk.ob _ q)]) (by rw [setF_succ fs (numV ps) s j (by omega) (by rw [numV, List.length_map]; exact hj)]; simp [numV]), ?_, by omega⟩
        refine ⟨by omega, fun i hi hij => ?_⟩; rcases Nat.lt_or_ge i j with h | h; exact h2 i hi h; (obtain rfl : i = j := by omega); exact hok
    · refine .exit ?_
      refine .seq ?_
      refine .region rfl ?_
      refine .p (.assign .b ?_)
      refine .nil ?_
      refine .ret ?_
      refine ⟨_, .r1 rfl (.tmp rfl), ?_⟩
      refine ⟨_, .cons .z (.nil), ?_⟩
      have e := fillF_ok (fs := fs) (ps := ps) s (by omega) (fun x hx => by obtain ⟨i, hi, rfl⟩ := List.getElem_of_mem hx; exact h2 i hi (by omega))
      rw [e, List.take_of_length_le (show fs.length ≤ j by omega), List.take_of_length_le (show (numV ps).length ≤ j by rw [numV, List.length_map]; omega)]; exact ⟨rfl, rfl⟩
theorem indexForm_c (l : List G_script_form) (p : G_script_form → Bool) : FunA gl Tryz.prog 48 [.v l, .clo1 Tryz.prog p] (fun r => r = .v (idx l p)) := by
  refine FunA.intro Tryz.func48 rfl (by kernel_rfl) 19 rfl rfl _ rfl fun C hC hG => ?_
  refine .seq ?_
  refine .region rfl ?_
  refine .p (.assign (.i rfl) ?_)
  refine .nil ?_
  refine .seq ?_
  refine .seq ?_
  refine .lenLe 0 rfl fun hl0 => ?_
  refine .region rfl ?_
  refine .p (.move (.t rfl) (.p (.len Tryz.underlying81 (.t rfl) (.p (.move (.i rfl) ?_)))))
  refine .nil ?_
  refine .block ?_
  refine .loopR (α := Nat) [(0, _), (1, _), (7, _)] (fun k R => (8, .v (k : Int)) :: R) (fun k => []) (fun k => k ≤ l.length ∧ ∀ j (hj : j < l.length), j < k → p l[j] = false) (fun k => l.length - k) (0) (.cons rfl (.cons rfl (.cons rfl (.nil _)))) ?_ (.cons rfl (.cons rfl (.cons rfl (.cons rfl (.nil _))))) (rfl) fun k hF => ?_
  · simp
  obtain ⟨h1, h2⟩ := hF
  refine .seq ?_
  refine .region rfl ?_
  refine .p (.lss (.t rfl) (.t rfl) ?_)
  refine .nil ?_
  refine .seq ?_
  refine .condP (.t rfl) (fun hc9 => ?_) (fun hc9 => ?_)
  · refine .skip ?_
    refine .seq ?_
    refine .block ?_
    refine .seq ?_
    refine .region rfl ?_
    refine .p (.move (.t rfl) (.p (.assign (.t rfl) ?_)))
    refine .nil ?_
    refine .seq ?_
    refine .region rfl ?_
    refine .p (.move (.t rfl) (.p (.move (.t rfl) (.p (.move (.t rfl) (.p (.idx ty85 Tryz.underlying81 (.t rfl) (.t rfl) (by first | omega | (simp; done) | (simp; omega) | (simp at *; omega)) (by first | omega | (simp; done) | (simp; omega) | (simp at *; omega)) (.p (.ldP ty85 (.t rfl) (.p (.callClo1 rfl (.t rfl) ?_)))))))))))
    refine .nil ?_
    refine .cond (.t rfl) (fun hc16 => ?_) (fun hc16 => ?_)
    · refine .seq ?_
      refine .region rfl ?_
      refine .p (.move (.t rfl) (.p (.assign (.t rfl) ?_)))
      refine .nil ?_
      refine .ret ?_
      refine ⟨_, .r1 rfl (.tmp rfl), ?_⟩
      rw [idx_at (by omega) (by simpa using hc16) h2]
    · refine .skip ?_
      refine .region rfl ?_
      refine .p (.add (.t rfl) (.i rfl) (by first | omega | (simp; done) | (simp; omega) | (simp at *; omega)) (by first | omega | (simp; done) | (simp; omega) | (simp at *; omega)) (.p (.move (.t rfl) ?_)))
      refine .nil ?_
      refine ⟨k + 1, .cons rfl (.cons rfl (.cons rfl (.cons rfl (.nil _)))), rfl, ?_, by omega⟩
      refine ⟨by omega, fun j hj hjk => ?_⟩; rcases Nat.lt_or_ge j k with h | h; exact h2 j hj h; (obtain rfl : j = k := by omega); simpa using hc16
  · refine .exit ?_
    refine .seq ?_
    refine .region rfl ?_
    refine .p (.assign (.i rfl) ?_)
    refine .nil ?_
    refine .ret ?_
    refine ⟨_, .r1 rfl (.tmp rfl), ?_⟩
    rw [idx_none fun j hj => h2 j hj (by omega)]
theorem word_c (w0 : List UInt8) (WR : List (List UInt8)) (f : G_script_form) : FunA gl Tryz.prog 49 [.v f, .p ((w0 :: WR).map Str.mk)] (fun r => r = .v (decide (f.word = ⟨w0⟩))) := by
  refine FunA.intro Tryz.func49 rfl (by kernel_rfl) 10 rfl rfl _ rfl fun C hC hG => ?_
  refine .seq ?_
  refine .region rfl ?_
  refine .h (.box (.t rfl) fun b2 => .p (.assign .b ?_))
  refine .nil ?_
  refine .seq ?_
  refine .draw (by kernel_rfl) 7 [[], [(4, 0)], [], [(6, 2)], [(7, 3)], [(5, 1), (8, 4)], [(9, 5)]] rfl (by kernel_rfl) rfl ?_
  refine ⟨_, OpP.fldW G_script_form.l0 fd85_0 rfl (.t rfl) rfl, ?_⟩
  refine ⟨_, OpP.ldF (fun x => x.word) ty9 (.t rfl) .z (fun _ => rfl) rfl, ?_⟩
  refine ⟨_, OpP.ldP ty36 (.t rfl) rfl, ?_⟩
  refine ⟨_, OpP.idx ty9 Tryz.underlying36 (.t rfl) (.i rfl) (by first | omega | (simp; done) | (simp; omega) | (simp at *; omega)) (by first | omega | (simp; done) | (simp; omega) | (simp at *; omega)) rfl, ?_⟩
  refine ⟨_, OpP.ldP ty9 (.t rfl) rfl, ?_⟩
  refine ⟨_, OpP.eqlS (.t rfl) (.t rfl) rfl, ?_⟩
  refine ⟨_, OpP.assign (.t rfl) rfl, ?_⟩
  show wpB _ _ _ _ _ _ ((3, _) :: (9, _) :: (8, _) :: (7, _) :: (6, _) :: (5, _) :: (4, _) :: _) _
  refine .nil ?_
  refine .ret ?_
  refine ⟨_, .r1 rfl (.tmp rfl), ?_⟩
  rfl
theorem Said.heads {s : Step} {t p0 w0 : List UInt8} {PR WR : List (List UInt8)} (h : Said s t) (hP : Lib.split t [59, 32] = p0 :: PR) (hW : splitC 32 p0 = w0 :: WR) : PR = restS s ∧ WR = (valsS s).map Lib.itoa ∧ idx formsL (fun f => decide (f.word = ⟨w0⟩)) = s.Kind := by
  rw [h.split, parts_eq] at hP
  injection hP with h1 h2
  rw [← h1, nums_split] at hW
  injection hW with h3 h4
  have hk := h.kind
  have h5 := kind_idx (k := s.Kind.toNat) (by omega)
  rw [h3] at h5
  exact ⟨h2.symm, h4.symm, by rw [h5]; omega⟩
def st0 (k : Int) : Step := ⟨k, 0, 0, 0, [], default, ⟨[]⟩, default⟩
def st1 (k : Int) (h : Str) : Step := if khl k = true then (hLens (st0 k)).set h (st0 k) else st0 k
def stL (k : Int) (h : Str) (l : List Pred) : Step := { st1 k h with Predicates := l }
theorem stepP_st (k : Int) (n : List Int) (l : List Pred) (h : Str) : stepP k n l h = setF (kfl k) n (stL k h (l)) := rfl
theorem Said.list {s : Step} {t : List UInt8} {QS : List (List UInt8)} {h9 : List UInt8} (h : Said s t) (hk : khl s.Kind = true) (hP : QS ++ [h9] = restS s) : QS = s.Predicates.map textL ∧ (hLens s).get s = ⟨h9⟩ := by
  unfold restS at hP
  rw [if_pos hk] at hP
  obtain ⟨h1, h2⟩ := List.append_inj' hP rfl
  injection h2 with h2
  exact ⟨h1, by rw [h2]⟩
theorem Said.list0 {s : Step} {t : List UInt8} {QS : List (List UInt8)} (h : Said s t) (hk : khl s.Kind = false) (hP : QS = restS s) : QS = s.Predicates.map textL ∧ (hLens s).get s = ⟨[]⟩ := by
  unfold restS at hP
  rw [if_neg (by rw [hk]; decide), List.append_nil] at hP
  exact ⟨hP, h.noholder hk⟩
theorem numV_itoa {s : Step} {t : List UInt8} (h : Said s t) : numV (((valsS s).map Lib.itoa).map Str.mk) = valsS s := by
  unfold numV
  rw [List.map_map, List.map_map]
  conv => rhs; rw [← List.map_id (valsS s)]
  refine List.map_congr_left fun n hn => ?_
  obtain ⟨h0, h1⟩ := far_in (h.ok.num n hn)
  show atoiV (Lib.itoa n) = n
  unfold atoiV; rw [atoi_itoa h0 h1]
theorem Said.built {s : Step} {t : List UInt8} {k : Nat} {h9 : Str} (h : Said s t) (hk : (k : Int) = s.Kind) (hh : (hLens s).get s = h9) : fillF (kfl k) (((valsS s).map Lib.itoa).map Str.mk) (stL k h9 (s.Predicates)) = (true, s) := by
  rw [fillF_ok _ (by rw [List.length_map, List.length_map, vals_len, hk]) (fun x hx => ?_), numV_itoa h, ← stepP_st, stepP_eq (by have := h.kind; omega) _ _ _ (by rw [vals_len, hk]), hk, ← hh, ← h.made]
  obtain ⟨y, hy, rfl⟩ := List.mem_map.1 hx
  obtain ⟨n, hn, rfl⟩ := List.mem_map.1 hy
  obtain ⟨h0, h1⟩ := far_in (h.ok.num n hn)
  show atoiOk (Lib.itoa n) = true
  unfold atoiOk; rw [atoi_itoa h0 h1]
theorem setF_preds (fs : List Fld) (n : List Int) (s : Step) : (setF fs n s).Predicates = s.Predicates := by
  unfold setF
  generalize fs.zip n = l
  induction l generalizing s with
  | nil => rfl
  | cons p l ih => rw [List.foldl_cons, ih]; obtain ⟨f, m⟩ := p; cases f <;> rfl
theorem fillF_preds (fs : List Fld) (ps : List Str) (s : Step) : (fillF fs ps s).2.Predicates = s.Predicates := by
  unfold fillF
  split
  · rfl
  split
  · exact setF_preds _ _ _
  · exact setF_preds _ _ _
theorem said_hit {s : Step} {t : Str} (h : (decide ((lineF s).2 = 0) && decide ((lineF s).1 = t)) = true) : Said s t.l := by
  simp only [Bool.and_eq_true, decide_eq_true_eq] at h
  exact Said.of (Prod.ext h.2 h.1)
theorem said_miss {s : Step} {t : Str} (h : Said s t.l) : (decide ((lineF s).2 = 0) && decide ((lineF s).1 = t)) = true := by rw [h.line]; simp
theorem Said.uniq {s s' : Step} {t : List UInt8} (h : Said s t) (h' : Said s' t) : s = s' := by
  have e := h.split.symm.trans h'.split
  rw [parts_eq, parts_eq] at e
  injection e with e1 e2
  have e3 := nums_split s.Kind.toNat (valsS s)
  rw [e1, nums_split] at e3
  injection e3 with e4 e5
  have hk := h.kind
  have hk' := h'.kind
  have e6 := sw_inj (by omega) (by omega) e4
  have hkk : (s.Kind.toNat : Int) = s.Kind := by omega
  have hkk' : (s.Kind.toNat : Int) = s'.Kind := by omega
  have e7 : s.Predicates = s'.Predicates ∧ (hLens s).get s = (hLens s').get s' := by
    have hmap : ∀ (a b : List Pred), (∀ p ∈ a, predOk p = true) → (∀ p ∈ b, predOk p = true) → a.map textL = b.map textL → a = b := by
      intro a
      induction a with
      | nil => intro b _ _ hb; exact (List.map_eq_nil_iff.1 hb.symm).symm
      | cons p a ih =>
        intro b ha hb hm
        cases b with
        | nil => cases hm
        | cons q b =>
          injection hm with h1 h2
          rw [text_inj (ha p (by simp)) (hb q (by simp)) h1, ih b (fun x hx => ha x (by simp [hx])) (fun x hx => hb x (by simp [hx])) h2]
    unfold restS at e2
    have hsk : s.Kind = s'.Kind := by omega
    cases hh : khl s.Kind with
    | true =>
      rw [if_pos hh, if_pos (by rw [← hsk]; exact hh)] at e2
      obtain ⟨h1, h2⟩ := List.append_inj' e2 rfl
      injection h2 with h2
      refine ⟨hmap _ _ h.ok.pred h'.ok.pred h1, ?_⟩
      cases hx : (hLens s).get s; cases hy : (hLens s').get s'
      rw [hx, hy] at h2; exact congrArg Str.mk h2
    | false =>
      rw [if_neg (by rw [hh]; decide), if_neg (by rw [← hsk, hh]; decide), List.append_nil, List.append_nil] at e2
      exact ⟨hmap _ _ h.ok.pred h'.ok.pred e2, by rw [h.noholder hh, h'.noholder (by rw [← hsk]; exact hh)]⟩
  have b1 := h.built hkk rfl
  have b2 := h'.built hkk' rfl
  rw [e7.1, e7.2, ← e5] at b1
  rw [b1] at b2
  exact congrArg Prod.snd b2
end Go.Proofs.YtfkbejimghamkaaGreatDoor
set_option linter.unusedVariables false
namespace Go.Ab
open Go.Fl Go.RowKit
open Rep (rep)
section obAs
variable {P : Program} {C : Ctx} {N : Nat} {σ : AEnv} {H : AHeap} {Q : Exit → AEnv → AHeap → Prop}
theorem Hole.fz {w : Value} {a : AV} {b : Bool} {F : Bool × Blk → AHeap} (hH : Hole H (b, .fz w a) F) {n0 : Nat} {I : Im} {L : Lh} (hr : repH n0 I H L) : RepV I a w := by
  obtain ⟨i, X, h1, h2, h3⟩ := hH.get hr
  exact h2.1.2
theorem wpA.obAs {α β : Type} {r : Rep α} {s : Rep β} {w : Value} {x : α} {y : β} {b : Bool} {c : Code} {F : Bool × Blk → AHeap} (hH : Hole H (b, .ob w x) F) (h : ∀ n0 I L, repH n0 I H L → ∀ cs, r.rep I x cs → s.rep I y cs) (k : wpA P C N c Q σ (F (b, .ob w y))) : wpA P C N c Q σ H := fun ρ I L hs => by
  obtain ⟨i, X, h2, h3, h4⟩ := hH.get hs.heap
  have hset : L.set i X = L := by
    obtain ⟨hi, e⟩ := List.getElem?_eq_some_iff.1 h2
    rw [← e, List.set_getElem_self]
  obtain ⟨⟨bb, T, cs, e1, e2, e3⟩, h5⟩ := h3
  have := h4 I (b, .ob w y) X (Le.refl I) ⟨⟨bb, T, cs, e1, e2, h _ I L hs.heap cs e3⟩, h5⟩
  rw [hset] at this
  exact k ρ I L ⟨hs.env, this, hs.im0⟩
end obAs
section rawOps
variable {P : Program} {C : Ctx} {N : Nat} {σ : AEnv} {H : AHeap}
end rawOps
end Go.Ab
set_option maxRecDepth 1000000
set_option linter.unusedVariables false
set_option linter.unusedSimpArgs false
namespace Go.Proofs.YtfkbejimghamkaaGreatDoor
open Go.Fl Go.Ab Go.Mac Go.Sha Go.Lib
structure G_api_StepR where
  Kind : Int
  A : Int
  B : Int
  N : Int
  Predicates : SlRaw
  Terms : G_api_Terms
  Holder : Str
  Context : G_api_Context
def G_api_StepR.f (x : G_api_StepR) : Int × Int × Int × Int × SlRaw × G_api_Terms × Str × G_api_Context × Unit := (x.Kind, x.A, x.B, x.N, x.Predicates, x.Terms, x.Holder, x.Context, ())
instance : Inhabited G_api_StepR := ⟨⟨default, default, default, default, default, default, default, default⟩⟩
instance : Rep G_api_StepR := Rep.via G_api_StepR.f
instance : RepZ G_api_StepR := RepZ.via G_api_StepR.f rfl
def G_api_StepR.l0 : Lens G_api_StepR Int := Lens.via G_api_StepR.f Lens.fst (fun x => x.Kind) (fun y x => { x with Kind := y }) (fun _ => rfl) (fun _ _ => rfl)
def G_api_StepR.l4 : Lens G_api_StepR SlRaw := Lens.via G_api_StepR.f (Lens.snd.comp (Lens.snd.comp (Lens.snd.comp (Lens.snd.comp Lens.fst)))) (fun x => x.Predicates) (fun y x => { x with Predicates := y }) (fun _ => rfl) (fun _ _ => rfl)
def G_api_StepR.l6 : Lens G_api_StepR Str := Lens.via G_api_StepR.f (Lens.snd.comp (Lens.snd.comp (Lens.snd.comp (Lens.snd.comp (Lens.snd.comp (Lens.snd.comp Lens.fst)))))) (fun x => x.Holder) (fun y x => { x with Holder := y }) (fun _ => rfl) (fun _ _ => rfl)
def G_api_StepR.l7 : Lens G_api_StepR G_api_Context := Lens.via G_api_StepR.f (Lens.snd.comp (Lens.snd.comp (Lens.snd.comp (Lens.snd.comp (Lens.snd.comp (Lens.snd.comp (Lens.snd.comp Lens.fst))))))) (fun x => x.Context) (fun y x => { x with Context := y }) (fun _ => rfl) (fun _ _ => rfl)
theorem tyR24 : TyIs Tryz.prog 24 SlRaw := .of (by kernel_rfl) (by kernel_rfl) (by kernel_rfl) (by decide)
theorem tyR30 : TyIs Tryz.prog 30 G_api_StepR := .of (by kernel_rfl) (by kernel_rfl) (by kernel_rfl) (by decide)
def rawSt (s : Step) (u : Value) : G_api_StepR := ⟨s.Kind, s.A, s.B, s.N, ⟨u⟩, s.Terms, s.Holder, s.Context⟩
theorem rawSt_rep {s : Step} {u : Value} {I : Im} {cs : List Value} (h : Rep.rep I (rawSt s u) cs) (hg : RepV I (.v s.Predicates) u) : Rep.rep I s cs := by
  obtain ⟨c1, r1, rfl, h1, c2, r2, rfl, h2, c3, r3, rfl, h3, c4, r4, rfl, h4, c5, r5, rfl, ⟨rfl, _⟩, h6⟩ := h
  obtain ⟨_, ⟨v, rfl, h5⟩, rfl⟩ := hg
  exact ⟨c1, _, rfl, h1, c2, _, rfl, h2, c3, _, rfl, h3, c4, _, rfl, h4, _, _, rfl, ⟨_, rfl, h5⟩, h6⟩
def hLensR (s : G_api_StepR) : Lens G_api_StepR Str := if s.Kind = 8 then G_api_StepR.l6 else G_api_StepR.l7.comp G_api_Context.l3
theorem holderOfR_c (b : Nat) (s : G_api_StepR) : FunH gl Tryz.prog 36 [.ln (ptr b 0) (Lens.id (α := G_api_StepR))] [.ob (ptr b 0) s] (fun r Hs => r = .ln (ptr b 0) (hLensR s) ∧ Hs = [.ob (ptr b 0) s]) := by
  refine FunH.introS Tryz.func36 rfl (by kernel_rfl) 15 rfl rfl _ rfl _ rfl fun C hC hG => ?_
  refine .seq ?_
  refine .region rfl ?_
  refine .p (.assign .raw ?_)
  refine .nil ?_
  refine .seq ?_
  refine .seq ?_
  refine .region rfl ?_
  refine .p (.move (.t rfl) (.p (.nilCheckL (.t rfl) (.p (.fldW G_api_StepR.l0 fd30_0 rfl (.t rfl) (.p (.ldF (fun x => x.Kind) ty3 (.t rfl) .z (fun _ => rfl) (.p (.eqlI (.t rfl) (.i rfl) ?_)))))))))
  refine .nil ?_
  refine .condP (.t rfl) (fun hc7 => ?_) (fun hc7 => ?_)
  · refine .seq ?_
    refine .region rfl ?_
    refine .p (.move (.t rfl) (.p (.nilCheckL (.t rfl) (.p (.fldW G_api_StepR.l6 fd30_6 rfl (.t rfl) (.p (.assign (.t rfl) ?_)))))))
    refine .nil ?_
    refine .ret ?_
    refine ⟨_, .r1 rfl (.tmp rfl), ?_⟩
    refine ⟨_, .cons .z (.nil), ?_⟩
    exact ⟨by unfold hLensR; rw [if_pos hc7], rfl⟩
  · refine .skip ?_
    refine .seq ?_
    refine .region rfl ?_
    refine .p (.move (.t rfl) (.p (.nilCheckL (.t rfl) (.p (.fldW G_api_StepR.l7 fd30_7 rfl (.t rfl) (.p (.fldL G_api_Context.l3 fd28_3 rfl (.t rfl) (.p (.assign (.t rfl) ?_)))))))))
    refine .nil ?_
    refine .ret ?_
    refine ⟨_, .r1 rfl (.tmp rfl), ?_⟩
    refine ⟨_, .cons .z (.nil), ?_⟩
    exact ⟨by unfold hLensR; rw [if_neg hc7], rfl⟩
abbrev rst0 (k : Int) : G_api_StepR := ⟨k, 0, 0, 0, default, default, ⟨[]⟩, default⟩
theorem set_st1 (k : Int) (h : Str) (hk : khl k = true) : (hLensR (rst0 k)).set h (rst0 k) = rawSt (stL k h []) (.slice none 0 0) := by
  unfold stL st1 hLensR hLens
  rw [if_pos hk]
  by_cases h8 : k = 8
  · rw [if_pos (show (rst0 k).Kind = 8 from h8), if_pos (show (st0 k).Kind = 8 from h8)]; rfl
  · rw [if_neg (show ¬ (rst0 k).Kind = 8 from h8), if_neg (show ¬ (st0 k).Kind = 8 from h8)]; rfl
theorem raw_st0 (k : Int) (h : Str) (hk : khl k = false) : rst0 k = rawSt (stL k h []) (.slice none 0 0) := by
  unfold stL st1
  rw [if_neg (by rw [hk]; decide)]; rfl
theorem last_of {α : Type} {l : List α} (h : l ≠ []) : ∃ a x, l = a ++ [x] := ⟨l.dropLast, l.getLast h, (List.dropLast_concat_getLast h).symm⟩
theorem take_text {s : Step} {t : List UInt8} {QS : List (List UInt8)} {l : List Pred} {j : Nat} (h : Said s t) (hq : QS = s.Predicates.map textL) (hl : l = s.Predicates.take j) (hj : j < QS.length) : (parF ⟨QS[j]⟩ 8).2 = 0 ∧ l ++ [(parF ⟨QS[j]⟩ 8).1] = s.Predicates.take (j + 1) := by
  subst hq
  have hj2 : j < s.Predicates.length := by simpa using hj
  have hp := h.ok.pred _ (List.getElem_mem hj2)
  have e := parF_ok (s := ⟨(s.Predicates.map textL)[j]⟩) (e := 8) hp (by simp)
  rw [e]
  exact ⟨rfl, by rw [hl, List.take_succ_eq_append_getElem hj2]⟩
theorem step_c (t : Str) (ht : t.l.length ≤ 7900) : FunA gl Tryz.prog 22 [.v t] (fun r => ∃ s ok, r = .t2 (.v s) (.v ok) ∧ (ok = true → Said s t.l) ∧ (ok = false → ∀ s', ¬ Said s' t.l)) := by
  refine FunA.intro Tryz.func22 rfl (by kernel_rfl) 99 rfl rfl _ rfl fun C hC hG => ?_
  refine .seq ?_
  refine .region rfl ?_
  refine .h (.alloc ty30 fun b2 => .p (.assign .b ?_))
  refine .nil ?_
  refine .seq ?_
  have hps := split_pos t.l [59, 32]
  have hpc := splitK_count (Lib.count t.l [59, 32]) t.l
  have hsm := split_small t.l
  refine .region rfl ?_
  refine .p (.move (.t rfl) (.p (.call1 hG (libSplitS_c _ _ (by decide) (by omega)) (.cons (.t rfl) (.cons (.s [59, 32] (by decide) (by decide)) .nil)) ?_)))
  obtain ⟨PS, hPS⟩ : ∃ x, Lib.split t.l [59, 32] = x := ⟨_, rfl⟩
  change Lib.splitK _ _ _ _ = PS at hPS
  rw [hPS] at hpc
  change Lib.split t.l [59, 32] = PS at hPS
  rw [hPS] at hps hsm
  rw [show Lib.split t.l (Str.mk [59, 32]).l = PS from hPS]
  rcases PS with _ | ⟨p0, PR⟩
  · exact absurd hps (Nat.lt_irrefl 0)
  refine .p (.assign (.t rfl) ?_)
  refine .nil ?_
  refine .seq ?_
  refine .region rfl ?_
  refine .p (.move (.t rfl) (.p (.idx ty9 Tryz.underlying36 (.c rfl) (.i rfl) (by first | omega | (simp; done) | (simp; omega) | (simp at *; omega)) (by first | omega | (simp; done) | (simp; omega) | (simp at *; omega)) (.p (.ldP ty9 (.t rfl) ?_)))))
  rw [show (List.map Str.mk (p0 :: PR))[Int.toNat 0]'(Nat.succ_pos _) = Str.mk p0 from rfl]
  refine .p (.call1 hG (libSplit_c _ _ (by have := hsm p0 (List.mem_cons_self ..); show p0.length ≤ _; omega)) (.cons (.t rfl) (.cons (.s [32] (by decide) (by decide)) .nil)) ?_)
  dsimp only
  obtain ⟨W, hW⟩ : ∃ x, splitC 32 p0 = x := ⟨_, rfl⟩
  have hwl := splitC_len 32 p0
  rw [hW] at hwl
  have hw9 := splitC_ne 32 p0
  rw [hW] at hw9
  rw [hW]
  rcases W with _ | ⟨w0, WR⟩
  · exact absurd rfl hw9
  refine .h (.alloc ty36 fun b5 => .n (.stW ty36 (.t rfl) (.c rfl) .z ?_))
  refine .nil ?_
  refine .seq ?_
  refine .region rfl ?_
  refine .p (.call1 hG (forms_c.toV) .nil (.p (.assign (.t rfl) ?_)))
  refine .nil ?_
  refine .seq ?_
  refine .frzOb hC .z ?_
  refine .asP 5 rfl .z ?_
  refine .region rfl ?_
  refine .p (.move (.t rfl) (.p (.mkClo1 hG (fun f => word_c w0 WR f) (.cons (.t rfl) .nil) (.p (.call1 hG (indexForm_c _ _) (.cons (.t rfl) (.cons (.t rfl) .nil)) ?_)))))
  obtain ⟨kk, hkk⟩ : ∃ x, idx formsL (fun f => decide (f.word = ⟨w0⟩)) = x := ⟨_, rfl⟩
  rw [hkk]
  have hsd : ∀ s', Said s' t.l → PR = restS s' ∧ WR = (valsS s').map Lib.itoa ∧ kk = s'.Kind := (fun s' h => by have := h.heads hPS hW; rw [hkk] at this; exact this)
  refine .p (.assign (.t rfl) ?_)
  refine .nil ?_
  refine .seq ?_
  refine .seq ?_
  refine .region rfl ?_
  refine .p (.move (.t rfl) (.p (.lss (.t rfl) (.i rfl) ?_)))
  refine .nil ?_
  refine .condP (.t rfl) (fun hc28 => ?_) (fun hc28 => ?_)
  · refine .seq ?_
    refine .region rfl ?_
    refine .p (.bS0 (α := G_api_Step) rfl ty30 fo30 (.n (.stW ty30 (.t rfl) (.t rfl) (.s .z) (.p (.assign .b ?_)))))
    refine .nil ?_
    refine .ret ?_
    refine ⟨_, .r2 rfl (.cell ty30 rfl (.s .z)) (.tmp rfl), ?_⟩
    exact ⟨_, false, rfl, fun h => Bool.noConfusion h, fun _ s' hs' => by have := (hsd s' hs').2.2; have := hs'.kind; omega⟩
  · refine .skip ?_
    refine .seq ?_
    have hfl : formsL.length = 23 := rfl
    obtain ⟨k, rfl, hk23, hkw⟩ := idx_found hkk (by omega)
    obtain ⟨hf, hw, hp, hh⟩ := form_at k (by omega) (by show _ < 23; omega)
    obtain ⟨fn, hn, hnum⟩ := hf.num
    refine .drawA [false, false] [(8, (⟨G_api_StepR, inferInstance, default⟩ : AT)), (9, (⟨G_script_form, inferInstance, default⟩ : AT))] (by kernel_rfl) 13 [[], [(30, 0)], [], [], [(32, 2), (33, 3)], [(34, 4)], [], [(36, 6)], [], [], [(8, 8), (31, 1)], [(9, 9), (35, 5)], [(37, 7)]] [10, 11] rfl (by kernel_rfl) rfl (by kernel_rfl) (by decide) (by simp) (List.forall_mem_cons.2 ⟨fun o ho => by obtain rfl := Option.some.inj (show some _ = some o from ho); exact ⟨rfl, fun _ _ => OpH.alloc tyR30 fun b => ⟨b, rfl, rfl⟩⟩, (List.forall_mem_cons.2 ⟨fun o ho => by obtain rfl := Option.some.inj (show some _ = some o from ho); exact ⟨rfl, fun _ _ => OpH.alloc ty85 fun b => ⟨b, rfl, rfl⟩⟩, (fun p hp => by cases hp)⟩)⟩) ?_
    refine ⟨_, fun H => OpP.move (.t rfl) rfl, ?_⟩
    refine ⟨_, fun H => OpP.bS1 G_api_StepR.l0 rfl tyR30 fo30 (fun c0 => (⟨c0, 0, 0, 0, default, default, ⟨[]⟩, default⟩ : G_api_StepR)) (fun _ => rfl) rfl rfl (.t rfl) rfl, ?_⟩
    refine ⟨_, fun H => OpP.move (.t rfl) rfl, ?_⟩
    refine ⟨_, fun H => OpP.move (.t rfl) rfl, ?_⟩
    refine ⟨_, fun H => OpP.idx ty85 Tryz.underlying81 (.t rfl) (.t rfl) (by first | omega | (simp; done) | (simp; omega) | (simp at *; omega)) (by first | omega | (simp; done) | (simp; omega) | (simp at *; omega)) rfl, ?_⟩
    refine ⟨_, fun H => OpP.ldP ty85 (.t rfl) rfl, ?_⟩
    refine ⟨_, fun H => OpP.move (.t rfl) rfl, ?_⟩
    refine ⟨_, fun H => OpP.slLo ty9 Tryz.underlying36 (.c rfl) (.i rfl) (by first | omega | (simp; done) | (simp; omega) | (simp at *; omega)) (by first | omega | (simp; done) | (simp; omega) | (simp at *; omega)) rfl, ?_⟩
    refine .inl ?_
    refine .inl ?_
    refine .inl ?_
    refine .inl ?_
    refine ⟨_, fun H => OpP.assign (.t rfl) rfl, ?_⟩
    refine ⟨rfl, fun ws7 => ?_⟩
    refine ⟨⟨([_, _], fun k => List.getD [(true, .none_), (true, .none_)] k (true, .none_)), rfl⟩, ?_⟩
    refine OpH.stW tyR30 (.t rfl) (.t rfl) .z ?_
    refine ⟨⟨([_, _], fun k => List.getD [(true, .none_), (true, .none_)] k (true, .none_)), rfl⟩, ?_⟩
    refine OpH.stW ty85 (.t rfl) (.t rfl) (.s .z) ?_
    refine ⟨⟨([_, _], fun k => List.getD [(true, .none_), (true, .none_)] k (true, .none_)), rfl⟩, ?_⟩
    show wpB _ _ _ _ _ _ ((10, _) :: (9, _) :: (8, _) :: (37, _) :: (36, _) :: (35, _) :: (34, _) :: (33, _) :: (32, _) :: (31, _) :: (30, _) :: _) _
    simp only [Int.toNat_natCast]
    rw [show List.drop (Int.toNat 1) (List.map Str.mk (p0 :: PR)) = List.map Str.mk PR from rfl]
    generalize hfe : formsL[k] = f at hf hw hp hh hn ⊢
    refine .nil ?_
    refine .seq ?_
    refine .seq ?_
    refine .region rfl ?_
    refine .p (.fldW G_script_form.l3 fd85_3 rfl (.t rfl) (.p (.ldF (fun x => x.holder) ty4 (.t rfl) (.s .z) (fun _ => rfl) ?_)))
    refine .nil ?_
    refine .cond (.t rfl) (fun hc39 => ?_) (fun hc39 => ?_)
    · refine .seq ?_
      refine .seq ?_
      refine .region rfl ?_
      refine .p (.move (.t rfl) (.p (.len Tryz.underlying36 (.t rfl) (.p (.eqlI (.t rfl) (.i rfl) ?_)))))
      refine .nil ?_
      refine .condP (.t rfl) (fun hc42 => ?_) (fun hc42 => ?_)
      · refine .seq ?_
        refine .region rfl ?_
        refine .p (.bS0 (α := G_api_Step) rfl ty30 fo30 (.n (.stW ty30 (.t rfl) (.t rfl) (.s (.s (.s .z))) (.p (.assign .b ?_)))))
        refine .nil ?_
        refine .ret ?_
        refine ⟨_, .r2 rfl (.cell ty30 rfl (.s (.s (.s .z)))) (.tmp rfl), ?_⟩
        exact ⟨_, false, rfl, fun h => Bool.noConfusion h, fun _ s' hs' => by obtain ⟨q1, _, q3⟩ := hsd s' hs'; unfold restS at q1; rw [if_pos (show khl s'.Kind = true by rw [← q3, ← hh]; exact hc39)] at q1; have : PR.length = 0 := (by simpa using hc42); rw [q1] at this; simp at this⟩
      · refine .skip ?_
        have hkh : khl k = true := (by rw [← hh]; exact hc39)
        obtain ⟨QS, h9, rfl⟩ := last_of (l := PR) (by intro e; subst e; exact hc42 rfl)
        have hml : (List.map Str.mk (QS ++ [h9])).length = QS.length + 1 := (by simp)
        refine .drawCF [true, false, false, false] (by kernel_rfl) 15 [[], [], [], [(46, 2)], [(47, 3)], [(45, 1), (48, 4)], [(49, 5)], [], [], [(52, 8)], [(53, 9)], [(51, 7), (54, 10)], [(44, 0)], [(56, 12), (50, 6)], [(55, 11)]] [0, 12, 13] rfl (by kernel_rfl) rfl (by kernel_rfl) (by decide) ?_
        refine .inl ?_
        refine ⟨_, fun H => OpP.move (.t rfl) rfl, ?_⟩
        refine ⟨_, fun H => OpP.move (.t rfl) rfl, ?_⟩
        refine ⟨_, fun H => OpP.len Tryz.underlying36 (.t rfl) rfl, ?_⟩
        refine ⟨_, fun H => OpP.sub (.t rfl) (.i rfl) (by first | omega | (simp; done) | (simp; omega) | (simp at *; omega)) (by first | omega | (simp; done) | (simp; omega) | (simp at *; omega)) rfl, ?_⟩
        refine ⟨_, fun H => OpP.idx ty9 Tryz.underlying36 (.t rfl) (.t rfl) (by first | omega | (simp; done) | (simp; omega) | (simp at *; omega)) (by first | omega | (simp; done) | (simp; omega) | (simp at *; omega)) rfl, ?_⟩
        refine ⟨_, fun H => OpP.ldP ty9 (.t rfl) rfl, ?_⟩
        refine ⟨_, fun H => OpP.move (.t rfl) rfl, ?_⟩
        refine ⟨_, fun H => OpP.move (.t rfl) rfl, ?_⟩
        refine ⟨_, fun H => OpP.len Tryz.underlying36 (.t rfl) rfl, ?_⟩
        refine ⟨_, fun H => OpP.sub (.t rfl) (.i rfl) (by first | omega | (simp; done) | (simp; omega) | (simp at *; omega)) (by first | omega | (simp; done) | (simp; omega) | (simp at *; omega)) rfl, ?_⟩
        refine ⟨_, fun H => OpP.slHi ty9 Tryz.underlying36 (.t rfl) (.t rfl) (by first | omega | (simp; done) | (simp; omega) | (simp at *; omega)) (by first | omega | (simp; done) | (simp; omega) | (simp at *; omega)) rfl, ?_⟩
        refine .inl ?_
        refine .inl ?_
        refine ⟨_, fun H => OpP.assign (.t rfl) rfl, ?_⟩
        refine ⟨⟨([], fun k => List.getD [_, (true, .none_), (true, .none_), (true, .none_)] k (true, .none_)), rfl⟩, ?_⟩
        refine OpH.callM hG (holderOfR_c _ _) .z (.cons (.t rfl) .nil) (by rintro _ _ ⟨_, rfl⟩; exact ⟨_, rfl⟩) fun r44 B44 hr44 => ?_
        obtain ⟨rfl, hB⟩ := hr44
        cases hB
        refine ⟨⟨([], fun k => List.getD [_, (true, .none_), (true, .none_), (true, .none_)] k (true, .none_)), rfl⟩, ?_⟩
        refine OpH.ofP (OpP.nilCheckL (.t rfl) ?_)
        refine ⟨⟨([], fun k => List.getD [_, (true, .none_), (true, .none_), (true, .none_)] k (true, .none_)), rfl⟩, ?_⟩
        refine OpH.stL ty9 (.t rfl) (.t rfl) .z ?_
        refine ⟨⟨([], fun k => List.getD [_, (true, .none_), (true, .none_), (true, .none_)] k (true, .none_)), rfl⟩, ?_⟩
        show wpB _ _ _ _ _ _ ((10, _) :: (56, _) :: (55, _) :: (54, _) :: (53, _) :: (52, _) :: (51, _) :: (50, _) :: (49, _) :: (48, _) :: (47, _) :: (46, _) :: (45, _) :: (44, _) :: _) _
        rw [(fun p => by simp : ∀ p, (List.map Str.mk (QS ++ [h9]))[(((List.map Str.mk (QS ++ [h9])).length : Int) - 1).toNat]'p = Str.mk h9)]
        rw [show (((List.map Str.mk (QS ++ [h9])).length : Int) - 1).toNat = QS.length from by omega]
        rw [show List.take QS.length (List.map Str.mk (QS ++ [h9])) = List.map Str.mk QS from by simp]
        refine .nil ?_
        refine .seq ?_
        refine .seq ?_
        obtain ⟨h9s, hh9, hqs⟩ : ∃ h9s : Str, h9s = ⟨h9⟩ ∧ ∀ s', Said s' t.l → QS = s'.Predicates.map textL ∧ (hLens s').get s' = h9s := ⟨⟨h9⟩, rfl, fun s' hs' => hs'.list (by rw [← (hsd s' hs').2.2]; exact hkh) (hsd s' hs').1⟩
        have hql : QS.length * 2 ≤ 7900 := (by simp at hpc; omega)
        have hqm : ∀ x ∈ QS, x.length ≤ 7900 := (fun x hx => by have := hsm x (by simp [hx]); omega)
        have hmq : (List.map Str.mk QS).length = QS.length := List.length_map _
        have hobj : (hLensR (rst0 k)).set ⟨h9⟩ (rst0 k) = rawSt (stL k h9s []) (.slice none 0 0) := (by rw [hh9]; exact set_st1 k _ hkh)
        refine .nilOwn 39 Pred ?_
        refine .region rfl ?_
        refine .p (.move (.t rfl) (.p (.len Tryz.underlying36 (.t rfl) (.p (.move (.i rfl) ?_)))))
        refine .nil ?_
        refine .block ?_
        refine .loopR (α := Nat × List Pred × Value) [(0, _), (2, _), (5, _), (8, _), (9, _), (57, _), (58, _)] (fun x R => (59, .v (x.1 : Int)) :: R) (fun x => [(true, .own 39 x.2.2 x.2.1), (true, .ob (ptr (ws7 8) 0) (rawSt (stL k h9s x.2.1) x.2.2)), (true, .ob (ptr (ws7 9) 0) f), (true, .fz (ptr b5 0) (.p (List.map Str.mk (w0 :: WR)))), (true, .ob (ptr b2 0) (default : Step))]) (fun x => x.1 ≤ QS.length ∧ x.2.1.length = x.1 ∧ ∀ s', Said s' t.l → x.2.1 = s'.Predicates.take x.1) (fun x => QS.length - x.1) ((0, [], .slice none 0 0)) (.cons rfl (.cons rfl (.cons rfl (.cons rfl (.cons rfl (.cons rfl (.cons rfl (.nil _)))))))) ?_ (.cons rfl (.cons rfl (.cons rfl (.cons rfl (.cons rfl (.cons rfl (.cons rfl (.cons rfl (.nil _))))))))) (congrArg (fun z => [(true, Blk.own 39 (Value.slice none 0 0) ([] : List Pred)), (true, Blk.ob (ptr (ws7 8) 0) z), (true, Blk.ob (ptr (ws7 9) 0) f), (true, Blk.fz (ptr b5 0) (.p (List.map Str.mk (w0 :: WR)))), (true, Blk.ob (ptr b2 0) (default : Step))]) hobj) fun x hF => ?_
        · exact ⟨Nat.zero_le _, rfl, fun _ _ => rfl⟩
        obtain ⟨j, l, u⟩ := x
        obtain ⟨f1, f2, f3⟩ := hF
        dsimp only at f1 f2 f3 ⊢
        refine .seq ?_
        refine .region rfl ?_
        refine .p (.lss (.t rfl) (.t rfl) ?_)
        refine .nil ?_
        refine .seq ?_
        refine .condP (.t rfl) (fun hc60 => ?_) (fun hc60 => ?_)
        · refine .skip ?_
          refine .seq ?_
          refine .block ?_
          refine .seq ?_
          have hj : j < QS.length := (by omega)
          refine .region rfl ?_
          refine .p (.idx ty9 Tryz.underlying36 (.t rfl) (.t rfl) (by first | omega | (simp; done) | (simp; omega) | (simp at *; omega)) (by first | omega | (simp; done) | (simp; omega) | (simp at *; omega)) (.p (.ldP ty9 (.t rfl) (.p (.assign (.t rfl) ?_)))))
          simp only [List.getElem_map, Int.toNat_natCast]
          have hqj := hqm _ (List.getElem_mem hj)
          refine .nil ?_
          refine .seq ?_
          refine .region rfl ?_
          refine .p (.move (.t rfl) (.p (.call1 hG (predParse_c _ (by first | omega | (simp; done) | (simp; omega) | (simp at *; omega))) (.cons (.t rfl) .nil) (.p (.move (.t rfl) (.p (.ext2_0 (.t rfl) (.p (.ext2_1 (.t rfl) (.h (.alloc ty39 fun b13 => ?_)))))))))))
          refine .n (.stW ty39 (.t rfl) (.t rfl) .z (.p (.assign (.t rfl) ?_)))
          refine .nil ?_
          refine .seq ?_
          refine .seq ?_
          refine .region rfl ?_
          refine .p (.move (.t rfl) (.p (.neqI (.t rfl) (.i rfl) ?_)))
          refine .nil ?_
          refine .condP (.t rfl) (fun hc69 => ?_) (fun hc69 => ?_)
          · refine .seq ?_
            refine .region rfl ?_
            refine .p (.bS0 (α := G_api_Step) rfl ty30 fo30 (.n (.stW ty30 (.t rfl) (.t rfl) (.s (.s (.s (.s (.s .z))))) (.p (.assign .b ?_)))))
            refine .nil ?_
            refine .ret ?_
            refine ⟨_, .r2 rfl (.cell ty30 rfl (.s (.s (.s (.s (.s .z)))))) (.tmp rfl), ?_⟩
            exact ⟨_, false, rfl, fun h => Bool.noConfusion h, fun _ s' hs' => hc69 (take_text hs' (hqs s' hs').1 (f3 s' hs') hj).1⟩
          · refine .skip ?_
            refine .region rfl ?_
            refine .p (.fldW G_api_StepR.l4 fd30_4 rfl (.t rfl) (.p (.ldR (fun x => x.Predicates) tyR24 (.t rfl) (.s (.s .z)) (fun _ => rfl) ?_)))
            refine .p (.ldW ty39 (.t rfl) .z (.h (.buildSlice (α := G_api_Predicate) ty39 Tryz.underlying24 (.cons (.t rfl) .nil) rfl (by decide) fun b74 => .h (.append st24 (.inl ⟨_, Tryz.underlying24⟩) rfl (.s (.s .z)) (.own rfl .z) (by first | omega | (simp; done) | (simp; omega) | (simp at *; omega)) (by first | omega | (simp; done) | (simp; omega) | (simp at *; omega)) (fun w75 => .p (.fldW G_api_StepR.l4 fd30_4 rfl (.t rfl) (.n (.stF (fun y x => { x with Predicates := y }) tyR24 (.t rfl) (.ownR rfl (.s (.s .z))) (.s (.s (.s .z))) (fun _ _ => rfl) ?_)))) rfl))))
            refine .drop ?_
            refine .drop ?_
            refine .nil ?_
            refine .region rfl ?_
            refine .p (.add (.t rfl) (.i rfl) (by first | omega | (simp; done) | (simp; omega) | (simp at *; omega)) (by first | omega | (simp; done) | (simp; omega) | (simp at *; omega)) (.p (.move (.t rfl) ?_)))
            refine .nil ?_
            refine ⟨(j + 1, l ++ [(parF ⟨QS[j]⟩ 8).1], w75), .cons rfl (.cons rfl (.cons rfl (.cons rfl (.cons rfl (.cons rfl (.cons rfl (.cons rfl (.nil _)))))))), rfl, ?_, by dsimp only; omega⟩
            exact ⟨by dsimp only; omega, by dsimp only; rw [List.length_append, f2]; rfl, fun s' hs' => (take_text hs' (hqs s' hs').1 (f3 s' hs') hj).2⟩
        · refine .exit ?_
          refine .seq ?_
          refine .seq ?_
          obtain rfl : j = QS.length := (by omega)
          have hwr : ∀ x ∈ WR.map Str.mk, x.l.length ≤ 20000 := (fun x hx => by obtain ⟨y, hy, rfl⟩ := List.mem_map.1 hx; have := hwl y (by simp [hy]); have := hsm p0 (by simp); show y.length ≤ _; omega)
          have hbt : ∀ s', Said s' t.l → fillF (kfl k) (WR.map Str.mk) (stL k h9s l) = (true, s') := (fun s' hs' => by obtain ⟨q1, q2⟩ := hqs s' hs'; have q3 := f3 s' hs'; rw [List.take_of_length_le (by rw [q1, List.length_map]; exact Nat.le_refl _)] at q3; rw [q3, (hsd s' hs').2.1]; exact hs'.built (hsd s' hs').2.2 q2)
          refine .frzOwn hC .z ?_
          refine .obAs (.s .z) (fun n0 I L hr cs hc => rawSt_rep hc (Hole.fz .z hr)) ?_
          refine .conv 8 (.ln (ptr (ws7 8) 0) (Lens.id (α := Step))) rfl (fun _ _ _ _ _ h => h) ?_
          refine .drop ?_
          refine (?_ : wpA _ _ _ _ _ _ _)
          refine .drawM [⟨((true, .ob (ptr (ws7 8) 0) (stL k h9s l))), [⟨2, 2, fun v => .v (ptrs (ws7 8) (kfl k)), fun v => (true, .ob (ptr (ws7 8) 0) (stL k h9s l))⟩, ⟨5, 5, fun v => .v (fillF (kfl k) (WR.map Str.mk) (stL k h9s l)).1, fun v => (true, .ob (ptr (ws7 8) 0) (fillF (kfl k) (WR.map Str.mk) (stL k h9s l)).2)⟩]⟩] [2, 5] [2, 5] [[(2, 2), (5, 5)]] (by kernel_rfl) 7 [[], [(78, 0)], [(79, 1)], [], [(81, 3)], [(80, 2), (82, 4)], [(83, 5)]] rfl (by kernel_rfl) rfl rfl (by decide) (by kernel_rfl) ?_
          refine ⟨_, fun H => OpP.fldW G_script_form.l1 fd85_1 rfl (.t rfl) rfl, ?_⟩
          refine ⟨_, fun H => OpP.ldF (fun x => x.numbers) ty83 (.t rfl) (Hole.app .z) (fun _ => rfl) rfl, ?_⟩
          refine .inr ⟨.v (ptrs (ws7 8) (kfl k)), ?_⟩
          refine ⟨_, fun H => OpP.ldP ty36 (.t rfl) rfl, ?_⟩
          refine ⟨_, fun H => OpP.slLo ty9 Tryz.underlying36 (.t rfl) (.i rfl) (by first | omega | (simp; done) | (simp; omega) | (simp at *; omega)) (by first | omega | (simp; done) | (simp; omega) | (simp at *; omega)) rfl, ?_⟩
          refine .inr ⟨.v (fillF (kfl k) (WR.map Str.mk) (stL k h9s l)).1, ?_⟩
          refine ⟨_, fun H => OpP.not (.t rfl) rfl, ?_⟩
          refine ⟨?_, ?_, fun nm20 => ?_⟩
          · exact (And.intro (fun _ => rfl) (And.intro (fun _ => rfl) trivial))
          · refine (And.intro (And.intro ?_ (And.intro ?_ trivial)) trivial)
            · intro o s ho hs; obtain rfl := Option.some.inj (show some _ = some o from ho); obtain rfl := Option.some.inj (show some _ = some s from hs); refine ⟨rfl, fun H' F hh => OpH.callMV hG (by rw [← hn]; exact .t rfl) (hnum _ _) hh (.cons (.t rfl) .nil) (by rintro _ _ ⟨_, rfl⟩; exact ⟨_, rfl⟩) fun r80 B80 hr80 => (by obtain ⟨rfl, hB⟩ := hr80; cases hB; exact ⟨(undef, 0), rfl, rfl⟩)⟩
            · intro o s ho hs; obtain rfl := Option.some.inj (show some _ = some o from ho); obtain rfl := Option.some.inj (show some _ = some s from hs); refine ⟨rfl, fun v H' F hh => OpH.callM hG (fill_c (ws7 8) (kfl k) (WR.map Str.mk) (stL k h9s l) (kfl_len _) hwr) hh (.cons (.t rfl) (.cons (.t rfl) .nil)) (by rintro _ _ ⟨_, rfl⟩; exact ⟨_, rfl⟩) fun r83 B83 hr83 => (by obtain ⟨rfl, hB⟩ := hr83; cases hB; exact ⟨(undef, 0), .inl rfl, rfl, rfl⟩)⟩
          show wpB _ _ _ _ _ _ ((84, _) :: (83, _) :: (82, _) :: (81, _) :: (80, _) :: (79, _) :: (78, _) :: _) ((true, .ob (ptr (ws7 8) 0) (fillF (kfl k) (WR.map Str.mk) (stL k h9s l)).2) :: _)
          refine .nil ?_
          refine .cond (.t rfl) (fun hc84 => ?_) (fun hc84 => ?_)
          · refine .seq ?_
            refine .region rfl ?_
            refine .p (.bS0 (α := G_api_Step) rfl ty30 fo30 (.n (.stW ty30 (.t rfl) (.t rfl) (.s (.s (.s .z))) (.p (.assign .b ?_)))))
            refine .nil ?_
            refine .ret ?_
            refine ⟨_, .r2 rfl (.cell ty30 rfl (.s (.s (.s .z)))) (.tmp rfl), ?_⟩
            exact ⟨_, false, rfl, fun h => Bool.noConfusion h, fun _ s' hs' => by rw [hbt s' hs'] at hc84; exact Bool.noConfusion hc84⟩
          · refine .skip ?_
            refine .seq ?_
            refine .region rfl ?_
            refine .p (.ldW ty30 (.t rfl) .z (.p (.call1 hG (line_c _ (by rw [fillF_preds]; show l.length ≤ _; omega)) (.cons (.t rfl) .nil) (.p (.move (.t rfl) (.p (.ext2_0 (.t rfl) (.p (.ext2_1 (.t rfl) (.p (.assign (.t rfl) ?_)))))))))))
            refine .p (.assign (.t rfl) ?_)
            refine .nil ?_
            refine .seq ?_
            refine .region rfl ?_
            refine .p (.ldW ty30 (.t rfl) .z (.p (.move (.t rfl) (.p (.eqlI (.t rfl) (.i rfl) (.p (.move (.t rfl) ?_)))))))
            refine .go 94 rfl (.t rfl) (fun hg95 => .move (.t rfl) rfl) ?_
            refine .go 94 rfl (.t rfl) (fun hg96 => .move (.t rfl) rfl) ?_
            refine .go 94 rfl (.t rfl) (fun hg97 => .eqlS (.o rfl (beq_iff_eq.2 hg97)) (.o rfl (beq_iff_eq.2 hg97)) rfl) ?_
            refine .p (.pickAnd (.t rfl) (fun hp => (.o rfl (beq_iff_eq.2 hp))) (.n (.stW ty30 (.t rfl) (.t rfl) (.s (.s (.s .z))) (.p (.assign (.t rfl) ?_)))))
            refine .nil ?_
            refine .ret ?_
            refine ⟨_, .r2 rfl (.cell ty30 rfl (.s (.s (.s .z)))) (.tmp rfl), ?_⟩
            exact ⟨_, _, rfl, said_hit, fun h s' hs' => by rw [hbt s' hs', said_miss hs'] at h; exact Bool.noConfusion h⟩
    · refine .skip ?_
      refine .seq ?_
      refine .seq ?_
      obtain ⟨QS, rfl⟩ : ∃ Q, Q = PR := ⟨_, rfl⟩
      have hkh : khl k = false := (by rw [← hh]; exact hc39)
      obtain ⟨h9s, hh9, hqs⟩ : ∃ h9s : Str, h9s = ⟨[]⟩ ∧ ∀ s', Said s' t.l → QS = s'.Predicates.map textL ∧ (hLens s').get s' = h9s := ⟨⟨[]⟩, rfl, fun s' hs' => hs'.list0 (by rw [← (hsd s' hs').2.2]; exact hkh) (hsd s' hs').1⟩
      have hql : QS.length * 2 ≤ 7900 := (by simp at hpc; omega)
      have hqm : ∀ x ∈ QS, x.length ≤ 7900 := (fun x hx => by have := hsm x (by simp [hx]); omega)
      have hmq : (List.map Str.mk QS).length = QS.length := List.length_map _
      have hobj : rst0 k = rawSt (stL k h9s []) (.slice none 0 0) := raw_st0 k _ hkh
      refine .nilOwn 39 Pred ?_
      refine .region rfl ?_
      refine .p (.move (.t rfl) (.p (.len Tryz.underlying36 (.t rfl) (.p (.move (.i rfl) ?_)))))
      refine .nil ?_
      refine .block ?_
      refine .loopR (α := Nat × List Pred × Value) [(0, _), (2, _), (5, _), (8, _), (9, _), (57, _), (58, _)] (fun x R => (59, .v (x.1 : Int)) :: R) (fun x => [(true, .own 39 x.2.2 x.2.1), (true, .ob (ptr (ws7 8) 0) (rawSt (stL k h9s x.2.1) x.2.2)), (true, .ob (ptr (ws7 9) 0) f), (true, .fz (ptr b5 0) (.p (List.map Str.mk (w0 :: WR)))), (true, .ob (ptr b2 0) (default : Step))]) (fun x => x.1 ≤ QS.length ∧ x.2.1.length = x.1 ∧ ∀ s', Said s' t.l → x.2.1 = s'.Predicates.take x.1) (fun x => QS.length - x.1) ((0, [], .slice none 0 0)) (.cons rfl (.cons rfl (.cons rfl (.cons rfl (.cons rfl (.cons rfl (.cons rfl (.nil _)))))))) ?_ (.cons rfl (.cons rfl (.cons rfl (.cons rfl (.cons rfl (.cons rfl (.cons rfl (.cons rfl (.nil _))))))))) (congrArg (fun z => [(true, Blk.own 39 (Value.slice none 0 0) ([] : List Pred)), (true, Blk.ob (ptr (ws7 8) 0) z), (true, Blk.ob (ptr (ws7 9) 0) f), (true, Blk.fz (ptr b5 0) (.p (List.map Str.mk (w0 :: WR)))), (true, Blk.ob (ptr b2 0) (default : Step))]) hobj) fun x hF => ?_
      · exact ⟨Nat.zero_le _, rfl, fun _ _ => rfl⟩
      obtain ⟨j, l, u⟩ := x
      obtain ⟨f1, f2, f3⟩ := hF
      dsimp only at f1 f2 f3 ⊢
      refine .seq ?_
      refine .region rfl ?_
      refine .p (.lss (.t rfl) (.t rfl) ?_)
      refine .nil ?_
      refine .seq ?_
      refine .condP (.t rfl) (fun hc60 => ?_) (fun hc60 => ?_)
      · refine .skip ?_
        refine .seq ?_
        refine .block ?_
        refine .seq ?_
        have hj : j < QS.length := (by omega)
        refine .region rfl ?_
        refine .p (.idx ty9 Tryz.underlying36 (.t rfl) (.t rfl) (by first | omega | (simp; done) | (simp; omega) | (simp at *; omega)) (by first | omega | (simp; done) | (simp; omega) | (simp at *; omega)) (.p (.ldP ty9 (.t rfl) (.p (.assign (.t rfl) ?_)))))
        simp only [List.getElem_map, Int.toNat_natCast]
        have hqj := hqm _ (List.getElem_mem hj)
        refine .nil ?_
        refine .seq ?_
        refine .region rfl ?_
        refine .p (.move (.t rfl) (.p (.call1 hG (predParse_c _ (by first | omega | (simp; done) | (simp; omega) | (simp at *; omega))) (.cons (.t rfl) .nil) (.p (.move (.t rfl) (.p (.ext2_0 (.t rfl) (.p (.ext2_1 (.t rfl) (.h (.alloc ty39 fun b13 => ?_)))))))))))
        refine .n (.stW ty39 (.t rfl) (.t rfl) .z (.p (.assign (.t rfl) ?_)))
        refine .nil ?_
        refine .seq ?_
        refine .seq ?_
        refine .region rfl ?_
        refine .p (.move (.t rfl) (.p (.neqI (.t rfl) (.i rfl) ?_)))
        refine .nil ?_
        refine .condP (.t rfl) (fun hc69 => ?_) (fun hc69 => ?_)
        · refine .seq ?_
          refine .region rfl ?_
          refine .p (.bS0 (α := G_api_Step) rfl ty30 fo30 (.n (.stW ty30 (.t rfl) (.t rfl) (.s (.s (.s (.s (.s .z))))) (.p (.assign .b ?_)))))
          refine .nil ?_
          refine .ret ?_
          refine ⟨_, .r2 rfl (.cell ty30 rfl (.s (.s (.s (.s (.s .z)))))) (.tmp rfl), ?_⟩
          exact ⟨_, false, rfl, fun h => Bool.noConfusion h, fun _ s' hs' => hc69 (take_text hs' (hqs s' hs').1 (f3 s' hs') hj).1⟩
        · refine .skip ?_
          refine .region rfl ?_
          refine .p (.fldW G_api_StepR.l4 fd30_4 rfl (.t rfl) (.p (.ldR (fun x => x.Predicates) tyR24 (.t rfl) (.s (.s .z)) (fun _ => rfl) ?_)))
          refine .p (.ldW ty39 (.t rfl) .z (.h (.buildSlice (α := G_api_Predicate) ty39 Tryz.underlying24 (.cons (.t rfl) .nil) rfl (by decide) fun b74 => .h (.append st24 (.inl ⟨_, Tryz.underlying24⟩) rfl (.s (.s .z)) (.own rfl .z) (by first | omega | (simp; done) | (simp; omega) | (simp at *; omega)) (by first | omega | (simp; done) | (simp; omega) | (simp at *; omega)) (fun w75 => .p (.fldW G_api_StepR.l4 fd30_4 rfl (.t rfl) (.n (.stF (fun y x => { x with Predicates := y }) tyR24 (.t rfl) (.ownR rfl (.s (.s .z))) (.s (.s (.s .z))) (fun _ _ => rfl) ?_)))) rfl))))
          refine .drop ?_
          refine .drop ?_
          refine .nil ?_
          refine .region rfl ?_
          refine .p (.add (.t rfl) (.i rfl) (by first | omega | (simp; done) | (simp; omega) | (simp at *; omega)) (by first | omega | (simp; done) | (simp; omega) | (simp at *; omega)) (.p (.move (.t rfl) ?_)))
          refine .nil ?_
          refine ⟨(j + 1, l ++ [(parF ⟨QS[j]⟩ 8).1], w75), .cons rfl (.cons rfl (.cons rfl (.cons rfl (.cons rfl (.cons rfl (.cons rfl (.cons rfl (.nil _)))))))), rfl, ?_, by dsimp only; omega⟩
          exact ⟨by dsimp only; omega, by dsimp only; rw [List.length_append, f2]; rfl, fun s' hs' => (take_text hs' (hqs s' hs').1 (f3 s' hs') hj).2⟩
      · refine .exit ?_
        refine .seq ?_
        refine .seq ?_
        obtain rfl : j = QS.length := (by omega)
        have hwr : ∀ x ∈ WR.map Str.mk, x.l.length ≤ 20000 := (fun x hx => by obtain ⟨y, hy, rfl⟩ := List.mem_map.1 hx; have := hwl y (by simp [hy]); have := hsm p0 (by simp); show y.length ≤ _; omega)
        have hbt : ∀ s', Said s' t.l → fillF (kfl k) (WR.map Str.mk) (stL k h9s l) = (true, s') := (fun s' hs' => by obtain ⟨q1, q2⟩ := hqs s' hs'; have q3 := f3 s' hs'; rw [List.take_of_length_le (by rw [q1, List.length_map]; exact Nat.le_refl _)] at q3; rw [q3, (hsd s' hs').2.1]; exact hs'.built (hsd s' hs').2.2 q2)
        refine .frzOwn hC .z ?_
        refine .obAs (.s .z) (fun n0 I L hr cs hc => rawSt_rep hc (Hole.fz .z hr)) ?_
        refine .conv 8 (.ln (ptr (ws7 8) 0) (Lens.id (α := Step))) rfl (fun _ _ _ _ _ h => h) ?_
        refine .drop ?_
        refine (?_ : wpA _ _ _ _ _ _ _)
        refine .drawM [⟨((true, .ob (ptr (ws7 8) 0) (stL k h9s l))), [⟨2, 2, fun v => .v (ptrs (ws7 8) (kfl k)), fun v => (true, .ob (ptr (ws7 8) 0) (stL k h9s l))⟩, ⟨5, 5, fun v => .v (fillF (kfl k) (WR.map Str.mk) (stL k h9s l)).1, fun v => (true, .ob (ptr (ws7 8) 0) (fillF (kfl k) (WR.map Str.mk) (stL k h9s l)).2)⟩]⟩] [2, 5] [2, 5] [[(2, 2), (5, 5)]] (by kernel_rfl) 7 [[], [(78, 0)], [(79, 1)], [], [(81, 3)], [(80, 2), (82, 4)], [(83, 5)]] rfl (by kernel_rfl) rfl rfl (by decide) (by kernel_rfl) ?_
        refine ⟨_, fun H => OpP.fldW G_script_form.l1 fd85_1 rfl (.t rfl) rfl, ?_⟩
        refine ⟨_, fun H => OpP.ldF (fun x => x.numbers) ty83 (.t rfl) (Hole.app .z) (fun _ => rfl) rfl, ?_⟩
        refine .inr ⟨.v (ptrs (ws7 8) (kfl k)), ?_⟩
        refine ⟨_, fun H => OpP.ldP ty36 (.t rfl) rfl, ?_⟩
        refine ⟨_, fun H => OpP.slLo ty9 Tryz.underlying36 (.t rfl) (.i rfl) (by first | omega | (simp; done) | (simp; omega) | (simp at *; omega)) (by first | omega | (simp; done) | (simp; omega) | (simp at *; omega)) rfl, ?_⟩
        refine .inr ⟨.v (fillF (kfl k) (WR.map Str.mk) (stL k h9s l)).1, ?_⟩
        refine ⟨_, fun H => OpP.not (.t rfl) rfl, ?_⟩
        refine ⟨?_, ?_, fun nm20 => ?_⟩
        · exact (And.intro (fun _ => rfl) (And.intro (fun _ => rfl) trivial))
        · refine (And.intro (And.intro ?_ (And.intro ?_ trivial)) trivial)
          · intro o s ho hs; obtain rfl := Option.some.inj (show some _ = some o from ho); obtain rfl := Option.some.inj (show some _ = some s from hs); refine ⟨rfl, fun H' F hh => OpH.callMV hG (by rw [← hn]; exact .t rfl) (hnum _ _) hh (.cons (.t rfl) .nil) (by rintro _ _ ⟨_, rfl⟩; exact ⟨_, rfl⟩) fun r80 B80 hr80 => (by obtain ⟨rfl, hB⟩ := hr80; cases hB; exact ⟨(undef, 0), rfl, rfl⟩)⟩
          · intro o s ho hs; obtain rfl := Option.some.inj (show some _ = some o from ho); obtain rfl := Option.some.inj (show some _ = some s from hs); refine ⟨rfl, fun v H' F hh => OpH.callM hG (fill_c (ws7 8) (kfl k) (WR.map Str.mk) (stL k h9s l) (kfl_len _) hwr) hh (.cons (.t rfl) (.cons (.t rfl) .nil)) (by rintro _ _ ⟨_, rfl⟩; exact ⟨_, rfl⟩) fun r83 B83 hr83 => (by obtain ⟨rfl, hB⟩ := hr83; cases hB; exact ⟨(undef, 0), .inl rfl, rfl, rfl⟩)⟩
        show wpB _ _ _ _ _ _ ((84, _) :: (83, _) :: (82, _) :: (81, _) :: (80, _) :: (79, _) :: (78, _) :: _) ((true, .ob (ptr (ws7 8) 0) (fillF (kfl k) (WR.map Str.mk) (stL k h9s l)).2) :: _)
        refine .nil ?_
        refine .cond (.t rfl) (fun hc84 => ?_) (fun hc84 => ?_)
        · refine .seq ?_
          refine .region rfl ?_
          refine .p (.bS0 (α := G_api_Step) rfl ty30 fo30 (.n (.stW ty30 (.t rfl) (.t rfl) (.s (.s (.s .z))) (.p (.assign .b ?_)))))
          refine .nil ?_
          refine .ret ?_
          refine ⟨_, .r2 rfl (.cell ty30 rfl (.s (.s (.s .z)))) (.tmp rfl), ?_⟩
          exact ⟨_, false, rfl, fun h => Bool.noConfusion h, fun _ s' hs' => by rw [hbt s' hs'] at hc84; exact Bool.noConfusion hc84⟩
        · refine .skip ?_
          refine .seq ?_
          refine .region rfl ?_
          refine .p (.ldW ty30 (.t rfl) .z (.p (.call1 hG (line_c _ (by rw [fillF_preds]; show l.length ≤ _; omega)) (.cons (.t rfl) .nil) (.p (.move (.t rfl) (.p (.ext2_0 (.t rfl) (.p (.ext2_1 (.t rfl) (.p (.assign (.t rfl) ?_)))))))))))
          refine .p (.assign (.t rfl) ?_)
          refine .nil ?_
          refine .seq ?_
          refine .region rfl ?_
          refine .p (.ldW ty30 (.t rfl) .z (.p (.move (.t rfl) (.p (.eqlI (.t rfl) (.i rfl) (.p (.move (.t rfl) ?_)))))))
          refine .go 94 rfl (.t rfl) (fun hg95 => .move (.t rfl) rfl) ?_
          refine .go 94 rfl (.t rfl) (fun hg96 => .move (.t rfl) rfl) ?_
          refine .go 94 rfl (.t rfl) (fun hg97 => .eqlS (.o rfl (beq_iff_eq.2 hg97)) (.o rfl (beq_iff_eq.2 hg97)) rfl) ?_
          refine .p (.pickAnd (.t rfl) (fun hp => (.o rfl (beq_iff_eq.2 hp))) (.n (.stW ty30 (.t rfl) (.t rfl) (.s (.s (.s .z))) (.p (.assign (.t rfl) ?_)))))
          refine .nil ?_
          refine .ret ?_
          refine ⟨_, .r2 rfl (.cell ty30 rfl (.s (.s (.s .z)))) (.tmp rfl), ?_⟩
          exact ⟨_, _, rfl, said_hit, fun h s' hs' => by rw [hbt s' hs', said_miss hs'] at h; exact Bool.noConfusion h⟩
end Go.Proofs.YtfkbejimghamkaaGreatDoor
set_option linter.unusedVariables false
namespace Go.Ab
open Go.Fl Go.RowKit
open Rep (rep)
def runeL (l : List UInt8) (pos : Nat) : Nat := (Utf8.decode ⟨l.toArray⟩ pos).1
def runeN (l : List UInt8) (pos : Nat) : Nat := (Utf8.decode ⟨l.toArray⟩ pos).2
def nxA (l : List UInt8) (pos : Nat) : AV := .pr (fun _ u => if pos < l.length then u = .tuple #[.bool true, .int .i64 pos, .int .i32 (runeL l pos)] else u = .tuple #[.bool false]) (fun _ h => h)
section
variable {P : Program} {C : Ctx} {N : Nat} {σ : AEnv} {H : AHeap} {d : Option Nat} {ty : TypeId} {ps : String} {af : Array Edge} {g : Option (Nat × Bool)} {K : AV → Prop} {KH : AV → AHeap → Prop} {x y : Operand} {T T2 : TypeId}
theorem OpH.nextA {t : Nat} {b0 : Bool} {w : Value} {l : List UInt8} {pos : Nat} {F : Bool × Blk → AHeap} (hx : lookA σ t = some (.raw w)) (hH : Hole H (b0, .usr w (StIt.mk l pos)) F) (hb : l.length ≤ 9223372036854775807)
    (k : KH (nxA l pos) (F (b0, .usr w (StIt.mk l (if pos < l.length then pos + runeN l pos else pos))))) : OpH P C N ⟨d, .next (.tmp t) true, ty, ps, af, g⟩ σ H KH := fun ρ I L hs => by
  have hn : OpH P C N ⟨d, .next (.tmp t) true, ty, ps, af, g⟩ σ H (fun r H' => (∃ h : pos < l.length, r = .t3 (.v true) (.v (pos : Int)) (.v (Rune.mk (runeL l pos))) ∧ H' = F (b0, .usr w (StIt.mk l (pos + runeN l pos)))) ∨ (¬ pos < l.length ∧ r = .raw (.tuple #[.bool false]) ∧ H' = F (b0, .usr w (StIt.mk l pos)))) :=
    .nextS hx hH hb (fun h => .inl ⟨h, rfl, rfl⟩) fun h => .inr ⟨h, rfl, rfl⟩
  refine OpS.mono' (hn ρ I L hs) fun v J L' ⟨hle, r, H', h1, h2, h3⟩ => ⟨hle, nxA l pos, _, ?_, ?_, k⟩
  · rcases h3 with ⟨hp, rfl, _⟩ | ⟨hp, rfl, _⟩
    · obtain ⟨u1, u2, u3, rfl, ⟨_, rfl, rfl⟩, ⟨_, ⟨rfl, _⟩, rfl⟩, ⟨_, rfl, rfl⟩⟩ := h1
      show (if pos < l.length then _ else _)
      rw [if_pos hp]; rfl
    · show (if pos < l.length then _ else _)
      rw [if_neg hp]; exact h1
  · rcases h3 with ⟨hp, _, rfl⟩ | ⟨hp, _, rfl⟩
    · rw [if_pos hp]; exact h2
    · rw [if_neg hp]; exact h2
theorem OpP.nx0 {l : List UInt8} {pos : Nat} (hx : EvA C σ H x (nxA l pos)) (k : K (.v (decide (pos < l.length)))) : OpP P N C ⟨d, .extract x 0, ty, ps, af, g⟩ σ H K :=
  .ofV (.v (decide (pos < l.length))) (fun ρ I L hs => by
    obtain ⟨u, h1, h2⟩ := hx ρ I L hs
    have h2 : (if pos < l.length then u = .tuple #[.bool true, .int .i64 pos, .int .i32 (runeL l pos)] else u = .tuple #[.bool false]) := h2
    by_cases hp : pos < l.length
    · rw [if_pos hp] at h2; subst h2
      exact .extract h1 rfl ⟨_, rfl, by rw [decide_eq_true hp]; rfl⟩
    · rw [if_neg hp] at h2; subst h2
      exact .extract h1 rfl ⟨_, rfl, by rw [decide_eq_false hp]; rfl⟩) k
theorem OpP.nx1 {l : List UInt8} {pos : Nat} (hx : EvA C σ H x (nxA l pos)) (hp : pos < l.length) (hl : l.length ≤ 9223372036854775807) (k : K (.v (pos : Int))) : OpP P N C ⟨d, .extract x 1, ty, ps, af, g⟩ σ H K :=
  .ofV (.v (pos : Int)) (fun ρ I L hs => by
    obtain ⟨u, h1, h2⟩ := hx ρ I L hs
    have h2 : (if pos < l.length then u = .tuple #[.bool true, .int .i64 pos, .int .i32 (runeL l pos)] else u = .tuple #[.bool false]) := h2
    rw [if_pos hp] at h2; subst h2
    exact .extract h1 rfl ⟨_, ⟨rfl, by omega, by omega⟩, rfl⟩) k
theorem OpP.nx2 {l : List UInt8} {pos : Nat} (hx : EvA C σ H x (nxA l pos)) (hp : pos < l.length) (k : K (.v (Rune.mk (runeL l pos)))) : OpP P N C ⟨d, .extract x 2, ty, ps, af, g⟩ σ H K :=
  .ofV (.v (Rune.mk (runeL l pos))) (fun ρ I L hs => by
    obtain ⟨u, h1, h2⟩ := hx ρ I L hs
    have h2 : (if pos < l.length then u = .tuple #[.bool true, .int .i64 pos, .int .i32 (runeL l pos)] else u = .tuple #[.bool false]) := h2
    rw [if_pos hp] at h2; subst h2
    exact .extract h1 rfl ⟨_, rfl, rfl⟩) k
theorem OpP.neqRune {r : Rune} {n : Nat} {m : Int} (hm : m = (n : Int)) (hx : EvA C σ H x (.v r)) (k : K (.v (decide (r.n ≠ n)))) : OpP P N C ⟨d, .binOp .neq T x (.const (.int .i32 m)) T2, ty, ps, af, g⟩ σ H K :=
  .ofV (.v (decide (r.n ≠ n))) (fun ρ I L hs => by
    obtain ⟨u, h1, cs, rfl, rfl⟩ := hx ρ I L hs
    refine .neqI h1 rfl ⟨_, rfl, ?_⟩
    show Value.bool _ = Value.bool _
    congr 1
    subst hm
    exact decide_eq_decide.2 (by omega)) k
end
theorem runeLF (l : List UInt8) (i : Nat) (h : i < l.length) : 1 ≤ runeN l i ∧ i + runeN l i ≤ l.length ∧ (runeL l i = 10 ↔ l[i] = 10) ∧ ∀ k, i < k → k < i + runeN l i → ∀ hk : k < l.length, l[k] ≠ 10 := decode_lf l i h
theorem wpB.gsHK {P : Program} {C : Ctx} {N : Nat} {ops : Array Oper} {Q : Exit → AEnv → AHeap → Prop} {rest : List Oper} {σ : AEnv} {H : AHeap} {d : Nat} {op : Op} {ty : TypeId} {ps : String} {af : Array Edge} {j : Nat} {want : Bool} (dj : Nat) (hj : (ops[j]?).bind (·.dst) = some dj) {b : Bool} (hb : EvA C σ H (.tmp dj) (.v b))
    {ι : Type} (R : ι → AV) (F : ι → AHeap) (Φ : ι → Prop) (i0 : ι) (h0 : Φ i0) (e0 : F i0 = H) (h : b = want → OpH P C N ⟨some d, op, ty, ps, af, none⟩ σ H (fun r H' => ∃ i, Φ i ∧ r = R i ∧ H' = F i))
    (k : ∀ i, Φ i → wpB P C N ops Q rest ((d, .opt (b == want) (R i)) :: σ) (F i)) : wpB P C N ops Q (⟨some d, op, ty, ps, af, some (j, want)⟩ :: rest) σ H := fun ρ I L hs => by
  have hbv := hb.bool hs
  by_cases e : b = want
  · refine .gt dj hj (by rw [← e]; exact hbv) (OpS.mono' (h e ρ I L hs) fun v J L' ⟨hle, r, H', h1, h2, i, h3, h4, h5⟩ => ?_)
    subst h4; subst h5
    exact k i h3 _ _ _ (hs.put hle (r := .opt (b == want) (R i)) (fun _ => h1) h2)
  · have e' : b = !want := by cases b <;> cases want <;> simp_all
    have hk := k i0 h0
    rw [e0] at hk
    exact .gf dj hj (by rw [← e']; exact hbv) (hk _ _ _ (hs.put (Le.refl I) (r := .opt (b == want) (R i0)) (fun hc => absurd (by simpa using hc) e) hs.heap))
end Go.Ab
set_option maxRecDepth 1000000
set_option linter.unusedVariables false
set_option linter.unusedSimpArgs false
namespace Go.Proofs.YtfkbejimghamkaaGreatDoor
open Go.Fl Go.Ab Go.Mac Go.Sha Go.Lib
inductive Parsed : List UInt8 → Nat → List Step → List Step × Int × Int → Prop
  | nil (n : Nat) (a : List Step) : Parsed [] n a (a, 0, 0)
  | bad {s : List UInt8} (n : Nat) (a : List Step) (h : s ≠ []) (hb : ∀ x r, cutC 10 s = (x, r, true) → ∀ st, ¬ Said st x) : Parsed s n a ([], (n : Int), 8)
  | line {s x r : List UInt8} {n : Nat} {a : List Step} {st : Step} {q : List Step × Int × Int} (hc : cutC 10 s = (x, r, true)) (hs : Said st x) (h : Parsed r (n + 1) (a ++ [st]) q) : Parsed s n a q
theorem Parsed.uniq {s : List UInt8} {n : Nat} {a : List Step} {q q' : List Step × Int × Int} (h : Parsed s n a q) (h' : Parsed s n a q') : q = q' := by
  induction h with
  | nil n a =>
    cases h' with
    | nil => rfl
    | bad _ _ h _ => exact absurd rfl h
    | line hc _ _ => cases hc
  | bad n a h hb =>
    cases h' with
    | nil => exact absurd rfl h
    | bad => rfl
    | line hc hs _ => exact absurd hs (hb _ _ hc _)
  | line hc hs h ih =>
    cases h' with
    | nil => cases hc
    | bad _ _ _ hb => exact absurd hs (hb _ _ hc _)
    | line hc2 hs2 h2 =>
      rw [hc] at hc2
      simp only [Prod.mk.injEq] at hc2
      obtain ⟨rfl, rfl, _⟩ := hc2
      obtain rfl := hs.uniq hs2
      exact ih h2
theorem drop_cut {l : List UInt8} {a b : Nat} (hab : a ≤ b) (hb : b < l.length) (h : ∀ i, a ≤ i → i < b → ∀ hi : i < l.length, l[i] ≠ 10) (h10 : l[b] = 10) : cutC 10 (l.drop a) = ((l.take b).drop a, l.drop (b + 1), true) := by
  have e : l.drop a = (l.take b).drop a ++ 10 :: l.drop (b + 1) := by
    have h1 : l = l.take b ++ (l[b] :: l.drop (b + 1)) := by simp
    conv => lhs; rw [h1]
    rw [List.drop_append_of_le_length (by rw [List.length_take]; omega), h10]
  rw [e]
  refine cutC_app _ fun x hx => ?_
  obtain ⟨i, hi, rfl⟩ := List.getElem_of_mem hx
  simp only [List.length_drop, List.length_take] at hi
  rw [List.getElem_drop, List.getElem_take]
  exact h (a + i) (by omega) (by omega) (by omega)
theorem drop_nocut {l : List UInt8} {a : Nat} (h : ∀ i, a ≤ i → ∀ hi : i < l.length, l[i] ≠ 10) : cutC 10 (l.drop a) = (l.drop a, [], false) := by
  refine cutC_no fun x hx => ?_
  obtain ⟨i, hi, rfl⟩ := List.getElem_of_mem hx
  rw [List.length_drop] at hi
  rw [List.getElem_drop]
  exact h (a + i) (by omega) (by omega)
theorem parse_c (s : Str) (hs : s.l.length ≤ 7900) : FunA gl Tryz.prog 11 [.v s] (fun r => ∃ q, Parsed s.l 1 [] q ∧ r = .t3 (.v q.1) (.v q.2.1) (.v q.2.2)) := by
  refine FunA.intro Tryz.func11 rfl (by kernel_rfl) 45 rfl rfl _ rfl fun C hC hG => ?_
  refine .seq ?_
  refine .region rfl ?_
  refine .p (.assign (.nilS (α := G_api_Step)) (.p (.assign (.i rfl) (.p (.assign (.i rfl) ?_)))))
  refine .nil ?_
  refine .seq ?_
  refine .region rfl ?_
  refine .p (.assign .raw ?_)
  refine .nil ?_
  refine .seq ?_
  refine .region rfl ?_
  refine .p (.assign (.i rfl) (.p (.assign (.i rfl) ?_)))
  refine .nil ?_
  refine .seq ?_
  refine .seq ?_
  refine .nilOwn 30 Step ?_
  refine .region rfl ?_
  refine .p (.move (.t rfl) (.h (.rangeS Tryz.underlying9 (.t rfl) fun b13 => ?_)))
  refine .nil ?_
  refine .block ?_
  refine .loopR (α := Nat × Nat × Nat × List Step × Value) [(0, _)] (fun x R => (5, .raw x.2.2.2.2) :: (6, .v (x.2.1 : Int)) :: (7, .v (x.2.2.1 : Int)) :: (13, .raw (ptr b13 0)) :: R) (fun x => [(true, .usr (ptr b13 0) (StIt.mk s.l x.1)), (true, .own 30 x.2.2.2.2 x.2.2.2.1)]) (fun x => x.2.1 ≤ x.1 ∧ x.1 ≤ s.l.length ∧ (∀ i, x.2.1 ≤ i → i < x.1 → ∀ hi : i < s.l.length, s.l[i] ≠ 10) ∧ x.2.2.1 = x.2.2.2.1.length + 1 ∧ x.2.2.2.1.length ≤ x.2.1 ∧ ∀ q, Parsed (s.l.drop x.2.1) x.2.2.1 x.2.2.2.1 q → Parsed s.l 1 [] q) (fun x => s.l.length - x.1) ((0, 0, 1, [], .slice none 0 0)) (.cons rfl (.nil _)) ?_ (.cons rfl (.cons rfl (.cons rfl (.cons rfl (.cons rfl (.nil _)))))) (rfl) fun x hF => ?_
  · exact ⟨Nat.le_refl _, Nat.zero_le _, fun i h1 h2 => absurd h2 (Nat.not_lt_zero _), rfl, Nat.le_refl _, fun q h => h⟩
  obtain ⟨pos, fr, n, out, w⟩ := x
  obtain ⟨f1, f2, f3, f4, f5, f6⟩ := hF
  dsimp only at f1 f2 f3 f4 f5 f6 ⊢
  refine .seq ?_
  refine .region rfl ?_
  refine .h (.nextA rfl .z (by omega) (.p (.nx0 (.t rfl) ?_)))
  refine .nil ?_
  refine .seq ?_
  refine .condP (.t rfl) (fun hc15 => ?_) (fun hc15 => ?_)
  · refine .skip ?_
    refine .block ?_
    refine .seq ?_
    have hp : pos < s.l.length := hc15
    rw [if_pos hp]
    obtain ⟨g1, g2, g3, g4⟩ := runeLF s.l pos hp
    refine .region rfl ?_
    refine .p (.nx1 (.t rfl) hp (by omega) (.p (.nx2 (.t rfl) hp (.p (.assign (.t rfl) (.p (.assign (.t rfl) ?_)))))))
    refine .nil ?_
    refine .seq ?_
    refine .seq ?_
    refine .region rfl ?_
    refine .p (.move (.t rfl) (.p (.neqRune rfl (.t rfl) ?_)))
    refine .nil ?_
    refine .condP (.t rfl) (fun hc19 => ?_) (fun hc19 => ?_)
    · refine .exit ?_
      refine ⟨(pos + runeN s.l pos, fr, n, out, w), .cons rfl (.cons rfl (.cons rfl (.cons rfl (.cons rfl (.nil _))))), rfl, ?_, by dsimp only; omega⟩
      exact ⟨by dsimp only; omega, by dsimp only; omega, fun i h1 h2 hi => by dsimp only at h1 h2; rcases Nat.lt_trichotomy i pos with h | h | h; exact f3 i h1 h hi; (subst h; exact fun e => hc19 (g3.2 e)); exact g4 i h h2 hi, f4, f5, f6⟩
    · refine .skip ?_
      refine .seq ?_
      have h10 : s.l[pos]'hp = 10 := g3.1 (by simpa using hc19)
      have hcut := drop_cut (l := s.l) f1 hp (fun i h1 h2 hi => f3 i h1 h2 hi) h10
      refine .region rfl ?_
      refine .p (.move (.t rfl) (.p (.move (.t rfl) (.p (.move (.t rfl) (.p (.slStrLH Tryz.underlying9 (.t rfl) (.t rfl) (.t rfl) (by first | omega | (simp; done) | (simp; omega) | (simp at *; omega)) (by first | omega | (simp; done) | (simp; omega) | (simp at *; omega)) (by first | omega | (simp; done) | (simp; omega) | (simp at *; omega)) (.p (.call hG (step_c _ (by rw [List.length_drop, List.length_take]; omega)) (.cons (.t rfl) .nil) fun r25 hr25 => ?_)))))))))
      obtain ⟨st, ok, rfl, hok, hno⟩ := hr25
      refine .p (.move (.t rfl) (.p (.ext2_0 (.t rfl) (.p (.ext2_1 (.t rfl) (.h (.alloc ty30 fun b10 => .n (.stW ty30 (.t rfl) (.t rfl) .z (.p (.assign (.t rfl) ?_))))))))))
      refine .nil ?_
      refine .seq ?_
      refine .seq ?_
      refine .region rfl ?_
      refine .p (.move (.t rfl) (.p (.not (.t rfl) ?_)))
      refine .nil ?_
      refine .cond (.t rfl) (fun hc29 => ?_) (fun hc29 => ?_)
      · refine .seq ?_
        refine .region rfl ?_
        refine .p (.move (.t rfl) (.p (.assign (.nilS (α := G_api_Step)) (.p (.assign (.t rfl) (.p (.assign (.i rfl) ?_)))))))
        refine .nil ?_
        refine .ret ?_
        refine ⟨_, .r3 rfl (.tmp rfl) (.tmp rfl) (.tmp rfl), ?_⟩
        exact ⟨([], (n : Int), 8), f6 _ (.bad n out (fun e => by have := congrArg List.length e; simp at this; omega) fun x r hc st hst => by rw [hcut] at hc; simp only [Prod.mk.injEq] at hc; obtain ⟨rfl, _⟩ := hc; exact hno (by simpa using hc29) st hst), rfl⟩
      · refine .skip ?_
        refine .region rfl ?_
        refine .p (.move (.t rfl) (.p (.ldW ty30 (.t rfl) .z (.h (.buildSlice (α := G_api_Step) ty30 Tryz.underlying22 (.cons (.t rfl) .nil) rfl (by decide) fun b33 => .h (.append st22 (.inl ⟨_, Tryz.underlying22⟩) rfl (.s (.s (.s .z))) (.own rfl .z) (by first | omega | (simp; done) | (simp; omega) | (simp at *; omega)) (by first | omega | (simp; done) | (simp; omega) | (simp at *; omega)) (fun w34 => .p (.move (.t rfl) (.p (.add (.t rfl) (.i rfl) (by first | omega | (simp; done) | (simp; omega) | (simp at *; omega)) (by first | omega | (simp; done) | (simp; omega) | (simp at *; omega)) ?_)))) rfl))))))
        refine .p (.move (.t rfl) (.p (.add (.t rfl) (.i rfl) (by first | omega | (simp; done) | (simp; omega) | (simp at *; omega)) (by first | omega | (simp; done) | (simp; omega) | (simp at *; omega)) (.p (.assign (.t rfl) (.p (.assign (.t rfl) (.p (.assign (.t rfl) ?_)))))))))
        refine .drop ?_
        refine .drop ?_
        refine .nil ?_
        refine ⟨(pos + runeN s.l pos, pos + 1, n + 1, out ++ [st], w34), .cons rfl (.cons rfl (.cons rfl (.cons rfl (.cons rfl (.nil _))))), rfl, ?_, by dsimp only; omega⟩
        exact ⟨by dsimp only; omega, by dsimp only; omega, fun i h1 h2 hi => by dsimp only at h1 h2; exact g4 i (by omega) h2 hi, by simp; omega, by simp; omega, fun q h => f6 q (.line hcut (hok (by simpa using hc29)) h)⟩
  · refine .exit ?_
    refine .seq ?_
    refine .seq ?_
    refine .region rfl ?_
    refine .p (.move (.t rfl) (.p (.move (.t rfl) (.p (.lenS Tryz.underlying9 (.t rfl) (.p (.lss (.t rfl) (.t rfl) ?_)))))))
    refine .nil ?_
    refine .condP (.t rfl) (fun hc42 => ?_) (fun hc42 => ?_)
    · refine .seq ?_
      refine .region rfl ?_
      refine .p (.move (.t rfl) (.p (.assign (.nilS (α := G_api_Step)) (.p (.assign (.t rfl) (.p (.assign (.i rfl) ?_)))))))
      refine .nil ?_
      refine .ret ?_
      refine ⟨_, .r3 rfl (.tmp rfl) (.tmp rfl) (.tmp rfl), ?_⟩
      exact ⟨([], (n : Int), 8), f6 _ (.bad n out (fun e => by have := congrArg List.length e; simp at this; omega) fun x r hc => by rw [drop_nocut fun i h1 hi => f3 i h1 (by omega) hi] at hc; simp at hc), rfl⟩
    · refine .skip ?_
      refine .seq ?_
      refine .frzOwn hC (.s .z) ?_
      refine .as 5 rfl (.s .z) ?_
      refine .region rfl ?_
      refine .p (.move (.t rfl) (.p (.assign (.t rfl) (.p (.assign (.i rfl) (.p (.assign (.i rfl) ?_)))))))
      refine .nil ?_
      refine .ret ?_
      refine ⟨_, .r3 rfl (.tmp rfl) (.tmp rfl) (.tmp rfl), ?_⟩
      exact ⟨(out, 0, 0), f6 _ (by rw [List.drop_eq_nil_of_le (by omega)]; exact .nil n out), rfl⟩
end Go.Proofs.YtfkbejimghamkaaGreatDoor
set_option maxRecDepth 1000000
set_option linter.unusedVariables false
set_option linter.unusedSimpArgs false
namespace Go.Proofs.YtfkbejimghamkaaGreatDoor
open Go.Fl Go.Ab Go.Mac Go.Sha Go.Lib
theorem split_none {s : List UInt8} (h : Lib.index s [59, 32] = -1) : Lib.split s [59, 32] = [s] := by
  unfold Lib.split
  rw [Lib.count_miss h]; rfl
end Go.Proofs.YtfkbejimghamkaaGreatDoor
set_option maxRecDepth 1000000
set_option linter.unusedVariables false
set_option linter.unusedSimpArgs false
namespace Go.Proofs.YtfkbejimghamkaaGreatDoor
open Go.Fl Go.Ab Go.Mac Go.Sha Go.Lib
end Go.Proofs.YtfkbejimghamkaaGreatDoor
set_option linter.unusedVariables false
set_option linter.unusedSimpArgs false
namespace Go.Ab
open Go.Fl Go.RowKit Go.Shelf Go.Proofs
open Rep (rep)
structure Bld where
  b : Nat
  T : TypeId
  E : TypeId
  l : List UInt8
instance : UB Bld where
  ub _ w x X := w = ptr x.b 0 ∧ ∃ p v : Value, (p = .pointer none ∨ p = .pointer (some ⟨x.b, 0, none⟩)) ∧
    ((v = .slice none 0 0 ∧ x.l = [] ∧ X = [(x.b, .cells #[p, v] x.T (0, 0))]) ∨
     ∃ (g cap : Nat) (cur : Array Value), v = .slice (some ⟨g, 0, none⟩) x.l.length cap ∧ x.l.length ≤ cap ∧ cap ≤ maxLen ∧ cur.size = cap * 1 ∧ cur.toList.take (x.l.length * 1) = Lib.byteCells x.l ∧ X = [(x.b, .cells #[p, v] x.T (0, 0)), (g, .cells cur x.E (0, 0))])
  mono _ h := h
theorem Bld.is {I : Im} {u : Value} {x : Bld} {X : List (Nat × Obj)} {w : World} {B : Nat} (h : (Blk.usr u x).brep I X) (hn : (X.map Prod.fst).Nodup) (hX : ∀ p ∈ X, w.heap[p.1]? = some p.2 ∧ B ≤ p.1) : Lib.IsBuilder x.T x.E B x.b (Lib.byteCells x.l) w := by
  obtain ⟨_, p, v, hp, h⟩ := h
  have key : Lib.BuilderAt x.T x.E B x.b p (Lib.byteCells x.l) w := by
    rcases h with ⟨rfl, hl, rfl⟩ | ⟨g, cap, cur, rfl, h1, h2, h3, h4, rfl⟩
    · have := hX _ (List.mem_singleton.2 rfl)
      rw [hl]
      exact ⟨this.2, _, this.1, World.ownsRow_nil _ _ _ _, by simp [Value.ownBlock]⟩
    · have h5 := hX _ (List.mem_cons_self ..)
      have h6 := hX _ (List.mem_cons_of_mem _ (List.mem_cons_self ..))
      refine ⟨h5.2, _, h5.1, ⟨by rw [Nat.mul_one], .inr ⟨g, cap, cur, by rw [Lib.byteCells_length], h6.2, h6.1, by rw [Lib.byteCells_length]; exact h1, h2, h3, by rw [Lib.byteCells_length]; exact h4⟩⟩, ?_⟩
      intro e
      have e : some g = some x.b := e
      have e := Option.some.inj e
      simp [e] at hn
  rcases hp with rfl | rfl
  · exact .inl key
  · exact .inr key
theorem Bld.of {x : Bld} {w : World} {B : Nat} (h : Lib.BuilderAt x.T x.E B x.b (.pointer (some ⟨x.b, 0, none⟩)) (Lib.byteCells x.l) w) (I : Im) : ∃ X, (Blk.usr (ptr x.b 0) x).brep I X ∧ (X.map Prod.fst).Nodup ∧ ∀ p ∈ X, w.heap[p.1]? = some p.2 ∧ B ≤ p.1 := by
  obtain ⟨hB, v, hb, hown, hne⟩ := h
  rw [Lib.byteCells_length] at hown
  rcases hown.2 with ⟨rfl, h0⟩ | ⟨g, cap, cur, rfl, hg0, hg, h1, h2, h3, h4⟩
  · refine ⟨_, ⟨rfl, _, _, .inr rfl, .inl ⟨rfl, List.eq_nil_of_length_eq_zero h0, rfl⟩⟩, by simp, fun p hp => ?_⟩
    rw [List.mem_singleton.1 hp]; exact ⟨hb, hB⟩
  · have hgb : g ≠ x.b := fun e => hne (by rw [e]; rfl)
    refine ⟨_, ⟨rfl, _, _, .inr rfl, .inr ⟨g, cap, cur, rfl, h1, h2, h3, h4, rfl⟩⟩, by simp [Ne.symm hgb], fun p hp => ?_⟩
    rcases List.mem_cons.1 hp with rfl | hp
    · exact ⟨hb, hB⟩
    · rw [List.mem_singleton.1 hp]; exact ⟨hg, hg0⟩
def bldH : Option Bld → AHeap
  | some x => [(true, .usr (ptr x.b 0) x)]
  | none => []
structure BldFun (P : Program) (f : FuncId) (qs : List AV) (x : Bld) (r : AV) (x' : Option Bld) : Prop where
  ok : CallOk P f
  run : ∀ I vs B w, RepVs I qs vs → Lib.IsBuilder x.T x.E B x.b (Lib.byteCells x.l) w → B ≤ w.heap.size → Calls P f vs.toArray w fun e w' => ∃ v, e = .returned v ∧ (∀ J, RepV J r v) ∧ Below B w w' ∧
    (match x' with | some y => Lib.BuilderAt y.T y.E B y.b (.pointer (some ⟨y.b, 0, none⟩)) (Lib.byteCells y.l) w' | none => True)
def FlatE : AEnv → Prop
  | [] => True
  | p :: r => FlatV p.2 ∧ FlatE r
theorem FlatE.look : ∀ {σ : AEnv} {t : Nat} {a : AV}, FlatE σ → lookA σ t = some a → FlatV a
  | [], t, a, _, h => by cases h
  | p :: r, t, a, ⟨h1, h2⟩, h => by
    obtain ⟨s, b⟩ := p
    rw [lookA_cons] at h
    split at h
    · cases h; exact h1
    · exact FlatE.look h2 h
@[reducible] def AV.old (J : Im) (a : AV) : AV := .pr (fun _ u => RepV J a u) (fun _ h => h)
@[reducible] def oldA (J : Im) : List AV → Nat → AEnv
  | [], _ => []
  | a :: r, k => (k, AV.old J a) :: oldA J r (k + 1)
theorem oldA_eq (J : Im) : ∀ (qs : List AV) (k : Nat), oldA J qs k = argA (qs.map (AV.old J)) k
  | [], _ => rfl
  | a :: r, k => by rw [oldA, oldA_eq J r (k + 1)]; rfl
theorem FlatV.old {J : Im} {a : AV} : FlatV (AV.old J a) := fun _ _ _ h => h
theorem EvA.old {C : Ctx} {σ : AEnv} {H : AHeap} {t : Nat} {a : AV} (h : lookA σ t = some (AV.old C.I0 a)) : EvA C σ H (.tmp t) a := fun ρ I L hs => by
  obtain ⟨u, h1, h2⟩ := hs.env t _ h
  exact ⟨u, h1, RepV.mono hs.im0 h2⟩
section
variable {P : Program} {C : Ctx} {N : Nat} {ops : Array Oper} {Q : Exit → AEnv → AHeap → Prop} {rest : List Oper} {σ σ0 : AEnv} {H : AHeap} {d : Nat} {f : FuncId} {args : Array Operand} {tys : Array TypeId} {ty : TypeId} {ps : String} {af : Array Edge} {g : Option (Nat × Bool)} {qs : List AV} {r : AV} {T : TypeId}
theorem OpH.bldNew {KH : AV → AHeap → Prop} {d : Option Nat} (E : TypeId) (hz : zerosOf P T = some [.pointer none, .slice none 0 0]) (k : ∀ b, KH (.raw (ptr b 0)) ((true, .usr (ptr b 0) (Bld.mk b T E [])) :: H)) : OpH P C N ⟨d, .alloc T, ty, ps, af, g⟩ σ H KH :=
  .ofX fun ρ I L hs => .alloc hz fun b => ⟨.raw (ptr b 0), .usr (ptr b 0) (Bld.mk b T E []), _, rfl, rfl, ⟨rfl, _, _, .inl rfl, .inl ⟨rfl, rfl, rfl⟩⟩, k b⟩
theorem wpB.bld {x : Bld} (x' : Option Bld) (σ0 : AEnv) (hI : ∀ b o, C.I0 b = some o → b < C.w0.heap.size) (hc : BldFun P f qs x r x') (hv : EvAs C σ [(true, .usr (ptr x.b 0) x)] args.toList qs) (hs0 : SubA σ0 σ) (hf : FlatE σ0)
    (k : wpB P C N ops Q rest ((d, r) :: σ0) (bldH x')) : wpB P C N ops Q (⟨some d, .call ⟨.value (.func f), args, tys⟩, ty, ps, af, none⟩ :: rest) σ [(true, .usr (ptr x.b 0) x)] := fun ρ I L hs => by
  refine .s fun a w ha hst => ?_
  obtain ⟨vs, h1, h2⟩ := hv.get hs
  rw [run_callOp hc.ok rfl (ha.ev (show ev ρ (.func f) = some _ from rfl)) (ha.evL h1)]
  obtain ⟨X, R, rfl, hX, hR⟩ := hs.heap
  have hR : R = [] := hR
  subst hR
  have hnd : (X.map Prod.fst).Nodup := by have := hst.mem.nodup; simpa using this
  have hB := Bld.is (w := w) (B := C.w0.heap.size) hX.1 hnd fun p hp => ⟨hst.mem.loc p (by simpa using hp), hX.2 rfl p hp⟩
  refine (hc.run I vs C.w0.heap.size w h2 hB hst.chg.size).mono ?_
  rintro e w' ⟨v, rfl, hr, hb, hx'⟩
  have him : ∀ b o, C.I0 b = some o → w'.heap[b]? = some o := fun b o ho => (hb.block b (hI b o ho)).trans (hst.mem.im b o (hs.im0 b o ho))
  have hchg : Chg C.M C.w0 w' := ⟨hb.os.trans hst.chg.os, hb.tape.trans hst.chg.tape, hb.output.trans hst.chg.output, Nat.le_trans hst.chg.size hb.size, fun i hi hm => (hb.block i hi).trans (hst.chg.block i hi hm)⟩
  have henv : ∀ H' L', repH C.w0.heap.size C.I0 H' L' → RSt C C.I0 L' ((d, r) :: σ0) H' ((d, v) :: ρ) := fun H' L' hH' => by
    refine ⟨fun t b ht => ?_, hH', Le.refl _⟩
    rw [lookA_cons] at ht
    rw [Fl.look_cons]
    by_cases e : d = t
    · rw [if_pos e] at ht ⊢; cases ht; exact ⟨v, rfl, hr _⟩
    · rw [if_neg e] at ht ⊢
      obtain ⟨u, q1, q2⟩ := hs.env t b (hs0 t b ht)
      exact ⟨u, q1, hf.look ht _ _ _ q2⟩
  have hno : ∀ b, C.w0.heap.size ≤ b → C.I0 b = none := fun b hb => by
    cases ho : C.I0 b with
    | none => rfl
    | some o => have := hI b o ho; omega
  refine ⟨v, rfl, C.I0, ?_⟩
  cases x' with
  | none => exact ⟨[], ⟨⟨him, by simp, by simp, by simp⟩, hchg, by simp, Le.refl _, fun b h0 h1 => absurd h0 h1⟩, k _ _ _ (henv _ _ rfl)⟩
  | some y =>
    obtain ⟨Y, hY, hn, hp⟩ := Bld.of hx' C.I0
    refine ⟨[Y], ⟨⟨him, fun p hq => (hp p (by simpa using hq)).1, fun p hq => hno _ (hp p (by simpa using hq)).2, by simpa using hn⟩, hchg, fun p hq => .inl (hp p (by simpa using hq)).2, Le.refl _, fun b h0 h1 => absurd h0 h1⟩, k _ _ _ (henv _ _ ⟨Y, [], rfl, ⟨hY, fun _ p hq => (hp p hq).2⟩, rfl⟩)⟩
theorem FunA.introOld {G : Gl} {fn : Func} {c : Code} {qs : List AV} {post : AV → Prop} (hf : P.funcs[f]? = some fn) (hb : fn.body = some c) (hn : (fn.name == "runtime.NumGoroutine") = false)
    (N : Nat) (hN : fn.ntmps = N) (hl : Nat.ble qs.length N = true)
    (h : ∀ C : Ctx, Ctx.Ok C → G.p C.I0 → (∀ b o, C.I0 b = some o → b < C.w0.heap.size) → wpA P C N c (endA P fn C (fun r _ => post r)) (oldA C.I0 qs 0) []) : FunA G P f qs post := fun I vs hG hvs =>
  ⟨⟨fn, hf, hn, by simp [hb]⟩, fun w hm => calls_body hf hb N hN (by rw [hvs.len]; exact hl) hm (M := []) (by simp)
    ((h ⟨w, [], I, none⟩ (fun k hk => by cases hk) hG (fun b o hbo => lt_of_get (hm.im b o hbo)) (argEnv vs 0) I [] ⟨by
      have hvo : RepVs I (qs.map (AV.old I)) vs := by
        clear h hl hm
        induction qs generalizing vs with
        | nil => exact hvs
        | cons a qs ih =>
          obtain ⟨v, r, rfl, h1, h2⟩ := hvs
          exact ⟨v, r, rfl, h1, ih r h2⟩
      rw [oldA_eq]
      exact hvo.env 0, rfl, Le.refl I⟩).mono fun e ρ J L hq => endA.q hq)
    fun v J L' w' hs hp => by
      obtain ⟨r, H, h1, h2, h3⟩ := hp
      exact ⟨v, J, rfl, hs.chg, hs.im0, fun b h0 h1 => hs.new b h0 h1, hs.mem.drop, r, h1, h3⟩⟩
end
section
variable {P : Program} {ρ : Ren} (X : Builder.Extra P ρ)
include X
theorem bldStr (L : Lays.n166 P ρ) (hok : CallOk P (ρ.f 166)) (b : Nat) (l : List UInt8) (s : Str) (h : l.length + s.l.length ≤ 140737488355328) : BldFun P (ρ.f 166) [.raw (ptr b 0), .v s] ⟨b, ρ.t 72, ρ.t 5, l⟩ .any (some ⟨b, ρ.t 72, ρ.t 5, l ++ s.l⟩) where
  ok := hok
  run I vs B w hv hB hw := by
    obtain ⟨v1, _, rfl, rfl, v2, _, rfl, h2, rfl⟩ := hv
    obtain ⟨y, rfl, hy, _⟩ := str_rep h2
    have hys : y.size = s.l.length := by rw [← hy]; rfl
    refine (Any.Builder_WriteString L X B b _ y w hB (by rw [Lib.byteCells_length, hys]; exact h) hw).mono ?_
    rintro e w' ⟨rfl, h3, h4⟩
    refine ⟨_, rfl, fun _ => trivial, h4, ?_⟩
    rw [Lib.strCells_eq, hy, ← Lib.byteCells_append] at h3
    exact h3
theorem bldByte (L : Lays.n167 P ρ) (hok : CallOk P (ρ.f 167)) (b : Nat) (l : List UInt8) (c : UInt8) (h : l.length + 1 ≤ 140737488355328) : BldFun P (ρ.f 167) [.raw (ptr b 0), .v c] ⟨b, ρ.t 72, ρ.t 5, l⟩ .any (some ⟨b, ρ.t 72, ρ.t 5, l ++ [c]⟩) where
  ok := hok
  run I vs B w hv hB hw := by
    obtain ⟨v1, _, rfl, rfl, v2, _, rfl, h2, rfl⟩ := hv
    obtain ⟨_, rfl, rfl⟩ := h2
    refine (Any.Builder_WriteByte L X B b _ (c.toNat : Int) w hB (by rw [Lib.byteCells_length]; exact h) hw).mono ?_
    rintro e w' ⟨rfl, h3, h4⟩
    refine ⟨_, rfl, fun _ => trivial, h4, ?_⟩
    rw [show ([.int .u8 (c.toNat : Int)] : List Value) = Lib.byteCells [c] from rfl, ← Lib.byteCells_append] at h3
    exact h3
theorem bldText (L : Lays.n169 P ρ) (hok : CallOk P (ρ.f 169)) (b : Nat) (l : List UInt8) (hl : l.length ≤ 9223372036854775807) : BldFun P (ρ.f 169) [.raw (ptr b 0)] ⟨b, ρ.t 72, ρ.t 5, l⟩ (.v (Str.mk l)) none where
  ok := hok
  run I vs B w hv hB hw := by
    obtain ⟨v1, _, rfl, rfl, rfl⟩ := hv
    refine (Any.Builder_String_any L X B b l w hB hw).mono ?_
    rintro e w' ⟨rfl, h4⟩
    exact ⟨_, rfl, fun J => rep_str J l hl, h4, trivial⟩
end
end Go.Ab
set_option maxRecDepth 1000000
set_option linter.unusedVariables false
set_option linter.unusedSimpArgs false
namespace Go.Proofs.YtfkbejimghamkaaGreatDoor
open Go.Fl Go.Ab Go.Mac Go.Sha Go.Shelf Go.Proofs
theorem libStr_c (b : Nat) (l : List UInt8) (s : Str) (h : l.length + s.l.length ≤ 140737488355328) : BldFun Tryz.prog 18 [.raw (ptr b 0), .v s] ⟨b, 61, 5, l⟩ .any (some ⟨b, 61, 5, l ++ s.l⟩) :=
  bldStr layBx lay166 ⟨_, Tryz.func18, by kernel_rfl, rfl⟩ b l s h
theorem libByte_c (b : Nat) (l : List UInt8) (c : UInt8) (h : l.length + 1 ≤ 140737488355328) : BldFun Tryz.prog 19 [.raw (ptr b 0), .v c] ⟨b, 61, 5, l⟩ .any (some ⟨b, 61, 5, l ++ [c]⟩) :=
  bldByte layBx lay167 ⟨_, Tryz.func19, by kernel_rfl, rfl⟩ b l c h
theorem libText_c (b : Nat) (l : List UInt8) (h : l.length ≤ 9223372036854775807) : BldFun Tryz.prog 20 [.raw (ptr b 0)] ⟨b, 61, 5, l⟩ (.v (Str.mk l)) none :=
  bldText layBx lay169 ⟨_, Tryz.func20, by kernel_rfl, rfl⟩ b l h
theorem format_c (l : List Step) (h : ∀ s ∈ l, s.Predicates.length ≤ 4000) (hl : l.length ≤ 10000) : FunA gl Tryz.prog 9 [.v l] (fun r => r = .t2 (.v (formatF l).1) (.v (formatF l).2)) := by
  refine FunA.introOld Tryz.func9 rfl (by kernel_rfl) 28 rfl rfl fun C hC hG hI => ?_
  refine .seq ?_
  refine .region rfl ?_
  refine .p (.assign (.s [] (by decide) (by decide)) (.p (.assign (.i rfl) ?_)))
  refine .nil ?_
  refine .seq ?_
  refine .region rfl ?_
  refine .h (.bldNew 5 (by kernel_rfl) fun b4 => ?_)
  refine .nil ?_
  refine .seq ?_
  refine .seq ?_
  refine .region rfl ?_
  refine .p (.move (.t rfl) (.p (.len Tryz.underlying22 (.old rfl) (.p (.move (.i rfl) ?_)))))
  refine .nil ?_
  refine .block ?_
  refine .loopR (α := Nat) [(4, _), (9, _), (10, _)] (fun j R => (11, .v (j : Int)) :: R) (fun j => [(true, .usr (ptr b4 0) (Bld.mk b4 61 5 (textF (l.take j))))]) (fun j => j ≤ l.length ∧ ∀ i (h : i < l.length), i < j → (lineF l[i]).2 = 0) (fun j => l.length - j) (0) (.cons rfl (.cons rfl (.cons rfl (.nil _)))) ?_ (.cons rfl (.cons rfl (.cons rfl (.cons rfl (.nil _))))) (rfl) fun j hF => ?_
  · simp
  obtain ⟨h1, h2⟩ := hF
  refine .seq ?_
  refine .region rfl ?_
  refine .p (.lss (.t rfl) (.t rfl) ?_)
  refine .nil ?_
  refine .seq ?_
  refine .condP (.t rfl) (fun hc12 => ?_) (fun hc12 => ?_)
  · refine .skip ?_
    refine .seq ?_
    refine .block ?_
    refine .seq ?_
    have gj : j < l.length := (by omega)
    refine .region rfl ?_
    refine .p (.idx ty30 Tryz.underlying22 (.old rfl) (.t rfl) (by first | omega | (simp; done) | (simp; omega) | (simp at *; omega)) (by first | omega | (simp; done) | (simp; omega) | (simp at *; omega)) (.p (.ldP ty30 (.t rfl) (.h (.alloc ty30 fun b6 => .n (.stW ty30 (.t rfl) (.t rfl) .z ?_))))))
    refine .nil ?_
    refine .seq ?_
    refine .region rfl ?_
    refine .p (.ldW ty30 (.t rfl) .z (.p (.call1 hG (line_c _ (h _ (List.getElem_mem _))) (.cons (.t rfl) .nil) (.p (.move (.t rfl) (.p (.ext2_0 (.t rfl) (.p (.ext2_1 (.t rfl) (.p (.assign (.t rfl) ?_)))))))))))
    refine .p (.assign (.t rfl) ?_)
    simp only [Int.toNat_natCast]
    refine .nil ?_
    refine .seq ?_
    refine .seq ?_
    refine .region rfl ?_
    refine .p (.move (.t rfl) (.p (.neqI (.t rfl) (.i rfl) ?_)))
    refine .nil ?_
    refine .condP (.t rfl) (fun hc21 => ?_) (fun hc21 => ?_)
    · refine .seq ?_
      refine .region rfl ?_
      refine .p (.move (.t rfl) (.p (.assign (.s [] (by decide) (by decide)) (.p (.assign (.t rfl) ?_)))))
      refine .nil ?_
      refine .ret ?_
      refine ⟨_, .r2 rfl (.tmp rfl) (.tmp rfl), ?_⟩
      have gb : (lineF (l[j]'gj)).2 ≠ 0 := (by simpa using hc21)
      rw [formatF_err l j gj h2 gb]
    · refine .skip ?_
      refine .seq ?_
      refine .drop ?_
      have gp : (lineF (l[j]'gj)).2 = 0 := (by simpa using hc21)
      rw [(lineF_ok gp).2.2]
      have gt := line_le (checkS_ok (lineF_ok gp).2.1) (h _ (List.getElem_mem gj))
      have gl := textF_len l h j (by omega) h2
      refine .region rfl ?_
      refine .p (.move (.t rfl) (.bld (some ⟨b4, 61, 5, _⟩) [(9, AV.old C.I0 (.v l)), (10, .v (l.length : Int)), (11, .v (j : Int)), (4, .raw (ptr b4 0))] hI (libStr_c b4 _ (Str.mk (lineT (l[j]'gj))) (by first | omega | (simp; omega))) (.cons (.t rfl) (.cons (.t rfl) .nil)) (.cons rfl (.cons rfl (.cons rfl (.cons rfl (.nil _))))) ⟨.old, .v, .v, .raw, trivial⟩ ?_))
      refine .nil ?_
      refine .region rfl ?_
      refine .bld (some ⟨b4, 61, 5, _⟩) [(9, AV.old C.I0 (.v l)), (10, .v (l.length : Int)), (11, .v (j : Int)), (4, .raw (ptr b4 0))] hI (libByte_c b4 _ 10 (by first | omega | (simp; omega))) (.cons (.t rfl) (.cons (.u8 10 rfl) .nil)) (.cons rfl (.cons rfl (.cons rfl (.cons rfl (.nil _))))) ⟨.old, .v, .v, .raw, trivial⟩ ?_ -- @ script.Format hand
      refine .nil ?_
      refine .region rfl ?_
      refine .p (.add (.t rfl) (.i rfl) (by first | omega | (simp; done) | (simp; omega) | (simp at *; omega)) (by first | omega | (simp; done) | (simp; omega) | (simp at *; omega)) (.p (.move (.t rfl) ?_)))
      refine .nil ?_
      refine ⟨j + 1, .cons rfl (.cons rfl (.cons rfl (.cons rfl (.nil _)))), congrArg (fun z => [(true, Blk.usr (ptr b4 0) (Bld.mk b4 61 5 z))]) (by rw [textF_succ _ _ gj, List.append_assoc]), ?_, by omega⟩
      refine ⟨by omega, fun i hi hij => ?_⟩; rcases Nat.lt_or_ge i j with h | h; exact h2 i hi h; (obtain rfl : i = j := by omega); exact gp
  · refine .exit ?_
    refine .seq ?_
    obtain rfl : j = l.length := (by omega)
    rw [List.take_length]
    have gl := textF_len l h l.length (Nat.le_refl _) h2
    rw [List.take_length] at gl
    refine .region rfl ?_
    refine .bld none [] hI (libText_c b4 _ (by omega)) (.cons (.t rfl) .nil) (.nil _) trivial (.p (.assign (.t rfl) (.p (.assign (.i rfl) ?_)))) -- @ script.Format hand
    refine .nil ?_
    refine .ret ?_
    refine ⟨_, .r2 rfl (.tmp rfl) (.tmp rfl), ?_⟩
    rw [formatF_ok l (fun i hi => h2 i hi hi)]
end Go.Proofs.YtfkbejimghamkaaGreatDoor
set_option maxRecDepth 1000000
set_option linter.unusedVariables false
set_option linter.unusedSimpArgs false
namespace Go.Proofs.YtfkbejimghamkaaGreatDoor
open Go.Fl Go.Ab Go.Mac Go.Sha
end Go.Proofs.YtfkbejimghamkaaGreatDoor
set_option maxRecDepth 1000000
set_option linter.unusedVariables false
set_option linter.unusedSimpArgs false
namespace Go.Proofs.YtfkbejimghamkaaGreatDoor
open Go.Fl Go.Ab Go.Mac Go.Sha
theorem Next_e (w : Value) (d : G_macaroonmade_Deck) (n : Int) (hd : DeckOk d) (h0 : 0 < n) (h1 : n ≤ 4611686018427387904) :
    FunH gl Tryz.prog 28 [dk w, .v n] [.ob w d] (fun r Hs => ∃ v : Int, ∃ d', 0 ≤ v ∧ v < n ∧ DeckOk d' ∧ r = .v v ∧ Hs = [.ob w d']) :=
  (Next_c w d n hd h0 h1).mono fun r Hs ⟨h2, h3⟩ => ⟨_, _, (deckNext_le h0).1, (deckNext_le h0).2, deckNext_ok hd, h2, h3⟩
end Go.Proofs.YtfkbejimghamkaaGreatDoor
set_option maxRecDepth 1000000
set_option linter.unusedVariables false
set_option linter.unusedSimpArgs false
namespace Go.Proofs.YtfkbejimghamkaaGreatDoor
open Go.Fl Go.Ab Go.Mac Go.Sha
theorem deckNew_ok (l : List Int) : DeckOk (⟨l, 0⟩ : G_macaroonmade_Deck) := Int.le_refl 0
theorem Range_e (w : Value) (d : G_macaroonmade_Deck) (lo hi : Int) (hd : DeckOk d) (h : lo ≤ hi) (h0 : -1000000000000000000 ≤ lo) (h1 : hi ≤ 1000000000000000000) :
    FunH gl Tryz.prog 27 [dk w, .v lo, .v hi] [.ob w d] (fun r Hs => ∃ v : Int, ∃ d', lo ≤ v ∧ v ≤ hi ∧ DeckOk d' ∧ r = .v v ∧ Hs = [.ob w d']) := by
  refine FunH.introS Tryz.func27 rfl (by kernel_rfl) 15 rfl rfl _ rfl _ rfl fun C hC hG => ?_
  refine .seq ?_
  refine .region rfl ?_
  refine .p (.assign (.i rfl) ?_)
  refine .nil ?_
  refine .seq ?_
  refine .region rfl ?_
  refine .p (.move (.t rfl) (.p (.move (.t rfl) (.p (.move (.t rfl) (.p (.move (.t rfl) (.p (.sub (.t rfl) (.t rfl) (by first | omega | (simp; done) | (simp; omega) | (simp at *; omega)) (by first | omega | (simp; done) | (simp; omega) | (simp at *; omega)) (.p (.add (.t rfl) (.i rfl) (by first | omega | (simp; done) | (simp; omega) | (simp at *; omega)) (by first | omega | (simp; done) | (simp; omega) | (simp at *; omega)) ?_)))))))))))
  refine .h (.callM hG (Next_e _ _ _ (by assumption) (by first | omega | (simp; done) | (simp; omega) | (simp at *; omega)) (by first | omega | (simp; done) | (simp; omega) | (simp at *; omega))) .z (.cons (.t rfl) (.cons (.t rfl) .nil)) (by rintro _ _ ⟨_, _, _, _, _, _, rfl⟩; exact ⟨_, rfl⟩) fun r13 B13 hr13 => ?_)
  obtain ⟨v13, d13, h013, h113, hd13, rfl, hB⟩ := hr13
  cases hB
  refine .p (.add (.t rfl) (.t rfl) (by first | omega | (simp; done) | (simp; omega) | (simp at *; omega)) (by first | omega | (simp; done) | (simp; omega) | (simp at *; omega)) (.p (.assign (.t rfl) ?_)))
  refine .nil ?_
  refine .ret ?_
  refine ⟨_, .r1 rfl (.tmp rfl), ?_⟩
  refine ⟨_, .cons .z (.nil), ?_⟩
  exact ⟨_, _, by omega, by omega, by assumption, rfl, rfl⟩
end Go.Proofs.YtfkbejimghamkaaGreatDoor
set_option maxRecDepth 1000000
set_option linter.unusedVariables false
set_option linter.unusedSimpArgs false
namespace Go.Proofs.YtfkbejimghamkaaGreatDoor
open Go.Fl Go.Ab Go.Mac Go.Sha
theorem Upto_c (w : Value) (d : G_macaroonmade_Deck) (m : Int) (hd : DeckOk d) (h0 : 0 ≤ m) (h1 : m ≤ 281474976710657) : FunH gl Tryz.prog 84 [dk w, .v m] [.ob w d] (fun r Hs => ∃ x : Int, 0 ≤ x ∧ x ≤ m ∧ ∃ d', DeckOk d' ∧ r = .v x ∧ Hs = [.ob w d']) := by
  have hok1 := deckNext_ok (n := 4) hd
  have hn1 := deckNext_le (d := (deckNext d 4).2) (n := 4) (by decide)
  have hn2 := deckNext_le (d := (deckNext d 4).2) (n := 300) (by decide)
  have hn3 := deckNext_le (d := (deckNext d 4).2) (n := min 3 (m + 1)) (by omega)
  have hn4 := deckNext_le (d := (deckNext d 4).2) (n := m + 1) (by omega)
  refine FunH.intro Tryz.func84 rfl (by kernel_rfl) 32 rfl rfl _ rfl _ rfl fun C hC hG => ?_
  refine .seq ?_
  refine .region rfl ?_
  refine .p (.assign (.i rfl) ?_)
  refine .nil ?_
  refine .seq ?_
  refine .seq ?_
  refine .region rfl ?_
  refine .p (.move (.t rfl) (.h (.callM hG (Next_c _ _ _ (by assumption) (by first | omega | (simp; done) | (simp; omega) | (simp at *; omega)) (by first | omega | (simp; done) | (simp; omega) | (simp at *; omega))) .z (.cons (.t rfl) (.cons (.i rfl) .nil)) (by rintro _ _ ⟨_, rfl⟩; exact ⟨_, rfl⟩) fun r6 B6 hr6 => ?_)))
  obtain ⟨rfl, hB⟩ := hr6
  cases hB
  refine .nil ?_
  refine .block ?_
  refine .seq ?_
  refine .region rfl ?_
  refine .p (.eqlI (.t rfl) (.i rfl) (.p (.assign (.t rfl) ?_)))
  refine .nil ?_
  refine .condP (.t rfl) (fun hc7 => ?_) (fun hc7 => ?_)
  · refine .seq ?_
    refine .region rfl ?_
    refine .p (.move (.t rfl) (.h (.callM hG (Next_c _ _ _ (by assumption) (by first | omega | (simp; done) | (simp; omega) | (simp at *; omega)) (by first | omega | (simp; done) | (simp; omega) | (simp at *; omega))) .z (.cons (.t rfl) (.cons (.i rfl) .nil)) (by rintro _ _ ⟨_, rfl⟩; exact ⟨_, rfl⟩) fun r10 B10 hr10 => ?_)))
    obtain ⟨rfl, hB⟩ := hr10
    cases hB
    refine .p (.move (.t rfl) (.p (.minI (.t rfl) (.t rfl) (.p (.assign (.t rfl) ?_)))))
    refine .nil ?_
    refine .ret ?_
    refine ⟨_, .r1 rfl (.tmp rfl), ?_⟩
    refine ⟨_, ?_, ?_, _, deckNext_ok hok1, rfl, rfl⟩ <;> omega
  · refine .seq ?_
    refine .region rfl ?_
    refine .p (.eqlI (.t rfl) (.i rfl) (.p (.assign (.t rfl) ?_)))
    refine .nil ?_
    refine .condP (.t rfl) (fun hc13 => ?_) (fun hc13 => ?_)
    · refine .seq ?_
      refine .region rfl ?_
      refine .p (.move (.t rfl) (.h (.callM hG (Next_c _ _ _ (by assumption) (by first | omega | (simp; done) | (simp; omega) | (simp at *; omega)) (by first | omega | (simp; done) | (simp; omega) | (simp at *; omega))) .z (.cons (.t rfl) (.cons (.i rfl) .nil)) (by rintro _ _ ⟨_, rfl⟩; exact ⟨_, rfl⟩) fun r16 B16 hr16 => ?_)))
      obtain ⟨rfl, hB⟩ := hr16
      cases hB
      refine .p (.move (.t rfl) (.p (.minI (.t rfl) (.t rfl) (.p (.assign (.t rfl) ?_)))))
      refine .nil ?_
      refine .ret ?_
      refine ⟨_, .r1 rfl (.tmp rfl), ?_⟩
      refine ⟨_, ?_, ?_, _, deckNext_ok hok1, rfl, rfl⟩ <;> omega
    · refine .seq ?_
      refine .region rfl ?_
      refine .p (.eqlI (.t rfl) (.i rfl) (.p (.assign (.t rfl) ?_)))
      refine .nil ?_
      refine .condP (.t rfl) (fun hc19 => ?_) (fun hc19 => ?_)
      · refine .seq ?_
        refine .region rfl ?_
        refine .p (.move (.t rfl) (.p (.move (.t rfl) (.p (.move (.t rfl) (.p (.add (.t rfl) (.i rfl) (by first | omega | (simp; done) | (simp; omega) | (simp at *; omega)) (by first | omega | (simp; done) | (simp; omega) | (simp at *; omega)) (.p (.minI (.i rfl) (.t rfl) (.h (.callM hG (Next_c _ _ _ (by assumption) (by first | omega | (simp; done) | (simp; omega) | (simp at *; omega)) (by first | omega | (simp; done) | (simp; omega) | (simp at *; omega))) .z (.cons (.t rfl) (.cons (.t rfl) .nil)) (by rintro _ _ ⟨_, rfl⟩; exact ⟨_, rfl⟩) fun r26 B26 hr26 => ?_)))))))))))
        obtain ⟨rfl, hB⟩ := hr26
        cases hB
        refine .p (.sub (.t rfl) (.t rfl) (by first | omega | (simp; done) | (simp; omega) | (simp at *; omega)) (by first | omega | (simp; done) | (simp; omega) | (simp at *; omega)) (.p (.assign (.t rfl) ?_)))
        refine .nil ?_
        refine .ret ?_
        refine ⟨_, .r1 rfl (.tmp rfl), ?_⟩
        refine ⟨_, ?_, ?_, _, deckNext_ok hok1, rfl, rfl⟩ <;> omega
      · refine .skip ?_
        refine .seq ?_
        refine .region rfl ?_
        refine .p (.move (.t rfl) (.p (.move (.t rfl) (.p (.add (.t rfl) (.i rfl) (by first | omega | (simp; done) | (simp; omega) | (simp at *; omega)) (by first | omega | (simp; done) | (simp; omega) | (simp at *; omega)) (.h (.callM hG (Next_c _ _ _ (by assumption) (by first | omega | (simp; done) | (simp; omega) | (simp at *; omega)) (by first | omega | (simp; done) | (simp; omega) | (simp at *; omega))) .z (.cons (.t rfl) (.cons (.t rfl) .nil)) (by rintro _ _ ⟨_, rfl⟩; exact ⟨_, rfl⟩) fun r31 B31 hr31 => ?_)))))))
        obtain ⟨rfl, hB⟩ := hr31
        cases hB
        refine .p (.assign (.t rfl) ?_)
        refine .nil ?_
        refine .ret ?_
        refine ⟨_, .r1 rfl (.tmp rfl), ?_⟩
        refine ⟨_, ?_, ?_, _, deckNext_ok hok1, rfl, rfl⟩ <;> omega
end Go.Proofs.YtfkbejimghamkaaGreatDoor
set_option maxRecDepth 1000000
set_option linter.unusedVariables false
set_option linter.unusedSimpArgs false
namespace Go.Proofs.YtfkbejimghamkaaGreatDoor
open Go.Fl Go.Ab Go.Mac Go.Sha
end Go.Proofs.YtfkbejimghamkaaGreatDoor
set_option maxRecDepth 1000000
set_option linter.unusedVariables false
set_option linter.unusedSimpArgs false
namespace Go.Proofs.YtfkbejimghamkaaGreatDoor
open Go.Fl Go.Ab Go.Mac Go.Sha
end Go.Proofs.YtfkbejimghamkaaGreatDoor
set_option maxRecDepth 1000000
set_option linter.unusedVariables false
set_option linter.unusedSimpArgs false
namespace Go.Proofs.YtfkbejimghamkaaGreatDoor
open Go.Fl Go.Ab Go.Mac Go.Sha
theorem and_mask (m M : UInt64) (k : Nat) (hk : k < 64) (hM : M.toNat = 2 ^ k - 1) : (m &&& M) >>> UInt64.ofNat k = 0 := by
  apply UInt64.toNat_inj.1
  rw [UInt64.toNat_shiftRight, UInt64.toNat_and, hM, Nat.and_two_pow_sub_one_eq_mod, Nat.shiftRight_eq_div_pow]
  have e : (UInt64.ofNat k).toNat = k := by simp; omega
  rw [e, Nat.mod_eq_of_lt (show k < 64 by omega)]
  show m.toNat % 2 ^ k / 2 ^ k = 0
  exact Nat.div_eq_of_lt (Nat.mod_lt _ (Nat.two_pow_pos k))
theorem one_shl (n : Nat) (hn : n < 64) : ((1 : UInt64) <<< UInt64.ofNat n).toNat = 2 ^ n := by
  rw [UInt64.toNat_shiftLeft]
  have e : (UInt64.ofNat n).toNat = n := by simp; omega
  rw [e, Nat.mod_eq_of_lt (show n < 64 by omega)]
  show (1 <<< n) % 2 ^ 64 = 2 ^ n
  rw [Nat.one_shiftLeft]
  exact Nat.mod_eq_of_lt (Nat.pow_lt_pow_right (by decide) hn)
theorem ofInt_ofNat {v : Int} (h0 : 0 ≤ v) : UInt64.ofInt v = UInt64.ofNat v.toNat := by
  obtain ⟨n, rfl⟩ := Int.eq_ofNat_of_zero_le h0
  apply UInt64.toNat_inj.1
  simp [UInt64.ofInt]; omega
theorem mask_A {x : UInt64} {b : Int} (hb : b = 64 ∨ b = 32 ∨ b = 7) (h3 : b < 64) (h : ¬ (x &&& ((1 <<< UInt64.ofInt b) - 1)) = 0) : maskOk (x &&& ((1 <<< UInt64.ofInt b) - 1)) b = true := by
  have h2 : (x &&& ((1 <<< UInt64.ofInt b) - 1)) >>> UInt64.ofNat b.toNat = 0 := by
    rcases hb with rfl | rfl | rfl
    · omega
    · exact and_mask x _ 32 (by decide) (by decide)
    · exact and_mask x _ 7 (by decide) (by decide)
  unfold maskOk; rw [h2]; simp [h]
theorem mask_B {x : UInt64} {b : Int} (hb : b = 64 ∨ b = 32 ∨ b = 7) (h3 : ¬ b < 64) (h : ¬ x = 0) : maskOk x b = true := by
  obtain rfl : b = 64 := by omega
  unfold maskOk; simp [h]
theorem mask_C {v b : Int} (hb : b = 64 ∨ b = 32 ∨ b = 7) (h0 : 0 ≤ v) (h1 : v < b) : maskOk (1 <<< UInt64.ofInt v) b = true := by
  have hv : v.toNat < 64 := by omega
  have h2 := one_shl v.toNat hv
  rw [ofInt_ofNat h0]
  have hne : ¬ ((1 : UInt64) <<< UInt64.ofNat v.toNat) = 0 := fun e => by
    rw [e] at h2
    have := Nat.two_pow_pos v.toNat
    simp at h2; omega
  unfold maskOk
  by_cases h64 : b = 64
  · simp [hne, h64]
  · have h3 : ((1 : UInt64) <<< UInt64.ofNat v.toNat) >>> UInt64.ofNat b.toNat = 0 := by
      apply UInt64.toNat_inj.1
      rw [UInt64.toNat_shiftRight, h2, Nat.shiftRight_eq_div_pow]
      have e : (UInt64.ofNat b.toNat).toNat = b.toNat := by simp; omega
      rw [e, Nat.mod_eq_of_lt (show b.toNat < 64 by omega)]
      exact Nat.div_eq_of_lt (Nat.pow_lt_pow_right (by decide) (by omega))
    rw [h3]; simp [hne]
theorem mask_deck_c (w : Value) (d : G_macaroonmade_Deck) (b : Int) (hd : DeckOk d) (hb : b = 64 ∨ b = 32 ∨ b = 7) : FunH gl Tryz.prog 81 [dk w, .v b] [.ob w d] (fun r Hs => ∃ m : UInt64, maskOk m b = true ∧ ∃ d', DeckOk d' ∧ r = .v m ∧ Hs = [.ob w d']) := by
  refine FunH.introS Tryz.func81 rfl (by kernel_rfl) 45 rfl rfl _ rfl _ rfl fun C hC hG => ?_
  refine .seq ?_
  refine .region rfl ?_
  refine .p (.assign (.u64 0 rfl) ?_)
  refine .nil ?_
  refine .seq ?_
  refine .region rfl ?_
  refine .p (.assign (.u64 0 rfl) ?_)
  refine .nil ?_
  refine .seq ?_
  refine .seq ?_
  refine .region rfl ?_
  refine .p (.move (.t rfl) (.h (.callM hG (Next_e _ _ _ (by first | assumption | exact deckNew_ok _) (by first | omega | (simp; done) | (simp; omega) | (simp at *; omega)) (by first | omega | (simp; done) | (simp; omega) | (simp at *; omega))) .z (.cons (.t rfl) (.cons (.i rfl) .nil)) (by rintro _ _ ⟨_, _, _, _, _, _, rfl⟩; exact ⟨_, rfl⟩) fun r7 B7 hr7 => ?_)))
  obtain ⟨v7, d7, h07, h17, hd7, rfl, hB⟩ := hr7
  cases hB
  refine .nil ?_
  refine .block ?_
  refine .seq ?_
  refine .region rfl ?_
  refine .p (.eqlI (.t rfl) (.i rfl) (.p (.assign (.t rfl) ?_)))
  refine .nil ?_
  refine .condP (.t rfl) (fun hc8 => ?_) (fun hc8 => ?_)
  · refine .region rfl ?_
    refine .p (.move (.t rfl) (.h (.callM hG (Next_e _ _ _ (by first | assumption | exact deckNew_ok _) (by first | omega | (simp; done) | (simp; omega) | (simp at *; omega)) (by first | omega | (simp; done) | (simp; omega) | (simp at *; omega))) .z (.cons (.t rfl) (.cons (.i rfl) .nil)) (by rintro _ _ ⟨_, _, _, _, _, _, rfl⟩; exact ⟨_, rfl⟩) fun r11 B11 hr11 => ?_)))
    obtain ⟨v11, d11, h011, h111, hd11, rfl, hB⟩ := hr11
    cases hB
    refine .p (.conv64 Tryz.underlying3 Tryz.underlying37 (.t rfl) (.p (.assign (.t rfl) ?_)))
    refine .nil ?_
    refine .seq ?_
    refine .seq ?_
    refine .region rfl ?_
    refine .p (.move (.t rfl) (.p (.lss (.t rfl) (.i rfl) ?_)))
    refine .nil ?_
    refine .condP (.t rfl) (fun hc30 => ?_) (fun hc30 => ?_)
    · have hbn : (UInt64.ofInt b).toNat < 64 := by rcases hb with rfl | rfl | rfl; omega; decide; decide
      refine .region rfl ?_
      refine .p (.move (.t rfl) (.p (.move (.t rfl) (.p (.conv64 Tryz.underlying3 Tryz.underlying122 (.t rfl) (.p (.shl64 (.u64 1 rfl) (.t rfl) (by first | omega | (simp; done) | (simp; omega) | (simp at *; omega)) (by first | omega | (simp; done) | (simp; omega) | (simp at *; omega)) (.p (.sub64 (.t rfl) (.u64 1 rfl) (.p (.and64 (.t rfl) (.t rfl) ?_)))))))))))
      refine .p (.assign (.t rfl) ?_)
      refine .nil ?_
      refine .seq ?_
      refine .seq ?_
      refine .region rfl ?_
      refine .p (.move (.t rfl) (.p (.eql64 (.t rfl) (.u64 0 rfl) ?_)))
      refine .nil ?_
      refine .condP (.t rfl) (fun hc38 => ?_) (fun hc38 => ?_)
      · refine .seq ?_
        refine .region rfl ?_
        refine .p (.move (.t rfl) (.p (.move (.t rfl) (.h (.callM hG (Next_e _ _ _ (by first | assumption | exact deckNew_ok _) (by first | omega | (simp; done) | (simp; omega) | (simp at *; omega)) (by first | omega | (simp; done) | (simp; omega) | (simp at *; omega))) .z (.cons (.t rfl) (.cons (.t rfl) .nil)) (by rintro _ _ ⟨_, _, _, _, _, _, rfl⟩; exact ⟨_, rfl⟩) fun r41 B41 hr41 => ?_)))))
        obtain ⟨v41, d41, h041, h141, hd41, rfl, hB⟩ := hr41
        cases hB
        have hvn : (UInt64.ofInt v41).toNat < 64 := by rw [ofInt_ofNat h041]; simp; omega
        refine .p (.conv64 Tryz.underlying3 Tryz.underlying122 (.t rfl) (.p (.shl64 (.u64 1 rfl) (.t rfl) (by first | omega | (simp; done) | (simp; omega) | (simp at *; omega)) (by first | omega | (simp; done) | (simp; omega) | (simp at *; omega)) (.p (.assign (.t rfl) ?_)))))
        refine .nil ?_
        refine .ret ?_
        refine ⟨_, .r1 rfl (.tmp rfl), ?_⟩
        refine ⟨_, .cons .z (.nil), ?_⟩
        first | exact ⟨_, mask_A hb (by assumption) (by assumption), _, by assumption, rfl, rfl⟩ | exact ⟨_, mask_B hb (by assumption) (by assumption), _, by assumption, rfl, rfl⟩ | exact ⟨_, mask_C hb (by assumption) (by assumption), _, by assumption, rfl, rfl⟩
      · refine .skip ?_
        refine .seq ?_
        refine .region rfl ?_
        refine .p (.move (.t rfl) (.p (.assign (.t rfl) ?_)))
        refine .nil ?_
        refine .ret ?_
        refine ⟨_, .r1 rfl (.tmp rfl), ?_⟩
        refine ⟨_, .cons .z (.nil), ?_⟩
        first | exact ⟨_, mask_A hb (by assumption) (by assumption), _, by assumption, rfl, rfl⟩ | exact ⟨_, mask_B hb (by assumption) (by assumption), _, by assumption, rfl, rfl⟩ | exact ⟨_, mask_C hb (by assumption) (by assumption), _, by assumption, rfl, rfl⟩
    · refine .skip ?_
      refine .seq ?_
      refine .seq ?_
      refine .region rfl ?_
      refine .p (.move (.t rfl) (.p (.eql64 (.t rfl) (.u64 0 rfl) ?_)))
      refine .nil ?_
      refine .condP (.t rfl) (fun hc38 => ?_) (fun hc38 => ?_)
      · refine .seq ?_
        refine .region rfl ?_
        refine .p (.move (.t rfl) (.p (.move (.t rfl) (.h (.callM hG (Next_e _ _ _ (by first | assumption | exact deckNew_ok _) (by first | omega | (simp; done) | (simp; omega) | (simp at *; omega)) (by first | omega | (simp; done) | (simp; omega) | (simp at *; omega))) .z (.cons (.t rfl) (.cons (.t rfl) .nil)) (by rintro _ _ ⟨_, _, _, _, _, _, rfl⟩; exact ⟨_, rfl⟩) fun r41 B41 hr41 => ?_)))))
        obtain ⟨v41, d41, h041, h141, hd41, rfl, hB⟩ := hr41
        cases hB
        have hvn : (UInt64.ofInt v41).toNat < 64 := by rw [ofInt_ofNat h041]; simp; omega
        refine .p (.conv64 Tryz.underlying3 Tryz.underlying122 (.t rfl) (.p (.shl64 (.u64 1 rfl) (.t rfl) (by first | omega | (simp; done) | (simp; omega) | (simp at *; omega)) (by first | omega | (simp; done) | (simp; omega) | (simp at *; omega)) (.p (.assign (.t rfl) ?_)))))
        refine .nil ?_
        refine .ret ?_
        refine ⟨_, .r1 rfl (.tmp rfl), ?_⟩
        refine ⟨_, .cons .z (.nil), ?_⟩
        first | exact ⟨_, mask_A hb (by assumption) (by assumption), _, by assumption, rfl, rfl⟩ | exact ⟨_, mask_B hb (by assumption) (by assumption), _, by assumption, rfl, rfl⟩ | exact ⟨_, mask_C hb (by assumption) (by assumption), _, by assumption, rfl, rfl⟩
      · refine .skip ?_
        refine .seq ?_
        refine .region rfl ?_
        refine .p (.move (.t rfl) (.p (.assign (.t rfl) ?_)))
        refine .nil ?_
        refine .ret ?_
        refine ⟨_, .r1 rfl (.tmp rfl), ?_⟩
        refine ⟨_, .cons .z (.nil), ?_⟩
        first | exact ⟨_, mask_A hb (by assumption) (by assumption), _, by assumption, rfl, rfl⟩ | exact ⟨_, mask_B hb (by assumption) (by assumption), _, by assumption, rfl, rfl⟩ | exact ⟨_, mask_C hb (by assumption) (by assumption), _, by assumption, rfl, rfl⟩
  · refine .seq ?_
    refine .region rfl ?_
    refine .p (.eqlI (.t rfl) (.i rfl) (.p (.assign (.t rfl) ?_)))
    refine .nil ?_
    refine .condP (.t rfl) (fun hc13 => ?_) (fun hc13 => ?_)
    · refine .region rfl ?_
      refine .p (.move (.t rfl) (.h (.callM hG (Next_e _ _ _ (by first | assumption | exact deckNew_ok _) (by first | omega | (simp; done) | (simp; omega) | (simp at *; omega)) (by first | omega | (simp; done) | (simp; omega) | (simp at *; omega))) .z (.cons (.t rfl) (.cons (.i rfl) .nil)) (by rintro _ _ ⟨_, _, _, _, _, _, rfl⟩; exact ⟨_, rfl⟩) fun r16 B16 hr16 => ?_)))
      obtain ⟨v16, d16, h016, h116, hd16, rfl, hB⟩ := hr16
      cases hB
      refine .p (.conv64 Tryz.underlying3 Tryz.underlying37 (.t rfl) (.p (.move (.t rfl) (.h (.callM hG (Next_e _ _ _ (by first | assumption | exact deckNew_ok _) (by first | omega | (simp; done) | (simp; omega) | (simp at *; omega)) (by first | omega | (simp; done) | (simp; omega) | (simp at *; omega))) .z (.cons (.t rfl) (.cons (.i rfl) .nil)) (by rintro _ _ ⟨_, _, _, _, _, _, rfl⟩; exact ⟨_, rfl⟩) fun r19 B19 hr19 => ?_)))))
      obtain ⟨v19, d19, h019, h119, hd19, rfl, hB⟩ := hr19
      cases hB
      refine .p (.conv64 Tryz.underlying3 Tryz.underlying37 (.t rfl) (.p (.shl64 (.t rfl) (.u64 48 rfl) (by first | omega | (simp; done) | (simp; omega) | (simp at *; omega)) (by first | omega | (simp; done) | (simp; omega) | (simp at *; omega)) (.p (.or64 (.t rfl) (.t rfl) (.p (.assign (.t rfl) ?_)))))))
      refine .nil ?_
      refine .seq ?_
      refine .seq ?_
      refine .region rfl ?_
      refine .p (.move (.t rfl) (.p (.lss (.t rfl) (.i rfl) ?_)))
      refine .nil ?_
      refine .condP (.t rfl) (fun hc30 => ?_) (fun hc30 => ?_)
      · have hbn : (UInt64.ofInt b).toNat < 64 := by rcases hb with rfl | rfl | rfl; omega; decide; decide
        refine .region rfl ?_
        refine .p (.move (.t rfl) (.p (.move (.t rfl) (.p (.conv64 Tryz.underlying3 Tryz.underlying122 (.t rfl) (.p (.shl64 (.u64 1 rfl) (.t rfl) (by first | omega | (simp; done) | (simp; omega) | (simp at *; omega)) (by first | omega | (simp; done) | (simp; omega) | (simp at *; omega)) (.p (.sub64 (.t rfl) (.u64 1 rfl) (.p (.and64 (.t rfl) (.t rfl) ?_)))))))))))
        refine .p (.assign (.t rfl) ?_)
        refine .nil ?_
        refine .seq ?_
        refine .seq ?_
        refine .region rfl ?_
        refine .p (.move (.t rfl) (.p (.eql64 (.t rfl) (.u64 0 rfl) ?_)))
        refine .nil ?_
        refine .condP (.t rfl) (fun hc38 => ?_) (fun hc38 => ?_)
        · refine .seq ?_
          refine .region rfl ?_
          refine .p (.move (.t rfl) (.p (.move (.t rfl) (.h (.callM hG (Next_e _ _ _ (by first | assumption | exact deckNew_ok _) (by first | omega | (simp; done) | (simp; omega) | (simp at *; omega)) (by first | omega | (simp; done) | (simp; omega) | (simp at *; omega))) .z (.cons (.t rfl) (.cons (.t rfl) .nil)) (by rintro _ _ ⟨_, _, _, _, _, _, rfl⟩; exact ⟨_, rfl⟩) fun r41 B41 hr41 => ?_)))))
          obtain ⟨v41, d41, h041, h141, hd41, rfl, hB⟩ := hr41
          cases hB
          have hvn : (UInt64.ofInt v41).toNat < 64 := by rw [ofInt_ofNat h041]; simp; omega
          refine .p (.conv64 Tryz.underlying3 Tryz.underlying122 (.t rfl) (.p (.shl64 (.u64 1 rfl) (.t rfl) (by first | omega | (simp; done) | (simp; omega) | (simp at *; omega)) (by first | omega | (simp; done) | (simp; omega) | (simp at *; omega)) (.p (.assign (.t rfl) ?_)))))
          refine .nil ?_
          refine .ret ?_
          refine ⟨_, .r1 rfl (.tmp rfl), ?_⟩
          refine ⟨_, .cons .z (.nil), ?_⟩
          first | exact ⟨_, mask_A hb (by assumption) (by assumption), _, by assumption, rfl, rfl⟩ | exact ⟨_, mask_B hb (by assumption) (by assumption), _, by assumption, rfl, rfl⟩ | exact ⟨_, mask_C hb (by assumption) (by assumption), _, by assumption, rfl, rfl⟩
        · refine .skip ?_
          refine .seq ?_
          refine .region rfl ?_
          refine .p (.move (.t rfl) (.p (.assign (.t rfl) ?_)))
          refine .nil ?_
          refine .ret ?_
          refine ⟨_, .r1 rfl (.tmp rfl), ?_⟩
          refine ⟨_, .cons .z (.nil), ?_⟩
          first | exact ⟨_, mask_A hb (by assumption) (by assumption), _, by assumption, rfl, rfl⟩ | exact ⟨_, mask_B hb (by assumption) (by assumption), _, by assumption, rfl, rfl⟩ | exact ⟨_, mask_C hb (by assumption) (by assumption), _, by assumption, rfl, rfl⟩
      · refine .skip ?_
        refine .seq ?_
        refine .seq ?_
        refine .region rfl ?_
        refine .p (.move (.t rfl) (.p (.eql64 (.t rfl) (.u64 0 rfl) ?_)))
        refine .nil ?_
        refine .condP (.t rfl) (fun hc38 => ?_) (fun hc38 => ?_)
        · refine .seq ?_
          refine .region rfl ?_
          refine .p (.move (.t rfl) (.p (.move (.t rfl) (.h (.callM hG (Next_e _ _ _ (by first | assumption | exact deckNew_ok _) (by first | omega | (simp; done) | (simp; omega) | (simp at *; omega)) (by first | omega | (simp; done) | (simp; omega) | (simp at *; omega))) .z (.cons (.t rfl) (.cons (.t rfl) .nil)) (by rintro _ _ ⟨_, _, _, _, _, _, rfl⟩; exact ⟨_, rfl⟩) fun r41 B41 hr41 => ?_)))))
          obtain ⟨v41, d41, h041, h141, hd41, rfl, hB⟩ := hr41
          cases hB
          have hvn : (UInt64.ofInt v41).toNat < 64 := by rw [ofInt_ofNat h041]; simp; omega
          refine .p (.conv64 Tryz.underlying3 Tryz.underlying122 (.t rfl) (.p (.shl64 (.u64 1 rfl) (.t rfl) (by first | omega | (simp; done) | (simp; omega) | (simp at *; omega)) (by first | omega | (simp; done) | (simp; omega) | (simp at *; omega)) (.p (.assign (.t rfl) ?_)))))
          refine .nil ?_
          refine .ret ?_
          refine ⟨_, .r1 rfl (.tmp rfl), ?_⟩
          refine ⟨_, .cons .z (.nil), ?_⟩
          first | exact ⟨_, mask_A hb (by assumption) (by assumption), _, by assumption, rfl, rfl⟩ | exact ⟨_, mask_B hb (by assumption) (by assumption), _, by assumption, rfl, rfl⟩ | exact ⟨_, mask_C hb (by assumption) (by assumption), _, by assumption, rfl, rfl⟩
        · refine .skip ?_
          refine .seq ?_
          refine .region rfl ?_
          refine .p (.move (.t rfl) (.p (.assign (.t rfl) ?_)))
          refine .nil ?_
          refine .ret ?_
          refine ⟨_, .r1 rfl (.tmp rfl), ?_⟩
          refine ⟨_, .cons .z (.nil), ?_⟩
          first | exact ⟨_, mask_A hb (by assumption) (by assumption), _, by assumption, rfl, rfl⟩ | exact ⟨_, mask_B hb (by assumption) (by assumption), _, by assumption, rfl, rfl⟩ | exact ⟨_, mask_C hb (by assumption) (by assumption), _, by assumption, rfl, rfl⟩
    · refine .seq ?_
      refine .region rfl ?_
      refine .p (.eqlI (.t rfl) (.i rfl) (.p (.assign (.t rfl) ?_)))
      refine .nil ?_
      refine .condP (.t rfl) (fun hc23 => ?_) (fun hc23 => ?_)
      · refine .region rfl ?_
        refine .p (.move (.t rfl) (.h (.callM hG (Next_e _ _ _ (by first | assumption | exact deckNew_ok _) (by first | omega | (simp; done) | (simp; omega) | (simp at *; omega)) (by first | omega | (simp; done) | (simp; omega) | (simp at *; omega))) .z (.cons (.t rfl) (.cons (.i rfl) .nil)) (by rintro _ _ ⟨_, _, _, _, _, _, rfl⟩; exact ⟨_, rfl⟩) fun r26 B26 hr26 => ?_)))
        obtain ⟨v26, d26, h026, h126, hd26, rfl, hB⟩ := hr26
        cases hB
        refine .p (.conv64 Tryz.underlying3 Tryz.underlying37 (.t rfl) (.p (.not64 (.t rfl) (.p (.assign (.t rfl) ?_)))))
        refine .nil ?_
        refine .seq ?_
        refine .seq ?_
        refine .region rfl ?_
        refine .p (.move (.t rfl) (.p (.lss (.t rfl) (.i rfl) ?_)))
        refine .nil ?_
        refine .condP (.t rfl) (fun hc30 => ?_) (fun hc30 => ?_)
        · have hbn : (UInt64.ofInt b).toNat < 64 := by rcases hb with rfl | rfl | rfl; omega; decide; decide
          refine .region rfl ?_
          refine .p (.move (.t rfl) (.p (.move (.t rfl) (.p (.conv64 Tryz.underlying3 Tryz.underlying122 (.t rfl) (.p (.shl64 (.u64 1 rfl) (.t rfl) (by first | omega | (simp; done) | (simp; omega) | (simp at *; omega)) (by first | omega | (simp; done) | (simp; omega) | (simp at *; omega)) (.p (.sub64 (.t rfl) (.u64 1 rfl) (.p (.and64 (.t rfl) (.t rfl) ?_)))))))))))
          refine .p (.assign (.t rfl) ?_)
          refine .nil ?_
          refine .seq ?_
          refine .seq ?_
          refine .region rfl ?_
          refine .p (.move (.t rfl) (.p (.eql64 (.t rfl) (.u64 0 rfl) ?_)))
          refine .nil ?_
          refine .condP (.t rfl) (fun hc38 => ?_) (fun hc38 => ?_)
          · refine .seq ?_
            refine .region rfl ?_
            refine .p (.move (.t rfl) (.p (.move (.t rfl) (.h (.callM hG (Next_e _ _ _ (by first | assumption | exact deckNew_ok _) (by first | omega | (simp; done) | (simp; omega) | (simp at *; omega)) (by first | omega | (simp; done) | (simp; omega) | (simp at *; omega))) .z (.cons (.t rfl) (.cons (.t rfl) .nil)) (by rintro _ _ ⟨_, _, _, _, _, _, rfl⟩; exact ⟨_, rfl⟩) fun r41 B41 hr41 => ?_)))))
            obtain ⟨v41, d41, h041, h141, hd41, rfl, hB⟩ := hr41
            cases hB
            have hvn : (UInt64.ofInt v41).toNat < 64 := by rw [ofInt_ofNat h041]; simp; omega
            refine .p (.conv64 Tryz.underlying3 Tryz.underlying122 (.t rfl) (.p (.shl64 (.u64 1 rfl) (.t rfl) (by first | omega | (simp; done) | (simp; omega) | (simp at *; omega)) (by first | omega | (simp; done) | (simp; omega) | (simp at *; omega)) (.p (.assign (.t rfl) ?_)))))
            refine .nil ?_
            refine .ret ?_
            refine ⟨_, .r1 rfl (.tmp rfl), ?_⟩
            refine ⟨_, .cons .z (.nil), ?_⟩
            first | exact ⟨_, mask_A hb (by assumption) (by assumption), _, by assumption, rfl, rfl⟩ | exact ⟨_, mask_B hb (by assumption) (by assumption), _, by assumption, rfl, rfl⟩ | exact ⟨_, mask_C hb (by assumption) (by assumption), _, by assumption, rfl, rfl⟩
          · refine .skip ?_
            refine .seq ?_
            refine .region rfl ?_
            refine .p (.move (.t rfl) (.p (.assign (.t rfl) ?_)))
            refine .nil ?_
            refine .ret ?_
            refine ⟨_, .r1 rfl (.tmp rfl), ?_⟩
            refine ⟨_, .cons .z (.nil), ?_⟩
            first | exact ⟨_, mask_A hb (by assumption) (by assumption), _, by assumption, rfl, rfl⟩ | exact ⟨_, mask_B hb (by assumption) (by assumption), _, by assumption, rfl, rfl⟩ | exact ⟨_, mask_C hb (by assumption) (by assumption), _, by assumption, rfl, rfl⟩
        · refine .skip ?_
          refine .seq ?_
          refine .seq ?_
          refine .region rfl ?_
          refine .p (.move (.t rfl) (.p (.eql64 (.t rfl) (.u64 0 rfl) ?_)))
          refine .nil ?_
          refine .condP (.t rfl) (fun hc38 => ?_) (fun hc38 => ?_)
          · refine .seq ?_
            refine .region rfl ?_
            refine .p (.move (.t rfl) (.p (.move (.t rfl) (.h (.callM hG (Next_e _ _ _ (by first | assumption | exact deckNew_ok _) (by first | omega | (simp; done) | (simp; omega) | (simp at *; omega)) (by first | omega | (simp; done) | (simp; omega) | (simp at *; omega))) .z (.cons (.t rfl) (.cons (.t rfl) .nil)) (by rintro _ _ ⟨_, _, _, _, _, _, rfl⟩; exact ⟨_, rfl⟩) fun r41 B41 hr41 => ?_)))))
            obtain ⟨v41, d41, h041, h141, hd41, rfl, hB⟩ := hr41
            cases hB
            have hvn : (UInt64.ofInt v41).toNat < 64 := by rw [ofInt_ofNat h041]; simp; omega
            refine .p (.conv64 Tryz.underlying3 Tryz.underlying122 (.t rfl) (.p (.shl64 (.u64 1 rfl) (.t rfl) (by first | omega | (simp; done) | (simp; omega) | (simp at *; omega)) (by first | omega | (simp; done) | (simp; omega) | (simp at *; omega)) (.p (.assign (.t rfl) ?_)))))
            refine .nil ?_
            refine .ret ?_
            refine ⟨_, .r1 rfl (.tmp rfl), ?_⟩
            refine ⟨_, .cons .z (.nil), ?_⟩
            first | exact ⟨_, mask_A hb (by assumption) (by assumption), _, by assumption, rfl, rfl⟩ | exact ⟨_, mask_B hb (by assumption) (by assumption), _, by assumption, rfl, rfl⟩ | exact ⟨_, mask_C hb (by assumption) (by assumption), _, by assumption, rfl, rfl⟩
          · refine .skip ?_
            refine .seq ?_
            refine .region rfl ?_
            refine .p (.move (.t rfl) (.p (.assign (.t rfl) ?_)))
            refine .nil ?_
            refine .ret ?_
            refine ⟨_, .r1 rfl (.tmp rfl), ?_⟩
            refine ⟨_, .cons .z (.nil), ?_⟩
            first | exact ⟨_, mask_A hb (by assumption) (by assumption), _, by assumption, rfl, rfl⟩ | exact ⟨_, mask_B hb (by assumption) (by assumption), _, by assumption, rfl, rfl⟩ | exact ⟨_, mask_C hb (by assumption) (by assumption), _, by assumption, rfl, rfl⟩
      · refine .skip ?_
        refine .seq ?_
        refine .seq ?_
        refine .region rfl ?_
        refine .p (.move (.t rfl) (.p (.lss (.t rfl) (.i rfl) ?_)))
        refine .nil ?_
        refine .condP (.t rfl) (fun hc30 => ?_) (fun hc30 => ?_)
        · have hbn : (UInt64.ofInt b).toNat < 64 := by rcases hb with rfl | rfl | rfl; omega; decide; decide
          refine .region rfl ?_
          refine .p (.move (.t rfl) (.p (.move (.t rfl) (.p (.conv64 Tryz.underlying3 Tryz.underlying122 (.t rfl) (.p (.shl64 (.u64 1 rfl) (.t rfl) (by first | omega | (simp; done) | (simp; omega) | (simp at *; omega)) (by first | omega | (simp; done) | (simp; omega) | (simp at *; omega)) (.p (.sub64 (.t rfl) (.u64 1 rfl) (.p (.and64 (.t rfl) (.t rfl) ?_)))))))))))
          refine .p (.assign (.t rfl) ?_)
          refine .nil ?_
          refine .seq ?_
          refine .seq ?_
          refine .region rfl ?_
          refine .p (.move (.t rfl) (.p (.eql64 (.t rfl) (.u64 0 rfl) ?_)))
          refine .nil ?_
          refine .condP (.t rfl) (fun hc38 => ?_) (fun hc38 => ?_)
          · refine .seq ?_
            refine .region rfl ?_
            refine .p (.move (.t rfl) (.p (.move (.t rfl) (.h (.callM hG (Next_e _ _ _ (by first | assumption | exact deckNew_ok _) (by first | omega | (simp; done) | (simp; omega) | (simp at *; omega)) (by first | omega | (simp; done) | (simp; omega) | (simp at *; omega))) .z (.cons (.t rfl) (.cons (.t rfl) .nil)) (by rintro _ _ ⟨_, _, _, _, _, _, rfl⟩; exact ⟨_, rfl⟩) fun r41 B41 hr41 => ?_)))))
            obtain ⟨v41, d41, h041, h141, hd41, rfl, hB⟩ := hr41
            cases hB
            have hvn : (UInt64.ofInt v41).toNat < 64 := by rw [ofInt_ofNat h041]; simp; omega
            refine .p (.conv64 Tryz.underlying3 Tryz.underlying122 (.t rfl) (.p (.shl64 (.u64 1 rfl) (.t rfl) (by first | omega | (simp; done) | (simp; omega) | (simp at *; omega)) (by first | omega | (simp; done) | (simp; omega) | (simp at *; omega)) (.p (.assign (.t rfl) ?_)))))
            refine .nil ?_
            refine .ret ?_
            refine ⟨_, .r1 rfl (.tmp rfl), ?_⟩
            refine ⟨_, .cons .z (.nil), ?_⟩
            first | exact ⟨_, mask_A hb (by assumption) (by assumption), _, by assumption, rfl, rfl⟩ | exact ⟨_, mask_B hb (by assumption) (by assumption), _, by assumption, rfl, rfl⟩ | exact ⟨_, mask_C hb (by assumption) (by assumption), _, by assumption, rfl, rfl⟩
          · refine .skip ?_
            refine .seq ?_
            refine .region rfl ?_
            refine .p (.move (.t rfl) (.p (.assign (.t rfl) ?_)))
            refine .nil ?_
            refine .ret ?_
            refine ⟨_, .r1 rfl (.tmp rfl), ?_⟩
            refine ⟨_, .cons .z (.nil), ?_⟩
            first | exact ⟨_, mask_A hb (by assumption) (by assumption), _, by assumption, rfl, rfl⟩ | exact ⟨_, mask_B hb (by assumption) (by assumption), _, by assumption, rfl, rfl⟩ | exact ⟨_, mask_C hb (by assumption) (by assumption), _, by assumption, rfl, rfl⟩
        · refine .skip ?_
          refine .seq ?_
          refine .seq ?_
          refine .region rfl ?_
          refine .p (.move (.t rfl) (.p (.eql64 (.t rfl) (.u64 0 rfl) ?_)))
          refine .nil ?_
          refine .condP (.t rfl) (fun hc38 => ?_) (fun hc38 => ?_)
          · refine .seq ?_
            refine .region rfl ?_
            refine .p (.move (.t rfl) (.p (.move (.t rfl) (.h (.callM hG (Next_e _ _ _ (by first | assumption | exact deckNew_ok _) (by first | omega | (simp; done) | (simp; omega) | (simp at *; omega)) (by first | omega | (simp; done) | (simp; omega) | (simp at *; omega))) .z (.cons (.t rfl) (.cons (.t rfl) .nil)) (by rintro _ _ ⟨_, _, _, _, _, _, rfl⟩; exact ⟨_, rfl⟩) fun r41 B41 hr41 => ?_)))))
            obtain ⟨v41, d41, h041, h141, hd41, rfl, hB⟩ := hr41
            cases hB
            have hvn : (UInt64.ofInt v41).toNat < 64 := by rw [ofInt_ofNat h041]; simp; omega
            refine .p (.conv64 Tryz.underlying3 Tryz.underlying122 (.t rfl) (.p (.shl64 (.u64 1 rfl) (.t rfl) (by first | omega | (simp; done) | (simp; omega) | (simp at *; omega)) (by first | omega | (simp; done) | (simp; omega) | (simp at *; omega)) (.p (.assign (.t rfl) ?_)))))
            refine .nil ?_
            refine .ret ?_
            refine ⟨_, .r1 rfl (.tmp rfl), ?_⟩
            refine ⟨_, .cons .z (.nil), ?_⟩
            first | exact ⟨_, mask_A hb (by assumption) (by assumption), _, by assumption, rfl, rfl⟩ | exact ⟨_, mask_B hb (by assumption) (by assumption), _, by assumption, rfl, rfl⟩ | exact ⟨_, mask_C hb (by assumption) (by assumption), _, by assumption, rfl, rfl⟩
          · refine .skip ?_
            refine .seq ?_
            refine .region rfl ?_
            refine .p (.move (.t rfl) (.p (.assign (.t rfl) ?_)))
            refine .nil ?_
            refine .ret ?_
            refine ⟨_, .r1 rfl (.tmp rfl), ?_⟩
            refine ⟨_, .cons .z (.nil), ?_⟩
            first | exact ⟨_, mask_A hb (by assumption) (by assumption), _, by assumption, rfl, rfl⟩ | exact ⟨_, mask_B hb (by assumption) (by assumption), _, by assumption, rfl, rfl⟩ | exact ⟨_, mask_C hb (by assumption) (by assumption), _, by assumption, rfl, rfl⟩
theorem Minute_deck_c (w : Value) (d : G_macaroonmade_Deck) (hd : DeckOk d) : FunH gl Tryz.prog 82 [dk w] [.ob w d] (fun r Hs => ∃ v : Int, 0 ≤ v ∧ v ≤ 67108864 ∧ ∃ d', DeckOk d' ∧ r = .v v ∧ Hs = [.ob w d']) := by
  refine FunH.introS Tryz.func82 rfl (by kernel_rfl) 25 rfl rfl _ rfl _ rfl fun C hC hG => ?_
  refine .seq ?_
  refine .region rfl ?_
  refine .p (.assign (.i rfl) ?_)
  refine .nil ?_
  refine .seq ?_
  refine .seq ?_
  refine .region rfl ?_
  refine .p (.move (.t rfl) (.h (.callM hG (Next_e _ _ _ (by first | assumption | exact deckNew_ok _) (by first | omega | (simp; done) | (simp; omega) | (simp at *; omega)) (by first | omega | (simp; done) | (simp; omega) | (simp at *; omega))) .z (.cons (.t rfl) (.cons (.i rfl) .nil)) (by rintro _ _ ⟨_, _, _, _, _, _, rfl⟩; exact ⟨_, rfl⟩) fun r4 B4 hr4 => ?_)))
  obtain ⟨v4, d4, h04, h14, hd4, rfl, hB⟩ := hr4
  cases hB
  refine .nil ?_
  refine .block ?_
  refine .seq ?_
  refine .region rfl ?_
  refine .p (.eqlI (.t rfl) (.i rfl) (.p (.assign (.t rfl) ?_)))
  refine .nil ?_
  refine .condP (.t rfl) (fun hc5 => ?_) (fun hc5 => ?_)
  · refine .seq ?_
    refine .region rfl ?_
    refine .p (.move (.t rfl) (.h (.callM hG (Next_e _ _ _ (by first | assumption | exact deckNew_ok _) (by first | omega | (simp; done) | (simp; omega) | (simp at *; omega)) (by first | omega | (simp; done) | (simp; omega) | (simp at *; omega))) .z (.cons (.t rfl) (.cons (.i rfl) .nil)) (by rintro _ _ ⟨_, _, _, _, _, _, rfl⟩; exact ⟨_, rfl⟩) fun r8 B8 hr8 => ?_)))
    obtain ⟨v8, d8, h08, h18, hd8, rfl, hB⟩ := hr8
    cases hB
    refine .p (.assign (.t rfl) ?_)
    refine .nil ?_
    refine .ret ?_
    refine ⟨_, .r1 rfl (.tmp rfl), ?_⟩
    refine ⟨_, .cons .z (.nil), ?_⟩
    exact ⟨_, by omega, by omega, _, by assumption, rfl, rfl⟩
  · refine .seq ?_
    refine .region rfl ?_
    refine .p (.eqlI (.t rfl) (.i rfl) (.p (.assign (.t rfl) ?_)))
    refine .nil ?_
    refine .condP (.t rfl) (fun hc9 => ?_) (fun hc9 => ?_)
    · refine .seq ?_
      refine .region rfl ?_
      refine .p (.move (.t rfl) (.h (.callM hG (Next_e _ _ _ (by first | assumption | exact deckNew_ok _) (by first | omega | (simp; done) | (simp; omega) | (simp at *; omega)) (by first | omega | (simp; done) | (simp; omega) | (simp at *; omega))) .z (.cons (.t rfl) (.cons (.i rfl) .nil)) (by rintro _ _ ⟨_, _, _, _, _, _, rfl⟩; exact ⟨_, rfl⟩) fun r12 B12 hr12 => ?_)))
      obtain ⟨v12, d12, h012, h112, hd12, rfl, hB⟩ := hr12
      cases hB
      refine .p (.mul (.t rfl) (.i rfl) (by first | omega | (simp; done) | (simp; omega) | (simp at *; omega)) (by first | omega | (simp; done) | (simp; omega) | (simp at *; omega)) (.p (.move (.t rfl) (.h (.callM hG (Next_e _ _ _ (by first | assumption | exact deckNew_ok _) (by first | omega | (simp; done) | (simp; omega) | (simp at *; omega)) (by first | omega | (simp; done) | (simp; omega) | (simp at *; omega))) .z (.cons (.t rfl) (.cons (.i rfl) .nil)) (by rintro _ _ ⟨_, _, _, _, _, _, rfl⟩; exact ⟨_, rfl⟩) fun r15 B15 hr15 => ?_)))))
      obtain ⟨v15, d15, h015, h115, hd15, rfl, hB⟩ := hr15
      cases hB
      refine .p (.add (.t rfl) (.t rfl) (by first | omega | (simp; done) | (simp; omega) | (simp at *; omega)) (by first | omega | (simp; done) | (simp; omega) | (simp at *; omega)) (.p (.minI (.t rfl) (.i rfl) (.p (.assign (.t rfl) ?_)))))
      refine .nil ?_
      refine .ret ?_
      refine ⟨_, .r1 rfl (.tmp rfl), ?_⟩
      refine ⟨_, .cons .z (.nil), ?_⟩
      exact ⟨_, by omega, by omega, _, by assumption, rfl, rfl⟩
    · refine .seq ?_
      refine .region rfl ?_
      refine .p (.eqlI (.t rfl) (.i rfl) (.p (.assign (.t rfl) ?_)))
      refine .nil ?_
      refine .condP (.t rfl) (fun hc18 => ?_) (fun hc18 => ?_)
      · refine .seq ?_
        refine .region rfl ?_
        refine .p (.move (.t rfl) (.h (.callM hG (Next_e _ _ _ (by first | assumption | exact deckNew_ok _) (by first | omega | (simp; done) | (simp; omega) | (simp at *; omega)) (by first | omega | (simp; done) | (simp; omega) | (simp at *; omega))) .z (.cons (.t rfl) (.cons (.i rfl) .nil)) (by rintro _ _ ⟨_, _, _, _, _, _, rfl⟩; exact ⟨_, rfl⟩) fun r21 B21 hr21 => ?_)))
        obtain ⟨v21, d21, h021, h121, hd21, rfl, hB⟩ := hr21
        cases hB
        refine .p (.sub (.i rfl) (.t rfl) (by first | omega | (simp; done) | (simp; omega) | (simp at *; omega)) (by first | omega | (simp; done) | (simp; omega) | (simp at *; omega)) (.p (.assign (.t rfl) ?_)))
        refine .nil ?_
        refine .ret ?_
        refine ⟨_, .r1 rfl (.tmp rfl), ?_⟩
        refine ⟨_, .cons .z (.nil), ?_⟩
        exact ⟨_, by omega, by omega, _, by assumption, rfl, rfl⟩
      · refine .skip ?_
        refine .seq ?_
        refine .region rfl ?_
        refine .p (.move (.t rfl) (.h (.callM hG (Next_e _ _ _ (by first | assumption | exact deckNew_ok _) (by first | omega | (simp; done) | (simp; omega) | (simp at *; omega)) (by first | omega | (simp; done) | (simp; omega) | (simp at *; omega))) .z (.cons (.t rfl) (.cons (.i rfl) .nil)) (by rintro _ _ ⟨_, _, _, _, _, _, rfl⟩; exact ⟨_, rfl⟩) fun r24 B24 hr24 => ?_)))
        obtain ⟨v24, d24, h024, h124, hd24, rfl, hB⟩ := hr24
        cases hB
        refine .p (.assign (.t rfl) ?_)
        refine .nil ?_
        refine .ret ?_
        refine ⟨_, .r1 rfl (.tmp rfl), ?_⟩
        refine ⟨_, .cons .z (.nil), ?_⟩
        exact ⟨_, by omega, by omega, _, by assumption, rfl, rfl⟩
theorem Name_deck2 (w : Value) (d : G_macaroonmade_Deck) (hd : DeckOk d) : FunH gl Tryz.prog 83 [dk w] [.ob w d] (fun r Hs => ∃ s : Str, isLabel s = true ∧ ∃ d', DeckOk d' ∧ r = .v s ∧ Hs = [.ob w d']) := by
  have hn := deckNext_le (d := d) (n := 8) (by decide)
  refine FunH.intro Tryz.func83 rfl (by kernel_rfl) 8 rfl rfl _ rfl _ rfl fun C hC hG => ?_
  refine .seq ?_
  refine .region rfl ?_
  refine .p (.assign (.s [] (by decide) (by decide)) ?_)
  refine .nil ?_
  refine .seq ?_
  refine .region rfl ?_
  refine .h (.buildSlice (α := Str) ty9 Tryz.underlying36 (.cons (.s [97] (by decide) (by decide)) (.cons (.s [98] (by decide) (by decide)) (.cons (.s [97, 110, 110] (by decide) (by decide)) (.cons (.s [98, 111, 98] (by decide) (by decide)) (.cons (.s [99, 105, 100] (by decide) (by decide)) (.cons (.s [122, 111, 101] (by decide) (by decide)) (.cons (.s [97, 97] (by decide) (by decide)) (.cons (.s [97, 98, 99, 100, 101, 102, 103, 104, 105, 106, 107, 108, 109, 110, 111, 112] (by decide) (by decide)) .nil)))))))) rfl (by decide) fun b3 => .p (.move (.t rfl) (.h (.callM hG (Next_c _ _ _ hd (by first | omega | (simp; done) | (simp; omega) | (simp at *; omega)) (by first | omega | (simp; done) | (simp; omega) | (simp at *; omega))) (.s .z) (.cons (.t rfl) (.cons (.i rfl) .nil)) (by rintro _ _ ⟨_, rfl⟩; exact ⟨_, rfl⟩) fun r5 B5 hr5 => ?_))))
  obtain ⟨rfl, hB⟩ := hr5
  cases hB
  refine .p (.idxOwn ty9 Tryz.underlying36 rfl .z (.t rfl) (by first | omega | (simp; done) | (simp; omega) | (simp at *; omega)) (by first | omega | (simp; done) | (simp; omega) | (simp at *; omega)) (.p (.ldEW ty9 (.t rfl) .z (by first | omega | (simp; done) | (simp; omega) | (simp at *; omega)) (.p (.assign (.t rfl) ?_)))))
  refine .nil ?_
  refine .drop ?_
  refine .ret ?_
  refine ⟨_, .r1 rfl (.tmp rfl), ?_⟩
  refine ⟨_, ?_, _, deckNext_ok hd, rfl, rfl⟩
  refine (show ∀ s ∈ _, isLabel s = true from ?_) _ (List.getElem_mem _)
  decide
theorem pk_mask {k : Int} {m : UInt64} (hk : k = 1 ∨ k = 2 ∨ k = 3) (h : maskOk m (bitsN k) = true) : predOk ⟨k, m, 0, 0, ⟨[]⟩, 0⟩ = true := by
  unfold predOk; rw [if_pos hk]; dsimp only; rw [h]; simp
theorem pk_time {a b : Int} (h0 : 0 ≤ a) (h1 : a ≤ b) (h2 : b ≤ 67108864) : predOk ⟨4, 0, a, b, ⟨[]⟩, 0⟩ = true := by
  unfold predOk; simp [h0, h1, h2]
theorem pk_daily {a b : Int} (h0 : 0 ≤ a) (h1 : a < 1440) (h2 : 0 ≤ b) (h3 : b < 1440) : predOk ⟨5, 0, a, b, ⟨[]⟩, 0⟩ = true := by
  unfold predOk; simp [h0, h1, h2, h3]
theorem pk_name {s : Str} (h : isLabel s = true) : predOk ⟨6, 0, 0, 0, s, 0⟩ = true := by unfold predOk; simp [h]
theorem pk_rides {n : Int} (h0 : 0 ≤ n) (h1 : n ≤ 1000000) : predOk ⟨7, 0, 0, 0, ⟨[]⟩, n⟩ = true := by unfold predOk; simp [h0, h1]
theorem Predicate_deck_c (w : Value) (d : G_macaroonmade_Deck) (rides : Bool) (hd : DeckOk d) : FunH gl Tryz.prog 57 [dk w, .v rides] [.ob w d] (fun r Hs => ∃ p : Pred, predOk p = true ∧ (rides = false → p.Kind ≠ 7) ∧ ∃ d', DeckOk d' ∧ r = .v p ∧ Hs = [.ob w d']) := by
  refine FunH.introS Tryz.func57 rfl (by kernel_rfl) 81 rfl rfl _ rfl _ rfl fun C hC hG => ?_
  refine .seq ?_
  refine .region rfl ?_
  refine .h (.alloc ty39 fun b4 => ?_)
  refine .nil ?_
  refine .seq ?_
  refine .region rfl ?_
  refine .p (.move (.t rfl) (.h (.callM hG (Range_e _ _ _ _ (by first | assumption | exact deckNew_ok _) (by first | omega | (simp; done) | (simp; omega) | (simp at *; omega)) (by first | omega | (simp; done) | (simp; omega) | (simp at *; omega)) (by first | omega | (simp; done) | (simp; omega) | (simp at *; omega))) (.s .z) (.cons (.t rfl) (.cons (.i rfl) (.cons (.i rfl) .nil))) (by rintro _ _ ⟨_, _, _, _, _, _, rfl⟩; exact ⟨_, rfl⟩) fun r9 B9 hr9 => ?_)))
  obtain ⟨v9, d9, h09, h19, hd9, rfl, hB⟩ := hr9
  cases hB
  refine .p (.bS1 G_api_Predicate.l0 rfl ty39 fo39 (fun c0 => (⟨c0, 0, 0, 0, ⟨[]⟩, 0⟩ : G_api_Predicate)) (fun _ => rfl) rfl rfl (.t rfl) (.h (.alloc ty39 fun b5 => .n (.stW ty39 (.t rfl) (.t rfl) .z ?_))))
  refine .nil ?_
  refine .seq ?_
  refine .seq ?_
  refine .region rfl ?_
  refine .p (.fldW G_api_Predicate.l0 fd39_0 rfl (.t rfl) (.p (.ldF (fun x => x.Kind) ty3 (.t rfl) .z (fun _ => rfl) (.p (.eqlI (.t rfl) (.i rfl) (.p (.move (.t rfl) ?_)))))))
  refine .go 14 rfl (.t rfl) (fun hg15 => .move (.t rfl) rfl) ?_
  refine .go 14 rfl (.t rfl) (fun hg16 => .not (.o rfl (beq_iff_eq.2 hg16)) rfl) ?_
  refine .p (.pickAnd (.t rfl) (fun hp => (.o rfl (beq_iff_eq.2 hp))) ?_)
  refine .nil ?_
  refine .cond (.t rfl) (fun hc17 => ?_) (fun hc17 => ?_)
  · refine .region rfl ?_
    refine .p (.fldW G_api_Predicate.l0 fd39_0 rfl (.t rfl) (.n (.stF (fun y x => { x with Kind := y }) ty3 (.t rfl) (.i rfl) .z (fun _ _ => rfl) ?_)))
    refine .nil ?_
    refine .seq ?_
    refine .seq ?_
    refine .region rfl ?_
    refine .p (.fldW G_api_Predicate.l0 fd39_0 rfl (.t rfl) (.p (.ldF (fun x => x.Kind) ty3 (.t rfl) .z (fun _ => rfl) ?_)))
    refine .nil ?_
    refine .block ?_
    refine .seq ?_
    refine .region rfl ?_
    refine .p (.eqlI (.t rfl) (.i rfl) (.p (.assign (.t rfl) ?_)))
    refine .nil ?_
    refine .condP (.t rfl) (fun hc21 => (by exfalso; exact absurd hc21 (show ¬ (4 : Int) = 1 by decide))) (fun hc21 => ?_)
    refine .seq ?_
    refine .region rfl ?_
    refine .p (.eqlI (.t rfl) (.i rfl) (.p (.assign (.t rfl) ?_)))
    refine .nil ?_
    refine .condP (.t rfl) (fun hc26 => (by exfalso; exact absurd hc26 (show ¬ (4 : Int) = 2 by decide))) (fun hc26 => ?_)
    refine .seq ?_
    refine .region rfl ?_
    refine .p (.eqlI (.t rfl) (.i rfl) (.p (.assign (.t rfl) ?_)))
    refine .nil ?_
    refine .condP (.t rfl) (fun hc31 => (by exfalso; exact absurd hc31 (show ¬ (4 : Int) = 3 by decide))) (fun hc31 => ?_)
    refine .seq ?_
    refine .region rfl ?_
    refine .p (.eqlI (.t rfl) (.i rfl) (.p (.assign (.t rfl) ?_)))
    refine .nil ?_
    refine .condP (.t rfl) (fun hc36 => ?_) (fun hc36 => (by exfalso; exact hc36 rfl))
    refine .seq ?_
    refine .region rfl ?_
    refine .p (.move (.t rfl) (.h (.callM hG (Minute_deck_c _ _ (by assumption)) (.s (.s .z)) (.cons (.t rfl) .nil) (by rintro _ _ ⟨_, _, _, _, _, _, rfl⟩; exact ⟨_, rfl⟩) fun r39 B39 hr39 => ?_)))
    obtain ⟨v39, h039, h139, d39, hd39, rfl, hB⟩ := hr39
    cases hB
    refine .p (.move (.t rfl) (.h (.callM hG (Minute_deck_c _ _ (by assumption)) (.s (.s .z)) (.cons (.t rfl) .nil) (by rintro _ _ ⟨_, _, _, _, _, _, rfl⟩; exact ⟨_, rfl⟩) fun r41 B41 hr41 => ?_)))
    obtain ⟨v41, h041, h141, d41, hd41, rfl, hB⟩ := hr41
    cases hB
    refine .p (.assign (.t rfl) (.p (.assign (.t rfl) ?_)))
    refine .nil ?_
    refine .region rfl ?_
    refine .p (.move (.t rfl) (.p (.move (.t rfl) (.p (.minI (.t rfl) (.t rfl) (.p (.move (.t rfl) (.p (.move (.t rfl) (.p (.maxI (.t rfl) (.t rfl) ?_)))))))))))
    refine .p (.fldW G_api_Predicate.l2 fd39_2 rfl (.t rfl) (.n (.stF (fun y x => { x with From := y }) ty3 (.t rfl) (.t rfl) .z (fun _ _ => rfl) (.p (.fldW G_api_Predicate.l3 fd39_3 rfl (.t rfl) (.n (.stF (fun y x => { x with To := y }) ty3 (.t rfl) (.t rfl) .z (fun _ _ => rfl) ?_)))))))
    refine .nil ?_
    refine .seq ?_
    refine .region rfl ?_
    refine .p (.ldW ty39 (.t rfl) .z (.n (.stW ty39 (.t rfl) (.t rfl) (.s .z) ?_)))
    refine .nil ?_
    refine .ret ?_
    refine ⟨_, .r1 rfl (.cell ty39 rfl (.s .z)), ?_⟩
    refine ⟨_, .cons (.s (.s .z)) (.nil), ?_⟩
    first | (exfalso; (try dsimp only at *); omega) | exact ⟨⟨4, 0, min v39 v41, max v39 v41, ⟨[]⟩, 0⟩, pk_time (by omega) (by omega) (by omega), fun _ => (show (4 : Int) ≠ 7 by decide), _, by assumption, rfl, rfl⟩ | (obtain rfl : v9 = 1 := (by assumption); exact ⟨_, pk_mask (Or.inl rfl) (by assumption), fun _ => (show (1 : Int) ≠ 7 by decide), _, by assumption, rfl, rfl⟩) | (obtain rfl : v9 = 2 := (by assumption); exact ⟨_, pk_mask (Or.inr (Or.inl rfl)) (by assumption), fun _ => (show (2 : Int) ≠ 7 by decide), _, by assumption, rfl, rfl⟩) | (obtain rfl : v9 = 3 := (by assumption); exact ⟨_, pk_mask (Or.inr (Or.inr rfl)) (by assumption), fun _ => (show (3 : Int) ≠ 7 by decide), _, by assumption, rfl, rfl⟩) | (obtain rfl : v9 = 4 := (by assumption); exact ⟨⟨4, 0, min v39 v41, max v39 v41, ⟨[]⟩, 0⟩, pk_time (by omega) (by omega) (by omega), fun _ => (show (4 : Int) ≠ 7 by decide), _, by assumption, rfl, rfl⟩) | (obtain rfl : v9 = 5 := (by assumption); exact ⟨⟨5, 0, v53, v55, ⟨[]⟩, 0⟩, pk_daily (by omega) (by omega) (by omega) (by omega), fun _ => (show (5 : Int) ≠ 7 by decide), _, by assumption, rfl, rfl⟩) | (obtain rfl : v9 = 5 := (by assumption); exact ⟨⟨5, 0, v53, (v53 + v64 + 1440 - 1) % 1440, ⟨[]⟩, 0⟩, pk_daily (by omega) (by omega) (by omega) (by omega), fun _ => (show (5 : Int) ≠ 7 by decide), _, by assumption, rfl, rfl⟩) | (obtain rfl : v9 = 6 := (by assumption); exact ⟨_, pk_name (by assumption), fun _ => (show (6 : Int) ≠ 7 by decide), _, by assumption, rfl, rfl⟩) | (obtain rfl : v9 = 7 := (by assumption); exact ⟨⟨7, 0, 0, 0, ⟨[]⟩, v78⟩, pk_rides (by omega) (by omega), fun h => (by subst h; simp at hc17), _, by assumption, rfl, rfl⟩)
  · refine .skip ?_
    refine .seq ?_
    refine .seq ?_
    refine .region rfl ?_
    refine .p (.fldW G_api_Predicate.l0 fd39_0 rfl (.t rfl) (.p (.ldF (fun x => x.Kind) ty3 (.t rfl) .z (fun _ => rfl) ?_)))
    refine .nil ?_
    refine .block ?_
    refine .seq ?_
    refine .region rfl ?_
    refine .p (.eqlI (.t rfl) (.i rfl) (.p (.assign (.t rfl) ?_)))
    refine .nil ?_
    refine .condP (.t rfl) (fun hc21 => ?_) (fun hc21 => ?_)
    · refine .region rfl ?_
      refine .p (.move (.t rfl) (.h (.callM hG (mask_deck_c _ _ _ (by assumption) (by decide)) (.s (.s .z)) (.cons (.t rfl) (.cons (.i rfl) .nil)) (by rintro _ _ ⟨_, _, _, _, _, rfl⟩; exact ⟨_, rfl⟩) fun r24 B24 hr24 => ?_)))
      obtain ⟨m24, hm24, d24, hd24, rfl, hB⟩ := hr24
      cases hB
      refine .p (.fldW G_api_Predicate.l1 fd39_1 rfl (.t rfl) (.n (.stF (fun y x => { x with Mask := y }) ty37 (.t rfl) (.t rfl) .z (fun _ _ => rfl) ?_)))
      refine .nil ?_
      refine .seq ?_
      refine .region rfl ?_
      refine .p (.ldW ty39 (.t rfl) .z (.n (.stW ty39 (.t rfl) (.t rfl) (.s .z) ?_)))
      refine .nil ?_
      refine .ret ?_
      refine ⟨_, .r1 rfl (.cell ty39 rfl (.s .z)), ?_⟩
      refine ⟨_, .cons (.s (.s .z)) (.nil), ?_⟩
      first | (exfalso; (try dsimp only at *); omega) | exact ⟨⟨4, 0, min v39 v41, max v39 v41, ⟨[]⟩, 0⟩, pk_time (by omega) (by omega) (by omega), fun _ => (show (4 : Int) ≠ 7 by decide), _, by assumption, rfl, rfl⟩ | (obtain rfl : v9 = 1 := (by assumption); exact ⟨_, pk_mask (Or.inl rfl) (by assumption), fun _ => (show (1 : Int) ≠ 7 by decide), _, by assumption, rfl, rfl⟩) | (obtain rfl : v9 = 2 := (by assumption); exact ⟨_, pk_mask (Or.inr (Or.inl rfl)) (by assumption), fun _ => (show (2 : Int) ≠ 7 by decide), _, by assumption, rfl, rfl⟩) | (obtain rfl : v9 = 3 := (by assumption); exact ⟨_, pk_mask (Or.inr (Or.inr rfl)) (by assumption), fun _ => (show (3 : Int) ≠ 7 by decide), _, by assumption, rfl, rfl⟩) | (obtain rfl : v9 = 4 := (by assumption); exact ⟨⟨4, 0, min v39 v41, max v39 v41, ⟨[]⟩, 0⟩, pk_time (by omega) (by omega) (by omega), fun _ => (show (4 : Int) ≠ 7 by decide), _, by assumption, rfl, rfl⟩) | (obtain rfl : v9 = 5 := (by assumption); exact ⟨⟨5, 0, v53, v55, ⟨[]⟩, 0⟩, pk_daily (by omega) (by omega) (by omega) (by omega), fun _ => (show (5 : Int) ≠ 7 by decide), _, by assumption, rfl, rfl⟩) | (obtain rfl : v9 = 5 := (by assumption); exact ⟨⟨5, 0, v53, (v53 + v64 + 1440 - 1) % 1440, ⟨[]⟩, 0⟩, pk_daily (by omega) (by omega) (by omega) (by omega), fun _ => (show (5 : Int) ≠ 7 by decide), _, by assumption, rfl, rfl⟩) | (obtain rfl : v9 = 6 := (by assumption); exact ⟨_, pk_name (by assumption), fun _ => (show (6 : Int) ≠ 7 by decide), _, by assumption, rfl, rfl⟩) | (obtain rfl : v9 = 7 := (by assumption); exact ⟨⟨7, 0, 0, 0, ⟨[]⟩, v78⟩, pk_rides (by omega) (by omega), fun h => (by subst h; simp at hc17), _, by assumption, rfl, rfl⟩)
    · refine .seq ?_
      refine .region rfl ?_
      refine .p (.eqlI (.t rfl) (.i rfl) (.p (.assign (.t rfl) ?_)))
      refine .nil ?_
      refine .condP (.t rfl) (fun hc26 => ?_) (fun hc26 => ?_)
      · refine .region rfl ?_
        refine .p (.move (.t rfl) (.h (.callM hG (mask_deck_c _ _ _ (by assumption) (by decide)) (.s (.s .z)) (.cons (.t rfl) (.cons (.i rfl) .nil)) (by rintro _ _ ⟨_, _, _, _, _, rfl⟩; exact ⟨_, rfl⟩) fun r29 B29 hr29 => ?_)))
        obtain ⟨m29, hm29, d29, hd29, rfl, hB⟩ := hr29
        cases hB
        refine .p (.fldW G_api_Predicate.l1 fd39_1 rfl (.t rfl) (.n (.stF (fun y x => { x with Mask := y }) ty37 (.t rfl) (.t rfl) .z (fun _ _ => rfl) ?_)))
        refine .nil ?_
        refine .seq ?_
        refine .region rfl ?_
        refine .p (.ldW ty39 (.t rfl) .z (.n (.stW ty39 (.t rfl) (.t rfl) (.s .z) ?_)))
        refine .nil ?_
        refine .ret ?_
        refine ⟨_, .r1 rfl (.cell ty39 rfl (.s .z)), ?_⟩
        refine ⟨_, .cons (.s (.s .z)) (.nil), ?_⟩
        first | (exfalso; (try dsimp only at *); omega) | exact ⟨⟨4, 0, min v39 v41, max v39 v41, ⟨[]⟩, 0⟩, pk_time (by omega) (by omega) (by omega), fun _ => (show (4 : Int) ≠ 7 by decide), _, by assumption, rfl, rfl⟩ | (obtain rfl : v9 = 1 := (by assumption); exact ⟨_, pk_mask (Or.inl rfl) (by assumption), fun _ => (show (1 : Int) ≠ 7 by decide), _, by assumption, rfl, rfl⟩) | (obtain rfl : v9 = 2 := (by assumption); exact ⟨_, pk_mask (Or.inr (Or.inl rfl)) (by assumption), fun _ => (show (2 : Int) ≠ 7 by decide), _, by assumption, rfl, rfl⟩) | (obtain rfl : v9 = 3 := (by assumption); exact ⟨_, pk_mask (Or.inr (Or.inr rfl)) (by assumption), fun _ => (show (3 : Int) ≠ 7 by decide), _, by assumption, rfl, rfl⟩) | (obtain rfl : v9 = 4 := (by assumption); exact ⟨⟨4, 0, min v39 v41, max v39 v41, ⟨[]⟩, 0⟩, pk_time (by omega) (by omega) (by omega), fun _ => (show (4 : Int) ≠ 7 by decide), _, by assumption, rfl, rfl⟩) | (obtain rfl : v9 = 5 := (by assumption); exact ⟨⟨5, 0, v53, v55, ⟨[]⟩, 0⟩, pk_daily (by omega) (by omega) (by omega) (by omega), fun _ => (show (5 : Int) ≠ 7 by decide), _, by assumption, rfl, rfl⟩) | (obtain rfl : v9 = 5 := (by assumption); exact ⟨⟨5, 0, v53, (v53 + v64 + 1440 - 1) % 1440, ⟨[]⟩, 0⟩, pk_daily (by omega) (by omega) (by omega) (by omega), fun _ => (show (5 : Int) ≠ 7 by decide), _, by assumption, rfl, rfl⟩) | (obtain rfl : v9 = 6 := (by assumption); exact ⟨_, pk_name (by assumption), fun _ => (show (6 : Int) ≠ 7 by decide), _, by assumption, rfl, rfl⟩) | (obtain rfl : v9 = 7 := (by assumption); exact ⟨⟨7, 0, 0, 0, ⟨[]⟩, v78⟩, pk_rides (by omega) (by omega), fun h => (by subst h; simp at hc17), _, by assumption, rfl, rfl⟩)
      · refine .seq ?_
        refine .region rfl ?_
        refine .p (.eqlI (.t rfl) (.i rfl) (.p (.assign (.t rfl) ?_)))
        refine .nil ?_
        refine .condP (.t rfl) (fun hc31 => ?_) (fun hc31 => ?_)
        · refine .region rfl ?_
          refine .p (.move (.t rfl) (.h (.callM hG (mask_deck_c _ _ _ (by assumption) (by decide)) (.s (.s .z)) (.cons (.t rfl) (.cons (.i rfl) .nil)) (by rintro _ _ ⟨_, _, _, _, _, rfl⟩; exact ⟨_, rfl⟩) fun r34 B34 hr34 => ?_)))
          obtain ⟨m34, hm34, d34, hd34, rfl, hB⟩ := hr34
          cases hB
          refine .p (.fldW G_api_Predicate.l1 fd39_1 rfl (.t rfl) (.n (.stF (fun y x => { x with Mask := y }) ty37 (.t rfl) (.t rfl) .z (fun _ _ => rfl) ?_)))
          refine .nil ?_
          refine .seq ?_
          refine .region rfl ?_
          refine .p (.ldW ty39 (.t rfl) .z (.n (.stW ty39 (.t rfl) (.t rfl) (.s .z) ?_)))
          refine .nil ?_
          refine .ret ?_
          refine ⟨_, .r1 rfl (.cell ty39 rfl (.s .z)), ?_⟩
          refine ⟨_, .cons (.s (.s .z)) (.nil), ?_⟩
          first | (exfalso; (try dsimp only at *); omega) | exact ⟨⟨4, 0, min v39 v41, max v39 v41, ⟨[]⟩, 0⟩, pk_time (by omega) (by omega) (by omega), fun _ => (show (4 : Int) ≠ 7 by decide), _, by assumption, rfl, rfl⟩ | (obtain rfl : v9 = 1 := (by assumption); exact ⟨_, pk_mask (Or.inl rfl) (by assumption), fun _ => (show (1 : Int) ≠ 7 by decide), _, by assumption, rfl, rfl⟩) | (obtain rfl : v9 = 2 := (by assumption); exact ⟨_, pk_mask (Or.inr (Or.inl rfl)) (by assumption), fun _ => (show (2 : Int) ≠ 7 by decide), _, by assumption, rfl, rfl⟩) | (obtain rfl : v9 = 3 := (by assumption); exact ⟨_, pk_mask (Or.inr (Or.inr rfl)) (by assumption), fun _ => (show (3 : Int) ≠ 7 by decide), _, by assumption, rfl, rfl⟩) | (obtain rfl : v9 = 4 := (by assumption); exact ⟨⟨4, 0, min v39 v41, max v39 v41, ⟨[]⟩, 0⟩, pk_time (by omega) (by omega) (by omega), fun _ => (show (4 : Int) ≠ 7 by decide), _, by assumption, rfl, rfl⟩) | (obtain rfl : v9 = 5 := (by assumption); exact ⟨⟨5, 0, v53, v55, ⟨[]⟩, 0⟩, pk_daily (by omega) (by omega) (by omega) (by omega), fun _ => (show (5 : Int) ≠ 7 by decide), _, by assumption, rfl, rfl⟩) | (obtain rfl : v9 = 5 := (by assumption); exact ⟨⟨5, 0, v53, (v53 + v64 + 1440 - 1) % 1440, ⟨[]⟩, 0⟩, pk_daily (by omega) (by omega) (by omega) (by omega), fun _ => (show (5 : Int) ≠ 7 by decide), _, by assumption, rfl, rfl⟩) | (obtain rfl : v9 = 6 := (by assumption); exact ⟨_, pk_name (by assumption), fun _ => (show (6 : Int) ≠ 7 by decide), _, by assumption, rfl, rfl⟩) | (obtain rfl : v9 = 7 := (by assumption); exact ⟨⟨7, 0, 0, 0, ⟨[]⟩, v78⟩, pk_rides (by omega) (by omega), fun h => (by subst h; simp at hc17), _, by assumption, rfl, rfl⟩)
        · refine .seq ?_
          refine .region rfl ?_
          refine .p (.eqlI (.t rfl) (.i rfl) (.p (.assign (.t rfl) ?_)))
          refine .nil ?_
          refine .condP (.t rfl) (fun hc36 => ?_) (fun hc36 => ?_)
          · refine .seq ?_
            refine .region rfl ?_
            refine .p (.move (.t rfl) (.h (.callM hG (Minute_deck_c _ _ (by assumption)) (.s (.s .z)) (.cons (.t rfl) .nil) (by rintro _ _ ⟨_, _, _, _, _, _, rfl⟩; exact ⟨_, rfl⟩) fun r39 B39 hr39 => ?_)))
            obtain ⟨v39, h039, h139, d39, hd39, rfl, hB⟩ := hr39
            cases hB
            refine .p (.move (.t rfl) (.h (.callM hG (Minute_deck_c _ _ (by assumption)) (.s (.s .z)) (.cons (.t rfl) .nil) (by rintro _ _ ⟨_, _, _, _, _, _, rfl⟩; exact ⟨_, rfl⟩) fun r41 B41 hr41 => ?_)))
            obtain ⟨v41, h041, h141, d41, hd41, rfl, hB⟩ := hr41
            cases hB
            refine .p (.assign (.t rfl) (.p (.assign (.t rfl) ?_)))
            refine .nil ?_
            refine .region rfl ?_
            refine .p (.move (.t rfl) (.p (.move (.t rfl) (.p (.minI (.t rfl) (.t rfl) (.p (.move (.t rfl) (.p (.move (.t rfl) (.p (.maxI (.t rfl) (.t rfl) ?_)))))))))))
            refine .p (.fldW G_api_Predicate.l2 fd39_2 rfl (.t rfl) (.n (.stF (fun y x => { x with From := y }) ty3 (.t rfl) (.t rfl) .z (fun _ _ => rfl) (.p (.fldW G_api_Predicate.l3 fd39_3 rfl (.t rfl) (.n (.stF (fun y x => { x with To := y }) ty3 (.t rfl) (.t rfl) .z (fun _ _ => rfl) ?_)))))))
            refine .nil ?_
            refine .seq ?_
            refine .region rfl ?_
            refine .p (.ldW ty39 (.t rfl) .z (.n (.stW ty39 (.t rfl) (.t rfl) (.s .z) ?_)))
            refine .nil ?_
            refine .ret ?_
            refine ⟨_, .r1 rfl (.cell ty39 rfl (.s .z)), ?_⟩
            refine ⟨_, .cons (.s (.s .z)) (.nil), ?_⟩
            first | (exfalso; (try dsimp only at *); omega) | exact ⟨⟨4, 0, min v39 v41, max v39 v41, ⟨[]⟩, 0⟩, pk_time (by omega) (by omega) (by omega), fun _ => (show (4 : Int) ≠ 7 by decide), _, by assumption, rfl, rfl⟩ | (obtain rfl : v9 = 1 := (by assumption); exact ⟨_, pk_mask (Or.inl rfl) (by assumption), fun _ => (show (1 : Int) ≠ 7 by decide), _, by assumption, rfl, rfl⟩) | (obtain rfl : v9 = 2 := (by assumption); exact ⟨_, pk_mask (Or.inr (Or.inl rfl)) (by assumption), fun _ => (show (2 : Int) ≠ 7 by decide), _, by assumption, rfl, rfl⟩) | (obtain rfl : v9 = 3 := (by assumption); exact ⟨_, pk_mask (Or.inr (Or.inr rfl)) (by assumption), fun _ => (show (3 : Int) ≠ 7 by decide), _, by assumption, rfl, rfl⟩) | (obtain rfl : v9 = 4 := (by assumption); exact ⟨⟨4, 0, min v39 v41, max v39 v41, ⟨[]⟩, 0⟩, pk_time (by omega) (by omega) (by omega), fun _ => (show (4 : Int) ≠ 7 by decide), _, by assumption, rfl, rfl⟩) | (obtain rfl : v9 = 5 := (by assumption); exact ⟨⟨5, 0, v53, v55, ⟨[]⟩, 0⟩, pk_daily (by omega) (by omega) (by omega) (by omega), fun _ => (show (5 : Int) ≠ 7 by decide), _, by assumption, rfl, rfl⟩) | (obtain rfl : v9 = 5 := (by assumption); exact ⟨⟨5, 0, v53, (v53 + v64 + 1440 - 1) % 1440, ⟨[]⟩, 0⟩, pk_daily (by omega) (by omega) (by omega) (by omega), fun _ => (show (5 : Int) ≠ 7 by decide), _, by assumption, rfl, rfl⟩) | (obtain rfl : v9 = 6 := (by assumption); exact ⟨_, pk_name (by assumption), fun _ => (show (6 : Int) ≠ 7 by decide), _, by assumption, rfl, rfl⟩) | (obtain rfl : v9 = 7 := (by assumption); exact ⟨⟨7, 0, 0, 0, ⟨[]⟩, v78⟩, pk_rides (by omega) (by omega), fun h => (by subst h; simp at hc17), _, by assumption, rfl, rfl⟩)
          · refine .seq ?_
            refine .region rfl ?_
            refine .p (.eqlI (.t rfl) (.i rfl) (.p (.assign (.t rfl) ?_)))
            refine .nil ?_
            refine .condP (.t rfl) (fun hc50 => ?_) (fun hc50 => ?_)
            · refine .seq ?_
              refine .region rfl ?_
              refine .p (.move (.t rfl) (.h (.callM hG (Next_e _ _ _ (by first | assumption | exact deckNew_ok _) (by first | omega | (simp; done) | (simp; omega) | (simp at *; omega)) (by first | omega | (simp; done) | (simp; omega) | (simp at *; omega))) (.s (.s .z)) (.cons (.t rfl) (.cons (.i rfl) .nil)) (by rintro _ _ ⟨_, _, _, _, _, _, rfl⟩; exact ⟨_, rfl⟩) fun r53 B53 hr53 => ?_)))
              obtain ⟨v53, d53, h053, h153, hd53, rfl, hB⟩ := hr53
              cases hB
              refine .p (.move (.t rfl) (.h (.callM hG (Next_e _ _ _ (by first | assumption | exact deckNew_ok _) (by first | omega | (simp; done) | (simp; omega) | (simp at *; omega)) (by first | omega | (simp; done) | (simp; omega) | (simp at *; omega))) (.s (.s .z)) (.cons (.t rfl) (.cons (.i rfl) .nil)) (by rintro _ _ ⟨_, _, _, _, _, _, rfl⟩; exact ⟨_, rfl⟩) fun r55 B55 hr55 => ?_)))
              obtain ⟨v55, d55, h055, h155, hd55, rfl, hB⟩ := hr55
              cases hB
              refine .p (.fldW G_api_Predicate.l2 fd39_2 rfl (.t rfl) (.n (.stF (fun y x => { x with From := y }) ty3 (.t rfl) (.t rfl) .z (fun _ _ => rfl) (.p (.fldW G_api_Predicate.l3 fd39_3 rfl (.t rfl) (.n (.stF (fun y x => { x with To := y }) ty3 (.t rfl) (.t rfl) .z (fun _ _ => rfl) ?_)))))))
              refine .nil ?_
              refine .seq ?_
              refine .region rfl ?_
              refine .p (.move (.t rfl) (.h (.callM hG (Next_e _ _ _ (by first | assumption | exact deckNew_ok _) (by first | omega | (simp; done) | (simp; omega) | (simp at *; omega)) (by first | omega | (simp; done) | (simp; omega) | (simp at *; omega))) (.s (.s .z)) (.cons (.t rfl) (.cons (.i rfl) .nil)) (by rintro _ _ ⟨_, _, _, _, _, _, rfl⟩; exact ⟨_, rfl⟩) fun r59 B59 hr59 => ?_)))
              obtain ⟨v59, d59, h059, h159, hd59, rfl, hB⟩ := hr59
              cases hB
              refine .p (.eqlI (.t rfl) (.i rfl) ?_)
              refine .nil ?_
              refine .condP (.t rfl) (fun hc60 => ?_) (fun hc60 => ?_)
              · refine .drawCF [false, false, true] (by kernel_rfl) 9 [[], [(61, 0)], [], [(63, 2)], [(62, 1), (64, 3)], [(65, 4)], [(66, 5)], [(67, 6)], []] [3, 4, 5, 6, 7] rfl (by kernel_rfl) rfl (by kernel_rfl) (by decide) ?_
                refine ⟨_, fun H => OpP.fldW G_api_Predicate.l2 fd39_2 rfl (.t rfl) rfl, ?_⟩
                refine ⟨_, fun H => OpP.ldF (fun x => x.From) ty3 (.t rfl) (Hole.app .z) (fun _ => rfl) rfl, ?_⟩
                refine ⟨_, fun H => OpP.move (.t rfl) rfl, ?_⟩
                refine .inl ?_
                refine .inl ?_
                refine .inl ?_
                refine .inl ?_
                refine .inl ?_
                refine ⟨_, fun H => OpP.fldW G_api_Predicate.l3 fd39_3 rfl (.t rfl) rfl, ?_⟩
                refine ⟨⟨([], fun k => List.getD [(true, .none_), (true, .none_), _] k (true, .none_)), rfl⟩, ?_⟩
                refine OpH.callM hG (Next_e _ _ _ (by first | assumption | exact deckNew_ok _) (by first | omega | (simp; done) | (simp; omega) | (simp at *; omega)) (by first | omega | (simp; done) | (simp; omega) | (simp at *; omega))) (.s (.s .z)) (.cons (.t rfl) (.cons (.i rfl) .nil)) (by rintro _ _ ⟨_, _, _, _, _, _, rfl⟩; exact ⟨_, rfl⟩) fun r64 B64 hr64 => ?_
                obtain ⟨v64, d64, h064, h164, hd64, rfl, hB⟩ := hr64
                cases hB
                refine ⟨⟨([], fun k => List.getD [(true, .none_), (true, .none_), _] k (true, .none_)), rfl⟩, ?_⟩
                refine OpH.ofP (OpP.add (.t rfl) (.t rfl) (by first | omega | (simp; done) | (simp; omega) | (simp at *; omega)) (by first | omega | (simp; done) | (simp; omega) | (simp at *; omega)) ?_)
                refine ⟨⟨([], fun k => List.getD [(true, .none_), (true, .none_), _] k (true, .none_)), rfl⟩, ?_⟩
                refine OpH.ofP (OpP.add (.t rfl) (.i rfl) (by first | omega | (simp; done) | (simp; omega) | (simp at *; omega)) (by first | omega | (simp; done) | (simp; omega) | (simp at *; omega)) ?_)
                refine ⟨⟨([], fun k => List.getD [(true, .none_), (true, .none_), _] k (true, .none_)), rfl⟩, ?_⟩
                refine OpH.ofP (OpP.sub (.t rfl) (.i rfl) (by first | omega | (simp; done) | (simp; omega) | (simp at *; omega)) (by first | omega | (simp; done) | (simp; omega) | (simp at *; omega)) ?_)
                refine ⟨⟨([], fun k => List.getD [(true, .none_), (true, .none_), _] k (true, .none_)), rfl⟩, ?_⟩
                refine OpH.ofP (OpP.rem (.t rfl) (.i rfl) (by first | omega | (simp; done) | (simp; omega) | (simp at *; omega)) (by first | omega | (simp; done) | (simp; omega) | (simp at *; omega)) ?_)
                refine ⟨⟨([], fun k => List.getD [(true, .none_), (true, .none_), _] k (true, .none_)), rfl⟩, ?_⟩
                show wpB _ _ _ _ _ _ ((69, _) :: (68, _) :: (67, _) :: (66, _) :: (65, _) :: (64, _) :: (63, _) :: (62, _) :: (61, _) :: _) _
                refine .n (.stF (fun y x => { x with To := y }) ty3 (.t rfl) (.t rfl) .z (fun _ _ => rfl) ?_)
                refine .nil ?_
                refine .seq ?_
                refine .region rfl ?_
                refine .p (.ldW ty39 (.t rfl) .z (.n (.stW ty39 (.t rfl) (.t rfl) (.s .z) ?_)))
                refine .nil ?_
                refine .ret ?_
                refine ⟨_, .r1 rfl (.cell ty39 rfl (.s .z)), ?_⟩
                refine ⟨_, .cons (.s (.s .z)) (.nil), ?_⟩
                first | (exfalso; (try dsimp only at *); omega) | exact ⟨⟨4, 0, min v39 v41, max v39 v41, ⟨[]⟩, 0⟩, pk_time (by omega) (by omega) (by omega), fun _ => (show (4 : Int) ≠ 7 by decide), _, by assumption, rfl, rfl⟩ | (obtain rfl : v9 = 1 := (by assumption); exact ⟨_, pk_mask (Or.inl rfl) (by assumption), fun _ => (show (1 : Int) ≠ 7 by decide), _, by assumption, rfl, rfl⟩) | (obtain rfl : v9 = 2 := (by assumption); exact ⟨_, pk_mask (Or.inr (Or.inl rfl)) (by assumption), fun _ => (show (2 : Int) ≠ 7 by decide), _, by assumption, rfl, rfl⟩) | (obtain rfl : v9 = 3 := (by assumption); exact ⟨_, pk_mask (Or.inr (Or.inr rfl)) (by assumption), fun _ => (show (3 : Int) ≠ 7 by decide), _, by assumption, rfl, rfl⟩) | (obtain rfl : v9 = 4 := (by assumption); exact ⟨⟨4, 0, min v39 v41, max v39 v41, ⟨[]⟩, 0⟩, pk_time (by omega) (by omega) (by omega), fun _ => (show (4 : Int) ≠ 7 by decide), _, by assumption, rfl, rfl⟩) | (obtain rfl : v9 = 5 := (by assumption); exact ⟨⟨5, 0, v53, v55, ⟨[]⟩, 0⟩, pk_daily (by omega) (by omega) (by omega) (by omega), fun _ => (show (5 : Int) ≠ 7 by decide), _, by assumption, rfl, rfl⟩) | (obtain rfl : v9 = 5 := (by assumption); exact ⟨⟨5, 0, v53, (v53 + v64 + 1440 - 1) % 1440, ⟨[]⟩, 0⟩, pk_daily (by omega) (by omega) (by omega) (by omega), fun _ => (show (5 : Int) ≠ 7 by decide), _, by assumption, rfl, rfl⟩) | (obtain rfl : v9 = 6 := (by assumption); exact ⟨_, pk_name (by assumption), fun _ => (show (6 : Int) ≠ 7 by decide), _, by assumption, rfl, rfl⟩) | (obtain rfl : v9 = 7 := (by assumption); exact ⟨⟨7, 0, 0, 0, ⟨[]⟩, v78⟩, pk_rides (by omega) (by omega), fun h => (by subst h; simp at hc17), _, by assumption, rfl, rfl⟩)
              · refine .skip ?_
                refine .seq ?_
                refine .region rfl ?_
                refine .p (.ldW ty39 (.t rfl) .z (.n (.stW ty39 (.t rfl) (.t rfl) (.s .z) ?_)))
                refine .nil ?_
                refine .ret ?_
                refine ⟨_, .r1 rfl (.cell ty39 rfl (.s .z)), ?_⟩
                refine ⟨_, .cons (.s (.s .z)) (.nil), ?_⟩
                first | (exfalso; (try dsimp only at *); omega) | exact ⟨⟨4, 0, min v39 v41, max v39 v41, ⟨[]⟩, 0⟩, pk_time (by omega) (by omega) (by omega), fun _ => (show (4 : Int) ≠ 7 by decide), _, by assumption, rfl, rfl⟩ | (obtain rfl : v9 = 1 := (by assumption); exact ⟨_, pk_mask (Or.inl rfl) (by assumption), fun _ => (show (1 : Int) ≠ 7 by decide), _, by assumption, rfl, rfl⟩) | (obtain rfl : v9 = 2 := (by assumption); exact ⟨_, pk_mask (Or.inr (Or.inl rfl)) (by assumption), fun _ => (show (2 : Int) ≠ 7 by decide), _, by assumption, rfl, rfl⟩) | (obtain rfl : v9 = 3 := (by assumption); exact ⟨_, pk_mask (Or.inr (Or.inr rfl)) (by assumption), fun _ => (show (3 : Int) ≠ 7 by decide), _, by assumption, rfl, rfl⟩) | (obtain rfl : v9 = 4 := (by assumption); exact ⟨⟨4, 0, min v39 v41, max v39 v41, ⟨[]⟩, 0⟩, pk_time (by omega) (by omega) (by omega), fun _ => (show (4 : Int) ≠ 7 by decide), _, by assumption, rfl, rfl⟩) | (obtain rfl : v9 = 5 := (by assumption); exact ⟨⟨5, 0, v53, v55, ⟨[]⟩, 0⟩, pk_daily (by omega) (by omega) (by omega) (by omega), fun _ => (show (5 : Int) ≠ 7 by decide), _, by assumption, rfl, rfl⟩) | (obtain rfl : v9 = 5 := (by assumption); exact ⟨⟨5, 0, v53, (v53 + v64 + 1440 - 1) % 1440, ⟨[]⟩, 0⟩, pk_daily (by omega) (by omega) (by omega) (by omega), fun _ => (show (5 : Int) ≠ 7 by decide), _, by assumption, rfl, rfl⟩) | (obtain rfl : v9 = 6 := (by assumption); exact ⟨_, pk_name (by assumption), fun _ => (show (6 : Int) ≠ 7 by decide), _, by assumption, rfl, rfl⟩) | (obtain rfl : v9 = 7 := (by assumption); exact ⟨⟨7, 0, 0, 0, ⟨[]⟩, v78⟩, pk_rides (by omega) (by omega), fun h => (by subst h; simp at hc17), _, by assumption, rfl, rfl⟩)
            · refine .seq ?_
              refine .region rfl ?_
              refine .p (.eqlI (.t rfl) (.i rfl) (.p (.assign (.t rfl) ?_)))
              refine .nil ?_
              refine .condP (.t rfl) (fun hc70 => ?_) (fun hc70 => ?_)
              · refine .region rfl ?_
                refine .p (.move (.t rfl) (.h (.callM hG (Name_deck2 _ _ (by assumption)) (.s (.s .z)) (.cons (.t rfl) .nil) (by rintro _ _ ⟨_, _, _, _, _, rfl⟩; exact ⟨_, rfl⟩) fun r73 B73 hr73 => ?_)))
                obtain ⟨s73, hs73, d73, hd73, rfl, hB⟩ := hr73
                cases hB
                refine .p (.fldW G_api_Predicate.l4 fd39_4 rfl (.t rfl) (.n (.stF (fun y x => { x with Name := y }) ty9 (.t rfl) (.t rfl) .z (fun _ _ => rfl) ?_)))
                refine .nil ?_
                refine .seq ?_
                refine .region rfl ?_
                refine .p (.ldW ty39 (.t rfl) .z (.n (.stW ty39 (.t rfl) (.t rfl) (.s .z) ?_)))
                refine .nil ?_
                refine .ret ?_
                refine ⟨_, .r1 rfl (.cell ty39 rfl (.s .z)), ?_⟩
                refine ⟨_, .cons (.s (.s .z)) (.nil), ?_⟩
                first | (exfalso; (try dsimp only at *); omega) | exact ⟨⟨4, 0, min v39 v41, max v39 v41, ⟨[]⟩, 0⟩, pk_time (by omega) (by omega) (by omega), fun _ => (show (4 : Int) ≠ 7 by decide), _, by assumption, rfl, rfl⟩ | (obtain rfl : v9 = 1 := (by assumption); exact ⟨_, pk_mask (Or.inl rfl) (by assumption), fun _ => (show (1 : Int) ≠ 7 by decide), _, by assumption, rfl, rfl⟩) | (obtain rfl : v9 = 2 := (by assumption); exact ⟨_, pk_mask (Or.inr (Or.inl rfl)) (by assumption), fun _ => (show (2 : Int) ≠ 7 by decide), _, by assumption, rfl, rfl⟩) | (obtain rfl : v9 = 3 := (by assumption); exact ⟨_, pk_mask (Or.inr (Or.inr rfl)) (by assumption), fun _ => (show (3 : Int) ≠ 7 by decide), _, by assumption, rfl, rfl⟩) | (obtain rfl : v9 = 4 := (by assumption); exact ⟨⟨4, 0, min v39 v41, max v39 v41, ⟨[]⟩, 0⟩, pk_time (by omega) (by omega) (by omega), fun _ => (show (4 : Int) ≠ 7 by decide), _, by assumption, rfl, rfl⟩) | (obtain rfl : v9 = 5 := (by assumption); exact ⟨⟨5, 0, v53, v55, ⟨[]⟩, 0⟩, pk_daily (by omega) (by omega) (by omega) (by omega), fun _ => (show (5 : Int) ≠ 7 by decide), _, by assumption, rfl, rfl⟩) | (obtain rfl : v9 = 5 := (by assumption); exact ⟨⟨5, 0, v53, (v53 + v64 + 1440 - 1) % 1440, ⟨[]⟩, 0⟩, pk_daily (by omega) (by omega) (by omega) (by omega), fun _ => (show (5 : Int) ≠ 7 by decide), _, by assumption, rfl, rfl⟩) | (obtain rfl : v9 = 6 := (by assumption); exact ⟨_, pk_name (by assumption), fun _ => (show (6 : Int) ≠ 7 by decide), _, by assumption, rfl, rfl⟩) | (obtain rfl : v9 = 7 := (by assumption); exact ⟨⟨7, 0, 0, 0, ⟨[]⟩, v78⟩, pk_rides (by omega) (by omega), fun h => (by subst h; simp at hc17), _, by assumption, rfl, rfl⟩)
              · refine .seq ?_
                refine .region rfl ?_
                refine .p (.eqlI (.t rfl) (.i rfl) (.p (.assign (.t rfl) ?_)))
                refine .nil ?_
                refine .condP (.t rfl) (fun hc75 => ?_) (fun hc75 => ?_)
                · refine .region rfl ?_
                  refine .p (.move (.t rfl) (.h (.callM hG (Upto_c _ _ _ (by assumption) (by decide) (by decide)) (.s (.s .z)) (.cons (.t rfl) (.cons (.i rfl) .nil)) (by rintro _ _ ⟨_, _, _, _, _, _, rfl⟩; exact ⟨_, rfl⟩) fun r78 B78 hr78 => ?_)))
                  obtain ⟨v78, h078, h178, d78, hd78, rfl, hB⟩ := hr78
                  cases hB
                  refine .p (.fldW G_api_Predicate.l5 fd39_5 rfl (.t rfl) (.n (.stF (fun y x => { x with Number := y }) ty3 (.t rfl) (.t rfl) .z (fun _ _ => rfl) ?_)))
                  refine .nil ?_
                  refine .seq ?_
                  refine .region rfl ?_
                  refine .p (.ldW ty39 (.t rfl) .z (.n (.stW ty39 (.t rfl) (.t rfl) (.s .z) ?_)))
                  refine .nil ?_
                  refine .ret ?_
                  refine ⟨_, .r1 rfl (.cell ty39 rfl (.s .z)), ?_⟩
                  refine ⟨_, .cons (.s (.s .z)) (.nil), ?_⟩
                  first | (exfalso; (try dsimp only at *); omega) | exact ⟨⟨4, 0, min v39 v41, max v39 v41, ⟨[]⟩, 0⟩, pk_time (by omega) (by omega) (by omega), fun _ => (show (4 : Int) ≠ 7 by decide), _, by assumption, rfl, rfl⟩ | (obtain rfl : v9 = 1 := (by assumption); exact ⟨_, pk_mask (Or.inl rfl) (by assumption), fun _ => (show (1 : Int) ≠ 7 by decide), _, by assumption, rfl, rfl⟩) | (obtain rfl : v9 = 2 := (by assumption); exact ⟨_, pk_mask (Or.inr (Or.inl rfl)) (by assumption), fun _ => (show (2 : Int) ≠ 7 by decide), _, by assumption, rfl, rfl⟩) | (obtain rfl : v9 = 3 := (by assumption); exact ⟨_, pk_mask (Or.inr (Or.inr rfl)) (by assumption), fun _ => (show (3 : Int) ≠ 7 by decide), _, by assumption, rfl, rfl⟩) | (obtain rfl : v9 = 4 := (by assumption); exact ⟨⟨4, 0, min v39 v41, max v39 v41, ⟨[]⟩, 0⟩, pk_time (by omega) (by omega) (by omega), fun _ => (show (4 : Int) ≠ 7 by decide), _, by assumption, rfl, rfl⟩) | (obtain rfl : v9 = 5 := (by assumption); exact ⟨⟨5, 0, v53, v55, ⟨[]⟩, 0⟩, pk_daily (by omega) (by omega) (by omega) (by omega), fun _ => (show (5 : Int) ≠ 7 by decide), _, by assumption, rfl, rfl⟩) | (obtain rfl : v9 = 5 := (by assumption); exact ⟨⟨5, 0, v53, (v53 + v64 + 1440 - 1) % 1440, ⟨[]⟩, 0⟩, pk_daily (by omega) (by omega) (by omega) (by omega), fun _ => (show (5 : Int) ≠ 7 by decide), _, by assumption, rfl, rfl⟩) | (obtain rfl : v9 = 6 := (by assumption); exact ⟨_, pk_name (by assumption), fun _ => (show (6 : Int) ≠ 7 by decide), _, by assumption, rfl, rfl⟩) | (obtain rfl : v9 = 7 := (by assumption); exact ⟨⟨7, 0, 0, 0, ⟨[]⟩, v78⟩, pk_rides (by omega) (by omega), fun h => (by subst h; simp at hc17), _, by assumption, rfl, rfl⟩)
                · refine .skip ?_
                  refine .seq ?_
                  refine .region rfl ?_
                  refine .p (.ldW ty39 (.t rfl) .z (.n (.stW ty39 (.t rfl) (.t rfl) (.s .z) ?_)))
                  refine .nil ?_
                  refine .ret ?_
                  refine ⟨_, .r1 rfl (.cell ty39 rfl (.s .z)), ?_⟩
                  refine ⟨_, .cons (.s (.s .z)) (.nil), ?_⟩
                  first | (exfalso; (try dsimp only at *); omega) | exact ⟨⟨4, 0, min v39 v41, max v39 v41, ⟨[]⟩, 0⟩, pk_time (by omega) (by omega) (by omega), fun _ => (show (4 : Int) ≠ 7 by decide), _, by assumption, rfl, rfl⟩ | (obtain rfl : v9 = 1 := (by assumption); exact ⟨_, pk_mask (Or.inl rfl) (by assumption), fun _ => (show (1 : Int) ≠ 7 by decide), _, by assumption, rfl, rfl⟩) | (obtain rfl : v9 = 2 := (by assumption); exact ⟨_, pk_mask (Or.inr (Or.inl rfl)) (by assumption), fun _ => (show (2 : Int) ≠ 7 by decide), _, by assumption, rfl, rfl⟩) | (obtain rfl : v9 = 3 := (by assumption); exact ⟨_, pk_mask (Or.inr (Or.inr rfl)) (by assumption), fun _ => (show (3 : Int) ≠ 7 by decide), _, by assumption, rfl, rfl⟩) | (obtain rfl : v9 = 4 := (by assumption); exact ⟨⟨4, 0, min v39 v41, max v39 v41, ⟨[]⟩, 0⟩, pk_time (by omega) (by omega) (by omega), fun _ => (show (4 : Int) ≠ 7 by decide), _, by assumption, rfl, rfl⟩) | (obtain rfl : v9 = 5 := (by assumption); exact ⟨⟨5, 0, v53, v55, ⟨[]⟩, 0⟩, pk_daily (by omega) (by omega) (by omega) (by omega), fun _ => (show (5 : Int) ≠ 7 by decide), _, by assumption, rfl, rfl⟩) | (obtain rfl : v9 = 5 := (by assumption); exact ⟨⟨5, 0, v53, (v53 + v64 + 1440 - 1) % 1440, ⟨[]⟩, 0⟩, pk_daily (by omega) (by omega) (by omega) (by omega), fun _ => (show (5 : Int) ≠ 7 by decide), _, by assumption, rfl, rfl⟩) | (obtain rfl : v9 = 6 := (by assumption); exact ⟨_, pk_name (by assumption), fun _ => (show (6 : Int) ≠ 7 by decide), _, by assumption, rfl, rfl⟩) | (obtain rfl : v9 = 7 := (by assumption); exact ⟨⟨7, 0, 0, 0, ⟨[]⟩, v78⟩, pk_rides (by omega) (by omega), fun h => (by subst h; simp at hc17), _, by assumption, rfl, rfl⟩)
end Go.Proofs.YtfkbejimghamkaaGreatDoor
set_option maxRecDepth 1000000
set_option linter.unusedVariables false
set_option linter.unusedSimpArgs false
namespace Go.Proofs.YtfkbejimghamkaaGreatDoor
open Go.Fl Go.Ab Go.Mac Go.Sha
theorem wide_mem {l : List Pred} {p : Pred} (h : ∀ q ∈ l, predOk q = true) (hp : predOk p = true) : ∀ q ∈ l ++ [p], predOk q = true := fun q hq => by
  rcases List.mem_append.1 hq with h' | h'
  · exact h q h'
  · rw [List.mem_singleton.1 h']; exact hp
theorem Wide_deck_c (w : Value) (d : G_macaroonmade_Deck) (n : Int) (s : Str) (hd : DeckOk d) (h0 : 0 ≤ n) (h1 : n ≤ 1000) (hs : isLabel s = true) : FunH gl Tryz.prog 30 [dk w, .v n, .v s] [.ob w d] (fun r Hs => ∃ l : List Pred, (l.length : Int) ≤ n ∧ (∀ p ∈ l, predOk p = true) ∧ ∃ d', DeckOk d' ∧ r = .v l ∧ Hs = [.ob w d']) := by
  refine FunH.introD Tryz.func30 rfl (by kernel_rfl) 58 rfl rfl _ rfl _ rfl fun C hC hG => ?_
  refine .seq ?_
  refine .region rfl ?_
  refine .p (.assign (.nilS (α := G_api_Predicate)) ?_)
  refine .nil ?_
  refine .seq ?_
  refine .region rfl ?_
  refine .p (.assign .raw ?_)
  refine .nil ?_
  refine .seq ?_
  refine .seq ?_
  refine .nilOwn 39 Pred ?_
  refine .region rfl ?_
  refine .p (.move (.t rfl) (.p (.move (.t rfl) (.p (.add (.t rfl) (.i rfl) (by first | omega | (simp; done) | (simp; omega) | (simp at *; omega)) (by first | omega | (simp; done) | (simp; omega) | (simp at *; omega)) (.h (.callM hG (Next_e _ _ _ (by first | assumption | exact deckNew_ok _) (by first | omega | (simp; done) | (simp; omega) | (simp at *; omega)) (by first | omega | (simp; done) | (simp; omega) | (simp at *; omega))) (.s .z) (.cons (.t rfl) (.cons (.t rfl) .nil)) (by rintro _ _ ⟨_, _, _, _, _, _, rfl⟩; exact ⟨_, rfl⟩) fun r12 B12 hr12 => ?_)))))))
  obtain ⟨v12, d12, h012, h112, hd12, rfl, hB⟩ := hr12
  cases hB
  refine .p (.assign (.t rfl) ?_)
  refine .nil ?_
  refine .block ?_
  refine .loopR (α := Nat × Value × List Pred × G_macaroonmade_Deck) [(0, _), (2, _)] (fun x R => (7, .raw x.2.1) :: (8, .v (x.1 : Int)) :: R) (fun x => [(true, .own 39 x.2.1 x.2.2.1), (false, .ob w x.2.2.2)]) (fun x => (x.1 : Int) + x.2.2.1.length ≤ n ∧ DeckOk x.2.2.2 ∧ ∀ p ∈ x.2.2.1, predOk p = true) (fun x => x.1) ((v12.toNat, .slice none 0 0, [], d12)) (.cons rfl (.cons rfl (.nil _))) ?_ (.cons rfl (.cons (congrArg (fun q => some (AV.v q)) (by dsimp only; omega)) (.cons rfl (.cons rfl (.nil _))))) (rfl) fun x hF => ?_
  · exact ⟨by dsimp only; simp; omega, by assumption, by simp⟩
  obtain ⟨k, v, b, e⟩ := x
  obtain ⟨h2, h3, h4⟩ := hF
  dsimp only at h2 h3 h4 ⊢
  refine .seq ?_
  refine .seq ?_
  refine .region rfl ?_
  refine .p (.move (.t rfl) (.p (.gtr (.t rfl) (.i rfl) ?_)))
  refine .nil ?_
  refine .condP (.t rfl) (fun hc14 => ?_) (fun hc14 => ?_)
  · refine .skip ?_
    refine .seq ?_
    refine .block ?_
    refine .seq ?_
    refine .region rfl ?_
    refine .p (.move (.t rfl) (.h (.callM hG (Next_e _ _ _ (by first | assumption | exact deckNew_ok _) (by first | omega | (simp; done) | (simp; omega) | (simp at *; omega)) (by first | omega | (simp; done) | (simp; omega) | (simp at *; omega))) (.s .z) (.cons (.t rfl) (.cons (.i rfl) .nil)) (by rintro _ _ ⟨_, _, _, _, _, _, rfl⟩; exact ⟨_, rfl⟩) fun r18 B18 hr18 => ?_)))
    obtain ⟨v18, d18, h018, h118, hd18, rfl, hB⟩ := hr18
    cases hB
    refine .nil ?_
    refine .block ?_
    refine .seq ?_
    refine .region rfl ?_
    refine .p (.eqlI (.t rfl) (.i rfl) (.p (.assign (.t rfl) ?_)))
    refine .nil ?_
    refine .condP (.t rfl) (fun hc19 => ?_) (fun hc19 => ?_)
    · refine .region rfl ?_
      refine .p (.move (.t rfl) (.p (.bS2 G_api_Predicate.l0 G_api_Predicate.l1 rfl ty39 fo39 (fun c0 c1 => (⟨c0, c1, 0, 0, ⟨[]⟩, 0⟩ : G_api_Predicate)) (fun _ _ => rfl) rfl rfl rfl (.i rfl) (.u64 7 rfl) (.h (.buildSlice (α := G_api_Predicate) ty39 Tryz.underlying24 (.cons (.t rfl) .nil) rfl (by decide) fun b23 => .h (.append st24 (.inl ⟨_, Tryz.underlying24⟩) rfl (.s .z) (.own rfl .z) (by first | omega | (simp; done) | (simp; omega) | (simp at *; omega)) (by first | omega | (simp; done) | (simp; omega) | (simp at *; omega)) (fun w24 => .p (.assign (.t rfl) ?_)) rfl))))))
      refine .drop ?_
      refine .nil ?_
      refine .region rfl ?_
      refine .p (.move (.t rfl) (.p (.sub (.t rfl) (.i rfl) (by first | omega | (simp; done) | (simp; omega) | (simp at *; omega)) (by first | omega | (simp; done) | (simp; omega) | (simp at *; omega)) (.p (.assign (.t rfl) ?_)))))
      refine .nil ?_
      refine ⟨(k - 1, _, _, _), .cons rfl (.cons (congrArg (fun q => some (AV.v q)) (by dsimp only; omega)) (.cons rfl (.cons rfl (.nil _)))), rfl, ?_, by dsimp only; omega⟩
      first | (exfalso; omega) | (exfalso; simp_all; done) | (exfalso; simp at *; omega) | exact ⟨by dsimp only; simp; omega, by assumption, wide_mem h4 (by first | assumption | exact pk_name hs | exact pk_time (by omega) (by omega) (by omega) | exact pk_rides (by omega) (by omega) | exact pk_mask (Or.inl rfl) (by decide))⟩
    · refine .seq ?_
      refine .region rfl ?_
      refine .p (.eqlI (.t rfl) (.i rfl) (.p (.assign (.t rfl) ?_)))
      refine .nil ?_
      refine .condP (.t rfl) (fun hc25 => ?_) (fun hc25 => ?_)
      · refine .region rfl ?_
        refine .p (.move (.t rfl) (.p (.move (.t rfl) (.h (.callM hG (Next_e _ _ _ (by first | assumption | exact deckNew_ok _) (by first | omega | (simp; done) | (simp; omega) | (simp at *; omega)) (by first | omega | (simp; done) | (simp; omega) | (simp at *; omega))) (.s .z) (.cons (.t rfl) (.cons (.i rfl) .nil)) (by rintro _ _ ⟨_, _, _, _, _, _, rfl⟩; exact ⟨_, rfl⟩) fun r29 B29 hr29 => ?_)))))
        obtain ⟨v29, d29, h029, h129, hd29, rfl, hB⟩ := hr29
        cases hB
        refine .p (.add (.i rfl) (.t rfl) (by first | omega | (simp; done) | (simp; omega) | (simp at *; omega)) (by first | omega | (simp; done) | (simp; omega) | (simp at *; omega)) (.p (.bS3 G_api_Predicate.l0 G_api_Predicate.l2 G_api_Predicate.l3 rfl ty39 fo39 (fun c0 c2 c3 => (⟨c0, 0, c2, c3, ⟨[]⟩, 0⟩ : G_api_Predicate)) (fun _ _ _ => rfl) rfl rfl rfl rfl (.i rfl) (.i rfl) (.t rfl) (.h (.buildSlice (α := G_api_Predicate) ty39 Tryz.underlying24 (.cons (.t rfl) .nil) rfl (by decide) fun b32 => .h (.append st24 (.inl ⟨_, Tryz.underlying24⟩) rfl (.s .z) (.own rfl .z) (by first | omega | (simp; done) | (simp; omega) | (simp at *; omega)) (by first | omega | (simp; done) | (simp; omega) | (simp at *; omega)) (fun w33 => .p (.assign (.t rfl) ?_)) rfl))))))
        refine .drop ?_
        refine .nil ?_
        refine .region rfl ?_
        refine .p (.move (.t rfl) (.p (.sub (.t rfl) (.i rfl) (by first | omega | (simp; done) | (simp; omega) | (simp at *; omega)) (by first | omega | (simp; done) | (simp; omega) | (simp at *; omega)) (.p (.assign (.t rfl) ?_)))))
        refine .nil ?_
        refine ⟨(k - 1, _, _, _), .cons rfl (.cons (congrArg (fun q => some (AV.v q)) (by dsimp only; omega)) (.cons rfl (.cons rfl (.nil _)))), rfl, ?_, by dsimp only; omega⟩
        first | (exfalso; omega) | (exfalso; simp_all; done) | (exfalso; simp at *; omega) | exact ⟨by dsimp only; simp; omega, by assumption, wide_mem h4 (by first | assumption | exact pk_name hs | exact pk_time (by omega) (by omega) (by omega) | exact pk_rides (by omega) (by omega) | exact pk_mask (Or.inl rfl) (by decide))⟩
      · refine .seq ?_
        refine .region rfl ?_
        refine .p (.eqlI (.t rfl) (.i rfl) (.p (.assign (.t rfl) ?_)))
        refine .nil ?_
        refine .condP (.t rfl) (fun hc34 => ?_) (fun hc34 => ?_)
        · refine .region rfl ?_
          refine .p (.move (.t rfl) (.p (.move (.t rfl) (.p (.bS2 G_api_Predicate.l0 G_api_Predicate.l4 rfl ty39 fo39 (fun c0 c4 => (⟨c0, 0, 0, 0, c4, 0⟩ : G_api_Predicate)) (fun _ _ => rfl) rfl rfl rfl (.i rfl) (.t rfl) (.h (.buildSlice (α := G_api_Predicate) ty39 Tryz.underlying24 (.cons (.t rfl) .nil) rfl (by decide) fun b39 => .h (.append st24 (.inl ⟨_, Tryz.underlying24⟩) rfl (.s .z) (.own rfl .z) (by first | omega | (simp; done) | (simp; omega) | (simp at *; omega)) (by first | omega | (simp; done) | (simp; omega) | (simp at *; omega)) (fun w40 => .p (.assign (.t rfl) ?_)) rfl))))))))
          refine .drop ?_
          refine .nil ?_
          refine .region rfl ?_
          refine .p (.move (.t rfl) (.p (.sub (.t rfl) (.i rfl) (by first | omega | (simp; done) | (simp; omega) | (simp at *; omega)) (by first | omega | (simp; done) | (simp; omega) | (simp at *; omega)) (.p (.assign (.t rfl) ?_)))))
          refine .nil ?_
          refine ⟨(k - 1, _, _, _), .cons rfl (.cons (congrArg (fun q => some (AV.v q)) (by dsimp only; omega)) (.cons rfl (.cons rfl (.nil _)))), rfl, ?_, by dsimp only; omega⟩
          first | (exfalso; omega) | (exfalso; simp_all; done) | (exfalso; simp at *; omega) | exact ⟨by dsimp only; simp; omega, by assumption, wide_mem h4 (by first | assumption | exact pk_name hs | exact pk_time (by omega) (by omega) (by omega) | exact pk_rides (by omega) (by omega) | exact pk_mask (Or.inl rfl) (by decide))⟩
        · refine .seq ?_
          refine .seq ?_
          refine .region rfl ?_
          refine .p (.eqlI (.t rfl) (.i rfl) (.p (.assign (.t rfl) ?_)))
          refine .nil ?_
          refine .cond (.t rfl) (fun hc41 => ?_) (fun hc41 => ?_)
          · refine .skip ?_
            refine .cond (.t rfl) (fun hc41 => ?_) (fun hc41 => ?_)
            · refine .region rfl ?_
              refine .p (.move (.t rfl) (.p (.move (.t rfl) (.h (.callM hG (Next_e _ _ _ (by first | assumption | exact deckNew_ok _) (by first | omega | (simp; done) | (simp; omega) | (simp at *; omega)) (by first | omega | (simp; done) | (simp; omega) | (simp at *; omega))) (.s .z) (.cons (.t rfl) (.cons (.i rfl) .nil)) (by rintro _ _ ⟨_, _, _, _, _, _, rfl⟩; exact ⟨_, rfl⟩) fun r46 B46 hr46 => ?_)))))
              obtain ⟨v46, d46, h046, h146, hd46, rfl, hB⟩ := hr46
              cases hB
              refine .p (.bS2 G_api_Predicate.l0 G_api_Predicate.l5 rfl ty39 fo39 (fun c0 c5 => (⟨c0, 0, 0, 0, ⟨[]⟩, c5⟩ : G_api_Predicate)) (fun _ _ => rfl) rfl rfl rfl (.i rfl) (.t rfl) (.h (.buildSlice (α := G_api_Predicate) ty39 Tryz.underlying24 (.cons (.t rfl) .nil) rfl (by decide) fun b48 => .h (.append st24 (.inl ⟨_, Tryz.underlying24⟩) rfl (.s .z) (.own rfl .z) (by first | omega | (simp; done) | (simp; omega) | (simp at *; omega)) (by first | omega | (simp; done) | (simp; omega) | (simp at *; omega)) (fun w49 => .p (.assign (.t rfl) ?_)) rfl))))
              refine .drop ?_
              refine .nil ?_
              refine .region rfl ?_
              refine .p (.move (.t rfl) (.p (.sub (.t rfl) (.i rfl) (by first | omega | (simp; done) | (simp; omega) | (simp at *; omega)) (by first | omega | (simp; done) | (simp; omega) | (simp at *; omega)) (.p (.assign (.t rfl) ?_)))))
              refine .nil ?_
              refine ⟨(k - 1, _, _, _), .cons rfl (.cons (congrArg (fun q => some (AV.v q)) (by dsimp only; omega)) (.cons rfl (.cons rfl (.nil _)))), rfl, ?_, by dsimp only; omega⟩
              first | (exfalso; omega) | (exfalso; simp_all; done) | (exfalso; simp at *; omega) | exact ⟨by dsimp only; simp; omega, by assumption, wide_mem h4 (by first | assumption | exact pk_name hs | exact pk_time (by omega) (by omega) (by omega) | exact pk_rides (by omega) (by omega) | exact pk_mask (Or.inl rfl) (by decide))⟩
            · refine .seq ?_
              refine .region rfl ?_
              refine .p (.eqlI (.t rfl) (.i rfl) (.p (.assign (.t rfl) ?_)))
              refine .nil ?_
              refine .condP (.t rfl) (fun hc50 => ?_) (fun hc50 => ?_)
              · refine .region rfl ?_
                refine .p (.move (.t rfl) (.p (.move (.t rfl) (.h (.callM hG (Predicate_deck_c _ _ _ (by assumption)) (.s .z) (.cons (.t rfl) (.cons .b .nil)) (by rintro _ _ ⟨_, _, _, _, _, _, rfl⟩; exact ⟨_, rfl⟩) fun r54 B54 hr54 => ?_)))))
                obtain ⟨p54, hp54, hk54, d54, hd54, rfl, hB⟩ := hr54
                cases hB
                refine .h (.buildSlice (α := G_api_Predicate) ty39 Tryz.underlying24 (.cons (.t rfl) .nil) rfl (by decide) fun b55 => .h (.append st24 (.inl ⟨_, Tryz.underlying24⟩) rfl (.s .z) (.own rfl .z) (by first | omega | (simp; done) | (simp; omega) | (simp at *; omega)) (by first | omega | (simp; done) | (simp; omega) | (simp at *; omega)) (fun w56 => .p (.assign (.t rfl) ?_)) rfl))
                refine .drop ?_
                refine .nil ?_
                refine .region rfl ?_
                refine .p (.move (.t rfl) (.p (.sub (.t rfl) (.i rfl) (by first | omega | (simp; done) | (simp; omega) | (simp at *; omega)) (by first | omega | (simp; done) | (simp; omega) | (simp at *; omega)) (.p (.assign (.t rfl) ?_)))))
                refine .nil ?_
                refine ⟨(k - 1, _, _, _), .cons rfl (.cons (congrArg (fun q => some (AV.v q)) (by dsimp only; omega)) (.cons rfl (.cons rfl (.nil _)))), rfl, ?_, by dsimp only; omega⟩
                first | (exfalso; omega) | (exfalso; simp_all; done) | (exfalso; simp at *; omega) | exact ⟨by dsimp only; simp; omega, by assumption, wide_mem h4 (by first | assumption | exact pk_name hs | exact pk_time (by omega) (by omega) (by omega) | exact pk_rides (by omega) (by omega) | exact pk_mask (Or.inl rfl) (by decide))⟩
              · refine .skip ?_
                refine .region rfl ?_
                refine .p (.move (.t rfl) (.p (.sub (.t rfl) (.i rfl) (by first | omega | (simp; done) | (simp; omega) | (simp at *; omega)) (by first | omega | (simp; done) | (simp; omega) | (simp at *; omega)) (.p (.assign (.t rfl) ?_)))))
                refine .nil ?_
                refine ⟨(k - 1, _, _, _), .cons rfl (.cons (congrArg (fun q => some (AV.v q)) (by dsimp only; omega)) (.cons rfl (.cons rfl (.nil _)))), rfl, ?_, by dsimp only; omega⟩
                first | (exfalso; omega) | (exfalso; simp_all; done) | (exfalso; simp at *; omega) | exact ⟨by dsimp only; simp; omega, by assumption, wide_mem h4 (by first | assumption | exact pk_name hs | exact pk_time (by omega) (by omega) (by omega) | exact pk_rides (by omega) (by omega) | exact pk_mask (Or.inl rfl) (by decide))⟩
          · refine .region rfl ?_
            refine .p (.eqlI (.t rfl) (.i rfl) (.p (.assign (.t rfl) ?_)))
            refine .nil ?_
            refine .cond (.t rfl) (fun hc41 => ?_) (fun hc41 => ?_)
            · refine .region rfl ?_
              refine .p (.move (.t rfl) (.p (.move (.t rfl) (.h (.callM hG (Next_e _ _ _ (by first | assumption | exact deckNew_ok _) (by first | omega | (simp; done) | (simp; omega) | (simp at *; omega)) (by first | omega | (simp; done) | (simp; omega) | (simp at *; omega))) (.s .z) (.cons (.t rfl) (.cons (.i rfl) .nil)) (by rintro _ _ ⟨_, _, _, _, _, _, rfl⟩; exact ⟨_, rfl⟩) fun r46 B46 hr46 => ?_)))))
              obtain ⟨v46, d46, h046, h146, hd46, rfl, hB⟩ := hr46
              cases hB
              refine .p (.bS2 G_api_Predicate.l0 G_api_Predicate.l5 rfl ty39 fo39 (fun c0 c5 => (⟨c0, 0, 0, 0, ⟨[]⟩, c5⟩ : G_api_Predicate)) (fun _ _ => rfl) rfl rfl rfl (.i rfl) (.t rfl) (.h (.buildSlice (α := G_api_Predicate) ty39 Tryz.underlying24 (.cons (.t rfl) .nil) rfl (by decide) fun b48 => .h (.append st24 (.inl ⟨_, Tryz.underlying24⟩) rfl (.s .z) (.own rfl .z) (by first | omega | (simp; done) | (simp; omega) | (simp at *; omega)) (by first | omega | (simp; done) | (simp; omega) | (simp at *; omega)) (fun w49 => .p (.assign (.t rfl) ?_)) rfl))))
              refine .drop ?_
              refine .nil ?_
              refine .region rfl ?_
              refine .p (.move (.t rfl) (.p (.sub (.t rfl) (.i rfl) (by first | omega | (simp; done) | (simp; omega) | (simp at *; omega)) (by first | omega | (simp; done) | (simp; omega) | (simp at *; omega)) (.p (.assign (.t rfl) ?_)))))
              refine .nil ?_
              refine ⟨(k - 1, _, _, _), .cons rfl (.cons (congrArg (fun q => some (AV.v q)) (by dsimp only; omega)) (.cons rfl (.cons rfl (.nil _)))), rfl, ?_, by dsimp only; omega⟩
              first | (exfalso; omega) | (exfalso; simp_all; done) | (exfalso; simp at *; omega) | exact ⟨by dsimp only; simp; omega, by assumption, wide_mem h4 (by first | assumption | exact pk_name hs | exact pk_time (by omega) (by omega) (by omega) | exact pk_rides (by omega) (by omega) | exact pk_mask (Or.inl rfl) (by decide))⟩
            · refine .seq ?_
              refine .region rfl ?_
              refine .p (.eqlI (.t rfl) (.i rfl) (.p (.assign (.t rfl) ?_)))
              refine .nil ?_
              refine .condP (.t rfl) (fun hc50 => ?_) (fun hc50 => ?_)
              · refine .region rfl ?_
                refine .p (.move (.t rfl) (.p (.move (.t rfl) (.h (.callM hG (Predicate_deck_c _ _ _ (by assumption)) (.s .z) (.cons (.t rfl) (.cons .b .nil)) (by rintro _ _ ⟨_, _, _, _, _, _, rfl⟩; exact ⟨_, rfl⟩) fun r54 B54 hr54 => ?_)))))
                obtain ⟨p54, hp54, hk54, d54, hd54, rfl, hB⟩ := hr54
                cases hB
                refine .h (.buildSlice (α := G_api_Predicate) ty39 Tryz.underlying24 (.cons (.t rfl) .nil) rfl (by decide) fun b55 => .h (.append st24 (.inl ⟨_, Tryz.underlying24⟩) rfl (.s .z) (.own rfl .z) (by first | omega | (simp; done) | (simp; omega) | (simp at *; omega)) (by first | omega | (simp; done) | (simp; omega) | (simp at *; omega)) (fun w56 => .p (.assign (.t rfl) ?_)) rfl))
                refine .drop ?_
                refine .nil ?_
                refine .region rfl ?_
                refine .p (.move (.t rfl) (.p (.sub (.t rfl) (.i rfl) (by first | omega | (simp; done) | (simp; omega) | (simp at *; omega)) (by first | omega | (simp; done) | (simp; omega) | (simp at *; omega)) (.p (.assign (.t rfl) ?_)))))
                refine .nil ?_
                refine ⟨(k - 1, _, _, _), .cons rfl (.cons (congrArg (fun q => some (AV.v q)) (by dsimp only; omega)) (.cons rfl (.cons rfl (.nil _)))), rfl, ?_, by dsimp only; omega⟩
                first | (exfalso; omega) | (exfalso; simp_all; done) | (exfalso; simp at *; omega) | exact ⟨by dsimp only; simp; omega, by assumption, wide_mem h4 (by first | assumption | exact pk_name hs | exact pk_time (by omega) (by omega) (by omega) | exact pk_rides (by omega) (by omega) | exact pk_mask (Or.inl rfl) (by decide))⟩
              · refine .skip ?_
                refine .region rfl ?_
                refine .p (.move (.t rfl) (.p (.sub (.t rfl) (.i rfl) (by first | omega | (simp; done) | (simp; omega) | (simp at *; omega)) (by first | omega | (simp; done) | (simp; omega) | (simp at *; omega)) (.p (.assign (.t rfl) ?_)))))
                refine .nil ?_
                refine ⟨(k - 1, _, _, _), .cons rfl (.cons (congrArg (fun q => some (AV.v q)) (by dsimp only; omega)) (.cons rfl (.cons rfl (.nil _)))), rfl, ?_, by dsimp only; omega⟩
                first | (exfalso; omega) | (exfalso; simp_all; done) | (exfalso; simp at *; omega) | exact ⟨by dsimp only; simp; omega, by assumption, wide_mem h4 (by first | assumption | exact pk_name hs | exact pk_time (by omega) (by omega) (by omega) | exact pk_rides (by omega) (by omega) | exact pk_mask (Or.inl rfl) (by decide))⟩
  · refine .exit ?_
    refine .seq ?_
    refine .frzOwn hC .z ?_
    refine .as 7 rfl .z ?_
    refine .region rfl ?_
    refine .p (.move (.t rfl) (.p (.assign (.t rfl) ?_)))
    refine .nil ?_
    refine .ret ?_
    refine ⟨_, .r1 rfl (.tmp rfl), ?_⟩
    exact ⟨1, _, by omega, h4, _, h3, rfl, rfl⟩
end Go.Proofs.YtfkbejimghamkaaGreatDoor
set_option maxRecDepth 1000000
set_option linter.unusedVariables false
set_option linter.unusedSimpArgs false
namespace Go.Proofs.YtfkbejimghamkaaGreatDoor
open Go.Fl Go.Ab Go.Mac Go.Sha Go.Lib
def personsN : List Str := [⟨[97, 110, 110]⟩, ⟨[98, 111, 98]⟩, ⟨[99, 105, 100]⟩, ⟨[122, 111, 101]⟩, ⟨[97]⟩]
theorem Persons_deck_c (w : Value) (d : G_macaroonmade_Deck) (hd : DeckOk d) : FunH gl Tryz.prog 29 [dk w] [.ob w d] (fun r Hs => ∃ l : List G_api_Person, l.length ≤ 5 ∧ ∃ d', DeckOk d' ∧ r = .v l ∧ Hs = [.ob w d']) := by
  refine FunH.introD Tryz.func29 rfl (by kernel_rfl) 34 rfl rfl _ rfl _ rfl fun C hC hG => ?_
  refine .seq ?_
  refine .region rfl ?_
  refine .p (.assign (.nilS (α := G_api_Person)) ?_)
  refine .nil ?_
  refine .seq ?_
  refine .region rfl ?_
  refine .p (.assign .raw ?_)
  refine .nil ?_
  refine .seq ?_
  refine .nilOwn 112 G_api_Person ?_
  refine .region rfl ?_
  refine .h (.buildSlice (α := Str) ty9 Tryz.underlying36 (.cons (.s [97, 110, 110] (by decide) (by decide)) (.cons (.s [98, 111, 98] (by decide) (by decide)) (.cons (.s [99, 105, 100] (by decide) (by decide)) (.cons (.s [122, 111, 101] (by decide) (by decide)) (.cons (.s [97] (by decide) (by decide)) .nil))))) rfl (by decide) fun b6 => .p (.assign (.t rfl) ?_))
  refine .nil ?_
  refine .seq ?_
  refine .seq ?_
  refine .frzOwn hC .z ?_
  refine .as 4 rfl .z ?_
  refine .drop ?_
  refine .region rfl ?_
  refine .p (.assign (.i rfl) ?_)
  refine .nil ?_
  refine .block ?_
  refine .loopR (α := Nat × Value × List G_api_Person × G_macaroonmade_Deck) [(0, _), (4, _)] (fun x R => (3, .raw x.2.1) :: (5, .v (x.1 : Int)) :: R) (fun x => [(true, .own 112 x.2.1 x.2.2.1), (false, .ob w x.2.2.2)]) (fun x => x.1 ≤ 5 ∧ x.2.2.1.length = x.1 ∧ DeckOk x.2.2.2) (fun x => 5 - x.1) ((0, .slice none 0 0, [], d)) (.cons rfl (.cons rfl (.nil _))) ?_ (.cons rfl (.cons rfl (.cons rfl (.cons rfl (.nil _))))) (rfl) fun x hF => ?_
  · exact ⟨Nat.zero_le _, rfl, hd⟩
  obtain ⟨k, v, l, e⟩ := x
  obtain ⟨h2, h3, h4⟩ := hF
  dsimp only at h2 h3 h4 ⊢
  refine .seq ?_
  refine .seq ?_
  refine .region rfl ?_
  refine .p (.move (.t rfl) (.p (.move (.t rfl) (.p (.len Tryz.underlying36 (.t rfl) (.p (.lss (.t rfl) (.t rfl) (.p (.move (.t rfl) ?_)))))))))
  refine .go 11 rfl (.t rfl) (fun hg12 => .move (.t rfl) rfl) ?_
  refine .go 11 rfl (.t rfl) (fun hg13 => .move (.t rfl) rfl) ?_
  refine .gsHK 11 rfl (.t rfl) (fun i : Int × G_macaroonmade_Deck => .v i.1) (fun i => [(true, .own 112 v l), (false, .ob w i.2)]) (fun i => 0 ≤ i.1 ∧ i.1 < 5 ∧ DeckOk i.2) (0, e) ⟨Int.le_refl 0, by dsimp only; omega, h4⟩ rfl (fun hg14 => .callM hG (Next_e _ _ _ h4 (by decide) (by decide)) (.s .z) (.cons (.o rfl (beq_iff_eq.2 hg14)) (.cons (.i rfl) .nil)) (by rintro _ _ ⟨_, _, _, _, _, _, rfl⟩; exact ⟨_, rfl⟩) fun r14 B14 hr14 => by obtain ⟨v14, d14, h014, h114, hd14, rfl, hB⟩ := hr14; cases hB; exact ⟨(v14, d14), ⟨h014, h114, hd14⟩, rfl, rfl⟩) fun i14 hi14 => ?_
  obtain ⟨v14, e14⟩ := i14
  obtain ⟨p1, p2, p3⟩ := hi14
  dsimp only at p1 p2 p3 ⊢
  refine .go 11 rfl (.t rfl) (fun hg15 => .add (.i rfl) (.o rfl (beq_iff_eq.2 hg15)) (by first | omega | (simp; omega) | (have := hg15; simp at this; omega)) (by first | omega | (simp; omega) | (have := hg15; simp at this; omega)) rfl) ?_
  refine .go 11 rfl (.t rfl) (fun hg16 => .lss (.o rfl (beq_iff_eq.2 hg16)) (.o rfl (beq_iff_eq.2 hg16)) rfl) ?_
  refine .p (.pickAnd (.t rfl) (fun hp => (.o rfl (beq_iff_eq.2 hp))) ?_)
  refine .nil ?_
  refine .cond (.t rfl) (fun hc17 => ?_) (fun hc17 => ?_)
  · refine .skip ?_
    refine .seq ?_
    refine .block ?_
    have hk5 : k < 5 := (by simp at hc17; omega)
    have hkp : ((k : Int)).toNat < personsN.length := (show _ < 5 by omega)
    have hdn := deckNext_le (d := e14) (n := 100) (by decide)
    refine (?_ : wpA _ _ _ _ _ _ _)
    refine .drawM [⟨((true, .own 112 v l)), [⟨12, 12, fun v => .raw v.1, fun v => (true, .own 112 v.1 (l ++ [(⟨personsN[((k : Int)).toNat]'hkp, -(deckNext e14 100).1 * 365 * 1440⟩ : G_api_Person)]))⟩, ⟨13, 12, fun v => .raw v.1, fun v => (true, .own 112 v.1 (l ++ [(⟨personsN[((k : Int)).toNat]'hkp, -(deckNext e14 100).1 * 365 * 1440⟩ : G_api_Person)]))⟩]⟩, ⟨((false, .ob w e14)), [⟨6, 6, fun v => .v (deckNext e14 100).1, fun v => (false, .ob w (deckNext e14 100).2)⟩]⟩] [12, 13, 6] [6] [[(12, 12), (13, 12)], [(6, 6)]] (by kernel_rfl) 14 [[], [], [], [(21, 1), (22, 2)], [(23, 3)], [], [(25, 5)], [(26, 6)], [(27, 7)], [(28, 8)], [(24, 4), (29, 9)], [(30, 10)], [(20, 0), (31, 11)], [(32, 12)]] rfl (by kernel_rfl) rfl rfl (by decide) (by kernel_rfl) ?_
    refine ⟨_, fun H => OpP.move (.t rfl) rfl, ?_⟩
    refine ⟨_, fun H => OpP.move (.t rfl) rfl, ?_⟩
    refine ⟨_, fun H => OpP.move (.t rfl) rfl, ?_⟩
    refine ⟨_, fun H => OpP.idx ty9 Tryz.underlying36 (.t rfl) (.t rfl) (by first | omega | (simp; done) | (simp; omega) | (simp at *; omega)) (by first | omega | (simp; done) | (simp; omega) | (simp at *; omega)) rfl, ?_⟩
    refine ⟨_, fun H => OpP.ldP ty9 (.t rfl) rfl, ?_⟩
    refine ⟨_, fun H => OpP.move (.t rfl) rfl, ?_⟩
    refine .inr ⟨.v (deckNext e14 100).1, ?_⟩
    refine ⟨_, fun H => OpP.neg (.t rfl) (by first | omega | (simp; done) | (simp; omega) | (simp at *; omega)) rfl, ?_⟩
    refine ⟨_, fun H => OpP.mul (.t rfl) (.i rfl) (by first | omega | (simp; done) | (simp; omega) | (simp at *; omega)) (by first | omega | (simp; done) | (simp; omega) | (simp at *; omega)) rfl, ?_⟩
    refine ⟨_, fun H => OpP.mul (.t rfl) (.i rfl) (by first | omega | (simp; done) | (simp; omega) | (simp at *; omega)) (by first | omega | (simp; done) | (simp; omega) | (simp at *; omega)) rfl, ?_⟩
    refine ⟨_, fun H => OpP.bS2 G_api_Person.l0 G_api_Person.l1 rfl ty112 fo112 (fun c0 c1 => (⟨c0, c1⟩ : G_api_Person)) (fun _ _ => rfl) rfl rfl rfl (.t rfl) (.t rfl) rfl, ?_⟩
    refine ⟨_, fun H => OpP.buildSliceF (α := G_api_Person) ty112 Tryz.underlying54 (.cons (.t rfl) .nil) rfl (by decide) rfl, ?_⟩
    refine .inl ?_
    refine .inl ?_
    refine ⟨?_, ?_, fun nm6 => ?_⟩
    · exact (And.intro rfl (And.intro rfl (And.intro (fun _ => rfl) trivial)))
    · refine (And.intro (And.intro ?_ (And.intro ?_ trivial)) (And.intro (And.intro ?_ trivial) trivial))
      · intro o s ho hs; obtain rfl := Option.some.inj (show some _ = some o from ho); obtain rfl := Option.some.inj (show some _ = some s from hs); refine ⟨rfl, fun H' F hh => OpH.append st54 (.inl ⟨_, Tryz.underlying54⟩) rfl hh (.v (.c rfl)) (by first | omega | (simp; done) | (simp; omega) | (simp at *; omega)) (by first | omega | (simp; done) | (simp; omega) | (simp at *; omega)) (fun w32 => ⟨(_, 0), rfl, rfl⟩) rfl⟩
      · intro o s ho hs; obtain rfl := Option.some.inj (show some _ = some o from ho); obtain rfl := Option.some.inj (show some _ = some s from hs); refine ⟨rfl, fun v H' F hh => OpH.ofP (OpP.assign (.t rfl) ⟨_, .inr rfl, rfl, hh.self.symm⟩)⟩
      · intro o s ho hs; obtain rfl := Option.some.inj (show some _ = some o from ho); obtain rfl := Option.some.inj (show some _ = some s from hs); refine ⟨rfl, fun H' F hh => OpH.callM hG (Next_c _ _ _ p3 (by decide) (by decide)) hh (.cons (.t rfl) (.cons (.i rfl) .nil)) (by rintro _ _ ⟨_, rfl⟩; exact ⟨_, rfl⟩) fun r26 B26 hr26 => (by obtain ⟨rfl, hB⟩ := hr26; cases hB; exact ⟨(undef, 0), rfl, rfl⟩)⟩
    show wpB _ _ _ _ _ _ ((3, _) :: (32, _) :: (31, _) :: (30, _) :: (29, _) :: (28, _) :: (27, _) :: (26, _) :: (25, _) :: (24, _) :: (23, _) :: (22, _) :: (21, _) :: (20, _) :: _) ((true, .own 112 (nm6 12).1 (l ++ [(⟨personsN[((k : Int)).toNat]'hkp, -(deckNext e14 100).1 * 365 * 1440⟩ : G_api_Person)])) :: (false, .ob w (deckNext e14 100).2) :: _)
    refine .nil ?_
    refine .region rfl ?_
    refine .p (.move (.t rfl) (.p (.add (.t rfl) (.i rfl) (by first | omega | (simp; done) | (simp; omega) | (simp at *; omega)) (by first | omega | (simp; done) | (simp; omega) | (simp at *; omega)) (.p (.assign (.t rfl) ?_)))))
    refine .nil ?_
    refine ⟨(k + 1, _, _, _), .cons rfl (.cons rfl (.cons rfl (.cons rfl (.nil _)))), rfl, ?_, by dsimp only; omega⟩
    exact ⟨by dsimp only; omega, by simp; omega, deckNext_ok p3⟩
  · refine .exit ?_
    refine .seq ?_
    refine .frzOwn hC .z ?_
    refine .as 3 rfl .z ?_
    refine .region rfl ?_
    refine .p (.move (.t rfl) (.p (.assign (.t rfl) ?_)))
    refine .nil ?_
    refine .ret ?_
    refine ⟨_, .r1 rfl (.tmp rfl), ?_⟩
    exact ⟨1, l, by omega, e14, p3, rfl, rfl⟩
structure CfgOk (c : G_api_Config) : Prop where
  gates : 1 ≤ c.Gates ∧ c.Gates ≤ 3
  wallets : 1 ≤ c.Wallets ∧ c.Wallets ≤ 3
theorem Config_deck_c (w : Value) (d : G_macaroonmade_Deck) (free : Bool) (hd : DeckOk d) : FunH gl Tryz.prog 15 [dk w, .v free] [.ob w d] (fun r Hs => ∃ c : G_api_Config, CfgOk c ∧ ∃ d', DeckOk d' ∧ r = .v c ∧ Hs = [.ob w d']) := by
  refine FunH.introS Tryz.func15 rfl (by kernel_rfl) 25 rfl rfl _ rfl _ rfl fun C hC hG => ?_
  refine .seq ?_
  refine .region rfl ?_
  refine .h (.alloc ty56 fun b4 => ?_)
  refine .nil ?_
  refine .seq ?_
  refine .region rfl ?_
  refine .p (.move (.t rfl) (.p (.move (.t rfl) (.h (.callM hG (Tag_deck_c _ _ (by first | assumption | exact deckNew_ok _)) (.s .z) (.cons (.t rfl) .nil) (by rintro _ _ ⟨_, _, _, _, rfl⟩; exact ⟨_, rfl⟩) fun r8 B8 hr8 => ?_)))))
  obtain ⟨k8, d8, hd8, rfl, hB⟩ := hr8
  cases hB
  refine .p (.move (.t rfl) (.h (.callM hG (Range_e _ _ _ _ (by first | assumption | exact deckNew_ok _) (by first | omega | (simp; done) | (simp; omega) | (simp at *; omega)) (by first | omega | (simp; done) | (simp; omega) | (simp at *; omega)) (by first | omega | (simp; done) | (simp; omega) | (simp at *; omega))) (.s .z) (.cons (.t rfl) (.cons (.i rfl) (.cons (.i rfl) .nil))) (by rintro _ _ ⟨_, _, _, _, _, _, rfl⟩; exact ⟨_, rfl⟩) fun r10 B10 hr10 => ?_)))
  obtain ⟨v10, d10, h010, h110, hd10, rfl, hB⟩ := hr10
  cases hB
  refine .p (.move (.t rfl) (.h (.callM hG (Range_e _ _ _ _ (by first | assumption | exact deckNew_ok _) (by first | omega | (simp; done) | (simp; omega) | (simp at *; omega)) (by first | omega | (simp; done) | (simp; omega) | (simp at *; omega)) (by first | omega | (simp; done) | (simp; omega) | (simp at *; omega))) (.s .z) (.cons (.t rfl) (.cons (.i rfl) (.cons (.i rfl) .nil))) (by rintro _ _ ⟨_, _, _, _, _, _, rfl⟩; exact ⟨_, rfl⟩) fun r12 B12 hr12 => ?_)))
  obtain ⟨v12, d12, h012, h112, hd12, rfl, hB⟩ := hr12
  cases hB
  refine .p (.move (.t rfl) (.h (.callM hG (Next_e _ _ _ (by first | assumption | exact deckNew_ok _) (by first | omega | (simp; done) | (simp; omega) | (simp at *; omega)) (by first | omega | (simp; done) | (simp; omega) | (simp at *; omega))) (.s .z) (.cons (.t rfl) (.cons (.i rfl) .nil)) (by rintro _ _ ⟨_, _, _, _, _, _, rfl⟩; exact ⟨_, rfl⟩) fun r14 B14 hr14 => ?_)))
  obtain ⟨v14, d14, h014, h114, hd14, rfl, hB⟩ := hr14
  cases hB
  refine .p (.move (.t rfl) (.h (.callM hG (Persons_deck_c _ _ (by assumption)) (.s .z) (.cons (.t rfl) .nil) (by rintro _ _ ⟨_, _, _, _, _, rfl⟩; exact ⟨_, rfl⟩) fun r16 B16 hr16 => ?_)))
  obtain ⟨l16, hl16, d16, hd16, rfl, hB⟩ := hr16
  cases hB
  refine .p (.bS7 G_api_Config.l0 G_api_Config.l1 G_api_Config.l2 G_api_Config.l3 G_api_Config.l4 G_api_Config.l5 G_api_Config.l6 rfl ty56 fo56 (fun c0 c1 c2 c3 c4 c5 c6 => (⟨c0, c1, c2, c3, c4, c5, c6⟩ : G_api_Config)) (fun _ _ _ _ _ _ _ => rfl) rfl rfl rfl rfl rfl rfl rfl rfl (.t rfl) (.t rfl) (.t rfl) (.t rfl) (.t rfl) (.i rfl) (.t rfl) (.h (.alloc ty56 fun b5 => .n (.stW ty56 (.t rfl) (.t rfl) .z ?_))))
  refine .nil ?_
  refine .seq ?_
  refine .seq ?_
  refine .region rfl ?_
  refine .p (.move (.t rfl) (.h (.callM hG (Next_e _ _ _ (by first | assumption | exact deckNew_ok _) (by first | omega | (simp; done) | (simp; omega) | (simp at *; omega)) (by first | omega | (simp; done) | (simp; omega) | (simp at *; omega))) (.s (.s .z)) (.cons (.t rfl) (.cons (.i rfl) .nil)) (by rintro _ _ ⟨_, _, _, _, _, _, rfl⟩; exact ⟨_, rfl⟩) fun r19 B19 hr19 => ?_)))
  obtain ⟨v19, d19, h019, h119, hd19, rfl, hB⟩ := hr19
  cases hB
  refine .p (.eqlI (.t rfl) (.i rfl) ?_)
  refine .nil ?_
  refine .condP (.t rfl) (fun hc20 => ?_) (fun hc20 => ?_)
  · refine .region rfl ?_
    refine .p (.move (.t rfl) (.h (.callM hG (Next_e _ _ _ (by first | assumption | exact deckNew_ok _) (by first | omega | (simp; done) | (simp; omega) | (simp at *; omega)) (by first | omega | (simp; done) | (simp; omega) | (simp at *; omega))) (.s (.s .z)) (.cons (.t rfl) (.cons (.i rfl) .nil)) (by rintro _ _ ⟨_, _, _, _, _, _, rfl⟩; exact ⟨_, rfl⟩) fun r22 B22 hr22 => ?_)))
    obtain ⟨v22, d22, h022, h122, hd22, rfl, hB⟩ := hr22
    cases hB
    refine .p (.fldW G_api_Config.l5 fd56_5 rfl (.t rfl) (.n (.stF (fun y x => { x with Capacity := y }) ty3 (.t rfl) (.t rfl) .z (fun _ _ => rfl) ?_)))
    refine .nil ?_
    refine .seq ?_
    refine .region rfl ?_
    refine .p (.ldW ty56 (.t rfl) .z (.n (.stW ty56 (.t rfl) (.t rfl) (.s .z) ?_)))
    refine .nil ?_
    refine .ret ?_
    refine ⟨_, .r1 rfl (.cell ty56 rfl (.s .z)), ?_⟩
    refine ⟨_, .cons (.s (.s .z)) (.nil), ?_⟩
    exact ⟨_, ⟨⟨by dsimp only; omega, by dsimp only; omega⟩, ⟨by dsimp only; omega, by dsimp only; omega⟩⟩, _, by assumption, rfl, rfl⟩
  · refine .skip ?_
    refine .seq ?_
    refine .region rfl ?_
    refine .p (.ldW ty56 (.t rfl) .z (.n (.stW ty56 (.t rfl) (.t rfl) (.s .z) ?_)))
    refine .nil ?_
    refine .ret ?_
    refine ⟨_, .r1 rfl (.cell ty56 rfl (.s .z)), ?_⟩
    refine ⟨_, .cons (.s (.s .z)) (.nil), ?_⟩
    exact ⟨_, ⟨⟨by dsimp only; omega, by dsimp only; omega⟩, ⟨by dsimp only; omega, by dsimp only; omega⟩⟩, _, by assumption, rfl, rfl⟩
end Go.Proofs.YtfkbejimghamkaaGreatDoor
