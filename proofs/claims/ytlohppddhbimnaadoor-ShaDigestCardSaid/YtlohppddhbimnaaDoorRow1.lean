/- The row and the card of ShaDigest. -/
import Derived.Test.YtlohppddhbimnaaDoorLaw1
import Derived.Test.YtlohppddhbimnaaDoorRows
import Derived.Test.YtlohppddhbimnaaDoorTie
import Derived.Test.YtlohppddhbimnaaDoorCards
import Derived.Test.YtlohppddhbimnaaDoorFlR
import Derived.SevenTiedAt
set_option linter.unusedVariables false
namespace Go.Proofs.YtlohppddhbimnaaDoor
open Go.Fl Go.Sha
open Go.ChangeShapes Go.WideShapes Go.ChangeAt Go.RowKit
theorem ownK : ownKnob Tryd.prog.godebug = none := by kernel_rfl
theorem laidOutK : laidOutB Tryd.prog = true := by kernel_rfl
/-- The settled world, but k holds its words. -/
noncomputable def kWorld (os : Os) : World :=
  let w0 := World.holding Tryd.prog os ⟨#[], #[], []⟩
  { w0 with heap := w0.heap.modify 0 fun
      | .cells _ t frozen => .cells (kk.map u32).toArray t frozen
      | o => o }
def kLaid : List (String × DataW Unit) := [("macaroon/sha.k", Rows.laid_macaroon_sha_k)]
set_option maxRecDepth 100000 in
theorem k_met (os : Os) (args : Array Value) : laidMet Tryd.prog kLaid ((kWorld os).forCall (fun _ _ => 0) ⟨#[], args, []⟩).memory :=
  laidMet_of_run' 8 (by kernel_rfl) (by kernel_rfl)
set_option maxRecDepth 100000 in
theorem k_cells {W : World} (h : laidMet Tryd.prog kLaid W) : Cells (imOf W) 0 0 (kk.map u32) :=
  words_laid (l := kk) (T := 67) (E := 31) (by kernel_rfl) (by kernel_rfl) Tryd.underlying67 Tryd.underlying31 (by kernel_rfl) (by decide) rfl h
set_option maxRecDepth 100000 in
theorem shaDigest_lifted (os : Os) (started : os.Started) (H : Type) (enc : TypeId × Value → H) :
    ReturnsInHanded {} Tryd.checked os 3 .any (fun w args => (Rows.shaDigestSpec.pre enc Tryd.prog Tryd.f3 Rows.shaDigestRow.domain false w args ∧ laidMet Tryd.prog Rows.shaDigestRow.laid w) ∧ sizedMet enc Tryd.prog Tryd.f3 (OpenSpec.ofChange Rows.shaDigestSpec) false w args)
      (Rows.shaDigestSpec.post enc Tryd.prog Tryd.f3 false true false false) := by
  refine returnsInHanded_of_change_and (C := Tryd.checked) (X := fun w _ => laidMet Tryd.prog Rows.shaDigestRow.laid w) (fun _ _ _ hh h => h.of_heap hh) ownK started (by kernel_rfl) Tryd.func3
    (ChangeSpec.witness_at (enc := enc) (C := Tryd.checked) (os := os) (X := fun w _ => laidMet Tryd.prog Rows.shaDigestRow.laid w) false (kWorld os) #[.slice none 0 0, .int .u16 0, .int .u8 0] 8 rfl (by kernel_rfl) (by kernel_rfl) (by kernel_rfl) (by kernel_rfl) (by kernel_rfl) (k_met os _)) ?_
  intro W base args ds gs before hval0 hW hcnd0 _ hL _
  have hval : ∀ (j : Nat) t v, Tryd.f3.params[j]? = some t → args[j]? = some v → Value.okWide Tryd.prog W .any base t v := hval0
  have hW' := hW
  obtain ⟨p, q, hA0, hV, rfl, hfz, hnd⟩ := hW
  have hA : DataW.TrodAll enc Tryd.prog W 0 (fun _ => true) true Tryd.f3.params.toList args.toList ds p := hA0
  rw [Tryd.params3] at hA hval
  obtain ⟨v0, vs0, d0, ds0, p0, q0, hargs, rfl, rfl, h0, r0⟩ := trodAll_cons hA
  obtain ⟨v1, vs1, d1, ds1, p1, q1, rfl, rfl, rfl, h1, r1⟩ := trodAll_cons r0
  obtain ⟨v2, vs2, d2, ds2, p2, q2, rfl, rfl, rfl, h2, r2⟩ := trodAll_cons r1
  obtain ⟨rfl, rfl, rfl⟩ := trodAll_nil r2
  obtain rfl : args = #[v0, v1, v2] := by cases args; simp_all
  obtain ⟨rfl, rfl⟩ := trodVars_none hV
  obtain ⟨a0, len0, cap0, rfl⟩ := okWide_slice Tryd.underlying22 (hval 0 22 v0 rfl rfl)
  have k0 := h0
  have lt0 : ∀ x ∈ p0, x.block < W.heap.size := by obtain ⟨m, hm⟩ := k0; exact DataW.trod_lt m _ _ _ hm
  obtain ⟨bs, hbl, hb⟩ := bytes_in Tryd.underlying22 Tryd.underlying5 (by kernel_rfl) h0
  obtain ⟨a1, rfl, rfl, rfl, w1⟩ := open_int Tryd.underlying23 (hval 1 23 v1 rfl rfl) h1
  obtain ⟨a2, rfl, rfl, rfl, w2⟩ := open_int Tryd.underlying5 (hval 2 5 v2 rfl rfl) h2
  clear hA0 hval0
  have hkk := k_cells hL
  subst hbl
  have b1 := w1
  have b2 := w2
  simp [Lit.wf, IntKind.min, IntKind.max, IntKind.signed, IntKind.bits] at b1 b2
  have e2 : Value.int .u8 a2 = u8 (UInt8.ofNat a2.toNat) := by
    unfold u8
    congr 1
    simp
    omega
  have hw := (ShaDigest_fun (imOf W) (.slice a0 bs.length cap0) bs hb a1 (by omega) (by omega) (UInt8.ofNat a2.toNat) hkk).calls
  rw [← e2] at hw
  refine hw.mono fun e W' ⟨he, bel⟩ => ?_
  subst he
  exact ⟨_, rfl, _, _, _, [], _, [], hW', trodAll_mk1 (shut_bool Tryd.underlying4 _), (trodAll_cons_mk (Below.trod laidOutK (by kernel_rfl) (of_decide_eq_true (by kernel_rfl)) k0 bel lt0) (trodAll_cons_mk (shut_int Tryd.underlying23 w1) (trodAll_cons_mk (shut_int Tryd.underlying5 w2) trodAll_mk0))), rfl, bel.frame _, fun h => by cases h⟩
theorem shaDigest_holds : Rows.ShaDigestSaid :=
  OpenClaim.holds_of_wide 3 Tryd.f3 rfl rfl rfl rfl rfl rfl rfl ⟨rfl, rfl, rfl, rfl, rfl⟩ rfl rfl rfl rfl rfl (by kernel_rfl) Tryd.func3 (by kernel_rfl)
    (of_decide_eq_true (by kernel_rfl)) (by unfold Func.isWrapper; first | (rw [if_pos (by decide +kernel)]; kernel_rfl) | (rw [if_neg (by decide +kernel)]; exact ⟨rfl, rfl⟩))
    (fun os started H enc _ => shaDigest_lifted os started H enc)
end Go.Proofs.YtlohppddhbimnaaDoor
