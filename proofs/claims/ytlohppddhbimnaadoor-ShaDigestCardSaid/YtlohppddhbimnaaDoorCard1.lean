/- The tied card of ShaDigest. -/
import Derived.Test.YtlohppddhbimnaaDoorRow1
set_option linter.unusedVariables false
namespace Go.Proofs.YtlohppddhbimnaaDoor
set_option maxRecDepth 100000 in
theorem shaDigest_card : Rows.ShaDigestCardSaid :=
  Claim7.holds_tied_plain_at .later [] [.data] true (true, "2c06a2dce8cb01e13b174b2bc1c967ebad978ba5fb6edca72e1e39c94d54c1b2") false
    shaDigest_holds (fun _ h => by cases h) (by kernel_rfl) (fun _ h => by cases h) shaDigest_row_tie rfl ⟨rfl, rfl⟩ (by kernel_rfl) rfl
    (fun f fn hf hfn => by
      obtain rfl : f = 3 := Option.some.inj ((show Tryd.prog.funcNamed "macaroon/macaroonlaw01.ShaDigest" = some 3 by kernel_rfl).symm.trans hf) |>.symm
      obtain rfl : fn = Tryd.f3 := (Option.some.inj (Tryd.func3.symm.trans hfn)).symm
      exact ⟨by kernel_rfl, fun j t ht => by
        rw [Tryd.params3] at ht
        rcases j with _ | _ | _ | j
        · obtain rfl : 22 = t := by simpa using ht
          exact (show Tryd.prog.wantsStandIn 22 = false by kernel_rfl)
        · obtain rfl : 23 = t := by simpa using ht
          exact (show Tryd.prog.wantsStandIn 23 = false by kernel_rfl)
        · obtain rfl : 5 = t := by simpa using ht
          exact (show Tryd.prog.wantsStandIn 5 = false by kernel_rfl)
        · simp at ht⟩)
    (by kernel_rfl)
#print axioms shaDigest_card
end Go.Proofs.YtlohppddhbimnaaDoor
