/- Proved: for all arguments, PredicateCode returns true and leaves what was handed in as it was. Condition: the listed package variables (words and bits of package predicate, and the library's tables and errors) hold what the program's text lays (the card ties them to the text). -/
import Derived.Test.YtpkdbddhekffgaaGreatDoorZ3
set_option maxRecDepth 1000000
set_option linter.unusedVariables false
namespace Go.Proofs.YtpkdbddhekffgaaGreatDoor
open Go.Fl Go.Ab Go.Mac Go.Sha
open Go.ChangeShapes Go.WideShapes Go.ChangeAt Go.RowKit
set_option maxRecDepth 100000 in
theorem predicateCode_lifted (os : Os) (started : os.Started) (H : Type) (enc : TypeId × Value → H) :
    ReturnsInHanded {} Tryz.checked os 3 .any (fun w args => (Rows.predicateCodeSpec.pre enc Tryz.prog Tryz.f3 Rows.predicateCodeRow.domain false w args ∧ laidMet Tryz.prog Rows.predicateCodeRow.laid w) ∧ sizedMet enc Tryz.prog Tryz.f3 (OpenSpec.ofChange Rows.predicateCodeSpec) false w args)
      (Rows.predicateCodeSpec.post enc Tryz.prog Tryz.f3 false true false false) := by
  refine returnsInHanded_andS (C := Tryz.checked) (X := fun w _ => laidMet Tryz.prog Rows.predicateCodeRow.laid w) (fun _ _ _ hh h => h.of_heap hh) ownK started (by kernel_rfl) Tryz.func3
    (ChangeSpec.witness_at (enc := enc) (C := Tryz.checked) (os := os) (X := fun w _ => laidMet Tryz.prog Rows.predicateCodeRow.laid w) false (kWorld os) #[.agg ([i64 0, u64 0, i64 0, i64 0, .string ⟨#[]⟩, i64 0] : List Value).toArray, .slice none 0 0, .slice none 0 0, i64 0, u8 0, i64 0] 8 rfl (by kernel_rfl) (by kernel_rfl) (by kernel_rfl) (by kernel_rfl) (by kernel_rfl) (k_met os _)) ?_
  intro W base args ds gs before hval0 hW hcnd0 hSh hL _
  have hval : ∀ (j : Nat) t v, Tryz.f3.params[j]? = some t → args[j]? = some v → Value.okWide Tryz.prog W .any base t v := hval0
  have hW' := hW
  obtain ⟨p, q, hA0, hV, rfl, hfz, hnd⟩ := hW
  have hA : DataW.TrodAll enc Tryz.prog W 0 (fun _ => true) true Tryz.f3.params.toList args.toList ds p := hA0
  rw [Tryz.params3] at hA hval
  obtain ⟨v0, vs0, d0, ds0, p0, q0, hargs, rfl, rfl, h0, r0⟩ := trodAll_cons hA
  obtain ⟨v1, vs1, d1, ds1, p1, q1, rfl, rfl, rfl, h1, r1⟩ := trodAll_cons r0
  obtain ⟨v2, vs2, d2, ds2, p2, q2, rfl, rfl, rfl, h2, r2⟩ := trodAll_cons r1
  obtain ⟨v3, vs3, d3, ds3, p3, q3, rfl, rfl, rfl, h3, r3⟩ := trodAll_cons r2
  obtain ⟨v4, vs4, d4, ds4, p4, q4, rfl, rfl, rfl, h4, r4⟩ := trodAll_cons r3
  obtain ⟨v5, vs5, d5, ds5, p5, q5, rfl, rfl, rfl, h5, r5⟩ := trodAll_cons r4
  obtain ⟨rfl, rfl, rfl⟩ := trodAll_nil r5
  obtain rfl : args = #[v0, v1, v2, v3, v4, v5] := by cases args; simp_all
  obtain ⟨rfl, rfl⟩ := trodVars_none hV
  have lt0 : ∀ x ∈ p0, x.block < W.heap.size := by obtain ⟨m, hm⟩ := h0; exact DataW.trod_lt m _ _ _ hm
  obtain ⟨i0, rfl⟩ := Ab.okWide_agg Tryz.underlying24 rfl (hval 0 24 v0 rfl rfl)
  obtain ⟨x0, hx0⟩ := op24.val h0 form_agg
  have lt1 : ∀ x ∈ p1, x.block < W.heap.size := by obtain ⟨m, hm⟩ := h1; exact DataW.trod_lt m _ _ _ hm
  obtain ⟨a1, l1, c1, rfl⟩ := okWide_slice Tryz.underlying25 (hval 1 25 v1 rfl rfl)
  obtain ⟨x1, hx1⟩ := op25.val h1 (form_one rfl)
  have lt2 : ∀ x ∈ p2, x.block < W.heap.size := by obtain ⟨m, hm⟩ := h2; exact DataW.trod_lt m _ _ _ hm
  obtain ⟨a2, l2, c2, rfl⟩ := okWide_slice Tryz.underlying26 (hval 2 26 v2 rfl rfl)
  obtain ⟨x2, hx2⟩ := op26.val h2 (form_one rfl)
  have lt3 : ∀ x ∈ p3, x.block < W.heap.size := by obtain ⟨m, hm⟩ := h3; exact DataW.trod_lt m _ _ _ hm
  obtain ⟨i3, rfl⟩ := okWide_int Tryz.underlying3 (hval 3 3 v3 rfl rfl)
  obtain ⟨x3, hx3⟩ := op3.val h3 (form_one rfl)
  have lt4 : ∀ x ∈ p4, x.block < W.heap.size := by obtain ⟨m, hm⟩ := h4; exact DataW.trod_lt m _ _ _ hm
  obtain ⟨i4, rfl⟩ := okWide_int Tryz.underlying5 (hval 4 5 v4 rfl rfl)
  obtain ⟨x4, hx4⟩ := op5.val h4 (form_one rfl)
  have lt5 : ∀ x ∈ p5, x.block < W.heap.size := by obtain ⟨m, hm⟩ := h5; exact DataW.trod_lt m _ _ _ hm
  obtain ⟨i5, rfl⟩ := okWide_int Tryz.underlying3 (hval 5 3 v5 rfl rfl)
  obtain ⟨x5, hx5⟩ := op3.val h5 (form_one rfl)
  clear hA0 hval0
  have hw := FunA.calls (PredicateCode_c x0 x1 x2 x3 x4 x5) (k_cells hL hSh) ⟨_, _, rfl, hx0, _, _, rfl, hx1, _, _, rfl, hx2, _, _, rfl, hx3, _, _, rfl, hx4, _, _, rfl, hx5, rfl⟩
  refine hw.mono fun e W' ⟨he, bel⟩ => ?_
  subst he
  exact ⟨_, rfl, _, _, _, [], _, [], hW', trodAll_mk1 (shut_bool Tryz.underlying4 _), (trodAll_cons_mk (Below.trod laidOutK (by kernel_rfl) (of_decide_eq_true (by kernel_rfl)) h0 bel lt0) (trodAll_cons_mk (Below.trod laidOutK (by kernel_rfl) (of_decide_eq_true (by kernel_rfl)) h1 bel lt1) (trodAll_cons_mk (Below.trod laidOutK (by kernel_rfl) (of_decide_eq_true (by kernel_rfl)) h2 bel lt2) (trodAll_cons_mk (Below.trod laidOutK (by kernel_rfl) (of_decide_eq_true (by kernel_rfl)) h3 bel lt3) (trodAll_cons_mk (Below.trod laidOutK (by kernel_rfl) (of_decide_eq_true (by kernel_rfl)) h4 bel lt4) (trodAll_cons_mk (Below.trod laidOutK (by kernel_rfl) (of_decide_eq_true (by kernel_rfl)) h5 bel lt5) trodAll_mk0)))))), rfl, bel.frame _, fun h => by cases h⟩
theorem predicateCode_holds : Rows.PredicateCodeSaid :=
  OpenClaim.holds_of_wide 3 Tryz.f3 rfl rfl rfl rfl rfl rfl rfl ⟨rfl, rfl, rfl, rfl, rfl⟩ rfl rfl rfl rfl rfl (by kernel_rfl) Tryz.func3 (by kernel_rfl)
    (of_decide_eq_true (by kernel_rfl)) (by unfold Func.isWrapper; first | (rw [if_pos (by decide +kernel)]; kernel_rfl) | (rw [if_neg (by decide +kernel)]; exact ⟨rfl, rfl⟩))
    (fun os started H enc _ => predicateCode_lifted os started H enc)
set_option maxRecDepth 100000 in
theorem predicateCode_card : Rows.PredicateCodeCardSaid :=
  Claim7.holds_tied_plain_at .later [] [.data, .data, .data, .data, .sentinel, .sentinel, .data, .data, .pinned] true (true, "ae663dc7b58ac02e20457f392f658e86d72aa53723c54f6a64e421649b01b1fe") true
    predicateCode_holds (fun _ h => by cases h) (by kernel_rfl) (fun _ h => by cases h) predicateCode_row_tie rfl ⟨rfl, rfl⟩ (by kernel_rfl) rfl
    (fun f fn hf hfn => by
      obtain rfl : f = 3 := Option.some.inj ((show Tryz.prog.funcNamed "macaroon/macaroonlaw06.PredicateCode" = some 3 by kernel_rfl).symm.trans hf) |>.symm
      obtain rfl : fn = Tryz.f3 := (Option.some.inj (Tryz.func3.symm.trans hfn)).symm
      exact ⟨by kernel_rfl, fun j t ht => by
        rw [Tryz.params3] at ht
        rcases j with _ | _ | _ | _ | _ | _ | j
        · obtain rfl : 24 = t := by simpa using ht
          exact (show Tryz.prog.wantsStandIn 24 = false by kernel_rfl)
        · obtain rfl : 25 = t := by simpa using ht
          exact (show Tryz.prog.wantsStandIn 25 = false by kernel_rfl)
        · obtain rfl : 26 = t := by simpa using ht
          exact (show Tryz.prog.wantsStandIn 26 = false by kernel_rfl)
        · obtain rfl : 3 = t := by simpa using ht
          exact (show Tryz.prog.wantsStandIn 3 = false by kernel_rfl)
        · obtain rfl : 5 = t := by simpa using ht
          exact (show Tryz.prog.wantsStandIn 5 = false by kernel_rfl)
        · obtain rfl : 3 = t := by simpa using ht
          exact (show Tryz.prog.wantsStandIn 3 = false by kernel_rfl)
        · simp at ht⟩)
    (by kernel_rfl)
#print axioms predicateCode_card
end Go.Proofs.YtpkdbddhekffgaaGreatDoor
