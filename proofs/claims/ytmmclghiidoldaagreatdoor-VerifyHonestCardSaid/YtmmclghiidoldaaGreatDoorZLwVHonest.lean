/- Proved: for all arguments, VerifyHonest returns true and leaves what was handed in as it was. Condition: the variables k of package sha and bits of package predicate hold what the program's text lays (the card ties them to the text). -/
import Derived.Test.YtmmclghiidoldaaGreatDoorZ7
set_option maxRecDepth 1000000
set_option linter.unusedVariables false
set_option linter.unusedSimpArgs false
namespace Go.Proofs.YtmmclghiidoldaaGreatDoor
open Go.Fl Go.Ab Go.Mac Go.Sha
open Go.ChangeShapes Go.WideShapes Go.ChangeAt Go.RowKit
set_option maxRecDepth 100000 in
theorem verifyHonest_lifted (os : Os) (started : os.Started) (H : Type) (enc : TypeId × Value → H) :
    ReturnsInHanded {} Tryz.checked os 4 .any (fun w args=>(Rows.verifyHonestSpec.pre enc Tryz.prog Tryz.f4 Rows.verifyHonestRow.domain false w args∧laidMet Tryz.prog Rows.verifyHonestRow.laid w)∧sizedMet enc Tryz.prog Tryz.f4 (OpenSpec.ofChange Rows.verifyHonestSpec) false w args)
      (Rows.verifyHonestSpec.post enc Tryz.prog Tryz.f4 false true false false):=by
  refine returnsInHanded_of_change_and (C:=Tryz.checked) (X:=fun w _=>laidMet Tryz.prog Rows.verifyHonestRow.laid w) (fun _ _ _ hh h=>h.of_heap hh) c2L started (by kernel_rfl) Tryz.func4
    (ChangeSpec.witness_at (enc:=enc) (C:=Tryz.checked) (os:=os) (X:=fun w _=>laidMet Tryz.prog Rows.verifyHonestRow.laid w) false (b4i os) #[.slice none 0 0] 8 rfl (by kernel_rfl) (by kernel_rfl) (by kernel_rfl) (by kernel_rfl) (by kernel_rfl) (c0N os _)) ?_
  intro W base args ds gs before hval0 hW hcnd0 _ hL _
  have hval:∀ (j:Nat) t v,Tryz.f4.params[j]?=some t→args[j]?=some v→Value.okWide Tryz.prog W .any base t v:=hval0
  have hW':=hW
  obtain⟨p,q,hA0,hV,rfl,hfz,hnd⟩:=hW
  have hA:DataW.TrodAll enc Tryz.prog W 0 (fun _=>true) true Tryz.f4.params.toList args.toList ds p:=hA0
  rw [Tryz.params4] at hA hval
  obtain⟨v0,vs0,d0,ds0,p0,q0,hargs,rfl,rfl,h0,r0⟩:=trodAll_cons hA
  obtain⟨rfl,rfl,rfl⟩:=trodAll_nil r0
  obtain rfl:args = #[v0]:=by cases args;simp_all
  obtain⟨rfl,rfl⟩:=trodVars_none hV
  have lt0:∀ x∈p0,x.block < W.heap.size:=by obtain⟨m,hm⟩:=h0;exact DataW.trod_lt m _ _ _ hm
  obtain⟨a0,l0,c0,rfl⟩:=okWide_slice Tryz.underlying33 (hval 0 33 v0 rfl rfl)
  obtain⟨x0,hx0⟩:=c2O.val h0 (a8W rfl)
  clear hA0 hval0
  have hw:=u1.calls (a8V x0) (b5j hL) ⟨_,_,rfl,hx0,rfl⟩
  refine hw.mono fun e W' ⟨he,bel⟩ => ?_
  subst he
  exact⟨_,rfl,_,_,_,[],_,[],hW',trodAll_mk1 (shut_bool Tryz.underlying4 _),(trodAll_cons_mk (Below.trod a6y (by kernel_rfl) (of_decide_eq_true (by kernel_rfl)) h0 bel lt0) trodAll_mk0),rfl,bel.frame _,fun h=>by cases h⟩
theorem verifyHonest_holds:Rows.VerifyHonestSaid :=
 OpenClaim.holds_of_wide 4 Tryz.f4 rfl rfl rfl rfl rfl rfl rfl ⟨rfl,rfl,rfl,rfl,rfl⟩ rfl rfl rfl rfl rfl (by kernel_rfl) Tryz.func4 (by kernel_rfl)
  (of_decide_eq_true (by kernel_rfl)) (by unfold Func.isWrapper;first|(rw [if_pos (by decide +kernel)];kernel_rfl)|(rw [if_neg (by decide +kernel)];exact⟨rfl,rfl⟩))
  (fun os started H enc _=>verifyHonest_lifted os started H enc)
set_option maxRecDepth 100000 in
theorem verifyHonest_card:Rows.VerifyHonestCardSaid :=
 Claim7.holds_tied_plain_at .later [] [.data,.data] true (true, "5fdb7b550b4830da1e8b150d6d005405127b00b32262d946495145abf812bc9b") false
  verifyHonest_holds (fun _ h=>by cases h) (by kernel_rfl) (fun _ h=>by cases h) verifyHonest_row_tie rfl ⟨rfl,rfl⟩ (by kernel_rfl) rfl
  (fun f fn hf hfn=>by
   obtain rfl:f=4:=Option.some.inj ((show Tryz.prog.funcNamed "macaroon/macaroonlaw17.VerifyHonest" = some 4 by kernel_rfl).symm.trans hf) |>.symm
   obtain rfl:fn=Tryz.f4:=(Option.some.inj (Tryz.func4.symm.trans hfn)).symm
   exact⟨by kernel_rfl,fun j t ht=>by
    rw [Tryz.params4] at ht
    rcases j with _|j
    ·obtain rfl:33=t:=by simpa using ht
     exact(show Tryz.prog.wantsStandIn 33=false by kernel_rfl)
    ·simp at ht⟩)
  (by kernel_rfl)
#print axioms verifyHonest_card
end Go.Proofs.YtmmclghiidoldaaGreatDoor
