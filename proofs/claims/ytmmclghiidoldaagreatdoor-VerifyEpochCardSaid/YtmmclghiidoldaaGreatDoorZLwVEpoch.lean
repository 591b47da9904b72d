/- Proved: for all arguments, VerifyEpoch returns true and leaves what was handed in as it was. Condition: the variables k of package sha and bits of package predicate hold what the program's text lays (the card ties them to the text). -/
import Derived.Test.YtmmclghiidoldaaGreatDoorZ7
set_option maxRecDepth 1000000
set_option linter.unusedVariables false
set_option linter.unusedSimpArgs false
namespace Go.Proofs.YtmmclghiidoldaaGreatDoor
open Go.Fl Go.Ab Go.Mac Go.Sha
open Go.ChangeShapes Go.WideShapes Go.ChangeAt Go.RowKit
set_option maxRecDepth 100000 in
theorem verifyEpoch_lifted (os : Os) (started : os.Started) (H : Type) (enc : TypeId × Value → H) :
    ReturnsInHanded {} Tryz.checked os 6 .any (fun w args=>(Rows.verifyEpochSpec.pre enc Tryz.prog Tryz.f6 Rows.verifyEpochRow.domain false w args∧laidMet Tryz.prog Rows.verifyEpochRow.laid w)∧sizedMet enc Tryz.prog Tryz.f6 (OpenSpec.ofChange Rows.verifyEpochSpec) false w args)
      (Rows.verifyEpochSpec.post enc Tryz.prog Tryz.f6 false true false false):=by
  refine returnsInHanded_of_change_and (C:=Tryz.checked) (X:=fun w _=>laidMet Tryz.prog Rows.verifyEpochRow.laid w) (fun _ _ _ hh h=>h.of_heap hh) c2L started (by kernel_rfl) Tryz.func6
    (ChangeSpec.witness_at (enc:=enc) (C:=Tryz.checked) (os:=os) (X:=fun w _=>laidMet Tryz.prog Rows.verifyEpochRow.laid w) false (b4i os) #[.slice none 0 0,.agg (List.replicate 32 (u8 0):List Value).toArray,u8 0] 8 rfl (by kernel_rfl) (by kernel_rfl) (by kernel_rfl) (by kernel_rfl) (by kernel_rfl) (c0N os _)) ?_
  intro W base args ds gs before hval0 hW hcnd0 _ hL _
  have hval:∀ (j:Nat) t v,Tryz.f6.params[j]?=some t→args[j]?=some v→Value.okWide Tryz.prog W .any base t v:=hval0
  have hW':=hW
  obtain⟨p,q,hA0,hV,rfl,hfz,hnd⟩:=hW
  have hA:DataW.TrodAll enc Tryz.prog W 0 (fun _=>true) true Tryz.f6.params.toList args.toList ds p:=hA0
  rw [Tryz.params6] at hA hval
  obtain⟨v0,vs0,d0,ds0,p0,q0,hargs,rfl,rfl,h0,r0⟩:=trodAll_cons hA
  obtain⟨v1,vs1,d1,ds1,p1,q1,rfl,rfl,rfl,h1,r1⟩:=trodAll_cons r0
  obtain⟨v2,vs2,d2,ds2,p2,q2,rfl,rfl,rfl,h2,r2⟩:=trodAll_cons r1
  obtain⟨rfl,rfl,rfl⟩:=trodAll_nil r2
  obtain rfl:args = #[v0,v1,v2]:=by cases args;simp_all
  obtain⟨rfl,rfl⟩:=trodVars_none hV
  have lt0:∀ x∈p0,x.block < W.heap.size:=by obtain⟨m,hm⟩:=h0;exact DataW.trod_lt m _ _ _ hm
  obtain⟨a0,l0,c0,rfl⟩:=okWide_slice Tryz.underlying33 (hval 0 33 v0 rfl rfl)
  obtain⟨x0,hx0⟩:=c2O.val h0 (a8W rfl)
  have lt1:∀ x∈p1,x.block < W.heap.size:=by obtain⟨m,hm⟩:=h1;exact DataW.trod_lt m _ _ _ hm
  obtain⟨i1,rfl⟩:=Ab.b4h Tryz.underlying26 rfl (hval 1 26 v1 rfl rfl)
  obtain⟨x1,hx1⟩:=c3t.val h1 b8K
  have lt2:∀ x∈p2,x.block < W.heap.size:=by obtain⟨m,hm⟩:=h2;exact DataW.trod_lt m _ _ _ hm
  obtain⟨i2,rfl⟩:=okWide_int Tryz.underlying5 (hval 2 5 v2 rfl rfl)
  obtain⟨x2,hx2⟩:=op5.val h2 (a8W rfl)
  clear hA0 hval0
  have hw:=u1.calls (a9f x0 x1 x2) (b5j hL) ⟨_,_,rfl,hx0,_,_,rfl,hx1,_,_,rfl,hx2,rfl⟩
  refine hw.mono fun e W' ⟨he,bel⟩ => ?_
  subst he
  exact⟨_,rfl,_,_,_,[],_,[],hW',trodAll_mk1 (shut_bool Tryz.underlying4 _),(trodAll_cons_mk (Below.trod a6y (by kernel_rfl) (of_decide_eq_true (by kernel_rfl)) h0 bel lt0) (trodAll_cons_mk (Below.trod a6y (by kernel_rfl) (of_decide_eq_true (by kernel_rfl)) h1 bel lt1) (trodAll_cons_mk (Below.trod a6y (by kernel_rfl) (of_decide_eq_true (by kernel_rfl)) h2 bel lt2) trodAll_mk0))),rfl,bel.frame _,fun h=>by cases h⟩
theorem verifyEpoch_holds:Rows.VerifyEpochSaid :=
 OpenClaim.holds_of_wide 6 Tryz.f6 rfl rfl rfl rfl rfl rfl rfl ⟨rfl,rfl,rfl,rfl,rfl⟩ rfl rfl rfl rfl rfl (by kernel_rfl) Tryz.func6 (by kernel_rfl)
  (of_decide_eq_true (by kernel_rfl)) (by unfold Func.isWrapper;first|(rw [if_pos (by decide +kernel)];kernel_rfl)|(rw [if_neg (by decide +kernel)];exact⟨rfl,rfl⟩))
  (fun os started H enc _=>verifyEpoch_lifted os started H enc)
set_option maxRecDepth 100000 in
theorem verifyEpoch_card:Rows.VerifyEpochCardSaid :=
 Claim7.holds_tied_plain_at .later [] [.data,.data] true (true, "5fdb7b550b4830da1e8b150d6d005405127b00b32262d946495145abf812bc9b") false
  verifyEpoch_holds (fun _ h=>by cases h) (by kernel_rfl) (fun _ h=>by cases h) verifyEpoch_row_tie rfl ⟨rfl,rfl⟩ (by kernel_rfl) rfl
  (fun f fn hf hfn=>by
   obtain rfl:f=6:=Option.some.inj ((show Tryz.prog.funcNamed "macaroon/macaroonlaw17.VerifyEpoch" = some 6 by kernel_rfl).symm.trans hf) |>.symm
   obtain rfl:fn=Tryz.f6:=(Option.some.inj (Tryz.func6.symm.trans hfn)).symm
   exact⟨by kernel_rfl,fun j t ht=>by
    rw [Tryz.params6] at ht
    rcases j with _|_|_|j
    ·obtain rfl:33=t:=by simpa using ht
     exact(show Tryz.prog.wantsStandIn 33=false by kernel_rfl)
    ·obtain rfl:26=t:=by simpa using ht
     exact(show Tryz.prog.wantsStandIn 26=false by kernel_rfl)
    ·obtain rfl:5=t:=by simpa using ht
     exact(show Tryz.prog.wantsStandIn 5=false by kernel_rfl)
    ·simp at ht⟩)
  (by kernel_rfl)
#print axioms verifyEpoch_card
end Go.Proofs.YtmmclghiidoldaaGreatDoor
