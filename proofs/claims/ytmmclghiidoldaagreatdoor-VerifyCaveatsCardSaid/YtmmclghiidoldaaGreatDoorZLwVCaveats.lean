/- Proved: for all arguments, VerifyCaveats returns true and leaves what was handed in as it was. Condition: the variables k of package sha and bits of package predicate hold what the program's text lays (the card ties them to the text). -/
import Derived.Test.YtmmclghiidoldaaGreatDoorZ7
set_option maxRecDepth 1000000
set_option synthInstance.maxSize 1000000
set_option synthInstance.maxHeartbeats 10000000
set_option linter.unusedVariables false
set_option linter.unusedSimpArgs false
namespace Go.Proofs.YtmmclghiidoldaaGreatDoor
open Go.Proofs.Tryz
open Go.Fl Go.Ab Go.Mac Go.Sha
open Go.ChangeShapes Go.WideShapes Go.ChangeAt Go.RowKit
set_option maxRecDepth 100000 in
theorem verifyCaveats_lifted (os : Os) (started : os.Started) (H : Type) (enc : TypeId × Value → H) :
    ReturnsInHanded {} Tryz.checked os 7 .any (fun w args=>(Rows.verifyCaveatsSpec.pre enc prog Tryz.f7 Rows.verifyCaveatsRow.domain false w args∧laidMet prog Rows.verifyCaveatsRow.laid w)∧sizedMet enc prog Tryz.f7 (OpenSpec.ofChange Rows.verifyCaveatsSpec) false w args)
      (Rows.verifyCaveatsSpec.post enc prog Tryz.f7 false true false false):=by
  refine returnsInHanded_of_change_and (C:=Tryz.checked) (X:=fun w _=>laidMet prog Rows.verifyCaveatsRow.laid w) (fun _ _ _ hh h=>h.of_heap hh) c42 started (by kernel_rfl) func7
    (ChangeSpec.witness_at (enc:=enc) (C:=Tryz.checked) (os:=os) (X:=fun w _=>laidMet prog Rows.verifyCaveatsRow.laid w) false (b9w os) #[.agg ([i64 0,i64 0,i64 0,i64 0,.slice none 0 0]++(List.replicate 32 (u8 0)) ++ [.slice none 0 0]:List Value).toArray,.agg ([i64 0,i64 0,i64 0,.string ⟨#[]⟩]:List Value).toArray,.slice none 0 0,.slice none 0 0] 8 rfl (by kernel_rfl) (by kernel_rfl) (by kernel_rfl) (by kernel_rfl) (by kernel_rfl) (c3Z os _)) ?_
  intro W base args ds gs before hval0 hW hcnd0 _ hL _
  have hval:∀ (j:Nat) t v,Tryz.f7.params[j]?=some t→args[j]?=some v→Value.okWide prog W .any base t v:=hval0
  have hW':=hW
  obtain⟨p,q,hA0,hV,rfl,hfz,hnd⟩:=hW
  have hA:DataW.TrodAll enc prog W 0 (fun _=>true) true Tryz.f7.params.toList args.toList ds p:=hA0
  rw [Tryz.params7] at hA hval
  obtain⟨v0,vs0,d0,ds0,p0,q0,hargs,rfl,rfl,h0,r0⟩:=trodAll_cons hA
  obtain⟨v1,vs1,d1,ds1,p1,q1,rfl,rfl,rfl,h1,r1⟩:=trodAll_cons r0
  obtain⟨v2,vs2,d2,ds2,p2,q2,rfl,rfl,rfl,h2,r2⟩:=trodAll_cons r1
  obtain⟨v3,vs3,d3,ds3,p3,q3,rfl,rfl,rfl,h3,r3⟩:=trodAll_cons r2
  obtain⟨rfl,rfl,rfl⟩:=trodAll_nil r3
  obtain rfl:args = #[v0,v1,v2,v3]:=by cases args;simp_all
  obtain⟨rfl,rfl⟩:=trodVars_none hV
  have lt0:∀ x∈p0,x.block < W.heap.size:=by obtain⟨m,hm⟩:=h0;exact DataW.trod_lt m _ _ _ hm
  obtain⟨i0,rfl⟩:=Ab.a8U underlying29 rfl (hval 0 29 v0 rfl rfl)
  obtain⟨x0,hx0⟩:=c5a.val h0 b2M
  have lt1:∀ x∈p1,x.block < W.heap.size:=by obtain⟨m,hm⟩:=h1;exact DataW.trod_lt m _ _ _ hm
  obtain⟨i1,rfl⟩:=Ab.a8U underlying69 rfl (hval 1 69 v1 rfl rfl)
  obtain⟨x1,hx1⟩:=c5b.val h1 b2M
  have lt2:∀ x∈p2,x.block < W.heap.size:=by obtain⟨m,hm⟩:=h2;exact DataW.trod_lt m _ _ _ hm
  obtain⟨a2,l2,c2,rfl⟩:=okWide_slice underlying33 (hval 2 33 v2 rfl rfl)
  obtain⟨x2,hx2⟩:=c34.val h2 (b2L rfl)
  have lt3:∀ x∈p3,x.block < W.heap.size:=by obtain⟨m,hm⟩:=h3;exact DataW.trod_lt m _ _ _ hm
  obtain⟨a3,l3,c3,rfl⟩:=okWide_slice underlying33 (hval 3 33 v3 rfl rfl)
  obtain⟨x3,hx3⟩:=c34.val h3 (b2L rfl)
  clear hA0 hval0
  have hw:=p4.calls (a7L x0 x1 x2 x3) (c06 hL) ⟨_,_,rfl,hx0,_,_,rfl,hx1,_,_,rfl,hx2,_,_,rfl,hx3,rfl⟩
  refine hw.mono fun e W' ⟨he,bel⟩ => ?_
  subst he
  exact⟨_,rfl,_,_,_,[],_,[],hW',trodAll_mk1 (shut_bool underlying4 _),(trodAll_cons_mk (Below.trod a6v (by kernel_rfl) (of_decide_eq_true (by kernel_rfl)) h0 bel lt0) (trodAll_cons_mk (Below.trod a6v (by kernel_rfl) (of_decide_eq_true (by kernel_rfl)) h1 bel lt1) (trodAll_cons_mk (Below.trod a6v (by kernel_rfl) (of_decide_eq_true (by kernel_rfl)) h2 bel lt2) (trodAll_cons_mk (Below.trod a6v (by kernel_rfl) (of_decide_eq_true (by kernel_rfl)) h3 bel lt3) trodAll_mk0)))),rfl,bel.frame _,fun h=>by cases h⟩
theorem verifyCaveats_holds:Rows.VerifyCaveatsSaid :=
 OpenClaim.holds_of_wide 7 Tryz.f7 rfl rfl rfl rfl rfl rfl rfl ⟨rfl,rfl,rfl,rfl,rfl⟩ rfl rfl rfl rfl rfl (by kernel_rfl) func7 (by kernel_rfl)
  (of_decide_eq_true (by kernel_rfl)) (by unfold Func.isWrapper;first|(rw [if_pos (by decide +kernel)];kernel_rfl)|(rw [if_neg (by decide +kernel)];exact⟨rfl,rfl⟩))
  (fun os started H enc _=>verifyCaveats_lifted os started H enc)
set_option maxRecDepth 100000 in
theorem verifyCaveats_card:Rows.VerifyCaveatsCardSaid :=
 Claim7.holds_tied_plain_at .later [] [.data,.data] true (true, "5fdb7b550b4830da1e8b150d6d005405127b00b32262d946495145abf812bc9b") false
  verifyCaveats_holds (fun _ h=>by cases h) (by kernel_rfl) (fun _ h=>by cases h) verifyCaveats_row_tie rfl ⟨rfl,rfl⟩ (by kernel_rfl) rfl
  (fun f fn hf hfn=>by
   obtain rfl:f=7:=Option.some.inj ((show prog.funcNamed "macaroon/macaroonlaw17.VerifyCaveats" = some 7 by kernel_rfl).symm.trans hf) |>.symm
   obtain rfl:fn=Tryz.f7:=(Option.some.inj (func7.symm.trans hfn)).symm
   exact⟨by kernel_rfl,fun j t ht=>by
    rw [Tryz.params7] at ht
    rcases j with _|_|_|_|j
    ·obtain rfl:29=t:=by simpa using ht
     exact(show prog.wantsStandIn 29=false by kernel_rfl)
    ·obtain rfl:69=t:=by simpa using ht
     exact(show prog.wantsStandIn 69=false by kernel_rfl)
    ·obtain rfl:33=t:=by simpa using ht
     exact(show prog.wantsStandIn 33=false by kernel_rfl)
    ·obtain rfl:33=t:=by simpa using ht
     exact(show prog.wantsStandIn 33=false by kernel_rfl)
    ·simp at ht⟩)
  (by kernel_rfl)
#print axioms verifyCaveats_card
end Go.Proofs.YtmmclghiidoldaaGreatDoor
