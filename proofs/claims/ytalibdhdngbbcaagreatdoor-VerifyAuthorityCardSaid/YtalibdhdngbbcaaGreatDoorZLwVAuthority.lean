/- Proved: for all arguments, VerifyAuthority returns true and leaves what was handed in as it was. Condition: the variables k of package sha and bits of package predicate hold what the program's text lays (the card ties them to the text). -/
import Derived.Test.YtalibdhdngbbcaaGreatDoorZ6
set_option maxRecDepth 1000000
set_option synthInstance.maxSize 1000000
set_option synthInstance.maxHeartbeats 10000000
set_option linter.unusedVariables false
set_option linter.unusedSimpArgs false
namespace Go.Proofs.YtalibdhdngbbcaaGreatDoor
open Go.Proofs.Tryz
open Go.Fl Go.Ab Go.Mac Go.Sha
open Go.ChangeShapes Go.WideShapes Go.ChangeAt Go.RowKit
set_option maxRecDepth 100000 in
theorem verifyAuthority_lifted (os : Os) (started : os.Started) (H : Type) (enc : TypeId × Value → H) :
    ReturnsInHanded {} Tryz.checked os 3 .any (fun w args=>(Rows.verifyAuthoritySpec.pre enc prog Tryz.f3 Rows.verifyAuthorityRow.domain false w args∧laidMet prog Rows.verifyAuthorityRow.laid w)∧sizedMet enc prog Tryz.f3 (OpenSpec.ofChange Rows.verifyAuthoritySpec) false w args)
      (Rows.verifyAuthoritySpec.post enc prog Tryz.f3 false true false false):=by
  refine returnsInHanded_of_change_and (C:=Tryz.checked) (X:=fun w _=>laidMet prog Rows.verifyAuthorityRow.laid w) (fun _ _ _ hh h=>h.of_heap hh) c4Y started (by kernel_rfl) func3
    (ChangeSpec.witness_at (enc:=enc) (C:=Tryz.checked) (os:=os) (X:=fun w _=>laidMet prog Rows.verifyAuthorityRow.laid w) false (b8Q os) #[.slice none 0 0,.slice none 0 0] 8 rfl (by kernel_rfl) (by kernel_rfl) (by kernel_rfl) (by kernel_rfl) (by kernel_rfl) (c3V os _)) ?_
  intro W base args ds gs before hval0 hW hcnd0 _ hL _
  have hval:∀ (j:Nat) t v,Tryz.f3.params[j]?=some t→args[j]?=some v→Value.okWide prog W .any base t v:=hval0
  have hW':=hW
  obtain⟨p,q,hA0,hV,rfl,hfz,hnd⟩:=hW
  have hA:DataW.TrodAll enc prog W 0 (fun _=>true) true Tryz.f3.params.toList args.toList ds p:=hA0
  rw [Tryz.params3] at hA hval
  obtain⟨v0,vs0,d0,ds0,p0,q0,hargs,rfl,rfl,h0,r0⟩:=trodAll_cons hA
  obtain⟨v1,vs1,d1,ds1,p1,q1,rfl,rfl,rfl,h1,r1⟩:=trodAll_cons r0
  obtain⟨rfl,rfl,rfl⟩:=trodAll_nil r1
  obtain rfl:args = #[v0,v1]:=by cases args;simp_all
  obtain⟨rfl,rfl⟩:=trodVars_none hV
  have lt0:∀ x∈p0,x.block < W.heap.size:=by obtain⟨m,hm⟩:=h0;exact DataW.trod_lt m _ _ _ hm
  obtain⟨a0,l0,c0,rfl⟩:=okWide_slice underlying22 (hval 0 22 v0 rfl rfl)
  obtain⟨x0,hx0⟩:=c3Y.val h0 (b2j rfl)
  have lt1:∀ x∈p1,x.block < W.heap.size:=by obtain⟨m,hm⟩:=h1;exact DataW.trod_lt m _ _ _ hm
  obtain⟨a1,l1,c1,rfl⟩:=okWide_slice underlying22 (hval 1 22 v1 rfl rfl)
  obtain⟨x1,hx1⟩:=c3Y.val h1 (b2j rfl)
  clear hA0 hval0
  have hw:=p6.calls (a5U x0 x1) (c0S hL) ⟨_,_,rfl,hx0,_,_,rfl,hx1,rfl⟩
  refine hw.mono fun e W' ⟨he,bel⟩ => ?_
  subst he
  exact⟨_,rfl,_,_,_,[],_,[],hW',trodAll_mk1 (shut_bool underlying4 _),(trodAll_cons_mk (Below.trod b2k (by kernel_rfl) (of_decide_eq_true (by kernel_rfl)) h0 bel lt0) (trodAll_cons_mk (Below.trod b2k (by kernel_rfl) (of_decide_eq_true (by kernel_rfl)) h1 bel lt1) trodAll_mk0)),rfl,bel.frame _,fun h=>by cases h⟩
theorem verifyAuthority_holds:Rows.VerifyAuthoritySaid :=
 OpenClaim.holds_of_wide 3 Tryz.f3 rfl rfl rfl rfl rfl rfl rfl ⟨rfl,rfl,rfl,rfl,rfl⟩ rfl rfl rfl rfl rfl (by kernel_rfl) func3 (by kernel_rfl)
  (of_decide_eq_true (by kernel_rfl)) (by unfold Func.isWrapper;first|(rw [if_pos (by decide +kernel)];kernel_rfl)|(rw [if_neg (by decide +kernel)];exact⟨rfl,rfl⟩))
  (fun os started H enc _=>verifyAuthority_lifted os started H enc)
set_option maxRecDepth 100000 in
theorem verifyAuthority_card:Rows.VerifyAuthorityCardSaid :=
 Claim7.holds_tied_plain_at .later [] [.data,.data] true (true, "4a45e8146086353bfa968d4d5f8e6a06349a60ca57b52d55b2b41ad3f8668915") false
  verifyAuthority_holds (fun _ h=>by cases h) (by kernel_rfl) (fun _ h=>by cases h) verifyAuthority_row_tie rfl ⟨rfl,rfl⟩ (by kernel_rfl) rfl
  (fun f fn hf hfn=>by
   obtain rfl:f=3:=Option.some.inj ((show prog.funcNamed "macaroon/macaroonlaw17.VerifyAuthority" = some 3 by kernel_rfl).symm.trans hf) |>.symm
   obtain rfl:fn=Tryz.f3:=(Option.some.inj (func3.symm.trans hfn)).symm
   exact⟨by kernel_rfl,fun j t ht=>by
    rw [Tryz.params3] at ht
    rcases j with _|_|j
    ·obtain rfl:22=t:=by simpa using ht
     exact(show prog.wantsStandIn 22=false by kernel_rfl)
    ·obtain rfl:22=t:=by simpa using ht
     exact(show prog.wantsStandIn 22=false by kernel_rfl)
    ·simp at ht⟩)
  (by kernel_rfl)
#print axioms verifyAuthority_card
end Go.Proofs.YtalibdhdngbbcaaGreatDoor
