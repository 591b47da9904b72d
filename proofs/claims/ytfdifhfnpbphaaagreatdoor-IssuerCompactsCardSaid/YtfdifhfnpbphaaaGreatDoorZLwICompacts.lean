/- Proved: for all arguments, IssuerCompacts returns true and leaves what was handed in as it was. Condition: the variables k of package sha and bits of package predicate hold what the program's text lays (the card ties them to the text). -/
import Derived.Test.YtfdifhfnpbphaaaGreatDoorZ6
set_option maxRecDepth 1000000
set_option synthInstance.maxSize 1000000
set_option synthInstance.maxHeartbeats 10000000
set_option linter.unusedVariables false
set_option linter.unusedSimpArgs false
namespace Go.Proofs.YtfdifhfnpbphaaaGreatDoor
open Go.Proofs.Tryz
open Go.Fl Go.Ab Go.Mac Go.Sha
open Go.ChangeShapes Go.WideShapes Go.ChangeAt Go.RowKit
set_option maxRecDepth 100000 in
theorem issuerCompacts_lifted (os:Os)(started:os.Started)(H:Type)(enc:TypeId×Value→H) :
    ReturnsInHanded {} Tryz.checked os 4 .any (fun w args=>(Rows.issuerCompactsSpec.pre enc prog Tryz.f4 Rows.issuerCompactsRow.domain false w args∧laidMet prog Rows.issuerCompactsRow.laid w)∧sizedMet enc prog Tryz.f4 (OpenSpec.ofChange Rows.issuerCompactsSpec) false w args)
      (Rows.issuerCompactsSpec.post enc prog Tryz.f4 false true false false):=by
  refine returnsInHanded_of_change_and (C:=Tryz.checked) (X:=fun w _=>laidMet prog Rows.issuerCompactsRow.laid w) (fun _ _ _ hh h=>h.of_heap hh) d3q started (by kernel_rfl) func4
    (ChangeSpec.witness_at (enc:=enc) (C:=Tryz.checked) (os:=os) (X:=fun w _=>laidMet prog Rows.issuerCompactsRow.laid w) false (c35 os) #[.slice none 0 0,u8 0] 8 rfl (by kernel_rfl) (by kernel_rfl) (by kernel_rfl) (by kernel_rfl) (by kernel_rfl) (d1m os _)) ?_
  intro W base args ds gs before hval0 hW hcnd0 _ hL _
  have hval:∀ (j:Nat) t v,Tryz.f4.params[j]?=some t→args[j]?=some v→Value.okWide prog W .any base t v:=hval0
  have hW':=hW
  obtain⟨p,q,hA0,hV,rfl,hfz,hnd⟩:=hW
  have hA:DataW.TrodAll enc prog W 0 (fun _=>true) true Tryz.f4.params.toList args.toList ds p:=hA0
  rw [Tryz.params4] at hA hval
  obtain⟨v0,vs0,d0,ds0,p0,q0,hargs,rfl,rfl,h0,r0⟩:=trodAll_cons hA
  obtain⟨v1,vs1,d1,ds1,p1,q1,rfl,rfl,rfl,h1,r1⟩:=trodAll_cons r0
  obtain⟨rfl,rfl,rfl⟩:=trodAll_nil r1
  obtain rfl:args = #[v0,v1]:=by cases args;simp_all
  obtain⟨rfl,rfl⟩:=trodVars_none hV
  have lt0:∀ x∈p0,x.block < W.heap.size:=by obtain⟨m,hm⟩:=h0;exact DataW.trod_lt m _ _ _ hm
  obtain⟨a0,l0,c0,rfl⟩:=okWide_slice underlying22 (hval 0 22 v0 rfl rfl)
  obtain⟨x0,hx0⟩:=d3r.val h0 (b5U rfl)
  have lt1:∀ x∈p1,x.block < W.heap.size:=by obtain⟨m,hm⟩:=h1;exact DataW.trod_lt m _ _ _ hm
  obtain⟨i1,rfl⟩:=okWide_int underlying5 (hval 1 5 v1 rfl rfl)
  obtain⟨x1,hx1⟩:=op5.val h1 (b5U rfl)
  clear hA0 hval0
  have hw:=C4.calls (b7R x0 x1) (c6n hL) ⟨_,_,rfl,hx0,_,_,rfl,hx1,rfl⟩
  refine hw.mono fun e W' ⟨he,bel⟩ => ?_
  subst he
  exact⟨_,rfl,_,_,_,[],_,[],hW',trodAll_mk1 (shut_bool underlying4 _),(trodAll_cons_mk (Below.trod b5V (by kernel_rfl) (of_decide_eq_true (by kernel_rfl)) h0 bel lt0) (trodAll_cons_mk (Below.trod b5V (by kernel_rfl) (of_decide_eq_true (by kernel_rfl)) h1 bel lt1) trodAll_mk0)),rfl,bel.frame _,fun h=>by cases h⟩
theorem issuerCompacts_holds:Rows.IssuerCompactsSaid :=
 OpenClaim.holds_of_wide 4 Tryz.f4 rfl rfl rfl rfl rfl rfl rfl ⟨rfl,rfl,rfl,rfl,rfl⟩ rfl rfl rfl rfl rfl (by kernel_rfl) func4 (by kernel_rfl)
  (of_decide_eq_true (by kernel_rfl)) (by unfold Func.isWrapper;first|(rw [if_pos (by decide +kernel)];kernel_rfl)|(rw [if_neg (by decide +kernel)];exact⟨rfl,rfl⟩))
  (fun os started H enc _=>issuerCompacts_lifted os started H enc)
set_option maxRecDepth 100000 in
theorem issuerCompacts_card:Rows.IssuerCompactsCardSaid :=
 Claim7.holds_tied_plain_at .later [] [.data,.data] true (true, "504ebc798fa0ddb08daa63e027fb3385d006d20408489e7375be5ca167193b53") false
  issuerCompacts_holds (fun _ h=>by cases h) (by kernel_rfl) (fun _ h=>by cases h) issuerCompacts_row_tie rfl ⟨rfl,rfl⟩ (by kernel_rfl) rfl
  (fun f fn hf hfn=>by
   obtain rfl:f=4:=Option.some.inj ((show prog.funcNamed "macaroon/macaroonlaw26.IssuerCompacts" = some 4 by kernel_rfl).symm.trans hf) |>.symm
   obtain rfl:fn=Tryz.f4:=(Option.some.inj (func4.symm.trans hfn)).symm
   exact⟨by kernel_rfl,fun j t ht=>by
    rw [Tryz.params4] at ht
    rcases j with _|_|j
    ·obtain rfl:22=t:=by simpa using ht
     exact(show prog.wantsStandIn 22=false by kernel_rfl)
    ·obtain rfl:5=t:=by simpa using ht
     exact(show prog.wantsStandIn 5=false by kernel_rfl)
    ·simp at ht⟩)
  (by kernel_rfl)
#print axioms issuerCompacts_card
end Go.Proofs.YtfdifhfnpbphaaaGreatDoor
