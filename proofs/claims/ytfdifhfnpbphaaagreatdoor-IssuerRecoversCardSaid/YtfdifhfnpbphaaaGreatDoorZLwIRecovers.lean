/- Proved: for all arguments, IssuerRecovers returns true and leaves what was handed in as it was. Condition: the variables k of package sha and bits of package predicate hold what the program's text lays (the card ties them to the text). -/
import Derived.Test.YtfdifhfnpbphaaaGreatDoorZ6
set_option maxRecDepth 1000000
set_option synthInstance.maxSize 1000000
set_option synthInstance.maxHeartbeats 10000000
set_option linter.unusedVariables false
set_option linter.unusedSimpArgs false
namespace Go.Proofs.YtfdifhfnpbphaaaGreatDoor
open Go.Proofs.Tryz
open Go.Fl Go.Ab Go.Mac Go.Sha
open Go.ChangeShapes Go.WideShapes Go.ChangeAt Go.RowKit
set_option maxRecDepth 100000 in
theorem issuerRecovers_lifted (os:Os)(started:os.Started)(H:Type)(enc:TypeId×Value→H) :
    ReturnsInHanded {} Tryz.checked os 3 .any (fun w args=>(Rows.issuerRecoversSpec.pre enc prog Tryz.f3 Rows.issuerRecoversRow.domain false w args∧laidMet prog Rows.issuerRecoversRow.laid w)∧sizedMet enc prog Tryz.f3 (OpenSpec.ofChange Rows.issuerRecoversSpec) false w args)
      (Rows.issuerRecoversSpec.post enc prog Tryz.f3 false true false false):=by
  refine returnsInHanded_of_change_and (C:=Tryz.checked) (X:=fun w _=>laidMet prog Rows.issuerRecoversRow.laid w) (fun _ _ _ hh h=>h.of_heap hh) d2Q started (by kernel_rfl) func3
    (ChangeSpec.witness_at (enc:=enc) (C:=Tryz.checked) (os:=os) (X:=fun w _=>laidMet prog Rows.issuerRecoversRow.laid w) false (c3H os) #[.slice none 0 0,u8 0,u8 0] 8 rfl (by kernel_rfl) (by kernel_rfl) (by kernel_rfl) (by kernel_rfl) (by kernel_rfl) (d0L os _)) ?_
  intro W base args ds gs before hval0 hW hcnd0 _ hL _
  have hval:∀ (j:Nat) t v,Tryz.f3.params[j]?=some t→args[j]?=some v→Value.okWide prog W .any base t v:=hval0
  have hW':=hW
  obtain⟨p,q,hA0,hV,rfl,hfz,hnd⟩:=hW
  have hA:DataW.TrodAll enc prog W 0 (fun _=>true) true Tryz.f3.params.toList args.toList ds p:=hA0
  rw [Tryz.params3] at hA hval
  obtain⟨v0,vs0,d0,ds0,p0,q0,hargs,rfl,rfl,h0,r0⟩:=trodAll_cons hA
  obtain⟨v1,vs1,d1,ds1,p1,q1,rfl,rfl,rfl,h1,r1⟩:=trodAll_cons r0
  obtain⟨v2,vs2,d2,ds2,p2,q2,rfl,rfl,rfl,h2,r2⟩:=trodAll_cons r1
  obtain⟨rfl,rfl,rfl⟩:=trodAll_nil r2
  obtain rfl:args = #[v0,v1,v2]:=by cases args;simp_all
  obtain⟨rfl,rfl⟩:=trodVars_none hV
  have lt0:∀ x∈p0,x.block < W.heap.size:=by obtain⟨m,hm⟩:=h0;exact DataW.trod_lt m _ _ _ hm
  obtain⟨a0,l0,c0,rfl⟩:=okWide_slice underlying22 (hval 0 22 v0 rfl rfl)
  obtain⟨x0,hx0⟩:=d2R.val h0 (b0M rfl)
  have lt1:∀ x∈p1,x.block < W.heap.size:=by obtain⟨m,hm⟩:=h1;exact DataW.trod_lt m _ _ _ hm
  obtain⟨i1,rfl⟩:=okWide_int underlying5 (hval 1 5 v1 rfl rfl)
  obtain⟨x1,hx1⟩:=op5.val h1 (b0M rfl)
  have lt2:∀ x∈p2,x.block < W.heap.size:=by obtain⟨m,hm⟩:=h2;exact DataW.trod_lt m _ _ _ hm
  obtain⟨i2,rfl⟩:=okWide_int underlying5 (hval 2 5 v2 rfl rfl)
  obtain⟨x2,hx2⟩:=op5.val h2 (b0M rfl)
  clear hA0 hval0
  have hw:=C3.calls (b7r x0 x1 x2) (c5V hL) ⟨_,_,rfl,hx0,_,_,rfl,hx1,_,_,rfl,hx2,rfl⟩
  refine hw.mono fun e W' ⟨he,bel⟩ => ?_
  subst he
  exact⟨_,rfl,_,_,_,[],_,[],hW',trodAll_mk1 (shut_bool underlying4 _),(trodAll_cons_mk (Below.trod b0N (by kernel_rfl) (of_decide_eq_true (by kernel_rfl)) h0 bel lt0) (trodAll_cons_mk (Below.trod b0N (by kernel_rfl) (of_decide_eq_true (by kernel_rfl)) h1 bel lt1) (trodAll_cons_mk (Below.trod b0N (by kernel_rfl) (of_decide_eq_true (by kernel_rfl)) h2 bel lt2) trodAll_mk0))),rfl,bel.frame _,fun h=>by cases h⟩
theorem issuerRecovers_holds:Rows.IssuerRecoversSaid :=
 OpenClaim.holds_of_wide 3 Tryz.f3 rfl rfl rfl rfl rfl rfl rfl ⟨rfl,rfl,rfl,rfl,rfl⟩ rfl rfl rfl rfl rfl (by kernel_rfl) func3 (by kernel_rfl)
  (of_decide_eq_true (by kernel_rfl)) (by unfold Func.isWrapper;first|(rw [if_pos (by decide +kernel)];kernel_rfl)|(rw [if_neg (by decide +kernel)];exact⟨rfl,rfl⟩))
  (fun os started H enc _=>issuerRecovers_lifted os started H enc)
set_option maxRecDepth 100000 in
theorem issuerRecovers_card:Rows.IssuerRecoversCardSaid :=
 Claim7.holds_tied_plain_at .later [] [.data,.data] true (true, "504ebc798fa0ddb08daa63e027fb3385d006d20408489e7375be5ca167193b53") false
  issuerRecovers_holds (fun _ h=>by cases h) (by kernel_rfl) (fun _ h=>by cases h) issuerRecovers_row_tie rfl ⟨rfl,rfl⟩ (by kernel_rfl) rfl
  (fun f fn hf hfn=>by
   obtain rfl:f=3:=Option.some.inj ((show prog.funcNamed "macaroon/macaroonlaw26.IssuerRecovers" = some 3 by kernel_rfl).symm.trans hf) |>.symm
   obtain rfl:fn=Tryz.f3:=(Option.some.inj (func3.symm.trans hfn)).symm
   exact⟨by kernel_rfl,fun j t ht=>by
    rw [Tryz.params3] at ht
    rcases j with _|_|_|j
    ·obtain rfl:22=t:=by simpa using ht
     exact(show prog.wantsStandIn 22=false by kernel_rfl)
    ·obtain rfl:5=t:=by simpa using ht
     exact(show prog.wantsStandIn 5=false by kernel_rfl)
    ·obtain rfl:5=t:=by simpa using ht
     exact(show prog.wantsStandIn 5=false by kernel_rfl)
    ·simp at ht⟩)
  (by kernel_rfl)
#print axioms issuerRecovers_card
end Go.Proofs.YtfdifhfnpbphaaaGreatDoor
