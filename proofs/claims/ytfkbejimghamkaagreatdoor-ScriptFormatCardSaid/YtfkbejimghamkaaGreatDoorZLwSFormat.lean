/- Proved: for all arguments, ScriptFormat returns true and leaves what was handed in as it was. Condition: the listed package variables (words and bits of package predicate, and the library's tables and errors) hold what the program's text lays (the card ties them to the text). -/
import Derived.Test.YtfkbejimghamkaaGreatDoorZ7
set_option maxRecDepth 1000000
set_option synthInstance.maxSize 1000000
set_option synthInstance.maxHeartbeats 10000000
set_option linter.unusedVariables false
set_option linter.unusedSimpArgs false
namespace Go.Proofs.YtfkbejimghamkaaGreatDoor
open Go.Proofs.Tryz
open Go.Fl Go.Ab Go.Mac Go.Sha
open Go.ChangeShapes Go.WideShapes Go.ChangeAt Go.RowKit
set_option maxRecDepth 100000 in
theorem scriptFormat_lifted (os : Os) (started : os.Started) (H : Type) (enc : TypeId × Value → H) :
    ReturnsInHanded {} Tryz.checked os 3 .any (fun w args=>(Rows.scriptFormatSpec.pre enc prog Tryz.f3 Rows.scriptFormatRow.domain false w args∧laidMet prog Rows.scriptFormatRow.laid w)∧sizedMet enc prog Tryz.f3 (OpenSpec.ofChange Rows.scriptFormatSpec) false w args)
      (Rows.scriptFormatSpec.post enc prog Tryz.f3 false true false false):=by
  refine W5 (C:=Tryz.checked) (X:=fun w _=>laidMet prog Rows.scriptFormatRow.laid w) (fun _ _ _ hh h=>h.of_heap hh) b4W started (by kernel_rfl) func3
    (ChangeSpec.witness_at (enc:=enc) (C:=Tryz.checked) (os:=os) (X:=fun w _=>laidMet prog Rows.scriptFormatRow.laid w) false (a8w os) #[.slice none 0 0,.slice none 0 0,i64 0,i64 0,u8 0] 8 rfl (by kernel_rfl) (by kernel_rfl) (by kernel_rfl) (by kernel_rfl) (by kernel_rfl) (b2C os _)) ?_
  intro W base args ds gs before hval0 hW hcnd0 hSh hL _
  have hval:∀ (j:Nat) t v,Tryz.f3.params[j]?=some t→args[j]?=some v→Value.okWide prog W .any base t v:=hval0
  have hW':=hW
  obtain⟨p,q,hA0,hV,rfl,hfz,hnd⟩:=hW
  have hA:DataW.TrodAll enc prog W 0 (fun _=>true) true Tryz.f3.params.toList args.toList ds p:=hA0
  rw [Tryz.params3] at hA hval
  obtain⟨v0,vs0,d0,ds0,p0,q0,hargs,rfl,rfl,h0,r0⟩:=trodAll_cons hA
  obtain⟨v1,vs1,d1,ds1,p1,q1,rfl,rfl,rfl,h1,r1⟩:=trodAll_cons r0
  obtain⟨v2,vs2,d2,ds2,p2,q2,rfl,rfl,rfl,h2,r2⟩:=trodAll_cons r1
  obtain⟨v3,vs3,d3,ds3,p3,q3,rfl,rfl,rfl,h3,r3⟩:=trodAll_cons r2
  obtain⟨v4,vs4,d4,ds4,p4,q4,rfl,rfl,rfl,h4,r4⟩:=trodAll_cons r3
  obtain⟨rfl,rfl,rfl⟩:=trodAll_nil r4
  obtain rfl:args = #[v0,v1,v2,v3,v4]:=by cases args;simp_all
  obtain⟨rfl,rfl⟩:=trodVars_none hV
  have lt0:∀ x∈p0,x.block < W.heap.size:=by obtain⟨m,hm⟩:=h0;exact DataW.trod_lt m _ _ _ hm
  obtain⟨a0,l0,c0,rfl⟩:=okWide_slice underlying22 (hval 0 22 v0 rfl rfl)
  obtain⟨x0,hx0⟩:=b6j.val h0 (Q8 rfl)
  have lt1:∀ x∈p1,x.block < W.heap.size:=by obtain⟨m,hm⟩:=h1;exact DataW.trod_lt m _ _ _ hm
  obtain⟨a1,l1,c1,rfl⟩:=okWide_slice underlying23 (hval 1 23 v1 rfl rfl)
  obtain⟨x1,hx1⟩:=b4Z.val h1 (Q8 rfl)
  have lt2:∀ x∈p2,x.block < W.heap.size:=by obtain⟨m,hm⟩:=h2;exact DataW.trod_lt m _ _ _ hm
  obtain⟨i2,rfl⟩:=okWide_int underlying3 (hval 2 3 v2 rfl rfl)
  obtain⟨x2,hx2⟩:=op3.val h2 (Q8 rfl)
  have lt3:∀ x∈p3,x.block < W.heap.size:=by obtain⟨m,hm⟩:=h3;exact DataW.trod_lt m _ _ _ hm
  obtain⟨i3,rfl⟩:=okWide_int underlying3 (hval 3 3 v3 rfl rfl)
  obtain⟨x3,hx3⟩:=op3.val h3 (Q8 rfl)
  have lt4:∀ x∈p4,x.block < W.heap.size:=by obtain⟨m,hm⟩:=h4;exact DataW.trod_lt m _ _ _ hm
  obtain⟨i4,rfl⟩:=okWide_int underlying5 (hval 4 5 v4 rfl rfl)
  obtain⟨x4,hx4⟩:=op5.val h4 (Q8 rfl)
  clear hA0 hval0
  have hw:=y6.calls (a4A x0 x1 x2 x3 x4) (a86 hL hSh) ⟨_,_,rfl,hx0,_,_,rfl,hx1,_,_,rfl,hx2,_,_,rfl,hx3,_,_,rfl,hx4,rfl⟩
  refine hw.mono fun e W' ⟨he,bel⟩ => ?_
  subst he
  exact⟨_,rfl,_,_,_,[],_,[],hW',trodAll_mk1 (shut_bool underlying4 _),(trodAll_cons_mk (Below.trod Q9 (by kernel_rfl) (of_decide_eq_true (by kernel_rfl)) h0 bel lt0) (trodAll_cons_mk (Below.trod Q9 (by kernel_rfl) (of_decide_eq_true (by kernel_rfl)) h1 bel lt1) (trodAll_cons_mk (Below.trod Q9 (by kernel_rfl) (of_decide_eq_true (by kernel_rfl)) h2 bel lt2) (trodAll_cons_mk (Below.trod Q9 (by kernel_rfl) (of_decide_eq_true (by kernel_rfl)) h3 bel lt3) (trodAll_cons_mk (Below.trod Q9 (by kernel_rfl) (of_decide_eq_true (by kernel_rfl)) h4 bel lt4) trodAll_mk0))))),rfl,bel.frame _,fun h=>by cases h⟩
theorem scriptFormat_holds:Rows.ScriptFormatSaid :=
 OpenClaim.holds_of_wide 3 Tryz.f3 rfl rfl rfl rfl rfl rfl rfl ⟨rfl,rfl,rfl,rfl,rfl⟩ rfl rfl rfl rfl rfl (by kernel_rfl) func3 (by kernel_rfl)
  (of_decide_eq_true (by kernel_rfl)) (by unfold Func.isWrapper;first|(rw [if_pos (by decide +kernel)];kernel_rfl)|(rw [if_neg (by decide +kernel)];exact⟨rfl,rfl⟩))
  (fun os started H enc _=>scriptFormat_lifted os started H enc)
set_option maxRecDepth 100000 in
theorem scriptFormat_card:Rows.ScriptFormatCardSaid :=
 Claim7.holds_tied_plain_at .later [] [.data,.data,.data,.data,.sentinel,.sentinel,.data,.data,.pinned] true (true, "6d3e40d2c84cadd5cfd05bb9e46f19514b52cd58bf92da850fb6d69992ecd904") true
  scriptFormat_holds (fun _ h=>by cases h) (by kernel_rfl) (fun _ h=>by cases h) scriptFormat_row_tie rfl ⟨rfl,rfl⟩ (by kernel_rfl) rfl
  (fun f fn hf hfn=>by
   obtain rfl:f=3:=Option.some.inj ((show prog.funcNamed "macaroon/macaroonlaw33.ScriptFormat" = some 3 by kernel_rfl).symm.trans hf) |>.symm
   obtain rfl:fn=Tryz.f3:=(Option.some.inj (func3.symm.trans hfn)).symm
   exact⟨by kernel_rfl,fun j t ht=>by
    rw [Tryz.params3] at ht
    rcases j with _|_|_|_|_|j
    ·obtain rfl:22=t:=by simpa using ht
     exact(show prog.wantsStandIn 22=false by kernel_rfl)
    ·obtain rfl:23=t:=by simpa using ht
     exact(show prog.wantsStandIn 23=false by kernel_rfl)
    ·obtain rfl:3=t:=by simpa using ht
     exact(show prog.wantsStandIn 3=false by kernel_rfl)
    ·obtain rfl:3=t:=by simpa using ht
     exact(show prog.wantsStandIn 3=false by kernel_rfl)
    ·obtain rfl:5=t:=by simpa using ht
     exact(show prog.wantsStandIn 5=false by kernel_rfl)
    ·simp at ht⟩)
  (by kernel_rfl)
#print axioms scriptFormat_card
end Go.Proofs.YtfkbejimghamkaaGreatDoor
