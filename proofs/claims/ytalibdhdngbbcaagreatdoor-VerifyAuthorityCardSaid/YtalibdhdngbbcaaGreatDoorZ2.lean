/- Plain Lean over any program, and walks of this seat's functions: contracts, each proved once (part 2). -/
import Derived.Test.YtalibdhdngbbcaaGreatDoorZ1
set_option maxRecDepth 1000000
set_option synthInstance.maxSize 1000000
set_option synthInstance.maxHeartbeats 10000000
set_option linter.unusedVariables false
set_option linter.unusedSimpArgs false
namespace Go.Ab
open Go.Fl Go.RowKit
open p2 (rep)
structure AT where
 α:Type
 r:p2 α
 d:α
def AT.res (t:AT) (b:Nat):AV := @AV.ln t.α t.α t.r t.r (ptr b 0) (@j6.id t.α t.r)
def AT.blk (t:AT) (b:Nat):Bool×D8:=(true,@D8.ob t.α t.r (ptr b 0) t.d)
def T8:Bool×D8:=(true,.fz undef .any)
def hA (listed:Nat→Bool) (ws:Nat→Nat) (al:List (Nat×AT)):j7:=al.map fun p=>bif listed p.1 then p.2.blk (ws p.1) else T8
theorem I9.c4w {P:Program} {C:Ctx} {N:Nat} {Q:Exit→x5→j7→Prop} {σ:x5} {H:j7} {c:Code} (k:I9 P C N c Q σ (T8::H)):I9 P C N c Q σ H:=fun ρ I L hs =>
 wpS.pad (k ρ I ([]::L) ⟨hs.env,⟨[],L,rfl,⟨⟨rfl,trivial⟩,fun _ p hp=>by cases hp⟩,hs.heap⟩,hs.W3⟩)
theorem a5E {L:Lh} {i:Nat} (h:L[i]?=some []) (X:List (Nat×Obj)):(L.set i X).flatten.Perm (X++L.flatten):=by
 obtain⟨h1,h2⟩:=a1I L i [] h X
 rw [h1,h2,List.nil_append,←List.append_assoc,←List.append_assoc]
 exact List.Perm.append_right _ List.perm_append_comm
theorem b2Q {C:Ctx} {I:Im} {L M:Lh} {w:World} (h:St C I L w) (hp:M.flatten.Perm L.flatten):St C I M w :=
 ⟨⟨h.mem.im,fun p hq=>h.mem.loc p (hp.mem_iff.1 hq),fun p hq=>h.mem.sep p (hp.mem_iff.1 hq),(hp.map Prod.fst).nodup_iff.2 h.mem.nodup⟩,h.chg,fun p hq=>h.own p (hp.mem_iff.1 hq),h.W3,h.new⟩
theorem B3.c3j {P : Program} {C : Ctx} {N : Nat} {o : Oper} {σ : x5} {H : j7} {K : AV → j7 → Prop} {F : Bool × D8 → j7} (hh : y4 H T8 F)
    (h:B3 P C N o σ H (fun r H'=>∃ B,H'=B::H∧K r (F B))):B3 P C N o σ H K:=fun ρ I L hs a w ha hst=>by
  refine(h ρ I L hs a w ha hst).mono ?_
  rintro v w' ⟨J,L',q1,q2,r,H',q3,q4,B,rfl,q5⟩
  obtain⟨X,R,rfl,h1,h2⟩:=q4
  obtain⟨j,Y,h3,h4,h5⟩:=hh.get h2
  have hY:Y = []:=h4.1.1
  subst hY
  exact⟨J,R.set j X,b2Q q1 (a5E h3 X),q2,r,F B,q3,h5 J B X (Le.refl J) h1,q5⟩
def rA (ws:Nat→Nat) (al:List (Nat×AT)):List (Nat×AV):=al.map fun p=>(p.1,p.2.res (ws p.1))
def upd (ws:Nat→Nat) (i b:Nat):Nat→Nat:=fun j=>if j=i then b else ws j
theorem a7I {ws:Nat→Nat}:∀ {al:List (Nat×AT)} {p:Nat×AT},(al.map Prod.fst).Nodup→p∈al→o9 (rA ws al) p.1=some (p.2.res (ws p.1))
 | q::al,p,hn,hp=>by
  rw [List.map_cons,List.nodup_cons] at hn
  show o9 ((q.1,q.2.res (ws q.1))::rA ws al) p.1=_
  rw [y5]
  rcases List.mem_cons.1 hp with rfl|hp
  ·rw [if_pos rfl]
  ·rw [if_neg (fun e=>hn.1 (by rw [e];exact List.mem_map_of_mem hp))]
   exact a7I hn.2 hp
theorem R0 {ws:Nat→Nat}:∀ {al:List (Nat×AT)} {j:Nat},j∉al.map Prod.fst→o9 (rA ws al) j=none
 | [],j,_=>rfl
 | q::al,j,h=>by
  show o9 ((q.1,q.2.res (ws q.1))::rA ws al) j=_
  rw [List.map_cons,List.mem_cons,not_or] at h
  rw [y5,if_neg (fun e=>h.1 e.symm)]
  exact R0 h.2
theorem a1W {ws ws':Nat→Nat} {j:Nat} (h:ws j=ws' j):∀ {al:List (Nat×AT)},o9 (rA ws al) j=o9 (rA ws' al) j
 | []=>rfl
 | q::al=>by
  show o9 ((q.1,q.2.res (ws q.1))::rA ws al) j=o9 ((q.1,q.2.res (ws' q.1))::rA ws' al) j
  rw [y5,y5]
  by_cases e:q.1=j
  ·subst e;rw [if_pos rfl,if_pos rfl,h]
  ·rw [if_neg e,if_neg e];exact a1W h
theorem b4n {f:Nat→Bool} {ws:Nat→Nat} {q:Nat×AT} {al:List (Nat×AT)}:hA f ws (q::al)=(bif f q.1 then q.2.blk (ws q.1) else T8)::hA f ws al:=rfl
theorem a1d {f g:Nat→Bool} {ws ws':Nat→Nat}:∀ {al:List (Nat×AT)},(∀ p∈al,f p.1=g p.1∧ws p.1=ws' p.1)→hA f ws al=hA g ws' al
 | [],_=>rfl
 | q::al,h=>by
  have h1:=h q List.mem_cons_self
  show(bif f q.1 then q.2.blk (ws q.1) else T8)::hA f ws al=(bif g q.1 then q.2.blk (ws' q.1) else T8)::hA g ws' al
  rw [h1.1,h1.2,a1d fun p hp=>h p (List.mem_cons_of_mem _ hp)]
theorem b2R {f:Nat→Bool} {ws:Nat→Nat} {al:List (Nat×AT)} (h:∀ p∈al,f p.1=true):hA f ws al=al.map fun p=>p.2.blk (ws p.1) :=
 List.map_congr_left fun p hp=>by rw [h p hp];rfl
theorem a9O {f : Nat → Bool} {ws : Nat → Nat} {H0 : j7} {p : Nat × AT} : ∀ {al : List (Nat × AT)}, (al.map Prod.fst).Nodup → p ∈ al → f p.1 = false →
    ∃ F,y4 (hA f ws al++H0) T8 F∧∀ b,F (p.2.blk b)=hA (fun j=>if j=p.1 then true else f j) (upd ws p.1 b) al++H0
  | q::al,hn,hp,hf=>by
    rw [List.map_cons,List.nodup_cons] at hn
    rcases List.mem_cons.1 hp with rfl|hp
    · refine⟨fun X=>X::(hA f ws al++H0),?_,fun b => ?_⟩
      · show y4 ((bif f p.1 then p.2.blk (ws p.1) else T8)::(hA f ws al++H0)) T8 _
        rw [hf];exact .z
      · rw [b4n,List.cons_append,if_pos rfl]
        show p.2.blk b::(hA f ws al++H0)=_
        rw [a1d (g:=fun j=>if j=p.1 then true else f j) (ws':=upd ws p.1 b) fun q hq => ?_]
        · simp [upd]
        · have:q.1≠p.1:=fun e=>hn.1 (by rw [←e];exact List.mem_map_of_mem hq)
          simp [upd,this]
    · obtain⟨F,h1,h2⟩:=a9O (H0:=H0) (ws:=ws) hn.2 hp hf
      have hne:q.1≠p.1:=fun e=>hn.1 (by rw [e];exact List.mem_map_of_mem hp)
      refine⟨fun X=>(bif f q.1 then q.2.blk (ws q.1) else T8)::F X,.s h1,fun b => ?_⟩
      rw [b4n,List.cons_append,if_neg hne]
      show _::F (p.2.blk b)=_
      rw [h2 b]
      simp [upd,hne]
def a2R (ops:Array Oper) (n:Nat) (ss:List (List (Nat×Nat))) (ks ci:List Nat):Bool :=
 S7 ops n ss ci&&ci.all (fun i=>match ops[i]? with|some o=>o.guard.isNone|none=>false)&&ks.all (fun i=>Nat.blt i n && !(ci.contains i)) &&
 (match ci with|i::_=>ks.all (fun j=>Region.waitsFor .any ops i j) | []=>true)
def a6l (P : Program) (C : Ctx) (N : Nat) {ι : Type 1} (HT : ι → j7) (σ : x5) (full : List (Nat × AV)) (F : List (Nat × AV) → j7 → Prop) (cl : List (Nat × Oper × List (Nat × Nat))) (al : List (Nat × AT)) (ci : List Nat) (H0 : j7)
    (listed:Array Bool) (cacc:List (Nat×AV)) (H:j7):Prop :=
  ((∀ i∈ci,listed.getD i false=false)∧∃ ws,(∀ j,o9 cacc j=if listed.getD j false=true then o9 (rA ws al) j else none)∧H=hA (fun j=>listed.getD j false) ws al++H0) ∨
  ((∀ p∈al,listed.getD p.1 false=true)∧∃ k c1,k≤ci.length∧(∀ m i,ci[m]?=some i→(listed.getD i false=true↔m < k))∧(∀ j,o9 cacc j=o9 c1 j)∧S2 P C N σ HT full F (cl.drop k) c1 H)
section
variable {P:Program} {C:Ctx} {N n:Nat} {ι:Type 1} {HT:ι→j7} {σ:x5} {full:List (Nat×AV)} {F:List (Nat×AV)→j7→Prop} {l:List Oper} {ss:List (List (Nat×Nat))} {al:List (Nat×AT)} {ci:List Nat} {H0:j7} {listed:Array Bool} {cacc:List (Nat×AV)} {H:j7}
theorem a6l.pure {i:Nat} (h:a6l P C N HT σ full F (I3 l ss ci) al ci H0 listed cacc H) (h1:i∉ci) (h2:i∉al.map Prod.fst):a6l P C N HT σ full F (I3 l ss ci) al ci H0 (listed.setIfInBounds i true) cacc H:=by
 have hput:∀ j,j≠i→(listed.setIfInBounds i true).getD j false=listed.getD j false:=fun j hj=>getD_set_ne false (Ne.symm hj)
 rcases h with ⟨ha,ws,hb,hc⟩|⟨ha,k,c1,hk,hb,hc,hd⟩
 ·refine .inl ⟨fun j hj=>by rw [hput j (fun e=>h1 (e▸hj))];exact ha j hj,ws,fun j => ?_,?_⟩
  ·by_cases e:j=i
   ·subst e
    rw [hb j,R0 h2];simp
   ·rw [hput j e];exact hb j
  ·rw [hc,a1d fun p hp=>⟨?_,rfl⟩]
   exact(hput p.1 (fun e=>h2 (e▸List.mem_map_of_mem hp))).symm
 ·refine .inr ⟨fun p hp=>by rw [hput p.1 (fun e=>h2 (e▸List.mem_map_of_mem hp))];exact ha p hp,k,c1,hk,fun m j hj => ?_,hc,hd⟩
  rw [hput j (fun e=>h1 (e▸List.mem_of_getElem? hj))];exact hb m j hj
theorem a6l.chained {i : Nat} (hch : a2R l.toArray n ss (al.map Prod.fst) ci = true) (hplan : ∀ ws, S2 P C N σ HT full F (I3 l ss ci) (rA ws al) ((al.map fun p => p.2.blk (ws p.1)) ++ H0))
    (h:a6l P C N HT σ full F (I3 l ss ci) al ci H0 listed cacc H) (hi:i∈ci) (hw:∀ j,Region.waitsFor .any l.toArray i j=true→listed.getD j false=true) :
    (∀ p∈al,listed.getD p.1 false=true)∧∃ k c1,k≤ci.length∧(∀ m i,ci[m]?=some i→(listed.getD i false=true↔m < k))∧(∀ j,o9 cacc j=o9 c1 j)∧S2 P C N σ HT full F ((I3 l ss ci).drop k) c1 H:=by
  rcases h with ⟨ha,ws,hb,hc⟩|h
  · simp only [a2R,Bool.and_eq_true] at hch
    obtain⟨⟨⟨hch,_⟩,hks⟩,hfirst⟩:=hch
    obtain⟨m,hm⟩:=List.mem_iff_getElem?.1 hi
    have hml:m < ci.length:=(List.getElem?_eq_some_iff.1 hm).1
    unfold S7 at hch
    cases m with
    | succ mj =>
      have h1:=List.all_eq_true.1 hch (mj+1) (List.mem_range.2 hml)
      simp only [hm,Bool.and_eq_true] at h1
      cases hj:ci[mj]? with
      | none=>simp [hj] at h1
      | some j =>
        simp only [hj,Bool.and_eq_true] at h1
        have h2:=hw j h1.2.2
        rw [ha j (List.mem_of_getElem? hj)] at h2;cases h2
    | zero =>
      cases hci:ci with
      | nil=>rw [hci] at hml;exact absurd hml (by simp)
      | cons c r =>
        rw [hci] at hm hfirst
        have hci2:c=i:=by simpa using hm
        subst hci2
        have hall:∀ p∈al,listed.getD p.1 false=true:=fun p hp=>hw p.1 (List.all_eq_true.1 hfirst p.1 (List.mem_map_of_mem hp))
        refine⟨hall,0,rA ws al,Nat.zero_le _,fun m j hj=>⟨fun hl => ?_,fun h=>by omega⟩,fun j => ?_,?_⟩
        · rw [ha j (by rw [hci];exact List.mem_of_getElem? hj)] at hl;cases hl
        · rw [hb j]
          split
          · rfl
          · rename_i hn
            refine(R0 fun hj => ?_).symm
            obtain⟨p,hp,rfl⟩:=List.mem_map.1 hj
            exact hn (hall p hp)
        · rw [List.drop_zero,←hci,hc,b2R hall]
          exact hplan ws
  · exact h
theorem a6l.alloc {p : Nat × AT} (hn : (al.map Prod.fst).Nodup) (hp : p ∈ al) (hd : p.1 ∉ ci) (h : a6l P C N HT σ full F (I3 l ss ci) al ci H0 listed cacc H) (hun : listed.getD p.1 false = false) (hlt : p.1 < listed.size) :
    ∃ F',y4 H T8 F'∧∀ b,a6l P C N HT σ full F (I3 l ss ci) al ci H0 (listed.setIfInBounds p.1 true) ((p.1,p.2.res b)::cacc) (F' (p.2.blk b)):=by
  have hput:∀ j,j≠p.1→(listed.setIfInBounds p.1 true).getD j false=listed.getD j false:=fun j hj=>getD_set_ne false (Ne.symm hj)
  have hset:(listed.setIfInBounds p.1 true).getD p.1 false=true:=G7 hlt
  rcases h with ⟨ha,ws,hb,hc⟩|⟨ha,_⟩
  · obtain⟨F',h1,h2⟩:=a9O (f:=fun j=>listed.getD j false) (ws:=ws) (H0:=H0) hn hp hun
    refine⟨F',hc▸h1,fun b => .inl ⟨fun j hj=>by rw [hput j (fun e=>hd (e▸hj))];exact ha j hj,upd ws p.1 b,fun j => ?_,?_⟩⟩
    · rw [y5]
      by_cases e:p.1=j
      · subst e
        rw [if_pos rfl,if_pos hset,a7I hn hp]
        simp [upd]
      · rw [if_neg e,hput j (Ne.symm e),hb j,a1W (ws:=ws) (ws':=upd ws p.1 b) (by simp [upd,Ne.symm e])]
    · rw [h2 b]
      congr 1
      refine a1d fun q hq=>⟨?_,rfl⟩
      by_cases e:q.1=p.1
      · rw [e,if_pos rfl,hset]
      · rw [if_neg e,hput _ e]
  · rw [ha p hp] at hun;cases hun
theorem a6l.chain {i : Nat} {o : Oper} {s : List (Nat × Nat)} (hch : a2R l.toArray n ss (al.map Prod.fst) ci = true) (hcl : ∀ (m i : Nat) (o : Oper) (s : List (Nat × Nat)), ci[m]? = some i → l[i]? = some o → ss[i]? = some s → (I3 l ss ci)[m]? = some (i, o, s)) (hnd : ci.Nodup)
    (hplan:∀ ws,S2 P C N σ HT full F (I3 l ss ci) (rA ws al) ((al.map fun p=>p.2.blk (ws p.1))++H0))
    (h:a6l P C N HT σ full F (I3 l ss ci) al ci H0 listed cacc H) (hi:i∈ci) (hol:l[i]?=some o) (hs:ss[i]?=some s) (hun:listed.getD i false=false) (hw:∀ j,Region.waitsFor .any l.toArray i j=true→listed.getD j false=true) (hlt:i < listed.size) :
    o.guard=none∧B3 P C N o (D3 σ (cacc++full) s (C4 o)) H (fun r H'=>(∀ r0,o9 full i=some r0→r=r0)∧a6l P C N HT σ full F (I3 l ss ci) al ci H0 (listed.setIfInBounds i true) ((i,r)::cacc) H'):=by
  obtain⟨hall,k,c1,hk,hb,hc,hpl⟩:=h.chained hch hplan hi hw
  simp only [a2R,Bool.and_eq_true] at hch
  obtain⟨⟨⟨hch,hgs⟩,hks⟩,_⟩:=hch
  have hg:o.guard=none:=by
    have:=List.all_eq_true.1 hgs i hi
    simp only [show l.toArray[i]?=some o by simpa using hol] at this
    exact Option.isNone_iff_eq_none.1 this
  have hput:∀ j,j≠i→(listed.setIfInBounds i true).getD j false=listed.getD j false:=fun j hj=>getD_set_ne false (Ne.symm hj)
  obtain⟨m,hm⟩:=List.mem_iff_getElem?.1 hi
  have hml:m < ci.length:=(List.getElem?_eq_some_iff.1 hm).1
  have hmk:¬m < k:=fun h=>by have:=(hb m i hm).2 h;rw [hun] at this;cases this
  have hkm:m≤k:=by
    unfold S7 at hch
    cases m with
    | zero=>omega
    | succ mj =>
      have h1:=List.all_eq_true.1 hch (mj+1) (List.mem_range.2 hml)
      simp only [hm,Bool.and_eq_true] at h1
      cases hj:ci[mj]? with
      | none=>simp [hj] at h1
      | some j =>
        simp only [hj,Bool.and_eq_true] at h1
        have:=(hb mj j hj).1 (hw j h1.2.2)
        omega
  obtain rfl:m=k:=by omega
  have hcc:=hcl m i o s hm hol hs
  have hdrop:(I3 l ss ci).drop m=(i,o,s)::(I3 l ss ci).drop (m+1):=by
    have hlt:=(List.getElem?_eq_some_iff.1 hcc).1
    rw [List.drop_eq_getElem_cons hlt]
    congr 1
    rw [List.getElem?_eq_getElem hlt] at hcc
    exact Option.some.inj hcc
  rw [hdrop,S2] at hpl
  replace hpl:=hpl.2
  have henv:D3 σ (cacc++full) s (C4 o)=D3 σ (c1++full) s (C4 o):=a3V (fun t j _=>by rw [C0,C0,hc j]) _
  refine⟨hg,?_⟩
  rw [henv]
  have hnext:∀ r H',S2 P C N σ HT full F ((I3 l ss ci).drop (m+1)) ((i,r)::c1) H'→a6l P C N HT σ full F (I3 l ss ci) al ci H0 (listed.setIfInBounds i true) ((i,r)::cacc) H':=fun r H' hq=>by
    refine .inr ⟨fun p hp => ?_,m+1,(i,r)::c1,by omega,fun m' i' hm' => ?_,fun j=>by rw [y5,y5,hc j],hq⟩
    · by_cases e:p.1=i
      · rw [e];exact G7 hlt
      · rw [hput _ e];exact hall p hp
    · by_cases e:i'=i
      · subst e
        have h1:=(List.getElem?_eq_some_iff.1 hm')
        have h2:=(List.getElem?_eq_some_iff.1 hm)
        have:m'=m:=(List.getElem_inj (h₀:=h1.1) (h₁:=h2.1) hnd).1 (by rw [h1.2,h2.2])
        subst this
        exact⟨fun _=>by omega,fun _=>G7 hlt⟩
      · rw [hput i' e,hb m' i' hm']
        have:m'≠m:=by rintro rfl;rw [hm] at hm';exact e (Option.some.inj hm').symm
        omega
  cases hr:o9 full i with
  | none =>
    rw [hg,hr] at hpl
    exact hpl.mono fun r H' hq=>⟨fun r0 h0=>(by cases h0),hnext r H' hq⟩
  | some r0 =>
    rw [hg,hr] at hpl
    exact hpl.mono fun r H' ⟨e,hq⟩=>⟨fun q h0=>by cases h0;exact e,by subst e;exact hnext _ H' hq⟩
end
theorem a1X {a b:List (Nat×AV)} (h:∀ j,o9 a j=o9 b j):∀ (os:List Oper) (k:Nat) (σ:x5),a1q a os k σ=a1q b os k σ
 | [],_,_=>rfl
 | o::os,k,σ=>by
  simp only [a1q,h k]
  cases o.dst with
  | none=>exact a1X h os _ _
  | some d =>
   cases o9 b k with
   | none=>exact a1X h os _ _
   | some r=>exact a1X h os _ _
theorem b4o {G:j7}:∀ (bs:List Bool) (k:Nat),Q9 bs (G.drop k) (fun j=>G.getD j T8) k=G.drop k
 | [],_=>by simp [Q9]
 | b::bs,k=>by
  cases hd:G.drop k with
  | nil=>rfl
  | cons B R =>
   have hB:G.getD k T8=B:=by
    have h1:G[k]?=some B:=by
     have:=congrArg (fun l:j7=>l[0]?) hd
     simpa using this
    simp [List.getD,h1]
   have hR:G.drop (k+1)=R:=by
    rw [←List.drop_drop,hd];rfl
   show(bif b then G.getD k T8 else B)::Q9 bs R (fun j=>G.getD j T8) (k+1)=B::R
   rw [hB,←hR,b4o bs (k+1)]
   cases b<;>rfl
theorem I9.c10 {P:Program} {C:Ctx} {N:Nat} {Q:Exit→x5→j7→Prop} {σ:x5} {H:j7} {c:Code}:∀ {al:List (Nat×AT)},I9 P C N c Q σ ((al.map fun _=>T8)++H)→I9 P C N c Q σ H
 | [],h=>h
 | _::al,h=>I9.c10 (al:=al) (I9.c4w h)
theorem I9.c3k {P : Program} {C : Ctx} {N : Nat} {Q : Exit → x5 → j7 → Prop} {σ : x5} {H : j7} {id : Nat} {l : List Oper} (bs : List Bool) (al : List (Nat × AT)) (hm : P.follows .mixedOrders = true) (n : Nat) (ss : List (List (Nat × Nat))) (ci : List Nat)
    (hN:M4 N l=true) (hB:a1S l.toArray n ss=true) (hss:Nat.ble n ss.length=true) (hC:a2R l.toArray n ss (al.map Prod.fst) ci=true) (hnd:ci.Nodup) (hna:(al.map Prod.fst).Nodup)
    (hal:∀ p∈al,∀ o,l[p.1]?=some o→o.guard=none∧∀ σ' H',B3 P C N o σ' H' (fun r H''=>∃ b,r=p.2.res b∧H''=p.2.blk b::H'))
    (h:a1U P N C σ (fun q:j7×(Nat→Bool×D8)=>q.1++Q9 bs H q.2 0) (al.map Prod.fst++ci) (fun accP=>((al.map Prod.fst).all fun i=>(o9 accP i).isNone)=true ∧
      ∀ ws:Nat→Nat,S2 P C N σ (fun q:j7×(Nat→Bool×D8)=>q.1++Q9 bs H q.2 0) accP (fun cacc H'=>D1 P C N l.toArray Q (l.drop n) (a1q (cacc++accP) (l.take n) 0 σ) H') (I3 l ss ci) (rA ws al) ((al.map fun p=>p.2.blk (ws p.1))++H)) (l.take n) ss 0 []) :
    I9 P C N (.region id l.toArray true) Q σ H := .c10 (al:=al) (by
  have hB0:=hB
  simp only [a1S,Bool.and_eq_true,Bool.or_eq_true] at hB
  obtain⟨⟨⟨⟨⟨hle,hback⟩,hok⟩,hdst⟩,htail⟩,hseq⟩:=hB
  have hle':n≤l.length:=by simpa using Nat.le_of_ble_eq_true hle
  have hok':∀ i,i < n→a0F l.toArray n ss i=true:=fun i hi=>List.all_eq_true.1 hok i (List.mem_range.2 hi)
  have hssl:=Nat.le_of_ble_eq_true hss
  obtain⟨full,⟨hnone,hF⟩,_,hd⟩:=a2j (l.take n) ss 0 [] (fun j r hj=>by simp [o9] at hj) h
  have hC2:=hC
  simp only [a2R,Bool.and_eq_true] at hC2
  obtain⟨⟨⟨hC',_⟩,hks⟩,_⟩:=hC2
  unfold S7 at hC'
  have hcin:∀ i∈ci,i < n:=fun i hi=>by
    obtain⟨m,hm⟩:=List.mem_iff_getElem?.1 hi
    have h1:=List.all_eq_true.1 hC' m (List.mem_range.2 (List.getElem?_eq_some_iff.1 hm).1)
    simp only [hm,Bool.and_eq_true] at h1
    simpa [Nat.blt_eq] using h1.1
  have hkin:∀ i∈al.map Prod.fst,i < n∧i∉ci:=fun i hi=>by
    have h1:=List.all_eq_true.1 hks i hi
    simp only [Bool.and_eq_true,Bool.not_eq_true',List.contains_eq_mem,decide_eq_false_iff_not] at h1
    exact⟨by simpa [Nat.blt_eq] using h1.1,h1.2⟩
  have hcl:=a3W (l:=l) (ss:=ss) ci (fun i hi=>⟨_,_,List.getElem?_eq_getElem (Nat.lt_of_lt_of_le (hcin i hi) hle'),List.getElem?_eq_getElem (Nat.lt_of_lt_of_le (hcin i hi) hssl)⟩)
  have hp:∀ i o s,i < n→i∉al.map Prod.fst++ci→l[i]?=some o→ss[i]?=some s→∃ r,o9 full i=some r∧a1T P N C σ (fun q:j7×(Nat→Bool×D8)=>q.1++Q9 bs H q.2 0) full o s r:=fun i o s hi hic ho hsi=>by
    obtain⟨r,acc',h1,h2,h3⟩:=hd i o s (by rw [List.getElem?_take,if_pos hi];exact ho) hsi (by simpa using hic)
    rw [Nat.zero_add] at h1 h3
    refine⟨r,h1,fun H' => ?_⟩
    have hoi:=hok' i hi
    unfold a0F at hoi
    have ho':l.toArray[i]?=some o:=by simpa using ho
    simp only [ho',hsi,Bool.and_eq_true] at hoi
    have hback':∀ j,Region.waitsFor .any l.toArray i j=true→j < i:=fun j hw=>by
      obtain⟨e,he,hb,heq⟩:=a0K ho' hw
      have hil:i < l.toArray.size:=(Array.getElem?_eq_some_iff.1 ho').1
      have h4:=List.all_eq_true.1 hback i (List.mem_range.2 hil)
      simp only [ho',Array.all_eq_true_iff_forall_mem] at h4
      have h5:=h4 e he
      rw [hb] at h5
      have:e.on < i:=by simpa [Nat.blt_eq] using h5
      omega
    -- sources that are no operand are looked at too
    have henv:∀ t∈C4 o,∀ j,J0 s t=some j→o9 acc' j=o9 full j:=fun t ht j hj=>by
      have h6:=List.all_eq_true.1 hoi.1 t ht
      unfold a0I at h6
      simp only [hj,Bool.and_eq_true] at h6
      exact h3 j (hback' j h6.2)
    have hdd:=h2 H'
    unfold a4J at hdd ⊢
    have he:∀ ts,(∀ t∈ts,t∈C4 o)→D3 σ acc' s ts=D3 σ full s ts:=by
      intro ts
      induction ts with
      | nil=>intro _;rfl
      | cons t ts ih =>
        intro hts
        simp only [D3]
        cases hsrc:J0 s t with
        | none=>simp only [ih (fun u hu=>hts u (List.mem_cons_of_mem _ hu))]
        | some j=>simp only [henv t (hts t List.mem_cons_self) j hsrc,ih (fun u hu=>hts u (List.mem_cons_of_mem _ hu))]
    rw [←he _ (fun t ht=>ht)]
    cases hg:o.guard with
    | none=>rw [hg] at hdd;exact hdd
    | some p =>
      obtain⟨g,want⟩:=p
      rw [hg] at hdd
      have h6:=hoi.2
      rw [hg] at h6
      simp only [Bool.and_eq_true] at h6
      simp only at hdd ⊢
      rw [←h3 g (hback' g h6.1.2)];exact hdd
  refine I9.c3i (fun q:j7×(Nat→Bool×D8)=>q.1++Q9 bs H q.2 0) hm n ss (al.map Prod.fst++ci) hN hB0 full
    (a6l P C N (fun q:j7×(Nat→Bool×D8)=>q.1++Q9 bs H q.2 0) σ full (fun cacc H'=>D1 P C N l.toArray Q (l.drop n) (a1q (cacc++full) (l.take n) 0 σ) H') (I3 l ss ci) al ci H) ?_ hp ?_ ?_ ?_ ?_
  · refine .inl ⟨fun i _=>getD_replicate_false _ _,fun _=>0,fun j => ?_,?_⟩
    · rw [if_neg (by rw [getD_replicate_false];decide)];rfl
    · congr 1
      exact(List.map_congr_left fun p _=>by simp only [getD_replicate_false];rfl)
  · rintro listed cacc H' (⟨_,ws,_,rfl⟩|⟨_,k,c1,_,_,_,hq⟩)
    · refine⟨(hA (fun j=>listed.getD j false) ws al,fun j=>H.getD j T8),?_⟩
      have:=b4o (G:=H) bs 0
      rw [List.drop_zero] at this
      simp only [this]
    · exact hq.tail
  · exact fun listed cacc H' i hi hni=>hi.pure (fun e=>hni (List.mem_append_right _ e)) (fun e=>hni (List.mem_append_left _ e))
  · intro listed cacc H' i o s hi hic hol hs hun hw hlt
    rcases List.mem_append.1 hic with hk|hc
    · obtain⟨p,hp,rfl⟩:=List.mem_map.1 hk
      obtain⟨hg,hop⟩:=hal p hp o hol
      obtain⟨F',h1,h2⟩:=hi.alloc hna hp (hkin _ hk).2 hun hlt
      refine⟨hg,B3.c3j h1 ((hop _ _).mono fun r H'' ⟨b,hr,hH⟩=>⟨_,hH,fun r0 h0 => ?_,by rw [hr];exact h2 b⟩)⟩
      have h3:=List.all_eq_true.1 hnone p.1 hk
      rw [h0] at h3;cases h3
    · exact hi.chain hC hcl hnd hF hc hol hs hun hw hlt
  · intro listed cacc H' hi hall
    have hfin:∃ c1,(∀ j,o9 cacc j=o9 c1 j)∧D1 P C N l.toArray Q (l.drop n) (a1q (c1++full) (l.take n) 0 σ) H':=by
      have hlen:∀ c:List Nat,(I3 l ss c).length≤c.length:=by
        intro c
        induction c with
        | nil=>exact Nat.le_refl _
        | cons i c ih =>
          simp only [I3]
          split
          · simpa using ih
          · exact Nat.le_succ_of_le ih
      rcases hi with ⟨ha,ws,hb,hc⟩|⟨ha,k,c1,hk,hb,hc,hq⟩
      · have hci:ci = []:=by
          cases hci:ci with
          | nil=>rfl
          | cons c r =>
            have h1:=hall c (hcin c (by rw [hci];exact List.mem_cons_self))
            rw [ha c (by rw [hci];exact List.mem_cons_self)] at h1;cases h1
        refine⟨rA ws al,fun j => ?_,?_⟩
        · rw [hb j]
          split
          · rfl
          · rename_i hn
            refine(R0 fun hj=>hn (hall j (hkin j hj).1)).symm
        · have hq:=hF ws
          have e:I3 l ss ci = []:=by
            have:=hlen ci
            rw [hci] at this ⊢;rfl
          rw [e,S2] at hq
          rw [hc,b2R fun p hp=>hall p.1 (hkin _ (List.mem_map_of_mem hp)).1]
          exact hq.2
      · have hk':k=ci.length:=by
          rcases Nat.lt_or_ge k ci.length with h|h
          · have:=(hb k _ (List.getElem?_eq_getElem h)).1 (hall _ (hcin _ (List.getElem_mem h)))
            omega
          · omega
        rw [hk',List.drop_eq_nil_of_le (hlen ci),S2] at hq
        exact⟨c1,hc,hq.2⟩
    obtain⟨c1,h1,h2⟩:=hfin
    rw [a1X (b:=c1++full) fun j=>by rw [C0,C0,h1 j]]
    exact h2)
theorem U2.c09 {n0:Nat} {I:Im}:∀ (m:Nat) {H:j7} {L:Lh},U2 n0 I H L→U2 n0 I (H.drop m) (L.drop m)
 | 0,_,_,h=>h
 | m+1,[],_,h=>by simp only [U2] at h;subst h;exact(show U2 n0 I [] [] from rfl)
 | m+1,B::H,_,h=>by obtain⟨X,R,rfl,h1,h2⟩:=h;exact U2.c09 m h2
theorem a6m {L:Lh} {m:Nat} {p:Nat×Obj} (h:p∈(L.drop m).flatten):p∈L.flatten:=by
 rw [←List.take_append_drop m L,List.flatten_append];exact List.mem_append_right _ h
theorem G0.a6n {G : Gl} {P : Program} {f : FuncId} {fn : Func} {c : Code} {ags : List AV} {Hs : List D8} {post : AV → List D8 → Prop} (hf : P.funcs[f]? = some fn) (hb : fn.body = some c) (hn : (fn.name == "runtime.NumGoroutine") = false)
    (N:Nat) (hN:fn.ntmps=N) (hl:Nat.ble ags.length N=true) (σ:x5) (hσ:b0S ags 0=σ) (H0:j7) (hH:a8G Hs=H0)
    (h:∀ C:Ctx,Ctx.Ok C→G.p C.I0→I9 P C N c (a8l P fn C (fun r H=>∃ m:Nat,post r ((H.drop m).map Prod.snd))) σ H0):G0 G P f ags Hs post:=fun I L vs hG hvs hL =>
  ⟨⟨fn,hf,hn,by simp [hb]⟩,fun w hm=>a1J hf hb N hN (by rw [hvs.len];exact hl) hm (M:=L.flatten.map Prod.fst) (fun p hp=>List.mem_map_of_mem hp)
    ((h ⟨w, L.flatten.map Prod.fst, I, none⟩ (fun k hk => by
        obtain⟨p,hp,rfl⟩:=List.mem_map.1 hk
        exact C6 (hm.loc p hp)) hG (a1p vs 0) I L ⟨by rw [←hσ];exact hvs.env 0,by rw [←hH,a5C];exact hL.toH,Le.refl I⟩).mono fun e ρ J L hq=>a8l.q hq)
    fun v J L' w' hs hp=>by
      obtain⟨r,H,h1,h2,m,h3⟩:=hp
      refine⟨v,J,L'.drop m,a8,hs.chg,hs.W3,fun b h0 h1=>hs.new b h0 h1,⟨hs.mem.im,fun p hp=>hs.mem.loc p (a6m hp),fun p hp=>hs.mem.sep p (a6m hp),?_⟩,fun p hp=>hs.own p (a6m hp),r,_,h1,(h2.c09 m).toK,h3⟩
      have:=hs.mem.nodup
      rw [←List.take_append_drop m L',List.flatten_append,List.map_append,List.nodup_append] at this
      exact this.2.1⟩
theorem I9.a0Q {P:Program} {C:Ctx} {N:Nat} {Q:Exit→x5→j7→Prop} {σ:x5} {H:j7} {c:Code} (E:TypeId) (α:Type) [r:p2 α] (k:I9 P C N c Q σ ((true,.own E (.slice none 0 0) ([]:List α))::H)):I9 P C N c Q σ H:=fun ρ I L hs =>
 wpS.pad (k ρ I ([]::L) ⟨hs.env,⟨[],L,rfl,⟨⟨[],a1c.nil E _,rfl⟩,fun _ p hp=>by cases hp⟩,hs.heap⟩,hs.W3⟩)
theorem D1.a0Q {P:Program} {C:Ctx} {N:Nat} {ops:Array Oper} {Q:Exit→x5→j7→Prop} {os:List Oper} {σ:x5} {H:j7} (E:TypeId) (α:Type) [r:p2 α] (k:D1 P C N ops Q os σ ((true,.own E (.slice none 0 0) ([]:List α))::H)):D1 P C N ops Q os σ H:=fun ρ I L hs =>
 wpL.pad (k ρ I ([]::L) ⟨hs.env,⟨[],L,rfl,⟨⟨[],a1c.nil E _,rfl⟩,fun _ p hp=>by cases hp⟩,hs.heap⟩,hs.W3⟩)
theorem j5.b0B {P : Program} {C : Ctx} {N : Nat} {σ : x5} {H : j7} {d : Option Nat} {ty : TypeId} {ps : String} {af : Array Edge} {g : Option (Nat × Bool)} {K : AV → Prop} {x y : Operand} {T T2 : TypeId} {m c : UInt64} (hx : D5 C σ H x (.v m)) (hy : D5 C σ H y (.v c)) (h0 : 0 ≤ c.toNat) (h1 : c.toNat < 64) (k : K (.v (m >>> c))) :
    j5 P N C ⟨d,.binOp .shr T x y T2,ty,ps,af,g⟩ σ H K :=
  .vk k (fun ρ I L hs=>I1.b0B c.toNat (hx.a0l hs) (hy.a0l hs) rfl h1 ⟨[Fl.u64 (m >>> c)],rfl,by rw [UInt64.ofNat_toNat];rfl⟩)
theorem j5.a2J {P : Program} {C : Ctx} {N : Nat} {σ : x5} {H : j7} {d : Option Nat} {ty : TypeId} {ps : String} {af : Array Edge} {g : Option (Nat × Bool)} {K : AV → Prop} {x : Operand} {S D : TypeId} {ds : TypeDesc} {m : UInt64} (hS : P.underlying S = some ds) (hD : P.underlying D = some (.int .u8)) (hx : D5 C σ H x (.v m)) (k : K (.v m.toUInt8)) :
    j5 P N C ⟨d,.convert S D x,ty,ps,af,g⟩ σ H K :=
  .vk k (fun ρ I L hs=>I1.a2J hS hD (hx.a0l hs) ⟨[Fl.u8 m.toUInt8],rfl,rfl⟩)
end Go.Ab
namespace Go.Ab
open Go.Fl Go.RowKit
open p2 (rep)
structure S3 where
 v:Value
instance:Inhabited S3:=⟨⟨.slice none 0 0⟩⟩
instance:p2 S3 where
 size:=1
 agg:=false
 rep _ x cs:=cs = [x.v]∧x.v.oneCell'=true
 len h:=by simp [h.1]
 mono _ h:=h
 one _:=rfl
 flat h:=by simp [h.1,a0A,h.2]
instance:G4 S3:=⟨[.slice none 0 0],fun _=>⟨rfl,rfl⟩⟩
structure GS (α:Type) where
 E:TypeId
 l:List α
section rules
variable {P:Program} {C:Ctx} {N:Nat} {σ:x5} {H:j7} {d:Option Nat} {ty:TypeId} {ps:String} {af:Array Edge} {g:Option (Nat×Bool)} {K:AV→Prop} {KH:AV→j7→Prop} {x y z:Operand} {T T2 E S D U:TypeId} {o:Oper}
theorem j5.raw {s:S3} (h:j5 P N C o σ H (fun r=>r = .v s)) (k:K (.raw s.v)):j5 P N C o σ H K:=fun ρ I L hs a w ha hm=>by
 refine(h ρ I L hs a w ha hm).mono ?_
 rintro v w' ⟨J,X,q1,q2,q3,q4,q5,q6,r,q7,rfl⟩
 obtain⟨cs,⟨rfl,_⟩,rfl⟩:=q7
 exact⟨J,X,q1,q2,q3,q4,q5,q6,.raw s.v,a8,k⟩
theorem j5.ldR {α : Type} {r : p2 α} {w : Value} {l : j6 α S3} {a : α} {bb : Bool} {F : Bool × D8 → j7} (f : α → S3) (tT : F1 P T S3) (hx : D5 C σ H x (.ln w l)) (hH : y4 H (bb, .ob w a) F) (hf : ∀ x, l.get x = f x) (k : K (.raw (f a).v)) :
    j5 P N C ⟨d,.load T x,ty,ps,af,g⟩ σ H K := .raw (.S1 f tT hx hH hf rfl) k
theorem I9.name {Q:Exit→x5→j7→Prop} (t:Nat) {a:AV} {c:Code} (ht:F0 σ t=some a) (k:∀ w,I9 P C N c Q ((t,.raw w)::σ) ((true,.fz w a)::H)):I9 P C N c Q σ H:=fun ρ I L hs=>by
 obtain⟨u,h1,h2⟩:=hs.env t _ ht
 refine wpS.pad (k u ρ I ([]::L) ⟨fun s b hb => ?_,⟨[],L,rfl,⟨⟨rfl,h2⟩,fun _ p hp=>by cases hp⟩,hs.heap⟩,hs.W3⟩)
 rw [I8] at hb
 by_cases e:t=s
 ·subst e;simp at hb;subst hb;exact⟨u,h1,rfl⟩
 ·rw [if_neg e] at hb;exact hs.env s b hb
theorem I9.conv {Q:Exit→x5→j7→Prop} (t:Nat) {a:AV} (a':AV) {c:Code} (ht:F0 σ t=some a) (h:∀ n0 I L u,U2 n0 I H L→F8 I a u→F8 I a' u) (k:I9 P C N c Q ((t,a')::σ) H):I9 P C N c Q σ H:=fun ρ I L hs=>by
 refine k ρ I L ⟨fun s b hb => ?_,hs.heap,hs.W3⟩
 rw [I8] at hb
 by_cases e:t=s
 ·subst e;simp at hb;subst hb
  obtain⟨u,h1,h2⟩:=hs.env t _ ht
  exact⟨u,h1,h _ I L u hs.heap h2⟩
 ·rw [if_neg e] at hb;exact hs.env s b hb
end rules
def Sel (H:j7) (Hs:List D8):Prop:=∀ n0 I L,U2 n0 I H L→∃ L' R,(L'.flatten++R).Perm L.flatten∧a6g I Hs L'
theorem Sel.nil {H:j7}:Sel H []:=fun n0 I L h=>⟨[],L.flatten,by simp,rfl⟩
theorem Sel.cons {H:j7} {b:Bool} {B:D8} {Hs:List D8} {F:Bool×D8→j7} (hh:y4 H (b,B) F) (h:Sel (F T8) Hs):Sel H (B::Hs):=fun n0 I L hL=>by
 obtain⟨i,X,h1,h2,h3⟩:=hh.get hL
 have h4:=h3 I T8 [] (Le.refl I) ⟨⟨rfl,trivial⟩,fun _ p hp=>by cases hp⟩
 obtain⟨L',R,h5,h6⟩:=h n0 I _ h4
 refine⟨X::L',R,?_,X,L',a8,h2.1,h6⟩
 have h7:(L.set i [])[i]?=some []:=by
  have hi:=(List.getElem?_eq_some_iff.1 h1).1
  simp [hi]
 have h8:=a5E h7 X
 have h9:(L.set i []).set i X=L:=by
  obtain⟨hi,e⟩:=List.getElem?_eq_some_iff.1 h1
  rw [List.set_set,←e,List.set_getElem_self]
 rw [h9] at h8
 rw [List.flatten_cons,List.append_assoc]
 exact(List.Perm.append_left X h5).trans h8.symm
theorem G0.R1 {G : Gl} {P : Program} {f : FuncId} {fn : Func} {c : Code} {ags : List AV} {Hs : List D8} {post : AV → List D8 → Prop} (hf : P.funcs[f]? = some fn) (hb : fn.body = some c) (hn : (fn.name == "runtime.NumGoroutine") = false)
    (N:Nat) (hN:fn.ntmps=N) (hl:Nat.ble ags.length N=true) (σ:x5) (hσ:b0S ags 0=σ) (H0:j7) (hH:a8G Hs=H0)
    (h:∀ C:Ctx,Ctx.Ok C→G.p C.I0→I9 P C N c (a8l P fn C (fun r H=>∃ Hs',Sel H Hs'∧post r Hs')) σ H0):G0 G P f ags Hs post:=fun I L vs hG hvs hL =>
  ⟨⟨fn,hf,hn,by simp [hb]⟩,fun w hm=>a1J hf hb N hN (by rw [hvs.len];exact hl) hm (M:=L.flatten.map Prod.fst) (fun p hp=>List.mem_map_of_mem hp)
    ((h ⟨w, L.flatten.map Prod.fst, I, none⟩ (fun k hk => by
        obtain⟨p,hp,rfl⟩:=List.mem_map.1 hk
        exact C6 (hm.loc p hp)) hG (a1p vs 0) I L ⟨by rw [←hσ];exact hvs.env 0,by rw [←hH,a5C];exact hL.toH,Le.refl I⟩).mono fun e ρ J L hq=>a8l.q hq)
    fun v J L' w' hs hp=>by
      obtain⟨r,H,h1,h2,Hs',h3,h4⟩:=hp
      obtain⟨L2,R,h5,h6⟩:=h3 _ J L' h2
      have hin:∀ p∈L2.flatten,p∈L'.flatten:=fun p hp=>h5.mem_iff.1 (List.mem_append_left _ hp)
      refine⟨v,J,L2,a8,hs.chg,hs.W3,fun b h0 h1=>hs.new b h0 h1,⟨hs.mem.im,fun p hp=>hs.mem.loc p (hin p hp),fun p hp=>hs.mem.sep p (hin p hp),?_⟩,fun p hp=>hs.own p (hin p hp),r,_,h1,h6,h4⟩
      have:=(h5.map Prod.fst).nodup_iff.2 hs.mem.nodup
      rw [List.map_append,List.nodup_append] at this
      exact this.1⟩
theorem G0.mono {G:Gl} {P:Program} {f:FuncId} {ags:List AV} {Hs:List D8} {post post':AV→List D8→Prop} (h:G0 G P f ags Hs post) (hp:∀ r Hs,post r Hs→post' r Hs):G0 G P f ags Hs post':=fun I L vs hG hvs hL=>by
 have hM:=h I L vs hG hvs hL
 refine⟨hM.ok,fun w hm=>(hM.run w hm).mono ?_⟩
 rintro e w' ⟨v,J,L',rfl,q1,q2,q3,q4,q5,r,Hs',q6,q7,q8⟩
 exact⟨v,J,L',a8,q1,q2,q3,q4,q5,r,Hs',q6,q7,hp r Hs' q8⟩
end Go.Ab
namespace Go.Ab
open Go.Fl Go.RowKit
open p2 (rep)
def leB:List Bool→List Bool→Bool
 | [],_=>true
 | a::ags,[] => !a&&leB ags []
 | a::ags,b::bs=>(!a||b)&&leB ags bs
theorem a2S (H:j7) (f:Nat→Bool×D8) (k:Nat):Q9 [] H f k=H:=by simp [Q9]
theorem a9P:∀ {a b:List Bool},leB a b=true→∀ (H:j7) (f:Nat→Bool×D8) (k:Nat),∃ f',Q9 a H f k=Q9 b H f' k
  | a,b,h,[],f,k=>⟨f,by cases a<;>cases b<;>simp [Q9]⟩
  | [], b, h, B :: H, f, k => ⟨fun j => (B :: H).getD (j - k) T8, by
      rw [a2S]
      have key:∀ (b:List Bool) (G:j7) (j:Nat),(∀ m,m < G.length→(B::H).getD (j+m - k) T8=G.getD m T8)→G=Q9 b G (fun j=>(B::H).getD (j - k) T8) j:=by
        intro b
        induction b with
        | nil=>intro G j _;rw [a2S]
        | cons x b ih =>
          intro G j hG
          cases G with
          | nil=>simp [Q9]
          | cons A G =>
            have h0:=hG 0 (by simp)
            simp only [Q9]
            have h1:(bif x then (B::H).getD (j - k) T8 else A)=A:=by
              cases x
              · rfl
              · simpa using h0
            rw [h1,←ih G (j+1) (fun m hm=>by
              have:=hG (m+1) (by simp;omega)
              rw [show j+1+m - k=j+(m+1) - k by omega,this];simp)]
      exact key b (B::H) k (fun m hm=>by rw [show k+m - k=m by omega])⟩
  | x::a,[],h,B::H,f,k=>by
    simp only [leB,Bool.and_eq_true,Bool.not_eq_true'] at h
    obtain⟨f',hf'⟩:=a9P (b := []) h.2 H f (k+1)
    rw [a2S] at hf'
    exact⟨f,by rw [a2S];simp only [Q9,h.1,cond_false,hf']⟩
  | x::a,y::b,h,B::H,f,k=>by
    simp only [leB,Bool.and_eq_true] at h
    obtain⟨f',hf'⟩:=a9P h.2 H f (k+1)
    have hcongr:∀ (b:List Bool) (H:j7) (f g:Nat→Bool×D8) (k:Nat),(∀ j,k≤j→f j=g j)→Q9 b H f k=Q9 b H g k:=by
      intro b
      induction b with
      | nil=>intro H f g k _;rw [a2S,a2S]
      | cons x b ih =>
        intro H f g k hfg
        cases H with
        | nil=>simp [Q9]
        | cons A H=>simp only [Q9];rw [hfg k (Nat.le_refl _),ih H f g (k+1) (fun j hj=>hfg j (by omega))]
    refine⟨fun j=>if j=k then (bif x then f k else B) else f' j,?_⟩
    simp only [Q9,if_true]
    rw [hf',hcongr b H f' (fun j=>if j=k then (bif x then f k else B) else f' j) (k+1) (fun j hj=>by rw [if_neg (by omega)])]
    cases x with
    | false=>cases y<;>rfl
    | true =>
      have:y=true:=by simpa using h.1
      subst this;rfl
def a5c (P:Program) (N:Nat) (C:Ctx) (σ0:x5) {ι:Type 1} (HT:Nat→ι→j7) (ci:List Nat) (F:List (Nat×AV)→Prop):List Oper→List (List (Nat×Nat))→Nat→List (Nat×AV)→Prop
 | [],_,_,acc=>F acc
 | o::os,s::ss,k,acc=>bif ci.contains k then a5c P N C σ0 HT ci F os ss (k+1) acc∨∃ r,a5c P N C σ0 HT ci F os ss (k+1) ((k,r)::acc) else ∃ r,a1T P N C σ0 (HT k) acc o s r∧a5c P N C σ0 HT ci F os ss (k+1) ((k,r)::acc)
 | _,[],_,_=>False
theorem a3Y {P : Program} {N : Nat} {C : Ctx} {σ0 : x5} {ι : Type 1} {HT : Nat → ι → j7} {ci : List Nat} {F : List (Nat × AV) → Prop} : ∀ (os : List Oper) (ss : List (List (Nat × Nat))) (k : Nat) (acc : List (Nat × AV)), (∀ j r, o9 acc j = some r → j < k) → a5c P N C σ0 HT ci F os ss k acc →
    ∃ full,F full∧(∀ j,j < k→o9 full j=o9 acc j) ∧
      ∀ i o s,os[i]?=some o→ss[i]?=some s→k+i∉ci→∃ r acc',o9 full (k+i)=some r∧a1T P N C σ0 (HT (k+i)) acc' o s r∧∀ j,j < k+i→o9 acc' j=o9 full j
  | [],ss,k,acc,hacc,h=>⟨acc,by cases ss<;>exact h,fun _ _=>rfl,fun i o s ho=>by simp at ho⟩
  | o::os,[],k,acc,_,h=>h.elim
  | o::os,s::ss,k,acc,hacc,h=>by
    simp only [a5c] at h
    have hacc2:∀ r,∀ j q,o9 ((k,r)::acc) j=some q→j < k+1:=fun r j q hj=>by
      rw [y5] at hj
      by_cases e:k=j
      · omega
      · rw [if_neg e] at hj;have:=hacc j q hj;omega
    cases hc:ci.contains k with
    | true =>
      rw [hc] at h
      simp only [cond_true] at h
      have fin : ∀ acc2, (∀ j, j < k → o9 acc2 j = o9 acc j) → (∀ j r, o9 acc2 j = some r → j < k + 1) → a5c P N C σ0 HT ci F os ss (k + 1) acc2 → ∃ full, F full ∧ (∀ j, j < k → o9 full j = o9 acc j) ∧
          ∀ i o' s',(o::os)[i]?=some o'→(s::ss)[i]?=some s'→k+i∉ci→∃ r acc',o9 full (k+i)=some r∧a1T P N C σ0 (HT (k+i)) acc' o' s' r∧∀ j,j < k+i→o9 acc' j=o9 full j:=fun acc2 ha hb h=>by
        obtain⟨full,hF,h1,h3⟩:=a3Y os ss (k+1) acc2 hb h
        refine⟨full,hF,fun j hj=>(h1 j (by omega)).trans (ha j hj),fun i o' s' ho hs hni => ?_⟩
        cases i with
        | zero=>exact absurd (by simpa using hc) hni
        | succ i =>
          have e:k+(i+1)=k+1+i:=by omega
          rw [e]
          exact h3 i o' s' (by simpa using ho) (by simpa using hs) (by rw [←e];exact hni)
      rcases h with h|⟨r,h⟩
      · exact fin acc (fun _ _=>rfl) (fun j r hj=>Nat.lt_succ_of_lt (hacc j r hj)) h
      · exact fin ((k,r)::acc) (fun j hj=>by rw [y5,if_neg (by omega)]) (hacc2 r) h
    | false =>
      rw [hc] at h
      simp only [cond_false] at h
      obtain⟨r,hd,h⟩:=h
      obtain⟨full,hF,h1,h3⟩:=a3Y os ss (k+1) ((k,r)::acc) (hacc2 r) h
      refine⟨full,hF,fun j hj=>by rw [h1 j (by omega),y5,if_neg (by omega)],fun i o' s' ho hs hni => ?_⟩
      cases i with
      | zero =>
        simp only [List.getElem?_cons_zero,Option.some.injEq] at ho hs
        subst ho;subst hs
        refine⟨r,acc,by rw [Nat.add_zero,h1 k (by omega),y5,if_pos rfl],hd,fun j hj => ?_⟩
        rw [Nat.add_zero] at hj
        rw [h1 j (by omega),y5,if_neg (by omega)]
      | succ i =>
        have e:k+(i+1)=k+1+i:=by omega
        rw [e]
        exact h3 i o' s' (by simpa using ho) (by simpa using hs) (by rw [←e];exact hni)
def c1a (ops:Array Oper) (n:Nat) (ks ci:List Nat) (bks qs:List (List Bool)):Bool :=
 (List.range n).all fun i=>ks.contains i||ci.contains i||(List.range (ci.length+1)).all fun k=>(List.range k).any (fun m=>match ci[m]? with|some j=>Region.waitsFor .any ops j i|none=>false)||leB (bks.getD k []) (qs.getD i [])
theorem W7 {σ0:x5} {a b:List (Nat×AV)} {s:List (Nat×Nat)}:∀ {ts:List Nat},(∀ t∈ts,∀ j,J0 s t=some j→o9 a j=o9 b j)→D3 σ0 a s ts=D3 σ0 b s ts
 | [],_=>rfl
 | t::ts,h=>by
  simp only [D3]
  have h1:=W7 (σ0:=σ0) (fun u hu=>h u (List.mem_cons_of_mem _ hu))
  cases hs:J0 s t with
  | none=>simp only [h1]
  | some j=>simp only [h t List.mem_cons_self j hs,h1]
def b7j (P:Program) (N:Nat) (C:Ctx) (σ0:x5) {ι:Type 1} (HT:ι→j7) (acc:List (Nat×AV)) (o:Oper) (s:List (Nat×Nat)) (r:AV):Prop:=∀ Hp,j5 P N C o (D3 σ0 acc s (C4 o)) (HT Hp) (fun r'=>r'=r)
def prom (P:Program) (N:Nat) (C:Ctx) (σ0:x5) {ι:Type 1} (HT:Nat→ι→j7) (accP:List (Nat×AV)):List (Nat×Oper×List (Nat×Nat))→List (Nat×AV)→(List (Nat×AV)→Prop)→Prop
 | [],c,K=>K c
 | (i,o,s)::rest,c,K=>∃ r,b7j P N C σ0 (HT i) (c++accP) o s r∧prom P N C σ0 HT accP rest ((i,r)::c) K
def U4 (ss:List (List (Nat×Nat))) (i:Nat) (L:List Nat):Bool:=match ss[i]? with|some s=>s.all (fun p => !(L.contains p.2))|none=>true
theorem a1e {ss:List (List (Nat×Nat))} {i:Nat} {L:List Nat} {s:List (Nat×Nat)} (h:U4 ss i L=true) (hs:ss[i]?=some s) {t j:Nat} (hj:J0 s t=some j):j∉L:=by
 unfold U4 at h
 rw [hs] at h
 have h2:=List.all_eq_true.1 h (t,j) (b5l hj)
 simpa using h2
def b1a (ss:List (List (Nat×Nat))):List Nat→Bool
 | []=>true
 | i::r=>U4 ss i (i::r) && !(r.contains i)&&b1a ss r
theorem a4u {P : Program} {N : Nat} {C : Ctx} {σ0 : x5} {ι : Type 1} {HT : Nat → ι → j7} {accP : List (Nat × AV)} {l : List Oper} {ss : List (List (Nat × Nat))} {K : List (Nat × AV) → Prop} : ∀ {L : List Nat} {c : List (Nat × AV)}, b1a ss L = true → prom P N C σ0 HT accP (I3 l ss L) c K →
    ∃ c',K c'∧(∀ j,j∉L→o9 c' j=o9 c j)∧∀ i o s,i∈L→l[i]?=some o→ss[i]?=some s→∃ r,o9 c' i=some r∧b7j P N C σ0 (HT i) (c'++accP) o s r
  | [],c,_,h=>⟨c,h,fun _ _=>rfl,fun i o s hi=>by cases hi⟩
  | i::L,c,hL,h=>by
    simp only [b1a,Bool.and_eq_true,Bool.not_eq_true',List.contains_eq_mem,decide_eq_false_iff_not] at hL
    obtain⟨⟨h1,h2⟩,h3⟩:=hL
    cases ho:l[i]? with
    | none =>
      simp only [I3,ho] at h
      obtain⟨c',k1,k2,k3⟩:=a4u h3 h
      exact⟨c',k1,fun j hj=>k2 j (fun hx=>hj (List.mem_cons_of_mem _ hx)),fun i' o s hi ho' hs=>by
        rcases List.mem_cons.1 hi with rfl|hi
        · rw [ho] at ho';cases ho'
        · exact k3 i' o s hi ho' hs⟩
    | some o =>
      cases hs:ss[i]? with
      | none =>
        simp only [I3,ho,hs] at h
        obtain⟨c',k1,k2,k3⟩:=a4u h3 h
        exact⟨c',k1,fun j hj=>k2 j (fun hx=>hj (List.mem_cons_of_mem _ hx)),fun i' o s hi ho' hs'=>by
          rcases List.mem_cons.1 hi with rfl|hi
          · rw [hs] at hs';cases hs'
          · exact k3 i' o s hi ho' hs'⟩
      | some s =>
        simp only [I3,ho,hs,prom] at h
        obtain⟨r,hd,h⟩:=h
        obtain⟨c',k1,k2,k3⟩:=a4u h3 h
        refine⟨c',k1,fun j hj => ?_,fun i' o' s' hi ho' hs' => ?_⟩
        · rw [List.mem_cons,not_or] at hj
          rw [k2 j hj.2,y5,if_neg (Ne.symm hj.1)]
        · rcases List.mem_cons.1 hi with rfl|hi
          · rw [ho] at ho';cases ho'
            rw [hs] at hs';cases hs'
            refine⟨r,by rw [k2 i' h2,y5,if_pos rfl],fun Hp => ?_⟩
            have he:D3 σ0 (c'++accP) s (C4 o)=D3 σ0 (c++accP) s (C4 o):=W7 fun t _ j hj=>by
              have hj2:=a1e h1 hs hj
              rw [List.mem_cons,not_or] at hj2
              rw [C0,C0,k2 j hj2.2,y5,if_neg (Ne.symm hj2.1)]
            rw [he];exact hd Hp
          · exact k3 i' o' s' hi ho' hs'
section
variable (P:Program) (C:Ctx) (N:Nat) (σ0:x5) (bs:Nat→List Bool) (HT:Nat→(j7×(Nat→Bool×D8))→j7) (lps:Nat→List (Nat×Oper×List (Nat×Nat))) (H0:j7) (accP:List (Nat×AV)) (al:List (Nat×AT)) (F:List (Nat×AV)→j7→j7→Prop)
def a2T:List (Nat×Oper×List (Nat×Nat))→Nat→List (Nat×AV)→j7→j7→Prop
 | [],k,cacc,Zs,Hr=>(∃ f,Hr=Q9 (bs k) H0 f 0)∧∀ ws:Nat→Nat,F (cacc++rA ws al) (Zs++(al.map fun p=>p.2.blk (ws p.1))) Hr
 | (i,o,s)::rest,k,cacc,Zs,Hr=>(∃ f,Hr=Q9 (bs k) H0 f 0)∧∀ Ys:j7,
  match o9 accP i with
  | none=>B3 P C N o (D3 σ0 (cacc++accP) s (C4 o)) (Zs++(Ys++Hr)) (fun r H'=>∃ Zs' Hr',H'=Zs'++(Ys++Hr')∧prom P N C σ0 HT accP (lps (k+1)) ((i,r)::cacc) (fun c=>a2T rest (k+1) c Zs' Hr'))
  | some r0=>B3 P C N o (D3 σ0 (cacc++accP) s (C4 o)) (Zs++(Ys++Hr)) (fun r H'=>r=r0∧∃ Zs' Hr',H'=Zs'++(Ys++Hr')∧prom P N C σ0 HT accP (lps (k+1)) ((i,r0)::cacc) (fun c=>a2T rest (k+1) c Zs' Hr'))
end
theorem a2T.fam {P : Program} {C : Ctx} {N : Nat} {σ0 : x5} {bs : Nat → List Bool} {HT : Nat → (j7 × (Nat → Bool × D8)) → j7} {lps : Nat → List (Nat × Oper × List (Nat × Nat))} {H0 : j7} {accP : List (Nat × AV)} {al : List (Nat × AT)} {F : List (Nat × AV) → j7 → j7 → Prop} {l : List (Nat × Oper × List (Nat × Nat))} {k : Nat} {cacc : List (Nat × AV)} {Zs Hr : j7}
    (h:a2T P C N σ0 bs HT lps H0 accP al F l k cacc Zs Hr):∃ f,Hr=Q9 (bs k) H0 f 0:=by
  cases l with
  | nil=>exact h.1
  | cons p l=>exact h.1
def a1G (ops:Array Oper) (i:Nat):Bool:=match ops[i]? with|some o=>o.guard.isNone|none=>false
def a7J (ops:Array Oper) (n:Nat) (ss:List (List (Nat×Nat))) (ks ci:List Nat) (lps:List (List Nat)) (kA:Nat):Bool :=
 S7 ops n ss ci&&ci.all (a1G ops)&&ks.all (fun i=>Nat.blt i n && !(ci.contains i))&&(ci.take kA).all (fun i=>U4 ss i ks)&&(ci.drop kA).all (fun i=>ks.all (fun j=>Region.waitsFor .any ops i j)) &&
 (List.range (ci.length+1)).all (fun m=>(lps.getD m []).all (fun i=>Nat.blt i n && !(ci.contains i) && !(ks.contains i)&&a1G ops i&&U4 ss i ks &&
  (match m with|0=>false|m'+1=>(match ci[m']? with|some j=>Region.waitsFor .any ops i j|none=>false)||(lps.getD m []).any (fun j=>Region.waitsFor .any ops i j)) &&
  (List.range (ci.length+1)).all (fun m2=>Nat.ble m2 m||(match m2 with|0=>true|m3+1=>match ci[m3]? with|some j=>U4 ss i [j]|none=>true)&&U4 ss i (lps.getD m2 []) && !((lps.getD m2 []).contains i)))&&b1a ss (lps.getD m []))
def a2k (lps:List (List Nat)) (q i:Nat):Prop:=∃ m,m≤q∧i∈lps.getD m []
structure a0C (P : Program) (C : Ctx) (N : Nat) (σ : x5) (bs : Nat → List Bool) (HT : Nat → (j7 × (Nat → Bool × D8)) → j7) (l : List Oper) (ss : List (List (Nat × Nat))) (lps : List (List Nat)) (H0 : j7) (full : List (Nat × AV)) (F : List (Nat × AV) → j7 → j7 → Prop) (al : List (Nat × AT)) (ci : List Nat) (cp : List (Nat × Oper × List (Nat × Nat)))
    (k:Nat) (c1:List (Nat×AV)) (Zs Hr:j7) (ws:Nat→Nat) (listed:Array Bool) (cacc:List (Nat×AV)) (H:j7):Prop where
  w:∀ j∈ci,listed.getD j false=true→∀ i,Region.waitsFor .any l.toArray j i=true→listed.getD i false=true
  kle:k≤ci.length
  kp:k≤cp.length
  ch:∀ m i,ci[m]?=some i→(listed.getD i false=true↔m < k)
  al0:∀ j,j∈al.map Prod.fst→o9 c1 j=none
  oth:∀ j,j∉al.map Prod.fst→¬a2k lps ci.length j→o9 cacc j=o9 c1 j
  al1:∀ j,j∈al.map Prod.fst→o9 cacc j=if listed.getD j false=true then o9 (rA ws al) j else none
  lp:∀ j,a2k lps ci.length j→o9 cacc j=(if listed.getD j false=true then o9 c1 j else none)∧(listed.getD j false=true→a2k lps k j)
  due:∀ m i o s,m≤k→i∈lps.getD m []→l[i]?=some o→ss[i]?=some s→∃ r,o9 c1 i=some r∧b7j P N C σ (HT i) (c1++full) o s r
  H:H=Zs++(hA (fun j=>listed.getD j false) ws al++Hr)
  pl:a2T P C N σ bs HT (fun k=>I3 l ss (lps.getD k [])) H0 full al F (cp.drop k) k c1 Zs Hr
theorem V4 {listed:Array Bool} (i:Nat) {j:Nat} (h:listed.getD j false=true):(listed.setIfInBounds i true).getD j false=true:=by
 by_cases e:j=i
 ·subst e
  rcases Nat.lt_or_ge j listed.size with h2|h2
  ·exact G7 h2
  ·simp [Array.getElem?_eq_none h2] at h
 ·rw [getD_set_ne false (Ne.symm e)];exact h
section
variable {P:Program} {C:Ctx} {N n:Nat} {σ:x5} {bs:Nat→List Bool} {HT:Nat→(j7×(Nat→Bool×D8))→j7} {lps:List (List Nat)} {full:List (Nat×AV)} {F:List (Nat×AV)→j7→j7→Prop} {l:List Oper} {cp:List (Nat×Oper×List (Nat×Nat))} {kA:Nat} {ss:List (List (Nat×Nat))} {al:List (Nat×AT)} {ci:List Nat} {H0:j7} {listed:Array Bool} {cacc c1:List (Nat×AV)} {H Zs Hr:j7} {k:Nat} {ws:Nat→Nat}
structure OkZ (l:List Oper) (n:Nat) (ss:List (List (Nat×Nat))) (ks ci:List Nat) (lps:List (List Nat)) (kA:Nat):Prop where
 chain:S7 l.toArray n ss ci=true
 cg:∀ i∈ci,a1G l.toArray i=true
 ksn:∀ i∈ks,i < n∧i∉ci
 c4y:∀ m i,m < kA→ci[m]?=some i→U4 ss i ks=true
 c3o:∀ m i,kA≤m→ci[m]?=some i→∀ j∈ks,Region.waitsFor .any l.toArray i j=true
 lp:∀ m i,m≤ci.length→i∈lps.getD m []→i < n∧i∉ci∧i∉ks∧a1G l.toArray i=true∧U4 ss i ks=true∧(m≠0∧∃ j,Region.waitsFor .any l.toArray i j=true∧((∃ m',m=m'+1∧ci[m']?=some j)∨j∈lps.getD m [])) ∧
  ∀ m2,m < m2→m2≤ci.length→(∀ m3 j,m2=m3+1→ci[m3]?=some j→U4 ss i [j]=true)∧U4 ss i (lps.getD m2 [])=true∧i∉lps.getD m2 []
 late:∀ m,m≤ci.length→b1a ss (lps.getD m [])=true
theorem okZ {ks:List Nat} (h:a7J l.toArray n ss ks ci lps kA=true):OkZ l n ss ks ci lps kA:=by
 simp only [a7J,Bool.and_eq_true] at h
 obtain⟨⟨⟨⟨⟨h1,h2⟩,h3⟩,h4⟩,h4b⟩,h5⟩:=h
 refine⟨h1,fun i hi=>List.all_eq_true.1 h2 i hi,fun i hi => ?_,fun m i hm hi=>List.all_eq_true.1 h4 i (List.mem_of_getElem? (i:=m) (by rw [List.getElem?_take,if_pos hm];exact hi)),
  fun m i hm hi j hj=>List.all_eq_true.1 (List.all_eq_true.1 h4b i (List.mem_of_getElem? (i:=m - kA) (by rw [List.getElem?_drop,show kA+(m - kA)=m by omega];exact hi))) j hj,fun m i hm hi => ?_,fun m hm => ?_⟩
 ·have:=List.all_eq_true.1 h3 i hi
  simp only [Bool.and_eq_true,Bool.not_eq_true',List.contains_eq_mem,decide_eq_false_iff_not] at this
  exact⟨by simpa [Nat.blt_eq] using this.1,this.2⟩
 ·have h6:=List.all_eq_true.1 h5 m (List.mem_range.2 (by omega))
  rw [Bool.and_eq_true] at h6
  have h7:=List.all_eq_true.1 h6.1 i hi
  simp only [Bool.and_eq_true,Bool.not_eq_true',List.contains_eq_mem,decide_eq_false_iff_not] at h7
  obtain⟨⟨⟨⟨⟨⟨a1,a2⟩,a3⟩,a4⟩,a5⟩,a6⟩,a7⟩:=h7
  refine⟨by simpa [Nat.blt_eq] using a1,a2,a3,a4,a5,?_,fun m2 hlt hle => ?_⟩
  ·cases m with
   | zero=>cases a6
   | succ m' =>
    simp only [Bool.or_eq_true] at a6
    refine⟨by omega,?_⟩
    rcases a6 with a6|a6
    ·cases hc:ci[m']? with
     | none=>rw [hc] at a6;cases a6
     | some j=>rw [hc] at a6;exact⟨j,a6,.inl ⟨m',rfl,hc⟩⟩
    ·obtain⟨j,hj,hw⟩:=List.any_eq_true.1 a6
     exact⟨j,hw,.inr hj⟩
  ·have h8:=List.all_eq_true.1 a7 m2 (List.mem_range.2 (by omega))
   simp only [Bool.or_eq_true,Bool.and_eq_true,Bool.not_eq_true',decide_eq_false_iff_not] at h8
   rcases h8 with h8|h8
   ·have:=Nat.le_of_ble_eq_true h8;omega
   ·refine⟨fun m3 j e hj => ?_,h8.1.2,h8.2⟩
    subst e
    have:=h8.1.1
    simp only [hj] at this
    exact this
 ·have h6:=List.all_eq_true.1 h5 m (List.mem_range.2 (by omega))
  rw [Bool.and_eq_true] at h6
  exact h6.2
theorem a6M (i:Nat):U4 ss i []=true:=by
 unfold U4
 cases ss[i]? with
 | none=>rfl
 | some s=>simp
theorem OkZ.zero {ks:List Nat} (h:OkZ l n ss ks ci lps kA):OkZ l n ss (([]:List (Nat×AT)).map Prod.fst) ci lps ci.length:=by
 refine⟨h.chain,h.cg,fun i hi=>(by cases hi),fun m i _ _=>a6M i,fun m i hm hi => ?_,fun m i hm hi => ?_,h.late⟩
 ·have:=(List.getElem?_eq_some_iff.1 hi).1;omega
 ·obtain⟨b1,b2,b3,b4,b5,b6,b7⟩:=h.lp m i hm hi
  exact⟨b1,b2,by simp,b4,a6M i,b6,b7⟩
theorem b2S {q q' j:Nat} (h:a2k lps q j) (hq:q≤q'):a2k lps q' j:=by obtain⟨m,h1,h2⟩:=h;exact⟨m,Nat.le_trans h1 hq,h2⟩
theorem a8K (hz:OkZ l n ss (al.map Prod.fst) ci lps kA) {m q j:Nat} (hm:m≤ci.length) (hq:q≤ci.length) (h:j∈lps.getD m []) (hl:a2k lps q j):m≤q:=by
 obtain⟨m2,h1,h2⟩:=hl
 rcases Nat.lt_or_ge m2 m with h3|h3
 ·exact absurd h ((hz.lp m2 j (by omega) h2).2.2.2.2.2.2 m h3 hm).2.2
 ·omega
theorem a0C.pure (hz:OkZ l n ss (al.map Prod.fst) ci lps kA) {i:Nat} (h:a0C P C N σ bs HT l ss lps H0 full F al ci cp k c1 Zs Hr ws listed cacc H) (h1:i∉ci) (h2:i∉al.map Prod.fst) (h3:¬a2k lps ci.length i):a0C P C N σ bs HT l ss lps H0 full F al ci cp k c1 Zs Hr ws (listed.setIfInBounds i true) cacc H:=by
 have hput:∀ j,j≠i→(listed.setIfInBounds i true).getD j false=listed.getD j false:=fun j hj=>getD_set_ne false (Ne.symm hj)
 refine⟨fun j hj hl q hq=>V4 i (h.w j hj (by rwa [hput j (fun e=>h1 (e▸hj))] at hl) q hq),h.kle,h.kp,fun m j hj => ?_,h.al0,h.oth,fun j hj => ?_,fun j hj => ?_,h.due,?_,h.pl⟩
 ·rw [hput j (fun e=>h1 (e▸List.mem_of_getElem? hj))];exact h.ch m j hj
 ·rw [hput j (fun e=>h2 (e▸hj))];exact h.al1 j hj
 ·rw [hput j (fun e=>h3 (e▸hj))];exact h.lp j hj
 ·rw [h.H]
  congr 2
  exact a1d fun p hp=>⟨(hput p.1 (fun e=>h2 (e▸List.mem_map_of_mem hp))).symm,rfl⟩
theorem a0C.alloc (hz : OkZ l n ss (al.map Prod.fst) ci lps kA) {p : Nat × AT} (hn : (al.map Prod.fst).Nodup) (hp : p ∈ al) (h : a0C P C N σ bs HT l ss lps H0 full F al ci cp k c1 Zs Hr ws listed cacc H) (hun : listed.getD p.1 false = false) (hlt : p.1 < listed.size) :
    ∃ F',y4 H T8 F'∧∀ b,a0C P C N σ bs HT l ss lps H0 full F al ci cp k c1 Zs Hr (upd ws p.1 b) (listed.setIfInBounds p.1 true) ((p.1,p.2.res b)::cacc) (F' (p.2.blk b)):=by
  have hput:∀ j,j≠p.1→(listed.setIfInBounds p.1 true).getD j false=listed.getD j false:=fun j hj=>getD_set_ne false (Ne.symm hj)
  have hset:(listed.setIfInBounds p.1 true).getD p.1 false=true:=G7 hlt
  have hpm:p.1∈al.map Prod.fst:=List.mem_map_of_mem hp
  have hd:p.1∉ci:=(hz.ksn p.1 hpm).2
  have hlp:¬a2k lps ci.length p.1:=fun ⟨m,hm,hx⟩=>(hz.lp m p.1 hm hx).2.2.1 hpm
  obtain⟨F',h1,h2⟩:=a9O (f:=fun j=>listed.getD j false) (ws:=ws) (H0:=Hr) hn hp hun
  have hH:=h.H
  subst hH
  refine⟨fun X=>Zs++F' X,y4.app h1,fun b=>⟨fun j hj hl q hq=>V4 p.1 (h.w j hj (by rwa [hput j (fun e=>hd (e▸hj))] at hl) q hq),h.kle,h.kp,fun m j hj => ?_,h.al0,fun j hj hj2 => ?_,fun j hj => ?_,fun j hj => ?_,h.due,?_,h.pl⟩⟩
  · rw [hput j (fun e=>hd (e▸List.mem_of_getElem? hj))];exact h.ch m j hj
  · rw [y5,if_neg (fun e:p.1=j=>hj (e▸hpm))];exact h.oth j hj hj2
  · rw [y5]
    by_cases e:p.1=j
    · subst e
      rw [if_pos rfl,if_pos hset,a7I hn hp]
      simp [upd]
    · rw [if_neg e,hput j (Ne.symm e),h.al1 j hj,a1W (ws:=ws) (ws':=upd ws p.1 b) (by simp [upd,Ne.symm e])]
  · have hne:p.1≠j:=fun e=>hlp (e▸hj)
    rw [y5,if_neg hne,hput j (Ne.symm hne)];exact h.lp j hj
  · show Zs++F' (p.2.blk b)=_
    rw [h2 b]
    congr 2
    refine a1d fun q hq=>⟨?_,rfl⟩
    by_cases e:q.1=p.1
    · rw [e,if_pos rfl,hset]
    · rw [if_neg e,hput _ e]
theorem a0C.env (h : a0C P C N σ bs HT l ss lps H0 full F al ci cp k c1 Zs Hr ws listed cacc H) {i : Nat} {o : Oper} {s : List (Nat × Nat)} (hok : a0F l.toArray n ss i = true) (hol : l[i]? = some o) (hs : ss[i]? = some s) (hsf : U4 ss i (al.map Prod.fst) = true) (hw : ∀ j, Region.waitsFor .any l.toArray i j = true → listed.getD j false = true) :
    D3 σ (cacc++full) s (C4 o)=D3 σ (c1++full) s (C4 o):=W7 fun t ht j hj=>by
  unfold a0F at hok
  have ho':l.toArray[i]?=some o:=by simpa using hol
  simp only [ho',hs,Bool.and_eq_true] at hok
  have h6:=List.all_eq_true.1 hok.1 t ht
  unfold a0I at h6
  simp only [hj,Bool.and_eq_true] at h6
  have hlj:=hw j h6.2
  rw [C0,C0]
  by_cases hjl:a2k lps ci.length j
  · rw [(h.lp j hjl).1,if_pos hlj]
  · rw [h.oth j (a1e hsf hs hj) hjl]
theorem a0C.late (hz : OkZ l n ss (al.map Prod.fst) ci lps kA) (hok : ∀ i, i < n → a0F l.toArray n ss i = true) {m i : Nat} {o : Oper} {s : List (Nat × Nat)} (hm : m ≤ ci.length) (him : i ∈ lps.getD m [])
    (h:a0C P C N σ bs HT l ss lps H0 full F al ci cp k c1 Zs Hr ws listed cacc H) (hol:l[i]?=some o) (hs:ss[i]?=some s) (hw:∀ j,Region.waitsFor .any l.toArray i j=true→listed.getD j false=true) (hlt:i < listed.size) (hfam:∃ q,H=HT i q) (hnone:o9 full i=none) :
    o.guard=none∧B3 P C N o (D3 σ (cacc++full) s (C4 o)) H (fun r H'=>(∀ r0,o9 full i=some r0→r=r0)∧a0C P C N σ bs HT l ss lps H0 full F al ci cp k c1 Zs Hr ws (listed.setIfInBounds i true) ((i,r)::cacc) H'):=by
  obtain⟨b1,b2,b3,b4,b5,⟨hm0,j,hwj,hcase⟩,b7⟩:=hz.lp m i hm him
  have hmk:m≤k:=by
    rcases hcase with ⟨m',e,hc⟩|hj
    · have:=(h.ch m' j hc).1 (hw j hwj);omega
    · exact a8K hz hm h.kle hj ((h.lp j ⟨m,hm,hj⟩).2 (hw j hwj))
  obtain⟨r,hr1,hr2⟩:=h.due m i o s hmk him hol hs
  have hg:o.guard=none:=by
    unfold a1G at b4
    simp only [show l.toArray[i]?=some o by simpa using hol] at b4
    exact Option.isNone_iff_eq_none.1 b4
  refine⟨hg,?_⟩
  rw [h.env (hok i b1) hol hs b5 hw]
  obtain⟨q,rfl⟩:=hfam
  have hput:∀ j,j≠i→(listed.setIfInBounds i true).getD j false=listed.getD j false:=fun j hj=>getD_set_ne false (Ne.symm hj)
  have hset:(listed.setIfInBounds i true).getD i false=true:=G7 hlt
  have hil:a2k lps ci.length i:=⟨m,hm,him⟩
  refine B3.ofP (fun ρ I L hs' a w ha hm'=>(hr2 q ρ I L hs' a w ha hm').mono ?_)
  rintro v w' ⟨J,X,q1,q2,q3,q4,q5,rfl,r',q6,rfl⟩
  refine⟨J,[],q1,q2,q3,q4,q5,a8,r',q6,fun r0 h0=>(by rw [hnone] at h0;cases h0),⟨fun j hj hl q hq=>V4 i (h.w j hj (by rwa [hput j (fun e=>b2 (e▸hj))] at hl) q hq),h.kle,h.kp,fun m2 j hj => ?_,h.al0,fun j hj hj2 => ?_,fun j hj => ?_,fun j hj => ?_,h.due,?_,h.pl⟩⟩
  · rw [hput j (fun e=>b2 (e▸List.mem_of_getElem? hj))];exact h.ch m2 j hj
  · rw [y5,if_neg (fun e:i=j=>hj2 (e▸hil))];exact h.oth j hj hj2
  · have hne:i≠j:=fun e=>b3 (e▸hj)
    rw [y5,if_neg hne,hput j (Ne.symm hne)];exact h.al1 j hj
  · by_cases e2:i=j
    · subst e2
      rw [y5,if_pos rfl,if_pos hset,hr1]
      exact⟨a8,fun _=>⟨m,hmk,him⟩⟩
    · rw [y5,if_neg e2,hput j (Ne.symm e2)];exact h.lp j hj
  · rw [h.H]
    congr 2
    exact a1d fun p hp=>⟨(hput p.1 (fun e=>b3 (e▸List.mem_map_of_mem hp))).symm,rfl⟩
theorem a0C.chain (hz : OkZ l n ss (al.map Prod.fst) ci lps kA) (hok : ∀ i, i < n → a0F l.toArray n ss i = true) {i : Nat} {o : Oper} {s : List (Nat × Nat)} (hcl : ∀ (m i : Nat) (o : Oper) (s : List (Nat × Nat)), m < cp.length → ci[m]? = some i → l[i]? = some o → ss[i]? = some s → cp[m]? = some (i, o, s)) (hkA : cp.length ≤ kA ∨ kA = ci.length) (hkc : k < cp.length) (hnd : ci.Nodup) (hin : i < n)
    (h:a0C P C N σ bs HT l ss lps H0 full F al ci cp k c1 Zs Hr ws listed cacc H) (hi:i∈ci) (hol:l[i]?=some o) (hs:ss[i]?=some s) (hun:listed.getD i false=false) (hw:∀ j,Region.waitsFor .any l.toArray i j=true→listed.getD j false=true) (hlt:i < listed.size) :
    o.guard=none∧B3 P C N o (D3 σ (cacc++full) s (C4 o)) H (fun r H'=>(∀ r0,o9 full i=some r0→r=r0)∧∃ c1' Zs' Hr',a0C P C N σ bs HT l ss lps H0 full F al ci cp (k+1) c1' Zs' Hr' ws (listed.setIfInBounds i true) ((i,r)::cacc) H'):=by
  have hg:o.guard=none:=by
    have:=hz.cg i hi
    unfold a1G at this
    simp only [show l.toArray[i]?=some o by simpa using hol] at this
    exact Option.isNone_iff_eq_none.1 this
  have hia:i∉al.map Prod.fst:=fun hx=>(hz.ksn i hx).2 hi
  have hilp:¬a2k lps ci.length i:=fun ⟨m,hm,hx⟩=>(hz.lp m i hm hx).2.1 hi
  have hput:∀ j,j≠i→(listed.setIfInBounds i true).getD j false=listed.getD j false:=fun j hj=>getD_set_ne false (Ne.symm hj)
  obtain⟨m,hm⟩:=List.mem_iff_getElem?.1 hi
  have hml:m < ci.length:=(List.getElem?_eq_some_iff.1 hm).1
  have hmk:¬m < k:=fun hx=>by have:=(h.ch m i hm).2 hx;rw [hun] at this;cases this
  have hkm:m≤k:=by
    have hch:=hz.chain
    unfold S7 at hch
    cases m with
    | zero=>omega
    | succ mj =>
      have h1:=List.all_eq_true.1 hch (mj+1) (List.mem_range.2 hml)
      simp only [hm,Bool.and_eq_true] at h1
      cases hj:ci[mj]? with
      | none=>simp [hj] at h1
      | some j =>
        simp only [hj,Bool.and_eq_true] at h1
        have:=(h.ch mj j hj).1 (hw j h1.2.2)
        omega
  obtain rfl:m=k:=by omega
  have hcc:=hcl m i o s hkc hm hol hs
  have hdrop:cp.drop m=(i,o,s)::cp.drop (m+1):=by
    have hlt:=(List.getElem?_eq_some_iff.1 hcc).1
    rw [List.drop_eq_getElem_cons hlt]
    congr 1
    rw [List.getElem?_eq_getElem hlt] at hcc
    exact Option.some.inj hcc
  have hpl:=h.pl
  rw [hdrop,a2T] at hpl
  replace hpl:=hpl.2 (hA (fun j=>listed.getD j false) ws al)
  refine⟨hg,?_⟩
  rw [h.env (hok i hin) hol hs (hz.c4y m i (by omega) hm) hw]
  have hnext : ∀ r Zs' Hr', prom P N C σ HT full (I3 l ss (lps.getD (m + 1) [])) ((i, r) :: c1) (fun c => a2T P C N σ bs HT (fun k => I3 l ss (lps.getD k [])) H0 full al F (cp.drop (m + 1)) (m + 1) c Zs' Hr') →
      ∃ c1' Zs'' Hr'',a0C P C N σ bs HT l ss lps H0 full F al ci cp (m+1) c1' Zs'' Hr'' ws (listed.setIfInBounds i true) ((i,r)::cacc) (Zs'++(hA (fun j=>listed.getD j false) ws al++Hr')):=fun r Zs' Hr' hq=>by
    obtain⟨c',k1,k2,k3⟩:=a4u (hz.late (m+1) (by omega)) hq
    have hLlp:∀ j,j∈lps.getD (m+1) []→a2k lps ci.length j:=fun j hj=>⟨m+1,by omega,hj⟩
    refine⟨c',Zs',Hr',fun j hj hl q hwq => ?_,by omega,by omega,fun m' i' hm' => ?_,fun j hj => ?_,fun j hj hj2 => ?_,fun j hj => ?_,fun j hj => ?_,fun m2 i2 o2 s2 hm2 hi2 ho2 hs2 => ?_,?_,k1⟩
    · by_cases e:j=i
      · subst e;exact V4 j (hw q hwq)
      · exact V4 i (h.w j hj (by rwa [hput j e] at hl) q hwq)
    · by_cases e:i'=i
      · subst e
        have h1:=(List.getElem?_eq_some_iff.1 hm')
        have h2:=(List.getElem?_eq_some_iff.1 hm)
        have:m'=m:=(List.getElem_inj (h₀:=h1.1) (h₁:=h2.1) hnd).1 (by rw [h1.2,h2.2])
        subst this
        exact⟨fun _=>by omega,fun _=>G7 hlt⟩
      · rw [hput i' e,h.ch m' i' hm']
        have:m'≠m:=by rintro rfl;rw [hm] at hm';exact e (Option.some.inj hm').symm
        omega
    · rw [k2 j (fun hx=>(hz.lp (m+1) j (by omega) hx).2.2.1 hj),y5,if_neg (fun e=>hia (by rw [e];exact hj))];exact h.al0 j hj
    · rw [k2 j (fun hx=>hj2 (hLlp j hx)),y5,y5,h.oth j hj hj2]
    · have hji:j≠i:=fun e=>hia (e▸hj)
      rw [y5,if_neg (Ne.symm hji),hput j hji];exact h.al1 j hj
    · have hji:j≠i:=fun e=>hilp (e▸hj)
      rw [y5,if_neg (Ne.symm hji),hput j hji,(h.lp j hj).1]
      refine⟨?_,fun hl=>b2S ((h.lp j hj).2 hl) (Nat.le_succ _)⟩
      split
      · rename_i hl
        have hkk:=(h.lp j hj).2 hl
        rw [k2 j (fun hx=>by have:=a8K hz (by omega) (by omega) hx hkk;omega),y5,if_neg (Ne.symm hji)]
      · rfl
    · rcases Nat.lt_or_ge m m2 with hlt2|hge2
      · obtain rfl:m2=m+1:=by omega
        exact k3 i2 o2 s2 hi2 ho2 hs2
      · obtain⟨r2,d1,d2⟩:=h.due m2 i2 o2 s2 hge2 hi2 ho2 hs2
        obtain⟨e1,e2,e3⟩:=(hz.lp m2 i2 (by omega) hi2).2.2.2.2.2.2 (m+1) (by omega) (by omega)
        have hi2i:i2≠i:=fun e=>(hz.lp m2 i2 (by omega) hi2).2.1 (e▸hi)
        refine⟨r2,by rw [k2 i2 e3,y5,if_neg (Ne.symm hi2i)];exact d1,fun Hp => ?_⟩
        have he:D3 σ (c'++full) s2 (C4 o2)=D3 σ (c1++full) s2 (C4 o2):=W7 fun t _ j hj=>by
          have hj1:=a1e (e1 m i rfl hm) hs2 hj
          have hj2:=a1e e2 hs2 hj
          have hji:j≠i:=fun e=>hj1 (by simp [e])
          rw [C0,C0,k2 j hj2,y5,if_neg (Ne.symm hji)]
        rw [he];exact d2 Hp
    · congr 2
      exact a1d fun p hp=>⟨(hput p.1 (fun e=>hia (e▸List.mem_map_of_mem hp))).symm,rfl⟩
  have hH:=h.H
  subst hH
  cases hr:o9 full i with
  | none =>
    rw [hr] at hpl
    exact hpl.mono fun r H' ⟨Zs',Hr',e,hq⟩=>⟨fun r0 h0=>(by cases h0),e▸hnext r Zs' Hr' hq⟩
  | some r0 =>
    rw [hr] at hpl
    exact hpl.mono fun r H' ⟨er,Zs',Hr',e,hq⟩=>⟨fun q h0=>by cases h0;exact er,by subst er;exact e▸hnext _ Zs' Hr' hq⟩
theorem a0C.toB {F2 : List (Nat × AV) → j7 → j7 → Prop} {cp2 : List (Nat × Oper × List (Nat × Nat))} (hz : OkZ l n ss (al.map Prod.fst) ci lps kA) (hnal : (al.map Prod.fst).Nodup)
    (hF:∀ c Zs Hr,F c Zs Hr→a2T P C N σ bs HT (fun k=>I3 l ss (lps.getD k [])) H0 full [] F2 (cp2.drop cp.length) cp.length c Zs Hr)
    (h:a0C P C N σ bs HT l ss lps H0 full F al ci cp k c1 Zs Hr ws listed cacc H) (hk:k=cp.length) (hcp:cp.length≤cp2.length) (hall:∀ j∈al.map Prod.fst,listed.getD j false=true) :
    a0C P C N σ bs HT l ss lps H0 full F2 [] ci cp2 k (c1++rA ws al) (Zs++(al.map fun p=>p.2.blk (ws p.1))) Hr ws listed cacc H:=by
  subst hk
  have hpl:=h.pl
  rw [List.drop_length,a2T] at hpl
  refine⟨h.w,h.kle,hcp,h.ch,fun j hj=>(by cases hj),fun j _ hj2 => ?_,fun j hj=>(by cases hj),fun j hj => ?_,fun m i o s hm hi ho hs => ?_,?_,hF _ _ _ (hpl.2 ws)⟩
  · rw [C0]
    by_cases hja:j∈al.map Prod.fst
    · rw [h.al0 j hja,h.al1 j hja,if_pos (hall j hja)]
    · rw [h.oth j hja hj2,R0 hja]
      cases o9 c1 j<;>rfl
  · have hja:j∉al.map Prod.fst:=fun hx=>by
      obtain⟨m,hm,hi⟩:=hj
      exact(hz.lp m j hm hi).2.2.1 hx
    rw [C0,(h.lp j hj).1,R0 hja]
    refine⟨?_,(h.lp j hj).2⟩
    cases o9 c1 j<;>rfl
  · obtain⟨r,d1,d2⟩:=h.due m i o s hm hi ho hs
    have hsf:=(hz.lp m i (Nat.le_trans hm h.kle) hi).2.2.2.2.1
    refine⟨r,by rw [C0,d1],fun Hp => ?_⟩
    have he:D3 σ ((c1++rA ws al)++full) s (C4 o)=D3 σ (c1++full) s (C4 o):=W7 fun t _ j hj=>by
      have hj2:=a1e hsf hs hj
      rw [C0,C0,C0,R0 hj2]
      cases o9 c1 j<;>rfl
    rw [he];exact d2 Hp
  · rw [h.H,b2R fun p hp=>hall p.1 (List.mem_map_of_mem hp),List.append_assoc]
    rfl
theorem a0C.b9C {bks qs : List (List Bool)} {ks : List Nat} {i : Nat} (hq : c1a l.toArray n ks ci bks qs = true) (h : a0C P C N σ (fun k => bks.getD k []) HT l ss lps H0 full F al ci cp k c1 Zs Hr ws listed cacc H) (hin : i < n) (hna1 : i ∉ ks) (hnc : i ∉ ci) (hun : listed.getD i false = false) :
    ∃ q:j7×(Nat→Bool×D8),H=q.1++Q9 (qs.getD i []) H0 q.2 0:=by
  obtain⟨f,hf⟩:=h.pl.fam
  have hk:=h.kle
  have hle:leB (bks.getD k []) (qs.getD i [])=true:=by
    have h1:=List.all_eq_true.1 hq i (List.mem_range.2 hin)
    simp only [Bool.or_eq_true,List.contains_eq_mem,decide_eq_true_eq] at h1
    rcases h1 with (h1|h1)|h1
    · exact absurd h1 hna1
    · exact absurd h1 hnc
    · have h2:=List.all_eq_true.1 h1 k (List.mem_range.2 (by omega))
      simp only [Bool.or_eq_true] at h2
      rcases h2 with h2|h2
      · obtain⟨m,hm,hw⟩:=List.any_eq_true.1 h2
        have hmk:=List.mem_range.1 hm
        cases hci:ci[m]? with
        | none=>rw [hci] at hw;cases hw
        | some j =>
          rw [hci] at hw
          have h3:=h.w j (List.mem_of_getElem? hci) ((h.ch m j hci).2 hmk) i hw
          rw [hun] at h3;cases h3
      · exact h2
  obtain⟨f',hf'⟩:=a9P hle H0 f 0
  exact⟨(Zs++hA (fun j=>listed.getD j false) ws al,f'),by rw [h.H,hf,hf',List.append_assoc]⟩
theorem b1b (a b:List Nat):I3 l ss (a++b)=I3 l ss a++I3 l ss b:=by
 induction a with
 | nil=>rfl
 | cons i a ih =>
  simp only [List.cons_append,I3,ih]
  split<;>rfl
theorem a3Z:∀ (c:List Nat),(∀ i∈c,i < l.length∧i < ss.length)→(I3 l ss c).length=c.length
 | [],_=>rfl
 | i::c,h=>by
  obtain⟨h1,h2⟩:=h i List.mem_cons_self
  simp only [I3,List.getElem?_eq_getElem h1,List.getElem?_eq_getElem h2,List.length_cons]
  rw [a3Z c (fun j hj=>h j (List.mem_cons_of_mem _ hj))]
end
theorem I9.a1f {P : Program} {C : Ctx} {N : Nat} {Q : Exit → x5 → j7 → Prop} {σ : x5} {H : j7} {id : Nat} {l : List Oper} (bks : List (List Bool)) (qs : List (List Bool)) (lps : List (List Nat)) (al : List (Nat × AT)) (kA : Nat) (hm : P.follows .mixedOrders = true) (n : Nat) (ss : List (List (Nat × Nat))) (ci : List Nat)
    (hN:M4 N l=true) (hB:a1S l.toArray n ss=true) (hss:Nat.ble n ss.length=true) (hC:a7J l.toArray n ss (al.map Prod.fst) ci lps kA=true) (hkA:Nat.ble kA ci.length=true) (hnd:ci.Nodup) (hna:(al.map Prod.fst).Nodup)
    (hal:∀ p∈al,∀ o,l[p.1]?=some o→o.guard=none∧∀ σ' H',B3 P C N o σ' H' (fun r H''=>∃ b,r=p.2.res b∧H''=p.2.blk b::H'))
    (hq:c1a l.toArray n (al.map Prod.fst) ci bks qs=true) (hlen:Nat.ble lps.length (ci.length+1)=true)
    (h:a5c P N C σ (fun i (q:j7×(Nat→Bool×D8))=>q.1++Q9 (qs.getD i []) H q.2 0) (al.map Prod.fst++(lps.flatten++ci)) (fun accP=>((al.map Prod.fst++lps.flatten).all fun i=>(o9 accP i).isNone)=true ∧
      a2T P C N σ (fun k=>bks.getD k []) (fun i (q:j7×(Nat→Bool×D8))=>q.1++Q9 (qs.getD i []) H q.2 0) (fun k=>I3 l ss (lps.getD k [])) H accP al
        (a2T P C N σ (fun k=>bks.getD k []) (fun i (q:j7×(Nat→Bool×D8))=>q.1++Q9 (qs.getD i []) H q.2 0) (fun k=>I3 l ss (lps.getD k [])) H accP []
          (fun cacc Zs Hr=>D1 P C N l.toArray Q (l.drop n) (a1q (cacc++accP) (l.take n) 0 σ) (Zs++Hr)) (I3 l ss (ci.drop kA)) kA) (I3 l ss (ci.take kA)) 0 [] [] H) (l.take n) ss 0 []) :
    I9 P C N (.region id l.toArray true) Q σ H := .c10 (al:=al) (by
  have hB0:=hB
  simp only [a1S,Bool.and_eq_true,Bool.or_eq_true] at hB
  obtain⟨⟨⟨⟨⟨hle,hback⟩,hok⟩,hdst⟩,htail⟩,hseq⟩:=hB
  have hle':n≤l.length:=by simpa using Nat.le_of_ble_eq_true hle
  have hok':∀ i,i < n→a0F l.toArray n ss i=true:=fun i hi=>List.all_eq_true.1 hok i (List.mem_range.2 hi)
  have hssl:=Nat.le_of_ble_eq_true hss
  obtain⟨full,⟨hnone,hF⟩,_,hd⟩:=a3Y (l.take n) ss 0 [] (fun j r hj=>by simp [o9] at hj) h
  have hz:=okZ hC
  have hC':=hz.chain
  unfold S7 at hC'
  have hcin:∀ i∈ci,i < n:=fun i hi=>by
    obtain⟨m,hm⟩:=List.mem_iff_getElem?.1 hi
    have h1:=List.all_eq_true.1 hC' m (List.mem_range.2 (List.getElem?_eq_some_iff.1 hm).1)
    simp only [hm,Bool.and_eq_true] at h1
    simpa [Nat.blt_eq] using h1.1
  have hlpf:∀ i,i∈lps.flatten↔a2k lps ci.length i:=fun i=>by
    have hll:=Nat.le_of_ble_eq_true hlen
    constructor
    · intro hi
      obtain⟨L,hL,hi⟩:=List.mem_flatten.1 hi
      obtain⟨m,hm,rfl⟩:=List.getElem_of_mem hL
      exact⟨m,by omega,by simpa [List.getD,hm] using hi⟩
    · rintro⟨m,_,hi⟩
      by_cases hm2:m < lps.length
      · simp [List.getD,hm2] at hi
        exact List.mem_flatten.2 ⟨_,List.getElem_mem hm2,hi⟩
      · simp [List.getD,hm2] at hi
  have hcl:=a3W (l:=l) (ss:=ss) ci (fun i hi=>⟨_,_,List.getElem?_eq_getElem (Nat.lt_of_lt_of_le (hcin i hi) hle'),List.getElem?_eq_getElem (Nat.lt_of_lt_of_le (hcin i hi) hssl)⟩)
  have hp:∀ i o s,i < n→i∉al.map Prod.fst++(lps.flatten++ci)→l[i]?=some o→ss[i]?=some s→∃ r,o9 full i=some r∧a1T P N C σ (fun q:j7×(Nat→Bool×D8)=>q.1++Q9 (qs.getD i []) H q.2 0) full o s r:=fun i o s hi hic ho hsi=>by
    obtain⟨r,acc',h1,h2,h3⟩:=hd i o s (by rw [List.getElem?_take,if_pos hi];exact ho) hsi (by simpa using hic)
    rw [Nat.zero_add] at h1 h2 h3
    refine⟨r,h1,fun H' => ?_⟩
    have hoi:=hok' i hi
    unfold a0F at hoi
    have ho':l.toArray[i]?=some o:=by simpa using ho
    simp only [ho',hsi,Bool.and_eq_true] at hoi
    have hback':∀ j,Region.waitsFor .any l.toArray i j=true→j < i:=fun j hw=>by
      obtain⟨e,he,hb,heq⟩:=a0K ho' hw
      have hil:i < l.toArray.size:=(Array.getElem?_eq_some_iff.1 ho').1
      have h4:=List.all_eq_true.1 hback i (List.mem_range.2 hil)
      simp only [ho',Array.all_eq_true_iff_forall_mem] at h4
      have h5:=h4 e he
      rw [hb] at h5
      have:e.on < i:=by simpa [Nat.blt_eq] using h5
      omega
    have henv:∀ t∈C4 o,∀ j,J0 s t=some j→o9 acc' j=o9 full j:=fun t ht j hj=>by
      have h6:=List.all_eq_true.1 hoi.1 t ht
      unfold a0I at h6
      simp only [hj,Bool.and_eq_true] at h6
      exact h3 j (hback' j h6.2)
    have hdd:=h2 H'
    unfold a4J at hdd ⊢
    rw [←W7 henv]
    cases hg:o.guard with
    | none=>rw [hg] at hdd;exact hdd
    | some p =>
      obtain⟨g,want⟩:=p
      rw [hg] at hdd
      have h6:=hoi.2
      rw [hg] at h6
      simp only [Bool.and_eq_true] at h6
      simp only at hdd ⊢
      rw [←h3 g (hback' g h6.1.2)];exact hdd
  have hkA':=Nat.le_of_ble_eq_true hkA
  have hvalid:∀ c:List Nat,(∀ i∈c,i∈ci)→∀ i∈c,i < l.length∧i < ss.length:=fun c hc i hi=>⟨Nat.lt_of_lt_of_le (hcin i (hc i hi)) hle',Nat.lt_of_lt_of_le (hcin i (hc i hi)) hssl⟩
  have hlA:(I3 l ss (ci.take kA)).length=kA:=by
    rw [a3Z _ (hvalid _ (fun i hi=>List.mem_of_mem_take hi)),List.length_take];omega
  have hlB:(I3 l ss ci).length=ci.length:=a3Z _ (hvalid _ (fun i hi=>hi))
  have hdrop:(I3 l ss ci).drop (I3 l ss (ci.take kA)).length=I3 l ss (ci.drop kA):=by
    have:=b1b (l:=l) (ss:=ss) (ci.take kA) (ci.drop kA)
    rw [List.take_append_drop] at this
    rw [this,List.drop_left]
  have hclA:∀ (m i:Nat) (o:Oper) (s:List (Nat×Nat)),m < (I3 l ss (ci.take kA)).length→ci[m]?=some i→l[i]?=some o→ss[i]?=some s→(I3 l ss (ci.take kA))[m]?=some (i,o,s):=fun m i o s hm hi ho hs =>
    a3W (ci.take kA) (fun i hi=>by
      obtain⟨h1,h2⟩:=hvalid _ (fun i hi=>List.mem_of_mem_take hi) i hi
      exact⟨_,_,List.getElem?_eq_getElem h1,List.getElem?_eq_getElem h2⟩) m i o s (by rw [List.getElem?_take,if_pos (by omega)];exact hi) ho hs
  have hzB:=hz.zero
  let FB:List (Nat×AV)→j7→j7→Prop:=fun cacc Zs Hr=>D1 P C N l.toArray Q (l.drop n) (a1q (cacc++full) (l.take n) 0 σ) (Zs++Hr)
  let FA:List (Nat×AV)→j7→j7→Prop:=a2T P C N σ (fun k=>bks.getD k []) (fun i (q:j7×(Nat→Bool×D8))=>q.1++Q9 (qs.getD i []) H q.2 0) (fun k=>I3 l ss (lps.getD k [])) H full [] FB (I3 l ss (ci.drop kA)) kA
  have htoB : ∀ {k c1 Zs Hr ws listed cacc H'}, a0C P C N σ (fun k => bks.getD k []) (fun i (q : j7 × (Nat → Bool × D8)) => q.1 ++ Q9 (qs.getD i []) H q.2 0) l ss lps H full FA al ci (I3 l ss (ci.take kA)) k c1 Zs Hr ws listed cacc H' → k = kA → (∀ j ∈ al.map Prod.fst, listed.getD j false = true) →
      a0C P C N σ (fun k=>bks.getD k []) (fun i (q:j7×(Nat→Bool×D8))=>q.1++Q9 (qs.getD i []) H q.2 0) l ss lps H full FB [] ci (I3 l ss ci) k (c1++rA ws al) (Zs++(al.map fun p=>p.2.blk (ws p.1))) Hr ws listed cacc H':=fun {k c1 Zs Hr ws listed cacc H'} hiv hk hall =>
    hiv.toB hz hna (fun c Zs Hr h=>by rw [hdrop,hlA];exact h) (by rw [hlA];exact hk) (by rw [hlA,hlB];exact hkA') hall
  refine I9.b7i (fun i (q:j7×(Nat→Bool×D8))=>q.1++Q9 (qs.getD i []) H q.2 0) hm n ss (al.map Prod.fst++(lps.flatten++ci)) hN hB0 full
    (fun listed cacc H'=>(∃ k c1 Zs Hr ws,a0C P C N σ (fun k=>bks.getD k []) (fun i (q:j7×(Nat→Bool×D8))=>q.1++Q9 (qs.getD i []) H q.2 0) l ss lps H full FA al ci (I3 l ss (ci.take kA)) k c1 Zs Hr ws listed cacc H') ∨
      ((∀ j∈al.map Prod.fst,listed.getD j false=true)∧∃ k c1 Zs Hr ws,a0C P C N σ (fun k=>bks.getD k []) (fun i (q:j7×(Nat→Bool×D8))=>q.1++Q9 (qs.getD i []) H q.2 0) l ss lps H full FB [] ci (I3 l ss ci) k c1 Zs Hr ws listed cacc H')) ?_ hp ?_ ?_ ?_ ?_
  · refine .inl ⟨0,[],[],H,fun _=>0,fun j _ hl=>(by rw [getD_replicate_false] at hl;cases hl),Nat.zero_le _,Nat.zero_le _,fun m i hi=>⟨fun hl => ?_,fun h=>by omega⟩,fun j _=>rfl,fun j _ _=>rfl,fun j _ => ?_,fun j _=>⟨?_,fun hl => ?_⟩,fun m i o s hm hi => ?_,?_,hF⟩
    · rw [getD_replicate_false] at hl;cases hl
    · rw [if_neg (by rw [getD_replicate_false];decide)];rfl
    · rw [if_neg (by rw [getD_replicate_false];decide)];rfl
    · rw [getD_replicate_false] at hl;cases hl
    · obtain⟨_,_,_,_,_,⟨hm0,_⟩,_⟩:=hz.lp m i (by omega) hi
      omega
    · rw [List.nil_append]
      congr 1
      exact(List.map_congr_left fun p _=>by simp only [getD_replicate_false];rfl)
  · rintro listed cacc H' i hiv hin hnc hun
    rw [List.mem_append,List.mem_append,not_or,not_or] at hnc
    rcases hiv with ⟨k,c1,Zs,Hr,ws,hiv⟩|⟨_,k,c1,Zs,Hr,ws,hiv⟩
    · exact hiv.b9C hq hin hnc.1 hnc.2.2 hun
    · exact hiv.b9C hq hin hnc.1 hnc.2.2 hun
  · rintro listed cacc H' i hiv hni
    rw [List.mem_append,List.mem_append,not_or,not_or] at hni
    rcases hiv with ⟨k,c1,Zs,Hr,ws,hiv⟩|⟨hall,k,c1,Zs,Hr,ws,hiv⟩
    · exact .inl ⟨k,c1,Zs,Hr,ws,hiv.pure hz hni.2.2 hni.1 (fun hx=>hni.2.1 ((hlpf i).2 hx))⟩
    · exact .inr ⟨fun j hj=>V4 i (hall j hj),k,c1,Zs,Hr,ws,hiv.pure hzB hni.2.2 (by simp) (fun hx=>hni.2.1 ((hlpf i).2 hx))⟩
  · rintro listed cacc H' i o s hiv hic hol hs hun hw hlt
    rcases List.mem_append.1 hic with hk|hc
    · obtain⟨p,hp,rfl⟩:=List.mem_map.1 hk
      obtain⟨hg,hop⟩:=hal p hp o hol
      rcases hiv with ⟨k,c1,Zs,Hr,ws,hiv⟩|⟨hall,_⟩
      · obtain⟨F',h1,h2⟩:=hiv.alloc hz hna hp hun hlt
        refine⟨hg,B3.c3j h1 ((hop _ _).mono fun r H'' ⟨b,hr,hH⟩=>⟨_,hH,fun r0 h0 => ?_,by rw [hr];exact .inl ⟨k,c1,Zs,Hr,_,h2 b⟩⟩)⟩
        have h3:=List.all_eq_true.1 hnone p.1 (List.mem_append_left _ hk)
        rw [h0] at h3;cases h3
      · rw [hall p.1 hk] at hun;cases hun
    · rcases List.mem_append.1 hc with hlp|hc
      · obtain⟨m,hm,him⟩:=(hlpf i).1 hlp
        have hlz:=hz.lp m i hm him
        have h3:=List.all_eq_true.1 hnone i (List.mem_append_right _ hlp)
        rcases hiv with ⟨k,c1,Zs,Hr,ws,hiv⟩|⟨hall,k,c1,Zs,Hr,ws,hiv⟩
        · obtain⟨hg,hop⟩:=hiv.late hz hok' hm him hol hs hw hlt (hiv.b9C hq hlz.1 hlz.2.2.1 hlz.2.1 hun) (Option.isNone_iff_eq_none.1 h3)
          exact⟨hg,hop.mono fun r H' ⟨q1,q2⟩=>⟨q1,.inl ⟨k,c1,Zs,Hr,ws,q2⟩⟩⟩
        · obtain⟨hg,hop⟩:=hiv.late hzB hok' hm him hol hs hw hlt (hiv.b9C hq hlz.1 hlz.2.2.1 hlz.2.1 hun) (Option.isNone_iff_eq_none.1 h3)
          exact⟨hg,hop.mono fun r H' ⟨q1,q2⟩=>⟨q1,.inr ⟨fun j hj=>V4 i (hall j hj),k,c1,Zs,Hr,ws,q2⟩⟩⟩
      · obtain⟨m,hm⟩:=List.mem_iff_getElem?.1 hc
        have hml:m < ci.length:=(List.getElem?_eq_some_iff.1 hm).1
        have hstepB : (∀ j ∈ al.map Prod.fst, listed.getD j false = true) → ∀ {k c1 Zs Hr ws}, a0C P C N σ (fun k => bks.getD k []) (fun i (q : j7 × (Nat → Bool × D8)) => q.1 ++ Q9 (qs.getD i []) H q.2 0) l ss lps H full FB [] ci (I3 l ss ci) k c1 Zs Hr ws listed cacc H' →
            o.guard=none∧B3 P C N o (D3 σ (cacc++full) s (C4 o)) H' (fun r H'=>(∀ r0,o9 full i=some r0→r=r0)∧((∃ k c1 Zs Hr ws,a0C P C N σ (fun k=>bks.getD k []) (fun i (q:j7×(Nat→Bool×D8))=>q.1++Q9 (qs.getD i []) H q.2 0) l ss lps H full FA al ci (I3 l ss (ci.take kA)) k c1 Zs Hr ws (listed.setIfInBounds i true) ((i,r)::cacc) H') ∨
              ((∀ j∈al.map Prod.fst,(listed.setIfInBounds i true).getD j false=true)∧∃ k c1 Zs Hr ws,a0C P C N σ (fun k=>bks.getD k []) (fun i (q:j7×(Nat→Bool×D8))=>q.1++Q9 (qs.getD i []) H q.2 0) l ss lps H full FB [] ci (I3 l ss ci) k c1 Zs Hr ws (listed.setIfInBounds i true) ((i,r)::cacc) H'))):=fun hall {k c1 Zs Hr ws} hiv=>by
          have hkc:k < (I3 l ss ci).length:=by
            rw [hlB]
            rcases Nat.lt_or_ge k ci.length with h|h
            · exact h
            · have:=(hiv.ch m i hm).2 (by omega)
              rw [hun] at this;cases this
          obtain⟨hg,hop⟩:=hiv.chain hzB hok' (fun m i o s _=>hcl m i o s) (.inr rfl) hkc hnd (hcin i hc) hc hol hs hun hw hlt
          exact⟨hg,hop.mono fun r H' ⟨q1,c1',Zs',Hr',q2⟩=>⟨q1,.inr ⟨fun j hj=>V4 i (hall j hj),k+1,c1',Zs',Hr',ws,q2⟩⟩⟩
        rcases hiv with ⟨k,c1,Zs,Hr,ws,hiv⟩|⟨hall,k,c1,Zs,Hr,ws,hiv⟩
        · rcases Nat.lt_or_ge k (I3 l ss (ci.take kA)).length with hkc|hkc
          · obtain⟨hg,hop⟩:=hiv.chain hz hok' hclA (.inl (Nat.le_of_eq hlA)) hkc hnd (hcin i hc) hc hol hs hun hw hlt
            exact⟨hg,hop.mono fun r H' ⟨q1,c1',Zs',Hr',q2⟩=>⟨q1,.inl ⟨k+1,c1',Zs',Hr',ws,q2⟩⟩⟩
          · have hke:k=kA:=by have:=hiv.kp;omega
            have hmk:kA≤m:=by
              rcases Nat.lt_or_ge m k with h|h
              · have:=(hiv.ch m i hm).2 h
                rw [hun] at this;cases this
              · omega
            have hall:∀ j∈al.map Prod.fst,listed.getD j false=true:=fun j hj=>hw j (hz.c3o m i hmk hm j hj)
            exact hstepB hall (htoB hiv hke hall)
        · exact hstepB hall hiv
  · rintro listed cacc H' hiv hall
    have hlist:∀ j∈al.map Prod.fst,listed.getD j false=true:=fun j hj=>hall j (hz.ksn j hj).1
    have hend:∀ {k c1 Zs Hr ws},a0C P C N σ (fun k=>bks.getD k []) (fun i (q:j7×(Nat→Bool×D8))=>q.1++Q9 (qs.getD i []) H q.2 0) l ss lps H full FB [] ci (I3 l ss ci) k c1 Zs Hr ws listed cacc H'→D1 P C N l.toArray Q (l.drop n) (a1q (cacc++full) (l.take n) 0 σ) H':=fun {k c1 Zs Hr ws} hiv=>by
      have hk:=hiv.kle
      have hk':k=ci.length:=by
        rcases Nat.lt_or_ge k ci.length with h|h
        · have:=(hiv.ch k _ (List.getElem?_eq_getElem h)).1 (hall _ (hcin _ (List.getElem_mem h)))
          omega
        · omega
      have hpl:=hiv.pl
      rw [hk',List.drop_eq_nil_of_le (Nat.le_of_eq hlB),a2T] at hpl
      have h2:D1 P C N l.toArray Q (l.drop n) (a1q ((c1++rA ws [])++full) (l.take n) 0 σ) ((Zs ++ [])++Hr):=hpl.2 ws
      rw [hiv.H]
      rw [List.append_nil] at h2
      rw [a1X (b:=(c1++rA ws [])++full) fun j => ?_]
      · exact h2
      · rw [C0,C0,C0]
        by_cases hjl:a2k lps ci.length j
        · obtain⟨m,hm,him⟩:=hjl
          rw [(hiv.lp j ⟨m,hm,him⟩).1,if_pos (hall j (hz.lp m j hm him).1)]
          cases o9 c1 j<;>rfl
        · rw [hiv.oth j (by simp) hjl]
          cases o9 c1 j<;>rfl
    rcases hiv with ⟨k,c1,Zs,Hr,ws,hiv⟩|⟨_,k,c1,Zs,Hr,ws,hiv⟩
    · have hk':k=kA:=by
        have h1:=hiv.kp
        rw [hlA] at h1
        rcases Nat.lt_or_ge k kA with h|h
        · have hkl:k < ci.length:=by omega
          have:=(hiv.ch k _ (List.getElem?_eq_getElem hkl)).1 (hall _ (hcin _ (List.getElem_mem hkl)))
          omega
        · omega
      exact hend (htoB hiv hk' hlist)
    · exact hend hiv)
end Go.Ab
namespace Go.Ab
open Go.Fl Go.RowKit
open p2 (rep)
section rules
variable {P:Program} {C:Ctx} {N:Nat} {σ:x5} {H:j7} {d:Option Nat} {ty:TypeId} {ps:String} {af:Array Edge} {g:Option (Nat×Bool)} {K:AV→Prop} {KH:AV→j7→Prop} {x y z:Operand} {T T2 E S D U:TypeId} {o:Oper}
theorem j5.b9D {β:Type} {n:Nat} {s:p2 β} {ag:Bool} {a:K5 n β} (hn:n≤9223372036854775807) (hf:K9 P T=some (n,p2.size β,ag)) (hx:D5 C σ H x (.p a)) (k:K (.vc a.l)):j5 P N C ⟨d,.slice T x none none none,ty,ps,af,g⟩ σ H K :=
 .vk k (fun ρ I L hs=>by
  obtain⟨u,h2,b,o,cs,rfl,h3,h4⟩:=hx ρ I L hs
  refine .a7v hf h2 ⟨⟨some ⟨b,o,none⟩,by rw [a.h]⟩,cs,?_,h3⟩
  have hl:=h3.len
  rw [a.h] at hl ⊢
  exact Sl.a3N h4 hl (Nat.le_refl _) (by unfold maxLen;omega))
theorem b7k {m n by_ : Nat} {ρ : Env} {I : Im} {L : Lh} {zv : Value} {xs : List Value} {a0 : Option Addr} (hT : P.underlying T = some (.slice E)) (h1 : b0J P E by_ zv) (hz1 : zv.cells = #[zv]) (hone : zv.oneCell' = true) (hU : P.underlying U = some (.int .i64))
    (hx:ev ρ x=some (.slice a0 n n)) (hsl:Sl I 1 (.slice a0 n n) n xs) (hy:ev ρ y=some (i64 (m:Int))) (hb:(n+m)*by_≤140737488355328) (hn:n+m≤9223372036854775807) :
    OpX P N ⟨d,.call ⟨.builtin .append,#[x,y],#[T,U]⟩,ty,ps,af,g⟩ ρ I L (fun v' J X=>J=I∧((X = []∧m=0∧v' = .slice a0 n n)∨∃ Y,X = [Y]∧a1c E 1 v' (n+m) (xs++List.replicate m zv) Y)):=by
  obtain⟨inf,hi,hz,hsz,hs2⟩:=h1.get
  refine OpX.push fun a w ha hm => ?_
  have hzc:∀ q,Builtin.zeroCells zv.cells q=(List.replicate q zv).toArray:=fun q=>by
    apply Array.ext'
    simp [Builtin.zeroCells,hz1,Nat.mod_one]
    rw [List.map_const']
    simp
  have hw:IntKind.wrap .i64 (m:Int)=(m:Int):=wrap_i64 (by omega) (by omega)
  have hm00:¬((m:Int) < 0):=by omega
  have hw0:IntKind.wrap .i64 0=0:=wrap_i64 (by omega) (by omega)
  rw [←hs2] at hb
  have hmb:¬((m:Int)*(inf.bytes:Int)>281474976710656):=by
    have:m*inf.bytes≤(n+m)*inf.bytes:=Nat.mul_le_mul_right _ (by omega)
    have h2:((m*inf.bytes:Nat):Int)≤140737488355328:=Int.ofNat_le.2 (Nat.le_trans this hb)
    rw [Int.natCast_mul] at h2
    omega
  have hmb':¬(281474976710656 < (m:Int)*(inf.bytes:Int)):=hmb
  have hop:∀ r,(Builtin.append_ #[T,U] ty #[.slice a0 n n,i64 (m:Int)]).run P w=r→(execOp a.eval ⟨d,.call ⟨.builtin .append,#[x,y],#[T,U]⟩,ty,ps,af,g⟩).run P w=r.andThen fun v w' => .ok (.value v) w':=fun r hr=>by
    simp [execOp,resolve,invoke,builtin,ha.ev hx,ha.ev hy,hr]
  by_cases hm0:m=0
  · left
    subst hm0
    refine⟨.slice a0 n n,?_,a8,.inl ⟨a8,a8,a8⟩⟩
    rw [hop (.ok (.slice a0 n n) w)]
    · rfl
    · cases a0<;>simp [Builtin.append_,run_underlying hT,run_underlying hU,sizeOf,typeInfo,zeroValue,hi,hz,asInt,asIntOf,hw0,storeCells]
  · right
    have hlt:n < n+m:=by omega
    have hold:(Builtin.firstCells 1 n (.slice a0 n n)).run P w.drew = .ok xs.toArray w.drew:=by
      have hm':Mem I L w.drew:=⟨hm.im,hm.loc,hm.sep,hm.nodup⟩
      have:=(Src.sl (P:=P) (L:=L) hsl).cells w.drew hm' n (Nat.le_refl _)
      rw [←hsl.len,List.take_length] at this;exact this
    have hge:=grownCap_ge w (n+m) n E
    have hcm:grownCap w (n+m) n E≤maxLen:=grownCap_le_maxLen w _ _ E (by unfold maxLen;omega)
    have hfit:¬(281474976710656 < Builtin.nextslicecap (n+m) n*inf.bytes):=by have:=growslice_fits hlt hb;omega
    have hnle:¬(n+m≤n):=by omega
    have h63':¬(9223372036854775807 < ((n:Int)+(m:Int))):=by omega
    have hr : (Builtin.append_ #[T, U] ty #[.slice a0 n n, i64 (m : Int)]).run P w = .ok (.slice (some ⟨w.heap.size, 0, none⟩) (n + m) (grownCap w (n + m) n E))
        (w.drew.alloc (.cells (xs.toArray++(List.replicate m zv).toArray++Builtin.zeroCells zv.cells (grownCap w (n+m) n E - (n+m))) E)):=by
      simp [Builtin.append_,run_underlying hT,run_underlying hU,sizeOf,typeInfo,zeroValue,hi,hz,asInt,asIntOf,hw,hm00,hmb',hnle,h63',hfit,Question.forced,newRow,grownCap,hold,hsz,hzc,hm0]
    refine⟨.slice (some ⟨w.heap.size,0,none⟩) (n+m) (grownCap w (n+m) n E),w.drew.alloc (.cells (xs.toArray++(List.replicate m zv).toArray++Builtin.zeroCells zv.cells (grownCap w (n+m) n E - (n+m))) E),
      .cells (xs.toArray++(List.replicate m zv).toArray++Builtin.zeroCells zv.cells (grownCap w (n+m) n E - (n+m))) E,by rw [hop _ hr];rfl,rfl,rfl,rfl,rfl,rfl,.inr ⟨_,rfl,?_⟩⟩
    have hxl:xs.length=n*1:=hsl.len
    refine .inr ⟨w.heap.size,grownCap w (n+m) n E,(Builtin.zeroCells zv.cells (grownCap w (n+m) n E - (n+m))).toList,(0,0),a8,?_,?_,?_,hge,hcm,.inl a8⟩
    · congr 3
      apply Array.ext';simp
    · rw [List.length_append,hxl,List.length_replicate,Nat.add_mul];omega
    · rw [hzc]
      simp only [List.length_append,hxl,List.length_replicate]
      omega
theorem j5.b7l {α : Type} {r : p2 α} {i0 : Inhabited α} {by_ : Nat} {l : List α} {m : Int} {zv : Value} (hT : P.underlying T = some (.slice E)) (h1 : b0J P E by_ zv) (hz1 : zv.cells = #[zv]) (hone : zv.oneCell' = true) (hsz : p2.size α = 1)
    (hz:∀ I,rep I (default:α) [zv]) (hU:P.underlying U=some (.int .i64)) (hx:D5 C σ H x (.vc l)) (hy:D5 C σ H y (.v m)) (h0:0≤m) (hb:(l.length+m.toNat)*by_≤140737488355328) (hn:l.length+m.toNat≤9223372036854775807)
    (k:K (.v (l++List.replicate m.toNat (default:α)))):j5 P N C ⟨d,.call ⟨.builtin .append,#[x,y],#[T,U]⟩,ty,ps,af,g⟩ σ H K:=fun ρ I L hs=>by
  obtain⟨u,h2,⟨a0,rfl⟩,xs,hsl,hrl⟩:=hx ρ I L hs
  obtain⟨h3,_⟩:=hy.int hs
  have hm:m=((m.toNat:Nat):Int):=by omega
  rw [hm] at h3
  rw [hsz] at hsl
  refine OpX.frz fun a w ha hmm=>(b7k hT h1 hz1 hone hU h2 hsl h3 hb hn a w ha hmm).mono ?_
  rintro v' w' ⟨J,X,q1,q2,q3,q4,q5,rfl,hq⟩
  have hrz:∀ J',K4 J' (List.replicate m.toNat (default:α)) (List.replicate m.toNat zv):=fun J'=>by
    have:=a0m (hz J') m.toNat
    have e:∀ n,(List.replicate n [zv]).flatten=List.replicate n zv:=fun n=>by
      induction n with
      | zero=>rfl
      | succ n ih=>rw [List.replicate_succ,List.flatten_cons,ih,List.replicate_succ];rfl
    rwa [e] at this
  refine⟨J,X,q1,q2,q3,q4,q5,fun J' hle hp=>⟨a8,.v (l++List.replicate m.toNat default),?_,k⟩⟩
  rcases hq with ⟨rfl,hm0,rfl⟩|⟨Y,rfl,hown⟩
  · rw [hm0,List.replicate_zero,List.append_nil]
    exact⟨_,⟨_,rfl,xs,by rw [hsz];exact hsl.mono hle,hrl.mono hle⟩,rfl⟩
  · have hown':(D8.own E v' (l++List.replicate m.toNat (default:α))).a69 J Y:=⟨_,by rw [List.length_append,List.length_replicate,hsz];exact hown,hrl.append (hrz J)⟩
    exact S6 hown' hle (fun p hq=>hp p (by simp [hq]))
end rules
section forget
variable {P:Program} {C:Ctx} {N:Nat} {σ:x5} {H:j7}
end forget
def b7m (r:AV) (Hs:List D8):Prop:=a7C r∧∀ I J L,a6g I Hs L→a6g J Hs L
theorem a7C.raw {u:Value}:a7C (.raw u):=fun I J v h=>h
theorem b7m.own {E:TypeId} {α:Type} [p2 α] [a9I α] {u:Value} {l:List α}:b7m (.raw u) [.own E u l]:=⟨.raw,fun I J L h=>by
 obtain⟨X,R,rfl,⟨xs,h1,h2⟩,h3⟩:=h
 exact⟨X,R,a8,⟨xs,h1,h2.any⟩,h3⟩⟩
section calls
variable {P:Program} {C:Ctx} {N:Nat} {σ:x5} {H:j7} {G:Gl} (hG:G.p C.I0) {f:FuncId} {d:Option Nat} {args:Array Operand} {tys:Array TypeId} {ty:TypeId} {ps:String} {af:Array Edge} {g:Option (Nat×Bool)} {ags:List AV}
include hG
theorem B3.c1b {post : AV → List D8 → Prop} {K : AV → j7 → Prop} (h : G0 G P f ags [] post) (hv : a6h C σ H args.toList ags) (hf : ∀ r Hs, post r Hs → b7m r Hs) (k : ∀ r Hs, post r Hs → K r (Hs.map (fun B => (true, B)) ++ H)) :
    B3 P C N ⟨d,.call ⟨.value (.func f),args,tys⟩,ty,ps,af,g⟩ σ H K:=fun ρ I L hs=>by
  obtain⟨vs,h1,h2⟩:=hv.get hs
  intro a w ha hst
  have hm:=hst.mem
  have hcs:∀ p∈L.flatten,I p.1=none:=hm.sep
  have hle0:Le I (I.with L.flatten):=Im.a0Z hcs
  have hM:=h (I.with L.flatten) [] vs (G.mono (hs.W3.trans hle0) hG) (h2 _ hle0 (fun p hp=>Im.a1b hm.nodup hp)) rfl
  have hm2:Mem (I.with L.flatten) [] w:=⟨fun b o hb=>by
    rcases Im.W5 hb with h|h
    · exact hm.loc (b,o) h
    · exact hm.im b o h,by simp,by simp,by simp⟩
  rw [a1K hM.ok rfl (ha.ev (x := .func f) rfl) (ha.evL h1)]
  refine(hM.run w hm2).mono ?_
  rintro e w' ⟨v,J,L',rfl,hc,hle,hn,hm',hown,r,Hs',q1,q2,q3⟩
  obtain⟨f1,f2⟩:=hf r Hs' q3
  have hlt:∀ p∈L.flatten,p.1 < w.heap.size:=fun p hp=>C6 (hm.loc p hp)
  have hnew:∀ p∈L'.flatten,w.heap.size≤p.1:=fun p hp=>by simpa using hown p hp
  have hmem:Mem I (L'++L) w':=by
    refine⟨fun b o hb=>(hc.block b (C6 (hm.im b o hb)) (by simp)).trans (hm.im b o hb),fun p hp => ?_,fun p hp => ?_,?_⟩
    · simp only [List.flatten_append,List.mem_append] at hp
      rcases hp with hp|hp
      · exact hm'.loc p hp
      · exact(hc.block p.1 (hlt p hp) (by simp)).trans (hm.loc p hp)
    · simp only [List.flatten_append,List.mem_append] at hp
      rcases hp with hp|hp
      · cases hj:I p.1 with
        | none=>rfl
        | some o=>have:=C6 (hm.im p.1 o hj);have:=hnew p hp;omega
      · exact hm.sep p hp
    · simp only [List.flatten_append,List.map_append]
      refine List.nodup_append.2 ⟨hm'.nodup,hm.nodup,?_⟩
      rintro x hx y hy rfl
      obtain⟨p,hp,rfl⟩:=List.mem_map.1 hx
      obtain⟨q,hq,hqe⟩:=List.mem_map.1 hy
      have:=hnew p hp
      have:=hlt q hq
      omega
  refine⟨v,a8,I,L'++L,hst.step (by simpa using hc) (Le.refl I) (fun b h0 h1=>absurd h0 h1) hmem hnew,Le.refl I,r,_,f1 _ _ _ q1,?_,k r Hs' q3⟩
  exact((f2 J I L' q2).toT (fun p hp=>Nat.le_trans hst.chg.size (hnew p hp))).append hs.heap
end calls
end Go.Ab
namespace Go.Fl
open Go.RowKit
section
variable {P:Program} {C:Ctx} {N:Nat} {ρ:Env} {I:Im} {L:Lh} {d:Option Nat} {F:Operand} {args:Array Operand} {tys:Array TypeId} {ty:TypeId} {ps:String} {af:Array Edge} {g:Option (Nat×Bool)} {vs:List Value}
end
end Go.Fl
namespace Go.Fl
open Go.RowKit
section
variable {P:Program} {C:Ctx} {N:Nat} {Q:Exit→Env→Im→Lh→Prop} {ρ:Env} {I:Im} {L:Lh}
end
abbrev Chunk:=List (Nat×Obj)
end Go.Fl
namespace Go.Ab
open Go.Fl Go.RowKit
open p2 (rep)
theorem j5.b3T {P : Program} {C : Ctx} {N : Nat} {σ : x5} {H : j7} {d : Option Nat} {ty : TypeId} {ps : String} {af : Array Edge} {g : Option (Nat × Bool)} {K : AV → Prop} {x y : Operand} {T T2 : TypeId} {m n : UInt64} (hx : D5 C σ H x (.v m)) (hy : D5 C σ H y (.v n)) (k : K (.v (m * n))) :
    j5 P N C ⟨d,.binOp .mul T x y T2,ty,ps,af,g⟩ σ H K := .vk k (fun ρ I L hs => .b3T (hx.a0l hs) (hy.a0l hs) ⟨_,rfl,rfl⟩)
theorem j5.a7s {P : Program} {C : Ctx} {N : Nat} {σ : x5} {H : j7} {d : Option Nat} {ty : TypeId} {ps : String} {af : Array Edge} {g : Option (Nat × Bool)} {K : AV → Prop} {x : Operand} {S D : TypeId} {ds : TypeDesc} {m : UInt8} (hS : P.underlying S = some ds) (hD : P.underlying D = some (.int .u64))
    (hx:D5 C σ H x (.v m)) (k:K (.v m.toUInt64)):j5 P N C ⟨d,.convert S D x,ty,ps,af,g⟩ σ H K := .vk k (fun ρ I L hs=>I1.a7s hS hD (hx.by8 hs) ⟨[Fl.u64 m.toUInt64],rfl,rfl⟩)
structure Iter where
 K:Nat→Im→Chunk→Prop
 Kx:Im→Chunk→Prop
 mono:∀ k I J Z,Le I J→K k I Z→K k J Z
 c43:∀ I J Z,Le I J→Kx I Z→Kx J Z
structure c5j where
 it:Iter
 st:Option Nat
section
variable {P:Program} {C:Ctx} {N:Nat} {Q:Exit→x5→j7→Prop} {σ:x5} {H:j7}
end
theorem D5.b9E {C:Ctx} {σ:x5} {H:j7} {α:Type} {r:p2 α} {t:Nat} {w:Value} {E:TypeId} {l:List α} {b:Bool} {F:Bool×D8→j7} (ht:F0 σ t=some (.raw w)) (hH:y4 H (b,.own E w l) F):D5 C σ H (.tmp t) (.v (S3.mk w)):=fun ρ I L hs=>by
 obtain⟨u,h1,rfl⟩:=hs.env t _ ht
 obtain⟨i,X,h2,h3,_⟩:=hH.get hs.heap
 obtain⟨xs,h4,_⟩:=h3.1
 obtain⟨a,c,rfl⟩:=h4.shape
 exact⟨_,h1,_,⟨a8,a8⟩,a8⟩
theorem G0.a9Q {G:Gl} {P:Program} {f:FuncId} {ags:List AV} {E:TypeId} {α:Type} [r:p2 α] {l:List α} (h:G0 G P f ags [] (fun r Hs=>∃ u,r = .raw u∧Hs = [.own E u l])):p6 G P f ags (fun r=>r = .v l):=fun I vs hG hvs=>by
 have hM:=h I [] vs hG hvs rfl
 refine⟨hM.ok,fun w hm=>(hM.run w hm).mono ?_⟩
 rintro e w' ⟨v,J,L',rfl,q1,q2,q3,q4,q5,r,Hs',q6,q7,u,rfl,rfl⟩
 obtain⟨X,R,rfl,q8,q9⟩:=q7
 have q9':R = []:=q9
 subst q9'
 have q6':v=u:=q6
 subst q6'
 have hle:Le J (J.with X):=Im.a0Z fun p hp=>q4.sep p (by simpa using hp)
 refine⟨v,J.with X,rfl,by simpa using q1,q2.trans hle,fun b h0 h1 => ?_,(q4.freeze (i:=0) (c:=X) rfl).drop,.v l,S6 q8 hle (fun p hp=>Im.a1b (by simpa using q4.nodup) hp),rfl⟩
 cases hj:J.with X b with
 | none=>exact absurd hj h1
 | some o =>
  rcases Im.W5 hj with h2|h2
  ·rcases q5 (b,o) (by simpa using h2) with h3|h3
   ·exact h3
   ·cases h3
  ·exact q3 b h0 (by simp [h2])
end Go.Ab
namespace Go.Ab
open Go.Fl Go.RowKit
open p2 (rep)
universe u
class TyI (P:Program) (T:TypeId) (α:outParam Type) (r:outParam (p2 α)) (i:outParam (Inhabited α)):Prop where h:F1 P T α
class UnI (P:Program) (T:TypeId) (d:outParam TypeDesc):Prop where h:P.underlying T=some d
class SlI (P:Program) (T:TypeId) (E:outParam TypeId) (α:outParam Type) (n:outParam Nat) (r:outParam (p2 α)) (i:outParam (Inhabited α)):Prop where h:SlT P T E α n
class FdI (P:Program) (T:TypeId) (i:Nat) (β:outParam Type) (s:outParam (p2 β)) (γ:outParam Type) (q:outParam (p2 γ)) (m:outParam (j6 β γ)) (f:outParam (β→γ)):Prop where
 h:∃ sz,p4 P T i=some (m.off,sz+1,p2.agg γ)∧sz+1=p2.size γ
 e:∀ x,m.get x=f x
 b:p2.agg β=true
class LnI {β γ:Type} {s:p2 β} {q:p2 γ} (m:j6 β γ) (f:outParam (β→γ)) (g:outParam (γ→β→β)):Prop where
 e:∀ x,m.get x=f x
 u:∀ y x,m.set y x=g y x
abbrev TyJ (P:Program) (T:TypeId) (α:Type) [r:p2 α] [i:Inhabited α]:Prop:=TyI P T α r i
abbrev SlJ (P:Program) (T E:TypeId) (α:Type) (n:Nat) [r:p2 α] [i:Inhabited α]:Prop:=SlI P T E α n r i
abbrev W4 (P:Program) (T:TypeId) (i:Nat) {β γ:Type} [s:p2 β] [q:p2 γ] (m:j6 β γ) (f:β→γ):Prop:=FdI P T i β s γ q m f
theorem FdI.mk' {P:Program} {T:TypeId} {i:Nat} {β:Type} {s:p2 β} {γ:Type} {q:p2 γ} {m:j6 β γ} {f:β→γ} {off sz:Nat} {ag:Bool} (hf:p4 P T i=some (off,sz+1,ag)) (ho:off=m.off) (hz:sz+1=p2.size γ) (hg:ag=p2.agg γ) (e:∀ x,m.get x=f x) (b:p2.agg β=true):FdI P T i β s γ q m f:=by
 subst ho;subst hg
 exact⟨⟨sz,hf,hz⟩,e,b⟩
@[reducible] def lookW:x5→Nat→Option AV
 | [],_=>none
 | (s,a)::r,t=>match Nat.beq s t with|true=>some a|false=>lookW r t
theorem a5G:∀ (σ:x5) (t:Nat),lookW σ t=F0 σ t
 | [],_=>rfl
 | (s,a)::r,t=>by
  unfold lookW F0
  cases Nat.beq s t with
  | true=>rfl
  | false=>exact a5G r t
@[reducible] def b2T:List Oper→Nat→Option Nat
 | [],_=>none
 | o::_,0=>o.dst
 | _::l,n+1=>b2T l n
theorem a9R:∀ (l:List Oper) (n:Nat),b2T l n=(l.toArray[n]?).bind (·.dst)
 | [],_=>by simp [b2T]
 | _::_,0=>by simp [b2T]
 | _::l,n+1=>by
  have:=a9R l n
  simp only [b2T]
  simpa using this
@[reducible] def b7n (N:Nat):List Oper→Bool
 | []=>true
 | o::l=>match o.dst with|none=>b7n N l|some d=>match Nat.ble (d+1) N with|true=>b7n N l|false=>false
theorem b4p {N:Nat}:∀ {l:List Oper},b7n N l=true→M4 N l=true
 | [],_=>by rfl
 | o::l,h=>by
  have ih:=b4p (N:=N) (l:=l)
  unfold b7n at h
  cases ho:o.dst with
  | none=>simp_all [M4]
  | some d =>
   rw [ho] at h
   simp only at h
   split at h
   ·rename_i hb
    have:=Nat.le_of_ble_eq_true hb
    simp_all [M4]
    try omega
   ·cases h
@[reducible] def c13:List UInt8→Nat→Bool
 | [],_=>true
 | _::l,n+1=>c13 l n
 | _::_,0=>false
theorem b4q:∀ {l:List UInt8} {n:Nat},c13 l n=true→l.length≤n
 | [],_,_=>by simp
 | _::l,n+1,h=>by
  have:=b4q (l:=l) (n:=n) h
  simp;omega
 | _::_,0,h=>by cases h
class EqS {α:Type u} (x:Option α) (a:outParam α):Prop where h:x=some a
instance {α:Type u} {a:α}:EqS (no_index (some a)) a:=⟨rfl⟩
class TrB (b:Bool):Prop where h:b=true
instance:TrB (no_index true):=⟨rfl⟩
class FaB (b:Bool):Prop where h:b=false
class AsC (c:Bool) (a:AV) (b:outParam AV):Prop where h:∀ I u,c=true→F8 I a u→F8 I b u
instance (priority:=low) {c:Bool} {a:AV}:AsC c a a:=⟨fun _ _ _ h=>h⟩
instance {c:Bool} {a:AV}:AsC c (.opt c a) a:=⟨fun _ _ e h=>h e⟩
class VaQ (a:AV) (α:outParam Type) (r:outParam (p2 α)) (x:outParam α):Prop where h:∀ I u,F8 I a u→F8 I (.v x) u
instance {α:Type} {r:p2 α} {x:α}:VaQ (.v x) α r x:=⟨fun _ _ h=>h⟩
class EvQ (c:Bool) (σ:x5) (x:Operand) (a:outParam AV):Prop where h:∀ C H,c=true→D5 C σ H x a
class EvV (c:Bool) (σ:x5) (x:Operand) (α:outParam Type) (r:outParam (p2 α)) (v:outParam α):Prop where h:∀ C H,c=true→D5 C σ H x (.v v)
section
variable {P:Program} {σ:x5} {x y z:Operand} {c bo:Bool} {n:Nat}
instance {t:Nat} {a b:AV} [h:EqS (lookW σ t) a] [k:AsC c a b]:EvQ c σ (.tmp t) b:=⟨fun C H e ρ I L hs=>by
 obtain⟨u,h1,h2⟩:=hs.env t a ((a5G σ t).symm.trans h.h)
 exact⟨u,h1,k.h I u e h2⟩⟩
instance:EvQ c σ (.const (.bool bo)) (.v bo):=⟨fun _ _ _ => .b⟩
instance [h:TrB (Nat.ble n 9223372036854775807)]:EvQ c σ (.const (.int .i64 (no_index (@OfNat.ofNat Int n _)))) (.v (@OfNat.ofNat Int n _)):=⟨fun _ _ _ => .i (by
 have:=Nat.le_of_ble_eq_true h.h
 simp only [Bool.and_eq_true,decide_eq_true_eq]
 show -9223372036854775808≤(n:Int)∧(n:Int)≤9223372036854775807
 omega)⟩
instance {l:List UInt8} [h:TrB (c13 l 10000)]:EvQ c σ (.const (.string (ByteArray.mk (List.toArray l)))) (.v (T5.mk l)):=⟨fun _ _ _ => .s l (by simp) (Nat.le_trans (b4q h.h) (by decide))⟩
instance [h:TrB (Nat.ble n 255)]:EvQ c σ (.const (.int .u8 (no_index (@OfNat.ofNat Int n _)))) (.v (@OfNat.ofNat UInt8 n _)):=⟨fun _ _ _ => .u8 _ (by
 have:=Nat.le_of_ble_eq_true h.h
 show(n:Int)=_
 have:(OfNat.ofNat n:UInt8).toNat=n % 2^8:=UInt8.toNat_ofNat'
 omega)⟩
instance [h:TrB (Nat.ble n 18446744073709551615)]:EvQ c σ (.const (.int .u64 (no_index (@OfNat.ofNat Int n _)))) (.v (@OfNat.ofNat UInt64 n _)):=⟨fun _ _ _ => .u64 _ (by
 have:=Nat.le_of_ble_eq_true h.h
 show(n:Int)=_
 have:(OfNat.ofNat n:UInt64).toNat=n % 2^64:=UInt64.toNat_ofNat'
 omega)⟩
instance {a:AV} {α:Type} {r:p2 α} {v:α} [h:EvQ c σ x a] [k:VaQ a α r v]:EvV c σ x α r v:=⟨fun C H e ρ I L hs=>by
 obtain⟨u,h1,h2⟩:=h.h C H e ρ I L hs
 exact⟨u,h1,k.h I u h2⟩⟩
end
class HoQ (H:j7) (w:Value) (B:outParam (Bool×D8)) (F:outParam (Bool×D8→j7)):Prop where h:y4 H B F
instance (priority:=low) {A B:Bool×D8} {H:j7} {w:Value} {F:Bool×D8→j7} [k:HoQ H w B F]:HoQ (A::H) w B (fun X=>A::F X):=⟨.s k.h⟩
instance {g:Bool} {α:Type} {r:p2 α} {a:α} {H:j7} {w:Value}:HoQ ((g,.ob w a)::H) w (g,.ob w a) (fun X=>X::H):=⟨.z⟩
instance {g:Bool} {α:Type} {r:p2 α} {E:TypeId} {a:List α} {H:j7} {w:Value}:HoQ ((g,.own E w a)::H) w (g,.own E w a) (fun X=>X::H):=⟨.z⟩
class OpQ (G:Gl) (P:Program) (c:Bool) (o:Oper) (σ:x5) (H:j7) (r:outParam AV):Prop where h:∀ N C,G.p C.I0→c=true→j5 P N C o σ H (fun a=>a=r)
class LdQ (P:Program) (T:TypeId) (a:AV) (H:j7) (r:outParam AV):Prop where h:∀ N C σ x d ty ps af g,D5 C σ H x a→j5 P N C ⟨d,.load T x,ty,ps,af,g⟩ σ H (fun a=>a=r)
class FaQ (P:Program) (T:TypeId) (i:Nat) (a:AV) (r:outParam AV):Prop where h:∀ N C σ H x d ty ps af g,D5 C σ H x a→j5 P N C ⟨d,.fieldAddr T x i,ty,ps,af,g⟩ σ H (fun a=>a=r)
section
variable {G:Gl} {P:Program} {N:Nat} {c:Bool} {σ:x5} {H:j7} {d:Option Nat} {ty:TypeId} {ps:String} {af:Array Edge} {g:Option (Nat×Bool)} {x y z:Operand} {T T2 E:TypeId} {bo:Bool} {a b:AV}
instance {α:Type} {r:p2 α} {i:Inhabited α} {a:α} [t:TyI P T α r i]:LdQ P T (.p a) H (.v a):=⟨fun N C σ x d ty ps af g h => .G8 t.h h rfl⟩
instance {α:Type} {r:p2 α} {i:Inhabited α} {w:Value} {a:α} {bb:Bool} {F:Bool×D8→j7} [t:TyI P T α r i] [k:HoQ H w (bb,.ob w a) F]:LdQ P T (.ln w (j6.id (α:=α))) H (.v a):=⟨fun N C σ x d ty ps af g h => .Q6 t.h h k.h rfl⟩
instance (priority:=low) {α β:Type} {r:p2 α} {s:p2 β} {i:Inhabited β} {w:Value} {l:j6 α β} {a:α} {bb:Bool} {F:Bool×D8→j7} {f:α→β} {f':β→α→α} [t:TyI P T β s i] [n:LnI l f f'] [k:HoQ H w (bb,.ob w a) F]:LdQ P T (.ln w l) H (.v (f a)):=⟨fun N C σ x d ty ps af g h => .S1 f t.h h k.h n.e rfl⟩
instance {β γ:Type} {s:p2 β} {q:p2 γ} {i:Nat} {a:β} {m:j6 β γ} {f:β→γ} [n:FdI P T i β s γ q m f]:FaQ P T i (.p a) (.p (f a)):=⟨fun N C σ H x d ty ps af g h=>by
 obtain⟨sz,k,_⟩:=n.h
 exact .y9 m f k a8 n.e h a8⟩
instance {β γ:Type} {s:p2 β} {q:p2 γ} {i:Nat} {w:Value} {m:j6 β γ} {f:β→γ} [n:FdI P T i β s γ q m f]:FaQ P T i (.ln w (j6.id (α:=β))) (.ln w m):=⟨fun N C σ H x d ty ps af g h=>by
 obtain⟨sz,k,_⟩:=n.h
 exact .A9 m k a8 h a8⟩
instance {α β:Type} {r:p2 α} {s:p2 β} {w:Value} {l:j6 α β} [h:EvQ c σ x (.ln w l)]:OpQ G P c ⟨d,.nilCheck x,ty,ps,af,g⟩ σ H (.ln w l):=⟨fun N C hG e => .E5 (h.h C H e) rfl⟩
instance (priority:=low) {α β γ:Type} {r:p2 α} {s:p2 β} {q:p2 γ} {i:Nat} {w:Value} {l:j6 α β} {m:j6 β γ} {f:β→γ} [n:FdI P T i β s γ q m f]:FaQ P T i (.ln w l) (.ln w (l.comp m)):=⟨fun N C σ H x d ty ps af g h=>by
 obtain⟨sz,k,_⟩:=n.h
 exact .c3c m k a8 h a8⟩
instance {β γ δ:Type} {r:p2 β} {s:p2 γ} {q:p2 δ} {l:j6 β γ} {m:j6 γ δ} {f:β→γ} {f':γ→β→β} {k:γ→δ} {k':δ→γ→γ} [a:LnI l f f'] [b:LnI m k k']:LnI (l.comp m) (fun x=>k (f x)) (fun y x=>f' (k' y (f x)) x):=⟨fun x=>by
 show m.get (l.get x)=_
 rw [a.e,b.e],fun y x=>by
 show l.set (m.set y (l.get x)) x=_
 rw [a.e,b.u,a.u]⟩
instance [h:EvQ c σ x a]:OpQ G P c ⟨d,.move x,ty,ps,af,g⟩ σ H a:=⟨fun N C hG e => .move (h.h C H e) rfl⟩
instance [h:EvQ c σ x a]:OpQ G P c ⟨d,.assign x,ty,ps,af,g⟩ σ H a:=⟨fun N C hG e => .assign (h.h C H e) rfl⟩
instance {α:Type} {r:p2 α} {n:Nat} {i:Inhabited α} {E:TypeId} [t:SlI P ty E α n r i]:OpQ G P c ⟨d,.assign (.const (.slice none 0 0)),ty,ps,af,g⟩ σ H (.v ([]:List α)):=⟨fun N C hG e => .assign .b5k rfl⟩
instance [h:EvQ c σ x a] [k:LdQ P T a H b]:OpQ G P c ⟨d,.load T x,ty,ps,af,g⟩ σ H b:=⟨fun N C hG e=>k.h N C σ x d ty ps af g (h.h C H e)⟩
instance {i:Nat} [h:EvQ c σ x a] [k:FaQ P T i a b]:OpQ G P c ⟨d,.fieldAddr T x i,ty,ps,af,g⟩ σ H b:=⟨fun N C hG e=>k.h N C σ H x d ty ps af g (h.h C H e)⟩
instance {α:Type} {r:p2 α} {l:List α} [h:EvV c σ x (List α) inferInstance l] [u:UnI P T (.slice E)]:OpQ G P c ⟨d,.call ⟨.builtin .len,#[x],#[T]⟩,ty,ps,af,g⟩ σ H (.v (l.length:Int)):=⟨fun N C hG e => .len u.h (h.h C H e) rfl⟩
instance {s:T5} [h:EvV c σ x T5 inferInstance s] [u:UnI P T .string]:OpQ G P c ⟨d,.call ⟨.builtin .len,#[x],#[T]⟩,ty,ps,af,g⟩ σ H (.v (s.l.length:Int)):=⟨fun N C hG e => .c1s u.h (h.h C H e) rfl⟩
section
variable {m n:Int} [hx:EvV c σ x Int inferInstance m] [hy:EvV c σ y Int inferInstance n]
instance:OpQ G P c ⟨d,.binOp .lss T x y T2,ty,ps,af,g⟩ σ H (.v (decide (m < n))):=⟨fun N C hG e => .lss (hx.h C H e) (hy.h C H e) rfl⟩
instance:OpQ G P c ⟨d,.binOp .leq T x y T2,ty,ps,af,g⟩ σ H (.v (decide (m≤n))):=⟨fun N C hG e => .leq (hx.h C H e) (hy.h C H e) rfl⟩
instance:OpQ G P c ⟨d,.binOp .gtr T x y T2,ty,ps,af,g⟩ σ H (.v (decide (n < m))):=⟨fun N C hG e => .gtr (hx.h C H e) (hy.h C H e) rfl⟩
instance:OpQ G P c ⟨d,.binOp .geq T x y T2,ty,ps,af,g⟩ σ H (.v (decide (n≤m))):=⟨fun N C hG e => .geq (hx.h C H e) (hy.h C H e) rfl⟩
instance:OpQ G P c ⟨d,.binOp .eql T x y T2,ty,ps,af,g⟩ σ H (.v (decide (m=n))):=⟨fun N C hG e => .a9p (hx.h C H e) (hy.h C H e) rfl⟩
instance:OpQ G P c ⟨d,.binOp .neq T x y T2,ty,ps,af,g⟩ σ H (.v (decide (m≠n))):=⟨fun N C hG e => .b0y (hx.h C H e) (hy.h C H e) rfl⟩
end
section
variable {m n:UInt64} [hx:EvV c σ x UInt64 inferInstance m] [hy:EvV c σ y UInt64 inferInstance n]
instance:OpQ G P c ⟨d,.binOp .eql T x y T2,ty,ps,af,g⟩ σ H (.v (decide (m=n))):=⟨fun N C hG e => .b4h (hx.h C H e) (hy.h C H e) rfl⟩
instance:OpQ G P c ⟨d,.binOp .or T x y T2,ty,ps,af,g⟩ σ H (.v (m ||| n)):=⟨fun N C hG e => .b6r (hx.h C H e) (hy.h C H e) rfl⟩
instance:OpQ G P c ⟨d,.binOp .and T x y T2,ty,ps,af,g⟩ σ H (.v (m &&& n)):=⟨fun N C hG e => .b6p (hx.h C H e) (hy.h C H e) rfl⟩
instance:OpQ G P c ⟨d,.binOp .add T x y T2,ty,ps,af,g⟩ σ H (.v (m+n)):=⟨fun N C hG e => .b6u (hx.h C H e) (hy.h C H e) rfl⟩
instance:OpQ G P c ⟨d,.binOp .sub T x y T2,ty,ps,af,g⟩ σ H (.v (m - n)):=⟨fun N C hG e => .b3U (hx.h C H e) (hy.h C H e) rfl⟩
instance:OpQ G P c ⟨d,.binOp .neq T x y T2,ty,ps,af,g⟩ σ H (.v (decide (m≠n))):=⟨fun N C hG e => .b4i (hx.h C H e) (hy.h C H e) rfl⟩
end
section
variable {m n:UInt8} [hx:EvV c σ x UInt8 inferInstance m] [hy:EvV c σ y UInt8 inferInstance n]
instance:OpQ G P c ⟨d,.binOp .lss T x y T2,ty,ps,af,g⟩ σ H (.v (decide (m < n))):=⟨fun N C hG e => .c4k (hx.h C H e) (hy.h C H e) rfl⟩
instance:OpQ G P c ⟨d,.binOp .gtr T x y T2,ty,ps,af,g⟩ σ H (.v (decide (n < m))):=⟨fun N C hG e => .c4l (hx.h C H e) (hy.h C H e) rfl⟩
instance:OpQ G P c ⟨d,.binOp .eql T x y T2,ty,ps,af,g⟩ σ H (.v (decide (m=n))):=⟨fun N C hG e => .c4m (hx.h C H e) (hy.h C H e) rfl⟩
instance:OpQ G P c ⟨d,.binOp .xor T x y T2,ty,ps,af,g⟩ σ H (.v (m ^^^ n)):=⟨fun N C hG e => .b8W (hx.h C H e) (hy.h C H e) rfl⟩
end
section
variable {m n:T5} [hx:EvV c σ x T5 inferInstance m] [hy:EvV c σ y T5 inferInstance n]
instance:OpQ G P c ⟨d,.binOp .eql T x y T2,ty,ps,af,g⟩ σ H (.v (decide (m=n))):=⟨fun N C hG e => .c4s (hx.h C H e) (hy.h C H e) rfl⟩
instance:OpQ G P c ⟨d,.binOp .neq T x y T2,ty,ps,af,g⟩ σ H (.v (decide (m≠n))):=⟨fun N C hG e => .c3f (hx.h C H e) (hy.h C H e) rfl⟩
end
instance [h:EvV c σ x Bool inferInstance bo]:OpQ G P c ⟨d,.unOp .not T x,ty,ps,af,g⟩ σ H (.v (!bo)):=⟨fun N C hG e => .not (h.h C H e) rfl⟩
instance {v:Bool} [h:EvV c σ x Bool inferInstance bo] [k:EvV (bo == true) σ y Bool inferInstance v]:OpQ G P c ⟨d,.pick x y (.const (.bool false)),ty,ps,af,g⟩ σ H (.v (bo&&v)):=⟨fun N C hG e => .M5 (h.h C H e) (fun e=>k.h C H (beq_iff_eq.2 e)) rfl⟩
instance {v:Bool} [h:EvV c σ x Bool inferInstance bo] [k:EvV (bo == false) σ y Bool inferInstance v]:OpQ G P c ⟨d,.pick x (.const (.bool true)) y,ty,ps,af,g⟩ σ H (.v (bo||v)):=⟨fun N C hG e => .a1r (h.h C H e) (fun e=>k.h C H (beq_iff_eq.2 e)) rfl⟩
instance {b:AV} [h:EvQ c σ x (.t2 a b)]:OpQ G P c ⟨d,.extract x 0,ty,ps,af,g⟩ σ H a:=⟨fun N C hG e => .a7E (h.h C H e) rfl⟩
instance {b:AV} [h:EvQ c σ x (.t2 a b)]:OpQ G P c ⟨d,.extract x 1,ty,ps,af,g⟩ σ H b:=⟨fun N C hG e => .a7F (h.h C H e) rfl⟩
instance {b b':AV} [h:EvQ c σ x (.t3 a b b')]:OpQ G P c ⟨d,.extract x 0,ty,ps,af,g⟩ σ H a:=⟨fun N C hG e => .L7 (h.h C H e) rfl⟩
instance {b b':AV} [h:EvQ c σ x (.t3 a b b')]:OpQ G P c ⟨d,.extract x 1,ty,ps,af,g⟩ σ H b:=⟨fun N C hG e => .L8 (h.h C H e) rfl⟩
instance {b b':AV} [h:EvQ c σ x (.t3 a b b')]:OpQ G P c ⟨d,.extract x 2,ty,ps,af,g⟩ σ H b':=⟨fun N C hG e => .L9 (h.h C H e) rfl⟩
instance {m:Int} {S D:TypeId} {ds:TypeDesc} [h:EvV c σ x Int inferInstance m] [a:UnI P S ds] [b:UnI P D (.int .u64)]:OpQ G P c ⟨d,.convert S D x,ty,ps,af,g⟩ σ H (.v (UInt64.ofInt m)):=⟨fun N C hG e => .a1N a.h b.h (h.h C H e) rfl⟩
instance {m:Int} {S D:TypeId} {ds:TypeDesc} [h:EvV c σ x Int inferInstance m] [a:UnI P S ds] [b:UnI P D (.int .u8)]:OpQ G P c ⟨d,.convert S D x,ty,ps,af,g⟩ σ H (.v (UInt8.ofInt m)):=⟨fun N C hG e => .b6v a.h b.h (h.h C H e) rfl⟩
end
theorem j5.to {P:Program} {C:Ctx} {N:Nat} {o:Oper} {σ:x5} {H:j7} {r:AV} {K:AV→Prop} (h:j5 P N C o σ H (fun a=>a=r)) (k:K r):j5 P N C o σ H K:=fun ρ I L hs =>
 OpX.a1Q (h ρ I L hs) fun v J X hle ⟨h1,a,h2,h3⟩=>⟨h1,a,h2,h3▸k⟩
class StQ (G:Gl) (P:Program) (ops:List Oper) (o:Oper) (σ:x5) (H:j7) (σ':outParam x5) (H':outParam j7):Prop where
 h:∀ N C Q rest,G.p C.I0→D1 P C N ops.toArray Q rest σ' H'→D1 P C N ops.toArray Q (o::rest) σ H
class SoQ (P:Program) (T:TypeId) (a b:AV) (H:j7) (H':outParam j7):Prop where
 h:∀ N C σ x y ty ps af g KH,D5 C σ H x a→D5 C σ H y b→KH .any H'→B3 P C N ⟨none,.store T x y,ty,ps,af,g⟩ σ H KH
section
variable {G:Gl} {P:Program} {ops:List Oper} {Q:Exit→x5→j7→Prop} {rest:List Oper} {σ:x5} {H H':j7} {ps:String} {af:Array Edge} {x y:Operand} {T ty:TypeId}
instance {d:Nat} {op:Op} {r:AV} [h:OpQ G P true ⟨some d,op,ty,ps,af,none⟩ σ H r]:StQ G P ops ⟨some d,op,ty,ps,af,none⟩ σ H ((d,r)::σ) H:=⟨fun N C Q rest hG k => .p ((h.h N C hG rfl).to k)⟩
instance {α:Type} {r:p2 α} {i:Inhabited α} {w:Value} {a v:α} {bb:Bool} {F:Bool×D8→j7} [t:TyI P T α r i] [k:HoQ H w (bb,.ob w a) F]:SoQ P T (.ln w (j6.id (α:=α))) (.v v) H (F (bb,.ob w v)):=⟨fun N C σ x y ty ps af g KH hx hy q => .P7 t.h hx hy k.h q⟩
instance (priority:=low) {α β:Type} {r:p2 α} {s:p2 β} {i:Inhabited β} {w:Value} {l:j6 α β} {a:α} {v:β} {bb:Bool} {F:Bool×D8→j7} {f:α→β} {f':β→α→α} [t:TyI P T β s i] [n:LnI l f f'] [k:HoQ H w (bb,.ob w a) F]:SoQ P T (.ln w l) (.v v) H (F (bb,.ob w (f' v a))):=⟨fun N C σ x y ty ps af g KH hx hy q => .Z0 f' t.h hx hy k.h n.u q⟩
instance {a:AV} {α:Type} {r:p2 α} {v:α} [h:EvQ true σ x a] [k:EvV true σ y α r v] [s:SoQ P T a (.v v) H H']:StQ G P ops ⟨none,.store T x y,ty,ps,af,none⟩ σ H σ H':=⟨fun N C Q rest hG q => .n (s.h N C σ x y ty ps af none _ (h.h C H rfl) (k.h C H rfl) q)⟩
instance {d : Nat} {op : Op} {j : Nat} {want b : Bool} {dj : Nat} {r : AV} [hj : EqS (b2T ops j) dj] [hb : EvV true σ (.tmp dj) Bool inferInstance b] [h : OpQ G P (b == want) ⟨some d, op, ty, ps, af, none⟩ σ H r] :
    StQ G P ops ⟨some d,op,ty,ps,af,some (j,want)⟩ σ H ((d,.opt (b == want) r)::σ) H:=⟨fun N C Q rest hG k => .go dj ((a9R ops j).symm.trans hj.h) (hb.h C H rfl) (fun e=>h.h N C hG (beq_iff_eq.2 e)) k⟩
end
class AsQ (c:Bool) (σ:x5) (xs:List Operand) (ags:outParam (List AV)):Prop where h:∀ C H,c=true→a2v C σ H xs ags
class PlQ (a:AV) (b:outParam AV):Prop where h:∀ I u,F8 I a u→F8 I b u
instance (priority:=low) {a:AV}:PlQ a a:=⟨fun _ _ h=>h⟩
class ElQ (c:Bool) (σ:x5) (i:Nat) (ps:List (Nat×Operand)) (α:outParam Type) (r:outParam (p2 α)) (l:outParam (List α)):Prop where h:∀ C H,c=true→a6J C σ H i ps l
class SrQ (P:Program) (U:TypeId) (σ:x5) (H:j7) (y:Operand) (α:Type) (r:p2 α) (m:outParam (List α)):Prop where
 h:∀ C,a8n P C σ H y m
 u:(∃ E2,P.underlying U=some (.slice E2))∨P.underlying U=some .string
section
variable {G:Gl} {P:Program} {C:Ctx} {N:Nat} {c:Bool} {ops:List Oper} {Q:Exit→x5→j7→Prop} {rest:List Oper} {σ:x5} {H:j7} {d:Nat} {ps:String} {af:Array Edge} {x y:Operand} {T T2 E U ty:TypeId} {m n:Int}
instance:AsQ c σ [] []:=⟨fun _ _ _ => .nil⟩
instance {a b:AV} {xs:List Operand} {ags:List AV} [h:EvQ c σ x a] [p:PlQ a b] [k:AsQ c σ xs ags]:AsQ c σ (x::xs) (b::ags):=⟨fun C H e => .cons (fun ρ I L hs=>by
 obtain⟨u,h1,h2⟩:=h.h C H e ρ I L hs
 exact⟨u,h1,p.h I u h2⟩) (k.h C H e)⟩
instance {α:Type} {r:p2 α} {i:Nat} {v:α} [h:EvV c σ x α r v]:ElQ c σ i [(i,x)] α r [v]:=⟨fun C H e => .cons (h.h C H e) .nil⟩
instance {α:Type} {r:p2 α} {i:Nat} {v:α} {q:Nat×Operand} {l:List (Nat×Operand)} {vs:List α} [h:EvV c σ x α r v] [k:ElQ c σ (i+1) (q::l) α r vs]:ElQ c σ i ((i,x)::q::l) α r (v::vs):=⟨fun C H e => .cons (h.h C H e) (k.h C H e)⟩
instance {α:Type} {r:p2 α} {t:Nat} {w:Value} {m:List α} {bb:Bool} {E':TypeId} {F:Bool×D8→j7} [a:EqS (lookW σ t) (.raw w)] [k:HoQ H w (bb,.own E' w m) F] [u:UnI P U (.slice E)]:SrQ P U σ H (.tmp t) α r m:=⟨fun C => .own ((a5G σ t).symm.trans a.h) k.h,.inl ⟨_,u.h⟩⟩
instance {α:Type} {r:p2 α} {m:List α} [a:EvV true σ y (List α) inferInstance m] [u:UnI P U (.slice E)]:SrQ P U σ H y α r m:=⟨fun C => .v (a.h C H rfl),.inl ⟨_,u.h⟩⟩
theorem D1.ad [hx : EvV true σ x Int inferInstance m] [hy : EvV true σ y Int inferInstance n] (h1 : -9223372036854775808 ≤ m + n) (h2 : m + n ≤ 9223372036854775807) (k : D1 P C N ops.toArray Q rest ((d, .v (m + n)) :: σ) H) :
    D1 P C N ops.toArray Q (⟨some d,.binOp .add T x y T2,ty,ps,af,none⟩::rest) σ H := .p (.add (hx.h C H rfl) (hy.h C H rfl) h1 h2 k)
theorem D1.sb [hx : EvV true σ x Int inferInstance m] [hy : EvV true σ y Int inferInstance n] (h1 : -9223372036854775808 ≤ m - n) (h2 : m - n ≤ 9223372036854775807) (k : D1 P C N ops.toArray Q rest ((d, .v (m - n)) :: σ) H) :
    D1 P C N ops.toArray Q (⟨some d,.binOp .sub T x y T2,ty,ps,af,none⟩::rest) σ H := .p (.sub (hx.h C H rfl) (hy.h C H rfl) h1 h2 k)
theorem D1.ix {α : Type} {r : p2 α} {i : Inhabited α} {l : List α} [u : UnI P T (.slice E)] [t : TyI P E α r i] [hx : EvV true σ x (List α) inferInstance l] [hy : EvV true σ y Int inferInstance n] (h0 : 0 ≤ n) (h1 : n < l.length)
    (k:D1 P C N ops.toArray Q rest ((d,.p (l[n.toNat]'(by omega)))::σ) H):D1 P C N ops.toArray Q (⟨some d,.indexAddr T x y,ty,ps,af,none⟩::rest) σ H := .p (.idx t.h u.h (hx.h C H rfl) (hy.h C H rfl) h0 h1 k)
theorem D1.k {f : FuncId} {args : Array Operand} {tys : Array TypeId} {ags : List AV} {r : AV} (hG : G.p C.I0) [hv : AsQ true σ args.toList ags] (h : p6 G P f ags (fun x => x = r)) (k : D1 P C N ops.toArray Q rest ((d, r) :: σ) H) :
    D1 P C N ops.toArray Q (⟨some d,.call ⟨.value (.func f),args,tys⟩,ty,ps,af,none⟩::rest) σ H := .p (.p8 hG h (hv.h C H rfl) k)
theorem D1.kg {f : FuncId} {args : Array Operand} {tys : Array TypeId} {ags : List AV} {r : AV} {j dj : Nat} {b want : Bool} (hG : G.p C.I0) [hj : EqS (b2T ops j) dj] [hb : EvV true σ (.tmp dj) Bool inferInstance b] [hv : AsQ (b == want) σ args.toList ags] (h : p6 G P f ags (fun x => x = r)) (k : D1 P C N ops.toArray Q rest ((d, .opt (b == want) r) :: σ) H) :
    D1 P C N ops.toArray Q (⟨some d,.call ⟨.value (.func f),args,tys⟩,ty,ps,af,some (j,want)⟩::rest) σ H := .go dj ((a9R ops j).symm.trans hj.h) (hb.h C H rfl) (fun e => .p8 hG h (hv.h C H (beq_iff_eq.2 e)) rfl) k
theorem D1.km {f : FuncId} {args : Array Operand} {tys : Array TypeId} {ags : List AV} {post : AV → List D8 → Prop} {b : Bool} {B : D8} {F : Bool × D8 → j7} (hG : G.p C.I0) [hv : AsQ true σ args.toList ags] (h : G0 G P f ags [B] post) (hH : y4 H (b, B) F) (hs : ∀ r Hs, post r Hs → ∃ B', Hs = [B'])
    (k:∀ r B',post r [B']→D1 P C N ops.toArray Q rest ((d,r)::σ) (F (b,B'))):D1 P C N ops.toArray Q (⟨some d,.call ⟨.value (.func f),args,tys⟩,ty,ps,af,none⟩::rest) σ H := .h (.a4I hG h hH (hv.h C H rfl) hs k)
theorem D1.k0 {f : FuncId} {args : Array Operand} {tys : Array TypeId} {ags : List AV} {post : AV → List D8 → Prop} (hG : G.p C.I0) [hv : AsQ true σ args.toList ags] (h : G0 G P f ags [] post)
    (k:∀ r Hs,post r Hs→D1 P C N ops.toArray Q rest ((d,r)::σ) (Hs.map (fun B=>(true,B))++H)):D1 P C N ops.toArray Q (⟨some d,.call ⟨.value (.func f),args,tys⟩,ty,ps,af,none⟩::rest) σ H := .h (.a7D hG h (hv.h C H rfl) k)
theorem D1.ap {α : Type} {r : p2 α} {i : Inhabited α} {by_ t : Nat} {w : Value} {l m : List α} {F : Bool × D8 → j7} [st : SlI P T E α by_ r i] [hx : EqS (lookW σ t) (.raw w)] [hH : HoQ H w (true, .own E w l) F] [hy : SrQ P U σ H y α r m] (hb : (l.length + m.length) * by_ ≤ 140737488355328) (hn : l.length + m.length ≤ 9223372036854775807)
    (k:∀ w',D1 P C N ops.toArray Q rest ((d,.raw w')::σ) (F (true,.own E w' (l++m)))):D1 P C N ops.toArray Q (⟨some d,.call ⟨.builtin .append,#[.tmp t,y],#[T,U]⟩,ty,ps,af,none⟩::rest) σ H :=
  .h (.append st.h hy.u ((a5G σ t).symm.trans hx.h) hH.h (hy.h C) hb hn k rfl)
theorem D1.bs {α : Type} {r : p2 α} {i : Inhabited α} {k : Nat} {l : List α} {parts : Array (Nat × Operand)} [u : UnI P T (.slice E)] [t : TyI P E α r i] [hp : ElQ true σ 0 parts.toList α r l] (hn : l.length = k) (hb : k * p2.size α ≤ 16777216)
    (q:∀ b,D1 P C N ops.toArray Q rest ((d,.raw (slc b 0 k k))::σ) ((true,.own E (slc b 0 k k) l)::H)):D1 P C N ops.toArray Q (⟨some d,.buildSlice T k parts,ty,ps,af,none⟩::rest) σ H := .h (.buildSlice t.h u.h (hp.h C H rfl) hn hb q)
end
inductive It where
 | a (c:Code) (Q:Exit→x5→j7→Prop)
 | b (ops:List Oper) (Q:Exit→x5→j7→Prop) (l:List Oper)
 | q (Q:Exit→x5→j7→Prop) (e:Exit)
@[reducible] def It.G (P:Program) (C:Ctx) (N:Nat):It→x5→j7→Prop
 | .a c Q,σ,H=>I9 P C N c Q σ H
 | .b ops Q l,σ,H=>D1 P C N ops.toArray Q l σ H
 | .q Q e,σ,H=>Q e σ H
class Rn (G:Gl) (P:Program) (C:Ctx) (N:Nat) (n:Nat) (i:It) (σ:x5) (H:j7) (A:outParam Prop):Prop where h:G.p C.I0→A→i.G P C N σ H
section
variable {G:Gl} {P:Program} {C:Ctx} {N n:Nat} {A:Prop} {ops:List Oper} {Q Q0:Exit→x5→j7→Prop} {l:List Oper} {σ:x5} {H:j7} {c x y:Code} {e:Exit} {id i:Nat}
instance (priority:=high):Rn G P C N 0 (.a c Q) σ H (I9 P C N c Q σ H):=⟨fun _ h=>h⟩
instance (priority:=high):Rn G P C N 0 (.b ops Q l) σ H (D1 P C N ops.toArray Q l σ H):=⟨fun _ h=>h⟩
instance (priority:=high):Rn G P C N 0 (.q Q e) σ H (Q e σ H):=⟨fun _ h=>h⟩
instance [k:Rn G P C N n (.a x (a8E (I9 P C N y Q) Q)) σ H A]:Rn G P C N (n+1) (.a (.seq x y) Q) σ H A:=⟨fun g h => .seq (k.h g h)⟩
instance [hd:TrB (b7n N l)] [k:Rn G P C N n (.b l Q l) σ H A]:Rn G P C N (n+1) (.a (.region id l.toArray false) Q) σ H A:=⟨fun g h => .region (b4p hd.h) (k.h g h)⟩
instance [k:Rn G P C N n (.q Q .normal) σ H A]:Rn G P C N (n+1) (.a .skip Q) σ H A:=⟨fun g h => .skip (k.h g h)⟩
instance [k:Rn G P C N n (.q Q .ret) σ H A]:Rn G P C N (n+1) (.a .ret Q) σ H A:=⟨fun g h => .ret (k.h g h)⟩
instance [k:Rn G P C N n (.q Q (.exit id)) σ H A]:Rn G P C N (n+1) (.a (.exit id) Q) σ H A:=⟨fun g h => .exit (k.h g h)⟩
instance [k:Rn G P C N n (.a c (a5a id Q)) σ H A]:Rn G P C N (n+1) (.a (.block id c) Q) σ H A:=⟨fun g h => .block (k.h g h)⟩
instance [k:Rn G P C N n (.q Q .normal) σ H A]:Rn G P C N (n+1) (.b ops Q []) σ H A:=⟨fun g h => .nil (k.h g h)⟩
instance {o:Oper} {σ':x5} {H':j7} [s:StQ G P ops o σ H σ' H'] [k:Rn G P C N n (.b ops Q l) σ' H' A]:Rn G P C N (n+1) (.b ops Q (o::l)) σ H A:=⟨fun g h=>s.h N C Q l g (k.h g h)⟩
instance [k:Rn G P C N (n+1) (.a y Q) σ H A]:Rn G P C N (n+1) (.q (a8E (I9 P C N y Q) Q0) .normal) σ H A:=⟨fun g h=>k.h g h⟩
instance {X:x5→j7→Prop} [k:Rn G P C N (n+1) (.q Q (.exit id)) σ H A]:Rn G P C N (n+1) (.q (a8E X Q) (.exit id)) σ H A:=⟨fun g h=>k.h g h⟩
instance [k:Rn G P C N (n+1) (.q Q .normal) σ H A]:Rn G P C N (n+1) (.q (a5a id Q) .normal) σ H A:=⟨fun g h=>k.h g h⟩
instance [k:Rn G P C N (n+1) (.q Q .normal) σ H A]:Rn G P C N (n+1) (.q (a5a i Q) (.exit i)) σ H A:=⟨fun g h=>by show a5a i Q (.exit i) σ H;simp only [a5a,Nat.beq_refl,cond_true];exact k.h g h⟩
instance {z:Operand} {p:Prop} {_:Decidable p} [hc:EvV true σ z Bool inferInstance (decide p)]:Rn G P C N (n+1) (.a (.cond z x y) Q) σ H ((p→I9 P C N x Q σ H)∧(¬p→I9 P C N y Q σ H)):=⟨fun g h => .R4 (hc.h C H rfl) h.1 h.2⟩
instance {α : Type} {r : p2 α} {j : Inhabited α} {d : Nat} {T ty : TypeId} {ps : String} {af : Array Edge} [t : TyI P T α r j] :
    Rn G P C N (n+1) (.b ops Q (⟨some d,.alloc T,ty,ps,af,none⟩::l)) σ H (∀ b,D1 P C N ops.toArray Q l ((d,.ln (ptr b 0) (j6.id (α:=α)))::σ) ((true,.ob (ptr b 0) (default:α))::H)):=⟨fun g h => .h (.alloc t.h h)⟩
instance {α : Type} {r : p2 α} {a : α} {d : Nat} {T ty : TypeId} {ps : String} {af : Array Edge} {z : Operand} [hx : EvV true σ z α r a] :
    Rn G P C N (n+1) (.b ops Q (⟨some d,.box T z,ty,ps,af,none⟩::l)) σ H (∀ b,D1 P C N ops.toArray Q l ((d,.ln (ptr b 0) (j6.id (α:=α)))::σ) ((true,.ob (ptr b 0) a)::H)):=⟨fun g h => .h (.box (hx.h C H rfl) h)⟩
theorem I9.q (n:Nat) (hG:G.p C.I0) {A:Prop} [h:Rn G P C N n (.a c Q) σ H A] (k:A):I9 P C N c Q σ H:=h.h hG k
theorem D1.q (n:Nat) (hG:G.p C.I0) {A:Prop} [h:Rn G P C N n (.b ops Q l) σ H A] (k:A):D1 P C N ops.toArray Q l σ H:=h.h hG k
end
end Go.Ab
namespace Go.Proofs.YtalibdhdngbbcaaGreatDoor
open Go.Proofs.Tryz
open Go.Ab Go.Mac
theorem _root_.Go.Ab.F1.ok {P:Program} {T:TypeId} {α:Type} [p2 α] [Inhabited α] [G4 α] (h:((P.info? T).map (·.size),(P.underlying T).map Fl.a0E,Fl.W6 P T,Nat.beq (p2.size α) 0)=(some (p2.size α),some (p2.agg α),some (G4.zs α),false)):F1 P T α:=by
 simp only [Prod.mk.injEq] at h
 obtain⟨h1,h2,h3,h4⟩:=h
 exact .of h1 h2 h3 (fun e=>by rw [e] at h4;cases h4)
theorem I6:F1 prog 3 Int := .ok (by kernel_rfl)
theorem ty4:F1 prog 4 Bool := .ok (by kernel_rfl)
theorem ty5:F1 prog 5 UInt8 := .ok (by kernel_rfl)
theorem ty9:F1 prog 9 T5 := .ok (by kernel_rfl)
theorem c3q:F1 prog 22 (List Int) := .ok (by kernel_rfl)
theorem D0:F1 prog 24 (K5 32 UInt8) := .ok (by kernel_rfl)
theorem b7o:F1 prog 25 (List y6) := .ok (by kernel_rfl)
theorem b2U:F1 prog 26 (List o8) := .ok (by kernel_rfl)
theorem A6:F1 prog 28 j8 := .ok (by kernel_rfl)
theorem c15:F1 prog 29 (List u4) := .ok (by kernel_rfl)
theorem b9G:F1 prog 31 C7 := .ok (by kernel_rfl)
theorem c4D:F1 prog 32 (List A0) := .ok (by kernel_rfl)
theorem b7p:F1 prog 34 u6 := .ok (by kernel_rfl)
theorem a9T:F1 prog 35 (List p9) := .ok (by kernel_rfl)
theorem R2:F1 prog 37 x4 := .ok (by kernel_rfl)
theorem c4E:F1 prog 38 (List p5) := .ok (by kernel_rfl)
theorem a8r:F1 prog 40 u7 := .ok (by kernel_rfl)
theorem b7q:F1 prog 42 u1 := .ok (by kernel_rfl)
theorem c16:F1 prog 43 (List x6) := .ok (by kernel_rfl)
theorem a5H:F1 prog 45 u9 := .ok (by kernel_rfl)
theorem a9U:F1 prog 51 x7 := .ok (by kernel_rfl)
theorem a2y:F1 prog 54 UInt64 := .ok (by kernel_rfl)
theorem c17:F1 prog 55 (List u0) := .ok (by kernel_rfl)
theorem R5:F1 prog 57 l8 := .ok (by kernel_rfl)
theorem b5r:F1 prog 58 Int := .ok (by kernel_rfl)
theorem b1c:F1 prog 61 (List j2) := .ok (by kernel_rfl)
theorem a3J:F1 prog 64 (List UInt8) := .ok (by kernel_rfl)
theorem a4D:F1 prog 66 x6 := .ok (by kernel_rfl)
theorem c4F:F1 prog 73 o0 := .ok (by kernel_rfl)
theorem R3:F1 prog 79 j2 := .ok (by kernel_rfl)
theorem b1d:F1 prog 84 p9 := .ok (by kernel_rfl)
theorem a2z:F1 prog 89 u0 := .ok (by kernel_rfl)
theorem b1e:F1 prog 98 u4 := .ok (by kernel_rfl)
theorem c3r:F1 prog 101 (List (K5 32 UInt8)) := .ok (by kernel_rfl)
theorem a8L:F1 prog 103 A5 := .ok (by kernel_rfl)
theorem a4M:F1 prog 111 A0 := .ok (by kernel_rfl)
theorem a2U:F1 prog 116 C3 := .ok (by kernel_rfl)
theorem b1f:F1 prog 120 B0 := .ok (by kernel_rfl)
theorem P9:F1 prog 123 p5 := .ok (by kernel_rfl)
theorem c3s:F1 prog 183 A8 := .ok (by kernel_rfl)
theorem a4N:F1 prog 192 y6 := .ok (by kernel_rfl)
theorem a4O:F1 prog 209 o8 := .ok (by kernel_rfl)
theorem c3t:F1 prog 213 o7 := .ok (by kernel_rfl)
theorem c3u:F1 prog 223 (K5 2 (List UInt8)) := .ok (by kernel_rfl)
theorem b9H:SlT prog 25 192 y6 88:=⟨.of (by kernel_rfl),a4N⟩
theorem b9I:SlT prog 26 209 o8 88:=⟨.of (by kernel_rfl),a4O⟩
theorem c3v:SlT prog 35 84 p9 120:=⟨.of (by kernel_rfl),b1d⟩
theorem c4G:SlT prog 38 123 p5 80:=⟨.of (by kernel_rfl),P9⟩
theorem c4H:SlT prog 43 66 x6 80:=⟨.of (by kernel_rfl),a4D⟩
theorem b9J:SlT prog 55 89 u0 16:=⟨.of (by kernel_rfl),a2z⟩
theorem c18:SlT prog 61 79 j2 56:=⟨.of (by kernel_rfl),R3⟩
theorem O2:SlT prog 64 5 UInt8 1:=⟨.of (by kernel_rfl),ty5⟩
theorem c3w:SlT prog 101 24 (K5 32 UInt8) 32:=⟨.of (by kernel_rfl),D0⟩
theorem c3x:SlT prog 195 64 (List UInt8) 24:=⟨.of (by kernel_rfl),a3J⟩
instance:TyJ prog 3 Int:=⟨I6⟩
instance:UnI prog 3 (.int .i64):=⟨underlying3⟩
instance:TyJ prog 4 Bool:=⟨ty4⟩
instance:TyJ prog 5 UInt8:=⟨ty5⟩
instance:UnI prog 5 (.int .u8):=⟨underlying5⟩
instance:TyJ prog 9 T5:=⟨ty9⟩
instance:UnI prog 9 (.string):=⟨underlying9⟩
instance:UnI prog 22 (.slice 3):=⟨underlying22⟩
instance:TyJ prog 24 (K5 32 UInt8):=⟨D0⟩
instance:TyJ prog 25 (List y6):=⟨b7o⟩
instance:UnI prog 25 (.slice 192):=⟨underlying25⟩
instance:TyJ prog 26 (List o8):=⟨b2U⟩
instance:UnI prog 26 (.slice 209):=⟨underlying26⟩
instance:TyJ prog 28 j8:=⟨A6⟩
theorem _root_.Go.Ab.FdI.ok {P:Program} {T:TypeId} {i:Nat} {β:Type} {s:p2 β} {γ:Type} {q:p2 γ} {m:j6 β γ} {f:β→γ} {off sz:Nat} {ag:Bool} (hf:Fl.p4 P T i=some (off,sz+1,ag)) (h:(off,sz+1,ag,true)=(m.off,p2.size γ,p2.agg γ,p2.agg β)) (e:∀ x,m.get x=f x):FdI P T i β s γ q m f:=by
 simp only [Prod.mk.injEq] at h
 exact .mk' hf h.1 h.2.1 h.2.2.1 e h.2.2.2.symm
instance:W4 prog 28 0 j8.l0 (fun x=>x.J6) := .ok c1y rfl fun _=>rfl
instance:LnI j8.l0 (fun x=>x.J6) (fun y x => { x with J6:=y }):=⟨fun _=>rfl,fun _ _=>rfl⟩
instance:W4 prog 28 1 j8.l1 (fun x=>x.a3I) := .ok c1z rfl fun _=>rfl
instance:LnI j8.l1 (fun x=>x.a3I) (fun y x => { x with a3I:=y }):=⟨fun _=>rfl,fun _ _=>rfl⟩
instance:W4 prog 28 2 j8.l2 (fun x=>x.F4) := .ok b2z rfl fun _=>rfl
instance:LnI j8.l2 (fun x=>x.F4) (fun y x => { x with F4:=y }):=⟨fun _=>rfl,fun _ _=>rfl⟩
instance:W4 prog 28 3 j8.l3 (fun x=>x.G2) := .ok a4Y rfl fun _=>rfl
instance:LnI j8.l3 (fun x=>x.G2) (fun y x => { x with G2:=y }):=⟨fun _=>rfl,fun _ _=>rfl⟩
instance:W4 prog 28 4 j8.l4 (fun x=>x.y7) := .ok a4Z rfl fun _=>rfl
instance:LnI j8.l4 (fun x=>x.y7) (fun y x => { x with y7:=y }):=⟨fun _=>rfl,fun _ _=>rfl⟩
instance:TyJ prog 29 (List u4):=⟨c15⟩
instance:UnI prog 29 (.slice 98):=⟨underlying29⟩
instance:TyJ prog 31 C7:=⟨b9G⟩
instance:W4 prog 31 0 C7.l0 (fun x=>x.Live) := .ok b2A rfl fun _=>rfl
instance:TyJ prog 32 (List A0):=⟨c4D⟩
instance:UnI prog 32 (.slice 111):=⟨underlying32⟩
instance:TyJ prog 34 u6:=⟨b7p⟩
instance:W4 prog 34 0 u6.l0 (fun x=>x.G5) := .ok b6A rfl fun _=>rfl
instance:W4 prog 34 1 u6.l1 (fun x=>x.Key) := .ok b6B rfl fun _=>rfl
instance:W4 prog 34 2 u6.l2 (fun x=>x.a01) := .ok c1A rfl fun _=>rfl
instance:TyJ prog 35 (List p9):=⟨a9T⟩
instance:UnI prog 35 (.slice 84):=⟨underlying35⟩
instance:TyJ prog 37 x4:=⟨R2⟩
instance:W4 prog 37 0 x4.l0 (fun x=>x.D4) := .ok c1B rfl fun _=>rfl
instance:LnI x4.l0 (fun x=>x.D4) (fun y x => { x with D4:=y }):=⟨fun _=>rfl,fun _ _=>rfl⟩
instance:W4 prog 37 1 x4.l1 (fun x=>x.C2) := .ok c1C rfl fun _=>rfl
instance:LnI x4.l1 (fun x=>x.C2) (fun y x => { x with C2:=y }):=⟨fun _=>rfl,fun _ _=>rfl⟩
instance:W4 prog 37 2 x4.l2 (fun x=>x.l9) := .ok a9t rfl fun _=>rfl
instance:LnI x4.l2 (fun x=>x.l9) (fun y x => { x with l9:=y }):=⟨fun _=>rfl,fun _ _=>rfl⟩
instance:W4 prog 37 3 x4.l3 (fun x=>x.Tag) := .ok a6a rfl fun _=>rfl
instance:LnI x4.l3 (fun x=>x.Tag) (fun y x => { x with Tag:=y }):=⟨fun _=>rfl,fun _ _=>rfl⟩
instance:UnI prog 38 (.slice 123):=⟨underlying38⟩
instance:TyJ prog 40 u7:=⟨a8r⟩
instance:W4 prog 40 0 u7.l0 (fun x=>x.Gate) := .ok b2B rfl fun _=>rfl
instance:LnI u7.l0 (fun x=>x.Gate) (fun y x => { x with Gate:=y }):=⟨fun _=>rfl,fun _ _=>rfl⟩
instance:W4 prog 40 1 u7.l1 (fun x=>x.E7) := .ok b6C rfl fun _=>rfl
instance:LnI u7.l1 (fun x=>x.E7) (fun y x => { x with E7:=y }):=⟨fun _=>rfl,fun _ _=>rfl⟩
instance:TyJ prog 42 u1:=⟨b7q⟩
instance:TyJ prog 43 (List x6):=⟨c16⟩
instance:UnI prog 43 (.slice 66):=⟨underlying43⟩
instance:TyJ prog 45 u9:=⟨a5H⟩
instance:W4 prog 45 0 u9.l0 (fun x=>x.Request) := .ok c1D rfl fun _=>rfl
instance:LnI u9.l0 (fun x=>x.Request) (fun y x => { x with Request:=y }):=⟨fun _=>rfl,fun _ _=>rfl⟩
instance:W4 prog 45 1 u9.l1 (fun x=>x.D4) := .ok c1E rfl fun _=>rfl
instance:W4 prog 45 2 u9.l2 (fun x=>x.C2) := .ok b6G rfl fun _=>rfl
instance:W4 prog 45 3 u9.l3 (fun x=>x.l9) := .ok a6b rfl fun _=>rfl
instance:W4 prog 45 4 u9.l4 (fun x=>x.Proof) := .ok a9v rfl fun _=>rfl
instance:W4 prog 45 5 u9.l5 (fun x=>x.j3) := .ok a6c rfl fun _=>rfl
instance:TyJ prog 51 x7:=⟨a9U⟩
instance:W4 prog 51 0 x7.l0 (fun x=>x.a1w) := .ok c1F rfl fun _=>rfl
instance:W4 prog 51 1 x7.l1 (fun x=>x.a1x) := .ok c1G rfl fun _=>rfl
instance:W4 prog 51 2 x7.l2 (fun x=>x.Minute) := .ok c1H rfl fun _=>rfl
instance:W4 prog 51 3 x7.l3 (fun x=>x.A7) := .ok b6H rfl fun _=>rfl
instance:TyJ prog 54 UInt64:=⟨a2y⟩
instance:UnI prog 54 (.int .u64):=⟨underlying54⟩
instance:TyJ prog 55 (List u0):=⟨c17⟩
instance:UnI prog 55 (.slice 89):=⟨underlying55⟩
instance:SlJ prog 55 89 u0 16:=⟨b9J⟩
instance:TyJ prog 57 l8:=⟨R5⟩
instance:W4 prog 57 0 l8.l0 (fun x=>x.a2x) := .ok c1I rfl fun _=>rfl
instance:W4 prog 57 1 l8.l1 (fun x=>x.L4) := .ok b6I rfl fun _=>rfl
instance:LnI l8.l1 (fun x=>x.L4) (fun y x => { x with L4:=y }):=⟨fun _=>rfl,fun _ _=>rfl⟩
instance:W4 prog 57 2 l8.l2 (fun x=>x.K3) := .ok b6J rfl fun _=>rfl
instance:LnI l8.l2 (fun x=>x.K3) (fun y x => { x with K3:=y }):=⟨fun _=>rfl,fun _ _=>rfl⟩
instance:W4 prog 57 3 l8.l3 (fun x=>x.T7) := .ok a7w rfl fun _=>rfl
instance:LnI l8.l3 (fun x=>x.T7) (fun y x => { x with T7:=y }):=⟨fun _=>rfl,fun _ _=>rfl⟩
instance:W4 prog 57 4 l8.l4 (fun x=>x.p3) := .ok a3R rfl fun _=>rfl
instance:W4 prog 57 5 l8.l5 (fun x=>x.To) := .ok a3e rfl fun _=>rfl
instance:W4 prog 57 6 l8.l6 (fun x=>x.E3) := .ok a3S rfl fun _=>rfl
instance:LnI l8.l6 (fun x=>x.E3) (fun y x => { x with E3:=y }):=⟨fun _=>rfl,fun _ _=>rfl⟩
instance:W4 prog 57 7 l8.l7 (fun x=>x.A7) := .ok b2F rfl fun _=>rfl
instance:LnI l8.l7 (fun x=>x.A7) (fun y x => { x with A7:=y }):=⟨fun _=>rfl,fun _ _=>rfl⟩
instance:TyJ prog 58 Int:=⟨b5r⟩
instance:TyJ prog 61 (List j2):=⟨b1c⟩
instance:UnI prog 61 (.slice 79):=⟨underlying61⟩
instance:SlJ prog 61 79 j2 56:=⟨c18⟩
instance:TyJ prog 64 (List UInt8):=⟨a3J⟩
instance:UnI prog 64 (.slice 5):=⟨underlying64⟩
instance:SlJ prog 64 5 UInt8 1:=⟨O2⟩
instance:TyJ prog 66 x6:=⟨a4D⟩
instance:W4 prog 66 0 x6.l0 (fun x=>x.p7) := .ok a9w rfl fun _=>rfl
instance:LnI x6.l0 (fun x=>x.p7) (fun y x => { x with p7:=y }):=⟨fun _=>rfl,fun _ _=>rfl⟩
instance:W4 prog 66 1 x6.l1 (fun x=>x.j9) := .ok a9x rfl fun _=>rfl
instance:LnI x6.l1 (fun x=>x.j9) (fun y x => { x with j9:=y }):=⟨fun _=>rfl,fun _ _=>rfl⟩
instance:W4 prog 66 2 x6.l2 (fun x=>x.Proof) := .ok c1J rfl fun _=>rfl
instance:TyJ prog 79 j2:=⟨R3⟩
instance:W4 prog 79 0 j2.l0 (fun x=>x.Kind) := .ok a7x rfl fun _=>rfl
instance:LnI j2.l0 (fun x=>x.Kind) (fun y x => { x with Kind:=y }):=⟨fun _=>rfl,fun _ _=>rfl⟩
instance:W4 prog 79 1 j2.l1 (fun x=>x.Mask) := .ok Z6 rfl fun _=>rfl
instance:LnI j2.l1 (fun x=>x.Mask) (fun y x => { x with Mask:=y }):=⟨fun _=>rfl,fun _ _=>rfl⟩
instance:W4 prog 79 2 j2.l2 (fun x=>x.p3) := .ok K1 rfl fun _=>rfl
instance:LnI j2.l2 (fun x=>x.p3) (fun y x => { x with p3:=y }):=⟨fun _=>rfl,fun _ _=>rfl⟩
instance:W4 prog 79 3 j2.l3 (fun x=>x.To) := .ok K2 rfl fun _=>rfl
instance:LnI j2.l3 (fun x=>x.To) (fun y x => { x with To:=y }):=⟨fun _=>rfl,fun _ _=>rfl⟩
instance:W4 prog 79 4 j2.l4 (fun x=>x.Name) := .ok a9z rfl fun _=>rfl
instance:LnI j2.l4 (fun x=>x.Name) (fun y x => { x with Name:=y }):=⟨fun _=>rfl,fun _ _=>rfl⟩
instance:W4 prog 79 5 j2.l5 (fun x=>x.Number) := .ok a7y rfl fun _=>rfl
instance:LnI j2.l5 (fun x=>x.Number) (fun y x => { x with Number:=y }):=⟨fun _=>rfl,fun _ _=>rfl⟩
instance:TyJ prog 84 p9:=⟨b1d⟩
instance:W4 prog 84 0 p9.l0 (fun x=>x.X4) := .ok c1K rfl fun _=>rfl
instance:W4 prog 84 1 p9.l1 (fun x=>x.a3X) := .ok c1L rfl fun _=>rfl
instance:W4 prog 84 2 p9.l2 (fun x=>x.G5) := .ok b6M rfl fun _=>rfl
instance:W4 prog 84 3 p9.l3 (fun x=>x.p7) := .ok b6N rfl fun _=>rfl
instance:W4 prog 84 4 p9.l4 (fun x=>x.Box) := .ok b6O rfl fun _=>rfl
instance:TyJ prog 89 u0:=⟨a2z⟩
instance:W4 prog 89 0 u0.l0 (fun x=>x.p3) := .ok a42 rfl fun _=>rfl
instance:W4 prog 89 1 u0.l1 (fun x=>x.To) := .ok a2s rfl fun _=>rfl
instance:TyJ prog 98 u4:=⟨b1e⟩
instance:W4 prog 98 0 u4.l0 (fun x=>x.Number) := .ok b6P rfl fun _=>rfl
instance:LnI u4.l0 (fun x=>x.Number) (fun y x => { x with Number:=y }):=⟨fun _=>rfl,fun _ _=>rfl⟩
instance:W4 prog 98 1 u4.l1 (fun x=>x.Key) := .ok b6Q rfl fun _=>rfl
instance:TyJ prog 101 (List (K5 32 UInt8)):=⟨c3r⟩
instance:UnI prog 101 (.slice 24):=⟨underlying101⟩
instance:SlJ prog 101 24 (K5 32 UInt8) 32:=⟨c3w⟩
instance:TyJ prog 103 A5:=⟨a8L⟩
instance:W4 prog 103 0 A5.l0 (fun x=>x.a8J) := .ok b9b rfl fun _=>rfl
instance:LnI A5.l0 (fun x=>x.a8J) (fun y x => { x with a8J:=y }):=⟨fun _=>rfl,fun _ _=>rfl⟩
instance:W4 prog 103 1 A5.l1 (fun x=>x.b5n) := .ok b9c rfl fun _=>rfl
instance:LnI A5.l1 (fun x=>x.b5n) (fun y x => { x with b5n:=y }):=⟨fun _=>rfl,fun _ _=>rfl⟩
instance:TyJ prog 111 A0:=⟨a4M⟩
instance:W4 prog 111 0 A0.l0 (fun x=>x.Name) := .ok b9d rfl fun _=>rfl
instance:W4 prog 111 1 A0.l1 (fun x=>x.b2P) := .ok a7f rfl fun _=>rfl
instance:TyJ prog 116 C3:=⟨a2U⟩
instance:TyJ prog 120 B0:=⟨b1f⟩
instance:W4 prog 120 0 B0.l0 (fun x=>x.a2P) := .ok b3X rfl fun _=>rfl
instance:LnI B0.l0 (fun x=>x.a2P) (fun y x => { x with a2P:=y }):=⟨fun _=>rfl,fun _ _=>rfl⟩
instance:W4 prog 120 1 B0.l1 (fun x=>x.a6j) := .ok b3Y rfl fun _=>rfl
instance:LnI B0.l1 (fun x=>x.a6j) (fun y x => { x with a6j:=y }):=⟨fun _=>rfl,fun _ _=>rfl⟩
instance:TyJ prog 123 p5:=⟨P9⟩
instance:W4 prog 123 1 p5.l1 (fun x=>x.j9) := .ok a5A rfl fun _=>rfl
instance:LnI p5.l1 (fun x=>x.j9) (fun y x => { x with j9:=y }):=⟨fun _=>rfl,fun _ _=>rfl⟩
instance:UnI prog 128 (.slice 9):=⟨underlying128⟩
instance:TyJ prog 183 A8:=⟨c3s⟩
instance:W4 prog 183 0 A8.l0 (fun x=>x.a1w) := .ok b9g rfl fun _=>rfl
instance:LnI A8.l0 (fun x=>x.a1w) (fun y x => { x with a1w:=y }):=⟨fun _=>rfl,fun _ _=>rfl⟩
instance:W4 prog 183 1 A8.l1 (fun x=>x.a1x) := .ok b9h rfl fun _=>rfl
instance:LnI A8.l1 (fun x=>x.a1x) (fun y x => { x with a1x:=y }):=⟨fun _=>rfl,fun _ _=>rfl⟩
instance:W4 prog 183 2 A8.l2 (fun x=>x.Minute) := .ok b9i rfl fun _=>rfl
instance:LnI A8.l2 (fun x=>x.Minute) (fun y x => { x with Minute:=y }):=⟨fun _=>rfl,fun _ _=>rfl⟩
instance:W4 prog 183 3 A8.l3 (fun x=>x.A7) := .ok b9j rfl fun _=>rfl
instance:LnI A8.l3 (fun x=>x.A7) (fun y x => { x with A7:=y }):=⟨fun _=>rfl,fun _ _=>rfl⟩
instance:TyJ prog 192 y6:=⟨a4N⟩
instance:W4 prog 192 0 y6.l0 (fun x=>x.Key) := .ok b4a rfl fun _=>rfl
instance:LnI y6.l0 (fun x=>x.Key) (fun y x => { x with Key:=y }):=⟨fun _=>rfl,fun _ _=>rfl⟩
instance:W4 prog 192 1 y6.l1 (fun x=>x.Message) := .ok b4b rfl fun _=>rfl
instance:LnI y6.l1 (fun x=>x.Message) (fun y x => { x with Message:=y }):=⟨fun _=>rfl,fun _ _=>rfl⟩
instance:W4 prog 192 2 y6.l2 (fun x=>x.Tag) := .ok b9k rfl fun _=>rfl
instance:UnI prog 195 (.slice 64):=⟨underlying195⟩
instance:SlJ prog 195 64 (List UInt8) 24:=⟨c3x⟩
instance:UnI prog 206 (.int .u64):=⟨underlying206⟩
instance:TyJ prog 209 o8:=⟨a4O⟩
instance:W4 prog 209 0 o8.l0 (fun x=>x.Key) := .ok b4c rfl fun _=>rfl
instance:LnI o8.l0 (fun x=>x.Key) (fun y x => { x with Key:=y }):=⟨fun _=>rfl,fun _ _=>rfl⟩
instance:W4 prog 209 1 o8.l1 (fun x=>x.E7) := .ok b9l rfl fun _=>rfl
instance:LnI o8.l1 (fun x=>x.E7) (fun y x => { x with E7:=y }):=⟨fun _=>rfl,fun _ _=>rfl⟩
instance:W4 prog 209 2 o8.l2 (fun x=>x.Plain) := .ok b9m rfl fun _=>rfl
instance:LnI o8.l2 (fun x=>x.Plain) (fun y x => { x with Plain:=y }):=⟨fun _=>rfl,fun _ _=>rfl⟩
instance:W4 prog 213 1 o7.l1 (fun x=>x.Used) := .ok a3f rfl fun _=>rfl
instance:LnI o7.l1 (fun x=>x.Used) (fun y x => { x with Used:=y }):=⟨fun _=>rfl,fun _ _=>rfl⟩
instance:W4 prog 213 2 o7.l2 (fun x=>x.E) := .ok a4r rfl fun _=>rfl
instance:LnI o7.l2 (fun x=>x.E) (fun y x => { x with E:=y }):=⟨fun _=>rfl,fun _ _=>rfl⟩
end Go.Proofs.YtalibdhdngbbcaaGreatDoor
namespace Go.Mac
open Go.Fl Go.Ab Go.Sha
abbrev Tag:=K5 32 UInt8
def h8 (a:K5 8 UInt32):H8:=⟨a.l.getD 0 0,a.l.getD 1 0,a.l.getD 2 0,a.l.getD 3 0,a.l.getD 4 0,a.l.getD 5 0,a.l.getD 6 0,a.l.getD 7 0⟩
def a9L (x:H8):K5 8 UInt32:=⟨x.l,rfl⟩
theorem b4r (x:H8):h8 (a9L x)=x:=rfl
def sha (l:List UInt8):Tag:=⟨a6e l,a8k l⟩
theorem a8s (x:H8) (r:List UInt8) (n:Nat):(a43 x r n).length=32:=by rw [a43,a2h,H8.length]
def c4I:a1V:=⟨a9L iv,[],0⟩
def b7r (h:a1V) (b:List UInt8):a1V:=⟨a9L (a3h (h8 h.H) (h.Rest++b)),rest (h.Rest++b),h.Len+b.length⟩
def c4J (h:a1V):Tag:=⟨a43 (h8 h.H) h.Rest h.Len.toNat,a8s _ _ _⟩
def hOf (l:List UInt8):a1V:=⟨a9L (a3h iv l),rest l,l.length⟩
@[simp] theorem b4s:c4I=hOf []:=rfl
@[simp] theorem a7K (l m:List UInt8):b7r (hOf l) m=hOf (l++m):=by
 simp only [b7r,hOf,b4r,a4G,b0P,List.length_append]
 congr 1
@[simp] theorem b1g (l:List UInt8):c4J (hOf l)=sha l:=by
 apply K5.ext
 show a43 (h8 (a9L (a3h iv l))) (rest l) (Int.toNat (l.length:Int))=a6e l
 rw [b4r,Int.toNat_natCast];rfl
@[simp] theorem c3y (l:List UInt8):(hOf l).Rest.length=l.length % 64:=a2i l
@[simp] theorem c37 (l:List UInt8):(hOf l).Len=l.length:=rfl
end Go.Mac
namespace Go.Proofs.YtalibdhdngbbcaaGreatDoor
open Go.Proofs.Tryz
open Go.Fl Go.Ab Go.Sha Go.Mac
def a5I:K5 8 Int:=⟨[0,64,32,7,0,0,0,0],rfl⟩
def glX:Gl:=⟨fun I=>Cells I 0 0 (a5I.l.map i64),fun hle h=>h.mono hle⟩
def gl:Gl:=⟨fun I=>Cells I 1 0 (kk.map Fl.u32)∧glX.p I,fun hle h=>⟨h.1.mono hle,glX.mono hle h.2⟩⟩
theorem a0n (I:Im) (h:gl.p I):F8 I (.p a5I) (ptr 0 0):=⟨0,0,_,rfl,(by repeat' (first|exact rfl|(refine⟨[_],_,rfl,⟨rfl,by decide,by decide⟩,?_⟩))),h.2⟩
theorem b7s {I:Im} {v:Value} {l:List UInt8}:SlA I v l↔Sl I 1 v l.length (C5 l):=by
 constructor
 ·rintro⟨xs,h1,h2⟩
  rw [a00.1 h2] at h1;exact h1
 ·intro h;exact⟨_,h,a00.2 rfl⟩
theorem b2V {I:Im} {l:List UInt8} {u:Value} (hu:F8 I (.v l) u):Sl I 1 u l.length (C5 l):=by
 obtain⟨cs,⟨v,rfl,h⟩,rfl⟩:=hu
 exact b7s.1 h
theorem b1h {I:Im} {l:List UInt8} {u:Value} (h:Sl I 1 u l.length (C5 l)):F8 I (.v l) u:=⟨[u],⟨u,rfl,b7s.2 h⟩,rfl⟩
theorem b5s {I:Im} {t:Tag}:F8 I (.v t) (.agg (C5 t.l).toArray):=⟨C5 t.l,a00.2 rfl,rfl⟩
theorem a7L (b:List UInt8) (h1:b.length≤17592186044416):p6 gl prog 154 [.v b] (fun r=>r = .v (sha b)):=fun I vs hG hvs=>by
 obtain⟨u,r,rfl,hu,rfl⟩:=hvs
 refine(b9t I u b (b2V hu) h1).mono fun v J hle hv=>⟨_,?_,a8⟩
 subst hv
 rw [b5j]
 exact b5s (t:=sha b)
theorem a9V (n:UInt64):p6 gl prog 133 [.v n] (fun r=>r = .v (S0 n 8)):=fun I vs hG hvs=>by
 obtain⟨u,r,rfl,hu,rfl⟩:=hvs
 obtain⟨cs,rfl,rfl⟩:=hu
 exact(a8B I n).mono fun v J hle hv=>⟨_,b1h (by rw [E4];exact hv),a8⟩
open Go.Fl Go.Ab Go.Mac
theorem c2a (a b:UInt8):(a ||| b=0)↔(a=0∧b=0):=by
 rw [←UInt8.toBitVec_inj,←UInt8.toBitVec_inj,←UInt8.toBitVec_inj]
 simp only [UInt8.toBitVec_or,UInt8.toBitVec_ofNat]
 exact BitVec.or_eq_zero_iff
theorem c1c (a b:UInt8):(a ^^^ b=0)↔a=b:=by
 rw [←UInt8.toBitVec_inj,←UInt8.toBitVec_inj]
 simp only [UInt8.toBitVec_xor,UInt8.toBitVec_ofNat]
 exact BitVec.xor_eq_zero_iff
theorem a9W {α:Type} (a b:List α) (k:Nat) (h1:k < a.length) (h2:k < b.length):(a.take (k+1)=b.take (k+1))↔(a.take k=b.take k∧a[k]=b[k]):=by
 rw [List.take_succ_eq_append_getElem h1,List.take_succ_eq_append_getElem h2]
 constructor
 ·intro h
  have h3:=List.append_inj h (by simp;omega)
  exact⟨h3.1,by simpa using h3.2⟩
 ·rintro⟨h3,h4⟩
  rw [h3,h4]
theorem _root_.Go.Ab.I9.sr {P:Program} {C:Ctx} {N:Nat} {σ:x5} {H:j7} {Q:Exit→x5→j7→Prop} {id:Nat} {l:List Oper} {y:Code} (hd:M4 N l=true) (h:D1 P C N l.toArray (a8E (I9 P C N y Q) Q) l σ H):I9 P C N (.seq (.region id l.toArray false) y) Q σ H := .seq (.region hd h)
theorem _root_.Go.Ab.D1.mv {P:Program} {C:Ctx} {N:Nat} {ops:Array Oper} {σ:x5} {H:j7} {Q:Exit→x5→j7→Prop} {d t:Nat} {ty:TypeId} {ps:String} {af:Array Edge} {a:AV} {rest:List Oper} (hx:F0 σ t=some a) (k:D1 P C N ops Q rest ((d,a)::σ) H):D1 P C N ops Q (⟨some d,.move (.tmp t),ty,ps,af,none⟩::rest) σ H := .p (.move (.t hx) k)
theorem _root_.Go.Ab.D1.ag {P:Program} {C:Ctx} {N:Nat} {ops:Array Oper} {σ:x5} {H:j7} {Q:Exit→x5→j7→Prop} {d t:Nat} {ty:TypeId} {ps:String} {af:Array Edge} {a:AV} {rest:List Oper} (hx:F0 σ t=some a) (k:D1 P C N ops Q rest ((d,a)::σ) H):D1 P C N ops Q (⟨some d,.assign (.tmp t),ty,ps,af,none⟩::rest) σ H := .p (.assign (.t hx) k)
theorem _root_.Go.Ab.D5.q {C:Ctx} {σ:x5} {H:j7} {t:Nat} {a:AV} {b w:Bool} (h:F0 σ t=some (.opt (b == w) a)) (hc:b=w):D5 C σ H (.tmp t) a := .o h (beq_iff_eq.2 hc)
theorem _root_.Go.Ab.a7B.c2 {σ' σ:x5} {t u:Nat} {a b:AV} (h:F0 σ t=some a) (g:F0 σ u=some b) (k:a7B σ' σ):a7B ((t,a)::(u,b)::σ') σ := .cons h (.cons g k)
theorem _root_.Go.Ab.y4.z1 {A0 B:Bool×D8} {H:j7}:y4 (A0::B::H) B (fun X=>A0::X::H) := .s .z
theorem _root_.Go.Ab.y4.z2 {A0 A1 B:Bool×D8} {H:j7}:y4 (A0::A1::B::H) B (fun X=>A0::A1::X::H) := .s (.s .z)
theorem _root_.Go.Ab.y4.z3 {A0 A1 A2 B:Bool×D8} {H:j7}:y4 (A0::A1::A2::B::H) B (fun X=>A0::A1::A2::X::H) := .s (.s (.s .z))
theorem _root_.Go.Ab.y4.z4 {A0 A1 A2 A3 B:Bool×D8} {H:j7}:y4 (A0::A1::A2::A3::B::H) B (fun X=>A0::A1::A2::A3::X::H) := .s (.s (.s (.s .z)))
theorem _root_.Go.Ab.y4.z5 {A0 A1 A2 A3 A4 B:Bool×D8} {H:j7}:y4 (A0::A1::A2::A3::A4::B::H) B (fun X=>A0::A1::A2::A3::A4::X::H) := .s (.s (.s (.s (.s .z))))
theorem _root_.Go.Ab.y4.z6 {A0 A1 A2 A3 A4 A5 B:Bool×D8} {H:j7}:y4 (A0::A1::A2::A3::A4::A5::B::H) B (fun X=>A0::A1::A2::A3::A4::A5::X::H) := .s (.s (.s (.s (.s (.s .z)))))
theorem _root_.Go.Ab.y4.z7 {A0 A1 A2 A3 A4 A5 A6 B:Bool×D8} {H:j7}:y4 (A0::A1::A2::A3::A4::A5::A6::B::H) B (fun X=>A0::A1::A2::A3::A4::A5::A6::X::H) := .s (.s (.s (.s (.s (.s (.s .z))))))
theorem _root_.Go.Ab.y4.z8 {A0 A1 A2 A3 A4 A5 A6 A7 B:Bool×D8} {H:j7}:y4 (A0::A1::A2::A3::A4::A5::A6::A7::B::H) B (fun X=>A0::A1::A2::A3::A4::A5::A6::A7::X::H) := .s (.s (.s (.s (.s (.s (.s (.s .z)))))))
theorem _root_.Go.Ab.y4.z9 {A0 A1 A2 A3 A4 A5 A6 A7 A8 B:Bool×D8} {H:j7}:y4 (A0::A1::A2::A3::A4::A5::A6::A7::A8::B::H) B (fun X=>A0::A1::A2::A3::A4::A5::A6::A7::A8::X::H) := .s (.s (.s (.s (.s (.s (.s (.s (.s .z))))))))
theorem _root_.Go.Ab.y4.z10 {A0 A1 A2 A3 A4 A5 A6 A7 A8 A9 B:Bool×D8} {H:j7}:y4 (A0::A1::A2::A3::A4::A5::A6::A7::A8::A9::B::H) B (fun X=>A0::A1::A2::A3::A4::A5::A6::A7::A8::A9::X::H) := .s (.s (.s (.s (.s (.s (.s (.s (.s (.s .z)))))))))
theorem _root_.Go.Ab.y4.z11 {A0 A1 A2 A3 A4 A5 A6 A7 A8 A9 A10 B:Bool×D8} {H:j7}:y4 (A0::A1::A2::A3::A4::A5::A6::A7::A8::A9::A10::B::H) B (fun X=>A0::A1::A2::A3::A4::A5::A6::A7::A8::A9::A10::X::H) := .s (.s (.s (.s (.s (.s (.s (.s (.s (.s (.s .z))))))))))
theorem _root_.Go.Ab.y4.z12 {A0 A1 A2 A3 A4 A5 A6 A7 A8 A9 A10 A11 B:Bool×D8} {H:j7}:y4 (A0::A1::A2::A3::A4::A5::A6::A7::A8::A9::A10::A11::B::H) B (fun X=>A0::A1::A2::A3::A4::A5::A6::A7::A8::A9::A10::A11::X::H) := .s (.s (.s (.s (.s (.s (.s (.s (.s (.s (.s (.s .z)))))))))))
theorem _root_.Go.Ab.a8l.e1 {P:Program} {fn:Func} {C:Ctx} {post:AV→j7→Prop} {σ:x5} {H:j7} {t:Nat} {a:AV} (h:fn.results = #[.tmp t]) (ha:F0 σ t=some a) (k:post a H):a8l P fn C post .ret σ H:=⟨a,.r1 h (.tmp ha),k⟩
theorem _root_.Go.Ab.a8l.e2 {P:Program} {fn:Func} {C:Ctx} {post:AV→j7→Prop} {σ:x5} {H:j7} {t t2:Nat} {a b:AV} (h:fn.results = #[.tmp t,.tmp t2]) (ha:F0 σ t=some a) (hb:F0 σ t2=some b) (k:post (.t2 a b) H):a8l P fn C post .ret σ H:=⟨_,.r2 h (.tmp ha) (.tmp hb),k⟩
theorem _root_.Go.Ab.p6.jn {G : Gl} {P : Program} {f : FuncId} {fn : Func} {c : Code} {vs : List AV} {post : AV → Prop} {σ : x5} (hf : P.funcs[f]? = some fn) (hn : (fn.name == "runtime.NumGoroutine") = false) (N : Nat) (hb : (fn.body, fn.ntmps, Nat.ble vs.length N, b0S vs 0) = (some c, N, true, σ))
    (h:∀ C:Ctx,Ctx.Ok C→G.p C.I0→I9 P C N c (a8l P fn C (fun r _=>post r)) σ []):p6 G P f vs post:=by
  simp only [Prod.mk.injEq] at hb
  exact .intro hf hb.1 hn N hb.2.1 hb.2.2.1 σ hb.2.2.2 h
theorem _root_.Go.Ab.G0.jn {G : Gl} {P : Program} {f : FuncId} {fn : Func} {c : Code} {vs : List AV} {Hs : List D8} {post : AV → List D8 → Prop} {σ : x5} {H0 : j7} (hf : P.funcs[f]? = some fn) (hn : (fn.name == "runtime.NumGoroutine") = false) (N : Nat) (hb : (fn.body, fn.ntmps, Nat.ble vs.length N, b0S vs 0, a8G Hs) = (some c, N, true, σ, H0))
    (h:∀ C:Ctx,Ctx.Ok C→G.p C.I0→I9 P C N c (a8l P fn C (fun r H=>post r (H.map Prod.snd))) σ H0):G0 G P f vs Hs post:=by
  simp only [Prod.mk.injEq] at hb
  exact .intro hf hb.1 hn N hb.2.1 hb.2.2.1 σ hb.2.2.2.1 H0 hb.2.2.2.2 h
theorem a7M (a b:List UInt8):p6 gl prog 113 [.v a,.v b] (fun r=>r = .v (decide (a=b))):=by
 refine p6.jn func113 (by kernel_rfl) 26 rfl fun C hC hG => ?_
 refine .q 6 hG ?_
 refine .X3 0 a8 fun hl0 => ?_
 refine .q 8 hG ⟨fun hc10 => ?_,fun hc10 => ?_⟩
 ·refine .q 5 hG ?_
  refine .e1 a8 a8 ?_
  exact congrArg AV.v (by rw [eq_comm,decide_eq_false_iff_not];rintro rfl;exact hc10 rfl)
 ·refine .q 7 hG ?_
  refine .E1 (α:=Nat) [(0,_),(1,_)] (fun k R=>(5,.v (k:Int))::R) (fun k => []) (fun k=>k≤a.length∧a.take k=b.take k) (fun k=>a.length - k) (0) (.c2 a8 a8 (.nil _)) ?_ (.c2 a8 a8 (.cons a8 (.nil _))) (a8) fun k hF => ?_
  ·simp
  obtain⟨h1,h2⟩:=hF
  refine .q 9 hG ⟨fun hc14 => ?_,fun hc14 => ?_⟩
  ·refine .q 4 hG ?_
   refine .draw (by kernel_rfl) 9 [[],[],[(17,0),(18,1)],[(19,2)],[],[],[(21,4),(22,5)],[(23,6)],[(20,3),(24,7)]] a8 (by kernel_rfl) a8 ?_
   refine⟨_,j5.move (.t a8) a8,?_⟩
   refine⟨_,j5.move (.t a8) a8,?_⟩
   refine⟨_,j5.idx ty5 underlying64 (.t a8) (.t a8) (by first|omega|(simp;done)|(simp;omega)|(simp at *;omega)) (by first|omega|(simp;done)|(simp;omega)|(simp at *;omega)) a8,?_⟩
   refine⟨_,j5.G8 ty5 (.t a8) a8,?_⟩
   refine⟨_,j5.move (.t a8) a8,?_⟩
   refine⟨_,j5.move (.t a8) a8,?_⟩
   refine⟨_,j5.idx ty5 underlying64 (.t a8) (.t a8) (by first|omega|(simp;done)|(simp;omega)|(simp at *;omega)) (by first|omega|(simp;done)|(simp;omega)|(simp at *;omega)) a8,?_⟩
   refine⟨_,j5.G8 ty5 (.t a8) a8,?_⟩
   refine⟨_,j5.c4n (.t a8) (.t a8) a8,?_⟩
   show D1 _ _ _ _ _ [] ((25,_)::(24,_)::(23,_)::(22,_)::(21,_)::(20,_)::(19,_)::(18,_)::(17,_)::_) _
   refine .q 2 hG ⟨fun hc25 => ?_,fun hc25 => ?_⟩
   ·refine .q 5 hG ?_
    refine .e1 a8 a8 ?_
    exact congrArg AV.v (by rw [eq_comm,decide_eq_false_iff_not];rintro rfl;exact hc25 rfl)
   ·refine .q 3 hG ?_
    refine .ad (by first|omega|(simp;done)|(simp;omega)|(simp at *;omega)) (by first|omega|(simp;done)|(simp;omega)|(simp at *;omega)) ?_
    refine .q 2 hG ?_
    refine⟨k+1,.c2 rfl rfl (.cons rfl (.nil _)),rfl,?_,by omega⟩
    exact⟨by omega,(a9W a b k (by omega) (by omega)).2 ⟨h2,by simpa using hc25⟩⟩
  ·refine .q 6 hG ?_
   refine .e1 a8 a8 ?_
   refine congrArg AV.v (by rw [eq_comm,decide_eq_true_eq];rwa [List.take_of_length_le (by omega),List.take_of_length_le (by omega)] at h2)
theorem b7t (x n:Int) (h0:0 < n) (h1:n≤4611686018427387904):p6 gl prog 18 [.v x,.v n] (fun r=>r = .v (x % n)):=by
 have h2:=Int.tmod_lt_of_pos x h0
 have h3 : -n < x.tmod n:=Int.lt_tmod_of_pos x h0
 have h4:(x.tmod n+n) % n=x % n:=by
  rw [Int.add_emod_right,Int.tmod_def,Int.sub_mul_emod_self_left]
 refine p6.jn func18 (by kernel_rfl) 12 rfl fun C hC hG => ?_
 refine .q 8 hG ?_
 refine .p (.tmod (.t a8) (.t a8) (by omega) ?_)
 refine .q 1 hG ?_
 refine .ad (by first|omega|(simp;done)|(simp;omega)|(simp at *;omega)) (by first|omega|(simp;done)|(simp;omega)|(simp at *;omega)) ?_
 refine .q 1 hG ?_
 refine .p (.rem (.t a8) (.t a8) (by first|omega|(simp;done)|(simp;omega)|(simp at *;omega)) (by first|omega|(simp;done)|(simp;omega)|(simp at *;omega)) ?_)
 refine .q 3 hG ?_
 refine .e1 a8 a8 ?_
 rw [h4]
def a3j (c:UInt8):Bool:=decide (97≤c)&&decide (c≤122)
def I7 (s:T5):Bool:=decide (1≤s.l.length)&&decide (s.l.length≤16)&&s.l.all a3j
theorem all_succ {α:Type} (p:α→Bool) (l:List α) (k:Nat) (h:k < l.length):(l.take (k+1)).all p=((l.take k).all p&&p l[k]):=by
 rw [List.take_succ_eq_append_getElem h,List.all_append];simp
theorem a9X {α:Type} (p:α→Bool) (l:List α) (k:Nat) (h:k < l.length) (hf:p l[k]=false):l.all p=false:=by
 rw [List.all_eq_false];exact⟨l[k],List.getElem_mem h,by simp [hf]⟩
theorem b2W (s:T5):p6 gl prog 79 [.v s] (fun r=>r = .v (I7 s)):=by
 refine p6.jn func79 (by kernel_rfl) 28 rfl fun C hC hG => ?_
 refine .q 6 hG ?_
 refine .a8D 0 a8 fun hs => ?_
 refine .q 10 hG ?_
 refine .cond (.t a8) (fun hc11 => ?_) (fun hc11 => ?_)
 ·refine .q 5 hG ?_
  refine .e1 a8 a8 ?_
  refine congrArg AV.v ?_;simp only [Bool.or_eq_true,decide_eq_true_eq] at hc11;unfold I7;rcases hc11 with h|h
  ·rw [decide_eq_false (show ¬1≤s.l.length by omega)];rfl
  ·rw [decide_eq_false (show ¬s.l.length≤16 by omega)];simp
 ·refine .q 7 hG ?_
  refine .E1 (α:=Nat) [(0,_)] (fun k R=>(3,.v (k:Int))::R) (fun k => []) (fun k=>k≤s.l.length∧(s.l.take k).all a3j=true) (fun k=>s.l.length - k) (0) (.cons a8 (.nil _)) ?_ (.c2 a8 a8 (.nil _)) (a8) fun k hF => ?_
  ·simp
  obtain⟨h1,h2⟩:=hF
  refine .q 9 hG ⟨fun hc15 => ?_,fun hc15 => ?_⟩
  ·refine .q 7 hG ?_
   refine .p (.b4j underlying9 (.t a8) (.t a8) (by first|omega|(simp;done)|(simp;omega)|(simp at *;omega)) (by first|omega|(simp;done)|(simp;omega)|(simp at *;omega)) ?_)
   refine .q 4 hG ?_
   refine .go 22 a8 (.t a8) (fun hg25 => .b4j underlying9 (.q a8 hg25) (.q a8 hg25) (by first|omega|(simp;done)|(simp;omega)|(have:=hg25;simp at this;omega)) (by first|omega|(simp;done)|(simp;omega)|(have:=hg25;simp at this;omega)) a8) ?_
   refine .q 3 hG ?_
   refine .cond (.t a8) (fun hc27 => ?_) (fun hc27 => ?_)
   ·refine .q 5 hG ?_
    refine .e1 a8 a8 ?_
    refine congrArg AV.v (Eq.symm ?_);unfold I7;rw [a9X a3j s.l k (by omega),Bool.and_false];unfold a3j;simp only [Bool.or_eq_true,decide_eq_true_eq,Int.toNat_natCast] at hc27;rcases hc27 with h|h
    ·rw [decide_eq_false (UInt8.not_le.2 h)];rfl
    ·rw [decide_eq_false (UInt8.not_le.2 h),Bool.and_false]
   ·refine .q 3 hG ?_
    refine .ad (by first|omega|(simp;done)|(simp;omega)|(simp at *;omega)) (by first|omega|(simp;done)|(simp;omega)|(simp at *;omega)) ?_
    refine .q 2 hG ?_
    refine⟨k+1,.c2 rfl rfl (.nil _),rfl,?_,by omega⟩
    refine⟨by omega,?_⟩;rw [all_succ _ _ _ (by omega),h2];simp only [Bool.or_eq_false_iff,decide_eq_false_iff_not,UInt8.not_lt,Int.toNat_natCast] at hc27;simpa [a3j] using hc27
  ·refine .q 6 hG ?_
   refine .e1 a8 a8 ?_
   refine congrArg AV.v (Eq.symm ?_);simp only [Bool.or_eq_false_iff,decide_eq_false_iff_not] at hc11;unfold I7;rw [List.take_of_length_le (by omega)] at h2;rw [h2];simp;omega
def b7u (key:List UInt8):List UInt8:=key++List.replicate (64 - key.length) 0
def a1Z (key:List UInt8) (x:UInt8):List UInt8:=(b7u key).map (· ^^^ x)
theorem a6N (key:List UInt8) (h:key.length≤64):(b7u key).length=64:=by simp [b7u];omega
@[simp] theorem c2b (key:List UInt8) (x:UInt8):(a1Z key x).length=max 64 key.length:=by simp [a1Z,b7u];omega
theorem a4P (key:List UInt8) (x:UInt8) (h:key.length≤64):(a1Z key x).length=64:=by simp [a1Z,a6N key h]
theorem a5J {α:Type} (P:List α) (z:α) (n k:Nat) (hn:P.length=n) (h:k < n) (v:α) (hv:P[k]'(by omega)=v):(P.take k++List.replicate (n - k) z).set k v=P.take (k+1)++List.replicate (n - (k+1)) z:=by
 rw [List.set_append_right _ _ (by simp;omega)]
 have e:k - (P.take k).length=0:=by simp;omega
 rw [e,show n - k=(n - (k+1))+1 by omega,List.replicate_succ,List.set_cons_zero,List.take_succ_eq_append_getElem (by omega),hv]
 simp
theorem a3k (key:List UInt8) (x:UInt8) (k:Nat) (h:k < (a1Z key x).length):(a1Z key x)[k]=(if h2:k < key.length then key[k] ^^^ x else x):=by
 simp only [a1Z,b7u,List.getElem_map]
 by_cases h2:k < key.length
 ·rw [List.getElem_append_left h2,dif_pos h2]
 ·rw [List.getElem_append_right (by omega),dif_neg h2];simp
theorem a4v (key:List UInt8) (x:UInt8) (hk:key.length≤64):p6 gl prog 155 [.v key,.v x] (fun r=>r = .vc (a1Z key x)):=by
 have hl:=a6N key hk
 have hl2:=a4P key x hk
 refine p6.jn func155 (by kernel_rfl) 30 rfl fun C hC hG => ?_
 refine .q 6 hG ?_
 refine .h (.make O2 (.i a8) (by first|omega|(simp;done)|(simp;omega)|(simp at *;omega)) (by first|omega|(simp;done)|(simp;omega)|(simp at *;omega)) (by first|omega|(simp;done)|(simp;omega)|(simp at *;omega)) fun b7 => ?_)
 refine .q 4 hG ?_
 skip
 refine .q 4 hG ?_
 refine .E1 (α:=Nat) [(0,_),(1,_),(5,_)] (fun k R=>(6,.v (k:Int))::R) (fun k => [(true,.own 5 (slc b7 0 64 64) ((a1Z key x).take k++List.replicate (64 - k) 0))]) (fun k=>k≤64) (fun k=>64 - k) (0) (.c2 a8 a8 (.cons a8 (.nil _))) ?_ (.c2 a8 a8 (.c2 a8 a8 (.nil _))) (a8) fun k hF => ?_
 ·omega
 refine .q 7 hG ⟨fun hc9 => ?_,fun hc9 => ?_⟩
 ·refine .q 8 hG ?_
  refine .p (.a2w ty5 underlying64 a8 .z (.t a8) (by first|omega|(simp;done)|(simp;omega)|(simp at *;omega)) (by first|omega|(simp;done)|(simp;omega)|(simp at *;omega)) (.n (.b9B ty5 (.t a8) (.t a8) .z (by first|omega|(simp;done)|(simp;omega)|(simp at *;omega)) ?_)))
  refine .q 9 hG ⟨fun hc19 => ?_,fun hc19 => ?_⟩
  ·refine .q 5 hG ?_
   refine .ix (by first|omega|(simp;done)|(simp;omega)|(simp at *;omega)) (by first|omega|(simp;done)|(simp;omega)|(simp at *;omega)) ?_
   refine .q 3 hG ?_
   refine .p (.a2w ty5 underlying64 a8 .z (.t a8) (by first|omega|(simp;done)|(simp;omega)|(simp at *;omega)) (by first|omega|(simp;done)|(simp;omega)|(simp at *;omega)) (.n (.b9B ty5 (.t a8) (.t a8) .z (by first|omega|(simp;done)|(simp;omega)|(simp at *;omega)) ?_)))
   refine .q 3 hG ?_
   refine .ad (by first|omega|(simp;done)|(simp;omega)|(simp at *;omega)) (by first|omega|(simp;done)|(simp;omega)|(simp at *;omega)) ?_
   refine .q 2 hG ?_
   refine⟨k+1,.c2 rfl rfl (.c2 rfl rfl (.nil _)),congrArg (fun q => [(true,D8.own _ _ q)]) (by first|exact a5J _ 0 64 k hl2 (by omega) x (by rw [a3k,dif_neg (by omega)])|exact(List.set_set ..).trans (a5J _ 0 64 k hl2 (by omega) _ (by rw [a3k,dif_pos (by omega)];rfl))),?_,by omega⟩
   omega
  ·refine .q 3 hG ?_
   refine .ad (by first|omega|(simp;done)|(simp;omega)|(simp at *;omega)) (by first|omega|(simp;done)|(simp;omega)|(simp at *;omega)) ?_
   refine .q 2 hG ?_
   refine⟨k+1,.c2 rfl rfl (.c2 rfl rfl (.nil _)),congrArg (fun q => [(true,D8.own _ _ q)]) (by first|exact a5J _ 0 64 k hl2 (by omega) x (by rw [a3k,dif_neg (by omega)])|exact(List.set_set ..).trans (a5J _ 0 64 k hl2 (by omega) _ (by rw [a3k,dif_pos (by omega)];rfl))),?_,by omega⟩
   omega
 ·refine .q 6 hG ?_
  refine .c4i hC .z (by rw [List.length_append,List.length_take,List.length_replicate,hl2];omega) (.as 4 a8 .z ?_)
  refine .q 1 hG ?_
  refine .e1 a8 a8 ?_
  refine congrArg AV.vc ?_;have:k=64:=by omega
  subst this;rw [List.take_of_length_le (by rw [a4P key x hk];omega)];simp
def a1g (key m:List UInt8):Tag :=
 let k:=if key.length>64 then (sha key).l else key
 sha (a1Z k 92++(sha (a1Z k 54++m)).l)
theorem a5K (key m:List UInt8) (h1:key.length≤1000000) (h2:m.length≤1000000):p6 gl prog 116 [.v key,.v m] (fun r=>r = .v (a1g key m)):=by
 refine p6.jn func116 (by kernel_rfl) 23 rfl fun C hC hG => ?_
 refine .q 3 hG fun b4 => ?_
 refine .q 9 hG ⟨fun hc9 => ?_,fun hc9 => ?_⟩
 ·refine .q 3 hG ?_
  refine .k hG (a7L _ (by first|omega|(simp;done)|(simp;omega)|(simp at *;omega))) ?_
  refine .q 1 hG fun b5 => ?_
  refine .q 1 hG ?_
  refine .C1 hC .z (.O9 5 a8 .z ?_)
  refine .q 2 hG ?_
  refine .p (.V3 (by decide) V2 (.t a8) ?_)
  refine .q 5 hG ?_
  refine .p (.p8 hG (a4v _ _ (by first|omega|(simp;done)|(simp;omega)|(simp at *;omega))) (.cons (.t a8) (.cons (.u8 54 a8) .nil)) ?_)
  refine .q 1 hG ?_
  refine .p (.Y9 O2 (.inl ⟨_,underlying64⟩) (.t a8) (.v (.t a8)) (by first|omega|(simp;done)|(simp;omega)|(simp at *;omega)) (by first|omega|(simp;done)|(simp;omega)|(simp at *;omega)) ?_)
  refine .k hG (a7L _ (by first|omega|(simp;done)|(simp;omega)|(simp at *;omega))) ?_
  refine .q 1 hG fun b6 => ?_
  refine .q 1 hG ?_
  refine .C1 hC .z (.O9 6 a8 .z ?_)
  refine .q 2 hG ?_
  refine .draw (by kernel_rfl) 5 [[],[(18,0)],[],[(19,1),(20,2)],[(21,3)]] a8 (by kernel_rfl) a8 ?_
  refine⟨_,j5.move (.t a8) a8,?_⟩
  refine⟨_,j5.p8 hG (a4v _ _ (by first|omega|(simp;done)|(simp;omega)|(simp at *;omega))) (.cons (.t a8) (.cons (.u8 92 a8) .nil)) a8,?_⟩
  refine⟨_,j5.V3 (by decide) V2 (.t a8) a8,?_⟩
  refine⟨_,j5.Y9 O2 (.inl ⟨_,underlying64⟩) (.t a8) (.v (.t a8)) (by first|omega|(simp;done)|(simp;omega)|(simp at *;omega)) (by first|omega|(simp;done)|(simp;omega)|(simp at *;omega)) a8,?_⟩
  refine⟨_,j5.p8 hG (a7L _ (by first|omega|(simp;done)|(simp;omega)|(simp at *;omega))) (.cons (.t a8) .nil) a8,?_⟩
  show D1 _ _ _ _ _ [_] ((22,_)::(21,_)::(20,_)::(19,_)::(18,_)::_) _
  refine .q 3 hG ?_
  refine⟨_,.r1 a8 (.cell D0 a8 .z2),?_⟩
  show _=AV.v (a1g key m)
  simp only [a1g,if_pos (show key.length>64 by omega),b4s,a7K,b1g,List.nil_append]
 ·refine .q 4 hG ?_
  refine .p (.p8 hG (a4v _ _ (by first|omega|(simp;done)|(simp;omega)|(simp at *;omega))) (.cons (.t a8) (.cons (.u8 54 a8) .nil)) ?_)
  refine .q 1 hG ?_
  refine .p (.Y9 O2 (.inl ⟨_,underlying64⟩) (.t a8) (.v (.t a8)) (by first|omega|(simp;done)|(simp;omega)|(simp at *;omega)) (by first|omega|(simp;done)|(simp;omega)|(simp at *;omega)) ?_)
  refine .k hG (a7L _ (by first|omega|(simp;done)|(simp;omega)|(simp at *;omega))) ?_
  refine .q 1 hG fun b6 => ?_
  refine .q 1 hG ?_
  refine .C1 hC .z (.O9 6 a8 .z ?_)
  refine .q 2 hG ?_
  refine .draw (by kernel_rfl) 5 [[],[(18,0)],[],[(19,1),(20,2)],[(21,3)]] a8 (by kernel_rfl) a8 ?_
  refine⟨_,j5.move (.t a8) a8,?_⟩
  refine⟨_,j5.p8 hG (a4v _ _ (by first|omega|(simp;done)|(simp;omega)|(simp at *;omega))) (.cons (.t a8) (.cons (.u8 92 a8) .nil)) a8,?_⟩
  refine⟨_,j5.V3 (by decide) V2 (.t a8) a8,?_⟩
  refine⟨_,j5.Y9 O2 (.inl ⟨_,underlying64⟩) (.t a8) (.v (.t a8)) (by first|omega|(simp;done)|(simp;omega)|(simp at *;omega)) (by first|omega|(simp;done)|(simp;omega)|(simp at *;omega)) a8,?_⟩
  refine⟨_,j5.p8 hG (a7L _ (by first|omega|(simp;done)|(simp;omega)|(simp at *;omega))) (.cons (.t a8) .nil) a8,?_⟩
  show D1 _ _ _ _ _ [_] ((22,_)::(21,_)::(20,_)::(19,_)::(18,_)::_) _
  refine .q 3 hG ?_
  refine⟨_,.r1 a8 (.cell D0 a8 .z1),?_⟩
  show _=AV.v (a1g key m)
  simp only [a1g,if_neg (show ¬key.length>64 by omega),b4s,a7K,b1g,List.nil_append]
open Go.Fl Go.Ab Go.Mac Go.Sha
theorem c2R (n:Int) (h0:0≤n) (h1:n < 9223372036854775808) (k:Nat) (hk:k < 64):UInt8.ofInt (n >>> k)=(UInt64.ofInt n >>> UInt64.ofNat k).toUInt8:=by
 obtain⟨m,rfl⟩:=Int.eq_ofNat_of_zero_le h0
 rw [show((m:Int) >>> k)=((m >>> k:Nat):Int) from rfl]
 apply UInt8.toNat_inj.1
 have e1:(UInt64.ofInt (m:Int)).toNat=m % 2^64:=by
  simp [UInt64.ofInt];omega
 have e2:(UInt64.ofNat k).toNat=k:=by simp;omega
 have e3:(UInt8.ofInt ((m >>> k:Nat):Int)).toNat=(m >>> k) % 256:=by
  generalize m >>> k=q
  simp [UInt8.ofInt];omega
 rw [e3,UInt64.toNat_toUInt8,UInt64.toNat_shiftRight,e1,e2]
 rw [Nat.mod_eq_of_lt hk,Nat.mod_eq_of_lt (show m < 2^64 by omega)]
attribute [local simp] E4
def derive (key:Tag) (name:T5) (n:Int):Tag×Int :=
 if I7 name=false then (default,7) else if n < 0∨281474976710656 < n then (default,1) else (a1g key.l (name.l ++ [0]++S0 (UInt64.ofInt n) 8),0)
theorem b5t (key:Tag) (name:T5) (n:Int) (hs:name.l.length≤1000):p6 gl prog 71 [.v key,.v name,.v n] (fun r=>r = .t2 (.v (derive key name n).1) (.v (derive key name n).2)):=by
 refine p6.jn func71 (by kernel_rfl) 29 rfl fun C hC hG => ?_
 refine .q 3 hG fun b3 => ?_
 refine .q 1 hG fun b6 => ?_
 refine .q 6 hG ?_
 refine .k hG (b2W _) ?_
 refine .q 2 hG ?_
 refine .cond (.t a8) (fun hc10 => ?_) (fun hc10 => ?_)
 ·refine .q 2 hG ?_
  refine .p (.U1 (default:(K5 32 UInt8)) D0 V2 .nil a8 ?_)
  refine .q 4 hG ?_
  refine⟨_,.r2 a8 (.cell D0 a8 .z) (.tmp a8),?_⟩
  have e:derive key name n=(default,7):=by unfold derive;rw [if_pos (by simpa using hc10)]
  rw [e]
 ·refine .q 11 hG ?_
  refine .cond (.t a8) (fun hc17 => ?_) (fun hc17 => ?_)
  ·refine .q 2 hG ?_
   refine .p (.U1 (default:(K5 32 UInt8)) D0 V2 .nil a8 ?_)
   refine .q 4 hG ?_
   refine⟨_,.r2 a8 (.cell D0 a8 .z) (.tmp a8),?_⟩
   have e:derive key name n=(default,1):=by unfold derive;rw [if_neg (by simpa using hc10),if_pos (by simpa using hc17)]
   rw [e]
  ·refine .q 2 hG ?_
   refine .C1 hC .z1 (.O9 3 a8 .z1 (.a7H (by kernel_rfl) 10 [[],[],[(20,1)],[],[(21,2),(22,3)],[],[(24,5)],[(25,6)],[(23,4),(26,7)],[(19,0),(27,8)]] [2,4,8,9] a8 (by kernel_rfl) a8 (by kernel_rfl) (by decide) ?_))
   refine⟨_,fun H=>j5.V3 (by decide) V2 (.t a8) a8,?_⟩
   refine⟨_,fun H=>j5.move (.t a8) a8,?_⟩
   refine .inl ?_
   refine⟨_,fun H=>j5.G1 (α:=UInt8) ty5 underlying64 (.cons (.u8 0 a8) .nil) a8 (by decide) a8,?_⟩
   refine .inl ?_
   refine⟨_,fun H=>j5.move (.t a8) a8,?_⟩
   refine⟨_,fun H=>j5.a1N underlying3 underlying54 (.t a8) a8,?_⟩
   refine⟨_,fun H=>j5.p8 hG (a9V _) (.cons (.t a8) .nil) a8,?_⟩
   refine .inl (.inl ?_)
   refine B3.T6 underlying9 underlying64 underlying5 (.t rfl) fun w21 => ?_
   refine B3.append O2 (.inl ⟨_,underlying64⟩) rfl .z (.v (.c rfl)) (by first|omega|(simp;done)|(simp;omega)|(simp at *;omega)) (by first|omega|(simp;done)|(simp;omega)|(simp at *;omega)) (fun w23 => ?_) rfl
   refine B3.append O2 (.inl ⟨_,underlying64⟩) rfl .z (.v (.t rfl)) (by first|omega|(simp;done)|(simp;omega)|(simp at *;omega)) (by first|omega|(simp;done)|(simp;omega)|(simp at *;omega)) (fun w27 => ?_) rfl
   refine B3.y0 hC .z (B3.as 27 rfl .z (B3.ofP (j5.p8 hG (a5K _ _ (by first|omega|(simp;done)|(simp;omega)|(simp at *;omega)) (by first|omega|(simp;done)|(simp;omega)|(simp at *;omega))) (.cons (.t rfl) (.cons (.t rfl) .nil)) ?_)))
   show D1 _ _ _ _ _ [_,_] ((28,_)::(27,_)::(26,_)::(25,_)::(24,_)::(23,_)::(22,_)::(21,_)::(20,_)::(19,_)::_) _
   refine .q 4 hG ?_
   refine⟨_,.r2 a8 (.cell D0 a8 .z1) (.tmp a8),?_⟩
   have e:derive key name n=(a1g key.l (name.l ++ [0]++S0 (UInt64.ofInt n) 8),0):=by unfold derive;rw [if_neg (by simpa using hc10),if_neg (by simpa using hc17)]
   rw [e]
abbrev dk (w:Value):AV := .ln w (j6.id (α:=o0))
theorem a8M (l:List Int):G0 gl prog 5 [.v l] [] (fun r Hs=>∃ b,r=dk (ptr b 0)∧Hs = [.ob (ptr b 0) (⟨l,0⟩:o0)]):=by
 refine G0.jn func5 (by kernel_rfl) 6 rfl fun C hC hG => ?_
 refine .q 2 hG ?_
 refine .p (.assign .raw ?_)
 refine .q 4 hG ?_
 refine .p (.bS1 o0.l0 a8 c4F c4g (fun c0=>(⟨c0,0⟩:o0)) (fun _=>a8) a8 a8 (.t a8) ?_)
 refine .q 1 hG fun b5 => ?_
 refine .q 3 hG ?_
 refine .e1 a8 a8 ?_
 exact⟨b5,a8,a8⟩
def P1 (d:o0) (n:Int):Int×o0 :=
 if h:d.At.toNat < d.L.length then (d.L[d.At.toNat] % n,⟨d.L,d.At+1⟩) else (0,d)
def H9 (d:o0):Prop:=0≤d.At
theorem Q7 {d:o0} {n:Int} (h:H9 d):H9 (P1 d n).2:=by
 unfold P1;split
 ·show 0≤d.At+1
  unfold H9 at h;omega
 ·exact h
theorem S4 {d:o0} {n:Int} (h:0 < n):0≤(P1 d n).1∧(P1 d n).1 < n:=by
 unfold P1;split
 ·exact⟨Int.emod_nonneg _ (by omega),Int.emod_lt_of_pos _ h⟩
 ·exact⟨Int.le_refl 0,h⟩
theorem a3l (w : Value) (d : o0) (n : Int) (hd : H9 d) (h0 : 0 < n) (h1 : n ≤ 4611686018427387904) :
    G0 gl prog 7 [dk w,.v n] [.ob w d] (fun r Hs=>r = .v (P1 d n).1∧Hs = [.ob w (P1 d n).2]):=by
  unfold H9 at hd
  refine G0.jn func7 (by kernel_rfl) 35 rfl fun C hC hG => ?_
  refine .q 6 hG ?_
  refine .draw (by kernel_rfl) 10 [[],[(5,0)],[(6,1)],[(7,2)],[],[(9,4)],[(10,5)],[(11,6)],[(12,7)],[(8,3),(13,8)]] a8 (by kernel_rfl) a8 ?_
  refine⟨_,j5.move (.t a8) a8,?_⟩
  refine⟨_,j5.E5 (.t a8) a8,?_⟩
  refine⟨_,j5.A9 o0.l1 a9y a8 (.t a8) a8,?_⟩
  refine⟨_,j5.S1 (fun x=>x.At) I6 (.t a8) .z (fun _=>a8) a8,?_⟩
  refine⟨_,j5.move (.t a8) a8,?_⟩
  refine⟨_,j5.E5 (.t a8) a8,?_⟩
  refine⟨_,j5.A9 o0.l0 b6L a8 (.t a8) a8,?_⟩
  refine⟨_,j5.S1 (fun x=>x.L) c3q (.t a8) .z (fun _=>a8) a8,?_⟩
  refine⟨_,j5.len underlying22 (.t a8) a8,?_⟩
  refine⟨_,j5.geq (.t a8) (.t a8) a8,?_⟩
  show D1 _ _ _ _ _ [] ((14,_)::(13,_)::(12,_)::(11,_)::(10,_)::(9,_)::(8,_)::(7,_)::(6,_)::(5,_)::_) _
  refine .q 2 hG ⟨fun hc14 => ?_,fun hc14 => ?_⟩
  · refine .q 5 hG ?_
    refine .e1 a8 a8 ?_
    have e:P1 d n=(0,d):=by unfold P1;rw [dif_neg (by omega)]
    rw [e];exact⟨rfl,rfl⟩
  · refine .q 2 hG ?_
    refine .X3 12 a8 fun hl => ?_
    refine .q 1 hG ?_
    refine .mv a8 (.p (.E5 (.t a8) (.p (.A9 o0.l1 a9y a8 (.t a8) (.p (.S1 (fun x=>x.At) I6 (.t a8) .z (fun _=>a8) ?_))))))
    refine .ad (by first|omega|(simp;done)|(simp;omega)|(simp at *;omega)) (by first|omega|(simp;done)|(simp;omega)|(simp at *;omega)) (.p (.E5 (.t a8) (.p (.A9 o0.l1 a9y a8 (.t a8) (.n (.Z0 (fun y x => { x with At:=y }) I6 (.t a8) (.t a8) .z (fun _ _=>a8) ?_))))))
    refine .q 2 hG ?_
    refine .draw (by kernel_rfl) 14 [[],[(22,0)],[(23,1)],[(24,2)],[],[(26,4)],[(27,5)],[(28,6)],[(29,7)],[(25,3),(30,8)],[(31,9)],[],[(32,10),(33,11)],[(34,12)]] a8 (by kernel_rfl) a8 ?_
    refine⟨_,j5.move (.t a8) a8,?_⟩
    refine⟨_,j5.E5 (.t a8) a8,?_⟩
    refine⟨_,j5.A9 o0.l0 b6L a8 (.t a8) a8,?_⟩
    refine⟨_,j5.S1 (fun x=>x.L) c3q (.t a8) .z (fun _=>a8) a8,?_⟩
    refine⟨_,j5.move (.t a8) a8,?_⟩
    refine⟨_,j5.E5 (.t a8) a8,?_⟩
    refine⟨_,j5.A9 o0.l1 a9y a8 (.t a8) a8,?_⟩
    refine⟨_,j5.S1 (fun x=>x.At) I6 (.t a8) .z (fun _=>a8) a8,?_⟩
    refine⟨_,j5.sub (.t a8) (.i a8) (by first|omega|(simp;done)|(simp;omega)|(simp at *;omega)) (by first|omega|(simp;done)|(simp;omega)|(simp at *;omega)) a8,?_⟩
    refine⟨_,j5.idx I6 underlying22 (.t a8) (.t a8) (by first|omega|(simp;done)|(simp;omega)|(simp at *;omega)) (by first|omega|(simp;done)|(simp;omega)|(simp at *;omega)) a8,?_⟩
    refine⟨_,j5.G8 I6 (.t a8) a8,?_⟩
    refine⟨_,j5.move (.t a8) a8,?_⟩
    refine⟨_,j5.p8 hG (b7t _ _ (by first|omega|(simp;done)|(simp;omega)|(simp at *;omega)) (by first|omega|(simp;done)|(simp;omega)|(simp at *;omega))) (.cons (.t a8) (.cons (.t a8) .nil)) a8,?_⟩
    refine⟨_,j5.assign (.t a8) a8,?_⟩
    show D1 _ _ _ _ _ [] ((4,_)::(34,_)::(33,_)::(32,_)::(31,_)::(30,_)::(29,_)::(28,_)::(27,_)::(26,_)::(25,_)::(24,_)::(23,_)::(22,_)::_) _
    refine .q 2 hG ?_
    refine .e1 a8 a8 ?_
    have e:P1 d n=(d.L[d.At.toNat]'(by omega) % n,⟨d.L,d.At+1⟩):=by unfold P1;rw [dif_pos (by omega)]
    rw [e];refine⟨congrArg AV.v ?_,rfl⟩;simp only [Int.add_sub_cancel]
theorem a3m (a b:List UInt8):p6 gl prog 130 [.v a,.v b] (fun r=>r = .v (decide (a=b))):=by
 refine p6.jn func130 (by kernel_rfl) 10 rfl fun C hC hG => ?_
 refine .q 7 hG ?_
 refine .p (.b0Z underlying64 underlying5 underlying9 (.t a8) ?_)
 refine .q 1 hG ?_
 refine .p (.b0Z underlying64 underlying5 underlying9 (.t a8) ?_)
 refine .q 4 hG ?_
 refine .e1 a8 a8 ?_
 refine congrArg AV.v ?_
 rw [decide_eq_decide];exact⟨fun h=>congrArg T5.l h,fun h=>congrArg T5.mk h⟩
def a3G (k:Tag) (m:List UInt8) (x:y6):Bool:=decide (x.Key=k)&&decide (x.Message=m)
theorem b9K (k:Tag) (m:List UInt8) (x:y6):p6 gl prog 181 [.v x,.p k,.p m] (fun r=>r = .v (a3G k m x)):=by
 refine p6.jn func181 (by kernel_rfl) 15 rfl fun C hC hG => ?_
 refine .q 3 hG fun b3 => ?_
 refine .q 7 hG ?_
 refine .p (.a8I underlying24 sz5 underlying5 b5f (.t a8) (.t a8) ?_)
 refine .q 4 hG ?_
 refine .go 9 a8 (.t a8) (fun hg13 => .p8 hG (a3m _ _) (.cons (.q a8 hg13) (.cons (.q a8 hg13) .nil)) a8) ?_
 refine .q 4 hG ?_
 refine .e1 a8 a8 ?_
 rfl
def idx {α:Type} (l:List α) (p:α→Bool):Int:=if l.findIdx p < l.length then (l.findIdx p:Int) else -1
theorem a6o {α:Type} {l:List α} {p:α→Bool} {k:Nat} (h:k < l.length) (h1:p l[k]=true) (h2:∀ j (hj:j < l.length),j < k→p l[j]=false):idx l p=(k:Int):=by
 have e:l.findIdx p=k:=(List.findIdx_eq h).2 ⟨h1,fun j hj=>h2 j (by omega) hj⟩
 unfold idx;rw [e,if_pos h]
theorem a10 {α:Type} {l:List α} {p:α→Bool} (h:∀ j (hj:j < l.length),p l[j]=false):idx l p = -1:=by
 have e:l.findIdx p=l.length:=List.findIdx_eq_length.2 fun x hx=>by
  obtain⟨j,hj,rfl⟩:=List.getElem_of_mem hx
  exact h j hj
 unfold idx;rw [e,if_neg (by omega)]
theorem b2X (l:List y6) (p:y6→Bool):p6 gl prog 180 [.v l,.a6k prog p] (fun r=>r = .v (idx l p)):=by
 refine p6.jn func180 (by kernel_rfl) 19 rfl fun C hC hG => ?_
 refine .q 6 hG ?_
 refine .X3 0 a8 fun hl0 => ?_
 refine .q 6 hG ?_
 refine .E1 (α:=Nat) [(0,_),(1,_),(7,_)] (fun k R=>(8,.v (k:Int))::R) (fun k => []) (fun k=>k≤l.length∧∀ j (hj:j < l.length),j < k→p l[j]=false) (fun k=>l.length - k) (0) (.c2 a8 a8 (.cons a8 (.nil _))) ?_ (.c2 a8 a8 (.c2 a8 a8 (.nil _))) (a8) fun k hF => ?_
 ·simp
 obtain⟨h1,h2⟩:=hF
 refine .q 6 hG ⟨fun hc9 => ?_,fun hc9 => ?_⟩
 ·refine .q 13 hG ?_
  refine .ix (by first|omega|(simp;done)|(simp;omega)|(simp at *;omega)) (by first|omega|(simp;done)|(simp;omega)|(simp at *;omega)) ?_
  refine .q 1 hG ?_
  refine .p (.a2Q a8 (.t a8) ?_)
  refine .q 1 hG ?_
  refine .cond (.t a8) (fun hc16 => ?_) (fun hc16 => ?_)
  ·refine .q 6 hG ?_
   refine .e1 a8 a8 ?_
   rw [a6o (by omega) (by simpa using hc16) h2]
  ·refine .q 2 hG ?_
   refine .ad (by first|omega|(simp;done)|(simp;omega)|(simp at *;omega)) (by first|omega|(simp;done)|(simp;omega)|(simp at *;omega)) ?_
   refine .q 2 hG ?_
   refine⟨k+1,.c2 rfl rfl (.c2 rfl rfl (.nil _)),rfl,?_,by omega⟩
   refine⟨by omega,fun j hj hjk => ?_⟩;rcases Nat.lt_or_ge j k with h|h;exact h2 j hj h;(obtain rfl:j=k:=by omega);simpa using hc16
 ·refine .q 3 hG ?_
  refine .p (.assign (.i a8) ?_)
  refine .q 2 hG ?_
  refine .e1 a8 a8 ?_
  rw [a10 fun j hj=>h2 j hj (by omega)]
theorem c2c (l:List y6) (k:Tag) (m:List UInt8):p6 gl prog 156 [.v l,.v k,.v m] (fun r=>r = .v (idx l (a3G k m))):=by
 refine p6.jn func156 (by kernel_rfl) 10 rfl fun C hC hG => ?_
 refine .q 3 hG fun b4 => ?_
 refine .q 1 hG fun b5 => ?_
 refine .q 3 hG ?_
 refine .C1 hC .z1 (.O9 4 a8 .z1 (.C1 hC .z (.O9 5 a8 .z ?_)))
 refine .q 2 hG ?_
 refine .p (.a9N hG (fun x=>b9K k m x) (.cons (.t a8) (.cons (.t a8) .nil)) (.p (.p8 hG (b2X _ _) (.cons (.t a8) (.cons (.t a8) .nil)) ?_)))
 refine .q 3 hG ?_
 refine .e1 a8 a8 ?_
 rfl
def b1i (kind:UInt8) (n:Int) (k:Nat):List UInt8 := [115,121,109,98,111,108] ++ [kind]++S0 (UInt64.ofInt n) k
def R7 (kind:UInt8) (n:Int):Tag:=a02 default (b1i kind n 8)
theorem c2d (free:Bool) (seed:Tag):p6 gl prog 34 [.v free,.v seed] (fun r=>r = .v (⟨free,seed,0,[],[]⟩:j8)):=by
 refine p6.jn func34 (by kernel_rfl) 8 rfl fun C hC hG => ?_
 refine .q 3 hG fun b3 => ?_
 refine .q 1 hG fun b4 => ?_
 refine .q 5 hG ?_
 refine .p (.bS2 j8.l0 j8.l1 a8 A6 a0B (fun c0 c1=>(⟨c0,c1,0,[],[]⟩:j8)) (fun _ _=>a8) a8 a8 a8 (.t a8) (.t a8) ?_)
 refine .q 3 hG ?_
 refine⟨_,.r1 a8 (.cell A6 a8 .z),?_⟩
 rfl
theorem a6p (kind:UInt8) (n:Int):p6 gl prog 70 [.v kind,.v n] (fun r=>r = .v (R7 kind n)):=by
 refine p6.jn func70 (by kernel_rfl) 18 rfl fun C hC hG => ?_
 have hbe:=E4 (UInt64.ofInt n) 8
 refine .q 3 hG fun b4 => ?_
 refine .q 4 hG fun b5 => ?_
 refine .q 2 hG ?_
 refine .F3 [c9,j0] (by kernel_rfl) 11 [[],[],[(7,1)],[],[(9,3)],[(8,2),(10,4)],[],[(12,6)],[(13,7)],[(11,5),(14,8)],[(6,0),(15,9)]] [1,2,5,9,10] a8 (by kernel_rfl) a8 (by kernel_rfl) (by decide) ?_
 refine⟨_,fun H=>j5.b6Z V2 (.t a8) a8,?_⟩
 refine .inl (.inl ?_)
 refine⟨_,fun H=>j5.move (.t a8) a8,?_⟩
 refine⟨_,fun H=>j5.G1 (α:=UInt8) ty5 underlying64 (.cons (.t a8) .nil) a8 (by decide) a8,?_⟩
 refine .inl ?_
 refine⟨_,fun H=>j5.move (.t a8) a8,?_⟩
 refine⟨_,fun H=>j5.a1N underlying3 underlying54 (.t a8) a8,?_⟩
 refine⟨_,fun H=>j5.p8 hG (a9V _) (.cons (.t a8) .nil) a8,?_⟩
 refine .inl (.inl ?_)
 refine⟨⟨([],j1 [_,c8]),a8⟩,?_⟩
 refine B3.buildSlice (α:=UInt8) ty5 underlying64 (.cons (.u8 115 rfl) (.cons (.u8 121 rfl) (.cons (.u8 109 rfl) (.cons (.u8 98 rfl) (.cons (.u8 111 rfl) (.cons (.u8 108 rfl) .nil)))))) rfl (by decide) fun b7 => ?_
 refine⟨⟨([_],j1 [_,c8]),a8⟩,?_⟩
 refine B3.same underlying64 underlying5 rfl .z (by simp) ?_
 refine⟨⟨([_],j1 [_,c8]),a8⟩,?_⟩
 refine B3.append O2 (.inl ⟨_,underlying64⟩) rfl .z (.v (.c rfl)) (by first|omega|(simp;done)|(simp;omega)|(simp at *;omega)) (by first|omega|(simp;done)|(simp;omega)|(simp at *;omega)) (fun w11 => ?_) rfl
 refine⟨⟨([_],j1 [_,c8]),a8⟩,?_⟩
 refine B3.append O2 (.inl ⟨_,underlying64⟩) rfl .z (.v (.t rfl)) (by first|omega|(simp;done)|(simp;omega)|(simp at *;omega)) (by first|omega|(simp;done)|(simp;omega)|(simp at *;omega)) (fun w15 => ?_) rfl
 refine⟨⟨([_],j1 [_,c8]),a8⟩,?_⟩
 refine B3.b7h ty5 underlying64 (.t rfl) .z1 (.own rfl .z) (by first|omega|(simp;done)|(simp;omega)|(simp at *;omega)) ?_
 refine⟨⟨([_],j1 [_,c8]),a8⟩,?_⟩
 show D1 _ _ _ _ _ [] ((16,_)::(15,_)::(14,_)::(13,_)::(12,_)::(11,_)::(10,_)::(9,_)::(8,_)::(7,_)::(6,_)::_) _
 refine .q 7 hG ?_
 refine⟨_,.r1 a8 (.cell D0 a8 .z2),?_⟩
 rfl
theorem a30 (kind:UInt8) (n:Int) (k:Nat):(b1i kind n k).length=7+k:=by simp [b1i,E4];omega
abbrev D6:=j8
def a7N:T5:=⟨[102,114,101,115,104]⟩
def O3 (a:D6):D6×Tag×Int :=
 if 65536≤a.F4 then (default,default,2) else
 (⟨a.J6,a.a3I,a.F4+1,a.G2,a.y7⟩,(if a.J6 then R7 107 (a.F4+1) else (derive a.a3I a7N (a.F4+1)).1),0)
def Q8 (a:D6) (k:Tag) (m:List UInt8):Option y6:=a.G2.find? (a3G k m)
def M9 (a:D6) (k:Tag) (m:List UInt8):Tag×Bool:=match Q8 a k m with|some x=>(x.Tag,true)|none=>(default,false)
def a2A (a:D6) (k:Tag) (m:List UInt8):Tag:=if a.J6 then R7 109 (a.G2.length+1) else a1g k.l m
def G6 (a:D6) (k:Tag) (m:List UInt8):D6×Tag×Int :=
 if 4096 < m.length then (default,default,2) else
 match Q8 a k m with
 | some x=>(a,x.Tag,0)
 | none=>if 65536≤a.G2.length then (default,default,2) else
  (⟨a.J6,a.a3I,a.F4,a.G2 ++ [⟨k,m,a2A a k m⟩],a.y7⟩,a2A a k m,0)
def u2 (a:D6) (k:Tag) (m:List UInt8):Tag×Bool :=
 if a.J6 then M9 a k m else if 4096 < m.length then (default,false) else (a1g k.l m,true)
theorem b2Y (a:D6) (h0:0≤a.F4):p6 gl prog 36 [.v a] (fun r=>r = .t3 (.v (O3 a).1) (.v (O3 a).2.1) (.v (O3 a).2.2)):=by
 refine p6.jn func36 (by kernel_rfl) 32 rfl fun C hC hG => ?_
 refine .q 3 hG fun b1 => ?_
 refine .q 1 hG fun b2 => ?_
 refine .q 1 hG fun b3 => ?_
 refine .q 10 hG ⟨fun hc9 => ?_,fun hc9 => ?_⟩
 ·refine .q 2 hG ?_
  refine .p (.bS0 (α:=j8) a8 A6 a0B (.p (.U1 (default:(K5 32 UInt8)) D0 V2 .nil a8 ?_)))
  refine .q 5 hG ?_
  refine⟨_,.r3 a8 (.cell A6 a8 .z1) (.cell D0 a8 .z) (.tmp a8),?_⟩
  have e:O3 a=(default,default,2):=by unfold O3;rw [if_pos hc9]
  rw [e]
 ·refine .q 5 hG ?_
  refine .ad (by first|omega|(simp;done)|(simp;omega)|(simp at *;omega)) (by first|omega|(simp;done)|(simp;omega)|(simp at *;omega)) ?_
  refine .q 9 hG ?_
  refine .cond (.t a8) (fun hc17 => ?_) (fun hc17 => ?_)
  ·refine .q 1 hG ?_
   refine .draw (by kernel_rfl) 4 [[],[],[(19,1)],[(20,2)]] a8 (by kernel_rfl) a8 ?_
   refine⟨_,j5.Q6 A6 (.t a8) .z2 a8,?_⟩
   refine⟨_,j5.A9 j8.l2 b2z a8 (.t a8) a8,?_⟩
   refine⟨_,j5.S1 (fun x=>x.F4) I6 (.t a8) .z2 (fun _=>a8) a8,?_⟩
   refine⟨_,j5.p8 hG (a6p _ _) (.cons (.u8 107 a8) (.cons (.t a8) .nil)) a8,?_⟩
   show D1 _ _ _ _ _ [_,_,_] ((21,_)::(20,_)::(19,_)::(18,_)::_) _
   refine .q 5 hG ?_
   refine⟨_,.r3 a8 (.cell A6 a8 .z1) (.cell D0 a8 .z) (.tmp a8),?_⟩
   have e:O3 a=(⟨a.J6,a.a3I,a.F4+1,a.G2,a.y7⟩,R7 107 (a.F4+1),0):=by unfold O3;rw [if_neg hc9,if_pos hc17]
   rw [e]
  ·refine .q 7 hG ?_
   refine .p (.p8 hG (b5t _ _ _ (by decide)) (.cons (.t a8) (.cons (.s [102,114,101,115,104] (by decide) (by decide)) (.cons (.t a8) .nil))) ?_)
   refine .q 4 hG fun b5 => ?_
   refine .q 4 hG ?_
   refine .F3 [j0,c9,c9,j0] (by kernel_rfl) 5 [[],[],[(30,0)],[(31,1)],[]] [2,3] a8 (by kernel_rfl) a8 (by kernel_rfl) (by decide) ?_
   refine⟨_,fun H=>j5.Q6 A6 (.t a8) (y4.app .z3) a8,?_⟩
   refine⟨_,fun H=>j5.Q6 D0 (.t a8) (y4.app .z) a8,?_⟩
   refine .inl (.inl ?_)
   refine⟨_,fun H=>j5.assign (.i a8) a8,?_⟩
   refine⟨⟨([],j1 [c8,_,_,c8]),a8⟩,?_⟩
   refine B3.P7 A6 (.t rfl) (.t rfl) .z2 ?_
   refine⟨⟨([],j1 [c8,_,_,c8]),a8⟩,?_⟩
   refine B3.P7 D0 (.t rfl) (.t rfl) .z1 ?_
   refine⟨⟨([],j1 [c8,_,_,c8]),a8⟩,?_⟩
   show D1 _ _ _ _ _ [] ((4,_)::(31,_)::(30,_)::_) _
   refine .q 2 hG ?_
   refine⟨_,.r3 a8 (.cell A6 a8 .z2) (.cell D0 a8 .z1) (.tmp a8),?_⟩
   have e:O3 a=(⟨a.J6,a.a3I,a.F4+1,a.G2,a.y7⟩,(derive a.a3I a7N (a.F4+1)).1,0):=by unfold O3;rw [if_neg hc9,if_neg (by rw [show a.J6=false from hc17];decide)]
   rw [e];rfl
theorem b5u {l:List y6} {p:y6→Bool} {k:Nat} (h:k < l.length) (h1:p l[k]=true) (h2:∀ j (hj:j < l.length),j < k→p l[j]=false):l.find? p=some l[k] :=
 List.find?_eq_some_iff_getElem.2 ⟨h1,k,h,rfl,fun j hj=>by rw [h2 j (by omega) hj];rfl⟩
theorem b5v {l:List y6} {p:y6→Bool} (h:∀ j (hj:j < l.length),p l[j]=false):l.find? p=none :=
 List.find?_eq_none.2 fun x hx=>by
  obtain⟨j,hj,rfl⟩:=List.getElem_of_mem hx
  rw [h j hj];decide
theorem b7v (a:D6) (k:Tag) (m:List UInt8):p6 gl prog 115 [.v a,.v k,.v m] (fun r=>r = .t2 (.v (M9 a k m).1) (.v (M9 a k m).2)):=by
 refine p6.jn func115 (by kernel_rfl) 41 rfl fun C hC hG => ?_
 refine .q 3 hG fun b3 => ?_
 refine .q 1 hG fun b4 => ?_
 refine .q 1 hG fun b6 => ?_
 refine .q 4 hG ?_
 refine .C1 hC .z1 (.O9 4 a8 .z1 (.C1 hC .z2 (.O9 3 a8 .z2 ?_)))
 refine .q 4 hG ?_
 refine .E1 (α:=Nat) [(2,_),(3,_),(4,_),(6,_)] (fun i R=>(8,.v (i:Int))::R) (fun i => [(true,.ob (ptr b6 0) (default:Tag)),(true,.fz (ptr b4 0) (.p k)),(true,.fz (ptr b3 0) (.p a))]) (fun i=>i≤a.G2.length∧∀ j (hj:j < a.G2.length),j < i→a3G k m a.G2[j]=false) (fun i=>a.G2.length - i) (0) (.c2 a8 a8 (.c2 a8 a8 (.nil _))) ?_ (.c2 a8 a8 (.c2 a8 a8 (.cons a8 (.nil _)))) (a8) fun i hF => ?_
 ·simp
 obtain⟨h1,h2⟩:=hF
 refine .q 10 hG ⟨fun hc13 => ?_,fun hc13 => ?_⟩
 ·refine .q 4 hG ?_
  refine .draw (by kernel_rfl) 18 [[],[(16,0)],[],[(17,1),(18,2)],[(19,3)],[(20,4)],[],[(21,5),(22,6)],[(23,7)],[],[(25,9)],[],[(26,10),(27,11)],[(28,12)],[(29,13)],[],[(30,14),(31,15)],[(24,8),(32,16)]] a8 (by kernel_rfl) a8 ?_
  refine⟨_,j5.y9 j8.l3 (fun x=>x.G2) a4Y a8 (fun _=>a8) (.t a8) a8,?_⟩
  refine⟨_,j5.G8 b7o (.t a8) a8,?_⟩
  refine⟨_,j5.move (.t a8) a8,?_⟩
  refine⟨_,j5.idx a4N underlying25 (.t a8) (.t a8) (by first|omega|(simp;done)|(simp;omega)|(simp at *;omega)) (by first|omega|(simp;done)|(simp;omega)|(simp at *;omega)) a8,?_⟩
  refine⟨_,j5.y9 y6.l0 (fun x=>x.Key) b4a a8 (fun _=>a8) (.t a8) a8,?_⟩
  refine⟨_,j5.G8 D0 (.t a8) a8,?_⟩
  refine⟨_,j5.G8 D0 (.t a8) a8,?_⟩
  refine⟨_,j5.a8I underlying24 sz5 underlying5 b5f (.t a8) (.t a8) a8,?_⟩
  refine⟨_,j5.move (.t a8) a8,?_⟩
  refine⟨_,⟨_,_,a8,a8,fun hg25=>j5.y9 j8.l3 (fun x=>x.G2) a4Y a8 (fun _=>a8) (.t a8) a8⟩,?_⟩
  refine⟨_,⟨_,_,a8,a8,fun hg26=>j5.G8 b7o (.q a8 hg26) a8⟩,?_⟩
  refine⟨_,⟨_,_,a8,a8,fun hg27=>j5.move (.t a8) a8⟩,?_⟩
  refine⟨_,⟨_,_,a8,a8,fun hg28=>j5.idx a4N underlying25 (.q a8 hg28) (.q a8 hg28) (by first|omega|(simp;done)|(simp;omega)|(have:=hg28;simp at this;omega)) (by first|omega|(simp;done)|(simp;omega)|(have:=hg28;simp at this;omega)) a8⟩,?_⟩
  refine⟨_,⟨_,_,a8,a8,fun hg29=>j5.y9 y6.l1 (fun x=>x.Message) b4b a8 (fun _=>a8) (.q a8 hg29) a8⟩,?_⟩
  refine⟨_,⟨_,_,a8,a8,fun hg30=>j5.G8 a3J (.q a8 hg30) a8⟩,?_⟩
  refine⟨_,⟨_,_,a8,a8,fun hg31=>j5.move (.t a8) a8⟩,?_⟩
  refine⟨_,⟨_,_,a8,a8,fun hg32=>j5.p8 hG (a7M _ _) (.cons (.q a8 hg32) (.cons (.q a8 hg32) .nil)) a8⟩,?_⟩
  refine⟨_,j5.M5 (.t a8) (fun hp=>(.q a8 hp)) a8,?_⟩
  show D1 _ _ _ _ _ [] ((33,_)::(32,_)::(31,_)::(30,_)::(29,_)::(28,_)::(27,_)::(26,_)::(25,_)::(24,_)::(23,_)::(22,_)::(21,_)::(20,_)::(19,_)::(18,_)::(17,_)::(16,_)::_) _
  refine .q 1 hG ?_
  refine .cond (.t a8) (fun hc33 => ?_) (fun hc33 => ?_)
  ·refine .q 5 hG ?_
   refine .ix (by first|omega|(simp;done)|(simp;omega)|(simp at *;omega)) (by first|omega|(simp;done)|(simp;omega)|(simp at *;omega)) ?_
   refine .q 6 hG ?_
   refine⟨_,.r2 a8 (.cell D0 a8 .z) (.tmp a8),?_⟩
   have e:M9 a k m=(a.G2[i].Tag,true):=by unfold M9 Q8;rw [b5u (k:=i) (by omega) hc33 h2]
   rw [e];rfl
  ·refine .q 1 hG ?_
   refine .X3 11 a8 fun hl11 => ?_
   refine .q 2 hG ?_
   refine .ad (by first|omega|(simp;done)|(simp;omega)|(simp at *;omega)) (by first|omega|(simp;done)|(simp;omega)|(simp at *;omega)) ?_
   refine .q 2 hG ?_
   refine⟨i+1,.c2 rfl rfl (.c2 rfl rfl (.cons rfl (.nil _))),rfl,?_,by omega⟩
   refine⟨by omega,fun j hj hji => ?_⟩;rcases Nat.lt_or_ge j i with h|h;exact h2 j hj h;(obtain rfl:j=i:=by omega);exact hc33
 ·refine .q 3 hG ?_
  refine .p (.U1 (default:(K5 32 UInt8)) D0 V2 .nil a8 ?_)
  refine .q 4 hG ?_
  refine⟨_,.r2 a8 (.cell D0 a8 .z) (.tmp a8),?_⟩
  have e:M9 a k m=(default,false):=by unfold M9 Q8;rw [b5v fun j hj=>h2 j hj (by omega)]
  rw [e]
theorem b1j {a:D6} {k:Tag} {m:List UInt8} (h:4096 < m.length):G6 a k m=(default,default,2):=by unfold G6;rw [if_pos h]
theorem a9Y {a:D6} {k:Tag} {m:List UInt8} (h:¬4096 < m.length) (he:(M9 a k m).2=true):G6 a k m=(a,(M9 a k m).1,0):=by
 unfold G6;rw [if_neg h];unfold M9 at *
 cases hf:Q8 a k m with
 | none=>rw [hf] at he;cases he
 | some x=>rfl
theorem a5d {a:D6} {k:Tag} {m:List UInt8} (he:(M9 a k m).2=false):Q8 a k m=none:=by
 unfold M9 at he
 cases hf:Q8 a k m with
 | none=>rfl
 | some x=>rw [hf] at he;cases he
theorem b1k {a:D6} {k:Tag} {m:List UInt8} (h:¬4096 < m.length) (he:Q8 a k m=none) (hl:65536≤a.G2.length):G6 a k m=(default,default,2):=by
 unfold G6;rw [if_neg h,he];simp only [];rw [if_pos hl]
theorem a3n {a : D6} {k : Tag} {m : List UInt8} (h : ¬ 4096 < m.length) (he : Q8 a k m = none) (hl : ¬ 65536 ≤ a.G2.length) :
    G6 a k m=(⟨a.J6,a.a3I,a.F4,a.G2 ++ [⟨k,m,a2A a k m⟩],a.y7⟩,a2A a k m,0):=by
  unfold G6;rw [if_neg h,he];simp only [];rw [if_neg hl]
theorem b1l {a:D6} {k:Tag} {m:List UInt8} (h:a.J6=true):a2A a k m=R7 109 (a.G2.length+1):=by unfold a2A;rw [if_pos h]
theorem b1m {a:D6} {k:Tag} {m:List UInt8} (h:a.J6=false):a2A a k m=a1g k.l m:=by unfold a2A;rw [if_neg (by rw [h];decide)]
theorem a5e (a:D6) (k:Tag) (m:List UInt8):p6 gl prog 59 [.v a,.v k,.v m] (fun r=>r = .t3 (.v (G6 a k m).1) (.v (G6 a k m).2.1) (.v (G6 a k m).2.2)):=by
 refine p6.jn func59 (by kernel_rfl) 58 rfl fun C hC hG => ?_
 refine .q 3 hG fun b3 => ?_
 refine .q 1 hG fun b4 => ?_
 refine .q 1 hG fun b6 => ?_
 refine .q 1 hG fun b7 => ?_
 refine .q 4 hG ?_
 refine .C1 hC .z2 (.O9 4 a8 .z2 ?_)
 refine .q 6 hG ⟨fun hc14 => ?_,fun hc14 => ?_⟩
 ·refine .q 2 hG ?_
  refine .p (.bS0 (α:=j8) a8 A6 a0B (.p (.U1 (default:(K5 32 UInt8)) D0 V2 .nil a8 ?_)))
  refine .q 5 hG ?_
  refine⟨_,.r3 a8 (.cell A6 a8 .z1) (.cell D0 a8 .z) (.tmp a8),?_⟩
  rw [b1j (a:=a) (k:=k) (m:=m) (by omega)]
 ·refine .q 7 hG ?_
  refine .p (.p8 hG (b7v _ _ _) (.cons (.t a8) (.cons (.t a8) (.cons (.t a8) .nil))) ?_)
  refine .q 4 hG fun b9 => ?_
  refine .q 7 hG ?_
  refine .cond (.t a8) (fun hc24 => ?_) (fun hc24 => ?_)
  ·refine .q 1 hG ?_
   refine .F3 [j0,c9,c9,j0,j0] (by kernel_rfl) 5 [[],[],[(25,0)],[(26,1)],[]] [2,3] a8 (by kernel_rfl) a8 (by kernel_rfl) (by decide) ?_
   refine⟨_,fun H=>j5.Q6 A6 (.t a8) (y4.app .z4) a8,?_⟩
   refine⟨_,fun H=>j5.Q6 D0 (.t a8) (y4.app .z) a8,?_⟩
   refine .inl (.inl ?_)
   refine⟨_,fun H=>j5.assign (.i a8) a8,?_⟩
   refine⟨⟨([],j1 [c8,_,_,c8,c8]),a8⟩,?_⟩
   refine B3.P7 A6 (.t rfl) (.t rfl) .z2 ?_
   refine⟨⟨([],j1 [c8,_,_,c8,c8]),a8⟩,?_⟩
   refine B3.P7 D0 (.t rfl) (.t rfl) .z1 ?_
   refine⟨⟨([],j1 [c8,_,_,c8,c8]),a8⟩,?_⟩
   show D1 _ _ _ _ _ [] ((8,_)::(26,_)::(25,_)::_) _
   refine .q 2 hG ?_
   refine⟨_,.r3 a8 (.cell A6 a8 .z2) (.cell D0 a8 .z1) (.tmp a8),?_⟩
   rw [a9Y (a:=a) (k:=k) (m:=m) (by omega) hc24]
  ·refine .q 10 hG ⟨fun hc30 => ?_,fun hc30 => ?_⟩
   ·refine .q 2 hG ?_
    refine .p (.bS0 (α:=j8) a8 A6 a0B (.p (.U1 (default:(K5 32 UInt8)) D0 V2 .nil a8 ?_)))
    refine .q 5 hG ?_
    refine⟨_,.r3 a8 (.cell A6 a8 .z2) (.cell D0 a8 .z1) (.tmp a8),?_⟩
    rw [b1k (a:=a) (k:=k) (m:=m) (by omega) (a5d hc24) (by omega)]
   ·refine .q 3 hG ?_
    refine .p (.V3 (by decide) V2 (.t a8) ?_)
    refine .q 1 hG ?_
    refine .p (.p8 hG (a5K _ _ (by first|omega|(simp;done)|(simp;omega)|(simp at *;omega)) (by first|omega|(simp;done)|(simp;omega)|(simp at *;omega))) (.cons (.t a8) (.cons (.t a8) .nil)) ?_)
    refine .q 1 hG fun b11 => ?_
    refine .q 8 hG ?_
    refine .cond (.t a8) (fun hc37 => ?_) (fun hc37 => ?_)
    ·refine .q 4 hG ?_
     refine .ad (by first|omega|(simp;done)|(simp;omega)|(simp at *;omega)) (by first|omega|(simp;done)|(simp;omega)|(simp at *;omega)) (.p (.p8 hG (a6p _ _) (.cons (.u8 109 a8) (.cons (.t a8) .nil)) ?_))
     refine .q 3 hG ?_
     refine .F3 [j0,j0,j0,j0,j0,j0] (by kernel_rfl) 13 [[],[],[(44,1)],[(43,0),(45,2)],[],[],[],[(48,5),(49,6)],[],[(47,4),(50,7),(51,8)],[(52,9)],[(46,3),(53,10)],[]] [0,3,11] a8 (by kernel_rfl) a8 (by kernel_rfl) (by decide) (.inl ?_)
     refine⟨_,fun H=>j5.A9 j8.l3 a4Y a8 (.t a8) a8,?_⟩
     refine⟨_,fun H=>j5.S1 (fun x=>x.G2) b7o (.t a8) (y4.app .z5) (fun _=>a8) a8,?_⟩
     refine .inl ?_
     refine⟨_,fun H=>j5.G8 D0 (.t a8) a8,?_⟩
     refine⟨_,fun H=>j5.G1 (α:=UInt8) ty5 underlying64 .nil a8 (by decide) a8,?_⟩
     refine⟨_,fun H=>j5.move (.t a8) a8,?_⟩
     refine⟨_,fun H=>j5.Y9 O2 (.inl ⟨_,underlying64⟩) (.t a8) (.v (.t a8)) (by first|omega|(simp;done)|(simp;omega)|(simp at *;omega)) (by first|omega|(simp;done)|(simp;omega)|(simp at *;omega)) a8,?_⟩
     refine⟨_,fun H=>j5.Q6 D0 (.t a8) (y4.app .z) a8,?_⟩
     refine⟨_,fun H=>j5.bS3 y6.l0 y6.l1 y6.l2 a8 a4N c0Y (fun c0 c1 c2=>(⟨c0,c1,c2⟩:y6)) (fun _ _ _=>a8) a8 a8 a8 a8 (.t a8) (.t a8) (.t a8) a8,?_⟩
     refine⟨_,fun H=>j5.G1 (α:=y6) a4N underlying25 (.cons (.t a8) .nil) a8 (by decide) a8,?_⟩
     refine .inl ?_
     refine⟨_,fun H=>j5.A9 j8.l3 a4Y a8 (.t a8) a8,?_⟩
     refine⟨⟨([],j1 [c8,c8,c8,c8,c8,c8]),a8⟩,?_⟩
     refine B3.buildSlice (α:=y6) a4N underlying25 .nil rfl (by decide) fun b43 => ?_
     refine⟨⟨([_],j1 [c8,c8,c8,c8,c8,c8]),a8⟩,?_⟩
     refine B3.append b9H (.inl ⟨_,underlying25⟩) rfl .z (.v (.t rfl)) (by first|omega|(simp;done)|(simp;omega)|(simp at *;omega)) (by first|omega|(simp;done)|(simp;omega)|(simp at *;omega)) (fun w46 => ?_) rfl
     refine⟨⟨([_],j1 [c8,c8,c8,c8,c8,c8]),a8⟩,?_⟩
     refine B3.append b9H (.inl ⟨_,underlying25⟩) rfl .z (.v (.c rfl)) (by first|omega|(simp;done)|(simp;omega)|(simp at *;omega)) (by first|omega|(simp;done)|(simp;omega)|(simp at *;omega)) (fun w54 => ?_) rfl
     refine⟨⟨([_],j1 [c8,c8,c8,c8,c8,c8]),a8⟩,?_⟩
     show D1 _ _ _ _ _ [_] ((55,_)::(54,_)::(53,_)::(52,_)::(51,_)::(50,_)::(49,_)::(48,_)::(47,_)::(46,_)::(45,_)::(44,_)::(43,_)::_) _
     refine .y0 hC .z (.as 54 a8 .z ?_)
     refine .q 3 hG ?_
     refine .F3 [j0,j0,j0,c9,c9,j0,j0] (by kernel_rfl) 5 [[],[],[(56,0)],[(57,1)],[]] [2,3] a8 (by kernel_rfl) a8 (by kernel_rfl) (by decide) ?_
     refine⟨_,fun H=>j5.Q6 A6 (.t a8) (y4.app .z6) a8,?_⟩
     refine⟨_,fun H=>j5.Q6 D0 (.t a8) (y4.app .z1) a8,?_⟩
     refine .inl (.inl ?_)
     refine⟨_,fun H=>j5.assign (.i a8) a8,?_⟩
     refine⟨⟨([],j1 [c8,c8,c8,_,_,c8,c8]),a8⟩,?_⟩
     refine B3.P7 A6 (.t rfl) (.t rfl) .z4 ?_
     refine⟨⟨([],j1 [c8,c8,c8,_,_,c8,c8]),a8⟩,?_⟩
     refine B3.P7 D0 (.t rfl) (.t rfl) .z3 ?_
     refine⟨⟨([],j1 [c8,c8,c8,_,_,c8,c8]),a8⟩,?_⟩
     show D1 _ _ _ _ _ [] ((8,_)::(57,_)::(56,_)::_) _
     refine .q 2 hG ?_
     refine⟨_,.r3 a8 (.cell A6 a8 .z4) (.cell D0 a8 .z3) (.tmp a8),?_⟩
     rw [a3n (a:=a) (k:=k) (m:=m) (by omega) (a5d hc24) (by omega),b1l hc37];rfl
    ·refine .q 2 hG ?_
     refine .F3 [j0,j0,j0,j0,j0,j0] (by kernel_rfl) 13 [[],[],[(44,1)],[(43,0),(45,2)],[],[],[],[(48,5),(49,6)],[],[(47,4),(50,7),(51,8)],[(52,9)],[(46,3),(53,10)],[]] [0,3,11] a8 (by kernel_rfl) a8 (by kernel_rfl) (by decide) (.inl ?_)
     refine⟨_,fun H=>j5.A9 j8.l3 a4Y a8 (.t a8) a8,?_⟩
     refine⟨_,fun H=>j5.S1 (fun x=>x.G2) b7o (.t a8) (y4.app .z5) (fun _=>a8) a8,?_⟩
     refine .inl ?_
     refine⟨_,fun H=>j5.G8 D0 (.t a8) a8,?_⟩
     refine⟨_,fun H=>j5.G1 (α:=UInt8) ty5 underlying64 .nil a8 (by decide) a8,?_⟩
     refine⟨_,fun H=>j5.move (.t a8) a8,?_⟩
     refine⟨_,fun H=>j5.Y9 O2 (.inl ⟨_,underlying64⟩) (.t a8) (.v (.t a8)) (by first|omega|(simp;done)|(simp;omega)|(simp at *;omega)) (by first|omega|(simp;done)|(simp;omega)|(simp at *;omega)) a8,?_⟩
     refine⟨_,fun H=>j5.Q6 D0 (.t a8) (y4.app .z) a8,?_⟩
     refine⟨_,fun H=>j5.bS3 y6.l0 y6.l1 y6.l2 a8 a4N c0Y (fun c0 c1 c2=>(⟨c0,c1,c2⟩:y6)) (fun _ _ _=>a8) a8 a8 a8 a8 (.t a8) (.t a8) (.t a8) a8,?_⟩
     refine⟨_,fun H=>j5.G1 (α:=y6) a4N underlying25 (.cons (.t a8) .nil) a8 (by decide) a8,?_⟩
     refine .inl ?_
     refine⟨_,fun H=>j5.A9 j8.l3 a4Y a8 (.t a8) a8,?_⟩
     refine⟨⟨([],j1 [c8,c8,c8,c8,c8,c8]),a8⟩,?_⟩
     refine B3.buildSlice (α:=y6) a4N underlying25 .nil rfl (by decide) fun b43 => ?_
     refine⟨⟨([_],j1 [c8,c8,c8,c8,c8,c8]),a8⟩,?_⟩
     refine B3.append b9H (.inl ⟨_,underlying25⟩) rfl .z (.v (.t rfl)) (by first|omega|(simp;done)|(simp;omega)|(simp at *;omega)) (by first|omega|(simp;done)|(simp;omega)|(simp at *;omega)) (fun w46 => ?_) rfl
     refine⟨⟨([_],j1 [c8,c8,c8,c8,c8,c8]),a8⟩,?_⟩
     refine B3.append b9H (.inl ⟨_,underlying25⟩) rfl .z (.v (.c rfl)) (by first|omega|(simp;done)|(simp;omega)|(simp at *;omega)) (by first|omega|(simp;done)|(simp;omega)|(simp at *;omega)) (fun w54 => ?_) rfl
     refine⟨⟨([_],j1 [c8,c8,c8,c8,c8,c8]),a8⟩,?_⟩
     show D1 _ _ _ _ _ [_] ((55,_)::(54,_)::(53,_)::(52,_)::(51,_)::(50,_)::(49,_)::(48,_)::(47,_)::(46,_)::(45,_)::(44,_)::(43,_)::_) _
     refine .y0 hC .z (.as 54 a8 .z ?_)
     refine .q 3 hG ?_
     refine .F3 [j0,j0,j0,c9,c9,j0,j0] (by kernel_rfl) 5 [[],[],[(56,0)],[(57,1)],[]] [2,3] a8 (by kernel_rfl) a8 (by kernel_rfl) (by decide) ?_
     refine⟨_,fun H=>j5.Q6 A6 (.t a8) (y4.app .z6) a8,?_⟩
     refine⟨_,fun H=>j5.Q6 D0 (.t a8) (y4.app .z1) a8,?_⟩
     refine .inl (.inl ?_)
     refine⟨_,fun H=>j5.assign (.i a8) a8,?_⟩
     refine⟨⟨([],j1 [c8,c8,c8,_,_,c8,c8]),a8⟩,?_⟩
     refine B3.P7 A6 (.t rfl) (.t rfl) .z4 ?_
     refine⟨⟨([],j1 [c8,c8,c8,_,_,c8,c8]),a8⟩,?_⟩
     refine B3.P7 D0 (.t rfl) (.t rfl) .z3 ?_
     refine⟨⟨([],j1 [c8,c8,c8,_,_,c8,c8]),a8⟩,?_⟩
     show D1 _ _ _ _ _ [] ((8,_)::(57,_)::(56,_)::_) _
     refine .q 2 hG ?_
     refine⟨_,.r3 a8 (.cell A6 a8 .z4) (.cell D0 a8 .z3) (.tmp a8),?_⟩
     rw [a3n (a:=a) (k:=k) (m:=m) (by omega) (a5d hc24) (by omega),b1m hc37];rfl
theorem b2Z (w:Value) (d:o0) (hd:H9 d):G0 gl prog 35 [dk w] [.ob w d] (fun r Hs=>∃ t:Tag,∃ d',H9 d'∧r = .v t∧Hs = [.ob w d']):=by
 refine G0.a6n func35 rfl (by kernel_rfl) 16 rfl rfl _ rfl _ rfl fun C hC hG => ?_
 refine .q 3 hG fun b2 => ?_
 refine .q 4 hG fun b3 => ?_
 refine .q 7 hG ?_
 refine .E1 (α:=Nat×Tag×o0) [(0,_),(2,_),(3,_)] (fun x R=>(4,.v (x.1:Int))::R) (fun x => [(true,.ob (ptr b3 0) x.2.1),(true,.ob (ptr b2 0) (default:Tag)),(false,.ob w x.2.2)]) (fun x=>x.1≤4∧H9 x.2.2) (fun x=>4 - x.1) ((0,default,d)) (.c2 a8 a8 (.cons a8 (.nil _))) ?_ (.c2 a8 a8 (.c2 a8 a8 (.nil _))) (a8) fun x hF => ?_
 ·exact⟨Nat.zero_le _,hd⟩
 obtain⟨k,t,e⟩:=x
 obtain⟨h1,h2⟩:=hF
 dsimp only at h1 h2 ⊢
 refine .q 7 hG ⟨fun hc6 => ?_,fun hc6 => ?_⟩
 ·refine .q 5 hG ?_
  refine .p (.mul (.t a8) (.i a8) (by first|omega|(simp;done)|(simp;omega)|(simp at *;omega)) (by first|omega|(simp;done)|(simp;omega)|(simp at *;omega)) ?_)
  refine .q 1 hG ?_
  refine .km hG (a3l _ _ _ (by assumption) (by first|omega|(simp;done)|(simp;omega)|(simp at *;omega)) (by first|omega|(simp;done)|(simp;omega)|(simp at *;omega))) .z2 (by rintro _ _ ⟨_,rfl⟩;exact⟨_,rfl⟩) fun r12 B12 hr12 => ?_
  obtain⟨rfl,hB⟩:=hr12
  cases hB
  refine .q 1 hG ?_
  refine .p (.c3h V2 (.t a8) (.t a8) (by first|omega|(simp;done)|(simp;omega)|(simp at *;omega)) (by first|omega|(simp;done)|(simp;omega)|(simp at *;omega)) (.n (.stL ty5 (.t a8) (.t a8) .z ?_)))
  refine .q 3 hG ?_
  refine .ad (by first|omega|(simp;done)|(simp;omega)|(simp at *;omega)) (by first|omega|(simp;done)|(simp;omega)|(simp at *;omega)) ?_
  refine .q 2 hG ?_
  refine⟨(k+1,_,_),.c2 rfl rfl (.c2 rfl rfl (.nil _)),rfl,?_,by dsimp only;omega⟩
  exact⟨by dsimp only;omega,Q7 h2⟩
 ·refine .q 7 hG ?_
  refine⟨_,.r1 a8 (.cell D0 a8 .z1),?_⟩
  exact⟨2,_,_,h2,a8,a8⟩
theorem a34 (s:T5) (b:List UInt8) (hs:s.l.length≤1000) (hb:b.length≤1000000):p6 gl prog 109 [.v s,.v b] (fun r=>r = .v (s.l++b)):=by
 refine p6.jn func109 (by kernel_rfl) 9 rfl fun C hC hG => ?_
 refine .q 7 hG ?_
 refine .h (.T6 underlying9 underlying64 underlying5 (.t a8) fun w6 => ?_)
 refine .q 1 hG ?_
 refine .ap (by first|omega|(simp;done)|(simp;omega)|(simp at *;omega)) (by first|omega|(simp;done)|(simp;omega)|(simp at *;omega)) fun w8 => ?_
 refine .q 2 hG ?_
 refine .y0 hC .z (.as 4 a8 .z ?_)
 refine .q 1 hG ?_
 refine .e1 a8 a8 ?_
 rfl
theorem b7w (j:Nat) (h:j < 8):UInt64.ofInt (56 - 8*(j:Int))=UInt64.ofNat (56 - 8*j):=by
 apply UInt64.toNat_inj.1
 have:=a9F j h
 rw [UInt64.toNat_ofNat']
 omega
theorem a11 (n:UInt64):G0 gl prog 133 [.v n] [] (fun r Hs=>∃ u,r = .raw u∧Hs = [.own 5 u (S0 n 8)]):=by
 refine G0.a6n func133 rfl (by kernel_rfl) 18 rfl rfl _ rfl _ rfl fun C hC hG => ?_
 refine .q 2 hG ?_
 refine .p (.assign .raw ?_)
 refine .q 3 hG ?_
 refine .p (.assign .raw ?_)
 refine .q 3 hG ?_
 refine .a0Q 5 UInt8 ?_
 refine .q 4 hG ?_
 refine .E1 (α:=Nat×Value) [(0,_)] (fun x R=>(3,.raw x.2)::(4,.v (56 - 8*(x.1:Int)))::R) (fun x => [(true,.own 5 x.2 (S0 n x.1))]) (fun x=>x.1≤8) (fun x=>8 - x.1) ((0,.slice none 0 0)) (.cons a8 (.nil _)) ?_ (.c2 a8 a8 (.cons a8 (.nil _))) (a8) fun x hF => ?_
 ·simp
 obtain⟨j,w⟩:=x
 dsimp only at hF ⊢
 refine .q 7 hG ⟨fun hc6 => ?_,fun hc6 => ?_⟩
 ·refine .q 3 hG ?_
  have hbe:=E4 n j
  have hs5:=a9F j (by omega)
  refine .q 5 hG ?_
  refine .p (.b0B (.t a8) (.t a8) (by first|omega|(simp;done)|(simp;omega)|(simp at *;omega)) (by first|omega|(simp;done)|(simp;omega)|(simp at *;omega)) (.p (.a2J underlying54 underlying5 (.t a8) ?_)))
  refine .bs a8 (by decide) fun b15 => ?_
  refine .ap (by first|omega|(simp;done)|(simp;omega)|(simp at *;omega)) (by first|omega|(simp;done)|(simp;omega)|(simp at *;omega)) fun w16 => ?_
  refine .q 1 hG ?_
  refine .drop ?_
  refine .q 3 hG ?_
  refine .sb (by first|omega|(simp;done)|(simp;omega)|(simp at *;omega)) (by first|omega|(simp;done)|(simp;omega)|(simp at *;omega)) ?_
  refine .q 2 hG ?_
  refine⟨(j+1,w16),.cons rfl (.cons (congrArg (fun q=>some (AV.v q)) (by dsimp only;omega)) (.cons rfl (.nil _))),congrArg (fun q => [(true,D8.own _ _ q)]) (by dsimp only;rw [a2N,←b7w j (by omega)]),?_,by dsimp only;omega⟩
  dsimp only;omega
 ·refine .q 7 hG ?_
  refine .e1 a8 a8 ?_
  obtain rfl:j=8:=by omega
  exact⟨0,_,a8,a8⟩
def a4w:T5:=⟨[115,116,114,101,97,109]⟩
def a5L (key:Tag) (F9:UInt64) (q:Nat):Tag:=a1g key.l (a4w.l++(S0 F9 8++S0 (UInt64.ofNat q) 8))
def V5 (key:Tag) (F9:UInt64) (i:Nat):UInt8:=(a5L key F9 (i/32)).l.getD (i % 32) 0
def J9 (key:Tag) (F9:UInt64) (b:List UInt8) (k:Nat):List UInt8:=(b.take k).mapIdx (fun i c=>c ^^^ V5 key F9 i)++b.drop k
theorem M0 (key:Tag) (F9:UInt64) (b:List UInt8) (k:Nat):(J9 key F9 b k).length=b.length:=by simp [J9];omega
theorem a6O (key:Tag) (F9:UInt64) (b:List UInt8):J9 key F9 b b.length=b.mapIdx (fun i c=>c ^^^ V5 key F9 i):=by simp [J9]
theorem b1n (key:Tag) (F9:UInt64) (b:List UInt8) (k:Nat) (hk:k < b.length) (h:k < (J9 key F9 b k).length):(J9 key F9 b k)[k]=b[k]:=by
 simp only [J9]
 rw [List.getElem_append_right (by simp;omega)]
 simp
 congr 1;omega
theorem a9Z (key:Tag) (F9:UInt64) (b:List UInt8) (k:Nat) (hk:k < b.length):(J9 key F9 b k).set k (b[k] ^^^ V5 key F9 k)=J9 key F9 b (k+1):=by
 apply List.ext_getElem (by simp [M0])
 intro j h1 h2
 rw [List.getElem_set]
 simp only [J9]
 by_cases e:k=j
 ·subst e
  rw [if_pos rfl,List.getElem_append_left (by simp;omega)]
  simp
 ·rw [if_neg e]
  rcases Nat.lt_or_ge j k with h|h
  ·rw [List.getElem_append_left (by simp;omega),List.getElem_append_left (by simp;omega)]
   simp
  ·rw [List.getElem_append_right (by simp;omega),List.getElem_append_right (by simp;omega)]
   simp
   congr 1;omega
theorem b1o (key : Tag) (F9 : UInt64) (b : List UInt8) (k : Nat) (hk : k < b.length) (h1 : (k : Int).toNat < (J9 key F9 b k).length) (h2 : ((k : Int) % 32).toNat < 32) :
    (J9 key F9 b k).set (k:Int).toNat ((J9 key F9 b k)[(k:Int).toNat] ^^^ (j6.idx ((k:Int) % 32).toNat h2).get (a1g key.l (a4w.l++(S0 F9 8++S0 (UInt64.ofInt ((k:Int)/32)) 8))))=J9 key F9 b (k+1):=by
  rw [←a9Z key F9 b k hk]
  have e1:(J9 key F9 b k)[(k:Int).toNat]=b[k]:=b1n key F9 b k hk h1
  have e2:UInt64.ofInt ((k:Int)/32)=UInt64.ofNat (k/32):=by
    apply UInt64.toNat_inj.1
    rw [show(k:Int)/32=((k/32:Nat):Int) by omega]
    simp [UInt64.ofInt];omega
  have e3:(j6.idx ((k:Int) % 32).toNat h2).get (a1g key.l (a4w.l++(S0 F9 8++S0 (UInt64.ofInt ((k:Int)/32)) 8)))=V5 key F9 k:=by
    rw [e2]
    show(a5L key F9 (k/32)).l[((k:Int) % 32).toNat]'_=_
    unfold V5
    have h3:((k:Int) % 32).toNat=k % 32:=by omega
    have h4:k % 32 < (a5L key F9 (k/32)).l.length:=by rw [K5.len];omega
    simp only [h3]
    rw [List.getD_eq_getElem?_getD,List.getElem?_eq_getElem h4];rfl
  rw [e1,e3];rfl
theorem a8N (key:Tag) (F9:UInt64) (b:List UInt8) (hb:b.length≤1000000):p6 gl prog 136 [.v key,.v F9,.v b] (fun r=>r = .v (J9 key F9 b b.length)):=by
 refine p6.jn func136 (by kernel_rfl) 42 rfl fun C hC hG => ?_
 refine .q 3 hG fun b3 => ?_
 refine .q 3 hG ?_
 refine .C1 hC .z (.O9 3 a8 .z ?_)
 refine .q 1 hG ?_
 refine .h (.buildSlice (α:=UInt8) ty5 underlying64 .nil a8 (by decide) fun b10 => ?_)
 refine .q 1 hG ?_
 refine .ap (by first|omega|(simp;done)|(simp;omega)|(simp at *;omega)) (by first|omega|(simp;done)|(simp;omega)|(simp at *;omega)) fun w12 => ?_
 refine .q 8 hG ?_
 refine .E1 (α:=Nat) [(1,_),(3,_),(7,_)] (fun k R=>(8,.v (k:Int))::R) (fun k => [(true,.own 5 w12 (J9 key F9 b k)),(true,.fz (ptr b3 0) (.p key))]) (fun k=>k≤b.length) (fun k=>b.length - k) (0) (.c2 a8 a8 (.cons a8 (.nil _))) ?_ (.c2 a8 a8 (.c2 a8 a8 (.nil _))) (a8) fun k hF => ?_
 ·simp
 have hl0:=M0 key F9 b k
 refine .q 5 hG ?_
 refine .p (.b2N underlying64 a8 .z ?_)
 refine .q 3 hG ⟨fun hc16 => ?_,fun hc16 => ?_⟩
 ·refine .q 4 hG ?_
  have hb1:=E4 F9 8
  have hb2:=E4 (UInt64.ofInt ((k:Int)/32)) 8
  have hl5:=M0 key F9 b k
  refine .a1f [[j0,j0],[j0,j0],[j0,j0],[j0,j0]] [[j0,j0],[j0,j0],[],[j0,j0],[j0,j0],[j0,j0],[j0,j0],[],[],[j0,j0],[]] [[],[],[],[9]] [(10,(⟨(K5 32 UInt8),inferInstance,default⟩:AT))] 3 (by kernel_rfl) 11 [[],[],[(20,1)],[],[(22,3)],[(23,4)],[(24,5)],[(21,2),(25,6)],[(26,7)],[(19,0),(27,8)],[]] [2,7,8] rfl (by kernel_rfl) rfl (by kernel_rfl) rfl (by decide) (by simp) (List.forall_mem_cons.2 ⟨fun o ho=>by obtain rfl:=Option.some.inj (show some _=some o from ho);exact⟨rfl,fun _ _=>B3.alloc D0 fun b=>⟨b,rfl,rfl⟩⟩,(fun p hp=>by cases hp)⟩) (by kernel_rfl) rfl ?_
  refine⟨_,fun H=>j5.V3 (by decide) V2 (.t a8) a8,?_⟩
  refine⟨_,fun H=>j5.move (.t a8) a8,?_⟩
  refine .inl ?_
  refine⟨_,fun H=>j5.move (.t a8) a8,?_⟩
  refine⟨_,fun H=>j5.quo (.t a8) (.i a8) (by first|omega|(simp;done)|(simp;omega)|(simp at *;omega)) (by first|omega|(simp;done)|(simp;omega)|(simp at *;omega)) a8,?_⟩
  refine⟨_,fun H=>j5.a1N underlying3 underlying54 (.t a8) a8,?_⟩
  refine⟨_,fun H=>j5.p8 hG (a9V _) (.cons (.t a8) .nil) a8,?_⟩
  refine .inl (.inl (.inl (.inl ?_)))
  refine⟨a8,?_⟩
  refine⟨⟨j1 [c8,c8],a8⟩,fun Ys5 => ?_⟩
  refine B3.a7D hG (a11 _) (.cons (.t rfl) .nil) fun r21 Hs21 hr21 => ?_
  obtain⟨u21,rfl,rfl⟩:=hr21
  refine⟨[_],_,a8,?_⟩
  refine⟨⟨j1 [c8,c8],a8⟩,fun Ys5 => ?_⟩
  refine B3.append O2 (.inl ⟨_,underlying64⟩) rfl .z (.v (.t rfl)) (by first|omega|(simp;done)|(simp;omega)|(simp at *;omega)) (by first|omega|(simp;done)|(simp;omega)|(simp at *;omega)) (fun w26 => ?_) rfl
  refine⟨[_],_,a8,?_⟩
  refine⟨⟨j1 [c8,c8],a8⟩,fun Ys5 => ?_⟩
  refine B3.y0 hC .z (B3.as 26 rfl .z (B3.ofP (j5.p8 hG (a34 _ _ (by first|omega|(simp;done)|(simp;omega)|(simp at *;omega)) (by first|omega|(simp;done)|(simp;omega)|(simp at *;omega))) (.cons (.s [115,116,114,101,97,109] (by decide) (by decide)) (.cons (.t rfl) .nil)) ?_)))
  refine⟨[_],_,a8,?_⟩
  refine⟨_,fun H=>j5.p8 hG (a5K _ _ (by first|omega|(simp;done)|(simp;omega)|(simp at *;omega)) (by first|omega|(simp;done)|(simp;omega)|(simp at *;omega))) (.cons (.t a8) (.cons (.t a8) .nil)) a8,?_⟩
  refine⟨⟨j1 [c8,c8],a8⟩,fun ws5 => ?_⟩
  refine⟨⟨j1 [c8,c8],a8⟩,fun _ => ?_⟩
  show D1 _ _ _ _ _ [_] ((9,_)::(28,_)::(27,_)::(26,_)::(25,_)::(24,_)::(23,_)::(22,_)::(21,_)::(20,_)::(19,_)::_) _
  refine .n (.P7 D0 (.t a8) (.t a8) .z1 ?_)
  refine .q 1 hG ?_
  have hl6:=M0 key F9 b k
  refine .draw (by kernel_rfl) 12 [[],[],[],[],[(31,2),(32,3)],[(33,4)],[],[(35,6)],[(36,7)],[(37,8)],[(34,5),(38,9)],[(29,0),(30,1)]] a8 (by kernel_rfl) a8 ?_
  refine⟨_,j5.move (.t a8) a8,?_⟩
  refine⟨_,j5.move (.t a8) a8,?_⟩
  refine⟨_,j5.move (.t a8) a8,?_⟩
  refine⟨_,j5.move (.t a8) a8,?_⟩
  refine⟨_,j5.a2w ty5 underlying64 a8 .z2 (.t a8) (by first|omega|(simp;done)|(simp;omega)|(simp at *;omega)) (by first|omega|(simp;done)|(simp;omega)|(simp at *;omega)) a8,?_⟩
  refine⟨_,j5.b9A ty5 (.t a8) .z2 (by first|omega|(simp;done)|(simp;omega)|(simp at *;omega)) a8,?_⟩
  refine⟨_,j5.move (.t a8) a8,?_⟩
  refine⟨_,j5.rem (.t a8) (.i a8) (by first|omega|(simp;done)|(simp;omega)|(simp at *;omega)) (by first|omega|(simp;done)|(simp;omega)|(simp at *;omega)) a8,?_⟩
  refine⟨_,j5.c3h V2 (.t a8) (.t a8) (by first|omega|(simp;done)|(simp;omega)|(simp at *;omega)) (by first|omega|(simp;done)|(simp;omega)|(simp at *;omega)) a8,?_⟩
  refine⟨_,j5.ldL ty5 (.t a8) .z1 a8,?_⟩
  refine⟨_,j5.b8W (.t a8) (.t a8) a8,?_⟩
  refine⟨_,j5.a2w ty5 underlying64 a8 .z2 (.t a8) (by first|omega|(simp;done)|(simp;omega)|(simp at *;omega)) (by first|omega|(simp;done)|(simp;omega)|(simp at *;omega)) a8,?_⟩
  show D1 _ _ _ _ _ [_] ((40,_)::(39,_)::(38,_)::(37,_)::(36,_)::(35,_)::(34,_)::(33,_)::(32,_)::(31,_)::(30,_)::(29,_)::_) _
  refine .n (.b9B ty5 (.t a8) (.t a8) .z2 (by first|omega|(simp;done)|(simp;omega)|(simp at *;omega)) (.drop (.drop ?_)))
  refine .q 3 hG ?_
  refine .ad (by first|omega|(simp;done)|(simp;omega)|(simp at *;omega)) (by first|omega|(simp;done)|(simp;omega)|(simp at *;omega)) ?_
  refine .q 2 hG ?_
  refine⟨k+1,.c2 rfl rfl (.c2 rfl rfl (.nil _)),congrArg (fun q => [(true,D8.own _ _ q),_]) (b1o key F9 b k (by omega) _ _),?_,by omega⟩
  omega
 ·refine .q 6 hG ?_
  refine .y0 hC .z (.as 6 a8 .z ?_)
  refine .q 1 hG ?_
  refine .e1 a8 a8 ?_
  obtain rfl:k=b.length:=by omega
  rfl
theorem a8O (s:T5) (b:List UInt8) (hs:s.l.length≤1000) (hb:b.length≤1000000):G0 gl prog 109 [.v s,.v b] [] (fun r Hs=>∃ u,r = .raw u∧Hs = [.own 5 u (s.l++b)]):=by
 refine G0.R1 func109 rfl (by kernel_rfl) 9 rfl rfl _ rfl _ rfl fun C hC hG => ?_
 refine .q 7 hG ?_
 refine .h (.T6 underlying9 underlying64 underlying5 (.t a8) fun w6 => ?_)
 refine .q 1 hG ?_
 refine .ap (by first|omega|(simp;done)|(simp;omega)|(simp at *;omega)) (by first|omega|(simp;done)|(simp;omega)|(simp at *;omega)) fun w8 => ?_
 refine .q 3 hG ?_
 refine .e1 a8 a8 ?_
 refine⟨_,.cons .z (.nil),?_⟩
 exact⟨w8,a8,a8⟩
def a3o:T5:=⟨[98,111,120]⟩
def a36 (k:Tag) (n:Int) (p:List UInt8) (x:o8):Bool:=decide (x.Key=k)&&decide (x.E7=n)&&decide (x.Plain=p)
def R8 (k:Tag) (n:Int) (p:List UInt8):List UInt8:=S0 (UInt64.ofInt n) 8++J9 k (UInt64.ofInt n) p p.length
def U5 (k:Tag) (n:Int) (p:List UInt8):List UInt8:=R8 k n p++(a1g k.l (a3o.l++R8 k n p)).l
def a2B (a:D6) (k:Tag) (n:Int) (p:List UInt8):List UInt8:=if a.J6 then (R7 98 (a.y7.length+1)).l++List.replicate (p.length+8) 0 else U5 k n p
def O4 (a:D6) (k:Tag) (n:Int) (p:List UInt8):D6×List UInt8×Int :=
 if n < 0∨281474976710656 < n then (default,[],1) else if 256 < p.length then (default,[],2) else
 match a.y7.find? (a36 k n p) with
 | some x=>(a,x.Box,0)
 | none=>if 65536≤a.y7.length then (default,[],2) else
  (⟨a.J6,a.a3I,a.F4,a.G2,a.y7 ++ [⟨k,n,p,a2B a k n p⟩]⟩,a2B a k n p,0)
theorem a8t {a:D6} {k:Tag} {n:Int} {p:List UInt8} (h:(decide (n < 0)||decide (281474976710656 < n))=true):O4 a k n p=(default,[],1):=by
 unfold O4;rw [if_pos (by simpa using h)]
theorem a90 {a:D6} {k:Tag} {n:Int} {p:List UInt8} (h:(decide (n < 0)||decide (281474976710656 < n))=false) (h2:256 < p.length):O4 a k n p=(default,[],2):=by
 unfold O4;rw [if_neg (by simp at h ⊢;omega),if_pos h2]
theorem a2C {a:D6} {k:Tag} {n:Int} {p:List UInt8} {x:o8} (h:(decide (n < 0)||decide (281474976710656 < n))=false) (h2:¬256 < p.length) (h3:a.y7.find? (a36 k n p)=some x):O4 a k n p=(a,x.Box,0):=by
 unfold O4;rw [if_neg (by simp at h ⊢;omega),if_neg h2,h3]
theorem a92 {a:D6} {k:Tag} {n:Int} {p:List UInt8} (h:(decide (n < 0)||decide (281474976710656 < n))=false) (h2:¬256 < p.length) (h3:a.y7.find? (a36 k n p)=none) (h4:65536≤a.y7.length):O4 a k n p=(default,[],2):=by
 unfold O4;rw [if_neg (by simp at h ⊢;omega),if_neg h2,h3];simp only [];rw [if_pos h4]
theorem a2l {a : D6} {k : Tag} {n : Int} {p : List UInt8} (h : (decide (n < 0) || decide (281474976710656 < n)) = false) (h2 : ¬ 256 < p.length) (h3 : a.y7.find? (a36 k n p) = none) (h4 : ¬ 65536 ≤ a.y7.length) :
    O4 a k n p=(⟨a.J6,a.a3I,a.F4,a.G2,a.y7 ++ [⟨k,n,p,a2B a k n p⟩]⟩,a2B a k n p,0):=by
  unfold O4;rw [if_neg (by simp at h ⊢;omega),if_neg h2,h3];simp only [];rw [if_neg h4]
theorem b1p {a:D6} {k:Tag} {n:Int} {p:List UInt8} (h:a.J6=true):a2B a k n p=(R7 98 (a.y7.length+1)).l++List.replicate (p.length+8) 0:=by unfold a2B;rw [if_pos h]
theorem b1q {a:D6} {k:Tag} {n:Int} {p:List UInt8} (h:a.J6=false):a2B a k n p=U5 k n p:=by unfold a2B;rw [if_neg (by rw [h];decide)]
theorem a7O {l:List o8} {p:o8→Bool} {k:Nat} (h:k < l.length) (h1:p l[k]=true) (h2:∀ j (hj:j < l.length),j < k→p l[j]=false):l.find? p=some l[k] :=
 List.find?_eq_some_iff_getElem.2 ⟨h1,k,h,rfl,fun j hj=>by rw [h2 j (by omega) hj];rfl⟩
theorem a3p {l:List o8} {p:o8→Bool} (h:∀ j (hj:j < l.length),p l[j]=false):l.find? p=none :=
 List.find?_eq_none.2 fun x hx=>by
  obtain⟨j,hj,rfl⟩:=List.getElem_of_mem hx
  rw [h j hj];decide
theorem b4t (a:D6) (k:Tag) (n:Int) (p:List UInt8) (hb:∀ x∈a.y7,x.Box.length≤1000000):p6 gl prog 76 [.v a,.v k,.v n,.v p] (fun r=>r = .t3 (.v (O4 a k n p).1) (.v (O4 a k n p).2.1) (.v (O4 a k n p).2.2)):=by
 refine p6.jn func76 (by kernel_rfl) 111 rfl fun C hC hG => ?_
 refine .q 3 hG fun b4 => ?_
 refine .q 1 hG fun b5 => ?_
 refine .q 1 hG fun b8 => ?_
 refine .q 5 hG ?_
 refine .C1 hC .z1 (.O9 5 a8 .z1 ?_)
 refine .q 8 hG ?_
 refine .cond (.t a8) (fun hc21 => ?_) (fun hc21 => ?_)
 ·refine .q 2 hG ?_
  refine .p (.bS0 (α:=j8) a8 A6 a0B ?_)
  refine .q 5 hG ?_
  refine⟨_,.r3 a8 (.cell A6 a8 .z) (.tmp a8) (.tmp a8),?_⟩
  rw [a8t hc21]
 ·refine .q 9 hG ⟨fun hc25 => ?_,fun hc25 => ?_⟩
  ·refine .q 2 hG ?_
   refine .p (.bS0 (α:=j8) a8 A6 a0B ?_)
   refine .q 5 hG ?_
   refine⟨_,.r3 a8 (.cell A6 a8 .z) (.tmp a8) (.tmp a8),?_⟩
   rw [a90 hc21 (by omega)]
  ·refine .q 7 hG ?_
   refine .E1 (α:=Nat) [(2,_),(3,_),(4,_),(5,_),(8,_)] (fun i R=>(11,.v (i:Int))::R) (fun i => [(true,.ob (ptr b8 0) (default:D6)),(true,.fz (ptr b5 0) (.p k)),(true,.ob (ptr b4 0) a)]) (fun i=>i≤a.y7.length∧∀ j (hj:j < a.y7.length),j < i→a36 k n p a.y7[j]=false) (fun i=>a.y7.length - i) (0) (.c2 a8 a8 (.c2 a8 a8 (.cons a8 (.nil _)))) ?_ (.c2 a8 a8 (.c2 a8 a8 (.c2 a8 a8 (.nil _)))) (a8) fun i hF => ?_
   ·simp
   obtain⟨h1,h2⟩:=hF
   refine .q 10 hG ⟨fun hc31 => ?_,fun hc31 => ?_⟩
   ·refine .q 4 hG ?_
    refine .X3 29 a8 fun hl29 => ?_
    refine .q 4 hG ?_
    refine .ix (by first|omega|(simp;done)|(simp;omega)|(simp at *;omega)) (by first|omega|(simp;done)|(simp;omega)|(simp at *;omega)) ?_
    refine .q 2 hG fun b12 => ?_
    refine .q 7 hG ?_
    refine .p (.a8I underlying24 sz5 underlying5 b5f (.t a8) (.t a8) ?_)
    refine .q 10 hG ?_
    refine .go 49 a8 (.t a8) (fun hg53 => .p8 hG (a7M _ _) (.cons (.q a8 hg53) (.cons (.q a8 hg53) .nil)) a8) ?_
    refine .q 2 hG ?_
    refine .cond (.t a8) (fun hc54 => ?_) (fun hc54 => ?_)
    ·refine .q 1 hG ?_
     have hb10:∀ h:(i:Int).toNat < a.y7.length,(a.y7[(i:Int).toNat]'h).Box.length≤1000000:=fun h=>hb _ (List.getElem_mem h)
     have hb11:=hb10 (by omega)
     refine .draw (by kernel_rfl) 5 [[],[],[],[(57,2)],[(56,1),(58,3)]] a8 (by kernel_rfl) a8 ?_
     refine⟨_,j5.Q6 A6 (.t a8) .z3 a8,?_⟩
     refine⟨_,j5.G1 (α:=UInt8) ty5 underlying64 .nil a8 (by decide) a8,?_⟩
     refine⟨_,j5.A9 o8.l3 b4d a8 (.t a8) a8,?_⟩
     refine⟨_,j5.S1 (fun x=>x.Box) a3J (.t a8) .z (fun _=>a8) a8,?_⟩
     refine⟨_,j5.Y9 O2 (.inl ⟨_,underlying64⟩) (.t a8) (.v (.t a8)) (by first|omega|(simp;done)|(simp;omega)|(simp at *;omega)) (by first|omega|(simp;done)|(simp;omega)|(simp at *;omega)) a8,?_⟩
     show D1 _ _ _ _ _ [_,_,_] ((59,_)::(58,_)::(57,_)::(56,_)::(55,_)::_) _
     refine .q 5 hG ?_
     refine⟨_,.r3 a8 (.cell A6 a8 .z1) (.tmp a8) (.tmp a8),?_⟩
     rw [a2C hc21 (by omega) (a7O (k:=i) (by omega) hc54 h2)];rfl
    ·refine .q 1 hG ?_
     refine .drop ?_
     refine .q 2 hG ?_
     refine .ad (by first|omega|(simp;done)|(simp;omega)|(simp at *;omega)) (by first|omega|(simp;done)|(simp;omega)|(simp at *;omega)) ?_
     refine .q 2 hG ?_
     refine⟨i+1,.c2 rfl rfl (.c2 rfl rfl (.c2 rfl rfl (.nil _))),rfl,?_,by omega⟩
     refine⟨by omega,fun j hj hji => ?_⟩;rcases Nat.lt_or_ge j i with h|h;exact h2 j hj h;(obtain rfl:j=i:=by omega);exact hc54
   ·refine .q 10 hG ⟨fun hc63 => ?_,fun hc63 => ?_⟩
    ·refine .q 2 hG ?_
     refine .p (.bS0 (α:=j8) a8 A6 a0B ?_)
     refine .q 5 hG ?_
     refine⟨_,.r3 a8 (.cell A6 a8 .z) (.tmp a8) (.tmp a8),?_⟩
     rw [a92 hc21 (by omega) (a3p fun j hj=>h2 j hj (by omega)) (by omega)]
    ·refine .q 11 hG ?_
     refine .cond (.t a8) (fun hc66 => ?_) (fun hc66 => ?_)
     ·refine .q 5 hG ?_
      refine .ad (by first|omega|(simp;done)|(simp;omega)|(simp at *;omega)) (by first|omega|(simp;done)|(simp;omega)|(simp at *;omega)) (.p (.p8 hG (a6p _ _) (.cons (.u8 98 a8) (.cons (.t a8) .nil)) ?_))
      refine .q 1 hG fun b14 => ?_
      refine .q 2 hG ?_
      refine .C1 hC .z (.O9 14 a8 .z ?_)
      refine .q 1 hG ?_
      refine .p (.b9D (by decide) V2 (.t a8) ?_)
      refine .q 2 hG ?_
      refine .ad (by first|omega|(simp;done)|(simp;omega)|(simp at *;omega)) (by first|omega|(simp;done)|(simp;omega)|(simp at *;omega)) (.p (.b7l underlying64 c4d a8 a8 a8 (fun _=>a8) underlying3 (.t a8) (.t a8) (by first|omega|(simp;done)|(simp;omega)|(simp at *;omega)) (by first|omega|(simp;done)|(simp;omega)|(simp at *;omega)) (by first|omega|(simp;done)|(simp;omega)|(simp at *;omega)) ?_))
      refine .q 3 hG ?_
      refine .F3 [j0,j0,j0,j0] (by kernel_rfl) 14 [[],[],[(94,1)],[(93,0),(95,2)],[],[],[],[],[(99,6),(100,7)],[],[(97,4),(98,5),(101,8),(102,9)],[(103,10)],[(96,3),(104,11)],[]] [0,3,12] a8 (by kernel_rfl) a8 (by kernel_rfl) (by decide) (.inl ?_)
      refine⟨_,fun H=>j5.A9 j8.l4 a4Z a8 (.t a8) a8,?_⟩
      refine⟨_,fun H=>j5.S1 (fun x=>x.y7) b2U (.t a8) (y4.app .z3) (fun _=>a8) a8,?_⟩
      refine .inl ?_
      refine⟨_,fun H=>j5.G8 D0 (.t a8) a8,?_⟩
      refine⟨_,fun H=>j5.move (.t a8) a8,?_⟩
      refine⟨_,fun H=>j5.G1 (α:=UInt8) ty5 underlying64 .nil a8 (by decide) a8,?_⟩
      refine⟨_,fun H=>j5.move (.t a8) a8,?_⟩
      refine⟨_,fun H=>j5.Y9 O2 (.inl ⟨_,underlying64⟩) (.t a8) (.v (.t a8)) (by first|omega|(simp;done)|(simp;omega)|(simp at *;omega)) (by first|omega|(simp;done)|(simp;omega)|(simp at *;omega)) a8,?_⟩
      refine⟨_,fun H=>j5.move (.t a8) a8,?_⟩
      refine⟨_,fun H=>j5.bS4 o8.l0 o8.l1 o8.l2 o8.l3 a8 a4O c0Z (fun c0 c1 c2 c3=>(⟨c0,c1,c2,c3⟩:o8)) (fun _ _ _ _=>a8) a8 a8 a8 a8 a8 (.t a8) (.t a8) (.t a8) (.t a8) a8,?_⟩
      refine⟨_,fun H=>j5.G1 (α:=o8) a4O underlying26 (.cons (.t a8) .nil) a8 (by decide) a8,?_⟩
      refine .inl ?_
      refine⟨_,fun H=>j5.A9 j8.l4 a4Z a8 (.t a8) a8,?_⟩
      refine⟨⟨([],j1 [c8,c8,c8,c8]),a8⟩,?_⟩
      refine B3.buildSlice (α:=o8) a4O underlying26 .nil rfl (by decide) fun b93 => ?_
      refine⟨⟨([_],j1 [c8,c8,c8,c8]),a8⟩,?_⟩
      refine B3.append b9I (.inl ⟨_,underlying26⟩) rfl .z (.v (.t rfl)) (by first|omega|(simp;done)|(simp;omega)|(simp at *;omega)) (by first|omega|(simp;done)|(simp;omega)|(simp at *;omega)) (fun w96 => ?_) rfl
      refine⟨⟨([_],j1 [c8,c8,c8,c8]),a8⟩,?_⟩
      refine B3.append b9I (.inl ⟨_,underlying26⟩) rfl .z (.v (.c rfl)) (by first|omega|(simp;done)|(simp;omega)|(simp at *;omega)) (by first|omega|(simp;done)|(simp;omega)|(simp at *;omega)) (fun w105 => ?_) rfl
      refine⟨⟨([_],j1 [c8,c8,c8,c8]),a8⟩,?_⟩
      show D1 _ _ _ _ _ [_] ((106,_)::(105,_)::(104,_)::(103,_)::(102,_)::(101,_)::(100,_)::(99,_)::(98,_)::(97,_)::(96,_)::(95,_)::(94,_)::(93,_)::_) _
      refine .y0 hC .z (.as 105 a8 .z (.n (.Z0 (fun y x => { x with y7:=y }) b2U (.t a8) (.t a8) .z4 (fun _ _=>a8) ?_)))
      refine .q 2 hG ?_
      refine .draw (by kernel_rfl) 4 [[],[],[],[(108,1),(109,2)]] a8 (by kernel_rfl) a8 ?_
      refine⟨_,j5.Q6 A6 (.t a8) .z4 a8,?_⟩
      refine⟨_,j5.G1 (α:=UInt8) ty5 underlying64 .nil a8 (by decide) a8,?_⟩
      refine⟨_,j5.move (.t a8) a8,?_⟩
      refine⟨_,j5.Y9 O2 (.inl ⟨_,underlying64⟩) (.t a8) (.v (.t a8)) (by first|omega|(simp;done)|(simp;omega)|(simp at *;omega)) (by first|omega|(simp;done)|(simp;omega)|(simp at *;omega)) a8,?_⟩
      show D1 _ _ _ _ _ [_,_,_] ((110,_)::(109,_)::(108,_)::(107,_)::_) _
      refine .q 5 hG ?_
      refine⟨_,.r3 a8 (.cell A6 a8 .z2) (.tmp a8) (.tmp a8),?_⟩
      rw [a2l hc21 (by omega) (a3p fun j hj=>h2 j hj (by omega)) (by omega),b1p hc66];rfl
     ·refine .q 1 hG ?_
      have hb17:=E4 (UInt64.ofInt n) 8
      have hb18:=M0 k (UInt64.ofInt n) p p.length
      refine .a7H (by kernel_rfl) 10 [[],[(77,0)],[(78,1)],[],[],[(81,4)],[],[(80,3),(82,5),(83,6)],[(79,2),(84,7)],[(85,8)]] [2,8,9] a8 (by kernel_rfl) a8 (by kernel_rfl) (by decide) ?_
      refine⟨_,fun H=>j5.move (.t a8) a8,?_⟩
      refine⟨_,fun H=>j5.a1N underlying3 underlying54 (.t a8) a8,?_⟩
      refine .inl ?_
      refine⟨_,fun H=>j5.G8 D0 (.t a8) a8,?_⟩
      refine⟨_,fun H=>j5.move (.t a8) a8,?_⟩
      refine⟨_,fun H=>j5.a1N underlying3 underlying54 (.t a8) a8,?_⟩
      refine⟨_,fun H=>j5.move (.t a8) a8,?_⟩
      refine⟨_,fun H=>j5.p8 hG (a8N _ _ _ (by first|omega|(simp;done)|(simp;omega)|(simp at *;omega))) (.cons (.t a8) (.cons (.t a8) (.cons (.t a8) .nil))) a8,?_⟩
      refine .inl (.inl ?_)
      refine B3.a7D hG (a11 _) (.cons (.t rfl) .nil) fun r79 Hs79 hr79 => ?_
      obtain⟨u79,rfl,rfl⟩:=hr79
      refine B3.append O2 (.inl ⟨_,underlying64⟩) rfl .z (.v (.t rfl)) (by first|omega|(simp;done)|(simp;omega)|(simp at *;omega)) (by first|omega|(simp;done)|(simp;omega)|(simp at *;omega)) (fun w85 => ?_) rfl
      refine B3.ofP (j5.assign (.t rfl) ?_)
      show D1 _ _ _ _ _ [] ((13,_)::(85,_)::(84,_)::(83,_)::(82,_)::(81,_)::(80,_)::(79,_)::(78,_)::(77,_)::_) _
      refine .q 2 hG ?_
      refine .a1f [[j0,j0,j0,j0],[c9,j0,j0,j0],[c9,j0,j0,j0]] [[c9,j0,j0,j0],[j0,j0,j0,j0],[],[],[]] [] [(4,(⟨(K5 32 UInt8),inferInstance,default⟩:AT))] 2 (by kernel_rfl) 5 [[],[],[(87,1)],[(86,0),(88,2)],[]] [2,3] rfl (by kernel_rfl) rfl (by kernel_rfl) rfl (by decide) (by simp) (List.forall_mem_cons.2 ⟨fun o ho=>by obtain rfl:=Option.some.inj (show some _=some o from ho);exact⟨rfl,fun _ _=>B3.alloc D0 fun b=>⟨b,rfl,rfl⟩⟩,(fun p hp=>by cases hp)⟩) (by kernel_rfl) rfl ?_
      refine⟨_,fun H=>j5.V3 (by decide) V2 (.t a8) a8,?_⟩
      refine⟨_,fun H=>j5.move (.t a8) a8,?_⟩
      refine .inl (.inl (.inl ?_))
      refine⟨a8,?_⟩
      refine⟨⟨j1 [c8,c8,c8,c8],a8⟩,fun Ys18 => ?_⟩
      refine B3.c1b hG (a8O _ _ (by first|omega|(simp;done)|(simp;omega)|(simp at *;omega)) (by first|omega|(simp;done)|(simp;omega)|(simp at *;omega))) (.cons (.e (.s [98,111,120] (by decide) (by decide))) (.cons (.own rfl (y4.app (y4.app .z))) .nil)) (by rintro _ _ ⟨u,rfl,rfl⟩;exact .own) fun r88 Hs88 hr88 => ?_
      obtain⟨u88,rfl,rfl⟩:=hr88
      refine⟨[_],_,a8,?_⟩
      refine⟨⟨j1 [_,c8,c8,c8],a8⟩,fun Ys18 => ?_⟩
      refine B3.ofP (j5.c05 hG (a5K _ _ (by first|omega|(simp;done)|(simp;omega)|(simp at *;omega)) (by first|omega|(simp;done)|(simp;omega)|(simp at *;omega))) (.cons (.e (.t rfl)) (.cons (.own rfl .z) .nil)) (by first|exact .v|exact .t2 .v .v|exact .t3 .v .v .v) ?_)
      refine⟨[_],_,a8,?_⟩
      refine⟨⟨j1 [_,c8,c8,c8],a8⟩,fun ws18 => ?_⟩
      refine⟨⟨j1 [_,c8,c8,c8],a8⟩,fun _ => ?_⟩
      show D1 _ _ _ _ _ [_] ((15,_)::(89,_)::(88,_)::(87,_)::(86,_)::_) _
      refine .n (.P7 D0 (.t a8) (.t a8) .z1 ?_)
      refine .q 1 hG ?_
      refine .C1 hC .z1 (.O9 15 a8 .z1 ?_)
      refine .q 2 hG ?_
      refine .p (.V3 (by decide) V2 (.t a8) (.h (.append O2 (.inl ⟨_,underlying64⟩) a8 .z2 (.v (.t a8)) (by first|omega|(simp;done)|(simp;omega)|(simp at *;omega)) (by first|omega|(simp;done)|(simp;omega)|(simp at *;omega)) (fun w92 => .ag a8 ?_) a8)))
      refine .q 2 hG ?_
      refine .y0 hC .z2 (.as 13 a8 .z2 (.F3 [j0,j0,j0,j0,j0,j0] (by kernel_rfl) 14 [[],[],[(94,1)],[(93,0),(95,2)],[],[],[],[],[(99,6),(100,7)],[],[(97,4),(98,5),(101,8),(102,9)],[(103,10)],[(96,3),(104,11)],[]] [0,3,12] a8 (by kernel_rfl) a8 (by kernel_rfl) (by decide) (.inl ?_)))
      refine⟨_,fun H=>j5.A9 j8.l4 a4Z a8 (.t a8) a8,?_⟩
      refine⟨_,fun H=>j5.S1 (fun x=>x.y7) b2U (.t a8) (y4.app .z5) (fun _=>a8) a8,?_⟩
      refine .inl ?_
      refine⟨_,fun H=>j5.G8 D0 (.t a8) a8,?_⟩
      refine⟨_,fun H=>j5.move (.t a8) a8,?_⟩
      refine⟨_,fun H=>j5.G1 (α:=UInt8) ty5 underlying64 .nil a8 (by decide) a8,?_⟩
      refine⟨_,fun H=>j5.move (.t a8) a8,?_⟩
      refine⟨_,fun H=>j5.Y9 O2 (.inl ⟨_,underlying64⟩) (.t a8) (.v (.t a8)) (by first|omega|(simp;done)|(simp;omega)|(simp at *;omega)) (by first|omega|(simp;done)|(simp;omega)|(simp at *;omega)) a8,?_⟩
      refine⟨_,fun H=>j5.move (.t a8) a8,?_⟩
      refine⟨_,fun H=>j5.bS4 o8.l0 o8.l1 o8.l2 o8.l3 a8 a4O c0Z (fun c0 c1 c2 c3=>(⟨c0,c1,c2,c3⟩:o8)) (fun _ _ _ _=>a8) a8 a8 a8 a8 a8 (.t a8) (.t a8) (.t a8) (.t a8) a8,?_⟩
      refine⟨_,fun H=>j5.G1 (α:=o8) a4O underlying26 (.cons (.t a8) .nil) a8 (by decide) a8,?_⟩
      refine .inl ?_
      refine⟨_,fun H=>j5.A9 j8.l4 a4Z a8 (.t a8) a8,?_⟩
      refine⟨⟨([],j1 [c8,c8,c8,c8,c8,c8]),a8⟩,?_⟩
      refine B3.buildSlice (α:=o8) a4O underlying26 .nil rfl (by decide) fun b93 => ?_
      refine⟨⟨([_],j1 [c8,c8,c8,c8,c8,c8]),a8⟩,?_⟩
      refine B3.append b9I (.inl ⟨_,underlying26⟩) rfl .z (.v (.t rfl)) (by first|omega|(simp;done)|(simp;omega)|(simp at *;omega)) (by first|omega|(simp;done)|(simp;omega)|(simp at *;omega)) (fun w96 => ?_) rfl
      refine⟨⟨([_],j1 [c8,c8,c8,c8,c8,c8]),a8⟩,?_⟩
      refine B3.append b9I (.inl ⟨_,underlying26⟩) rfl .z (.v (.c rfl)) (by first|omega|(simp;done)|(simp;omega)|(simp at *;omega)) (by first|omega|(simp;done)|(simp;omega)|(simp at *;omega)) (fun w105 => ?_) rfl
      refine⟨⟨([_],j1 [c8,c8,c8,c8,c8,c8]),a8⟩,?_⟩
      show D1 _ _ _ _ _ [_] ((106,_)::(105,_)::(104,_)::(103,_)::(102,_)::(101,_)::(100,_)::(99,_)::(98,_)::(97,_)::(96,_)::(95,_)::(94,_)::(93,_)::_) _
      refine .y0 hC .z (.as 105 a8 .z (.n (.Z0 (fun y x => { x with y7:=y }) b2U (.t a8) (.t a8) .z6 (fun _ _=>a8) ?_)))
      refine .q 2 hG ?_
      refine .draw (by kernel_rfl) 4 [[],[],[],[(108,1),(109,2)]] a8 (by kernel_rfl) a8 ?_
      refine⟨_,j5.Q6 A6 (.t a8) .z6 a8,?_⟩
      refine⟨_,j5.G1 (α:=UInt8) ty5 underlying64 .nil a8 (by decide) a8,?_⟩
      refine⟨_,j5.move (.t a8) a8,?_⟩
      refine⟨_,j5.Y9 O2 (.inl ⟨_,underlying64⟩) (.t a8) (.v (.t a8)) (by first|omega|(simp;done)|(simp;omega)|(simp at *;omega)) (by first|omega|(simp;done)|(simp;omega)|(simp at *;omega)) a8,?_⟩
      show D1 _ _ _ _ _ [_,_,_] ((110,_)::(109,_)::(108,_)::(107,_)::_) _
      refine .q 5 hG ?_
      refine⟨_,.r3 a8 (.cell A6 a8 .z4) (.tmp a8) (.tmp a8),?_⟩
      rw [a2l hc21 (by omega) (a3p fun j hj=>h2 j hj (by omega)) (by omega),b1q hc66];rfl
structure b7x where
 J6:Bool
 a3I:(K5 32 UInt8)
 F4:Int
 G2:S3
 y7:S3
structure MkU where
 a:D6
 e:Int
 um:Value
 ub:Value
theorem b7y {α:Type} {l:List α} {p:α→Bool} (h:0≤idx l p):idx l p < l.length:=by
 unfold idx at *;split at h<;>split<;>omega
theorem b4u {α:Type} {l:List α} {p:α→Bool} (h:0≤idx l p) (h2:(idx l p).toNat < l.length):l.find? p=some l[(idx l p).toNat]:=by
 have h3:l.findIdx p < l.length:=by unfold idx at h;split at h<;>omega
 have h4:(idx l p).toNat=l.findIdx p:=by unfold idx;rw [if_pos h3];rfl
 simp only [h4]
 exact List.find?_eq_some_iff_getElem.2 ⟨List.findIdx_getElem (w:=h3),_,h3,rfl,fun j hj=>by simpa using List.not_of_lt_findIdx hj⟩
theorem b4v {α:Type} {l:List α} {p:α→Bool} (h:¬0≤idx l p):l.find? p=none:=by
 unfold idx at h
 split at h
 ·omega
 ·next h3=>exact List.find?_eq_none.2 fun x hx hp=>h3 (List.findIdx_lt_length_of_exists ⟨x,hx,hp⟩)
abbrev b1r (a:D6):Prop:=∀ k m,p6 gl prog 125 [.v a,.v k,.v m] (fun r=>r = .t2 (.v (u2 a k m).1) (.v (u2 a k m).2))
theorem b7z (a:D6) (hf:a.J6=true):b1r a:=fun k m=>by
 refine p6.jn func125 (by kernel_rfl) 32 rfl fun C hC hG => ?_
 refine .q 3 hG fun b3 => ?_
 refine .q 1 hG fun b4 => ?_
 refine .q 1 hG fun b6 => ?_
 refine .q 4 hG ?_
 refine .C1 hC .z1 (.O9 4 a8 .z1 (.C1 hC .z2 (.O9 3 a8 .z2 ?_)))
 refine .q 4 hG ?_
 refine .cond (.t rfl) (fun hc10 => ?_) (fun hc10=>(by exfalso;rw [show a.J6=false from hc10] at hf;cases hf))
 refine .q 6 hG ?_
 refine .p (.p8 hG (c2c _ _ _) (.cons (.t a8) (.cons (.t a8) (.cons (.t a8) .nil))) ?_)
 refine .q 9 hG ⟨fun hc17 => ?_,fun hc17 => ?_⟩
 ·refine .q 2 hG ?_
  refine .p (.U1 (default:(K5 32 UInt8)) D0 V2 .nil a8 ?_)
  refine .q 4 hG ?_
  refine⟨_,.r2 a8 (.cell D0 a8 .z) (.tmp a8),?_⟩
  have e:u2 a k m=(default,false):=by unfold u2 M9 Q8;rw [if_pos hf,b4v (by omega)]
  rw [e]
 ·refine .q 2 hG ?_
  have hi7:0≤idx a.G2 (a3G k m):=by simp at hc17;omega
  have hl7:=b7y hi7
  refine .q 4 hG ?_
  refine .ix (by first|omega|(simp;done)|(simp;omega)|(simp at *;omega)) (by first|omega|(simp;done)|(simp;omega)|(simp at *;omega)) ?_
  refine .q 6 hG ?_
  refine⟨_,.r2 a8 (.cell D0 a8 .z) (.tmp a8),?_⟩
  have e:u2 a k m=(a.G2[(idx a.G2 (a3G k m)).toNat].Tag,true):=by unfold u2 M9 Q8;rw [if_pos hf,b4u hi7 (by omega)]
  rw [e]
end Go.Proofs.YtalibdhdngbbcaaGreatDoor
