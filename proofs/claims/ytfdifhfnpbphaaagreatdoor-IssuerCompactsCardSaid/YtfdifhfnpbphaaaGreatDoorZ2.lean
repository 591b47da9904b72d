/- Plain Lean over any program, and walks of this seat's functions: contracts, each proved once (part 2). -/
import Derived.Test.YtfdifhfnpbphaaaGreatDoorZ1
set_option maxRecDepth 1000000
set_option synthInstance.maxSize 1000000
set_option synthInstance.maxHeartbeats 10000000
set_option linter.unusedVariables false
set_option linter.unusedSimpArgs false
namespace Go.Ab
open Go.Fl Go.RowKit
open u3 (rep)
structure O5 where
 v:Value
instance:Inhabited O5:=⟨⟨.slice none 0 0⟩⟩
instance:u3 O5 where
 size:=1
 agg:=false
 rep _ x cs:=cs = [x.v]∧x.v.oneCell'=true
 len h:=by simp [h.1]
 mono _ h:=h
 one _:=rfl
 flat h:=by simp [h.1,a0W,h.2]
instance:K4 O5:=⟨[.slice none 0 0],fun _=>⟨rfl,rfl⟩⟩
structure GS (α:Type) where
 E:TypeId
 l:List α
instance {α:Type}[u3 α]:UB (GS α) where
 ub I w x X:=(X = []∧F9 I (.vc x.l) w)∨(C3.own x.E w x.l).a0H I X
 mono hle h:=h.elim (fun h => .inl ⟨h.1,h.2.mono hle⟩) (fun h => .inr (C3.mono hle h))
theorem c2j {α:Type}[u3 α]{I:Im}{w:Value}{x:GS α}{X:List (Nat×Obj)}(h:(C3.P4 w x).a0H I X):w.oneCell'=true:=by
 rcases h with ⟨_,⟨a,rfl⟩,_⟩|⟨xs,h,_⟩
 ·rfl
 ·obtain⟨a,c,rfl⟩:=h.shape;rfl
theorem a79 {α:Type}[u3 α]{I J:Im}{w:Value}{x:GS α}{X:List (Nat×Obj)}(h:(C3.P4 w x).a0H I X)(hle:Le I J)(hp:∀ p∈X,J p.1=some p.2):F9 J (.v x.l) w:=by
 rcases h with ⟨_,h⟩|h
 ·exact⟨[w],⟨w,rfl,by obtain⟨xs,h1,h2⟩:=h.2;exact⟨xs,h1.mono hle,h2.mono hle⟩⟩,rfl⟩
 ·exact O9 h hle hp
theorem c9H {α:Type}[u3 α]{I:Im}{w:Value}{x:GS α}{X:List (Nat×Obj)}(h:(C3.P4 w x).a0H I X):x.l.length≤9223372036854775807∧∃ a c,w = .slice a x.l.length c:=by
 rcases h with ⟨_,⟨a,rfl⟩,xs,⟨a',c,e,h2,h3,h4,_⟩,_⟩|⟨xs,h,_⟩
 ·exact⟨by unfold maxLen at h4;omega,_,_,rfl⟩
 ·obtain⟨a,c,rfl⟩:=h.shape
  exact⟨h.le,_,_,j0⟩
section rules
variable {P:Program}{C:Ctx}{N:Nat}{σ:o8}{H:j8}{d:Option Nat}{ty:TypeId}{ps:String}{af:Array Edge}{g:Option (Nat×Bool)}{K:AV→Prop}{KH:AV→j8→Prop}{x y z:Operand}{T T2 E S D U:TypeId}{o:Oper}
theorem OpP.raw {s:O5}(h:OpP P N C o σ H (fun r=>r = .v s))(k:K (.raw s.v)):OpP P N C o σ H K:=fun ρ I L hs a w ha hm=>by
 refine(h ρ I L hs a w ha hm).mono ?_
 rintro v w' ⟨J,X,q1,q2,q3,q4,q5,q6,r,q7,rfl⟩
 obtain⟨cs,⟨rfl,_⟩,rfl⟩:=q7
 exact⟨J,X,q1,q2,q3,q4,q5,q6,.raw s.v,j0,k⟩
theorem OpP.ldR {α:Type}{r:u3 α}{w:Value}{l:j9 α O5}{a:α}{bb:Bool}{F:Bool×C3→j8}(f:α→O5)(tT:K1 P T O5)(hx:G5 C σ H x (.ln w l))(hH:H9 H (bb,.ob w a) F)(hf:∀ x,l.get x=f x)(k:K (.raw (f a).v)) :
    OpP P N C ⟨d,.load T x,ty,ps,af,g⟩ σ H K := .raw (.ldF f tT hx hH hf rfl) k
theorem G5.gs {α:Type}{r:u3 α}{t:Nat}{w:Value}{s:GS α}{b:Bool}{F:Bool×C3→j8}(ht:F6 σ t=some (.raw w))(hH:H9 H (b,.P4 w s) F):G5 C σ H (.tmp t) (.v (O5.mk w)):=fun ρ I L hs=>by
 obtain⟨u,h1,rfl⟩:=hs.env t _ ht
 obtain⟨i,X,h2,h3,_⟩:=hH.get hs.heap
 exact⟨_,h1,[u],⟨j0,c2j h3.1⟩,j0⟩
theorem EvL.gs {α:Type}{r:u3 α}{t:Nat}{w:Value}{s:GS α}{b:Bool}{F:Bool×C3→j8}(ht:F6 σ t=some (.raw w))(hH:H9 H (b,.P4 w s) F):EvL C σ H (.tmp t) (.v s.l):=fun ρ I L hs=>by
 obtain⟨u,h1,rfl⟩:=hs.env t _ ht
 obtain⟨i,X,h2,h3,_⟩:=hH.get hs.heap
 exact⟨_,h1,fun J hle hp=>a79 h3.1 hle (fun p hpx=>hp p (G3 h2 hpx))⟩
theorem OpP.c6E {α:Type}{r:u3 α}{t:Nat}{w:Value}{s:GS α}{b:Bool}{F:Bool×C3→j8}(hT:P.underlying T=some (.slice E))(hx:F6 σ t=some (.raw w))(hH:H9 H (b,.P4 w s) F)(k:K (.v (s.l.length:Int))) :
    OpP P N C ⟨d,.call ⟨.builtin .len,#[.tmp t],#[T]⟩,ty,ps,af,g⟩ σ H K :=
  .vk k (fun ρ I L hs=>by
    obtain⟨u,h1,rfl⟩:=hs.env t _ hx
    obtain⟨i,X,h2,h3,_⟩:=hH.get hs.heap
    obtain⟨hle,a,c,rfl⟩:=c9H h3.1
    exact .len hT h1 ⟨_,⟨rfl,by omega,by omega⟩,rfl⟩)
theorem wpA.b8v {Q:Exit→o8→j8→Prop}{α:Type}{r:u3 α}{w:Value}{s:GS α}{b:Bool}{c:Code}{F:Bool×C3→j8}(hH:H9 H (b,.P4 w s) F)(k1:wpA P C N c Q σ (F (b,.fz w (.vc s.l))))(k2:wpA P C N c Q σ (F (b,.own s.E w s.l))):wpA P C N c Q σ H:=fun ρ I L hs=>by
 obtain⟨i,X,h2,h3,h4⟩:=hH.get hs.heap
 have hset:L.set i X=L:=by
  obtain⟨hi,e⟩:=List.getElem?_eq_some_iff.1 h2
  rw [←e,List.set_getElem_self]
 rcases h3.1 with h|h
 ·have:=h4 I (b,.fz w (.vc s.l)) X (Le.refl I) ⟨h,h3.2⟩
  rw [hset] at this
  exact k1 ρ I L ⟨hs.env,this,hs.U9⟩
 ·have:=h4 I (b,.own s.E w s.l) X (Le.refl I) ⟨h,h3.2⟩
  rw [hset] at this
  exact k2 ρ I L ⟨hs.env,this,hs.U9⟩
theorem wpA.c9I {Q:Exit→o8→j8→Prop}(hC:Ctx.Ok C){α:Type}{r:u3 α}{w:Value}{s:GS α}{c:Code}{F:Bool×C3→j8}(hH:H9 H (true,.P4 w s) F)(k:wpA P C N c Q σ (F (true,.fz w (.v s.l)))):wpA P C N c Q σ H:=fun ρ I L hs=>by
 obtain⟨i,X,h1,h2,h3⟩:=hH.get hs.heap
 refine .freeze i h1 (a3F hC h2) fun J hle hp=>k ρ J _ ⟨(hs.mono hle).env,h3 J _ [] hle ⟨⟨rfl,a79 h2.1 hle hp⟩,by simp⟩,hs.U9.trans hle⟩
theorem wpA.name {Q:Exit→o8→j8→Prop}(t:Nat){a:AV}{c:Code}(ht:F6 σ t=some a)(k:∀ w,wpA P C N c Q ((t,.raw w)::σ) ((true,.fz w a)::H)):wpA P C N c Q σ H:=fun ρ I L hs=>by
 obtain⟨u,h1,h2⟩:=hs.env t _ ht
 refine wpS.pad (k u ρ I ([]::L) ⟨fun s b hb => ?_,⟨[],L,rfl,⟨⟨rfl,h2⟩,fun _ p hp=>by cases hp⟩,hs.heap⟩,hs.U9⟩)
 rw [G7] at hb
 by_cases e:t=s
 ·subst e;simp at hb;subst hb;exact⟨u,h1,rfl⟩
 ·rw [if_neg e] at hb;exact hs.env s b hb
theorem G5.fzA {t:Nat}{w:Value}{a:AV}{b:Bool}{F:Bool×C3→j8}(ht:F6 σ t=some (.raw w))(hH:H9 H (b,.fz w a) F):G5 C σ H (.tmp t) a:=fun ρ I L hs=>by
 obtain⟨u,h1,rfl⟩:=hs.env t _ ht
 obtain⟨i,X,h2,h3,_⟩:=hH.get hs.heap
 exact⟨_,h1,h3.1.2⟩
theorem G5.fzC {α:Type}{r:u3 α}{t:Nat}{w:Value}{l:List α}{b:Bool}{F:Bool×C3→j8}(ht:F6 σ t=some (.raw w))(hH:H9 H (b,.fz w (.vc l)) F):G5 C σ H (.tmp t) (.v l):=fun ρ I L hs=>by
 obtain⟨u,h1,rfl⟩:=hs.env t _ ht
 obtain⟨i,X,h2,h3,_⟩:=hH.get hs.heap
 exact⟨_,h1,[u],⟨u,j0,h3.1.2.2⟩,j0⟩
theorem wpA.conv {Q:Exit→o8→j8→Prop}(t:Nat){a:AV}(a':AV){c:Code}(ht:F6 σ t=some a)(h:∀ n0 I L u,T4 n0 I H L→F9 I a u→F9 I a' u)(k:wpA P C N c Q ((t,a')::σ) H):wpA P C N c Q σ H:=fun ρ I L hs=>by
 refine k ρ I L ⟨fun s b hb => ?_,hs.heap,hs.U9⟩
 rw [G7] at hb
 by_cases e:t=s
 ·subst e;simp at hb;subst hb
  obtain⟨u,h1,h2⟩:=hs.env t _ ht
  exact⟨u,h1,h _ I L u hs.heap h2⟩
 ·rw [if_neg e] at hb;exact hs.env s b hb
theorem wpA.c9J {Q:Exit→o8→j8→Prop}(t:Nat){a A B:AV}(f:Value→Value→AV){c:Code}(h:∀ I u,F9 I a u→∃ x y,F9 I (f x y) u∧F9 I A x∧F9 I B y)(ht:F6 σ t=some a)
    (k:∀ x y,wpA P C N c Q ((t,f x y)::σ) ((true,.fz x A)::(true,.fz y B)::H)):wpA P C N c Q σ H:=fun ρ I L hs=>by
  obtain⟨u,h1,h2⟩:=hs.env t _ ht
  obtain⟨x,y,h3,h4,h5⟩:=h I u h2
  refine wpS.pad (wpS.pad (k x y ρ I ([] :: []::L) ⟨fun s b hb => ?_,⟨[],_,rfl,⟨⟨rfl,h4⟩,fun _ p hp=>by cases hp⟩,⟨[],L,rfl,⟨⟨rfl,h5⟩,fun _ p hp=>by cases hp⟩,hs.heap⟩⟩,hs.U9⟩))
  rw [G7] at hb
  by_cases e:t=s
  · subst e;simp at hb;subst hb;exact⟨u,h1,h3⟩
  · rw [if_neg e] at hb;exact hs.env s b hb
theorem c45 {α:Type}{r:u3 α}{i0:Inhabited α}{by_:Nat}{l m:List α}{ρ:Env}{I:Im}{L:Lh}{v:Value}{xs news:List Value}{a0:Option Addr}(st:SlT P T E α by_)(hU:(∃ E2,P.underlying U=some (.slice E2))∨P.underlying U=some .string)
    (h1:ev ρ x=some (.slice a0 l.length l.length))(hsl:Sl I (u3.size α) (.slice a0 l.length l.length) l.length xs)(hrl:P2 I l xs)(h2:ev ρ y=some v)(h3:Src P I L (u3.size α) v m.length news)(h4:P2 I m news)
    (hb:(l.length+m.length)*by_≤140737488355328)(hn:l.length+m.length≤9223372036854775807) :
    OpX P N ⟨d,.call ⟨.builtin .append,#[x,y],#[T,U]⟩,ty,ps,af,g⟩ ρ I L (fun v' J X=>J=I∧((X = []∧m = []∧v' = .slice a0 l.length l.length)∨∃ Y,X = [Y]∧a0Q E (u3.size α) v' (l.length+m.length) (xs++news) Y)):=by
  obtain⟨inf,zv,e1,e2,e3,e4,e5⟩:=st.elt.info
  refine OpX.push fun a w ha hm => ?_
  have hcells:∀ w',w'.heap=w.heap→(Builtin.firstCells inf.size m.length v).run P w' = .ok news.toArray w':=fun w' hw=>by
    have hm':Mem I L w':=⟨by rw [hw];exact hm.im,by rw [hw];exact hm.loc,hm.sep,hm.nodup⟩
    have:=h3.cells w' hm' m.length (Nat.le_refl _)
    rw [←h3.size,List.take_length,←e3] at this;exact this
  have hboth:(l.length+m.length≤l.length→(Builtin.append_ #[T,U] ty #[.slice a0 l.length l.length,v]).run P w=((match a0 with|some ad=>storeCells (ad.add (l.length*inf.size)) news|none=>pure ()).run P w).andThen fun _ w' => .ok (.slice a0 (l.length+m.length) l.length) w') ∧
    (l.length < l.length+m.length→∀ olds,((Builtin.firstCells inf.size l.length (.slice a0 l.length l.length)).run P w.drew = .ok olds w.drew) →
      (Builtin.append_ #[T,U] ty #[.slice a0 l.length l.length,v]).run P w = .ok (.slice (some ⟨w.heap.size,0,none⟩) (l.length+m.length) (grownCap w (l.length+m.length) l.length E))
        (w.drew.alloc (.cells (olds++news.toArray++Builtin.zeroCells zv.cells (grownCap w (l.length+m.length) l.length E - (l.length+m.length))) E))):=by
    rcases hU with ⟨E2,hU⟩|hU
    · exact a2e st.elt.und e1 e2 hU h3.len hcells hn (by rw [e4];exact hb)
    · exact a1w st.elt.und e1 e2 hU h3.len hcells hn (by rw [e4];exact hb)
  have hop:∀ r,(Builtin.append_ #[T,U] ty #[.slice a0 l.length l.length,v]).run P w=r→(execOp a.eval ⟨d,.call ⟨.builtin .append,#[x,y],#[T,U]⟩,ty,ps,af,g⟩).run P w=r.andThen fun v w' => .ok (.value v) w':=fun r hr=>by
    simp [execOp,resolve,invoke,builtin,ha.ev h1,ha.ev h2,hr]
  by_cases h0:m.length=0
  · have hm0:m = []:=List.eq_nil_of_length_eq_zero h0
    subst hm0
    have hnw:news = []:=by simpa [P2] using h4
    subst hnw
    left
    refine⟨.slice a0 l.length l.length,?_,j0,.inl ⟨j0,j0,j0⟩⟩
    rw [hop _ (hboth.1 (by simp))]
    cases a0<;>simp [storeCells]
  · right
    have hold:(Builtin.firstCells inf.size l.length (.slice a0 l.length l.length)).run P w.drew = .ok xs.toArray w.drew:=by
      have hm':Mem I L w.drew:=⟨hm.im,hm.loc,hm.sep,hm.nodup⟩
      have:=(Src.sl (P:=P) (L:=L) hsl).cells w.drew hm' l.length (Nat.le_refl _)
      rw [←hsl.len,List.take_length,←e3] at this;exact this
    have hr:=hboth.2 (by omega) _ hold
    have hge:=grownCap_ge w (l.length+m.length) l.length E
    have hcm:grownCap w (l.length+m.length) l.length E≤maxLen:=grownCap_le_maxLen w _ _ E (by unfold maxLen;omega)
    refine⟨.slice (some ⟨w.heap.size,0,none⟩) (l.length+m.length) (grownCap w (l.length+m.length) l.length E),w.drew.alloc (.cells (xs.toArray++news.toArray++Builtin.zeroCells zv.cells (grownCap w (l.length+m.length) l.length E - (l.length+m.length))) E),
      .cells (xs.toArray++news.toArray++Builtin.zeroCells zv.cells (grownCap w (l.length+m.length) l.length E - (l.length+m.length))) E,by rw [hop _ hr];rfl,rfl,rfl,rfl,rfl,rfl,.inr ⟨_,rfl,?_⟩⟩
    have hxl:xs.length=l.length*u3.size α:=hsl.len
    have hnl:news.length=m.length*u3.size α:=h3.size
    refine .inr ⟨w.heap.size,grownCap w (l.length+m.length) l.length E,(Builtin.zeroCells zv.cells (grownCap w (l.length+m.length) l.length E - (l.length+m.length))).toList,(0,0),j0,?_,?_,?_,hge,hcm,.inl j0⟩
    · congr 3
      apply Array.ext';simp
    · rw [List.length_append,hxl,hnl,Nat.add_mul]
    · have hz:(Builtin.zeroCells zv.cells (grownCap w (l.length+m.length) l.length E - (l.length+m.length))).size=(grownCap w (l.length+m.length) l.length E - (l.length+m.length))*u3.size α:=by
        rw [size_zeroCells,e5]
      simp only [List.length_append,Array.length_toList,hz,hxl,hnl,←Nat.add_mul]
      congr 1;omega
theorem OpH.a5i {α:Type}{r:u3 α}{i0:Inhabited α}{by_ t:Nat}{w:Value}{l m:List α}{bb:Bool}{F:Bool×C3→j8}(st:SlT P T E α by_)(hU:(∃ E2,P.underlying U=some (.slice E2))∨P.underlying U=some .string)(hx:F6 σ t=some (.raw w))
    (hH:H9 H (bb,.P4 w (GS.mk E l)) F)(hy:a5Y P C σ H y m)(hb:(l.length+m.length)*by_≤140737488355328)(hn:l.length+m.length≤9223372036854775807)(k:∀ w',KH (.raw w') (F (bb,.P4 w' (GS.mk E (l++m))))) :
    OpH P C N ⟨d,.call ⟨.builtin .append,#[.tmp t,y],#[T,U]⟩,ty,ps,af,g⟩ σ H KH:=fun ρ I L hs=>by
  obtain⟨u,h1,rfl⟩:=hs.env t _ hx
  obtain⟨v,news,h2,h3,h4⟩:=hy ρ I L hs
  obtain⟨j,X,h5,h6,h7⟩:=hH.get hs.heap
  have hfr:=h6.2
  have hall : (n0 : Nat) → n0 = C.w0.heap.size → ∀ v' J (X' : List (Nat × Obj)), J = I → (C3.P4 v' (GS.mk E (l ++ m))).a0H J X' → (∀ p ∈ X', p.1 ∈ X.map Prod.fst ∨ C.w0.heap.size ≤ p.1) →
      Le I J∧∃ r H',F9 J r v'∧T4 C.w0.heap.size J H' (L.set j X')∧KH r H':=fun n0 hn0 v' J X' hJ hbr hnew=>by
    subst hJ
    refine⟨Le.refl J,.raw v',_,j0,h7 J (bb,.P4 v' (GS.mk E (l++m))) X' (Le.refl J) ⟨hbr,fun hbb p hp => ?_⟩,k v'⟩
    rcases hnew p hp with h|h
    · obtain⟨q,hq,hqe⟩:=List.mem_map.1 h
      rw [←hqe];exact hfr hbb q hq
    · exact h
  have hal:=hall _ rfl
  rcases h6.1 with ⟨rfl,⟨a0,rfl⟩,xs,hsl,hrl⟩|⟨xs,h8,h9⟩
  · intro a w0 ha hst
    refine Yld.mono (c45 (x := .tmp t) st hU (show ev ρ (.tmp t)=_ from h1) hsl hrl h2 h3 h4 hb hn a w0 ha hst.mem) ?_
    rintro v' w' ⟨J,X',q1,q2,q3,q4,q5,rfl,⟨rfl,rfl,rfl⟩|⟨Y,rfl,hown⟩⟩
    · have hset:L.set j []=L:=by
        obtain⟨hi,e⟩:=List.getElem?_eq_some_iff.1 h5
        rw [←e,List.set_getElem_self]
      have h10:=hal _ J [] rfl (by rw [List.append_nil];exact .inl ⟨rfl,⟨_,rfl⟩,xs,hsl,hrl⟩) (by simp)
      rw [hset] at h10
      exact⟨J,_,hst.step q1 q2 q3 q4 q5,by simpa using h10⟩
    · have hstep:=hst.step q1 q2 q3 q4 q5
      refine⟨J,L.set j Y,a4o hstep (by simpa using W9 h5 Y),hal _ J Y rfl (.inr ⟨xs++news,by rw [List.length_append];exact hown,hrl.append h4⟩) fun p hp => .inr (Nat.le_trans hst.W4.size (q5 p (by simpa using hp)))⟩
  · intro a w0 ha hst
    refine Yld.mono (OpS.b2E (K:=fun v' J L'=>∃ X',L'=L.set j X'∧J=I∧a0Q E (u3.size α) v' (l.length+m.length) (xs++news) X'∧(∀ p∈X',p.1∈X.map Prod.fst∨C.w0.heap.size≤p.1)) j st.elt st.pos hU (x := .tmp t) h1 h2 h5 h8 h3 h4.flat (by unfold maxLen;omega) hb (fun v' X' ho hn=>⟨X',rfl,rfl,ho,hn⟩) a w0 ha hst) ?_
    rintro v' w' ⟨J,L',hst',X',rfl,rfl,ho,hnew⟩
    exact⟨J,_,hst',hal v' J X' rfl (.inr ⟨xs++news,by rw [List.length_append];exact ho,h9.append h4⟩) hnew⟩
end rules
def P6 (H:j8)(Hs:List C3):Prop:=∀ n0 I L,T4 n0 I H L→∃ L' R,(L'.flatten++R).Perm L.flatten∧Q9 I Hs L'
theorem P6.nil {H:j8}:P6 H []:=fun n0 I L h=>⟨[],L.flatten,by simp,rfl⟩
theorem P6.cons {H:j8}{b:Bool}{B:C3}{Hs:List C3}{F:Bool×C3→j8}(hh:H9 H (b,B) F)(h:P6 (F a1n) Hs):P6 H (B::Hs):=fun n0 I L hL=>by
 obtain⟨i,X,h1,h2,h3⟩:=hh.get hL
 have h4:=h3 I a1n [] (Le.refl I) ⟨⟨rfl,trivial⟩,fun _ p hp=>by cases hp⟩
 obtain⟨L',R,h5,h6⟩:=h n0 I _ h4
 refine⟨X::L',R,?_,X,L',j0,h2.1,h6⟩
 have h7:(L.set i [])[i]?=some []:=by
  have hi:=(List.getElem?_eq_some_iff.1 h1).1
  simp [hi]
 have h8:=W9 h7 X
 have h9:(L.set i []).set i X=L:=by
  obtain⟨hi,e⟩:=List.getElem?_eq_some_iff.1 h1
  rw [List.set_set,←e,List.set_getElem_self]
 rw [h9] at h8
 rw [List.flatten_cons,List.append_assoc]
 exact(List.Perm.append_left X h5).trans h8.symm
theorem P6.gs {H:j8}{b:Bool}{α:Type}{r:u3 α}{w:Value}{s:GS α}{Hs:List C3}{F:Bool×C3→j8}{B:C3}(hB:∀ I X,B.a0H I X→(C3.P4 w s).a0H I X)(hh:H9 H (b,B) F)(h:P6 (F a1n) Hs):P6 H (.P4 w s::Hs):=fun n0 I L hL=>by
 obtain⟨L',R,h1,X,L2,rfl,h2,h3⟩:=P6.cons hh h n0 I L hL
 exact⟨X::L2,R,h1,X,L2,j0,hB I X h2,h3⟩
theorem P6.gsC {H:j8}{b:Bool}{α:Type}{r:u3 α}{w:Value}{s:GS α}{Hs:List C3}{F:Bool×C3→j8}(hh:H9 H (b,.fz w (.vc s.l)) F)(h:P6 (F a1n) Hs):P6 H (.P4 w s::Hs) := .gs (B := .fz w (.vc s.l)) (fun I X h => .inl h) hh h
theorem P6.gsO {H:j8}{b:Bool}{α:Type}{r:u3 α}{w:Value}{s:GS α}{Hs:List C3}{F:Bool×C3→j8}(hh:H9 H (b,.own s.E w s.l) F)(h:P6 (F a1n) Hs):P6 H (.P4 w s::Hs) := .gs (B := .own s.E w s.l) (fun I X h => .inr h) hh h
theorem C6.a0k {G:Gl}{P:Program}{f:FuncId}{fn:Func}{c:Code}{ags:List AV}{Hs:List C3}{post:AV→List C3→Prop}(hf:P.funcs[f]?=some fn)(hb:fn.body=some c)(hn:(fn.name == "runtime.NumGoroutine")=false)
    (N:Nat)(hN:fn.ntmps=N)(hl:Nat.ble ags.length N=true)(σ:o8)(hσ:a95 ags 0=σ)(H0:j8)(hH:a6X Hs=H0)
    (h:∀ C:Ctx,Ctx.Ok C→G.p C.I0→wpA P C N c (a5X P fn C (fun r H=>∃ Hs',P6 H Hs'∧post r Hs')) σ H0):C6 G P f ags Hs post:=fun I L vs hG hvs hL =>
  ⟨⟨fn,hf,hn,by simp [hb]⟩,fun w hm=>a1R hf hb N hN (by rw [hvs.len];exact hl) hm (M:=L.flatten.map Prod.fst) (fun p hp=>List.mem_map_of_mem hp)
    ((h ⟨w, L.flatten.map Prod.fst, I, none⟩ (fun k hk => by
        obtain⟨p,hp,rfl⟩:=List.mem_map.1 hk
        exact D7 (hm.loc p hp)) hG (a1a vs 0) I L ⟨by rw [←hσ];exact hvs.env 0,by rw [←hH,a5e];exact hL.toH,Le.refl I⟩).mono fun e ρ J L hq=>a5X.q hq)
    fun v J L' w' hs hp=>by
      obtain⟨r,H,h1,h2,Hs',h3,h4⟩:=hp
      obtain⟨L2,R,h5,h6⟩:=h3 _ J L' h2
      have hin:∀ p∈L2.flatten,p∈L'.flatten:=fun p hp=>h5.mem_iff.1 (List.mem_append_left _ hp)
      refine⟨v,J,L2,j0,hs.W4,hs.U9,fun b h0 h1=>hs.new b h0 h1,⟨hs.mem.im,fun p hp=>hs.mem.loc p (hin p hp),fun p hp=>hs.mem.sep p (hin p hp),?_⟩,fun p hp=>hs.own p (hin p hp),r,_,h1,h6,h4⟩
      have:=(h5.map Prod.fst).nodup_iff.2 hs.mem.nodup
      rw [List.map_append,List.nodup_append] at this
      exact this.1⟩
theorem C6.mono {G:Gl}{P:Program}{f:FuncId}{ags:List AV}{Hs:List C3}{post post':AV→List C3→Prop}(h:C6 G P f ags Hs post)(hp:∀ r Hs,post r Hs→post' r Hs):C6 G P f ags Hs post':=fun I L vs hG hvs hL=>by
 have hM:=h I L vs hG hvs hL
 refine⟨hM.ok,fun w hm=>(hM.run w hm).mono ?_⟩
 rintro e w' ⟨v,J,L',rfl,q1,q2,q3,q4,q5,r,Hs',q6,q7,q8⟩
 exact⟨v,J,L',j0,q1,q2,q3,q4,q5,r,Hs',q6,q7,hp r Hs' q8⟩
theorem C4.gs {G:Gl}{P:Program}{f:FuncId}{ags:List AV}{α:Type}[r:u3 α]{l:List α}(E:TypeId)(h:C4 G P f ags (fun r=>r = .vc l)):C6 G P f ags [] (fun r Hs=>∃ u,r = .raw u∧Hs = [.P4 u (GS.mk E l)]):=fun I L vs hG hvs hL=>by
 have hL0:L = []:=hL
 subst hL0
 have hF:=h I vs hG hvs
 refine⟨hF.ok,fun w hm=>(hF.run w hm).mono ?_⟩
 rintro e w' ⟨v,J,rfl,q1,q2,q3,q4,r,q5,rfl⟩
 exact⟨v,J,[[]],rfl,by simpa using q1,q2,q3,⟨q4.im,by simp,by simp,by simp⟩,by simp,.raw v,[.P4 v (GS.mk E l)],rfl,⟨[],[],rfl,.inl ⟨rfl,q5⟩,rfl⟩,v,rfl,rfl⟩
theorem C6.a2J {G:Gl}{P:Program}{f:FuncId}{ags:List AV}{B0:List C3}{post:AV→List C3→Prop}
    (h:∀ I L vs,T5 I ags vs→Q9 I B0 L→∃ as' Bs L0,L0.flatten=L.flatten∧T5 I as' vs∧Q9 I Bs L0∧C6 G P f as' Bs (fun r Hs=>∀ J L1,Q9 J Hs L1→∃ Hs2 L2,L2.flatten=L1.flatten∧Q9 J Hs2 L2∧post r Hs2)):C6 G P f ags B0 post:=fun I L vs hG hvs hL=>by
  obtain⟨as',Bs,L0,e,hvs',hB,hF⟩:=h I L vs hvs hL
  have hM:=hF I L0 vs hG hvs' hB
  refine⟨hM.ok,fun w hm=>(hM.run w ⟨hm.im,by rw [e];exact hm.loc,by rw [e];exact hm.sep,by rw [e];exact hm.nodup⟩).mono ?_⟩
  rintro e' w' ⟨v,J,L',rfl,q1,q2,q3,q4,q5,r,Hs',q6,q7,q8⟩
  obtain⟨Hs2,L2,e2,q9,q10⟩:=q8 J L' q7
  rw [e] at q1 q5
  exact⟨v,J,L2,rfl,q1,q2,q3,⟨q4.im,by rw [e2];exact q4.loc,by rw [e2];exact q4.sep,by rw [e2];exact q4.nodup⟩,by rw [e2];exact q5,r,Hs2,q6,q9,q10⟩
end Go.Ab
namespace Go.Ab
open Go.Fl Go.RowKit
open u3 (rep)
structure PtV where
 o:Option (Nat×Nat)
def PtV.at (b k:Nat):PtV:=⟨some (b,k)⟩
instance:Inhabited PtV:=⟨⟨none⟩⟩
instance:u3 PtV where
 size:=1
 agg:=false
 rep _ x cs:=cs = [match x.o with|none => .pointer none|some p=>ptr p.1 p.2]
 len h:=by simp [h]
 mono _ h:=h
 one _:=rfl
 flat {I x cs} h:=by cases x with|mk f=>cases f<;>simp [h,a0W,Value.oneCell',ptr]
instance:K4 PtV:=⟨[.pointer none],fun _=>rfl⟩
class Exa (α:Type)[u3 α] where
 ex:α→List Value
 ok:α→Prop
 h1:∀ {I:Im} {x:α} {cs},rep I x cs→cs=ex x
 h2:∀ {I:Im} {x:α},ok x→rep I x (ex x)
instance:Exa PtV:=⟨fun x => [match x.o with|none => .pointer none|some p=>ptr p.1 p.2],fun _=>True,id,fun _=>rfl⟩
instance:Exa Int:=⟨fun x => [i64 x],fun x => -9223372036854775808≤x∧x≤9223372036854775807,fun h=>h.1,fun h=>⟨rfl,h⟩⟩
instance:Exa Unit:=⟨fun _ => [],fun _=>True,id,fun _=>rfl⟩
instance {α β:Type}[u3 α][u3 β][Exa α][Exa β]:Exa (α×β):=⟨fun x=>Exa.ex x.1++Exa.ex x.2,fun x=>Exa.ok x.1∧Exa.ok x.2,fun h=>by
 obtain⟨c,r,e,h1,h2⟩:=h
 rw [e,Exa.h1 h1,Exa.h1 h2],fun h=>⟨_,_,rfl,Exa.h2 h.1,Exa.h2 h.2⟩⟩
def b2N (T:TypeId){α:Type}[u3 α][Exa α](x:α):IfV:=⟨some (T,asV (u3.agg α) (Exa.ex x))⟩
@[reducible] def c6F:TypeDesc→Bool
 | .interface _=>true
 | _=>false
section
variable {P:Program}{C:Ctx}{N:Nat}{σ:o8}{H:j8}{x:Operand}{d:Option Nat}{ty T:TypeId}{ps:String}{af:Array Edge}{g:Option (Nat×Bool)}{K:AV→Prop}
theorem G5.ptL {α β:Type}{r:u3 α}{s:u3 β}{b:Nat}{l:j9 α β}(h:G5 C σ H x (.v (PtV.at b l.off))):G5 C σ H x (.ln (ptr b 0) l):=fun ρ I L hs=>by
 obtain⟨u,h1,cs,h2,h3⟩:=h ρ I L hs
 have h2:cs = [ptr b l.off]:=h2
 subst h2
 exact⟨u,h1,b,j0,h3⟩
theorem OpP.mkIf {td:TypeDesc}{α:Type}{r:u3 α}[Exa α]{a:α}(hT:P.underlying T=some td)(hn:c6F td=false)(hx:G5 C σ H x (.v a))(k:K (.v (b2N T a))):OpP P N C ⟨d,.makeInterface T x,ty,ps,af,g⟩ σ H K :=
 .vk k (fun ρ I L hs=>by
  obtain⟨u,h1,cs,h2,rfl⟩:=hx ρ I L hs
  have e:=Exa.h1 h2
  subst e
  refine .mk (v := .iface T (asV (u3.agg α) (Exa.ex a))) ⟨[.iface T (asV (u3.agg α) (Exa.ex a))],j0,j0⟩ fun a w ha hm => ?_
  simp only [execOp,ha.ev h1,Instr.makeInterface,Sem.run_bind,run_underlying hT,Result.andThen_ok]
  cases td<;>first|rfl|cases hn)
end
theorem b4j {T:TypeId}{α:Type}[u3 α][Exa α](x:α)(h:Exa.ok x):∃ v,(b2N T x).v=some (T,v)∧∀ I,F9 I (.v x) v:=⟨_,rfl,fun I=>⟨_,Exa.h2 h,rfl⟩⟩
structure FnC (α:Type) where
 o:Option (FuncId×α)
@[reducible] def FnC.mk' {α:Type}(f:FuncId)(x:α):FnC α:=⟨some (f,x)⟩
instance {α:Type}:Inhabited (FnC α):=⟨⟨none⟩⟩
def FnC.rp {α:Type}[u3 α](I:Im):Option (FuncId×α)→List Value→Prop
 | none,cs=>cs = [.nilFunc]
 | some (f,x),cs=>∃ p,cs = [.func (.func f) #[] #[p]]∧F9 I (.p x) p
instance {α:Type}[u3 α]:u3 (FnC α) where
 size:=1
 agg:=false
 rep I x cs:=FnC.rp I x.o cs
 len {I x cs} h:=by
  rcases x with ⟨_|⟨f,x⟩⟩
  ·cases h;rfl
  ·obtain⟨p,rfl,_⟩:=h;rfl
 mono {I J x cs} hle h:=by
  rcases x with ⟨_|⟨f,x⟩⟩
  ·exact h
  ·obtain⟨p,e,h⟩:=h;exact⟨p,e,h.mono hle⟩
 one _:=rfl
 flat {I x cs} h:=by
  rcases x with ⟨_|⟨f,x⟩⟩
  ·cases h;rfl
  ·obtain⟨p,rfl,_⟩:=h;rfl
instance {α:Type}[u3 α]:K4 (FnC α):=⟨[.nilFunc],fun _=>rfl⟩
structure a3Z (α β:Type) where
 o:Option (FuncId×α×β)
@[reducible] def a3Z.mk' {α β:Type}(f:FuncId)(x:α)(y:β):a3Z α β:=⟨some (f,x,y)⟩
instance {α β:Type}:Inhabited (a3Z α β):=⟨⟨none⟩⟩
def a3Z.rp {α β:Type}[u3 α][u3 β](I:Im):Option (FuncId×α×β)→List Value→Prop
 | none,cs=>cs = [.nilFunc]
 | some (f,x,y),cs=>∃ p q,cs = [.func (.func f) #[] #[p,q]]∧F9 I (.p x) p∧F9 I (.p y) q
instance {α β:Type}[u3 α][u3 β]:u3 (a3Z α β) where
 size:=1
 agg:=false
 rep I x cs:=a3Z.rp I x.o cs
 len {I x cs} h:=by
  rcases x with ⟨_|⟨f,x,y⟩⟩
  ·cases h;rfl
  ·obtain⟨p,q,rfl,_⟩:=h;rfl
 mono {I J x cs} hle h:=by
  rcases x with ⟨_|⟨f,x,y⟩⟩
  ·exact h
  ·obtain⟨p,q,e,h,k⟩:=h;exact⟨p,q,e,h.mono hle,k.mono hle⟩
 one _:=rfl
 flat {I x cs} h:=by
  rcases x with ⟨_|⟨f,x,y⟩⟩
  ·cases h;rfl
  ·obtain⟨p,q,rfl,_⟩:=h;rfl
instance {α β:Type}[u3 α][u3 β]:K4 (a3Z α β):=⟨[.nilFunc],fun _=>rfl⟩
section
variable {P:Program}{C:Ctx}{N:Nat}{σ:o8}{H:j8}{f:FuncId}{args:Array Operand}{d:Option Nat}{ty:TypeId}{ps:String}{af:Array Edge}{g:Option (Nat×Bool)}{K:AV→Prop}
theorem OpP.mkC {α:Type}{r:u3 α}{x:α}(hv:a0I C σ H args.toList [.p x])(k:K (.v (FnC.mk' f x))):OpP P N C ⟨d,.makeFunc (.func f) #[] args,ty,ps,af,g⟩ σ H K := .M1 (.v (FnC.mk' f x)) (fun ρ I L hs=>fun a w ha hm=>by
 obtain⟨vs,h1,p,rs,rfl,h2,h3⟩:=hv.get hs
 have h3:rs = []:=h3
 subst h3
 have e:=ha.evL h1
 have hargs:args.map a.eval = #[p]:=by rw [show #[p] = [p].toArray from rfl,←e];cases args;simp
 exact⟨.func (.func f) #[] #[p],⟨_,⟨p,rfl,h2⟩,rfl⟩,by simp [execOp,Instr.makeFunc,hargs]⟩) k
theorem OpP.d2j {α β:Type}{r:u3 α}{s:u3 β}{x:α}{y:β}(hv:a0I C σ H args.toList [.p x,.p y])(k:K (.v (a3Z.mk' f x y))):OpP P N C ⟨d,.makeFunc (.func f) #[] args,ty,ps,af,g⟩ σ H K := .M1 (.v (a3Z.mk' f x y)) (fun ρ I L hs=>fun a w ha hm=>by
 obtain⟨vs,h1,p,rs,rfl,h2,q,rs',rfl,h3,h4⟩:=hv.get hs
 have h4:rs' = []:=h4
 subst h4
 have e:=ha.evL h1
 have hargs:args.map a.eval = #[p,q]:=by rw [show #[p,q] = [p,q].toArray from rfl,←e];cases args;simp
 exact⟨.func (.func f) #[] #[p,q],⟨_,⟨p,q,rfl,h2,h3⟩,rfl⟩,by simp [execOp,Instr.makeFunc,hargs]⟩) k
end
end Go.Ab
namespace Go.Mac
open Go.Ab
structure y3 where
 Number:Int
 Key:(M4 32 UInt8)
def y3.f (x:y3):Int×(M4 32 UInt8)×Unit:=(x.Number,x.Key,())
instance:Inhabited y3:=⟨⟨default,default⟩⟩
instance:DecidableEq y3:=fun a b=>decidable_of_iff (a.Number=b.Number∧a.Key=b.Key) (by cases a;cases b;simp)
instance:u3 y3:=u3.via y3.f
instance:K4 y3:=K4.via y3.f rfl
def y3.l0:j9 y3 Int:=j9.via y3.f j9.fst (fun x=>x.Number) (fun y x => { x with Number:=y }) (fun _=>rfl) (fun _ _=>rfl)
def y3.l1:j9 y3 (M4 32 UInt8):=j9.via y3.f (j9.snd.comp j9.fst) (fun x=>x.Key) (fun y x => { x with Key:=y }) (fun _=>rfl) (fun _ _=>rfl)
structure D6 where
 Live:(List y3)
 H7:Int
def D6.f (x:D6):(List y3)×Int×Unit:=(x.Live,x.H7,())
instance:Inhabited D6:=⟨⟨default,default⟩⟩
instance:DecidableEq D6:=fun a b=>decidable_of_iff (a.Live=b.Live∧a.H7=b.H7) (by cases a;cases b;simp)
instance:u3 D6:=u3.via D6.f
instance:K4 D6:=K4.via D6.f rfl
def D6.l0:j9 D6 (List y3):=j9.via D6.f j9.fst (fun x=>x.Live) (fun y x => { x with Live:=y }) (fun _=>rfl) (fun _ _=>rfl)
def D6.l1:j9 D6 Int:=j9.via D6.f (j9.snd.comp j9.fst) (fun x=>x.H7) (fun y x => { x with H7:=y }) (fun _=>rfl) (fun _ _=>rfl)
structure o6 where
 Kind:Int
 Mask:UInt64
 a00:Int
 To:Int
 Name:Str
 Number:Int
def o6.f (x:o6):Int×UInt64×Int×Int×Str×Int×Unit:=(x.Kind,x.Mask,x.a00,x.To,x.Name,x.Number,())
instance:Inhabited o6:=⟨⟨default,default,default,default,default,default⟩⟩
instance:DecidableEq o6:=fun a b=>decidable_of_iff (a.Kind=b.Kind∧a.Mask=b.Mask∧a.a00=b.a00∧a.To=b.To∧a.Name=b.Name∧a.Number=b.Number) (by cases a;cases b;simp)
instance:u3 o6:=u3.via o6.f
instance:K4 o6:=K4.via o6.f rfl
def o6.l0:j9 o6 Int:=j9.via o6.f j9.fst (fun x=>x.Kind) (fun y x => { x with Kind:=y }) (fun _=>rfl) (fun _ _=>rfl)
def o6.l1:j9 o6 UInt64:=j9.via o6.f (j9.snd.comp j9.fst) (fun x=>x.Mask) (fun y x => { x with Mask:=y }) (fun _=>rfl) (fun _ _=>rfl)
def o6.l2:j9 o6 Int:=j9.via o6.f (j9.snd.comp (j9.snd.comp j9.fst)) (fun x=>x.a00) (fun y x => { x with a00:=y }) (fun _=>rfl) (fun _ _=>rfl)
def o6.l3:j9 o6 Int:=j9.via o6.f (j9.snd.comp (j9.snd.comp (j9.snd.comp j9.fst))) (fun x=>x.To) (fun y x => { x with To:=y }) (fun _=>rfl) (fun _ _=>rfl)
def o6.l4:j9 o6 Str:=j9.via o6.f (j9.snd.comp (j9.snd.comp (j9.snd.comp (j9.snd.comp j9.fst)))) (fun x=>x.Name) (fun y x => { x with Name:=y }) (fun _=>rfl) (fun _ _=>rfl)
def o6.l5:j9 o6 Int:=j9.via o6.f (j9.snd.comp (j9.snd.comp (j9.snd.comp (j9.snd.comp (j9.snd.comp j9.fst))))) (fun x=>x.Number) (fun y x => { x with Number:=y }) (fun _=>rfl) (fun _ _=>rfl)
structure y1 where
 a0l:Bool
 X3:o6
 U3:Int
 L7:(List UInt8)
 O8:(List UInt8)
def y1.f (x:y1):Bool×o6×Int×(List UInt8)×(List UInt8)×Unit:=(x.a0l,x.X3,x.U3,x.L7,x.O8,())
instance:Inhabited y1:=⟨⟨default,default,default,default,default⟩⟩
instance:DecidableEq y1:=fun a b=>decidable_of_iff (a.a0l=b.a0l∧a.X3=b.X3∧a.U3=b.U3∧a.L7=b.L7∧a.O8=b.O8) (by cases a;cases b;simp)
instance:u3 y1:=u3.via y1.f
instance:K4 y1:=K4.via y1.f rfl
def y1.l0:j9 y1 Bool:=j9.via y1.f j9.fst (fun x=>x.a0l) (fun y x => { x with a0l:=y }) (fun _=>rfl) (fun _ _=>rfl)
def y1.l1:j9 y1 o6:=j9.via y1.f (j9.snd.comp j9.fst) (fun x=>x.X3) (fun y x => { x with X3:=y }) (fun _=>rfl) (fun _ _=>rfl)
def y1.l2:j9 y1 Int:=j9.via y1.f (j9.snd.comp (j9.snd.comp j9.fst)) (fun x=>x.U3) (fun y x => { x with U3:=y }) (fun _=>rfl) (fun _ _=>rfl)
def y1.l3:j9 y1 (List UInt8):=j9.via y1.f (j9.snd.comp (j9.snd.comp (j9.snd.comp j9.fst))) (fun x=>x.L7) (fun y x => { x with L7:=y }) (fun _=>rfl) (fun _ _=>rfl)
def y1.l4:j9 y1 (List UInt8):=j9.via y1.f (j9.snd.comp (j9.snd.comp (j9.snd.comp (j9.snd.comp j9.fst)))) (fun x=>x.O8) (fun y x => { x with O8:=y }) (fun _=>rfl) (fun _ _=>rfl)
structure u9 where
 O0:Int
 M6:Int
 y5:(List y1)
def u9.f (x:u9):Int×Int×(List y1)×Unit:=(x.O0,x.M6,x.y5,())
instance:Inhabited u9:=⟨⟨default,default,default⟩⟩
instance:DecidableEq u9:=fun a b=>decidable_of_iff (a.O0=b.O0∧a.M6=b.M6∧a.y5=b.y5) (by cases a;cases b;simp)
instance:u3 u9:=u3.via u9.f
instance:K4 u9:=K4.via u9.f rfl
def u9.l0:j9 u9 Int:=j9.via u9.f j9.fst (fun x=>x.O0) (fun y x => { x with O0:=y }) (fun _=>rfl) (fun _ _=>rfl)
def u9.l1:j9 u9 Int:=j9.via u9.f (j9.snd.comp j9.fst) (fun x=>x.M6) (fun y x => { x with M6:=y }) (fun _=>rfl) (fun _ _=>rfl)
def u9.l2:j9 u9 (List y1):=j9.via u9.f (j9.snd.comp (j9.snd.comp j9.fst)) (fun x=>x.y5) (fun y x => { x with y5:=y }) (fun _=>rfl) (fun _ _=>rfl)
structure o7 where
 Place:Int
 Kind:Int
 Number:Int
 Node:(M4 32 UInt8)
 O8:(List UInt8)
 Tag:(M4 32 UInt8)
def o7.f (x:o7):Int×Int×Int×(M4 32 UInt8)×(List UInt8)×(M4 32 UInt8)×Unit:=(x.Place,x.Kind,x.Number,x.Node,x.O8,x.Tag,())
instance:Inhabited o7:=⟨⟨default,default,default,default,default,default⟩⟩
instance:DecidableEq o7:=fun a b=>decidable_of_iff (a.Place=b.Place∧a.Kind=b.Kind∧a.Number=b.Number∧a.Node=b.Node∧a.O8=b.O8∧a.Tag=b.Tag) (by cases a;cases b;simp)
instance:u3 o7:=u3.via o7.f
instance:K4 o7:=K4.via o7.f rfl
def o7.l0:j9 o7 Int:=j9.via o7.f j9.fst (fun x=>x.Place) (fun y x => { x with Place:=y }) (fun _=>rfl) (fun _ _=>rfl)
def o7.l1:j9 o7 Int:=j9.via o7.f (j9.snd.comp j9.fst) (fun x=>x.Kind) (fun y x => { x with Kind:=y }) (fun _=>rfl) (fun _ _=>rfl)
def o7.l2:j9 o7 Int:=j9.via o7.f (j9.snd.comp (j9.snd.comp j9.fst)) (fun x=>x.Number) (fun y x => { x with Number:=y }) (fun _=>rfl) (fun _ _=>rfl)
def o7.l3:j9 o7 (M4 32 UInt8):=j9.via o7.f (j9.snd.comp (j9.snd.comp (j9.snd.comp j9.fst))) (fun x=>x.Node) (fun y x => { x with Node:=y }) (fun _=>rfl) (fun _ _=>rfl)
def o7.l4:j9 o7 (List UInt8):=j9.via o7.f (j9.snd.comp (j9.snd.comp (j9.snd.comp (j9.snd.comp j9.fst)))) (fun x=>x.O8) (fun y x => { x with O8:=y }) (fun _=>rfl) (fun _ _=>rfl)
def o7.l5:j9 o7 (M4 32 UInt8):=j9.via o7.f (j9.snd.comp (j9.snd.comp (j9.snd.comp (j9.snd.comp (j9.snd.comp j9.fst))))) (fun x=>x.Tag) (fun y x => { x with Tag:=y }) (fun _=>rfl) (fun _ _=>rfl)
structure l9 where
 F3:(M4 2 (List UInt8))
 B3:Int
 G8:Int
 C7:Int
 a0O:Int
 a3g:Int
 Off:Bool
def l9.f (x:l9):(M4 2 (List UInt8))×Int×Int×Int×Int×Int×Bool×Unit:=(x.F3,x.B3,x.G8,x.C7,x.a0O,x.a3g,x.Off,())
instance:Inhabited l9:=⟨⟨default,default,default,default,default,default,default⟩⟩
instance:u3 l9:=u3.via l9.f
instance:K4 l9:=K4.via l9.f rfl
def l9.l0:j9 l9 (M4 2 (List UInt8)):=j9.via l9.f j9.fst (fun x=>x.F3) (fun y x => { x with F3:=y }) (fun _=>rfl) (fun _ _=>rfl)
def l9.l1:j9 l9 Int:=j9.via l9.f (j9.snd.comp j9.fst) (fun x=>x.B3) (fun y x => { x with B3:=y }) (fun _=>rfl) (fun _ _=>rfl)
def l9.l2:j9 l9 Int:=j9.via l9.f (j9.snd.comp (j9.snd.comp j9.fst)) (fun x=>x.G8) (fun y x => { x with G8:=y }) (fun _=>rfl) (fun _ _=>rfl)
def l9.l3:j9 l9 Int:=j9.via l9.f (j9.snd.comp (j9.snd.comp (j9.snd.comp j9.fst))) (fun x=>x.C7) (fun y x => { x with C7:=y }) (fun _=>rfl) (fun _ _=>rfl)
def l9.l4:j9 l9 Int:=j9.via l9.f (j9.snd.comp (j9.snd.comp (j9.snd.comp (j9.snd.comp j9.fst)))) (fun x=>x.a0O) (fun y x => { x with a0O:=y }) (fun _=>rfl) (fun _ _=>rfl)
def l9.l5:j9 l9 Int:=j9.via l9.f (j9.snd.comp (j9.snd.comp (j9.snd.comp (j9.snd.comp (j9.snd.comp j9.fst))))) (fun x=>x.a3g) (fun y x => { x with a3g:=y }) (fun _=>rfl) (fun _ _=>rfl)
def l9.l6:j9 l9 Bool:=j9.via l9.f (j9.snd.comp (j9.snd.comp (j9.snd.comp (j9.snd.comp (j9.snd.comp (j9.snd.comp j9.fst)))))) (fun x=>x.Off) (fun y x => { x with Off:=y }) (fun _=>rfl) (fun _ _=>rfl)
structure l8 where
 D4:(M4 32 UInt8)
 Ring:D6
 C0:(List u9)
 E4:(List o7)
 Device:l9
 Up:Bool
def l8.f (x:l8):(M4 32 UInt8)×D6×(List u9)×(List o7)×l9×Bool×Unit:=(x.D4,x.Ring,x.C0,x.E4,x.Device,x.Up,())
instance:Inhabited l8:=⟨⟨default,default,default,default,default,default⟩⟩
instance:u3 l8:=u3.via l8.f
instance:K4 l8:=K4.via l8.f rfl
def l8.l0:j9 l8 (M4 32 UInt8):=j9.via l8.f j9.fst (fun x=>x.D4) (fun y x => { x with D4:=y }) (fun _=>rfl) (fun _ _=>rfl)
def l8.l1:j9 l8 D6:=j9.via l8.f (j9.snd.comp j9.fst) (fun x=>x.Ring) (fun y x => { x with Ring:=y }) (fun _=>rfl) (fun _ _=>rfl)
def l8.l2:j9 l8 (List u9):=j9.via l8.f (j9.snd.comp (j9.snd.comp j9.fst)) (fun x=>x.C0) (fun y x => { x with C0:=y }) (fun _=>rfl) (fun _ _=>rfl)
def l8.l3:j9 l8 (List o7):=j9.via l8.f (j9.snd.comp (j9.snd.comp (j9.snd.comp j9.fst))) (fun x=>x.E4) (fun y x => { x with E4:=y }) (fun _=>rfl) (fun _ _=>rfl)
def l8.l4:j9 l8 l9:=j9.via l8.f (j9.snd.comp (j9.snd.comp (j9.snd.comp (j9.snd.comp j9.fst)))) (fun x=>x.Device) (fun y x => { x with Device:=y }) (fun _=>rfl) (fun _ _=>rfl)
def l8.l5:j9 l8 Bool:=j9.via l8.f (j9.snd.comp (j9.snd.comp (j9.snd.comp (j9.snd.comp (j9.snd.comp j9.fst))))) (fun x=>x.Up) (fun y x => { x with Up:=y }) (fun _=>rfl) (fun _ _=>rfl)
structure D8 where
 Key:(M4 32 UInt8)
 Message:(List UInt8)
 Tag:(M4 32 UInt8)
def D8.f (x:D8):(M4 32 UInt8)×(List UInt8)×(M4 32 UInt8)×Unit:=(x.Key,x.Message,x.Tag,())
instance:Inhabited D8:=⟨⟨default,default,default⟩⟩
instance:u3 D8:=u3.via D8.f
instance:K4 D8:=K4.via D8.f rfl
def D8.l0:j9 D8 (M4 32 UInt8):=j9.via D8.f j9.fst (fun x=>x.Key) (fun y x => { x with Key:=y }) (fun _=>rfl) (fun _ _=>rfl)
def D8.l1:j9 D8 (List UInt8):=j9.via D8.f (j9.snd.comp j9.fst) (fun x=>x.Message) (fun y x => { x with Message:=y }) (fun _=>rfl) (fun _ _=>rfl)
def D8.l2:j9 D8 (M4 32 UInt8):=j9.via D8.f (j9.snd.comp (j9.snd.comp j9.fst)) (fun x=>x.Tag) (fun y x => { x with Tag:=y }) (fun _=>rfl) (fun _ _=>rfl)
structure y6 where
 Key:(M4 32 UInt8)
 a6a:Int
 Plain:(List UInt8)
 O8:(List UInt8)
def y6.f (x:y6):(M4 32 UInt8)×Int×(List UInt8)×(List UInt8)×Unit:=(x.Key,x.a6a,x.Plain,x.O8,())
instance:Inhabited y6:=⟨⟨default,default,default,default⟩⟩
instance:u3 y6:=u3.via y6.f
instance:K4 y6:=K4.via y6.f rfl
def y6.l0:j9 y6 (M4 32 UInt8):=j9.via y6.f j9.fst (fun x=>x.Key) (fun y x => { x with Key:=y }) (fun _=>rfl) (fun _ _=>rfl)
def y6.l1:j9 y6 Int:=j9.via y6.f (j9.snd.comp j9.fst) (fun x=>x.a6a) (fun y x => { x with a6a:=y }) (fun _=>rfl) (fun _ _=>rfl)
def y6.l2:j9 y6 (List UInt8):=j9.via y6.f (j9.snd.comp (j9.snd.comp j9.fst)) (fun x=>x.Plain) (fun y x => { x with Plain:=y }) (fun _=>rfl) (fun _ _=>rfl)
def y6.l3:j9 y6 (List UInt8):=j9.via y6.f (j9.snd.comp (j9.snd.comp (j9.snd.comp j9.fst))) (fun x=>x.O8) (fun y x => { x with O8:=y }) (fun _=>rfl) (fun _ _=>rfl)
structure B8 where
 P7:Bool
 a2L:(M4 32 UInt8)
 K9:Int
 G4:(List D8)
 B7:(List y6)
def B8.f (x:B8):Bool×(M4 32 UInt8)×Int×(List D8)×(List y6)×Unit:=(x.P7,x.a2L,x.K9,x.G4,x.B7,())
instance:Inhabited B8:=⟨⟨default,default,default,default,default⟩⟩
instance:u3 B8:=u3.via B8.f
instance:K4 B8:=K4.via B8.f rfl
def B8.l0:j9 B8 Bool:=j9.via B8.f j9.fst (fun x=>x.P7) (fun y x => { x with P7:=y }) (fun _=>rfl) (fun _ _=>rfl)
def B8.l1:j9 B8 (M4 32 UInt8):=j9.via B8.f (j9.snd.comp j9.fst) (fun x=>x.a2L) (fun y x => { x with a2L:=y }) (fun _=>rfl) (fun _ _=>rfl)
def B8.l4:j9 B8 (List y6):=j9.via B8.f (j9.snd.comp (j9.snd.comp (j9.snd.comp (j9.snd.comp j9.fst)))) (fun x=>x.B7) (fun y x => { x with B7:=y }) (fun _=>rfl) (fun _ _=>rfl)
structure y7 where
 a:B8
 b:B8
 x:l8
 y:l8
def y7.f (x:y7):B8×B8×l8×l8×Unit:=(x.a,x.b,x.x,x.y,())
instance:Inhabited y7:=⟨⟨default,default,default,default⟩⟩
instance:u3 y7:=u3.via y7.f
instance:K4 y7:=K4.via y7.f rfl
def y7.l0:j9 y7 B8:=j9.via y7.f j9.fst (fun x=>x.a) (fun y x => { x with a:=y }) (fun _=>rfl) (fun _ _=>rfl)
def y7.l1:j9 y7 B8:=j9.via y7.f (j9.snd.comp j9.fst) (fun x=>x.b) (fun y x => { x with b:=y }) (fun _=>rfl) (fun _ _=>rfl)
def y7.l2:j9 y7 l8:=j9.via y7.f (j9.snd.comp (j9.snd.comp j9.fst)) (fun x=>x.x) (fun y x => { x with x:=y }) (fun _=>rfl) (fun _ _=>rfl)
def y7.l3:j9 y7 l8:=j9.via y7.f (j9.snd.comp (j9.snd.comp (j9.snd.comp j9.fst))) (fun x=>x.y) (fun y x => { x with y:=y }) (fun _=>rfl) (fun _ _=>rfl)
structure y8 where
 L:(List Int)
 At:Int
def y8.f (x:y8):(List Int)×Int×Unit:=(x.L,x.At,())
instance:Inhabited y8:=⟨⟨default,default⟩⟩
instance:u3 y8:=u3.via y8.f
instance:K4 y8:=K4.via y8.f rfl
def y8.l0:j9 y8 (List Int):=j9.via y8.f j9.fst (fun x=>x.L) (fun y x => { x with L:=y }) (fun _=>rfl) (fun _ _=>rfl)
def y8.l1:j9 y8 Int:=j9.via y8.f (j9.snd.comp j9.fst) (fun x=>x.At) (fun y x => { x with At:=y }) (fun _=>rfl) (fun _ _=>rfl)
structure u4 where
 Kind:Int
 Number:Int
 Key:(M4 32 UInt8)
 Node:(M4 32 UInt8)
 M3:u9
 Item:o7
 a2C:(List (M4 32 UInt8))
def u4.f (x:u4):Int×Int×(M4 32 UInt8)×(M4 32 UInt8)×u9×o7×(List (M4 32 UInt8))×Unit:=(x.Kind,x.Number,x.Key,x.Node,x.M3,x.Item,x.a2C,())
instance:Inhabited u4:=⟨⟨default,default,default,default,default,default,default⟩⟩
instance:DecidableEq u4:=fun a b=>decidable_of_iff (a.Kind=b.Kind∧a.Number=b.Number∧a.Key=b.Key∧a.Node=b.Node∧a.M3=b.M3∧a.Item=b.Item∧a.a2C=b.a2C) (by cases a;cases b;simp)
instance:u3 u4:=u3.via u4.f
instance:K4 u4:=K4.via u4.f rfl
def u4.l0:j9 u4 Int:=j9.via u4.f j9.fst (fun x=>x.Kind) (fun y x => { x with Kind:=y }) (fun _=>rfl) (fun _ _=>rfl)
def u4.l1:j9 u4 Int:=j9.via u4.f (j9.snd.comp j9.fst) (fun x=>x.Number) (fun y x => { x with Number:=y }) (fun _=>rfl) (fun _ _=>rfl)
def u4.l2:j9 u4 (M4 32 UInt8):=j9.via u4.f (j9.snd.comp (j9.snd.comp j9.fst)) (fun x=>x.Key) (fun y x => { x with Key:=y }) (fun _=>rfl) (fun _ _=>rfl)
def u4.l3:j9 u4 (M4 32 UInt8):=j9.via u4.f (j9.snd.comp (j9.snd.comp (j9.snd.comp j9.fst))) (fun x=>x.Node) (fun y x => { x with Node:=y }) (fun _=>rfl) (fun _ _=>rfl)
def u4.l4:j9 u4 u9:=j9.via u4.f (j9.snd.comp (j9.snd.comp (j9.snd.comp (j9.snd.comp j9.fst)))) (fun x=>x.M3) (fun y x => { x with M3:=y }) (fun _=>rfl) (fun _ _=>rfl)
def u4.l5:j9 u4 o7:=j9.via u4.f (j9.snd.comp (j9.snd.comp (j9.snd.comp (j9.snd.comp (j9.snd.comp j9.fst))))) (fun x=>x.Item) (fun y x => { x with Item:=y }) (fun _=>rfl) (fun _ _=>rfl)
def u4.l6:j9 u4 (List (M4 32 UInt8)):=j9.via u4.f (j9.snd.comp (j9.snd.comp (j9.snd.comp (j9.snd.comp (j9.snd.comp (j9.snd.comp j9.fst)))))) (fun x=>x.a2C) (fun y x => { x with a2C:=y }) (fun _=>rfl) (fun _ _=>rfl)
structure B5 where
 M6:Int
 O0:Int
 y5:(List y1)
 Tag:(M4 32 UInt8)
def B5.f (x:B5):Int×Int×(List y1)×(M4 32 UInt8)×Unit:=(x.M6,x.O0,x.y5,x.Tag,())
instance:Inhabited B5:=⟨⟨default,default,default,default⟩⟩
instance:u3 B5:=u3.via B5.f
instance:K4 B5:=K4.via B5.f rfl
def B5.l0:j9 B5 Int:=j9.via B5.f j9.fst (fun x=>x.M6) (fun y x => { x with M6:=y }) (fun _=>rfl) (fun _ _=>rfl)
def B5.l1:j9 B5 Int:=j9.via B5.f (j9.snd.comp j9.fst) (fun x=>x.O0) (fun y x => { x with O0:=y }) (fun _=>rfl) (fun _ _=>rfl)
def B5.l2:j9 B5 (List y1):=j9.via B5.f (j9.snd.comp (j9.snd.comp j9.fst)) (fun x=>x.y5) (fun y x => { x with y5:=y }) (fun _=>rfl) (fun _ _=>rfl)
def B5.l3:j9 B5 (M4 32 UInt8):=j9.via B5.f (j9.snd.comp (j9.snd.comp (j9.snd.comp j9.fst))) (fun x=>x.Tag) (fun y x => { x with Tag:=y }) (fun _=>rfl) (fun _ _=>rfl)
structure J8 where
 record:u4
 change:(FnC u9)
def J8.f (x:J8):u4×(FnC u9)×Unit:=(x.record,x.change,())
instance:Inhabited J8:=⟨⟨default,default⟩⟩
instance:u3 J8:=u3.via J8.f
instance:K4 J8:=K4.via J8.f rfl
def J8.l0:j9 J8 u4:=j9.via J8.f j9.fst (fun x=>x.record) (fun y x => { x with record:=y }) (fun _=>rfl) (fun _ _=>rfl)
def J8.l1:j9 J8 (FnC u9):=j9.via J8.f (j9.snd.comp j9.fst) (fun x=>x.change) (fun y x => { x with change:=y }) (fun _=>rfl) (fun _ _=>rfl)
structure G0 where
 record:u4
 change:(a3Z B8 o7)
def G0.f (x:G0):u4×(a3Z B8 o7)×Unit:=(x.record,x.change,())
instance:Inhabited G0:=⟨⟨default,default⟩⟩
instance:u3 G0:=u3.via G0.f
instance:K4 G0:=K4.via G0.f rfl
def G0.l0:j9 G0 u4:=j9.via G0.f j9.fst (fun x=>x.record) (fun y x => { x with record:=y }) (fun _=>rfl) (fun _ _=>rfl)
def G0.l1:j9 G0 (a3Z B8 o7):=j9.via G0.f (j9.snd.comp j9.fst) (fun x=>x.change) (fun y x => { x with change:=y }) (fun _=>rfl) (fun _ _=>rfl)
structure G9 where
 a:B8
 e:Int
def G9.f (x:G9):B8×Int×Unit:=(x.a,x.e,())
instance:u3 G9:=u3.via G9.f
def G9.l0:j9 G9 B8:=j9.via G9.f j9.fst (fun x=>x.a) (fun y x => { x with a:=y }) (fun _=>rfl) (fun _ _=>rfl)
def G9.l1:j9 G9 Int:=j9.via G9.f (j9.snd.comp j9.fst) (fun x=>x.e) (fun y x => { x with e:=y }) (fun _=>rfl) (fun _ _=>rfl)
structure E6 where
 b:(List UInt8)
 e:Int
def E6.f (x:E6):(List UInt8)×Int×Unit:=(x.b,x.e,())
instance:Inhabited E6:=⟨⟨default,default⟩⟩
instance:u3 E6:=u3.via E6.f
instance:K4 E6:=K4.via E6.f rfl
def E6.l0:j9 E6 (List UInt8):=j9.via E6.f j9.fst (fun x=>x.b) (fun y x => { x with b:=y }) (fun _=>rfl) (fun _ _=>rfl)
def E6.l1:j9 E6 Int:=j9.via E6.f (j9.snd.comp j9.fst) (fun x=>x.e) (fun y x => { x with e:=y }) (fun _=>rfl) (fun _ _=>rfl)
structure S4 where
 H:(M4 8 UInt32)
 Rest:(List UInt8)
 Len:Int
def S4.f (x:S4):(M4 8 UInt32)×(List UInt8)×Int×Unit:=(x.H,x.Rest,x.Len,())
instance:u3 S4:=u3.via S4.f
structure C8 where
 n:PtV
 low:Int
 high:Int
def C8.f (x:C8):PtV×Int×Int×Unit:=(x.n,x.low,x.high,())
instance:Inhabited C8:=⟨⟨default,default,default⟩⟩
instance:u3 C8:=u3.via C8.f
instance:K4 C8:=K4.via C8.f rfl
def C8.l0:j9 C8 PtV:=j9.via C8.f j9.fst (fun x=>x.n) (fun y x => { x with n:=y }) (fun _=>rfl) (fun _ _=>rfl)
def C8.l1:j9 C8 Int:=j9.via C8.f (j9.snd.comp j9.fst) (fun x=>x.low) (fun y x => { x with low:=y }) (fun _=>rfl) (fun _ _=>rfl)
def C8.l2:j9 C8 Int:=j9.via C8.f (j9.snd.comp (j9.snd.comp j9.fst)) (fun x=>x.high) (fun y x => { x with high:=y }) (fun _=>rfl) (fun _ _=>rfl)
structure J9 where
 t:PtV
def J9.f (x:J9):PtV×Unit:=(x.t,())
instance:Inhabited J9:=⟨⟨default⟩⟩
instance:u3 J9:=u3.via J9.f
instance:K4 J9:=K4.via J9.f rfl
def J9.l0:j9 J9 PtV:=j9.via J9.f j9.fst (fun x=>x.t) (fun y x => { x with t:=y }) (fun _=>rfl) (fun _ _=>rfl)
structure E7 where
 l:PtV
def E7.f (x:E7):PtV×Unit:=(x.l,())
instance:Inhabited E7:=⟨⟨default⟩⟩
instance:u3 E7:=u3.via E7.f
instance:K4 E7:=K4.via E7.f rfl
def E7.l0:j9 E7 PtV:=j9.via E7.f j9.fst (fun x=>x.l) (fun y x => { x with l:=y }) (fun _=>rfl) (fun _ _=>rfl)
structure K0 where
 b:PtV
def K0.f (x:K0):PtV×Unit:=(x.b,())
instance:Inhabited K0:=⟨⟨default⟩⟩
instance:u3 K0:=u3.via K0.f
instance:K4 K0:=K4.via K0.f rfl
def K0.l0:j9 K0 PtV:=j9.via K0.f j9.fst (fun x=>x.b) (fun y x => { x with b:=y }) (fun _=>rfl) (fun _ _=>rfl)
structure E8 where
 b:(List UInt8)
 used:Int
def E8.f (x:E8):(List UInt8)×Int×Unit:=(x.b,x.used,())
instance:Inhabited E8:=⟨⟨default,default⟩⟩
instance:u3 E8:=u3.via E8.f
instance:K4 E8:=K4.via E8.f rfl
def E8.l0:j9 E8 (List UInt8):=j9.via E8.f j9.fst (fun x=>x.b) (fun y x => { x with b:=y }) (fun _=>rfl) (fun _ _=>rfl)
def E8.l1:j9 E8 Int:=j9.via E8.f (j9.snd.comp j9.fst) (fun x=>x.used) (fun y x => { x with used:=y }) (fun _=>rfl) (fun _ _=>rfl)
structure E9 where
 source:E8
 e:Int
def E9.f (x:E9):E8×Int×Unit:=(x.source,x.e,())
instance:Inhabited E9:=⟨⟨default,default⟩⟩
instance:u3 E9:=u3.via E9.f
instance:K4 E9:=K4.via E9.f rfl
def E9.l0:j9 E9 E8:=j9.via E9.f j9.fst (fun x=>x.source) (fun y x => { x with source:=y }) (fun _=>rfl) (fun _ _=>rfl)
def E9.l1:j9 E9 Int:=j9.via E9.f (j9.snd.comp j9.fst) (fun x=>x.e) (fun y x => { x with e:=y }) (fun _=>rfl) (fun _ _=>rfl)
structure y9 where
 b:(List UInt8)
 used:Int
 e:Int
def y9.f (x:y9):(List UInt8)×Int×Int×Unit:=(x.b,x.used,x.e,())
instance:Inhabited y9:=⟨⟨default,default,default⟩⟩
instance:u3 y9:=u3.via y9.f
instance:K4 y9:=K4.via y9.f rfl
def y9.l0:j9 y9 (List UInt8):=j9.via y9.f j9.fst (fun x=>x.b) (fun y x => { x with b:=y }) (fun _=>rfl) (fun _ _=>rfl)
def y9.l1:j9 y9 Int:=j9.via y9.f (j9.snd.comp j9.fst) (fun x=>x.used) (fun y x => { x with used:=y }) (fun _=>rfl) (fun _ _=>rfl)
def y9.l2:j9 y9 Int:=j9.via y9.f (j9.snd.comp (j9.snd.comp j9.fst)) (fun x=>x.e) (fun y x => { x with e:=y }) (fun _=>rfl) (fun _ _=>rfl)
end Go.Mac
namespace Go.Ab
open Go.Fl Go.RowKit
open u3 (rep)
def c9K (P:Program)(N:Nat)(C:Ctx)(σ0:o8){ι:Type 1}(HT:ι→j8)(acc:List (Nat×AV))(o:Oper)(s:List (Nat×Nat))(r:AV):Prop:=∀ Hp,OpP P N C o (T6 σ0 acc s (J6 o)) (HT Hp) (fun r'=>r'=r)
def prom (P:Program)(N:Nat)(C:Ctx)(σ0:o8){ι:Type 1}(HT:Nat→ι→j8)(accP:List (Nat×AV)):List (Nat×Oper×List (Nat×Nat))→List (Nat×AV)→(List (Nat×AV)→Prop)→Prop
 | [],c,K=>K c
 | (i,o,s)::rest,c,K=>∃ r,c9K P N C σ0 (HT i) (c++accP) o s r∧prom P N C σ0 HT accP rest ((i,r)::c) K
def c47 (ss:List (List (Nat×Nat)))(i:Nat)(L:List Nat):Bool:=match ss[i]? with|some s=>s.all (fun p => !(L.contains p.2))|none=>true
def c9L (ss:List (List (Nat×Nat))):List Nat→Bool
 | []=>true
 | i::r=>c47 ss i (i::r) && !(r.contains i)&&c9L ss r
section
variable (P:Program)(C:Ctx)(N:Nat)(σ0:o8)(bs:Nat→List Bool)(HT:Nat→(j8×(Nat→Bool×C3))→j8)(lps:Nat→List (Nat×Oper×List (Nat×Nat)))(H0:j8)(accP:List (Nat×AV))(al:List (Nat×AT))(F:List (Nat×AV)→j8→j8→Prop)
def c6G:List (Nat×Oper×List (Nat×Nat))→Nat→List (Nat×AV)→j8→j8→Prop
 | [],k,cacc,Zs,Hr=>(∃ f,Hr=c2a (bs k) H0 f 0)∧∀ ws:Nat→Nat,F (cacc++rA ws al) (Zs++(al.map fun p=>p.2.blk (ws p.1))) Hr
 | (i,o,s)::rest,k,cacc,Zs,Hr=>(∃ f,Hr=c2a (bs k) H0 f 0)∧∀ Ys:j8,
  match F7 accP i with
  | none=>OpH P C N o (T6 σ0 (cacc++accP) s (J6 o)) (Zs++(Ys++Hr)) (fun r H'=>∃ Zs' Hr',H'=Zs'++(Ys++Hr')∧prom P N C σ0 HT accP (lps (k+1)) ((i,r)::cacc) (fun c=>c6G rest (k+1) c Zs' Hr'))
  | some r0=>OpH P C N o (T6 σ0 (cacc++accP) s (J6 o)) (Zs++(Ys++Hr)) (fun r H'=>r=r0∧∃ Zs' Hr',H'=Zs'++(Ys++Hr')∧prom P N C σ0 HT accP (lps (k+1)) ((i,r0)::cacc) (fun c=>c6G rest (k+1) c Zs' Hr'))
end
def c8H (ops:Array Oper)(i:Nat):Bool:=match ops[i]? with|some o=>o.guard.isNone|none=>false
def d3z (lps:List (List Nat))(q i:Nat):Prop:=∃ m,m≤q∧i∈lps.getD m []
section
variable {P:Program}{C:Ctx}{N n:Nat}{σ:o8}{bs:Nat→List Bool}{HT:Nat→(j8×(Nat→Bool×C3))→j8}{lps:List (List Nat)}{full:List (Nat×AV)}{F:List (Nat×AV)→j8→j8→Prop}{l:List Oper}{cp:List (Nat×Oper×List (Nat×Nat))}{kA:Nat}{ss:List (List (Nat×Nat))}{al:List (Nat×AT)}{ci:List Nat}{H0:j8}{listed:Array Bool}{cacc c1:List (Nat×AV)}{H Zs Hr:j8}{k:Nat}{ws:Nat→Nat}
end
end Go.Ab
namespace Go.Ab
open Go.Fl Go.RowKit
open u3 (rep)
section rules
variable {P:Program}{C:Ctx}{N:Nat}{σ:o8}{H:j8}{d:Option Nat}{ty:TypeId}{ps:String}{af:Array Edge}{g:Option (Nat×Bool)}{K:AV→Prop}{KH:AV→j8→Prop}{x y z:Operand}{T T2 E S D U:TypeId}{o:Oper}
theorem OpP.slArrPC {β:Type}{n:Nat}{s:u3 β}{ag:Bool}{a:M4 n β}(hn:n≤9223372036854775807)(hf:O7 P T=some (n,u3.size β,ag))(hx:G5 C σ H x (.p a))(k:K (.vc a.l)):OpP P N C ⟨d,.slice T x none none none,ty,ps,af,g⟩ σ H K :=
 .vk k (fun ρ I L hs=>by
  obtain⟨u,h2,b,o,cs,rfl,h3,h4⟩:=hx ρ I L hs
  refine .a9R hf h2 ⟨⟨some ⟨b,o,none⟩,by rw [a.h]⟩,cs,?_,h3⟩
  have hl:=h3.len
  rw [a.h] at hl ⊢
  exact Sl.a3T h4 hl (Nat.le_refl _) (by unfold maxLen;omega))
theorem appendXZ {m n by_:Nat}{ρ:Env}{I:Im}{L:Lh}{zv:Value}{xs:List Value}{a0:Option Addr}(hT:P.underlying T=some (.slice E))(h1:b1e P E by_ zv)(hz1:zv.cells = #[zv])(hone:zv.oneCell'=true)(hU:P.underlying U=some (.int .i64))
    (hx:ev ρ x=some (.slice a0 n n))(hsl:Sl I 1 (.slice a0 n n) n xs)(hy:ev ρ y=some (i64 (m:Int)))(hb:(n+m)*by_≤140737488355328)(hn:n+m≤9223372036854775807) :
    OpX P N ⟨d,.call ⟨.builtin .append,#[x,y],#[T,U]⟩,ty,ps,af,g⟩ ρ I L (fun v' J X=>J=I∧((X = []∧m=0∧v' = .slice a0 n n)∨∃ Y,X = [Y]∧a0Q E 1 v' (n+m) (xs++List.replicate m zv) Y)):=by
  obtain⟨inf,hi,hz,hsz,hs2⟩:=h1.get
  refine OpX.push fun a w ha hm => ?_
  have hzc:∀ q,Builtin.zeroCells zv.cells q=(List.replicate q zv).toArray:=fun q=>by
    apply Array.ext'
    simp [Builtin.zeroCells,hz1,Nat.mod_one]
    rw [List.map_const']
    simp
  have hw:IntKind.wrap .i64 (m:Int)=(m:Int):=wrap_i64 (by omega) (by omega)
  have hm00:¬((m:Int) < 0):=by omega
  have hw0:IntKind.wrap .i64 0=0:=wrap_i64 (by omega) (by omega)
  rw [←hs2] at hb
  have hmb:¬((m:Int)*(inf.bytes:Int)>281474976710656):=by
    have:m*inf.bytes≤(n+m)*inf.bytes:=Nat.mul_le_mul_right _ (by omega)
    have h2:((m*inf.bytes:Nat):Int)≤140737488355328:=Int.ofNat_le.2 (Nat.le_trans this hb)
    rw [Int.natCast_mul] at h2
    omega
  have hmb':¬(281474976710656 < (m:Int)*(inf.bytes:Int)):=hmb
  have hop:∀ r,(Builtin.append_ #[T,U] ty #[.slice a0 n n,i64 (m:Int)]).run P w=r→(execOp a.eval ⟨d,.call ⟨.builtin .append,#[x,y],#[T,U]⟩,ty,ps,af,g⟩).run P w=r.andThen fun v w' => .ok (.value v) w':=fun r hr=>by
    simp [execOp,resolve,invoke,builtin,ha.ev hx,ha.ev hy,hr]
  by_cases hm0:m=0
  · left
    subst hm0
    refine⟨.slice a0 n n,?_,j0,.inl ⟨j0,j0,j0⟩⟩
    rw [hop (.ok (.slice a0 n n) w)]
    · rfl
    · cases a0<;>simp [Builtin.append_,run_underlying hT,run_underlying hU,sizeOf,typeInfo,zeroValue,hi,hz,asInt,asIntOf,hw0,storeCells]
  · right
    have hlt:n < n+m:=by omega
    have hold:(Builtin.firstCells 1 n (.slice a0 n n)).run P w.drew = .ok xs.toArray w.drew:=by
      have hm':Mem I L w.drew:=⟨hm.im,hm.loc,hm.sep,hm.nodup⟩
      have:=(Src.sl (P:=P) (L:=L) hsl).cells w.drew hm' n (Nat.le_refl _)
      rw [←hsl.len,List.take_length] at this;exact this
    have hge:=grownCap_ge w (n+m) n E
    have hcm:grownCap w (n+m) n E≤maxLen:=grownCap_le_maxLen w _ _ E (by unfold maxLen;omega)
    have hfit:¬(281474976710656 < Builtin.nextslicecap (n+m) n*inf.bytes):=by have:=growslice_fits hlt hb;omega
    have hnle:¬(n+m≤n):=by omega
    have h63':¬(9223372036854775807 < ((n:Int)+(m:Int))):=by omega
    have hr : (Builtin.append_ #[T, U] ty #[.slice a0 n n, i64 (m : Int)]).run P w = .ok (.slice (some ⟨w.heap.size, 0, none⟩) (n + m) (grownCap w (n + m) n E))
        (w.drew.alloc (.cells (xs.toArray++(List.replicate m zv).toArray++Builtin.zeroCells zv.cells (grownCap w (n+m) n E - (n+m))) E)):=by
      simp [Builtin.append_,run_underlying hT,run_underlying hU,sizeOf,typeInfo,zeroValue,hi,hz,asInt,asIntOf,hw,hm00,hmb',hnle,h63',hfit,Question.forced,newRow,grownCap,hold,hsz,hzc,hm0]
    refine⟨.slice (some ⟨w.heap.size,0,none⟩) (n+m) (grownCap w (n+m) n E),w.drew.alloc (.cells (xs.toArray++(List.replicate m zv).toArray++Builtin.zeroCells zv.cells (grownCap w (n+m) n E - (n+m))) E),
      .cells (xs.toArray++(List.replicate m zv).toArray++Builtin.zeroCells zv.cells (grownCap w (n+m) n E - (n+m))) E,by rw [hop _ hr];rfl,rfl,rfl,rfl,rfl,rfl,.inr ⟨_,rfl,?_⟩⟩
    have hxl:xs.length=n*1:=hsl.len
    refine .inr ⟨w.heap.size,grownCap w (n+m) n E,(Builtin.zeroCells zv.cells (grownCap w (n+m) n E - (n+m))).toList,(0,0),j0,?_,?_,?_,hge,hcm,.inl j0⟩
    · congr 3
      apply Array.ext';simp
    · rw [List.length_append,hxl,List.length_replicate,Nat.add_mul];omega
    · rw [hzc]
      simp only [List.length_append,hxl,List.length_replicate]
      omega
theorem OpP.appendZC {α:Type}{r:u3 α}{i0:Inhabited α}{by_:Nat}{l:List α}{m:Int}{zv:Value}(hT:P.underlying T=some (.slice E))(h1:b1e P E by_ zv)(hz1:zv.cells = #[zv])(hone:zv.oneCell'=true)(hsz:u3.size α=1)
    (hz:∀ I,rep I (default:α) [zv])(hU:P.underlying U=some (.int .i64))(hx:G5 C σ H x (.vc l))(hy:G5 C σ H y (.v m))(h0:0≤m)(hb:(l.length+m.toNat)*by_≤140737488355328)(hn:l.length+m.toNat≤9223372036854775807)
    (k:K (.v (l++List.replicate m.toNat (default:α)))):OpP P N C ⟨d,.call ⟨.builtin .append,#[x,y],#[T,U]⟩,ty,ps,af,g⟩ σ H K:=fun ρ I L hs=>by
  obtain⟨u,h2,⟨a0,rfl⟩,xs,hsl,hrl⟩:=hx ρ I L hs
  obtain⟨h3,_⟩:=hy.int hs
  have hm:m=((m.toNat:Nat):Int):=by omega
  rw [hm] at h3
  rw [hsz] at hsl
  refine OpX.frz fun a w ha hmm=>(appendXZ hT h1 hz1 hone hU h2 hsl h3 hb hn a w ha hmm).mono ?_
  rintro v' w' ⟨J,X,q1,q2,q3,q4,q5,rfl,hq⟩
  have hrz:∀ J',P2 J' (List.replicate m.toNat (default:α)) (List.replicate m.toNat zv):=fun J'=>by
    have:=a1A (hz J') m.toNat
    have e:∀ n,(List.replicate n [zv]).flatten=List.replicate n zv:=fun n=>by
      induction n with
      | zero=>rfl
      | succ n ih=>rw [List.replicate_succ,List.flatten_cons,ih,List.replicate_succ];rfl
    rwa [e] at this
  refine⟨J,X,q1,q2,q3,q4,q5,fun J' hle hp=>⟨j0,.v (l++List.replicate m.toNat default),?_,k⟩⟩
  rcases hq with ⟨rfl,hm0,rfl⟩|⟨Y,rfl,hown⟩
  · rw [hm0,List.replicate_zero,List.append_nil]
    exact⟨_,⟨_,rfl,xs,by rw [hsz];exact hsl.mono hle,hrl.mono hle⟩,rfl⟩
  · have hown':(C3.own E v' (l++List.replicate m.toNat (default:α))).a0H J Y:=⟨_,by rw [List.length_append,List.length_replicate,hsz];exact hown,hrl.append (hrz J)⟩
    exact O9 hown' hle (fun p hq=>hp p (by simp [hq]))
end rules
section forget
variable {P:Program}{C:Ctx}{N:Nat}{σ:o8}{H:j8}
end forget
def FlatH (r:AV)(Hs:List C3):Prop:=FlatV r∧∀ I J L,Q9 I Hs L→Q9 J Hs L
theorem FlatV.raw {u:Value}:FlatV (.raw u):=fun I J v h=>h
theorem FlatH.own {E:TypeId}{α:Type}[u3 α][a96 α]{u:Value}{l:List α}:FlatH (.raw u) [.own E u l]:=⟨.raw,fun I J L h=>by
 obtain⟨X,R,rfl,⟨xs,h1,h2⟩,h3⟩:=h
 exact⟨X,R,j0,⟨xs,h1,h2.any⟩,h3⟩⟩
section calls
variable {P:Program}{C:Ctx}{N:Nat}{σ:o8}{H:j8}{G:Gl}(hG:G.p C.I0){f:FuncId}{d:Option Nat}{args:Array Operand}{tys:Array TypeId}{ty:TypeId}{ps:String}{af:Array Edge}{g:Option (Nat×Bool)}{ags:List AV}
include hG
theorem OpH.lend0 {post : AV → List C3 → Prop}{K : AV → j8 → Prop}(h : C6 G P f ags [] post)(hv : a6Y C σ H args.toList ags)(hf : ∀ r Hs, post r Hs → FlatH r Hs)(k : ∀ r Hs, post r Hs → K r (Hs.map (fun B => (true, B)) ++ H)) :
    OpH P C N ⟨d,.call ⟨.value (.func f),args,tys⟩,ty,ps,af,g⟩ σ H K:=fun ρ I L hs=>by
  obtain⟨vs,h1,h2⟩:=hv.get hs
  intro a w ha hst
  have hm:=hst.mem
  have hcs:∀ p∈L.flatten,I p.1=none:=hm.sep
  have hle0:Le I (I.with L.flatten):=Im.a03 hcs
  have hM:=h (I.with L.flatten) [] vs (G.mono (hs.U9.trans hle0) hG) (h2 _ hle0 (fun p hp=>Im.a0U hm.nodup hp)) rfl
  have hm2:Mem (I.with L.flatten) [] w:=⟨fun b o hb=>by
    rcases Im.a0g hb with h|h
    · exact hm.loc (b,o) h
    · exact hm.im b o h,by simp,by simp,by simp⟩
  rw [Y0 hM.ok rfl (ha.ev (x := .func f) rfl) (ha.evL h1)]
  refine(hM.run w hm2).mono ?_
  rintro e w' ⟨v,J,L',rfl,hc,hle,hn,hm',hown,r,Hs',q1,q2,q3⟩
  obtain⟨f1,f2⟩:=hf r Hs' q3
  have hlt:∀ p∈L.flatten,p.1 < w.heap.size:=fun p hp=>D7 (hm.loc p hp)
  have hnew:∀ p∈L'.flatten,w.heap.size≤p.1:=fun p hp=>by simpa using hown p hp
  have hmem:Mem I (L'++L) w':=by
    refine⟨fun b o hb=>(hc.block b (D7 (hm.im b o hb)) (by simp)).trans (hm.im b o hb),fun p hp => ?_,fun p hp => ?_,?_⟩
    · simp only [List.flatten_append,List.mem_append] at hp
      rcases hp with hp|hp
      · exact hm'.loc p hp
      · exact(hc.block p.1 (hlt p hp) (by simp)).trans (hm.loc p hp)
    · simp only [List.flatten_append,List.mem_append] at hp
      rcases hp with hp|hp
      · cases hj:I p.1 with
        | none=>rfl
        | some o=>have:=D7 (hm.im p.1 o hj);have:=hnew p hp;omega
      · exact hm.sep p hp
    · simp only [List.flatten_append,List.map_append]
      refine List.nodup_append.2 ⟨hm'.nodup,hm.nodup,?_⟩
      rintro x hx y hy rfl
      obtain⟨p,hp,rfl⟩:=List.mem_map.1 hx
      obtain⟨q,hq,hqe⟩:=List.mem_map.1 hy
      have:=hnew p hp
      have:=hlt q hq
      omega
  refine⟨v,j0,I,L'++L,hst.step (by simpa using hc) (Le.refl I) (fun b h0 h1=>absurd h0 h1) hmem hnew,Le.refl I,r,_,f1 _ _ _ q1,?_,k r Hs' q3⟩
  exact((f2 J I L' q2).toT (fun p hp=>Nat.le_trans hst.W4.size (hnew p hp))).append hs.heap
end calls
end Go.Ab
namespace Go.Fl
open Go.RowKit
theorem b1l {P:Program}{l:Nat}{a:Act}{w:World}{o:Oper}{F:Operand}{args:Array Operand}{tys:Array TypeId}(ho:o.op = .call ⟨.value F,args,tys⟩)
    (hF:a.eval F = .func (.yield l) #[] #[]){vs:List Value}(hv:args.toList.map a.eval=vs):(execOp a.eval o).run P w=(Instr.yield l vs.toArray).run P w:=by
  subst hv
  have hargs:args.map a.eval=(args.toList.map a.eval).toArray:=by cases args;simp
  simp [execOp,ho,resolve,Deferred.ofValue,hF,invoke,callFunc,←hargs]
def a1d (P:Program)(l:Nat)(args:Array Value)(I:Im)(L:Lh)(post:Value→Im→Lh→Prop):Prop :=
 ∀ w,Mem I L w→∃ f tmps assign body,(Instr.yield l args).run P w = .ok (.round l f tmps assign body) w∧RoundIn Fence.wide 0 P l f tmps assign body w fun e w'=>∃ v J L',e = .returned v∧Chg (L.flatten.map Prod.fst) w w'∧Le I J∧a6N w.heap.size I J∧Mem J L' w' ∧
  (∀ p∈L'.flatten,w.heap.size≤p.1∨p.1∈L.flatten.map Prod.fst)∧post v J L'
theorem St.c7z {C:Ctx}{I J:Im}{L:Lh}{w w':World}{i:Nat}{c c':List (Nat×Obj)}(hs:St C I L w)(hc:L[i]?=some c)(hch:Chg (c.map Prod.fst) w w')(hle:Le I J)(hn:a6N w.heap.size I J)(hm':Mem J [c'] w')
    (hown:∀ p∈c',w.heap.size≤p.1∨p.1∈c.map Prod.fst):St C J (L.set i c') w':=by
  have hm:=hs.mem
  have hsplit:=fun c'=>a1t L i c hc c'
  have hlt:∀ p∈L.flatten,p.1 < w.heap.size:=fun p hp=>D7 (hm.loc p hp)
  have hnd:=hm.nodup
  rw [(hsplit c').1] at hnd
  have hoth:∀ p,p∈(L.take i).flatten∨p∈(L.drop (i+1)).flatten→p∈L.flatten∧p.1∉c.map Prod.fst:=by
    intro p hp
    rw [(hsplit c').1]
    simp only [List.map_append,List.nodup_append] at hnd
    rcases hp with hp|hp
    · exact⟨by simp [hp],fun hx=>hnd.2.2 p.1 (List.mem_map_of_mem hp) p.1 (by simp only [List.mem_append];exact .inl hx) rfl⟩
    · exact⟨by simp [hp],fun hx=>hnd.2.1.2.2 p.1 hx p.1 (List.mem_map_of_mem hp) rfl⟩
  have hcas:∀ p∈(L.set i c').flatten,p∈c'∨(p∈(L.take i).flatten∨p∈(L.drop (i+1)).flatten):=by
    intro p hp
    rw [(hsplit c').2] at hp
    simp only [List.mem_append] at hp
    rcases hp with hp|hp|hp
    · exact .inr (.inl hp)
    · exact .inl hp
    · exact .inr (.inr hp)
  have hcM:∀ k∈c.map Prod.fst,k < C.w0.heap.size→k∈C.M:=by
    intro k hk hlt0
    obtain⟨p,hp,rfl⟩:=List.mem_map.1 hk
    rcases hs.own p (G3 hc hp) with h1|h1
    · omega
    · exact h1
  have hchg:Chg C.M C.w0 w':=by
    refine⟨hch.os.trans hs.W4.os,hch.tape.trans hs.W4.tape,hch.output.trans hs.W4.output,Nat.le_trans hs.W4.size hch.size,fun k hk hkm => ?_⟩
    rw [hch.block k (Nat.lt_of_lt_of_le hk hs.W4.size) (fun hx=>hkm (hcM k hx hk))]
    exact hs.W4.block k hk hkm
  refine⟨⟨hm'.im,fun p hp => ?_,fun p hp => ?_,?_⟩,hchg,fun p hp => ?_,hs.U9.trans hle,fun b h0 h1 => ?_⟩
  · rcases hcas p hp with h1|h1
    · exact hm'.loc p (by simpa using h1)
    · obtain⟨h2,h3⟩:=hoth p h1
      exact(hch.block p.1 (hlt p h2) h3).trans (hm.loc p h2)
  · rcases hcas p hp with h1|h1
    · exact hm'.sep p (by simpa using h1)
    · obtain⟨h2,h3⟩:=hoth p h1
      cases hj:J p.1 with
      | none=>rfl
      | some o=>exact absurd (hn p.1 (hm.sep p h2) (by simp [hj])) (by have:=hlt p h2;omega)
  · rw [(hsplit c').2]
    have hc'nd:=hm'.nodup
    simp only [List.map_append,List.nodup_append] at hnd ⊢
    refine⟨hnd.1,⟨by simpa using hc'nd,hnd.2.1.2.1,?_⟩,?_⟩
    · rintro x hx y hy rfl
      obtain⟨p,hp,rfl⟩:=List.mem_map.1 hx
      obtain⟨q,hq,hqe⟩:=List.mem_map.1 hy
      obtain⟨h2,h3⟩:=hoth q (.inr hq)
      rcases hown p hp with h4|h4
      · have:=hlt q h2;omega
      · exact h3 (hqe▸h4)
    · rintro x hx y hy rfl
      obtain⟨q,hq,rfl⟩:=List.mem_map.1 hx
      obtain⟨h2,h3⟩:=hoth q (.inl hq)
      simp only [List.mem_append] at hy
      rcases hy with hy|hy
      · obtain⟨p,hp,hpe⟩:=List.mem_map.1 hy
        rcases hown p hp with h4|h4
        · have:=hlt q h2;omega
        · exact h3 (hpe▸h4)
      · exact hnd.2.2 q.1 hx q.1 (by simp only [List.mem_append];exact .inr hy) rfl
  · rcases hcas p hp with h1|h1
    · rcases hown p h1 with h2|h2
      · exact .inl (Nat.le_trans hs.W4.size h2)
      · obtain⟨q,hq,hqe⟩:=List.mem_map.1 h2
        rw [←hqe]
        exact hs.own q (G3 hc hq)
    · exact hs.own p (hoth p h1).1
  · cases hi:I b with
    | none=>exact Nat.le_trans hs.W4.size (hn b hi h1)
    | some o=>exact hs.new b h0 (by simp [hi])
theorem Mem.chunk {I:Im}{L:Lh}{w:World}{i:Nat}{c:List (Nat×Obj)}(hm:Mem I L w)(hc:L[i]?=some c):Mem I [c] w :=
 ⟨hm.im,fun p hp=>hm.loc p (G3 hc (by simpa using hp)),fun p hp=>hm.sep p (G3 hc (by simpa using hp)),by simpa using a0r hm.nodup hc⟩
section
variable {P:Program}{C:Ctx}{N:Nat}{ρ:Env}{I:Im}{L:Lh}{d:Option Nat}{F:Operand}{args:Array Operand}{tys:Array TypeId}{ty:TypeId}{ps:String}{af:Array Edge}{g:Option (Nat×Bool)}{vs:List Value}
theorem OpS.b6w {l:Nat}{post:Value→Im→Lh→Prop}{K:Value→Im→Lh→Prop}(i:Nat){c:List (Nat×Obj)}(hc:L[i]?=some c)(hF:ev ρ F=some (.func (.yield l) #[] #[]))(hv:evL ρ args.toList=some vs)
    (h:a1d P l vs.toArray I [c] post)(k:∀ v J c' (w:World),Le I J→post v J [c']→(∀ p∈c',w.heap.size≤p.1∨p.1∈c.map Prod.fst)→C.w0.heap.size≤w.heap.size→K v J (L.set i c'))(hshape:∀ v J L',post v J L'→∃ c',L' = [c']) :
    OpS P C N ⟨d,.call ⟨.value F,args,tys⟩,ty,ps,af,g⟩ ρ I L K:=fun a w ha hs=>by
  rw [b1l rfl (ha.ev hF) (ha.evL hv)]
  obtain⟨f,tmps,as_,body,hy,hR⟩:=h w (hs.mem.chunk hc)
  rw [hy]
  refine RoundIn.mono hR ?_
  rintro e w' ⟨v,J,L',rfl,hch,hle,hn,hm',hown,hp⟩
  obtain⟨c',rfl⟩:=hshape v J L' hp
  have hch':Chg (c.map Prod.fst) w w':=by simpa using hch
  have hown':∀ p∈c',w.heap.size≤p.1∨p.1∈c.map Prod.fst:=fun p hq=>by simpa using hown p (by simpa using hq)
  exact⟨v,j0,J,L.set i c',hs.c7z hc hch' hle hn hm' hown',k v J c' w hle hp hown' hs.W4.size⟩
end
abbrev a0c (D l:Nat)(r:Loop):List (Nat×Obj) := [(D,.deferred (some [])),(l,.loop r)]
theorem Chg.putObj {M:List Nat}{w0 w:World}{l:Nat}(h:Chg M w0 w)(hl:l∈M∨w0.heap.size≤l)(o:Obj):Chg M w0 (w.putObj l o) :=
 ⟨h.os,h.tape,h.output,by rw [World.putObj_size];exact h.size,fun k hk hm=>by
  have hkl:k≠l:=fun e=>by
   subst e
   rcases hl with hl|hl
   ·exact hm hl
   ·omega
  rw [World.putObj_heap_other hkl];exact h.block k hk hm⟩
theorem Chg.alloc {M:List Nat}{w0 w:World}(h:Chg M w0 w)(o:Obj):Chg M w0 (w.alloc o) :=
 ⟨h.os,h.tape,h.output,by have:=h.size;simp;omega,fun k hk hm=>by
  have h1:k < w.heap.size:=Nat.lt_of_lt_of_le hk h.size
  rw [heap_alloc_old w _ h1];exact h.block k hk hm⟩
theorem Mem.c9M {I:Im}{Y:List (Nat×Obj)}{D l:Nat}{r r':Loop}{w:World}(hm:Mem I [Y++a0c D l r] w):Mem I [Y++a0c D l r'] (w.putObj l (.loop r')):=by
 have hnd:=hm.nodup
 have hl:w.heap[l]?=some (.loop r):=hm.loc (l,.loop r) (by simp)
 have hlt:=D7 hl
 have hne:∀ p∈Y,p.1≠l:=fun p hp e=>by
  simp only [List.flatten_cons,List.flatten_nil,List.append_nil,List.map_append,List.nodup_append] at hnd
  exact hnd.2.2 p.1 (List.mem_map_of_mem hp) l (by simp) e
 have hDl:D≠l:=fun e=>by
  simp only [List.flatten_cons,List.flatten_nil,List.append_nil,List.map_append,List.nodup_append] at hnd
  simp [e] at hnd
 refine⟨fun b o hb => ?_,fun p hp => ?_,fun p hp => ?_,?_⟩
 ·have hbl:b≠l:=fun e=>by
   have:=hm.sep (l,.loop r) (by simp)
   rw [e] at hb;rw [hb] at this;cases this
  rw [World.putObj_heap_other hbl];exact hm.im b o hb
 ·simp only [List.flatten_cons,List.flatten_nil,List.append_nil,List.mem_append,List.mem_cons,List.not_mem_nil,or_false] at hp
  rcases hp with hp|rfl|rfl
  ·rw [World.putObj_heap_other (hne p hp)];exact hm.loc p (by simp [hp])
  ·rw [World.putObj_heap_other hDl];exact hm.loc (D,.deferred (some [])) (by simp)
  ·exact World.putObj_heap_same hlt
 ·simp only [List.flatten_cons,List.flatten_nil,List.append_nil,List.mem_append,List.mem_cons,List.not_mem_nil,or_false] at hp
  rcases hp with hp|rfl|rfl
  ·exact hm.sep p (by simp [hp])
  ·exact hm.sep (D,.deferred (some [])) (by simp)
  ·exact hm.sep (l,.loop r) (by simp)
 ·simpa using hnd
theorem Mem.a2J {I:Im}{L M:Lh}{w:World}(hm:Mem I L w)(e:M.flatten=L.flatten):Mem I M w:=⟨hm.im,by rw [e];exact hm.loc,by rw [e];exact hm.sep,by rw [e];exact hm.nodup⟩
theorem Mem.left {I:Im}{Y Z:List (Nat×Obj)}{w:World}(hm:Mem I [Y++Z] w):Mem I [Y] w :=
 ⟨hm.im,fun p hp=>hm.loc p (by simp at hp ⊢;exact .inl hp),fun p hp=>hm.sep p (by simp at hp ⊢;exact .inl hp),by
  have:=hm.nodup
  simp only [List.flatten_cons,List.flatten_nil,List.append_nil,List.map_append,List.nodup_append] at this ⊢
  exact this.1⟩
theorem St.c9N {I:Im}{L:Lh}{w:World}(l:Option Nat)(hm:Mem I L w):St ⟨w,L.flatten.map Prod.fst,I,l⟩ I L w :=
 ⟨hm,Chg.refl _ _,fun p hp => .inr (List.mem_map_of_mem hp),Le.refl _,fun b h0 h1=>absurd h0 h1⟩
def V4 (ps:List Nat)(vs:List Value)(ρ:Env):Env:=(ps.zip vs).foldl (fun ρ p=>p::ρ) ρ
theorem Fits.params {N:Nat}:∀ {ps:List Nat} {vs:List Value} {ρ:Env} {t:Array Value},Fits N ρ ⟨t,[]⟩→(∀ p∈ps,p < N)→Fits N (V4 ps vs ρ) ⟨(ps.zip vs).foldl (fun t (p:Nat×Value)=>t.setIfInBounds p.1 p.2) t,[]⟩
 | [],vs,ρ,t,h,_=>by simpa [V4] using h
 | p::ps,[],ρ,t,h,_=>by simpa [V4] using h
 | p::ps,v::vs,ρ,t,h,hp=>by
  have h1:=h.put (d:=p) (hp p List.mem_cons_self) v
  have h2:=Fits.params (ps:=ps) (vs:=vs) (ρ:=(p,v)::ρ) (t:=t.setIfInBounds p v) (by simpa [Act.put] using h1) (fun q hq=>hp q (List.mem_cons_of_mem _ hq))
  simpa [V4] using h2
theorem a1d.round {P:Program}{N D l fn:Nat}{ps:Array Tmp}{assign body:Code}{tm:Array Value}{ρ:Env}{I':Im}{Y:List (Nat×Obj)}{vs:List Value}{J':Im→List (Nat×Obj)→Prop}{Jx:Nat→Im→List (Nat×Obj)→Prop}
    (hps:∀ p∈ps.toList,p < N)(hsz:vs.length=ps.size)(ha:Fits N ρ ⟨tm,[]⟩)(rec_:LoopState→Option Code→Loop)(hrec:rec_=fun st pe => { state:=st,pending:=pe,fn:=fn,tmps:=tm,params:=ps,assign:=assign,body:=body,defers:=D })
    (round:∀ (w1:World),Mem I' [Y] w1→∃ L1,L1.flatten=Y∧wpS P ⟨w1,L1.flatten.map Prod.fst,I',some l⟩ N assign (fun e ρ2 I2 L2=>e = .normal∧∀ w3,Mem I2 L2 w3 →
      wpS P ⟨w3,L2.flatten.map Prod.fst,I2,some l⟩ N body (fun e' ρ3 I3 L3=>(e' = .normal∧J' I3 L3.flatten)∨∃ id,e' = .exit id∧Jx id I3 L3.flatten) ρ2 I2 L2) (V4 ps.toList vs ρ) I' L1) :
    a1d P l vs.toArray I' [Y++a0c D l (rec_ .ready none)] (fun v I3 L'=>∃ Y3,(v = .bool true∧J' I3 Y3∧L' = [Y3++a0c D l (rec_ .ready none)])∨∃ id,v = .bool false∧Jx id I3 Y3∧L' = [Y3++a0c D l (rec_ .done (some (.exit id)))]):=by
  intro w1 hm1
  have hl1:w1.heap[l]?=some (.loop (rec_ .ready none)):=hm1.loc (l,.loop (rec_ .ready none)) (by simp)
  have hD1:w1.heap[D]?=some (.deferred (some [])):=hm1.loc (D,.deferred (some [])) (by simp)
  have hlt1:=D7 hl1
  have hDt1:=D7 hD1
  have hnd1:=hm1.nodup
  simp only [List.flatten_cons,List.flatten_nil,List.append_nil,List.map_append,List.nodup_append] at hnd1
  have hDl:D≠l:=fun e=>by have:=hnd1.2.1;simp [e] at this
  have hYl:∀ p∈Y,p.1≠l∧p.1≠D:=fun p hp=>⟨fun e=>hnd1.2.2 p.1 (List.mem_map_of_mem hp) l (by simp) e,fun e=>hnd1.2.2 p.1 (List.mem_map_of_mem hp) D (by simp) e⟩
  have hIl:I' l=none:=hm1.sep (l,.loop (rec_ .ready none)) (by simp)
  have hID:I' D=none:=hm1.sep (D,.deferred (some [])) (by simp)
  have hy:=run_yield (P:=P) (args:=vs.toArray) hl1 (by rw [hrec];simpa using hsz)
  rw [hrec] at hy
  refine⟨fn,_,assign,body,hy,roundIn_of_wpIn trivial ?_⟩
  obtain⟨L1,rfl,hw1⟩:=round w1 hm1.left
  have hst1:St ⟨w1,L1.flatten.map Prod.fst,I',some l⟩ I' L1 w1:=St.c9N (some l) (hm1.left.a2J (by simp))
  have hfit1:Fits N (V4 ps.toList vs ρ) ⟨(ps.zip vs.toArray).foldl (fun t (p,v)=>t.setIfInBounds p v) tm,[]⟩:=by
    have h1:=Fits.params (ps:=ps.toList) (vs:=vs) ha hps
    have e:(ps.zip vs.toArray).foldl (fun t (p,v)=>t.setIfInBounds p v) tm=(ps.toList.zip vs).foldl (fun t (p:Nat×Value)=>t.setIfInBounds p.1 p.2) tm:=by
      rw [←Array.foldl_toList,Array.toList_zip]
    rw [e];exact h1
  refine wpIn_mono (hw1 _ w1 hfit1 hst1) ?_
  rintro e a2 w2 ⟨ρ2,I2,L2,hf2,hs2,rfl,hbody⟩
  -- the record is still ags it was
  have hnotl2:∀ p∈L2.flatten,p.1≠l∧p.1≠D:=fun p hp=>by
    rcases hs2.own p hp with h|h
    · have h':w1.heap.size≤p.1:=h
      exact⟨by omega,by omega⟩
    · obtain⟨q,hq,hqe⟩:=List.mem_map.1 h
      rw [←hqe];exact hYl q hq
  have hl2:w2.heap[l]?=some (.loop (rec_ .ready none)):=(hs2.W4.block l hlt1 (fun hx=>by obtain⟨q,hq,hqe⟩:=List.mem_map.1 hx;exact(hYl q hq).1 hqe)).trans hl1
  have hD2:w2.heap[D]?=some (.deferred (some [])):=(hs2.W4.block D hDt1 (fun hx=>by obtain⟨q,hq,hqe⟩:=List.mem_map.1 hx;exact(hYl q hq).2 hqe)).trans hD1
  have hI2l:I2 l=none:=by
    cases h:I2 l with
    | none=>rfl
    | some o=>have h':w1.heap.size≤l:=hs2.new l hIl (by simp [h]);omega
  have hI2D:I2 D=none:=by
    cases h:I2 D with
    | none=>rfl
    | some o=>have h':w1.heap.size≤D:=hs2.new D hID (by simp [h]);omega
  have hbr:=run_beginRound (P:=P) hl2 (by rw [hrec])
  refine⟨_,hbr,?_⟩
  have hm3:Mem I2 (L2:Lh) (w2.putObj l (.loop { rec_ .ready none with state := .busy })):=by
    refine⟨fun b o hb => ?_,fun p hp => ?_,hs2.mem.sep,hs2.mem.nodup⟩
    · rw [World.putObj_heap_other (fun e=>by rw [e,hI2l] at hb;cases hb)];exact hs2.mem.im b o hb
    · rw [World.putObj_heap_other (hnotl2 p hp).1];exact hs2.mem.loc p hp
  have hst3:=St.c9N (some l) hm3
  have hl3:(w2.putObj l (.loop { rec_ .ready none with state := .busy })).heap[l]?=some (.loop { rec_ .ready none with state := .busy }):=World.putObj_heap_same (D7 hl2)
  have hD3:(w2.putObj l (.loop { rec_ .ready none with state := .busy })).heap[D]?=some (.deferred (some [])):=(World.putObj_heap_other hDl).trans hD2
  refine wpIn_mono (hbody _ hm3 a2 _ hf2 hst3) ?_
  rintro e a4 w4 ⟨ρ3,I3,L3,hf4,hs4,hq⟩
  have hc4:=hs4.W4
  have hlt3:l < (w2.putObj l (.loop { rec_ .ready none with state := .busy })).heap.size:=D7 hl3
  have hDt3:D < (w2.putObj l (.loop { rec_ .ready none with state := .busy })).heap.size:=D7 hD3
  have hl4:w4.heap[l]?=some (.loop { rec_ .ready none with state := .busy }):=(hc4.block l hlt3 (fun hx=>by obtain⟨q,hq,hqe⟩:=List.mem_map.1 hx;exact(hnotl2 q hq).1 hqe)).trans hl3
  have hD4:w4.heap[D]?=some (.deferred (some [])):=(hc4.block D hDt3 (fun hx=>by obtain⟨q,hq,hqe⟩:=List.mem_map.1 hx;exact(hnotl2 q hq).2 hqe)).trans hD3
  have hsz13:w1.heap.size≤(w2.putObj l (.loop { rec_ .ready none with state := .busy })).heap.size:=by rw [World.putObj_size];exact hs2.W4.size
  have hnotl3:∀ p∈L3.flatten,p.1≠l∧p.1≠D:=fun p hp=>by
    rcases hs4.own p hp with h|h
    · have h':(w2.putObj l (.loop { rec_ .ready none with state := .busy })).heap.size≤p.1:=h
      exact⟨by omega,by omega⟩
    · obtain⟨q,hq,hqe⟩:=List.mem_map.1 h
      rw [←hqe];exact hnotl2 q hq
  have hI3l:I3 l=none:=by
    cases h:I3 l with
    | none=>rfl
    | some o=>have h':(w2.putObj l (.loop { rec_ .ready none with state := .busy })).heap.size≤l:=hs4.new l hI2l (by simp [h]);omega
  have hI3D:I3 D=none:=by
    cases h:I3 D with
    | none=>rfl
    | some o=>have h':(w2.putObj l (.loop { rec_ .ready none with state := .busy })).heap.size≤D:=hs4.new D hI2D (by simp [h]);omega
  have hm4:Mem I3 [L3.flatten++a0c D l { rec_ .ready none with state := .busy }] w4:=by
    refine⟨hs4.mem.im,fun p hp => ?_,fun p hp => ?_,?_⟩
    · simp only [List.flatten_cons,List.flatten_nil,List.append_nil,List.mem_append,List.mem_cons,List.not_mem_nil,or_false] at hp
      rcases hp with hp|rfl|rfl
      · exact hs4.mem.loc p hp
      · exact hD4
      · exact hl4
    · simp only [List.flatten_cons,List.flatten_nil,List.append_nil,List.mem_append,List.mem_cons,List.not_mem_nil,or_false] at hp
      rcases hp with hp|rfl|rfl
      · exact hs4.mem.sep p hp
      · exact hI3D
      · exact hI3l
    · simp only [List.flatten_cons,List.flatten_nil,List.append_nil,List.map_append,List.map_cons,List.map_nil]
      refine List.nodup_append.2 ⟨hs4.mem.nodup,by simp [hDl],?_⟩
      rintro x hx y hy rfl
      obtain⟨q,hq,hqe⟩:=List.mem_map.1 hx
      simp only [List.mem_cons,List.not_mem_nil,or_false] at hy
      rcases hy with hy|hy
      · exact(hnotl3 q hq).2 (hqe.trans hy)
      · exact(hnotl3 q hq).1 (hqe.trans hy)
  have hZ:∀ k,k∈L1.flatten.map Prod.fst→k∈([L1.flatten++a0c D l (rec_ .ready none)]:Lh).flatten.map Prod.fst:=fun k hk=>by simp at hk ⊢;exact .inl hk
  have hlZ:l∈([L1.flatten++a0c D l (rec_ .ready none)]:Lh).flatten.map Prod.fst:=by simp
  have hchg14:Chg (([L1.flatten++a0c D l (rec_ .ready none)]:Lh).flatten.map Prod.fst) w1 w4:=by
    have h12:Chg (([L1.flatten++a0c D l (rec_ .ready none)]:Lh).flatten.map Prod.fst) w1 w2:=hs2.W4.mono (fun k hk _=>hZ k hk)
    have h13:=h12.putObj (.inl hlZ) (.loop { rec_ .ready none with state := .busy })
    refine⟨hc4.os.trans h13.os,hc4.tape.trans h13.tape,hc4.output.trans h13.output,Nat.le_trans h13.size hc4.size,fun k hk hm => ?_⟩
    rw [hc4.block k (Nat.lt_of_lt_of_le hk h13.size) (fun hx => ?_)]
    · exact h13.block k hk hm
    · obtain⟨q,hq,hqe⟩:=List.mem_map.1 hx
      rcases hs2.own q hq with h|h
      · have h':w1.heap.size≤q.1:=h
        omega
      · exact hm (hZ k (hqe▸h))
  have hown4:∀ p∈L3.flatten,w1.heap.size≤p.1∨p.1∈([L1.flatten++a0c D l (rec_ .ready none)]:Lh).flatten.map Prod.fst:=fun p hp=>by
    rcases hs4.own p hp with h|h
    · exact .inl (Nat.le_trans hsz13 h)
    · obtain⟨q,hq,hqe⟩:=List.mem_map.1 h
      rw [←hqe]
      rcases hs2.own q hq with h|h
      · exact .inl h
      · exact .inr (hZ _ h)
  have hnew4:a6N w1.heap.size I' I3:=fun b h0 h1=>by
    cases h:I2 b with
    | none=>exact Nat.le_trans hsz13 (hs4.new b h h1)
    | some o=>exact hs2.new b h0 (by simp [h])
  have hle4:Le I' I3:=hs2.U9.trans hs4.U9
  have fin : ∀ jump : Option Code, (Instr.endRound l jump).run P w4 = .ok (.bool jump.isNone) (w4.putObj l (.loop (rec_ (if jump.isNone then .ready else .done) jump))) ∧
      Mem I3 [L3.flatten++a0c D l (rec_ (if jump.isNone then .ready else .done) jump)] (w4.putObj l (.loop (rec_ (if jump.isNone then .ready else .done) jump))):=fun jump=>by
    have h:=run_endRound (P:=P) jump hl4
    rw [hrec] at h ⊢
    exact⟨h,by have:=hm4.c9M (r':=rec_ (if jump.isNone then .ready else .done) jump);rw [hrec] at this;exact this⟩
  have hown5:∀ (r:Loop),∀ p∈([L3.flatten++a0c D l r]:Lh).flatten,w1.heap.size≤p.1∨p.1∈([L1.flatten++a0c D l (rec_ .ready none)]:Lh).flatten.map Prod.fst:=fun r p hp=>by
    simp only [List.flatten_cons,List.flatten_nil,List.append_nil,List.mem_append,List.mem_cons,List.not_mem_nil,or_false] at hp
    rcases hp with hp|rfl|rfl
    · exact hown4 p hp
    · exact .inr (by simp)
    · exact .inr (by simp)
  rcases hq with ⟨rfl,hJ⟩|⟨id,rfl,hJ⟩
  · obtain⟨h1,h2⟩:=fin none
    exact⟨_,_,h1,_,I3,_,j0,hchg14.putObj (.inl hlZ) _,hle4,hnew4,h2,hown5 _,L3.flatten,.inl ⟨j0,hJ,j0⟩⟩
  · obtain⟨h1,h2⟩:=fin (some (.exit id))
    exact⟨_,_,h1,_,I3,_,j0,hchg14.putObj (.inl hlZ) _,hle4,hnew4,h2,hown5 _,L3.flatten,.inr ⟨id,j0,hJ,j0⟩⟩
end Go.Fl
namespace Go.Fl
open Go.RowKit
abbrev bare (a:Act):Act := { a with defers := [] }
def Marks (C:Ctx)(I:Im)(L:Lh)(w:World)(ds:List Deferred):Prop :=
 ds = []∨∃ D,ds = [{ target := .collected D,args := #[] }]∧w.heap[D]?=some (.deferred (some []))∧C.w0.heap.size≤D∧I D=none∧∀ p∈L.flatten,p.1≠D
def c2k (C:Ctx)(N:Nat)(Q:Exit→Env→Im→Lh→Prop):Exit→Act→World→Prop :=
 fun e a w=>∃ ρ I L,Fits N ρ (bare a)∧Marks C I L w a.defers∧St C I L w∧Q e ρ I L
def wpC (P:Program)(C:Ctx)(N:Nat)(c:Code)(Q:Exit→Env→Im→Lh→Prop)(ρ:Env)(I:Im)(L:Lh):Prop :=
 ∀ a w,Fits N ρ a→St C I L w→c.wpIn C.fen 0 P (c2k C N Q) a w
def wpD (P:Program)(C:Ctx)(N:Nat)(c:Code)(Q:Exit→Env→Im→Lh→Prop)(ρ:Env)(I:Im)(L:Lh):Prop :=
 ∀ a w,Fits N ρ (bare a)→Marks C I L w a.defers→St C I L w→c.wpIn C.fen 0 P (c2k C N Q) a w
theorem Fits.bare {N:Nat}{ρ:Env}{a:Act}(h:Fits N ρ a):Fits N ρ (bare a):=⟨rfl,h.size,h.tmp⟩
section
variable {P:Program}{C:Ctx}{N:Nat}{Q:Exit→Env→Im→Lh→Prop}{ρ:Env}{I:Im}{L:Lh}
theorem wpC.mono {Q':Exit→Env→Im→Lh→Prop}{c:Code}(h:wpC P C N c Q ρ I L)(hq:∀ e ρ I L,Q e ρ I L→Q' e ρ I L):wpC P C N c Q' ρ I L :=
 fun a w ha hw=>wpIn_mono (h a w ha hw) fun _ _ _ ⟨ρ,I,L,h1,h2,h3,h4⟩=>⟨ρ,I,L,h1,h2,h3,hq _ _ _ _ h4⟩
theorem wpC.d2k {x y:Code}(h:wpS P C N x (b1w (wpC P C N y Q) Q) ρ I L):wpC P C N (.seq x y) Q ρ I L:=fun a w ha hw=>by
 refine wpIn_seq (wpIn_mono (h a w ha hw) fun e a w hq => ?_)
 obtain⟨ρ,I,L,h1,h2,h3⟩:=hq
 cases e with
 | normal=>exact h3 a w h1 h2
 | _=>exact⟨ρ,I,L,h1.bare,.inl h1.defers,h2,h3⟩
theorem wpC.d2l {x y:Code}(h:wpC P C N x (b1w (wpD P C N y Q) Q) ρ I L):wpC P C N (.seq x y) Q ρ I L:=fun a w ha hw=>by
 refine wpIn_seq (wpIn_mono (h a w ha hw) fun e a w hq => ?_)
 obtain⟨ρ,I,L,h1,h2,h3,h4⟩:=hq
 cases e with
 | normal=>exact h4 a w h1 h2 h3
 | _=>exact⟨ρ,I,L,h1,h2,h3,h4⟩
theorem wpC.block {id:Nat}{c:Code}(h:wpC P C N c (a4b id Q) ρ I L):wpC P C N (.block id c) Q ρ I L:=fun a w ha hw=>by
 refine wpIn_block (wpIn_mono (h a w ha hw) fun e a w hq => ?_)
 obtain⟨ρ,I,L,h1,h2,h3,h4⟩:=hq
 cases e with
 | exit i =>
  by_cases hi:i=id
  ·subst hi
   simp only [Exit.inBlock,if_true]
   exact⟨ρ,I,L,h1,h2,h3,by simpa [a4b] using h4⟩
  ·have hb:Nat.beq i id=false:=a6l hi
   simp only [Exit.inBlock,if_neg hi]
   exact⟨ρ,I,L,h1,h2,h3,by simpa [a4b,hb] using h4⟩
 | _=>exact⟨ρ,I,L,h1,h2,h3,h4⟩
theorem wpD.seq {x y:Code}(h:wpD P C N x (b1w (wpD P C N y Q) Q) ρ I L):wpD P C N (.seq x y) Q ρ I L:=fun a w ha hm hw=>by
 refine wpIn_seq (wpIn_mono (h a w ha hm hw) fun e a w hq => ?_)
 obtain⟨ρ,I,L,h1,h2,h3,h4⟩:=hq
 cases e with
 | normal=>exact h4 a w h1 h2 h3
 | _=>exact⟨ρ,I,L,h1,h2,h3,h4⟩
theorem wpD.ret (h:Q .ret ρ I L):wpD P C N .ret Q ρ I L:=fun a w ha hm hw=>wpIn_ret ⟨ρ,I,L,ha,hm,hw,h⟩
def b6x (P:Program)(C:Ctx)(N:Nat)(ops:Array Oper)(Q:Exit→Env→Im→Lh→Prop)(l:List Oper)(ρ:Env)(I:Im)(L:Lh):Prop :=
 R7 N l=true→∀ a w,Fits N ρ (bare a)→Marks C I L w a.defers→St C I L w→wpListIn C.fen 0 P ops (c2k C N Q) l a w
theorem b6x.nil {ops:Array Oper}(h:Q .normal ρ I L):b6x P C N ops Q [] ρ I L:=fun _ a w ha hm hs=>wpListIn_nil ⟨ρ,I,L,ha,hm,hs,h⟩
theorem b6x.x {ops:Array Oper}{rest:List Oper}{d:Nat}{op:Op}{ty:TypeId}{ps:String}{af:Array Edge}
    (h:OpX P N ⟨some d,op,ty,ps,af,none⟩ ρ I L (fun v J X=>b6x P C N ops Q rest ((d,v)::ρ) J (X++L))) :
    b6x P C N ops Q (⟨some d,op,ty,ps,af,none⟩::rest) ρ I L:=fun hd a w ha hm hs=>by
  obtain⟨hlt,hd'⟩:=a9G hd
  refine wpListIn_plain rfl fun K hK=>Yld.wp ?_
  have h1:Yld P ((execOp a.eval ⟨some d,op,ty,ps,af,none⟩).run P w) _:=h (bare a) w ha hs.mem
  refine h1.mono ?_
  rintro v w' ⟨J,X,hc,hle,hn,hm',hX,hk⟩
  refine hK _ _ (hk hd' _ _ (ha.put hlt v) ?_ (hs.step hc hle hn hm' hX))
  rcases hm with hm|⟨D,h1,h2,h3,h4,h5⟩
  · exact .inl hm
  · have hDlt:=D7 h2
    refine .inr ⟨D,h1,(hc.block D hDlt (by simp)).trans h2,h3,?_,fun p hp e => ?_⟩
    · cases hj:J D with
      | none=>rfl
      | some o=>exact absurd (hn D h4 (by simp [hj])) (by omega)
    · simp only [List.flatten_append,List.mem_append] at hp
      rcases hp with hp|hp
      · have:=hX p hp;omega
      · exact h5 p hp e
theorem wpD.region {id:Nat}{l:List Oper}(hd:R7 N l=true)(h:b6x P C N l.toArray Q l ρ I L):wpD P C N (.region id l.toArray false) Q ρ I L:=fun a w ha hm hs =>
 wpIn_region_lit (h hd a w ha hm hs)
end
theorem a1d.mono {P:Program}{l:Nat}{args:Array Value}{I:Im}{L:Lh}{post post':Value→Im→Lh→Prop}(h:a1d P l args I L post)(hp:∀ v J L',Le I J→post v J L'→post' v J L'):a1d P l args I L post':=fun w hm=>by
 obtain⟨f,t,as_,b,h1,h2⟩:=h w hm
 refine⟨f,t,as_,b,h1,RoundIn.mono h2 ?_⟩
 rintro e w' ⟨v,J,L',a1,a2,a3,a4,a5,a6,a7⟩
 exact⟨v,J,L',a1,a2,a3,a4,a5,a6,hp _ _ _ a3 a7⟩
theorem Mem.perm {I:Im}{L M:Lh}{w:World}(hm:Mem I L w)(e:M.flatten.Perm L.flatten):Mem I M w :=
 ⟨hm.im,fun p hp=>hm.loc p (e.mem_iff.1 hp),fun p hp=>hm.sep p (e.mem_iff.1 hp),(e.map Prod.fst).nodup_iff.2 hm.nodup⟩
theorem a1d.perm {P:Program}{l:Nat}{args:Array Value}{I:Im}{L M:Lh}{post:Value→Im→Lh→Prop}(h:a1d P l args I M post)(e:M.flatten.Perm L.flatten):a1d P l args I L post:=fun w hm=>by
 obtain⟨f,t,as_,b,h1,h2⟩:=h w (hm.perm e)
 have hk:∀ k,k∈M.flatten.map Prod.fst↔k∈L.flatten.map Prod.fst:=fun k=>(e.map Prod.fst).mem_iff
 refine⟨f,t,as_,b,h1,RoundIn.mono h2 ?_⟩
 rintro e' w' ⟨v,J,L',a1,a2,a3,a4,a5,a6,a7⟩
 exact⟨v,J,L',a1,a2.mono (fun k hk' _=>(hk k).1 hk'),a3,a4,a5,fun p hp=>(a6 p hp).imp id (hk _).1,a7⟩
abbrev Chunk:=List (Nat×Obj)
theorem wpC.range {P:Program}{C:Ctx}{N:Nat}{Q:Exit→Env→Im→Lh→Prop}{ρ:Env}{I:Im}{L:Lh}{g:Operand}{ps:Array Tmp}{assign body:Code}{gf:Nat}{lb:Array Value}(vs:Nat→Im→List Value→Prop)(J:Nat→Im→Chunk→Prop)(xid:Nat)(Jx:Im→Chunk→Prop)
    (hrd:C.rd=none)(hg:ev ρ g=some (.func (.func gf) #[] lb))(hok:a4c P gf)(hps:∀ p∈ps.toList,p < N)(hsz:∀ k I us,vs k I us→us.length=ps.size)
    (hmono:∀ k I1 I2 Y,Le I1 I2→J k I1 Y→J k I2 Y)(hmonox:∀ I1 I2 Y,Le I1 I2→Jx I1 Y→Jx I2 Y)(h0:J 0 I L.flatten)
    (round:∀ l k I' Y us,Le I I'→J k I' Y→vs k I' us→∃ L1:Lh,L1.flatten.Perm Y∧∀ w1,Mem I' L1 w1→wpS P ⟨w1,L1.flatten.map Prod.fst,I',some l⟩ N assign (fun e ρ2 I2 L2=>e = .normal∧∀ w3,Mem I2 L2 w3 →
      wpS P ⟨w3,L2.flatten.map Prod.fst,I2,some l⟩ N body (fun e' ρ3 I3 L3=>(e' = .normal∧J (k+1) I3 L3.flatten)∨(e' = .exit xid∧Jx I3 L3.flatten)) ρ2 I2 L2) (V4 ps.toList us ρ) I' L1)
    (iter:∀ (l:Nat) (K:Nat→Im→Chunk→Prop) (Kx:Im→Chunk→Prop) (Z:Chunk),(∀ k I1 I2 Z,Le I1 I2→K k I1 Z→K k I2 Z)→(∀ I1 I2 Z,Le I1 I2→Kx I1 Z→Kx I2 Z) →
      (∀ k I' Z,Le I I'→K k I' Z→∃ Y,J k I' Y)→K 0 I Z →
      (∀ k I' Z us,Le I I'→K k I' Z→vs k I' us→a1d P l us.toArray I' [Z] (fun v I3 L'=>∃ Z3,L' = [Z3]∧((v = .bool true∧K (k+1) I3 Z3)∨(v = .bool false∧Kx I3 Z3)))) →
      a9I P gf (#[.func (.yield l) #[] #[]]++lb) I [Z] (fun v I3 L'=>∃ Z3,L' = [Z3]∧Kx I3 Z3))
    (done:∀ I3 Y,Le I I3→Jx I3 Y→((∀ q∈L.flatten,C.w0.heap.size≤q.1)→∀ p∈Y,C.w0.heap.size≤p.1)→∃ L3:Lh,L3.flatten.Perm Y∧Q (.exit xid) ρ I3 L3) :
    wpC P C N (.rangeFunc g ps assign body) Q ρ I L:=fun a w ha hs=>by
  obtain⟨w0,M,I0,rd⟩:=C
  have hrd':rd=none:=hrd
  subst hrd'
  refine wpIn_rangeFunc ?_
  intro fn hfn
  obtain⟨rec_,hrec⟩:∃ rec_:LoopState→Option Code→Loop,rec_=fun st pe => { state:=st,pending:=pe,fn:=fn,tmps:=a.tmps,params:=ps,assign:=assign,body:=body,defers:=w.heap.size }:=⟨_,rfl⟩
  obtain⟨W1,hW1⟩:∃ W1,(w.alloc (.deferred (some []))).alloc (.loop (rec_ .ready none))=W1:=⟨_,rfl⟩
  have hsz1:W1.heap.size=w.heap.size+2:=by rw [←hW1];simp
  have hL1:W1.heap[w.heap.size+1]?=some (.loop (rec_ .ready none)):=by
    rw [←hW1];have:=World.alloc_heap_new (w.alloc (.deferred (some []))) (.loop (rec_ .ready none));rwa [World.size_alloc] at this
  have hK1:W1.heap[w.heap.size]?=some (.deferred (some [])):=by
    rw [←hW1];exact(heap_alloc_old _ _ (by simp)).trans (World.alloc_heap_new w _)
  have hold:∀ b,b < w.heap.size→W1.heap[b]?=w.heap[b]?:=fun b hb=>by
    rw [←hW1];exact(heap_alloc_old _ _ (by simp;omega)).trans (heap_alloc_old _ _ hb)
  have hI:∀ b,w.heap.size≤b→I b=none:=fun b hb=>by
    cases h:I b with
    | none=>rfl
    | some o=>have:=D7 (hs.mem.im b o h);omega
  have hltL:∀ p∈L.flatten,p.1 < w.heap.size:=fun p hp=>D7 (hs.mem.loc p hp)
  have hm1:Mem I [L.flatten++a0c w.heap.size (w.heap.size+1) (rec_ .ready none)] W1:=by
    refine⟨fun b o hb => ?_,fun p hp => ?_,fun p hp => ?_,?_⟩
    · rw [hold b (D7 (hs.mem.im b o hb))];exact hs.mem.im b o hb
    · simp only [List.flatten_cons,List.flatten_nil,List.append_nil,List.mem_append,List.mem_cons,List.not_mem_nil,or_false] at hp
      rcases hp with hp|rfl|rfl
      · rw [hold _ (hltL p hp)];exact hs.mem.loc p hp
      · exact hK1
      · exact hL1
    · simp only [List.flatten_cons,List.flatten_nil,List.append_nil,List.mem_append,List.mem_cons,List.not_mem_nil,or_false] at hp
      rcases hp with hp|rfl|rfl
      · exact hs.mem.sep p hp
      · exact hI _ (Nat.le_refl _)
      · exact hI _ (by simp)
    · simp only [List.flatten_cons,List.flatten_nil,List.append_nil,List.map_append,List.map_cons,List.map_nil]
      refine List.nodup_append.2 ⟨hs.mem.nodup,by simp,?_⟩
      rintro x hx y hy rfl
      obtain⟨q,hq,hqe⟩:=List.mem_map.1 hx
      have:=hltL q hq
      simp only [List.mem_cons,List.not_mem_nil,or_false] at hy
      omega
  have hfun:=iter (w.heap.size+1) (fun k I' Z=>∃ Y,Z=Y++a0c w.heap.size (w.heap.size+1) (rec_ .ready none)∧J k I' Y)
    (fun I' Z=>∃ Y,Z=Y++a0c w.heap.size (w.heap.size+1) (rec_ .done (some (.exit xid)))∧Jx I' Y) _
    (fun k I1 I2 Z hle ⟨Y,e,h⟩=>⟨Y,e,hmono k I1 I2 Y hle h⟩) (fun I1 I2 Z hle ⟨Y,e,h⟩=>⟨Y,e,hmonox I1 I2 Y hle h⟩) (fun k I' Z _ ⟨Y,e,h⟩=>⟨Y,h⟩) ⟨L.flatten,rfl,h0⟩
    (by
      rintro k I' Z us hle ⟨Y,rfl,hJ⟩ hvs
      obtain⟨L1,hperm,hr⟩:=round (w.heap.size+1) k I' Y us hle hJ hvs
      have hab:Fits N ρ ⟨a.tmps,[]⟩:=ha.bare
      have hy:=a1d.round (P:=P) (N:=N) (D:=w.heap.size) (l:=w.heap.size+1) (fn:=fn) (ps:=ps) (assign:=assign) (body:=body) (tm:=a.tmps) (ρ:=ρ) (I':=I') (Y:=L1.flatten) (vs:=us)
        (J':=fun I3 Y3=>J (k+1) I3 Y3) (Jx:=fun id I3 Y3=>id=xid∧Jx I3 Y3) hps (hsz k I' us hvs) hab rec_ hrec
        (fun w1 hm=>⟨L1,rfl,(hr w1 (hm.a2J (by simp))).mono fun e ρ2 I2 L2 ⟨h1,h2⟩=>⟨h1,fun w3 h3=>(h2 w3 h3).mono fun e' ρ3 I3 L3 h4=>by
          rcases h4 with h4|⟨h4,h5⟩
          · exact .inl h4
          · exact .inr ⟨xid,h4,j0,h5⟩⟩⟩)
      refine a1d.mono (a1d.perm hy (by simpa using hperm.append_right _)) ?_
      rintro v J3 L' _ ⟨Y3,⟨h1,h2,h3⟩|⟨id,h1,⟨h4,h5⟩,h3⟩⟩
      · exact⟨_,h3,.inl ⟨h1,Y3,j0,h2⟩⟩
      · subst h4;exact⟨_,h3,.inr ⟨h1,Y3,rfl,h5⟩⟩)
  refine⟨w.heap.size+1,[{ target := .collected w.heap.size,args := #[] }],W1,{ target := .fn (.func gf) lb,args := #[.func (.yield (w.heap.size+1)) #[] #[]] },W1,gf,
    #[.func (.yield (w.heap.size+1)) #[] #[]]++lb,W1,?_,?_,fun _ _=>trivial,?_,fun hd=>(by cases hd),?_⟩
  · rw [←hW1,hrec];exact run_enterLoop_outer _ _ _ _ _
  · simp only [resolve,ha.ev hg]
    simp [go_sem]
  · obtain⟨f',h1,h2,h3⟩:=hok.ok
    have h2':¬f'.name = "runtime.NumGoroutine" := by simpa using h2
    have h3':f'.body≠none:=by intro e;simp [e] at h3
    simp [invoke,callFunc,program,Sem.run,h1,h2',h3']
  · refine(callsIn_wide.2 (Calls.mono (hfun.run W1 hm1) ?_):CallsIn Fence.wide (0 - 1) P gf _ W1 _)
    rintro e w2 ⟨v,I3,L',rfl,hch,hle,hn,hm2,hown,Z3,rfl,Y3,rfl,hJx⟩
    have hl2:w2.heap[w.heap.size+1]?=some (.loop (rec_ .done (some (.exit xid)))):=hm2.loc (w.heap.size+1,_) (by simp)
    have hend:(Instr.endLoop (w.heap.size+1)).run P w2 = .ok (some (.exit xid)) (w2.putObj (w.heap.size+1) (.loop { rec_ .done (some (.exit xid)) with state := .exhausted })):=by
      have h:=run_endLoop (P:=P) hl2 (by rw [hrec];simp)
      rw [hrec] at h ⊢
      exact h
    have hm4:=hm2.c9M (r' := { rec_ .done (some (.exit xid)) with state := .exhausted })
    refine⟨some (.exit xid),_,hend,?_⟩
    have hown3:∀ p∈Y3,w0.heap.size≤p.1∨p.1∈L.flatten.map Prod.fst:=fun p hp=>by
      have hsw:w0.heap.size≤w.heap.size:=hs.W4.size
      rcases hown p (by simp [hp]) with h|h
      · exact .inl (by omega)
      · simp only [List.flatten_cons,List.flatten_nil,List.append_nil,List.map_append,List.map_cons,List.map_nil,List.mem_append,List.mem_cons,List.not_mem_nil,or_false] at h
        rcases h with h|h|h
        · exact .inr h
        · exact .inl (by omega)
        · exact .inl (by omega)
    obtain⟨L3,hp3,hq⟩:=done I3 Y3 hle hJx (fun hL p hp=>(hown3 p hp).elim id fun h=>by
      obtain⟨q,hq,hqe⟩:=List.mem_map.1 h
      rw [←hqe];exact hL q hq)
    have hnd:=hm4.nodup
    simp only [List.flatten_cons,List.flatten_nil,List.append_nil,List.map_append,List.map_cons,List.map_nil,List.nodup_append] at hnd
    have hchg1:Chg M w0 W1:=by rw [←hW1];exact(hs.W4.alloc _).alloc _
    have hchg2:Chg M w0 w2:=by
      refine⟨hch.os.trans hchg1.os,hch.tape.trans hchg1.tape,hch.output.trans hchg1.output,Nat.le_trans hchg1.size hch.size,fun k hk hkm => ?_⟩
      rw [hch.block k (Nat.lt_of_lt_of_le hk hchg1.size) (fun hx => ?_)]
      · exact hchg1.block k hk hkm
      · have hsw:w0.heap.size≤w.heap.size:=hs.W4.size
        have hk':k < w0.heap.size:=hk
        simp only [List.flatten_cons,List.flatten_nil,List.append_nil,List.map_append,List.map_cons,List.map_nil,List.mem_append,List.mem_cons,List.not_mem_nil,or_false] at hx
        rcases hx with h|h|h
        · obtain⟨q,hq,hqe⟩:=List.mem_map.1 h
          rcases hs.own q hq with h1|h1
          · have h1':w0.heap.size≤q.1:=h1
            omega
          · exact hkm (hqe▸h1)
        · omega
        · omega
    have hsw:w0.heap.size≤w.heap.size:=hs.W4.size
    have hst:St ⟨w0,M,I0,none⟩ I3 L3 (w2.putObj (w.heap.size+1) (.loop { rec_ .done (some (.exit xid)) with state := .exhausted })):=by
      refine⟨(hm4.left).perm (by simpa using hp3),hchg2.putObj (.inr (by omega)) _,fun p hp => ?_,hs.U9.trans hle,fun b h0' h1' => ?_⟩
      · rcases hown3 p (hp3.mem_iff.1 hp) with h|h
        · exact .inl h
        · obtain⟨q,hq,hqe⟩:=List.mem_map.1 h
          rw [←hqe];exact hs.own q hq
      · cases h:I b with
        | none =>
          have h2:=hn b h h1'
          have:w0.heap.size≤b:=by omega
          exact this
        | some o=>exact hs.new b h0' (by simp [h])
    refine wpIn_exit ⟨ρ,I3,L3,ha.bare,.inr ⟨w.heap.size,by simp [ha.defers],hm4.loc (w.heap.size,.deferred (some [])) (by simp),hsw,hm4.sep (w.heap.size,.deferred (some [])) (by simp),fun p hp e => ?_⟩,hst,hq⟩
    exact hnd.2.2 p.1 (List.mem_map_of_mem (hp3.mem_iff.1 hp)) w.heap.size (by simp) e
theorem b4l {P:Program}{f:FuncId}{fn:Func}{c:Code}{l:List Value}{I:Im}{L:Lh}{M:List Nat}{w:World}{post:Value→Im→Lh→Prop}{R:Ending→World→Prop}
    (hf:P.funcs[f]?=some fn)(hb:fn.body=some c)(N:Nat)(hN:fn.ntmps=N)(hl:Nat.ble l.length N=true)(hm:Mem I L w)(hM:∀ p∈L.flatten,p.1∈M)
    (h:wpC P ⟨w,M,I,none⟩ N c (b9n P fn post) (a1a l 0) I L)(hR:∀ v J L' w',St ⟨w,M,I,none⟩ J L' w'→post v J L'→R (.returned v) w'):Calls P f l.toArray w R:=by
  refine callsIn_wide.1 (callsIn_of_wp_marks (F:=Fence.wide) (n:=0) hf hb trivial (wpIn_mono (h _ w ?_ ?_) ?_) rfl)
  · have hl':l.length≤N:=Nat.le_of_ble_eq_true hl
    refine⟨rfl,by simp [hN];omega,fun t v hv => ?_⟩
    obtain⟨_,h2⟩:=a41 l 0 t v hv
    have hlt:t < l.length:=(List.getElem?_eq_some_iff.1 (by simpa using h2)).1
    rw [Array.getElem?_append_left (by simpa using hlt)]
    simpa using h2
  · exact⟨hm,Chg.refl _ _,fun p hp => .inr (hM p hp),Le.refl _,fun b h0 h1=>absurd h0 h1⟩
  · rintro e a w' ⟨ρ,J,L',hfit,hmk,hst,hq⟩
    have fin:(∃ v,Fin P fn ρ J L' v∧post v J L')→LeavesInM Fence.wide 0 P fn a.tmps R a.defers .returning w':=by
      rintro⟨v,hfin,hp⟩
      rcases hmk with hd|⟨D,hd,hD,hDs,hDI,hDL⟩
      · rw [hd]
        exact⟨v,hfin N (bare a) w' hfit hst.mem,hR v J L' w' hst hp⟩
      · rw [hd]
        have hst':St ⟨w,M,I,none⟩ J L' (w'.putObj D (.deferred none)):=by
          refine⟨⟨fun b o hb => ?_,fun p hp => ?_,hst.mem.sep,hst.mem.nodup⟩,hst.W4.putObj (.inr hDs) _,hst.own,hst.U9,hst.new⟩
          · rw [World.putObj_heap_other (fun e=>by rw [e,hDI] at hb;cases hb)];exact hst.mem.im b o hb
          · rw [World.putObj_heap_other (hDL p hp)];exact hst.mem.loc p hp
        exact⟨by simp,.inl ⟨D,_,rfl,run_takeDeferred hD,v,hfin N (bare a) _ hfit hst'.mem,hR v J L' _ hst' hp⟩⟩
    cases e with
    | normal=>exact fin hq
    | ret=>exact fin hq
    | _=>exact hq.elim
end Go.Fl
namespace Go.Ab
open Go.Fl Go.RowKit
open u3 (rep)
def Cap (f:FuncId)(ags:List AV)(I:Im)(u:Value):Prop:=∃ vs,u = .func (.func f) #[] vs.toArray∧T5 I ags vs
theorem T5.b3Z {I J:Im}(hle:Le I J):∀ {ags:List AV} {vs:List Value},T5 I ags vs→T5 J ags vs
 | [],_,h=>h
 | a::ags,_,h=>by obtain⟨v,r,h1,h2,h3⟩:=h;exact⟨v,r,h1,h2.mono hle,h3.b3Z hle⟩
theorem Cap.mono {f:FuncId}{ags:List AV}{I J:Im}{u:Value}(hle:Le I J)(h:Cap f ags I u):Cap f ags J u:=by
 obtain⟨vs,h1,h2⟩:=h;exact⟨vs,h1,h2.b3Z hle⟩
def AV.cap (f:FuncId)(ags:List AV):AV := .pr (Cap f ags) Cap.mono
theorem OpP.c9P {P:Program}{C:Ctx}{N:Nat}{σ:o8}{H:j8}{f:FuncId}{d:Option Nat}{args:Array Operand}{ty:TypeId}{ps:String}{af:Array Edge}{g:Option (Nat×Bool)}{K:AV→Prop}{caps:List AV}
    (hv:a0I C σ H args.toList caps)(k:K (.cap f caps)):OpP P N C ⟨d,.makeFunc (.func f) #[] args,ty,ps,af,g⟩ σ H K := .M1 (.cap f caps) (fun ρ I L hs=>fun a w ha hm=>by
      obtain⟨vs,h1,h2⟩:=hv.get hs
      have e:=ha.evL h1
      have hargs:args.map a.eval=vs.toArray:=by rw [←e];cases args;simp
      exact⟨.func (.func f) #[] vs.toArray,⟨vs,rfl,h2⟩,by simp [execOp,Instr.makeFunc,hargs]⟩) k
theorem OpP.c6H {P:Program}{C:Ctx}{N:Nat}{σ:o8}{H:j8}{f:FuncId}{d:Option Nat}{args:Array Operand}{ty:TypeId}{ps:String}{af:Array Edge}{g:Option (Nat×Bool)}{K:AV→Prop}{caps:List AV}
    (hv:a0I C σ H args.toList caps)(k:K .any):OpP P N C ⟨d,.makeFunc (.func f) #[] args,ty,ps,af,g⟩ σ H K := .M1 .any (fun ρ I L hs=>fun a w ha hm=>by
      obtain⟨vs,h1,h2⟩:=hv.get hs
      have e:=ha.evL h1
      have hargs:args.map a.eval=vs.toArray:=by rw [←e];cases args;simp
      exact⟨.func (.func f) #[] vs.toArray,trivial,by simp [execOp,Instr.makeFunc,hargs]⟩) k
theorem OpP.a9M {P:Program}{C:Ctx}{N:Nat}{σ:o8}{H:j8}{d:Option Nat}{ty:TypeId}{ps:String}{af:Array Edge}{g:Option (Nat×Bool)}{K:AV→Prop}{x:Operand}{S D:TypeId}{ds:TypeDesc}{m:UInt8}(hS:P.underlying S=some ds)(hD:P.underlying D=some (.int .u64))
    (hx:G5 C σ H x (.v m))(k:K (.v m.toUInt64)):OpP P N C ⟨d,.convert S D x,ty,ps,af,g⟩ σ H K := .vk k (fun ρ I L hs=>O3.a9M hS hD (hx.by8 hs) ⟨[Fl.u64 m.toUInt64],rfl,rfl⟩)
def c2l (P:Program)(l:Nat)(I0:Im)(ags:List AV)(B:C3)(post:AV→C3→Prop):Prop :=
 ∀ I X vs,Le I0 I→T5 I ags vs→B.a0H I X→a1d P l vs.toArray I [X] (fun v J L'=>∃ r B' X',L' = [X']∧F9 J r v∧B'.a0H J X'∧post r B')
structure Iter where
 K:Nat→Im→Chunk→Prop
 Kx:Im→Chunk→Prop
 mono:∀ k I J Z,Le I J→K k I Z→K k J Z
 c9Q:∀ I J Z,Le I J→Kx I Z→Kx J Z
structure c48 where
 it:Iter
 st:Option Nat
def c48.ub (I:Im)(x:c48)(X:Chunk):Prop:=match x.st with|some k=>x.it.K k I X|none=>x.it.Kx I X
instance:UB c48 where
 ub I _ x X:=x.ub I X
 mono:=by
  rintro I J w ⟨it,st⟩ X hle h
  cases st with
  | none=>exact it.c9Q _ _ _ hle h
  | some k=>exact it.mono _ _ _ _ hle h
abbrev itB (it:Iter)(st:Option Nat):C3 := .P4 undef (c48.mk it st)
theorem OpH.b6w {P:Program}{C:Ctx}{N:Nat}{σ:o8}{H:j8}{d:Option Nat}{t:Nat}{args:Array Operand}{tys:Array TypeId}{ty:TypeId}{ps:String}{af:Array Edge}{g:Option (Nat×Bool)}{l:Nat}{I0:Im}{ags:List AV}
    {post:AV→C3→Prop}{K:AV→j8→Prop}{b:Bool}{B:C3}{F:Bool×C3→j8}(hI:Le I0 C.I0)(h:c2l P l I0 ags B post)(hF:F6 σ t=some (.raw (.func (.yield l) #[] #[])))(hH:H9 H (b,B) F)(hv:a0I C σ H args.toList ags)
    (k:∀ r B',post r B'→K r (F (b,B'))):OpH P C N ⟨d,.call ⟨.value (.tmp t),args,tys⟩,ty,ps,af,g⟩ σ H K:=fun ρ I L hs=>by
  obtain⟨vs,h1,h2⟩:=hv.get hs
  obtain⟨i,X,h3,h4,h5⟩:=hH.get hs.heap
  obtain⟨u,h6,rfl⟩:=hs.env t _ hF
  refine OpS.b6w (l:=l) (F := .tmp t) i h3 h6 h1 (h I X vs (hI.trans hs.U9) h2 h4.1) ?_ ?_
  · intro v J c' w hle ⟨r,B',X',q1,q2,q3,q5⟩ q4 hsz
    cases q1
    refine⟨hle,r,_,q2,h5 J (b,B') c' hle ⟨q3,fun hb p hp => ?_⟩,k r B' q5⟩
    rcases q4 p hp with h6|h6
    · exact Nat.le_trans hsz h6
    · obtain⟨q,hq,hqe⟩:=List.mem_map.1 h6
      rw [←hqe];exact h4.2 hb q hq
  · intro v J L' ⟨r,B',X',q1,q2,q3,q5⟩
    exact⟨X',q1⟩
def Gl.over (G:Gl)(I0:Im):Gl:=⟨fun J=>G.p J∧Le I0 J,fun hle h=>⟨G.mono hle h.1,h.2.trans hle⟩⟩
def c6J (G:Gl)(P:Program)(gf:FuncId)(caps:List AV)(vs:Nat→List AV)(bound:Nat):Prop :=
 a4c P gf∧∀ (I0:Im) (l:Nat) (it:Iter),
  (∀ k,k≤bound→c2l P l I0 (vs k) (itB it (some k)) (fun r B'=>∃ b:Bool,r = .v b∧B'=itB it (if b then some (k+1) else none)∧(b=true→k+1≤bound))) →
  C6 (G.over I0) P gf (.raw (.func (.yield l) #[] #[])::caps) [itB it (some 0)] (fun _ Hs=>Hs = [itB it none])
def wpE (P:Program)(C:Ctx)(N:Nat)(c:Code)(Q:Exit→o8→j8→Prop)(σ:o8)(H:j8):Prop:=∀ ρ I L,RSt C I L σ H ρ→wpC P C N c (qA C Q) ρ I L
def wpF (P:Program)(C:Ctx)(N:Nat)(c:Code)(Q:Exit→o8→j8→Prop)(σ:o8)(H:j8):Prop:=∀ ρ I L,RSt C I L σ H ρ→wpD P C N c (qA C Q) ρ I L
def wpG (P:Program)(C:Ctx)(N:Nat)(ops:Array Oper)(Q:Exit→o8→j8→Prop)(l:List Oper)(σ:o8)(H:j8):Prop:=∀ ρ I L,RSt C I L σ H ρ→b6x P C N ops (qA C Q) l ρ I L
section
variable {P:Program}{C:Ctx}{N:Nat}{Q:Exit→o8→j8→Prop}{σ:o8}{H:j8}
theorem wpE.c7A {x y:Code}(h:wpA P C N x (a1m (wpE P C N y Q) Q) σ H):wpE P C N (.seq x y) Q σ H:=fun ρ I L hs=>by
 refine .d2k ((h ρ I L hs).mono fun e ρ I L ⟨σ,H,h1,h2⟩ => ?_)
 cases e with
 | normal=>exact h2 ρ I L h1
 | _=>exact⟨σ,H,h1,h2⟩
theorem wpE.d2m {x y:Code}(h:wpE P C N x (a1m (wpF P C N y Q) Q) σ H):wpE P C N (.seq x y) Q σ H:=fun ρ I L hs=>by
 refine .d2l ((h ρ I L hs).mono fun e ρ I L ⟨σ,H,h1,h2⟩ => ?_)
 cases e with
 | normal=>exact h2 ρ I L h1
 | _=>exact⟨σ,H,h1,h2⟩
theorem wpE.block {id:Nat}{c:Code}(h:wpE P C N c (Y8 id Q) σ H):wpE P C N (.block id c) Q σ H:=fun ρ I L hs=>by
 refine .block ((h ρ I L hs).mono fun e ρ I L ⟨σ,H,h1,h2⟩ => ?_)
 cases e with
 | exit i =>
  cases hb:Nat.beq i id with
  | true=>simp only [Y8,a4b,hb,cond_true] at h2 ⊢;exact⟨σ,H,h1,h2⟩
  | false=>simp only [Y8,a4b,hb,cond_false] at h2 ⊢;exact⟨σ,H,h1,h2⟩
 | _=>exact⟨σ,H,h1,h2⟩
theorem wpF.seq {x y:Code}(h:wpF P C N x (a1m (wpF P C N y Q) Q) σ H):wpF P C N (.seq x y) Q σ H:=fun ρ I L hs=>by
 refine .seq (fun a w ha hm hw=>wpIn_mono (h ρ I L hs a w ha hm hw) fun e a w ⟨ρ,I,L,q1,q2,q3,σ,H,h1,h2⟩=>⟨ρ,I,L,q1,q2,q3,?_⟩)
 cases e with
 | normal=>exact h2 ρ I L h1
 | _=>exact⟨σ,H,h1,h2⟩
theorem wpF.ret (h:Q .ret σ H):wpF P C N .ret Q σ H:=fun ρ I L hs => .ret ⟨σ,H,hs,h⟩
theorem wpF.region {id:Nat}{l:List Oper}(hd:R7 N l=true)(h:wpG P C N l.toArray Q l σ H):wpF P C N (.region id l.toArray false) Q σ H:=fun ρ I L hs => .region hd (h ρ I L hs)
theorem wpG.nil {ops:Array Oper}(h:Q .normal σ H):wpG P C N ops Q [] σ H:=fun ρ I L hs => .nil ⟨σ,H,hs,h⟩
theorem wpG.p {ops:Array Oper}{rest:List Oper}{d:Nat}{op:Op}{ty:TypeId}{ps:String}{af:Array Edge}
    (h:OpP P N C ⟨some d,op,ty,ps,af,none⟩ σ H (fun r=>wpG P C N ops Q rest ((d,r)::σ) H)) :
    wpG P C N ops Q (⟨some d,op,ty,ps,af,none⟩::rest) σ H:=fun ρ I L hs =>
  .x (OpX.a4j (h ρ I L hs) fun v J X hle ⟨hX,r,hr,hk⟩=>by subst hX;exact hk _ _ _ (hs.put hle hr (hs.heap.mono hle)))
end
def c6K (H:j8):j8:=H.map fun B=>(false,B.2)
theorem T4.c9R {n0 n1:Nat}{I:Im}:∀ {H:j8} {L:Lh},T4 n0 I H L→T4 n1 I (c6K H) L
 | [],_,h=>h
 | B::H,_,h=>by obtain⟨X,R,h1,h2,h3⟩:=h;exact⟨X,R,h1,⟨h2.1,fun e=>by cases e⟩,h3.c9R⟩
def b6y (ps:List Nat)(ags:List AV)(σ:o8):o8:=(ps.zip ags).foldl (fun σ p=>p::σ) σ
theorem RSt.params {C C':Ctx}{I I':Im}{L L':Lh}{H H':j8}(hle:Le I I')(hH:T4 C'.w0.heap.size I' H' L')(hI:Le C'.I0 I'):∀ {ps:List Nat} {ags:List AV} {vs:List Value} {σ:o8} {ρ:Env},RSt C I L σ H ρ→T5 I' ags vs→RSt C' I' L' (b6y ps ags σ) H' (V4 ps vs ρ):=by
 have base:∀ {σ:o8} {ρ:Env},RSt C I L σ H ρ→RSt C' I' L' σ H' ρ:=fun hs=>⟨fun t a ht=>by obtain⟨u,q1,q2⟩:=hs.env t a ht;exact⟨u,q1,q2.mono hle⟩,hH,hI⟩
 have main:∀ {ps:List Nat} {ags:List AV} {vs:List Value} {σ:o8} {ρ:Env},RSt C' I' L' σ H' ρ→T5 I' ags vs→RSt C' I' L' (b6y ps ags σ) H' (V4 ps vs ρ):=by
  intro ps
  induction ps with
  | nil=>intro ags vs σ ρ hs _;simpa [b6y,V4] using hs
  | cons p ps ih =>
   intro ags vs σ ρ hs hv
   cases ags with
   | nil=>cases (show vs = [] from hv);simpa [b6y,V4] using hs
   | cons a ags =>
    obtain⟨v,r,rfl,h2,h3⟩:=hv
    have:=ih (hs.put (Le.refl _) (d:=p) h2 hs.heap) h3
    simpa [b6y,V4] using this
 intro ps ags vs σ ρ hs hv
 exact main (base hs) hv
theorem Q9.le {I J:Im}(hle:Le I J):∀ {Hs:List C3} {L:Lh},Q9 I Hs L→Q9 J Hs L
 | [],_,h=>h
 | B::Hs,_,h=>by obtain⟨X,R,h1,h2,h3⟩:=h;exact⟨X,R,h1,C3.mono hle h2,Q9.le hle h3⟩
theorem wpE.range {G:Gl}{P:Program}{C:Ctx}{N:Nat}{Q:Exit→o8→j8→Prop}{σ:o8}{H:j8}{t:Nat}{ps:Array Tmp}{assign body:Code}{gf:Nat}{caps:List AV}{vs:Nat→List AV}{bound:Nat}(Hs:Nat→List C3)(Hx:List C3)(xid:Nat)
    (hrd:C.rd=none)(hG:G.p C.I0)(hg:F6 σ t=some (.cap gf caps))(hit:c6J G P gf caps vs bound)(hps:∀ p∈ps.toList,p < N)(hsz:∀ k,(vs k).length=ps.size)
    (h0:P6 H (Hs 0))(hall:H.all (·.1)=true)
    (round:∀ k,k≤bound→∀ C1:Ctx,Ctx.Ok C1→G.p C1.I0→wpA P C1 N assign (fun e σ2 H2=>e = .normal∧∀ C2:Ctx,Ctx.Ok C2→G.p C2.I0→wpA P C2 N body (fun e' _ H3=>(e' = .normal∧k+1≤bound∧P6 H3 (Hs (k+1)))∨(e' = .exit xid∧P6 H3 Hx)) σ2 (c6K H2))
      (b6y ps.toList (vs k) σ) ((Hs k).map (fun B=>(false,B)) ++ [(false,.none_)]))
    (done:Q (.exit xid) σ (Hx.map (fun B=>(true,B)) ++ [(false,.none_)])):wpE P C N (.rangeFunc (.tmp t) ps assign body) Q σ H:=fun ρ I L hs=>by
  obtain⟨u,hu,us,rfl,hcap⟩:=hs.env t _ hg
  obtain⟨L0,R0,hp0,hk0⟩:=h0 _ I L hs.heap
  have hlen:∀ {ags:List AV} {us:List Value} {I:Im},T5 I ags us→us.length=ags.length:=fun h=>T5.len h
  have hL:∀ q∈L.flatten,C.w0.heap.size≤q.1:=by
    have h1:=hs.heap
    clear hp0 hs h0 round
    revert L
    induction H with
    | nil=>intro L h1;have:L = []:=h1;subst this;simp
    | cons B H ih =>
      intro L h1
      obtain⟨X,R,rfl,h2,h3⟩:=h1
      simp only [List.all_cons,Bool.and_eq_true] at hall
      intro q hq
      simp only [List.flatten_cons,List.mem_append] at hq
      rcases hq with hq|hq
      · exact h2.2 hall.1 q hq
      · exact ih hall.2 R h3 q hq
  have stt:∀ {Hs:List C3} {I':Im} {Y:Chunk} {L1:Lh} {R:Chunk} (n:Nat),(L1.flatten++R).Perm Y→Q9 I' Hs L1→T4 n I' (Hs.map (fun B=>(false,B)) ++ [(false,.none_)]) (L1 ++ [R]):=fun n h1 h2 =>
    T4.append h2.toH ⟨_,[],rfl,⟨trivial,fun e=>by cases e⟩,rfl⟩
  refine wpC.range (fun k I' ws=>T5 I' (vs k) ws) (fun k I' Y=>k≤bound∧∃ (L1:Lh) (R:Chunk),(L1.flatten++R).Perm Y∧Q9 I' (Hs k) L1) xid (fun I' Y=>∃ (L1:Lh) (R:Chunk),(L1.flatten++R).Perm Y∧Q9 I' Hx L1)
    hrd hu hit.1 hps (fun k I us h=>by rw [hlen h,hsz]) (fun k I1 I2 Y hle ⟨h1,L1,R,h2,h3⟩=>⟨h1,L1,R,h2,Q9.le hle h3⟩) (fun I1 I2 Y hle ⟨L1,R,h2,h3⟩=>⟨L1,R,h2,Q9.le hle h3⟩)
    ⟨Nat.zero_le _,L0,R0,hp0,hk0⟩ ?_ ?_ ?_
  · -- a round
    rintro l k I' Y ws hle ⟨hkb,L1,R,hp1,hk1⟩ hws
    refine⟨L1 ++ [R],by simpa using hp1,fun w1 hm1 => ?_⟩
    have hok:∀ {I:Im} {L:Lh} {w:World},Mem I L w→Ctx.Ok ⟨w,L.flatten.map Prod.fst,I,some l⟩:=fun hm k hk=>by
      obtain⟨p,hp,rfl⟩:=List.mem_map.1 hk
      exact D7 (hm.loc p hp)
    have hr:=round k hkb ⟨w1,(L1 ++ [R]).flatten.map Prod.fst,I',some l⟩ (hok hm1) (G.mono (hs.U9.trans hle) hG)
    have hrs:RSt ⟨w1,(L1 ++ [R]).flatten.map Prod.fst,I',some l⟩ I' (L1 ++ [R]) (b6y ps.toList (vs k) σ) ((Hs k).map (fun B=>(false,B)) ++ [(false,.none_)]) (V4 ps.toList ws ρ) :=
      RSt.params hle (stt _ hp1 hk1) (Le.refl _) hs hws
    refine(hr _ I' _ hrs).mono ?_
    rintro e ρ2 I2 L2 ⟨σ2,H2,hr2,rfl,hb⟩
    refine⟨j0,fun w3 hm3 => ?_⟩
    have hb2:=hb ⟨w3,L2.flatten.map Prod.fst,I2,some l⟩ (hok hm3) (G.mono ((hs.U9.trans hle).trans hr2.U9) hG)
    refine(hb2 ρ2 I2 L2 ⟨hr2.env,hr2.heap.c9R,Le.refl _⟩).mono ?_
    rintro e' ρ3 I3 L3 ⟨σ3,H3,hr3,⟨rfl,hk',hsel⟩|⟨rfl,hsel⟩⟩
    · obtain⟨L4,R4,q1,q2⟩:=hsel _ I3 L3 hr3.heap
      exact .inl ⟨j0,hk',L4,R4,q1,q2⟩
    · obtain⟨L4,R4,q1,q2⟩:=hsel _ I3 L3 hr3.heap
      exact .inr ⟨j0,L4,R4,q1,q2⟩
  · -- the iterator
    intro l K Kx Z hm hmx hKJ hK0 hy
    have hit2:=hit.2 I l ⟨K,Kx,hm,hmx⟩ (fun k hkb I' X ws hle hws hB=>by
      have hB':K k I' X:=hB
      refine a1d.mono (hy k I' X ws hle hB' hws) ?_
      rintro v J L' hle' ⟨Z3,rfl,⟨rfl,h1⟩|⟨rfl,h1⟩⟩
      · obtain⟨Y,h2,_⟩:=hKJ (k+1) J Z3 (hle.trans hle') h1
        exact⟨.v true,itB ⟨K,Kx,hm,hmx⟩ (some (k+1)),Z3,j0,⟨_,j0,j0⟩,h1,.intro true ⟨j0,j0,fun _=>h2⟩⟩
      · exact⟨.v false,itB ⟨K,Kx,hm,hmx⟩ none,Z3,rfl,⟨_,rfl,rfl⟩,h1,.intro false ⟨rfl,rfl,fun e=>by cases e⟩⟩)
    have hM:=hit2 I [Z] (.func (.yield l) #[] #[]::us) ⟨G.mono hs.U9 hG,Le.refl _⟩ ⟨_,us,rfl,rfl,hcap⟩ ⟨Z,[],rfl,hK0,rfl⟩
    have hargs:(#[.func (.yield l) #[] #[]]++us.toArray:Array Value)=(.func (.yield l) #[] #[]::us).toArray:=by simp
    rw [hargs]
    refine⟨hM.ok,fun w0 hm0=>(hM.run w0 hm0).mono ?_⟩
    rintro e w' ⟨v,J,L',rfl,q1,q2,q3,q4,q5,r,Hs',q6,q7,rfl⟩
    obtain⟨X',R',rfl,q8,q9⟩:=q7
    have q9':R' = []:=q9
    subst q9'
    exact⟨v,J,_,j0,q1,q2,q3,q4,q5,X',j0,q8⟩
  · -- behind it
    rintro I3 Y hle ⟨L1,R,hp1,hk1⟩ hfr
    have hfr':=hfr hL
    refine⟨L1 ++ [R],by simpa using hp1,σ,_,⟨fun t a ht=>by obtain⟨u,q1,q2⟩:=hs.env t a ht;exact⟨u,q1,q2.mono hle⟩,?_,hs.U9.trans hle⟩,done⟩
    exact T4.append (hk1.toT (fun p hp=>hfr' p (hp1.mem_iff.1 (List.mem_append_left _ hp)))) ⟨_,[],rfl,⟨trivial,fun e=>by cases e⟩,rfl⟩
theorem G5.d2n {C:Ctx}{σ:o8}{H:j8}{α:Type}{r:u3 α}{t:Nat}{w:Value}{E:TypeId}{l:List α}{b:Bool}{F:Bool×C3→j8}(ht:F6 σ t=some (.raw w))(hH:H9 H (b,.own E w l) F):G5 C σ H (.tmp t) (.v (O5.mk w)):=fun ρ I L hs=>by
 obtain⟨u,h1,rfl⟩:=hs.env t _ ht
 obtain⟨i,X,h2,h3,_⟩:=hH.get hs.heap
 obtain⟨xs,h4,_⟩:=h3.1
 obtain⟨a,c,rfl⟩:=h4.shape
 exact⟨_,h1,_,⟨j0,j0⟩,j0⟩
theorem C6.b2O {G:Gl}{P:Program}{f:FuncId}{ags:List AV}{E:TypeId}{α:Type}[r:u3 α]{l:List α}(h:C6 G P f ags [] (fun r Hs=>∃ u,r = .raw u∧Hs = [.own E u l])):C4 G P f ags (fun r=>r = .v l):=fun I vs hG hvs=>by
 have hM:=h I [] vs hG hvs rfl
 refine⟨hM.ok,fun w hm=>(hM.run w hm).mono ?_⟩
 rintro e w' ⟨v,J,L',rfl,q1,q2,q3,q4,q5,r,Hs',q6,q7,u,rfl,rfl⟩
 obtain⟨X,R,rfl,q8,q9⟩:=q7
 have q9':R = []:=q9
 subst q9'
 have q6':v=u:=q6
 subst q6'
 have hle:Le J (J.with X):=Im.a03 fun p hp=>q4.sep p (by simpa using hp)
 refine⟨v,J.with X,rfl,by simpa using q1,q2.trans hle,fun b h0 h1 => ?_,(q4.freeze (i:=0) (c:=X) rfl).drop,.v l,O9 q8 hle (fun p hp=>Im.a0U (by simpa using q4.nodup) hp),rfl⟩
 cases hj:J.with X b with
 | none=>exact absurd hj h1
 | some o =>
  rcases Im.a0g hj with h2|h2
  ·rcases q5 (b,o) (by simpa using h2) with h3|h3
   ·exact h3
   ·cases h3
  ·exact q3 b h0 (by simp [h2])
theorem C6.c5a {G:Gl}{P:Program}{f:FuncId}{fn:Func}{c:Code}{ags:List AV}{Hs:List C3}{post:AV→List C3→Prop}(hf:P.funcs[f]?=some fn)(hb:fn.body=some c)(hn:(fn.name == "runtime.NumGoroutine")=false)
    (N:Nat)(hN:fn.ntmps=N)(hl:Nat.ble ags.length N=true)(σ:o8)(hσ:a95 ags 0=σ)(H0:j8)(hH:a6X Hs=H0)
    (h:∀ C:Ctx,Ctx.Ok C→C.rd=none→G.p C.I0→wpE P C N c (a5X P fn C (fun r H=>∃ Hs',P6 H Hs'∧post r Hs')) σ H0):C6 G P f ags Hs post:=fun I L vs hG hvs hL =>
  ⟨⟨fn,hf,hn,by simp [hb]⟩,fun w hm=>b4l hf hb N hN (by rw [hvs.len];exact hl) hm (M:=L.flatten.map Prod.fst) (fun p hp=>List.mem_map_of_mem hp)
    ((h ⟨w, L.flatten.map Prod.fst, I, none⟩ (fun k hk => by
        obtain⟨p,hp,rfl⟩:=List.mem_map.1 hk
        exact D7 (hm.loc p hp)) rfl hG (a1a vs 0) I L ⟨by rw [←hσ];exact hvs.env 0,by rw [←hH,a5e];exact hL.toH,Le.refl I⟩).mono fun e ρ J L hq=>a5X.q hq)
    fun v J L' w' hs hp=>by
      obtain⟨r,H,h1,h2,Hs',h3,h4⟩:=hp
      obtain⟨L2,R,h5,h6⟩:=h3 _ J L' h2
      have hin:∀ p∈L2.flatten,p∈L'.flatten:=fun p hp=>h5.mem_iff.1 (List.mem_append_left _ hp)
      refine⟨v,J,L2,j0,hs.W4,hs.U9,fun b h0 h1=>hs.new b h0 h1,⟨hs.mem.im,fun p hp=>hs.mem.loc p (hin p hp),fun p hp=>hs.mem.sep p (hin p hp),?_⟩,fun p hp=>hs.own p (hin p hp),r,_,h1,h6,h4⟩
      have:=(h5.map Prod.fst).nodup_iff.2 hs.mem.nodup
      rw [List.map_append,List.nodup_append] at this
      exact this.1⟩
end Go.Ab
namespace Go.Ab
open Go.Fl Go.RowKit
open u3 (rep)
variable {P:Program}{N:Nat}{C:Ctx}{σ:o8}{H:j8}{K:AV→Prop}{d:Option Nat}{ty:TypeId}{ps:String}{af:Array Edge}{g:Option (Nat×Bool)}{x y:Operand}{T T2:TypeId}
theorem a2f {m:Int}(h0:0≤m)(h1:m≤9223372036854775807):(BitVec.ofInt 64 m).toNat=m.toNat:=by
 rw [BitVec.toNat_ofInt,Int.emod_eq_of_lt h0 (by omega)]
theorem wrap64 {n:Nat}(h:n < 2^63):IntKind.wrap .i64 (n:Int)=(n:Int):=wrap_i64 (by omega) (by omega)
theorem c2m {m n:Int}(h0:0≤m)(h1:0≤n)(hm:m≤9223372036854775807)(hn:n≤9223372036854775807):binOp .and T (i64 m) (i64 n)=pure (i64 ((m.toNat &&& n.toNat:Nat):Int)):=by
 show Op.intBits .and .i64 m n=_
 unfold Op.intBits
 have e:((BitVec.ofInt 64 m) &&& (BitVec.ofInt 64 n)).toNat=m.toNat &&& n.toNat:=by rw [BitVec.toNat_and,a2f h0 hm,a2f h1 hn]
 have hb:m.toNat &&& n.toNat < 2^63:=Nat.lt_of_le_of_lt Nat.and_le_left (by omega)
 show(pure (Value.int .i64 (IntKind.wrap .i64 (((BitVec.ofInt 64 m) &&& (BitVec.ofInt 64 n)).toNat:Int))):Sem Value)=_
 rw [e,wrap64 hb]
theorem c5b {m n:Int}(h0:0≤m)(h1:0≤n)(hm:m≤9223372036854775807)(hn:n≤9223372036854775807):binOp .or T (i64 m) (i64 n)=pure (i64 ((m.toNat ||| n.toNat:Nat):Int)):=by
 show Op.intBits .or .i64 m n=_
 unfold Op.intBits
 have e:((BitVec.ofInt 64 m) ||| (BitVec.ofInt 64 n)).toNat=m.toNat ||| n.toNat:=by rw [BitVec.toNat_or,a2f h0 hm,a2f h1 hn]
 have hb:m.toNat ||| n.toNat < 2^63:=Nat.or_lt_two_pow (by omega) (by omega)
 show(pure (Value.int .i64 (IntKind.wrap .i64 (((BitVec.ofInt 64 m) ||| (BitVec.ofInt 64 n)).toNat:Int))):Sem Value)=_
 rw [e,wrap64 hb]
theorem OpP.c9S {m n:Int}(hx:G5 C σ H x (.v m))(hy:G5 C σ H y (.v n))(h0:0≤m)(h1:0≤n)(k:K (.v (((m.toNat &&& n.toNat:Nat):Int)))):OpP P N C ⟨d,.binOp .and T x y T2,ty,ps,af,g⟩ σ H K :=
 .vk k (fun ρ I L hs=>by
  obtain⟨e1,_,b1⟩:=hx.int hs
  obtain⟨e2,_,b2⟩:=hy.int hs
  have hb:m.toNat &&& n.toNat≤m.toNat:=Nat.and_le_left
  exact .mk ⟨_,⟨rfl,by omega,by omega⟩,rfl⟩ fun a w ha hm=>by
   simp [execOp,ha.ev e1,ha.ev e2,eqGuard,c2m h0 h1 b1 b2,asV,u3.agg])
theorem OpP.orI {m n:Int}(hx:G5 C σ H x (.v m))(hy:G5 C σ H y (.v n))(h0:0≤m)(h1:0≤n)(k:K (.v (((m.toNat ||| n.toNat:Nat):Int)))):OpP P N C ⟨d,.binOp .or T x y T2,ty,ps,af,g⟩ σ H K :=
 .vk k (fun ρ I L hs=>by
  obtain⟨e1,_,b1⟩:=hx.int hs
  obtain⟨e2,_,b2⟩:=hy.int hs
  have hb:m.toNat ||| n.toNat < 2^63:=Nat.or_lt_two_pow (by omega) (by omega)
  exact .mk ⟨_,⟨rfl,by omega,by omega⟩,rfl⟩ fun a w ha hm=>by
   simp [execOp,ha.ev e1,ha.ev e2,eqGuard,c5b h0 h1 b1 b2,asV,u3.agg])
theorem OpP.c6L {m:Int}{n:UInt64}(hx:G5 C σ H x (.v m))(hy:G5 C σ H y (.v n))(h1:n.toNat < 64)(k:K (.v (m >>> n.toNat))):OpP P N C ⟨d,.binOp .shr T x y T2,ty,ps,af,g⟩ σ H K :=
 .vk k (fun ρ I L hs=>by
  have hm:=(hx.int hs).2
  refine .mk ⟨_,⟨rfl,?_,?_⟩,rfl⟩ fun a w ha hm=>by
   have e:=b4c T m .u64 n.toNat h1
   simp only [execOp,ha.ev (hx.int hs).1,ha.ev (hy.a4i hs),eqGuard]
   simp [Fl.u64,e,asV,u3.agg]
  ·rw [Int.shiftRight_eq_div_pow]
   rcases Int.le_total 0 m with h|h
   ·have:=Int.ediv_nonneg h (Int.natCast_nonneg (2^n.toNat));omega
   ·have h2:(1:Int)≤((2^n.toNat:Nat):Int):=Int.natCast_pos.2 (Nat.two_pow_pos _)
    have:=Int.le_ediv_of_mul_le (a:=m) (b:=m) (c:=((2^n.toNat:Nat):Int)) (by omega) (by have:=Int.mul_le_mul_of_nonpos_left h h2;omega)
    omega
  ·rw [Int.shiftRight_eq_div_pow]
   rcases Int.le_total 0 m with h|h
   ·have:=Int.ediv_le_self ((2^n.toNat:Nat):Int) h;omega
   ·have h2:(0:Int) < ((2^n.toNat:Nat):Int):=Int.natCast_pos.2 (Nat.two_pow_pos _)
    have:=Int.ediv_lt_of_lt_mul (a:=m) (b:=1) h2 (by omega);omega)
theorem b0d {dd:TypeDesc}{b:Bool}(h:P.underlying T=some dd)(hb:a1O dd=b):∀ w,(isAgg T).run P w = .ok b w:=fun w=>hb▸a2U h w
theorem a8F {n:Nat}(h:(P.info? T).map (·.size)=some n):∀ w,(Go.sizeOf T).run P w = .ok n w:=fun w=>G6.run h w
theorem b0e {v:Value}(h:(P.info? T).bind (·.zero)=some v):∀ w,(zeroValue T).run P w = .ok v w:=fun w=>by
 cases hq:P.info? T with
 | none=>simp [hq] at h
 | some i=>simp [hq] at h;simp [zeroValue,typeInfo,hq,h]
theorem C6.b9E {G:Gl}{P:Program}{f:FuncId}{ags:List AV}{E:TypeId}{α:Type}[r:u3 α]{l:List α}{b:AV}(h:C6 G P f ags [] (fun r Hs=>∃ u,r = .t2 (.raw u) b∧Hs = [.own E u l])):C4 G P f ags (fun r=>r = .t2 (.v l) b):=fun I vs hG hvs=>by
 have hM:=h I [] vs hG hvs rfl
 refine⟨hM.ok,fun w hm=>(hM.run w hm).mono ?_⟩
 rintro e w' ⟨v,J,L',rfl,q1,q2,q3,q4,q5,r,Hs',q6,q7,u,rfl,rfl⟩
 obtain⟨X,R,rfl,q8,q9⟩:=q7
 have q9':R = []:=q9
 subst q9'
 obtain⟨x,y,rfl,q6',q6b⟩:=q6
 have q6'':x=u:=q6'
 subst q6''
 have hle:Le J (J.with X):=Im.a03 fun p hp=>q4.sep p (by simpa using hp)
 refine⟨_,J.with X,rfl,by simpa using q1,q2.trans hle,fun b h0 h1 => ?_,(q4.freeze (i:=0) (c:=X) rfl).drop,.t2 (.v l) b,⟨x,y,rfl,O9 q8 hle (fun p hp=>Im.a0U (by simpa using q4.nodup) hp),q6b.mono hle⟩,rfl⟩
 cases hj:J.with X b with
 | none=>exact absurd hj h1
 | some o =>
  rcases Im.a0g hj with h2|h2
  ·rcases q5 (b,o) (by simpa using h2) with h3|h3
   ·exact h3
   ·cases h3
  ·exact q3 b h0 (by simp [h2])
section clo
variable {C:Ctx}{σ:o8}{H:j8}{G:Gl}{f:FuncId}{args:Array Operand}{tys:Array TypeId}
end clo
theorem OpP.c5c {α:Type}{r:u3 α}{n:Nat}{l:List α}{A E:TypeId}(hA:P.underlying A=some (.array n E))(hn:0 < n)(hz:0 < u3.size α)(hx:G5 C σ H x (.v l))(h:l.length=n)(k:K (.p (⟨l,h⟩:M4 n α))) :
    OpP P N C ⟨d,.sliceToArrayPointer A x,ty,ps,af,g⟩ σ H K :=
  .vk k (fun ρ I L hs=>by
    obtain⟨u,hu,xs,hsl,hl⟩:=hx.sl hs
    obtain⟨a,c,rfl,hlen,h3,h4,h5,h6⟩:=hsl
    have hne:xs ≠ []:=by
      intro e
      have:=hl.len
      rw [e,h] at this
      have h7:0 < n*u3.size α:=Nat.mul_pos hn hz
      simp at this;omega
    obtain⟨b,o,rfl,hc⟩:=h6 hne
    refine .mk ⟨b,o,xs,j0,hl,hc⟩ fun ac w ha hm => ?_
    have hle:¬l.length < n:=by omega
    simp [execOp,ha.ev hu,Instr.arrayAt,run_underlying hA,h])
theorem OpP.b6z {m:UInt64}{n:Int}(hx:G5 C σ H x (.v m))(hy:G5 C σ H y (.v n))(h0:0≤n)(h1:n < 64)(k:K (.v (m >>> UInt64.ofNat n.toNat))) :
    OpP P N C ⟨d,.binOp .shr T x y T2,ty,ps,af,g⟩ σ H K :=
  .vk k (fun ρ I L hs=>O3.c6r n.toNat (hx.a4i hs) (hy.int hs).1 (by omega) (by omega) ⟨_,rfl,rfl⟩)
end Go.Ab
namespace Go.Ab
open Go.Fl Go.RowKit
open u3 (rep)
section
variable {P:Program}{C:Ctx}{N:Nat}{σ:o8}{H:j8}{E:TypeId}{α:Type}[r0:u3 α]
def St2 (E:TypeId)(x y:List α)(listed:Array Bool)(cacc:List (Nat×AV))(i j:Nat)(u:Value)(l:List α):Prop :=
 listed.getD i false=true∧((listed.getD j false=false∧l=x∧F7 cacc i=some (.raw u))∨(listed.getD j false=true∧l=y∧F7 cacc j=some (.raw u)))
theorem c2n {a:Array Bool}{i j:Nat}(h:i < a.size):(a.setIfInBounds i true).getD j false=if i=j then true else a.getD j false:=by
 simp only [Array.getD_eq_getD_getElem?,Array.getElem?_setIfInBounds]
 by_cases e:i=j
 ·subst e;simp [h]
 ·simp [e]
end
end Go.Ab
namespace Go.Ab
open Go.Fl Go.RowKit
open u3 (rep)
abbrev Nm:=Value×Nat
structure MSt where
 i:Nat
 key:Nat
 R:Nm→AV
 B:Nm→Bool×C3
structure MSl where
 ini:Bool×C3
 st:List MSt
def c9U (f:Nat→Bool)(nm:Nat→Nm):(Bool×C3)→List MSt→Bool×C3
 | B,[]=>B
 | B,t::r=>c9U f nm (bif f t.i then t.B (nm t.key) else B) r
def allM (sl:List MSl):List MSt:=sl.flatMap MSl.st
def d3X (sl:List MSl):List Nat:=(allM sl).map MSt.i
def d3A (f:Nat→Bool)(nm:Nat→Nm)(sl:List MSl):j8:=sl.map fun s=>c9U f nm s.ini s.st
def upS (f:Nat→Bool):List MSt→Prop
 | []=>True
 | t::r=>(f t.i=false→∀ u∈r,f u.i=false)∧upS f r
section
variable {P:Program}{C:Ctx}{N:Nat}{σ:o8}{H:j8}
theorem H9.again {H:j8}{B B':Bool×C3}{F:Bool×C3→j8}(h:H9 H B F):H9 (F B') B' F:=by
 induction h with
 | z=>exact .z
 | s h ih=>exact .s ih
theorem OpH.c2o {o:Oper}{KH:AV→j8→Prop}(hC:Ctx.Ok C){E:TypeId}{α:Type}{r:u3 α}{l:List α}(k:OpH P C N o σ H (fun x H'=>∃ w F,x = .raw w∧H9 H' (true,.own E w l) F∧KH (.v l) (F (true,.fz w (.v l))))):OpH P C N o σ H KH:=fun ρ I L hs a w0 ha hst=>by
 refine Yld.mono (k ρ I L hs a w0 ha hst) ?_
 rintro v w' ⟨J,L',hst,hle,x,H',h1,h2,w,F,rfl,hh,hk⟩
 obtain⟨i,X,g1,g2,g3⟩:=hh.get h2
 have hst2:=hst.freeze g1 (a3F hC g2)
 have hle2:Le J (J.with X):=Im.a03 (fun p hp=>hst.mem.sep p (G3 g1 hp))
 have hp:∀ p∈X,J.with X p.1=some p.2:=fun p hp=>Im.a0U (a0r hst.mem.nodup g1) hp
 have hv:=O9 g2.1 hle2 hp
 cases h1
 exact⟨_,_,hst2,hle.trans hle2,.v l,_,hv,g3 _ (true,.fz _ (.v l)) [] hle2 ⟨⟨rfl,hv⟩,by simp⟩,hk⟩
end
end Go.Ab
namespace Go.Ab
open Go.Fl Go.RowKit
open u3 (rep)
universe u
class TyI (P:Program)(T:TypeId)(α:outParam Type)(r:outParam (u3 α))(i:outParam (Inhabited α)):Prop where h:K1 P T α
class UnI (P:Program)(T:TypeId)(d:outParam TypeDesc):Prop where h:P.underlying T=some d
class SlI (P:Program)(T:TypeId)(E:outParam TypeId)(α:outParam Type)(n:outParam Nat)(r:outParam (u3 α))(i:outParam (Inhabited α)):Prop where h:SlT P T E α n
class FdI (P:Program)(T:TypeId)(i:Nat)(β:outParam Type)(s:outParam (u3 β))(γ:outParam Type)(q:outParam (u3 γ))(m:outParam (j9 β γ))(f:outParam (β→γ)):Prop where
 h:∃ sz,y4 P T i=some (m.off,sz+1,u3.agg γ)∧sz+1=u3.size γ
 e:∀ x,m.get x=f x
 b:u3.agg β=true
class Q2 {β γ:Type}{s:u3 β}{q:u3 γ}(m:j9 β γ)(f:outParam (β→γ))(g:outParam (γ→β→β)):Prop where
 e:∀ x,m.get x=f x
 u:∀ y x,m.set y x=g y x
abbrev TyJ (P:Program)(T:TypeId)(α:Type)[r:u3 α][i:Inhabited α]:Prop:=TyI P T α r i
abbrev SlJ (P:Program)(T E:TypeId)(α:Type)(n:Nat)[r:u3 α][i:Inhabited α]:Prop:=SlI P T E α n r i
abbrev Z5 (P:Program)(T:TypeId)(i:Nat){β γ:Type}[s:u3 β][q:u3 γ](m:j9 β γ)(f:β→γ):Prop:=FdI P T i β s γ q m f
theorem FdI.mk' {P:Program}{T:TypeId}{i:Nat}{β:Type}{s:u3 β}{γ:Type}{q:u3 γ}{m:j9 β γ}{f:β→γ}{off sz:Nat}{ag:Bool}(hf:y4 P T i=some (off,sz+1,ag))(ho:off=m.off)(hz:sz+1=u3.size γ)(hg:ag=u3.agg γ)(e:∀ x,m.get x=f x)(b:u3.agg β=true):FdI P T i β s γ q m f:=by
 subst ho;subst hg
 exact⟨⟨sz,hf,hz⟩,e,b⟩
@[reducible] def lookW:o8→Nat→Option AV
 | [],_=>none
 | (s,a)::r,t=>match Nat.beq s t with|true=>some a|false=>lookW r t
theorem a63:∀ (σ:o8) (t:Nat),lookW σ t=F6 σ t
 | [],_=>rfl
 | (s,a)::r,t=>by
  unfold lookW F6
  cases Nat.beq s t with
  | true=>rfl
  | false=>exact a63 r t
@[reducible] def a8a:List Oper→Nat→Option Nat
 | [],_=>none
 | o::_,0=>o.dst
 | _::l,n+1=>a8a l n
theorem a4p:∀ (l:List Oper) (n:Nat),a8a l n=(l.toArray[n]?).bind (·.dst)
 | [],_=>by simp [a8a]
 | _::_,0=>by simp [a8a]
 | _::l,n+1=>by
  have:=a4p l n
  simp only [a8a]
  simpa using this
@[reducible] def b9F (N:Nat):List Oper→Bool
 | []=>true
 | o::l=>match o.dst with|none=>b9F N l|some d=>match Nat.ble (d+1) N with|true=>b9F N l|false=>false
theorem b2P {N:Nat}:∀ {l:List Oper},b9F N l=true→R7 N l=true
 | [],_=>by rfl
 | o::l,h=>by
  have ih:=b2P (N:=N) (l:=l)
  unfold b9F at h
  cases ho:o.dst with
  | none=>simp_all [R7]
  | some d =>
   rw [ho] at h
   simp only at h
   split at h
   ·rename_i hb
    have:=Nat.le_of_ble_eq_true hb
    simp_all [R7]
    try omega
   ·cases h
@[reducible] def c7B:List UInt8→Nat→Bool
 | [],_=>true
 | _::l,n+1=>c7B l n
 | _::_,0=>false
theorem b8x:∀ {l:List UInt8} {n:Nat},c7B l n=true→l.length≤n
 | [],_,_=>by simp
 | _::l,n+1,h=>by
  have:=b8x (l:=l) (n:=n) h
  simp;omega
 | _::_,0,h=>by cases h
class EqS {α:Type u}(x:Option α)(a:outParam α):Prop where h:x=some a
instance {α:Type u}{a:α}:EqS (no_index (some a)) a:=⟨rfl⟩
class LkQ (σ:o8)(t:Nat)(a:outParam AV):Prop where h:F6 σ t=some a
instance (priority:=low){σ:o8}{t:Nat}{a:AV}[h:EqS (lookW σ t) a]:LkQ σ t a:=⟨(a63 σ t).symm.trans h.h⟩
class TrB (b:Bool):Prop where h:b=true
instance:TrB (no_index true):=⟨rfl⟩
class FaB (b:Bool):Prop where h:b=false
instance:FaB (no_index false):=⟨rfl⟩
class AsC (c:Bool)(a:AV)(b:outParam AV):Prop where h:∀ I u,c=true→F9 I a u→F9 I b u
instance (priority:=low){c:Bool}{a:AV}:AsC c a a:=⟨fun _ _ _ h=>h⟩
instance {c:Bool}{a:AV}:AsC c (.opt c a) a:=⟨fun _ _ e h=>h e⟩
class VaQ (a:AV)(α:outParam Type)(r:outParam (u3 α))(x:outParam α):Prop where h:∀ I u,F9 I a u→F9 I (.v x) u
instance {α:Type}{r:u3 α}{x:α}:VaQ (.v x) α r x:=⟨fun _ _ h=>h⟩
instance {α:Type}{r:u3 α}{l:List α}:VaQ (.vc l) (List α) inferInstance l:=⟨fun _ u h=>⟨[u],⟨u,rfl,h.2⟩,rfl⟩⟩
class EvQ (c:Bool)(σ:o8)(x:Operand)(a:outParam AV):Prop where h:∀ C H,c=true→G5 C σ H x a
class T9 (c:Bool)(σ:o8)(x:Operand)(α:outParam Type)(r:outParam (u3 α))(v:outParam α):Prop where h:∀ C H,c=true→G5 C σ H x (.v v)
section
variable {P:Program}{σ:o8}{x y z:Operand}{c bo:Bool}{n:Nat}
instance {t:Nat}{a b:AV}[h:LkQ σ t a][k:AsC c a b]:EvQ c σ (.tmp t) b:=⟨fun C H e ρ I L hs=>by
 obtain⟨u,h1,h2⟩:=hs.env t a h.h
 exact⟨u,h1,k.h I u e h2⟩⟩
instance:EvQ c σ (.const (.bool bo)) (.v bo):=⟨fun _ _ _ => .b⟩
instance [h:TrB (Nat.ble n 9223372036854775807)]:EvQ c σ (.const (.int .i64 (no_index (@OfNat.ofNat Int n _)))) (.v (@OfNat.ofNat Int n _)):=⟨fun _ _ _ => .i (by
 have:=Nat.le_of_ble_eq_true h.h
 simp only [Bool.and_eq_true,decide_eq_true_eq]
 show -9223372036854775808≤(n:Int)∧(n:Int)≤9223372036854775807
 omega)⟩
instance {l:List UInt8}[h:TrB (c7B l 10000)]:EvQ c σ (.const (.string (ByteArray.mk (List.toArray l)))) (.v (Str.mk l)):=⟨fun _ _ _ => .s l (by simp) (Nat.le_trans (b8x h.h) (by decide))⟩
instance [h:TrB (Nat.ble n 255)]:EvQ c σ (.const (.int .u8 (no_index (@OfNat.ofNat Int n _)))) (.v (@OfNat.ofNat UInt8 n _)):=⟨fun _ _ _ => .u8 _ (by
 have:=Nat.le_of_ble_eq_true h.h
 show(n:Int)=_
 have:(OfNat.ofNat n:UInt8).toNat=n % 2^8:=UInt8.toNat_ofNat'
 omega)⟩
instance [h:TrB (Nat.ble n 18446744073709551615)]:EvQ c σ (.const (.int .u64 (no_index (@OfNat.ofNat Int n _)))) (.v (@OfNat.ofNat UInt64 n _)):=⟨fun _ _ _ => .u64 _ (by
 have:=Nat.le_of_ble_eq_true h.h
 show(n:Int)=_
 have:(OfNat.ofNat n:UInt64).toNat=n % 2^64:=UInt64.toNat_ofNat'
 omega)⟩
instance {a:AV}{α:Type}{r:u3 α}{v:α}[h:EvQ c σ x a][k:VaQ a α r v]:T9 c σ x α r v:=⟨fun C H e ρ I L hs=>by
 obtain⟨u,h1,h2⟩:=h.h C H e ρ I L hs
 exact⟨u,h1,k.h I u h2⟩⟩
end
class HoQ (H:j8)(w:Value)(B:outParam (Bool×C3))(F:outParam (Bool×C3→j8)):Prop where h:H9 H B F
instance (priority:=low){A B:Bool×C3}{H:j8}{w:Value}{F:Bool×C3→j8}[k:HoQ H w B F]:HoQ (A::H) w B (fun X=>A::F X):=⟨.s k.h⟩
instance {g:Bool}{α:Type}{r:u3 α}{a:α}{H:j8}{w:Value}:HoQ ((g,.ob w a)::H) w (g,.ob w a) (fun X=>X::H):=⟨.z⟩
instance {g:Bool}{α:Type}{r:u3 α}{E:TypeId}{a:List α}{H:j8}{w:Value}:HoQ ((g,.own E w a)::H) w (g,.own E w a) (fun X=>X::H):=⟨.z⟩
class OpQ (G:Gl)(P:Program)(c:Bool)(o:Oper)(σ:o8)(H:j8)(r:outParam AV):Prop where h:∀ N C,G.p C.I0→c=true→OpP P N C o σ H (fun a=>a=r)
class LdQ (P:Program)(T:TypeId)(a:AV)(H:j8)(r:outParam AV):Prop where h:∀ N C σ x d ty ps af g,G5 C σ H x a→OpP P N C ⟨d,.load T x,ty,ps,af,g⟩ σ H (fun a=>a=r)
class FaQ (P:Program)(T:TypeId)(i:Nat)(a:AV)(r:outParam AV):Prop where h:∀ N C σ H x d ty ps af g,G5 C σ H x a→OpP P N C ⟨d,.fieldAddr T x i,ty,ps,af,g⟩ σ H (fun a=>a=r)
section
variable {G:Gl}{P:Program}{N:Nat}{c:Bool}{σ:o8}{H:j8}{d:Option Nat}{ty:TypeId}{ps:String}{af:Array Edge}{g:Option (Nat×Bool)}{x y z:Operand}{T T2 E:TypeId}{bo:Bool}{a b:AV}
instance {α:Type}{r:u3 α}{i:Inhabited α}{a:α}[t:TyI P T α r i]:LdQ P T (.p a) H (.v a):=⟨fun N C σ x d ty ps af g h => .ldP t.h h rfl⟩
instance {α:Type}{r:u3 α}{i:Inhabited α}{w:Value}{a:α}{bb:Bool}{F:Bool×C3→j8}[t:TyI P T α r i][k:HoQ H w (bb,.ob w a) F]:LdQ P T (.ln w (j9.id (α:=α))) H (.v a):=⟨fun N C σ x d ty ps af g h => .ldW t.h h k.h rfl⟩
instance (priority:=low){α β:Type}{r:u3 α}{s:u3 β}{i:Inhabited β}{w:Value}{l:j9 α β}{a:α}{bb:Bool}{F:Bool×C3→j8}{f:α→β}{f':β→α→α}[t:TyI P T β s i][n:Q2 l f f'][k:HoQ H w (bb,.ob w a) F]:LdQ P T (.ln w l) H (.v (f a)):=⟨fun N C σ x d ty ps af g h => .ldF f t.h h k.h n.e rfl⟩
instance {β γ:Type}{s:u3 β}{q:u3 γ}{i:Nat}{a:β}{m:j9 β γ}{f:β→γ}[n:FdI P T i β s γ q m f]:FaQ P T i (.p a) (.p (f a)):=⟨fun N C σ H x d ty ps af g h=>by
 obtain⟨sz,k,_⟩:=n.h
 exact .a0Z m f k j0 n.e h j0⟩
instance {β γ:Type}{s:u3 β}{q:u3 γ}{i:Nat}{w:Value}{m:j9 β γ}{f:β→γ}[n:FdI P T i β s γ q m f]:FaQ P T i (.ln w (j9.id (α:=β))) (.ln w m):=⟨fun N C σ H x d ty ps af g h=>by
 obtain⟨sz,k,_⟩:=n.h
 exact .P5 m k j0 h j0⟩
instance {α β:Type}{r:u3 α}{s:u3 β}{w:Value}{l:j9 α β}[h:EvQ c σ x (.ln w l)]:OpQ G P c ⟨d,.nilCheck x,ty,ps,af,g⟩ σ H (.ln w l):=⟨fun N C hG e => .E3 (h.h C H e) rfl⟩
instance {β:Type}{s:u3 β}{a:β}[h:EvQ c σ x (.p a)]:OpQ G P c ⟨d,.nilCheck x,ty,ps,af,g⟩ σ H (.p a):=⟨fun N C hG e => .b9C (h.h C H e) rfl⟩
instance (priority:=low){α β γ:Type}{r:u3 α}{s:u3 β}{q:u3 γ}{i:Nat}{w:Value}{l:j9 α β}{m:j9 β γ}{f:β→γ}[n:FdI P T i β s γ q m f]:FaQ P T i (.ln w l) (.ln w (l.comp m)):=⟨fun N C σ H x d ty ps af g h=>by
 obtain⟨sz,k,_⟩:=n.h
 exact .a2n m k j0 h j0⟩
instance {β γ δ:Type}{r:u3 β}{s:u3 γ}{q:u3 δ}{l:j9 β γ}{m:j9 γ δ}{f:β→γ}{f':γ→β→β}{k:γ→δ}{k':δ→γ→γ}[a:Q2 l f f'][b:Q2 m k k']:Q2 (l.comp m) (fun x=>k (f x)) (fun y x=>f' (k' y (f x)) x):=⟨fun x=>by
 show m.get (l.get x)=_
 rw [a.e,b.e],fun y x=>by
 show l.set (m.set y (l.get x)) x=_
 rw [a.e,b.u,a.u]⟩
instance [h:EvQ c σ x a]:OpQ G P c ⟨d,.move x,ty,ps,af,g⟩ σ H a:=⟨fun N C hG e => .move (h.h C H e) rfl⟩
instance [h:EvQ c σ x a]:OpQ G P c ⟨d,.assign x,ty,ps,af,g⟩ σ H a:=⟨fun N C hG e => .assign (h.h C H e) rfl⟩
instance {α:Type}{r:u3 α}{n:Nat}{i:Inhabited α}{E:TypeId}[t:SlI P ty E α n r i]:OpQ G P c ⟨d,.assign (.const (.slice none 0 0)),ty,ps,af,g⟩ σ H (.v ([]:List α)):=⟨fun N C hG e => .assign .b1h rfl⟩
instance [h:EvQ c σ x a][k:LdQ P T a H b]:OpQ G P c ⟨d,.load T x,ty,ps,af,g⟩ σ H b:=⟨fun N C hG e=>k.h N C σ x d ty ps af g (h.h C H e)⟩
instance {i:Nat}[h:EvQ c σ x a][k:FaQ P T i a b]:OpQ G P c ⟨d,.fieldAddr T x i,ty,ps,af,g⟩ σ H b:=⟨fun N C hG e=>k.h N C σ H x d ty ps af g (h.h C H e)⟩
instance {α:Type}{r:u3 α}{l:List α}[h:T9 c σ x (List α) inferInstance l][u:UnI P T (.slice E)]:OpQ G P c ⟨d,.call ⟨.builtin .len,#[x],#[T]⟩,ty,ps,af,g⟩ σ H (.v (l.length:Int)):=⟨fun N C hG e => .len u.h (h.h C H e) rfl⟩
instance {s:Str}[h:T9 c σ x Str inferInstance s][u:UnI P T .string]:OpQ G P c ⟨d,.call ⟨.builtin .len,#[x],#[T]⟩,ty,ps,af,g⟩ σ H (.v (s.l.length:Int)):=⟨fun N C hG e => .c68 u.h (h.h C H e) rfl⟩
section
variable {m n:Int}[hx:T9 c σ x Int inferInstance m][hy:T9 c σ y Int inferInstance n]
instance:OpQ G P c ⟨d,.binOp .lss T x y T2,ty,ps,af,g⟩ σ H (.v (decide (m < n))):=⟨fun N C hG e => .lss (hx.h C H e) (hy.h C H e) rfl⟩
instance:OpQ G P c ⟨d,.binOp .leq T x y T2,ty,ps,af,g⟩ σ H (.v (decide (m≤n))):=⟨fun N C hG e => .leq (hx.h C H e) (hy.h C H e) rfl⟩
instance:OpQ G P c ⟨d,.binOp .gtr T x y T2,ty,ps,af,g⟩ σ H (.v (decide (n < m))):=⟨fun N C hG e => .gtr (hx.h C H e) (hy.h C H e) rfl⟩
instance:OpQ G P c ⟨d,.binOp .geq T x y T2,ty,ps,af,g⟩ σ H (.v (decide (n≤m))):=⟨fun N C hG e => .geq (hx.h C H e) (hy.h C H e) rfl⟩
instance:OpQ G P c ⟨d,.binOp .eql T x y T2,ty,ps,af,g⟩ σ H (.v (decide (m=n))):=⟨fun N C hG e => .b6a (hx.h C H e) (hy.h C H e) rfl⟩
instance:OpQ G P c ⟨d,.binOp .neq T x y T2,ty,ps,af,g⟩ σ H (.v (decide (m≠n))):=⟨fun N C hG e => .b9o (hx.h C H e) (hy.h C H e) rfl⟩
end
section
variable {m n:UInt64}[hx:T9 c σ x UInt64 inferInstance m][hy:T9 c σ y UInt64 inferInstance n]
instance:OpQ G P c ⟨d,.binOp .eql T x y T2,ty,ps,af,g⟩ σ H (.v (decide (m=n))):=⟨fun N C hG e => .c6B (hx.h C H e) (hy.h C H e) rfl⟩
instance:OpQ G P c ⟨d,.binOp .or T x y T2,ty,ps,af,g⟩ σ H (.v (m ||| n)):=⟨fun N C hG e => .c67 (hx.h C H e) (hy.h C H e) rfl⟩
instance:OpQ G P c ⟨d,.binOp .and T x y T2,ty,ps,af,g⟩ σ H (.v (m &&& n)):=⟨fun N C hG e => .b7T (hx.h C H e) (hy.h C H e) rfl⟩
instance:OpQ G P c ⟨d,.binOp .sub T x y T2,ty,ps,af,g⟩ σ H (.v (m - n)):=⟨fun N C hG e => .b7W (hx.h C H e) (hy.h C H e) rfl⟩
instance:OpQ G P c ⟨d,.binOp .neq T x y T2,ty,ps,af,g⟩ σ H (.v (decide (m≠n))):=⟨fun N C hG e => .c9s (hx.h C H e) (hy.h C H e) rfl⟩
end
section
variable {m n:UInt8}[hx:T9 c σ x UInt8 inferInstance m][hy:T9 c σ y UInt8 inferInstance n]
instance:OpQ G P c ⟨d,.binOp .lss T x y T2,ty,ps,af,g⟩ σ H (.v (decide (m < n))):=⟨fun N C hG e => .d1Z (hx.h C H e) (hy.h C H e) rfl⟩
instance:OpQ G P c ⟨d,.binOp .gtr T x y T2,ty,ps,af,g⟩ σ H (.v (decide (n < m))):=⟨fun N C hG e => .d2a (hx.h C H e) (hy.h C H e) rfl⟩
instance:OpQ G P c ⟨d,.binOp .eql T x y T2,ty,ps,af,g⟩ σ H (.v (decide (m=n))):=⟨fun N C hG e => .d2b (hx.h C H e) (hy.h C H e) rfl⟩
instance:OpQ G P c ⟨d,.binOp .xor T x y T2,ty,ps,af,g⟩ σ H (.v (m ^^^ n)):=⟨fun N C hG e => .c1p (hx.h C H e) (hy.h C H e) rfl⟩
instance:OpQ G P c ⟨d,.binOp .and T x y T2,ty,ps,af,g⟩ σ H (.v (m &&& n)):=⟨fun N C hG e => .c66 (hx.h C H e) (hy.h C H e) rfl⟩
end
section
variable {m n:Str}[hx:T9 c σ x Str inferInstance m][hy:T9 c σ y Str inferInstance n]
instance:OpQ G P c ⟨d,.binOp .eql T x y T2,ty,ps,af,g⟩ σ H (.v (decide (m=n))):=⟨fun N C hG e => .d2g (hx.h C H e) (hy.h C H e) rfl⟩
end
instance [h:T9 c σ x Bool inferInstance bo]:OpQ G P c ⟨d,.unOp .not T x,ty,ps,af,g⟩ σ H (.v (!bo)):=⟨fun N C hG e => .not (h.h C H e) rfl⟩
instance {v:Bool}[h:T9 c σ x Bool inferInstance bo][k:T9 (bo == true) σ y Bool inferInstance v]:OpQ G P c ⟨d,.pick x y (.const (.bool false)),ty,ps,af,g⟩ σ H (.v (bo&&v)):=⟨fun N C hG e => .a2I (h.h C H e) (fun e=>k.h C H (beq_iff_eq.2 e)) rfl⟩
instance {v:Bool}[h:T9 c σ x Bool inferInstance bo][k:T9 (bo == false) σ y Bool inferInstance v]:OpQ G P c ⟨d,.pick x (.const (.bool true)) y,ty,ps,af,g⟩ σ H (.v (bo||v)):=⟨fun N C hG e => .b6r (h.h C H e) (fun e=>k.h C H (beq_iff_eq.2 e)) rfl⟩
instance {b:AV}[h:EvQ c σ x (.t2 a b)]:OpQ G P c ⟨d,.extract x 0,ty,ps,af,g⟩ σ H a:=⟨fun N C hG e => .c10 (h.h C H e) rfl⟩
instance {b:AV}[h:EvQ c σ x (.t2 a b)]:OpQ G P c ⟨d,.extract x 1,ty,ps,af,g⟩ σ H b:=⟨fun N C hG e => .c11 (h.h C H e) rfl⟩
instance {b b':AV}[h:EvQ c σ x (.t3 a b b')]:OpQ G P c ⟨d,.extract x 0,ty,ps,af,g⟩ σ H a:=⟨fun N C hG e => .b6s (h.h C H e) rfl⟩
instance {b b':AV}[h:EvQ c σ x (.t3 a b b')]:OpQ G P c ⟨d,.extract x 1,ty,ps,af,g⟩ σ H b:=⟨fun N C hG e => .b2G (h.h C H e) rfl⟩
instance {b b':AV}[h:EvQ c σ x (.t3 a b b')]:OpQ G P c ⟨d,.extract x 2,ty,ps,af,g⟩ σ H b':=⟨fun N C hG e => .b2H (h.h C H e) rfl⟩
instance {m:Int}{S D:TypeId}{ds:TypeDesc}[h:T9 c σ x Int inferInstance m][a:UnI P S ds][b:UnI P D (.int .u64)]:OpQ G P c ⟨d,.convert S D x,ty,ps,af,g⟩ σ H (.v (UInt64.ofInt m)):=⟨fun N C hG e => .a9L a.h b.h (h.h C H e) rfl⟩
instance {m:Int}{S D:TypeId}{ds:TypeDesc}[h:T9 c σ x Int inferInstance m][a:UnI P S ds][b:UnI P D (.int .u8)]:OpQ G P c ⟨d,.convert S D x,ty,ps,af,g⟩ σ H (.v (UInt8.ofInt m)):=⟨fun N C hG e => .c1w a.h b.h (h.h C H e) rfl⟩
end
theorem OpP.to {P:Program}{C:Ctx}{N:Nat}{o:Oper}{σ:o8}{H:j8}{r:AV}{K:AV→Prop}(h:OpP P N C o σ H (fun a=>a=r))(k:K r):OpP P N C o σ H K:=fun ρ I L hs =>
 OpX.a4j (h ρ I L hs) fun v J X hle ⟨h1,a,h2,h3⟩=>⟨h1,a,h2,h3▸k⟩
class StQ (G:Gl)(P:Program)(ops:List Oper)(o:Oper)(σ:o8)(H:j8)(σ':outParam o8)(H':outParam j8):Prop where
 h:∀ N C Q rest,G.p C.I0→wpB P C N ops.toArray Q rest σ' H'→wpB P C N ops.toArray Q (o::rest) σ H
class SoQ (P:Program)(T:TypeId)(a b:AV)(H:j8)(H':outParam j8):Prop where
 h:∀ N C σ x y ty ps af g KH,G5 C σ H x a→G5 C σ H y b→KH .any H'→OpH P C N ⟨none,.store T x y,ty,ps,af,g⟩ σ H KH
section
variable {G:Gl}{P:Program}{ops:List Oper}{Q:Exit→o8→j8→Prop}{rest:List Oper}{σ:o8}{H H':j8}{ps:String}{af:Array Edge}{x y:Operand}{T ty:TypeId}
instance {d:Nat}{op:Op}{r:AV}[h:OpQ G P true ⟨some d,op,ty,ps,af,none⟩ σ H r]:StQ G P ops ⟨some d,op,ty,ps,af,none⟩ σ H ((d,r)::σ) H:=⟨fun N C Q rest hG k => .p ((h.h N C hG rfl).to k)⟩
instance {α:Type}{r:u3 α}{i:Inhabited α}{w:Value}{a v:α}{bb:Bool}{F:Bool×C3→j8}[t:TyI P T α r i][k:HoQ H w (bb,.ob w a) F]:SoQ P T (.ln w (j9.id (α:=α))) (.v v) H (F (bb,.ob w v)):=⟨fun N C σ x y ty ps af g KH hx hy q => .stW t.h hx hy k.h q⟩
instance (priority:=low){α β:Type}{r:u3 α}{s:u3 β}{i:Inhabited β}{w:Value}{l:j9 α β}{a:α}{v:β}{bb:Bool}{F:Bool×C3→j8}{f:α→β}{f':β→α→α}[t:TyI P T β s i][n:Q2 l f f'][k:HoQ H w (bb,.ob w a) F]:SoQ P T (.ln w l) (.v v) H (F (bb,.ob w (f' v a))):=⟨fun N C σ x y ty ps af g KH hx hy q => .stF f' t.h hx hy k.h n.u q⟩
instance {a:AV}{α:Type}{r:u3 α}{v:α}[h:EvQ true σ x a][k:T9 true σ y α r v][s:SoQ P T a (.v v) H H']:StQ G P ops ⟨none,.store T x y,ty,ps,af,none⟩ σ H σ H':=⟨fun N C Q rest hG q => .n (s.h N C σ x y ty ps af none _ (h.h C H rfl) (k.h C H rfl) q)⟩
instance {d:Nat}{op:Op}{j:Nat}{want b:Bool}{dj:Nat}{r:AV}[hj:EqS (a8a ops j) dj][hb:T9 true σ (.tmp dj) Bool inferInstance b][h:OpQ G P (b == want) ⟨some d,op,ty,ps,af,none⟩ σ H r] :
    StQ G P ops ⟨some d,op,ty,ps,af,some (j,want)⟩ σ H ((d,.opt (b == want) r)::σ) H:=⟨fun N C Q rest hG k => .go dj ((a4p ops j).symm.trans hj.h) (hb.h C H rfl) (fun e=>h.h N C hG (beq_iff_eq.2 e)) k⟩
end
class AsQ (c:Bool)(σ:o8)(xs:List Operand)(ags:outParam (List AV)):Prop where h:∀ C H,c=true→a0I C σ H xs ags
class PlQ (a:AV)(b:outParam AV):Prop where h:∀ I u,F9 I a u→F9 I b u
instance (priority:=low){a:AV}:PlQ a a:=⟨fun _ _ h=>h⟩
instance {α:Type}{r:u3 α}{l:List α}:PlQ (.vc l) (.v l):=⟨fun _ u h=>⟨[u],⟨u,rfl,h.2⟩,rfl⟩⟩
class ElQ (c:Bool)(σ:o8)(i:Nat)(ps:List (Nat×Operand))(α:outParam Type)(r:outParam (u3 α))(l:outParam (List α)):Prop where h:∀ C H,c=true→a8C C σ H i ps l
class SrQ (P:Program)(U:TypeId)(σ:o8)(H:j8)(y:Operand)(α:Type)(r:u3 α)(m:outParam (List α)):Prop where
 h:∀ C,a5Y P C σ H y m
 u:(∃ E2,P.underlying U=some (.slice E2))∨P.underlying U=some .string
section
variable {G:Gl}{P:Program}{C:Ctx}{N:Nat}{c:Bool}{ops:List Oper}{Q:Exit→o8→j8→Prop}{rest:List Oper}{σ:o8}{H:j8}{d:Nat}{ps:String}{af:Array Edge}{x y:Operand}{T T2 E U ty:TypeId}{m n:Int}
instance:AsQ c σ [] []:=⟨fun _ _ _ => .nil⟩
instance {a b:AV}{xs:List Operand}{ags:List AV}[h:EvQ c σ x a][p:PlQ a b][k:AsQ c σ xs ags]:AsQ c σ (x::xs) (b::ags):=⟨fun C H e => .cons (fun ρ I L hs=>by
 obtain⟨u,h1,h2⟩:=h.h C H e ρ I L hs
 exact⟨u,h1,p.h I u h2⟩) (k.h C H e)⟩
instance {α:Type}{r:u3 α}{i:Nat}{v:α}[h:T9 c σ x α r v]:ElQ c σ i [(i,x)] α r [v]:=⟨fun C H e => .cons (h.h C H e) .nil⟩
instance {α:Type}{r:u3 α}{i:Nat}{v:α}{q:Nat×Operand}{l:List (Nat×Operand)}{vs:List α}[h:T9 c σ x α r v][k:ElQ c σ (i+1) (q::l) α r vs]:ElQ c σ i ((i,x)::q::l) α r (v::vs):=⟨fun C H e => .cons (h.h C H e) (k.h C H e)⟩
instance {α:Type}{r:u3 α}{t:Nat}{w:Value}{m:List α}{bb:Bool}{E':TypeId}{F:Bool×C3→j8}[a:EqS (lookW σ t) (.raw w)][k:HoQ H w (bb,.own E' w m) F][u:UnI P U (.slice E)]:SrQ P U σ H (.tmp t) α r m:=⟨fun C => .own ((a63 σ t).symm.trans a.h) k.h,.inl ⟨_,u.h⟩⟩
instance {α:Type}{r:u3 α}{m:List α}[a:T9 true σ y (List α) inferInstance m][u:UnI P U (.slice E)]:SrQ P U σ H y α r m:=⟨fun C => .v (a.h C H rfl),.inl ⟨_,u.h⟩⟩
theorem wpB.ad [hx:T9 true σ x Int inferInstance m][hy:T9 true σ y Int inferInstance n](h1 : -9223372036854775808≤m+n)(h2:m+n≤9223372036854775807)(k:wpB P C N ops.toArray Q rest ((d,.v (m+n))::σ) H) :
    wpB P C N ops.toArray Q (⟨some d,.binOp .add T x y T2,ty,ps,af,none⟩::rest) σ H := .p (.add (hx.h C H rfl) (hy.h C H rfl) h1 h2 k)
theorem wpB.sb [hx:T9 true σ x Int inferInstance m][hy:T9 true σ y Int inferInstance n](h1 : -9223372036854775808≤m - n)(h2:m - n≤9223372036854775807)(k:wpB P C N ops.toArray Q rest ((d,.v (m - n))::σ) H) :
    wpB P C N ops.toArray Q (⟨some d,.binOp .sub T x y T2,ty,ps,af,none⟩::rest) σ H := .p (.sub (hx.h C H rfl) (hy.h C H rfl) h1 h2 k)
theorem wpB.ix {α:Type}{r:u3 α}{i:Inhabited α}{l:List α}[u:UnI P T (.slice E)][t:TyI P E α r i][hx:T9 true σ x (List α) inferInstance l][hy:T9 true σ y Int inferInstance n](h0:0≤n)(h1:n < l.length)
    (k:wpB P C N ops.toArray Q rest ((d,.p (l[n.toNat]'(by omega)))::σ) H):wpB P C N ops.toArray Q (⟨some d,.indexAddr T x y,ty,ps,af,none⟩::rest) σ H := .p (.idx t.h u.h (hx.h C H rfl) (hy.h C H rfl) h0 h1 k)
theorem wpB.k {f : FuncId}{args : Array Operand}{tys : Array TypeId}{ags : List AV}{r : AV}(hG : G.p C.I0)[hv : AsQ true σ args.toList ags](h : C4 G P f ags (fun x => x = r))(k : wpB P C N ops.toArray Q rest ((d, r) :: σ) H) :
    wpB P C N ops.toArray Q (⟨some d,.call ⟨.value (.func f),args,tys⟩,ty,ps,af,none⟩::rest) σ H := .p (.J7 hG h (hv.h C H rfl) k)
theorem wpB.kg {f : FuncId}{args : Array Operand}{tys : Array TypeId}{ags : List AV}{r : AV}{j dj : Nat}{b want : Bool}(hG : G.p C.I0)[hj : EqS (a8a ops j) dj][hb : T9 true σ (.tmp dj) Bool inferInstance b][hv : AsQ (b == want) σ args.toList ags](h : C4 G P f ags (fun x => x = r))(k : wpB P C N ops.toArray Q rest ((d, .opt (b == want) r) :: σ) H) :
    wpB P C N ops.toArray Q (⟨some d,.call ⟨.value (.func f),args,tys⟩,ty,ps,af,some (j,want)⟩::rest) σ H := .go dj ((a4p ops j).symm.trans hj.h) (hb.h C H rfl) (fun e => .J7 hG h (hv.h C H (beq_iff_eq.2 e)) rfl) k
theorem wpB.km {f:FuncId}{args:Array Operand}{tys:Array TypeId}{ags:List AV}{post:AV→List C3→Prop}{b:Bool}{B:C3}{F:Bool×C3→j8}(hG:G.p C.I0)[hv:AsQ true σ args.toList ags](h:C6 G P f ags [B] post)(hH:H9 H (b,B) F)(hs:∀ r Hs,post r Hs→∃ B',Hs = [B'])
    (k:∀ r B',post r [B']→wpB P C N ops.toArray Q rest ((d,r)::σ) (F (b,B'))):wpB P C N ops.toArray Q (⟨some d,.call ⟨.value (.func f),args,tys⟩,ty,ps,af,none⟩::rest) σ H := .h (.a8u hG h hH (hv.h C H rfl) hs k)
theorem wpB.k0 {f:FuncId}{args:Array Operand}{tys:Array TypeId}{ags:List AV}{post:AV→List C3→Prop}(hG:G.p C.I0)[hv:AsQ true σ args.toList ags](h:C6 G P f ags [] post)
    (k:∀ r Hs,post r Hs→wpB P C N ops.toArray Q rest ((d,r)::σ) (Hs.map (fun B=>(true,B))++H)):wpB P C N ops.toArray Q (⟨some d,.call ⟨.value (.func f),args,tys⟩,ty,ps,af,none⟩::rest) σ H := .h (.a6Z hG h (hv.h C H rfl) k)
theorem wpB.ap {α:Type}{r:u3 α}{i:Inhabited α}{by_ t:Nat}{w:Value}{l m:List α}{F:Bool×C3→j8}[st:SlI P T E α by_ r i][hx:EqS (lookW σ t) (.raw w)][hH:HoQ H w (true,.own E w l) F][hy:SrQ P U σ H y α r m](hb:(l.length+m.length)*by_≤140737488355328)(hn:l.length+m.length≤9223372036854775807)
    (k:∀ w',wpB P C N ops.toArray Q rest ((d,.raw w')::σ) (F (true,.own E w' (l++m)))):wpB P C N ops.toArray Q (⟨some d,.call ⟨.builtin .append,#[.tmp t,y],#[T,U]⟩,ty,ps,af,none⟩::rest) σ H :=
  .h (.append st.h hy.u ((a63 σ t).symm.trans hx.h) hH.h (hy.h C) hb hn k rfl)
theorem wpB.bs {α:Type}{r:u3 α}{i:Inhabited α}{k:Nat}{l:List α}{parts:Array (Nat×Operand)}[u:UnI P T (.slice E)][t:TyI P E α r i][hp:ElQ true σ 0 parts.toList α r l](hn:l.length=k)(hb:k*u3.size α≤16777216)
    (q:∀ b,wpB P C N ops.toArray Q rest ((d,.raw (slc b 0 k k))::σ) ((true,.own E (slc b 0 k k) l)::H)):wpB P C N ops.toArray Q (⟨some d,.buildSlice T k parts,ty,ps,af,none⟩::rest) σ H := .h (.buildSlice t.h u.h (hp.h C H rfl) hn hb q)
end
inductive It where
 | a (c:Code) (Q:Exit→o8→j8→Prop)
 | b (ops:List Oper) (Q:Exit→o8→j8→Prop) (l:List Oper)
 | q (Q:Exit→o8→j8→Prop) (e:Exit)
@[reducible] def It.G (P:Program)(C:Ctx)(N:Nat):It→o8→j8→Prop
 | .a c Q,σ,H=>wpA P C N c Q σ H
 | .b ops Q l,σ,H=>wpB P C N ops.toArray Q l σ H
 | .q Q e,σ,H=>Q e σ H
class Rn (G:Gl)(P:Program)(C:Ctx)(N:Nat)(n:Nat)(i:It)(σ:o8)(H:j8)(A:outParam Prop):Prop where h:G.p C.I0→A→i.G P C N σ H
section
variable {G:Gl}{P:Program}{C:Ctx}{N n:Nat}{A:Prop}{ops:List Oper}{Q Q0:Exit→o8→j8→Prop}{l:List Oper}{σ:o8}{H:j8}{c x y:Code}{e:Exit}{id i:Nat}
instance (priority:=high):Rn G P C N 0 (.a c Q) σ H (wpA P C N c Q σ H):=⟨fun _ h=>h⟩
instance (priority:=high):Rn G P C N 0 (.b ops Q l) σ H (wpB P C N ops.toArray Q l σ H):=⟨fun _ h=>h⟩
instance (priority:=high):Rn G P C N 0 (.q Q e) σ H (Q e σ H):=⟨fun _ h=>h⟩
instance [k:Rn G P C N n (.a x (a1m (wpA P C N y Q) Q)) σ H A]:Rn G P C N (n+1) (.a (.seq x y) Q) σ H A:=⟨fun g h => .seq (k.h g h)⟩
instance [hd:TrB (b9F N l)][k:Rn G P C N n (.b l Q l) σ H A]:Rn G P C N (n+1) (.a (.region id l.toArray false) Q) σ H A:=⟨fun g h => .region (b2P hd.h) (k.h g h)⟩
instance [k:Rn G P C N n (.q Q .normal) σ H A]:Rn G P C N (n+1) (.a .skip Q) σ H A:=⟨fun g h => .skip (k.h g h)⟩
instance [k:Rn G P C N n (.q Q .ret) σ H A]:Rn G P C N (n+1) (.a .ret Q) σ H A:=⟨fun g h => .ret (k.h g h)⟩
instance [k:Rn G P C N n (.q Q (.exit id)) σ H A]:Rn G P C N (n+1) (.a (.exit id) Q) σ H A:=⟨fun g h => .exit (k.h g h)⟩
instance [k:Rn G P C N n (.a c (Y8 id Q)) σ H A]:Rn G P C N (n+1) (.a (.block id c) Q) σ H A:=⟨fun g h => .block (k.h g h)⟩
instance [k:Rn G P C N n (.q Q .normal) σ H A]:Rn G P C N (n+1) (.b ops Q []) σ H A:=⟨fun g h => .nil (k.h g h)⟩
instance {o:Oper}{σ':o8}{H':j8}[s:StQ G P ops o σ H σ' H'][k:Rn G P C N n (.b ops Q l) σ' H' A]:Rn G P C N (n+1) (.b ops Q (o::l)) σ H A:=⟨fun g h=>s.h N C Q l g (k.h g h)⟩
instance [k:Rn G P C N (n+1) (.a y Q) σ H A]:Rn G P C N (n+1) (.q (a1m (wpA P C N y Q) Q0) .normal) σ H A:=⟨fun g h=>k.h g h⟩
instance {X:o8→j8→Prop}[k:Rn G P C N (n+1) (.q Q (.exit id)) σ H A]:Rn G P C N (n+1) (.q (a1m X Q) (.exit id)) σ H A:=⟨fun g h=>k.h g h⟩
instance [k:Rn G P C N (n+1) (.q Q .normal) σ H A]:Rn G P C N (n+1) (.q (Y8 id Q) .normal) σ H A:=⟨fun g h=>k.h g h⟩
instance [k:Rn G P C N (n+1) (.q Q .normal) σ H A]:Rn G P C N (n+1) (.q (Y8 i Q) (.exit i)) σ H A:=⟨fun g h=>by show Y8 i Q (.exit i) σ H;simp only [Y8,Nat.beq_refl,cond_true];exact k.h g h⟩
instance (priority:=low)[hi:FaB (Nat.beq i id)][k:Rn G P C N (n+1) (.q Q (.exit i)) σ H A]:Rn G P C N (n+1) (.q (Y8 id Q) (.exit i)) σ H A:=⟨fun g h=>by
 have hi:Nat.beq i id=false:=hi.h
 show Y8 id Q (.exit i) σ H;simp only [Y8,hi,cond_false];exact k.h g h⟩
instance {z:Operand}{p:Prop}{_:Decidable p}[hc:T9 true σ z Bool inferInstance (decide p)]:Rn G P C N (n+1) (.a (.cond z x y) Q) σ H ((p→wpA P C N x Q σ H)∧(¬p→wpA P C N y Q σ H)):=⟨fun g h => .a0q (hc.h C H rfl) h.1 h.2⟩
instance {α:Type}{r:u3 α}{j:Inhabited α}{d:Nat}{T ty:TypeId}{ps:String}{af:Array Edge}[t:TyI P T α r j] :
    Rn G P C N (n+1) (.b ops Q (⟨some d,.alloc T,ty,ps,af,none⟩::l)) σ H (∀ b,wpB P C N ops.toArray Q l ((d,.ln (ptr b 0) (j9.id (α:=α)))::σ) ((true,.ob (ptr b 0) (default:α))::H)):=⟨fun g h => .h (.alloc t.h h)⟩
instance {α:Type}{r:u3 α}{a:α}{d:Nat}{T ty:TypeId}{ps:String}{af:Array Edge}{z:Operand}[hx:T9 true σ z α r a] :
    Rn G P C N (n+1) (.b ops Q (⟨some d,.box T z,ty,ps,af,none⟩::l)) σ H (∀ b,wpB P C N ops.toArray Q l ((d,.ln (ptr b 0) (j9.id (α:=α)))::σ) ((true,.ob (ptr b 0) a)::H)):=⟨fun g h => .h (.box (hx.h C H rfl) h)⟩
theorem wpA.q (n:Nat)(hG:G.p C.I0){A:Prop}[h:Rn G P C N n (.a c Q) σ H A](k:A):wpA P C N c Q σ H:=h.h hG k
theorem wpB.q (n:Nat)(hG:G.p C.I0){A:Prop}[h:Rn G P C N n (.b ops Q l) σ H A](k:A):wpB P C N ops.toArray Q l σ H:=h.h hG k
end
end Go.Ab
namespace Go.Ab
open Go.Fl Go.RowKit
open u3 (rep)
def a64 (σ0:o8)(R:Nat→AV)(s:List (Nat×Nat)):List Nat→o8
 | [] => []
 | t::ts=>match (match T1 s t with|none=>F6 σ0 t|some j=>some (R j)) with
  | some a=>(t,a)::a64 σ0 R s ts
  | none=>a64 σ0 R s ts
theorem a8b {σ0:o8}{R:Nat→AV}{s:List (Nat×Nat)}:∀ {ts:List Nat} {t:Nat} {a:AV},F6 (a64 σ0 R s ts) t=some a→t∈ts∧(match T1 s t with|none=>F6 σ0 t|some j=>some (R j))=some a
 | [],t,a,h=>by simp [a64,F6] at h
 | u::ts,t,a,h=>by
  simp only [a64] at h
  split at h
  ·rename_i b hb
   rw [G7] at h
   by_cases e:u=t
   ·subst e
    rw [if_pos rfl] at h
    cases h
    exact⟨List.mem_cons_self ..,hb⟩
   ·rw [if_neg e] at h
    have:=a8b h
    exact⟨List.mem_cons_of_mem _ this.1,this.2⟩
  ·have:=a8b h
   exact⟨List.mem_cons_of_mem _ this.1,this.2⟩
theorem b0f {σ0:o8}{R:Nat→AV}{s:List (Nat×Nat)}{t:Nat}{a:AV}(h:(match T1 s t with|none=>F6 σ0 t|some j=>some (R j))=some a):∀ {ts:List Nat},t∈ts→F6 (a64 σ0 R s ts) t=some a
 | [],hm=>by cases hm
 | u::ts,hm=>by
  by_cases e:u=t
  ·subst e
   simp only [a64,h];rw [G7,if_pos rfl]
  ·have hm':t∈ts:=by
    rcases List.mem_cons.1 hm with h1|h1
    ·exact absurd h1.symm e
    ·exact h1
   simp only [a64]
   split
   ·rw [G7,if_neg e];exact b0f h hm'
   ·exact b0f h hm'
structure UIv (P:Program)(C:Ctx)(N:Nat)(l:List Oper)(σ0:o8)(Inv:Array Bool→(Nat→AV)→j8→Prop)(ρ0:Env)(I:Im)
    (listed:Array Bool)(R:Nat→AV)(H:j8)(J:Im)(L:Lh)(vs:Nat→Value)(a:Act)(w:World):Prop where
  head:HeadInv .any l.toArray l.length listed
  le:Le I J
  U9:Le C.I0 J
  st:St C J L w
  heap:T4 C.w0.heap.size J H L
  pl:Inv listed R H
  val:∀ j,j < l.length→listed.getD j false=true→F9 J (R j) (vs j)
  defers:a.defers = []
  size:a.tmps.size=N
  a42:∀ j d,j < l.length→listed.getD j false=true→(l.toArray[j]?).bind (·.dst)=some d→a.tmps[d]?=some (vs j)
  a7M:∀ t v,Fl.look ρ0 t=some v→(∀ j,j < l.length→listed.getD j false=true→(l.toArray[j]?).bind (·.dst)≠some t)→a.tmps[t]?=some v
def c2r (P:Program)(C:Ctx)(N:Nat)(l:List Oper)(ss:List (List (Nat×Nat)))(σ0:o8)(Inv:Array Bool→(Nat→AV)→j8→Prop):Prop :=
 ∀ listed R H i o s,Inv listed R H→l[i]?=some o→ss[i]?=some s→listed.getD i false=false→(∀ j,Region.waitsFor .any l.toArray i j=true→listed.getD j false=true) →
  (∀ j k,listed.getD j false=true→Region.waitsFor .any l.toArray j k=true→listed.getD k false=true)→i < listed.size →
  match o.guard with
  | none=>OpH P C N o (a64 σ0 R s (J6 o)) H (fun r H'=>∃ R',(∀ j,j≠i→listed.getD j false=true→R' j=R j)∧R' i=r∧Inv (listed.setIfInBounds i true) R' H')
  | some (g,want)=>∃ b c,R g = .v b∧(b=want→OpP P N C o (a64 σ0 R s (J6 o)) H (fun r=>r=c))∧Inv (listed.setIfInBounds i true) (fun j=>if j=i then .opt (b == want) c else R j) H
section
variable {P:Program}{C:Ctx}{N:Nat}{l:List Oper}{ss:List (List (Nat×Nat))}{σ0:o8}{Inv:Array Bool→(Nat→AV)→j8→Prop}{ρ0:Env}{I:Im}{L0:Lh}{H0:j8}
theorem UIv.step {listed:Array Bool}{R:Nat→AV}{H:j8}{J:Im}{L:Lh}{vs:Nat→Value}{a:Act}{w:World}{Q':Exit→Act→World→Prop}
    (h0:RSt C I L0 σ0 H0 ρ0)(hN:R7 N l=true)(hok:∀ i,i < l.length→a4J l.toArray l.length ss i=true)(hdst:a61 l.toArray l.length=true)(hstep:c2r P C N l ss σ0 Inv)
    (inv:UIv P C N l σ0 Inv ρ0 I listed R H J L vs a w){i:Nat}(hr:i∈Region.ready .any l.toArray listed)(hin:i < l.length)
    {K:Act→World→Prop}(hK:∀ R H J L vs a' w,UIv P C N l σ0 Inv ρ0 I (listed.setIfInBounds i true) R H J L vs a' w→K a' w) :
    wpOpIn C.fen 0 P l.toArray Q' i K a w:=by
  obtain⟨hun,o,ho,hall⟩:=mem_ready.1 hr
  have hol:l[i]?=some o:=by simpa using ho
  have hok':=hok i hin
  unfold a4J at hok'
  simp only [ho] at hok'
  cases hs:ss[i]? with
  | none=>simp [hs] at hok'
  | some s =>
  simp only [hs,Bool.and_eq_true] at hok'
  obtain⟨hreads,hguard⟩:=hok'
  have hdN:∀ d,o.dst=some d→d < N:=fun d hod=>by
    have:=List.all_eq_true.1 hN o (List.mem_of_getElem? hol)
    rw [hod] at this
    simpa [Nat.blt_eq] using this
  have hlisted:∀ j,Region.waitsFor .any l.toArray i j=true→listed.getD j false=true:=fun j hw=>by
    obtain⟨e,he,hb,heq⟩:=a0E ho hw
    exact heq▸hall e he hb
  have hilt:i < listed.size:=by
    rcases Nat.lt_or_ge i listed.size with h'|h'
    · exact h'
    · simp [Array.getElem?_eq_none h'] at hun
  have hiun:listed.getD i false=false:=getD_both hun
  have hclosed:∀ j k,listed.getD j false=true→Region.waitsFor .any l.toArray j k=true→listed.getD k false=true:=fun j k hl hw=>by
    obtain⟨oj,hoj,e,he,hb,heq⟩:=Region.waitsFor_spec hw
    have:=inv.head.closed j oj hoj hl e he hb
    rwa [heq] at this
  have hnot:∀ j,Region.waitsFor .any l.toArray j i=true→listed.getD j false=true→False:=fun j hw hl=>by
    have:=hclosed j i hl hw
    rw [hiun] at this
    cases this
  let g:Nat→Option Value:=fun t=>match T1 s t with|some j=>some (vs j)|none=>Fl.look ρ0 t
  have hsrcl:∀ t∈J6 o,∀ j,T1 s t=some j→j < l.length∧listed.getD j false=true∧(l.toArray[j]?).bind (·.dst)=some t:=fun t ht j hj=>by
    have hro:=List.all_eq_true.1 hreads t ht
    unfold a2y at hro
    simp only [hj,Bool.and_eq_true,beq_iff_eq] at hro
    exact⟨by simpa [Nat.blt_eq] using hro.1.1,hlisted j hro.2,hro.1.2⟩
  have hfits:Fits N (a1N g (J6 o)) a:=by
    refine⟨inv.defers,inv.size,fun t v hv => ?_⟩
    obtain⟨hmem,hg⟩:=a1S hv
    cases hsrc:T1 s t with
    | some j =>
      obtain⟨h1,h2,h3⟩:=hsrcl t hmem j hsrc
      have hgv:vs j=v:=by simpa [g,hsrc] using hg
      rw [←hgv]
      exact inv.a42 j t h1 h2 h3
    | none =>
      have hro:=List.all_eq_true.1 hreads t hmem
      unfold a2y at hro
      simp only [hsrc] at hro
      refine inv.a7M t v (by simpa [g,hsrc] using hg) fun j hj hl hdj => ?_
      have h1:=List.all_eq_true.1 hro j (List.mem_range.2 hj)
      simp only [hdj,beq_self_eq_true,Bool.not_true,Bool.false_or,Bool.or_eq_true,beq_iff_eq] at h1
      rcases h1 with h1|h1
      · subst h1;rw [hiun] at hl;cases hl
      · exact hnot j h1 hl
  have henv:∀ t b,F6 (a64 σ0 R s (J6 o)) t=some b→∃ u,Fl.look (a1N g (J6 o)) t=some u∧F9 J b u:=fun t b hb=>by
    obtain⟨hmem,hb2⟩:=a8b hb
    cases hsrc:T1 s t with
    | some j =>
      simp only [hsrc,Option.some.injEq] at hb2
      obtain⟨h1,h2,_⟩:=hsrcl t hmem j hsrc
      have h4:=inv.val j h1 h2
      rw [hb2] at h4
      exact⟨vs j,by rw [T3 hmem];simp [g,hsrc],h4⟩
    | none =>
      simp only [hsrc] at hb2
      obtain⟨u,h1,h2⟩:=h0.env t b hb2
      exact⟨u,by rw [T3 hmem];simpa [g,hsrc] using h1,h2.mono inv.le⟩
  have hR:RSt C J L (a64 σ0 R s (J6 o)) H (a1N g (J6 o)):=⟨henv,inv.heap,inv.U9⟩
  have hput:∀ j,j≠i→(listed.setIfInBounds i true).getD j false=listed.getD j false:=fun j hj=>getD_set_ne false (Ne.symm hj)
  have hdne:∀ j,j < l.length→j≠i→∀ d',(l.toArray[j]?).bind (·.dst)=some d'→o.dst≠some d':=by
    intro j hj hji d' hd' hod
    have hdi:(l.toArray[i]?).bind (·.dst)=some d':=by rw [ho];exact hod
    rcases Nat.lt_or_gt_of_ne hji with h1|h1
    · have:=List.all_eq_true.1 (List.all_eq_true.1 hdst i (List.mem_range.2 hin)) j (List.mem_range.2 h1)
      rw [hdi,hd'] at this
      simp at this
    · have:=List.all_eq_true.1 (List.all_eq_true.1 hdst j (List.mem_range.2 hj)) i (List.mem_range.2 h1)
      rw [hdi,hd'] at this
      simp at this
  have fin : ∀ v J' L' H' R' w', Le J J' → St C J' L' w' → T4 C.w0.heap.size J' H' L' → F9 J' (R' i) v → (∀ j, j ≠ i → listed.getD j false = true → R' j = R j) →
      Inv (listed.setIfInBounds i true) R' H'→K (a.put o.dst v) w':=by
    intro v J' L' H' R' w' hle hst hH hv hrj hpl
    refine hK R' H' J' L' (fun j=>if j=i then v else vs j) _ _ ⟨inv.head.set hr hin,inv.le.trans hle,inv.U9.trans hle,hst,hH,hpl,fun j hj hl => ?_,?_,?_,fun j d' hj hl hd' => ?_,fun t u hu hno => ?_⟩
    · by_cases hji:j=i
      · subst hji;simpa using hv
      · rw [hput j hji] at hl
        rw [hrj j hji hl,if_neg hji]
        exact(inv.val j hj hl).mono hle
    · rw [put_defers];exact inv.defers
    · rw [b4h];exact inv.size
    · by_cases hji:j=i
      · subst hji
        have hod:o.dst=some d':=by rw [ho] at hd';exact hd'
        rw [hod,put_eq _ _ (by rw [inv.size];exact hdN d' hod),if_pos rfl]
      · rw [hput j hji] at hl
        rw [b2J _ _ (hdne j hj hji d' hd'),if_neg hji]
        exact inv.a42 j d' hj hl hd'
    · rw [b2J _ _ (fun hod=>hno i hin (a0s hilt) (by rw [ho];exact hod))]
      refine inv.a7M t u hu fun j hj hl=>hno j hj ?_
      by_cases hji:j=i
      · subst hji;rw [hiun] at hl;cases hl
      · rw [hput j hji];exact hl
  have hdue:=hstep listed R H i o s inv.pl hol hs hiun hlisted hclosed hilt
  unfold wpOpIn
  simp only [ho]
  cases hg:o.guard with
  | none =>
    rw [hg] at hdue
    rw [if_pos (by simp [Region.wanted,hg])]
    refine Yld.wp ((hdue _ J L hR a w hfits inv.st).mono ?_)
    rintro v w' ⟨J',L',hst,hle,r,H',h1,h2,R',h3,h4,h5⟩
    exact fin v J' L' H' R' w' hle hst h2 (by rw [h4];exact h1) h3 h5
  | some gw =>
    obtain⟨gi,want⟩:=gw
    rw [hg] at hdue hguard
    obtain⟨b,c,hb,h2,h3⟩:=hdue
    simp only [Bool.and_eq_true] at hguard
    have hgn:gi < l.length:=by simpa [Nat.blt_eq] using hguard.1.1
    have hgl:=hlisted gi hguard.1.2
    have hgi:gi≠i:=by rintro rfl;rw [hiun] at hgl;cases hgl
    have hy:yielded l.toArray a.tmps gi=some b:=by
      have h4:=inv.val gi hgn hgl
      rw [hb] at h4
      obtain⟨cs,rfl,hvs⟩:=h4
      obtain⟨dg,hdg0⟩:=Option.isSome_iff_exists.1 hguard.2
      obtain⟨og,hog,hdg⟩:=Option.bind_eq_some_iff.1 hdg0
      have htg:=inv.a42 gi dg hgn hgl (by rw [hog];exact hdg)
      rw [hvs] at htg
      unfold yielded
      rw [hog]
      simp only [Option.bind_some,hdg,htg]
      rfl
    have hRj:∀ j,j≠i→listed.getD j false=true→(fun j=>if j=i then AV.opt (b == want) c else R j) j=R j:=fun j hj _=>if_neg hj
    by_cases hbw:b=want
    · rw [if_pos (by simp [Region.wanted,hg,hy,hbw])]
      refine Yld.wp ((h2 hbw _ J L hR a w hfits inv.st.mem).mono ?_)
      rintro v w' ⟨J',X,hc,hle,hn,hm,hX,rfl,r',h1,rfl⟩
      have hst:=(inv.st.step hc hle hn hm hX)
      rw [List.nil_append] at hst
      exact fin v J' L H _ w' hle hst (inv.heap.mono hle) (by simp only [if_true];exact fun _=>h1) hRj h3
    · have hwf:¬Region.wanted o (yielded l.toArray a.tmps)=true:=by simpa [Region.wanted,hg,hy] using hbw
      rw [if_neg hwf]
      refine⟨fun _ _=>trivial,?_⟩
      exact fin undef J L H _ w (Le.refl J) inv.st inv.heap (by simp only [if_true];exact fun hc=>absurd (by simpa using hc) hbw) hRj h3
theorem b8y {Q':Exit→Act→World→Prop}(h0:RSt C I L0 σ0 H0 ρ0)(hN:R7 N l=true)(hback:a0D l.toArray=true)(hok:∀ i,i < l.length→a4J l.toArray l.length ss i=true)(hdst:a61 l.toArray l.length=true)(hstep:c2r P C N l ss σ0 Inv)
    (hseq:Region.seqB .any l.toArray (l.length - l.length) l.length (R3 l.length l.length)=true)
    (hfin:∀ listed R H J L vs a w,UIv P C N l σ0 Inv ρ0 I listed R H J L vs a w→(∀ j,j < l.length→listed.getD j false=true)→wpListIn C.fen 0 P l.toArray Q' (l.drop l.length) a w) :
    ∀ (m:Nat) (listed:Array Bool) R H J L vs a w,UIv P C N l σ0 Inv ρ0 I listed R H J L vs a w→unl listed l.length=m→wpAnyIn C.fen 0 P .any l.toArray Q' (m+(l.length - l.length)) listed a w
  | 0,listed,R,H,J,L,vs,a,w,inv,hm=>by
    have hsz:listed.size=l.length:=by simpa using inv.head.size
    have hall:∀ j,j < l.length→listed.getD j false=true:=fun j hj=>a4d (by omega) (a2k hm j hj)
    have heq:listed=R3 l.length l.length:=by
      refine Array.ext (by simp [R3,hsz]) fun j h1 h2 => ?_
      have e1:(R3 l.length l.length)[j]'h2=Nat.blt j l.length:=by simp [R3]
      rw [e1]
      have hj:j < l.length:=by omega
      have:=hall j hj
      simp [h1] at this
      rw [this]
      exact(Nat.blt_eq▸hj:Nat.blt j l.length=true).symm
    have hw:=hfin listed R H J L vs a w inv hall
    have h2:=a0t (md := .any) (Q':=Q') (l.drop l.length) l.length listed a w (fun j=>by simp [List.getElem?_drop]) (by rw [heq];simpa using hseq) hw
    simpa using h2
  | m+1,listed,R,H,J,L,vs,a,w,inv,hm=>by
    have hsz:listed.size=l.length:=by simpa using inv.head.size
    obtain⟨i,hin,hi,hlt⟩:=a6P hm
    have hr:=Y7 hback (by simpa using inv.head.size) hi hlt
    rw [show m+1+(l.length - l.length)=(m+(l.length - l.length))+1 by omega]
    refine⟨fun h0=>(by rw [h0] at hr;cases hr),fun j hj => ?_⟩
    have hjn:j < l.length:=by
      obtain⟨_,o,ho,_⟩:=mem_ready.1 hj
      have:=(Array.getElem?_eq_some_iff.1 ho).1
      simpa using this
    refine inv.step h0 hN hok hdst hstep hj hjn fun R' H' J' L' vs' a' w' inv' => ?_
    refine b8y h0 hN hback hok hdst hstep hseq hfin m _ R' H' J' L' vs' a' w' inv' ?_
    have hu:=(mem_ready.1 hj).1
    have:=a5H hu hjn
    omega
end
def b4m (R:Nat→AV):List Oper→Nat→o8→o8
 | o::os,k,σ=>match o.dst with
  | some d=>b4m R os (k+1) ((d,R k)::σ)
  | none=>b4m R os (k+1) σ
 | [],_,σ=>σ
theorem b2Q {C:Ctx}{J:Im}{L:Lh}{H:j8}{R:Nat→AV}{vs:Nat→Value}:∀ (os:List Oper) (k:Nat) (σ:o8) (ρ:Env),RSt C J L σ H ρ→(∀ i,i < os.length→F9 J (R (k+i)) (vs (k+i))) →
    RSt C J L (b4m R os k σ) H (a73 vs os k ρ)
  | [],k,σ,ρ,hs,_=>hs
  | o::os,k,σ,ρ,hs,hd=>by
    have h2:=hd 0 (by simp)
    simp only [Nat.add_zero] at h2
    have hd':∀ i,i < os.length→F9 J (R (k+1+i)) (vs (k+1+i)):=fun i ho=>by
      have:=hd (i+1) (by simpa using ho)
      rwa [show k+(i+1)=k+1+i by omega] at this
    cases ho:o.dst with
    | none=>simp only [b4m,a73,ho];exact b2Q os (k+1) σ ρ hs hd'
    | some d=>simp only [b4m,a73,ho];exact b2Q os (k+1) _ _ (hs.put (Le.refl J) h2 hs.heap) hd'
theorem wpA.c9Y {P:Program}{C:Ctx}{N:Nat}{Q:Exit→o8→j8→Prop}{σ:o8}{H:j8}{id:Nat}{l:List Oper}(hm:P.follows .mixedOrders=true)(ss:List (List (Nat×Nat)))
    (hN:R7 N l=true)(hB:a5g l.toArray l.length ss=true)(Inv:Array Bool→(Nat→AV)→j8→Prop)(h00:Inv (Array.replicate l.toArray.size false) (fun _ => .any) H)(hstep:c2r P C N l ss σ Inv)
    (hfinal:∀ listed R H',Inv listed R H'→(∀ j,j < l.length→listed.getD j false=true)→wpB P C N l.toArray Q [] (b4m R l 0 σ) H') :
    wpA P C N (.region id l.toArray true) Q σ H:=fun ρ I L hs a w ha hst=>by
  simp only [a5g,Bool.and_eq_true,Bool.or_eq_true] at hB
  obtain⟨⟨⟨⟨⟨hle,hback⟩,hok⟩,hdst⟩,htail⟩,hseq⟩:=hB
  have hok':∀ i,i < l.length→a4J l.toArray l.length ss i=true:=fun i hi=>List.all_eq_true.1 hok i (List.mem_range.2 hi)
  have hs':St C I L { w with drawn:=w.drawn+1 }:=⟨⟨hst.mem.im,hst.mem.loc,hst.mem.sep,hst.mem.nodup⟩,⟨hst.W4.os,hst.W4.tape,hst.W4.output,hst.W4.size,hst.W4.block⟩,hst.own,hst.U9,hst.new⟩
  refine wpIn_region_any hm ?_
  have inv0:UIv P C N l σ Inv ρ I (Array.replicate l.toArray.size false) (fun _ => .any) H I L (fun _=>undef) a { w with drawn:=w.drawn+1 }:=by
    have hnl:∀ j,(Array.replicate l.toArray.size false).getD j false=true→False:=fun j hl=>by rw [getD_replicate_false] at hl;cases hl
    refine⟨⟨by simp,fun j oj _ hl=>(hnl j hl).elim,fun t _ ht=>getD_in (by simpa using ht) (getD_replicate_false _ _)⟩,Le.refl _,hs.U9,hs',hs.heap,h00,fun j _ hl=>(hnl j hl).elim,ha.defers,ha.size,fun j d _ hl=>(hnl j hl).elim,fun t v hv _=>ha.tmp t v hv⟩
  have hunl:unl (Array.replicate l.toArray.size false) l.length=l.length:=by
    have key:∀ k,k≤l.toArray.size→unl (Array.replicate l.toArray.size false) k=k:=by
      intro k
      induction k with
      | zero=>intro _;rfl
      | succ k ih =>
        intro hk
        rw [unl,ih (by omega),if_pos (getD_in (by simp at hk ⊢;omega) (getD_replicate_false _ _))]
    exact key l.length (by simp)
  have hmain:=b8y (Q':=a54 C N (qA C Q)) hs hN hback hok' hdst hstep (by simpa using hseq)
    (fun listed R H' J L' vs a' w' inv hall=>by
      have hpl:=hfinal listed R H' inv.pl hall
      have hR:RSt C J L' σ H' ρ:=⟨fun t b hb=>by obtain⟨u,h1,h2⟩:=hs.env t b hb;exact⟨u,h1,h2.mono inv.le⟩,inv.heap,inv.U9⟩
      rw [List.drop_length]
      refine hpl (a73 vs l 0 ρ) J L' (b2Q l 0 σ ρ hR fun i hi=>by rw [Nat.zero_add];exact inv.val i hi (hall i hi)) (by rfl) a' w' (a5M inv.defers inv.size l 0 ρ (fun i o d ho hdd => ?_) fun t v hv hno=>inv.a7M t v hv fun j hj _ hdj => ?_) inv.st
      · have hi:=(List.getElem?_eq_some_iff.1 ho).1
        rw [Nat.zero_add]
        exact inv.a42 i d hi (hall i hi) (by simp [ho,hdd])
      · refine hno j l[j] (List.getElem?_eq_getElem hj) ?_
        simpa [hj] using hdj)
    l.length _ _ _ _ _ _ _ _ inv0 hunl
  rw [show l.length+(l.length - l.length)=l.toArray.size by simp] at hmain
  exact hmain
structure R8 where
 t:Option (Nat×Nat)
 r:AV
 B:Bool×C3
abbrev b1I:Bool×C3:=(true,.none_)
def a5j (H:j8)(e:R8):j8:=match e.t with|some (p,_+1)=>H.set p e.B|_=>H
def a0m (f:Nat→Bool)(p:Nat):Nat→List R8→(Bool×C3)→Bool×C3
 | _,[],B=>B
 | k,e::T,B=>a0m f p (k+1) T (match e.t with|some (q,_+1)=>bif Nat.beq q p&&f k then e.B else B|_=>B)
def a29 (f:Nat→Bool)(T:List R8)(H0:j8):j8:=H0.mapIdx fun p B=>a0m f p 0 T B
theorem a2q {f g:Nat→Bool}{p:Nat}:∀ (T:List R8) (k:Nat) (B:Bool×C3),(∀ j e m,T[j]?=some e→e.t=some (p,m+1)→f (k+j)=g (k+j))→a0m f p k T B=a0m g p k T B
 | [],_,_,_=>rfl
 | e::T,k,B,h=>by
  have ih:=fun B=>a2q T (k+1) B fun j e m h1 h2=>(by have:=h (j+1) e m (by simpa using h1) h2;rwa [show k+(j+1)=k+1+j by omega] at this:f (k+1+j)=g (k+1+j))
  unfold a0m
  rw [ih]
  congr 1
  split
  ·rename_i q m he
   cases hq:Nat.beq q p with
   | false=>rfl
   | true =>
    have:=Nat.eq_of_beq_eq_true hq
    subst this
    rw [show f k=g k from h 0 e m rfl he]
  ·rfl
theorem b0g {f:Nat→Bool}{p:Nat}:∀ (T U:List R8) (k:Nat) (B:Bool×C3),T.length=U.length→(∀ j,j < T.length→f (k+j)=true→T[j]?=U[j]?)→a0m f p k T B=a0m f p k U B
 | [],[],_,_,_,_=>rfl
 | [],_::_,_,_,h,_=>by cases h
 | _::_,[],_,_,h,_=>by cases h
 | e::T,u::U,k,B,hl,h=>by
  have ih:=fun B=>b0g (p:=p) T U (k+1) B (by simpa using hl) fun j hj h1=>(by have:=h (j+1) (by simpa using hj) (by rwa [show k+(j+1)=k+1+j by omega]);simpa using this:T[j]?=U[j]?)
  unfold a0m
  rw [ih]
  congr 1
  cases hf:f k with
  | true =>
   have:e=u:=by have:=h 0 (by simp) (by simpa using hf);simpa using this
   subst this;rfl
  | false=>split<;>split<;>simp
theorem a6u {f:Nat→Bool}{p:Nat}:∀ (T:List R8) (k:Nat) (B:Bool×C3),(∀ (j:Nat) (w:R8) (n:Nat),T[j]?=some w→w.t=some (p,n+1)→f (k+j)=false)→a0m f p k T B=B
 | [],_,_,_=>rfl
 | w::T,k,B,h=>by
  unfold a0m
  rw [a6u T (k+1) _ fun j w n h1 h2=>(by have:=h (j+1) w n (by simpa using h1) h2;rwa [show k+(j+1)=k+1+j by omega] at this)]
  split
  ·rename_i q n he
   cases hq:Nat.beq q p with
   | false=>rfl
   | true =>
    have:=Nat.eq_of_beq_eq_true hq
    subst this
    rw [show f k=false from h 0 w n rfl he];rfl
  ·rfl
theorem b0h {f:Nat→Bool}{p:Nat}:∀ (T:List R8) (k i:Nat) (B:Bool×C3) (e:R8) (m:Nat),T[i]?=some e→e.t=some (p,m+1)→f (k+i)=true→(∀ j u n,T[j]?=some u→u.t=some (p,n+1)→i < j→f (k+j)=false)→a0m f p k T B=e.B
 | [],_,_,_,_,_,h,_,_,_=>by simp at h
 | u::T,k,0,B,e,m,h,ht,hf,hn=>by
  have h:u=e:=by simpa using h
  subst h
  unfold a0m
  rw [ht]
  simp only [Nat.beq_refl,Bool.true_and]
  rw [show f k=true from hf,cond_true]
  exact a6u T (k+1) _ fun j w n h1 h2=>(by have:=hn (j+1) w n (by simpa using h1) h2 (by omega);rwa [show k+(j+1)=k+1+j by omega] at this)
 | u::T,k,i+1,B,e,m,h,ht,hf,hn=>by
  unfold a0m
  exact b0h T (k+1) i _ e m (by simpa using h) ht (by rwa [show k+1+i=k+(i+1) by omega]) fun j w n h1 h2 h3=>(by have:=hn (j+1) w n (by simpa using h1) h2 (by omega);rwa [show k+(j+1)=k+1+j by omega] at this)
theorem b6A {p:Nat}(i:Nat):∀ (T:List R8) (k:Nat) (B:Bool×C3),a0m (fun j=>Nat.blt j (k+i)) p k T B=a0m (fun _=>true) p k (T.take i) B:=by
  induction i with
  | zero =>
    intro T k B
    rw [List.take_zero]
    show _=B
    have:∀ (T:List R8) (n:Nat) (B:Bool×C3),k≤n→a0m (fun j=>Nat.blt j (k+0)) p n T B=B:=by
      intro T
      induction T with
      | nil=>intro _ _ _;rfl
      | cons e T ih =>
        intro n B hn
        unfold a0m
        rw [ih (n+1) _ (by omega)]
        have hb:Nat.blt n (k+0)=false:=by
          cases h:Nat.blt n (k+0) with
          | false=>rfl
          | true => have : n < k + 0 := by simpa [Nat.blt_eq] using h
                    omega
        simp only [hb,Bool.and_false,cond_false]
        split<;>rfl
    exact this T k B (Nat.le_refl _)
  | succ i ih =>
    intro T k B
    cases T with
    | nil=>rfl
    | cons e T =>
      rw [List.take_succ_cons]
      unfold a0m
      have hb:Nat.blt k (k+1+i)=true:=by simp [Nat.blt_eq];omega
      rw [←ih T (k+1)]
      simp only [show k+(i+1)=k+1+i by omega,hb]
theorem a5N:∀ (T:List R8) (k:Nat) (H:j8) (p:Nat),(T.foldl a5j H)[p]?=(H[p]?).map (a0m (fun _=>true) p k T)
 | [],_,H,p=>by
  show H[p]?=_
  cases H[p]?<;>rfl
 | e::T,k,H,p=>by
  rw [List.foldl_cons,a5N T (k+1) (a5j H e) p]
  unfold a5j
  split
  ·rename_i q m he
   rw [List.getElem?_set]
   by_cases hq:q=p
   ·subst hq
    rw [if_pos rfl]
    by_cases hl:q < H.length
    ·rw [if_pos hl,List.getElem?_eq_getElem hl]
     simp only [Option.map_some]
     conv=>rhs;unfold a0m
     rw [he];simp
    ·rw [if_neg hl,List.getElem?_eq_none (by omega)];rfl
   ·rw [if_neg hq]
    congr 1
    funext B
    conv=>rhs;unfold a0m
    rw [he]
    have:Nat.beq q p=false:=by
     cases h:Nat.beq q p with
     | false=>rfl
     | true=>exact absurd (Nat.eq_of_beq_eq_true h) hq
    simp [this]
  ·rename_i hne
   congr 1
   funext B
   conv=>rhs;unfold a0m
   cases ht:e.t with
   | none=>rfl
   | some q =>
    obtain⟨q,m⟩:=q
    cases m with
    | zero=>rfl
    | succ m=>exact absurd ht (hne q m)
theorem a1X (f:Nat→Bool)(T:List R8)(H:j8)(p:Nat):(a29 f T H)[p]?=(H[p]?).map (a0m f p 0 T):=by
 unfold a29;rw [List.getElem?_mapIdx]
theorem b9G (f:Nat→Bool)(T:List R8)(H:j8):(a29 f T H).length=H.length:=by unfold a29;simp
theorem H9.at:∀ {H:j8} {p:Nat} {B:Bool×C3},H[p]?=some B→H9 H B (fun X=>H.set p X)
 | [],p,B,h=>by simp at h
 | A::H,0,B,h=>by
  have h:A=B:=by simpa using h
  subst h;exact .z
 | A::H,p+1,B,h => .s (H9.at (by simpa using h))
def Q3 (σ:o8)(o:Oper):o8:=σ.filter fun q=>(J6 o).contains q.1
theorem a6v {o:Oper}:∀ {σ:o8} {t:Nat} {a:AV},F6 (Q3 σ o) t=some a→t∈J6 o∧F6 σ t=some a
 | [],t,a,h=>by simp [Q3,F6] at h
 | q::σ,t,a,h=>by
  unfold Q3 at h
  rw [List.filter_cons] at h
  split at h
  ·rename_i hc
   rw [G7] at h ⊢
   by_cases e:q.1=t
   ·rw [if_pos e] at h ⊢
    exact⟨by rw [←e];simpa using hc,h⟩
   ·rw [if_neg e] at h ⊢
    exact a6v (σ:=σ) h
  ·rename_i hc
   have:=a6v (σ:=σ) h
   refine⟨this.1,?_⟩
   rw [G7,if_neg]
   ·exact this.2
   ·rintro rfl;exact hc (by simpa using this.1)
theorem a5O {o:Oper}:∀ {σ:o8} {t:Nat} {a:AV},t∈J6 o→F6 σ t=some a→F6 (Q3 σ o) t=some a
 | [],t,a,_,h=>by simp [F6] at h
 | q::σ,t,a,hm,h=>by
  unfold Q3
  rw [List.filter_cons]
  rw [G7] at h
  split
  ·rw [G7]
   by_cases e:q.1=t
   ·rw [if_pos e] at h ⊢;exact h
   ·rw [if_neg e] at h ⊢;exact a5O (σ:=σ) hm h
  ·rename_i hc
   rw [if_neg (by rintro rfl;exact hc (by simpa using hm))] at h
   exact a5O (σ:=σ) hm h
def b8z (d:Option Nat)(r:AV)(σ:o8):o8:=match d with|some d=>(d,r)::σ|none=>σ
def a65:List Oper→List R8→o8→o8
 | o::os,e::es,σ=>a65 os es (b8z o.dst e.r σ)
 | _,_,σ=>σ
theorem a8c {t:Nat}:∀ {os:List Oper} {es:List R8} {σ:o8},(∀ (j:Nat) (o:Oper),os[j]?=some o→o.dst≠some t)→F6 (a65 os es σ) t=F6 σ t
 | [],_,_,_=>rfl
 | _::_,[],_,_=>rfl
 | o::os,e::es,σ,h=>by
  unfold a65
  rw [a8c fun j o' ho=>h (j+1) o' (by simpa using ho)]
  have h0:=h 0 o rfl
  unfold b8z
  split
  ·rename_i d hd
   rw [G7,if_neg (fun e=>h0 (by rw [hd,e]))]
  ·rfl
theorem b1J {t:Nat}:∀ {os:List Oper} {es:List R8} {σ:o8} {j:Nat} {o:Oper} {e:R8},os[j]?=some o→es[j]?=some e→o.dst=some t→(∀ (k:Nat) (o':Oper),os[k]?=some o'→k≠j→o'.dst≠some t)→F6 (a65 os es σ) t=some e.r
 | [],_,_,_,_,_,h,_,_,_=>by simp at h
 | _::_,[],_,_,_,_,_,h,_,_=>by simp at h
 | o::os,e::es,σ,0,o',e',h,h2,hd,hn=>by
  obtain rfl:o=o':=by simpa using h
  obtain rfl:e=e':=by simpa using h2
  unfold a65
  rw [a8c fun j o' ho=>hn (j+1) o' (by simpa using ho) (by omega),hd]
  show F6 ((t,e.r)::σ) t=_
  rw [G7,if_pos rfl]
 | o::os,e::es,σ,j+1,o',e',h,h2,hd,hn=>by
  unfold a65
  exact b1J (by simpa using h) (by simpa using h2) hd fun k o2 ho hk=>hn (k+1) o2 (by simpa using ho) (by omega)
def a9j (ops:Array Oper):Nat→Nat→Nat→Bool
 | 0,_,_=>false
 | f+1,j,i=>Region.waitsFor .any ops j i||(List.range j).any fun k=>Region.waitsFor .any ops j k&&a9j ops f k i
theorem a2r {ops:Array Oper}{listed:Array Bool}(hc:∀ j k,listed.getD j false=true→Region.waitsFor .any ops j k=true→listed.getD k false=true) :
    ∀ {f j i:Nat},a9j ops f j i=true→listed.getD j false=true→listed.getD i false=true
  | 0,_,_,h,_=>by cases h
  | f+1,j,i,h,hl=>by
    unfold a9j at h
    rcases Bool.or_eq_true_iff.1 h with h|h
    · exact hc j i hl h
    · obtain⟨k,_,h2⟩:=List.any_eq_true.1 h
      obtain⟨h3,h4⟩:=Bool.and_eq_true_iff.1 h2
      exact a2r hc h4 (hc j k hl h3)
theorem b4n {ops:Array Oper}{listed:Array Bool}(hc:∀ j k,listed.getD j false=true→Region.waitsFor .any ops j k=true→listed.getD k false=true){j:Nat}(hw:∀ k,Region.waitsFor .any ops j k=true→listed.getD k false=true) :
    ∀ {f i:Nat},a9j ops f j i=true→listed.getD i false=true
  | 0,_,h=>by cases h
  | f+1,i,h=>by
    unfold a9j at h
    rcases Bool.or_eq_true_iff.1 h with h|h
    · exact hw i h
    · obtain⟨k,_,h2⟩:=List.any_eq_true.1 h
      obtain⟨h3,h4⟩:=Bool.and_eq_true_iff.1 h2
      exact a2r hc h4 (hw k h3)
def b8A:List Oper→List (Nat×Nat)→Nat→List (List (Nat×Nat))
 | [],_,_ => []
 | o::os,w,k=>((J6 o).filterMap fun t=>(T1 w t).map fun j=>(t,j))::b8A os (match o.dst with|some d=>(d,k)::w|none=>w) (k+1)
def okU (l:List Oper)(ts:List (Option (Nat×Nat))):Bool :=
 Nat.beq ts.length l.length&&a5g l.toArray l.length (b8A l [] 0) &&
 (List.range l.length).all fun j=>(List.range j).all fun i =>
  match ts[i]?,ts[j]? with
  | some (some (p,m)),some (some (q,n)) => !(Nat.beq p q)||(Nat.beq m 0&&Nat.beq n 0)||a9j l.toArray l.length j i
  | _,_=>true
def b0i (f:Nat→Bool):Nat→List (Nm→R8)→List (Option (Nm→R8))
 | _,[] => []
 | k,E::T=>(bif f k then none else some E)::b0i f (k+1) T
theorem a8d {f:Nat→Bool}:∀ {T:List (Nm→R8)} {k j:Nat},f (k+j)=false→(b0i f k T)[j]?=(T[j]?).map some
 | [],_,_,_=>by simp [b0i]
 | E::T,k,0,h=>by
  have h:f k=false:=h
  simp [b0i,h]
 | E::T,k,j+1,h=>by
  have:=a8d (f:=f) (T:=T) (k:=k+1) (j:=j) (by rwa [show k+1+j=k+(j+1) by omega])
  simpa [b0i] using this
def a9k (nm:Nat→Nm)(i:Nat)(v:Nm):Nat→Nm:=fun k=>bif Nat.beq k i then v else nm k
def c5f (l:List Oper)(T:(Nat→Nm)→List (Nm→R8)):List Nat→Prop
 | []=>True
 | i::r=>(∀ nm v,b0i (fun j=>a9j l.toArray l.length j i) 0 (T (a9k nm i v))=b0i (fun j=>a9j l.toArray l.length j i) 0 (T nm))∧c5f l T r
theorem b0j {l:List Oper}{T:(Nat→Nm)→List (Nm→R8)}:∀ {is:List Nat},c5f l T is→∀ i∈is,∀ nm v j,a9j l.toArray l.length j i=false→(T (a9k nm i v))[j]?=(T nm)[j]?
 | [],_,i,h=>by cases h
 | k::r,⟨h1,h2⟩,i,h=>fun nm v j hj=>by
  rcases List.mem_cons.1 h with rfl|h
  ·have e:=congrArg (fun z:List (Option (Nm→R8))=>z[j]?) (h1 nm v)
   rw [a8d (by simpa using hj),a8d (by simpa using hj)] at e
   cases h3:(T (a9k nm i v))[j]?<;>cases h4:(T nm)[j]?<;>rw [h3,h4] at e<;>simp_all
  ·exact b0j h2 i h nm v j hj
def a2g:List (Option (Nat×Nat))→Nat→List Nat
 | [],_ => []
 | some (_,2)::r,k=>k::a2g r (k+1)
 | _::r,k=>a2g r (k+1)
theorem a8H:∀ {ts:List (Option (Nat×Nat))} {k i p:Nat},ts[i]?=some (some (p,2))→k+i∈a2g ts k
 | [],_,_,_,h=>by simp at h
 | x::r,k,0,p,h=>by
  have h:x=some (p,2):=by simpa using h
  subst h
  simp [a2g]
 | x::r,k,i+1,p,h=>by
  have ih:=a8H (ts:=r) (k:=k+1) (i:=i) (by simpa using h)
  rw [show k+1+i=k+(i+1) by omega] at ih
  unfold a2g
  split
  ·rename_i heq;cases heq
  ·rename_i heq;cases heq;exact List.mem_cons_of_mem _ ih
  ·rename_i heq;cases heq;exact ih
def evT (nm:Nat→Nm):Nat→List (Nm→R8)→List R8
 | _,[] => []
 | k,E::T=>E (nm k)::evT nm (k+1) T
theorem a4q {nm:Nat→Nm}:∀ {T:List (Nm→R8)} {k:Nat},(evT nm k T).length=T.length
 | [],_=>rfl
 | _::T,k=>by simp [evT,a4q (T:=T)]
theorem a66 {nm:Nat→Nm}:∀ {T:List (Nm→R8)} {k i:Nat},(evT nm k T)[i]?=(T[i]?).map fun E=>E (nm (k+i))
 | [],_,_=>by simp [evT]
 | E::T,k,0=>by simp [evT]
 | E::T,k,i+1=>by
  have:=a66 (nm:=nm) (T:=T) (k:=k+1) (i:=i)
  rw [show k+1+i=k+(i+1) by omega] at this
  simpa [evT] using this
section
variable (P:Program)(C:Ctx)(N:Nat)(l:List Oper)
def RdU (o:Oper)(σ:o8)(H:j8)(t:Option (Nat×Nat))(r:AV):Prop :=
 match t with
 | none=>∀ H',OpP P N C o (Q3 σ o) H' (fun a=>a=r)
 | some (p,0)=>∃ B,H[p]?=some B∧∀ H' F,H9 H' B F→OpP P N C o (Q3 σ o) H' (fun a=>a=r)
 | _=>False
def JU (o:Oper)(σ:o8)(H:j8)(E:Nm→R8)(v0:Nm):Prop :=
 match o.guard with
 | some (g,want)=>∃ b c dg,a8a l g=some dg∧F6 σ dg=some (.v b)∧(E v0).r = .opt (b == want) c∧(match (E v0).t with|some (_,_+1)=>False|_=>True)∧(b=want→RdU P C N o σ H (E v0).t c)
 | none=>match (E v0).t with
  | some (p,1)=>∃ B,H[p]?=some B∧∀ H' F,H9 H' B F→OpH P C N o (Q3 σ o) H' (fun r H''=>r=(E v0).r∧H''=F (E v0).B)
  | some (p,2)=>∃ B,H[p]?=some B∧∀ H' F,H9 H' B F→OpH P C N o (Q3 σ o) H' (fun r H''=>∃ v,(E v).t=some (p,2)∧r=(E v).r∧H''=F (E v).B)
  | t=>RdU P C N o σ H t (E v0).r
def chU (nm:Nat→Nm)(F:o8→j8→Prop):Nat→List Oper→List (Nm→R8)→o8→j8→Prop
 | _,[],[],σ,H=>F σ H
 | k,o::os,E::T,σ,H=>JU P C N l o σ H E (nm k)∧chU nm F (k+1) os T (b8z o.dst (E (nm k)).r σ) (a5j H (E (nm k)))
 | _,_,_,_,_=>False
end
theorem a67 {P:Program}{C:Ctx}{N:Nat}{l:List Oper}{nm:Nat→Nm}{F:o8→j8→Prop}:∀ {os:List Oper} {T:List (Nm→R8)} {k:Nat} {σ:o8} {H:j8},chU P C N l nm F k os T σ H →
    os.length=T.length∧F (a65 os (evT nm k T) σ) ((evT nm k T).foldl a5j H) ∧
      ∀ i o E,os[i]?=some o→T[i]?=some E→JU P C N l o (a65 (os.take i) ((evT nm k T).take i) σ) (((evT nm k T).take i).foldl a5j H) E (nm (k+i))
  | [],[],k,σ,H,h=>⟨rfl,h,fun i o E h1=>by simp at h1⟩
  | o::os,E::T,k,σ,H,h=>by
    obtain⟨h1,h2⟩:=h
    obtain⟨h3,h4,h5⟩:=a67 h2
    refine⟨by simp [h3],h4,fun i o' E' h6 h7 => ?_⟩
    cases i with
    | zero =>
      obtain rfl:o=o':=by simpa using h6
      obtain rfl:E=E':=by simpa using h7
      exact h1
    | succ i =>
      have:=h5 i o' E' (by simpa using h6) (by simpa using h7)
      rw [show k+1+i=k+(i+1) by omega] at this
      exact this
  | [],_::_,_,_,_,h=>h.elim
  | _::_,[],_,_,_,h=>h.elim
theorem b1K {R:Nat→AV}:∀ {os:List Oper} {es:List R8} {k:Nat} {σ:o8},os.length=es.length→(∀ j e,es[j]?=some e→R (k+j)=e.r)→b4m R os k σ=a65 os es σ
 | [],[],_,_,_,_=>rfl
 | [],_::_,_,_,h,_=>by cases h
 | _::_,[],_,_,h,_=>by cases h
 | o::os,e::es,k,σ,hl,h=>by
  have h0:R k=e.r:=h 0 e rfl
  have ih:=fun σ=>b1K (R:=R) (os:=os) (es:=es) (k:=k+1) (σ:=σ) (by simpa using hl) fun j e' h1=>(by have:=h (j+1) e' (by simpa using h1);rwa [show k+(j+1)=k+1+j by omega] at this)
  unfold b4m a65 b8z
  cases o.dst with
  | none=>exact ih _
  | some d=>simp only [h0];exact ih _
theorem b9H (nm:Nat→Nm)(i:Nat)(v:Nm):a9k nm i v i=v:=by simp [a9k]
theorem c5g {nm:Nat→Nm}{i j:Nat}{v:Nm}(h:j≠i):a9k nm i v j=nm j:=by
 unfold a9k
 have:Nat.beq j i=false:=by
  cases e:Nat.beq j i with
  | false=>rfl
  | true=>exact absurd (Nat.eq_of_beq_eq_true e) h
 rw [this];rfl
theorem OpP.c2s {P:Program}{C:Ctx}{N:Nat}{o:Oper}{σ σ':o8}{H:j8}{K:AV→Prop}(h:OpP P N C o σ' H K)(k:a3X σ' σ):OpP P N C o σ H K:=fun ρ I L hs=>h ρ I L (hs.sub k)
theorem OpH.c2s {P:Program}{C:Ctx}{N:Nat}{o:Oper}{σ σ':o8}{H:j8}{K:AV→j8→Prop}(h:OpH P C N o σ' H K)(k:a3X σ' σ):OpH P C N o σ H K:=fun ρ I L hs=>h ρ I L (hs.sub k)
theorem wpA.c90 {P:Program}{C:Ctx}{N:Nat}{Q:Exit→o8→j8→Prop}{σ:o8}{H:j8}{id:Nat}{l:List Oper}(hm:P.follows .mixedOrders=true)(hN:R7 N l=true)
    (T:(Nat→Nm)→List (Nm→R8))(ts:List (Option (Nat×Nat)))(hts:∀ nm,(evT nm 0 (T nm)).map R8.t=ts)(hB:okU l ts=true)(hi:c5f l T (a2g ts 0))
    (h:∀ nm,chU P C N l nm (fun σ' H'=>wpB P C N l.toArray Q [] σ' H') 0 l (T nm) σ H):wpA P C N (.region id l.toArray true) Q σ H:=by
  unfold okU at hB
  obtain⟨hB1,hpairs⟩:=Bool.and_eq_true_iff.1 hB
  obtain⟨hlen,hphi⟩:=Bool.and_eq_true_iff.1 hB1
  have hlen:=Nat.eq_of_beq_eq_true hlen
  have hphi0:=hphi
  simp only [a5g,Bool.and_eq_true,Bool.or_eq_true] at hphi0
  obtain⟨⟨⟨⟨⟨hle,hback⟩,hok⟩,hdst⟩,htail⟩,hseq⟩:=hphi0
  have hokI:∀ i,i < l.length→a4J l.toArray l.length (b8A l [] 0) i=true:=fun i hi=>List.all_eq_true.1 hok i (List.mem_range.2 hi)
  have hpair:∀ i j p m n,i < j→ts[i]?=some (some (p,m))→ts[j]?=some (some (p,n))→¬(m=0∧n=0)→a9j l.toArray l.length j i=true:=fun i j p m n hij h1 h2 hmn=>by
    have hj:j < l.length:=by rw [←hlen];exact(List.getElem?_eq_some_iff.1 h2).1
    have:=List.all_eq_true.1 (List.all_eq_true.1 hpairs j (List.mem_range.2 hj)) i (List.mem_range.2 hij)
    rw [h1,h2] at this
    simp only [Nat.beq_refl,Bool.not_true,Bool.false_or,Bool.or_eq_true,Bool.and_eq_true] at this
    rcases this with this|this
    · exact absurd ⟨Nat.eq_of_beq_eq_true this.1,Nat.eq_of_beq_eq_true this.2⟩ hmn
    · exact this
  have hbk:∀ (i:Nat) (o:Oper) (j:Nat),l[i]?=some o→Region.waitsFor .any l.toArray i j=true→j < i:=fun i o j ho hw=>by
    have ho':l.toArray[i]?=some o:=by simpa using ho
    obtain⟨e,he,hb,heq⟩:=a0E ho' hw
    have hil:i < l.toArray.size:=(Array.getElem?_eq_some_iff.1 ho').1
    have h4:=List.all_eq_true.1 hback i (List.mem_range.2 hil)
    simp only [ho',Array.all_eq_true_iff_forall_mem] at h4
    have h5:=h4 e he
    rw [hb] at h5
    have:e.on < i:=by simpa [Nat.blt_eq] using h5
    omega
  have huniq:∀ (i j:Nat) (oi oj:Oper) (d:Nat),l[i]?=some oi→l[j]?=some oj→oi.dst=some d→oj.dst=some d→i=j:=by
    have key:∀ (i j:Nat) (oi oj:Oper) (d:Nat),j < i→l[i]?=some oi→l[j]?=some oj→oi.dst=some d→oj.dst=some d→False:=fun i j oi oj d hji h1 h2 h3 h4=>by
      have hil:=(List.getElem?_eq_some_iff.1 h1).1
      have:=List.all_eq_true.1 (List.all_eq_true.1 hdst i (List.mem_range.2 hil)) j (List.mem_range.2 hji)
      simp [h1,h2,h3,h4] at this
    intro i j oi oj d h1 h2 h3 h4
    rcases Nat.lt_trichotomy i j with hlt|he|hgt
    · exact(key j i oj oi d hlt h2 h1 h4 h3).elim
    · exact he
    · exact(key i j oi oj d hgt h1 h2 h3 h4).elim
  have htl:∀ nm,(T nm).length=l.length:=fun nm=>(a67 (h nm)).1.symm
  have htt:∀ (nm:Nat→Nm) (j:Nat) (e:R8),(evT nm 0 (T nm))[j]?=some e→ts[j]?=some e.t:=fun nm j e he=>by rw [←hts nm,List.getElem?_map,he];rfl
  refine wpA.c9Y hm (b8A l [] 0) hN hphi (fun listed R H'=>listed.size=l.length∧∃ nm,(∀ j e,listed.getD j false=true→(evT nm 0 (T nm))[j]?=some e→R j=e.r)∧H'=a29 (fun j=>listed.getD j false) (evT nm 0 (T nm)) H) ⟨by simp,fun _=>(undef,0),fun j e hl => ?_,?_⟩ ?_ ?_
  · rw [getD_replicate_false] at hl;cases hl
  · refine List.ext_getElem? fun p => ?_
    rw [a1X]
    have e:∀ B:Bool×C3,a0m (fun j=>(Array.replicate l.toArray.size false).getD j false) p 0 (evT (fun _=>(undef,0)) 0 (T fun _=>(undef,0))) B=B:=fun B=>a6u _ _ _ fun j w n _ _=>getD_replicate_false _ _
    cases H[p]? with
    | none=>rfl
    | some B=>rw [Option.map_some,e]
  · rintro listed R H' i o s ⟨hsz,nm,hR,rfl⟩ hl hs hun hw hcl hlt
    obtain⟨_,_,h3⟩:=a67 (h nm)
    have hil:=(List.getElem?_eq_some_iff.1 hl).1
    obtain⟨E,hE⟩:∃ E,(T nm)[i]?=some E:=⟨_,List.getElem?_eq_getElem (by rw [htl];exact hil)⟩
    have hJ:=h3 i o E hl hE
    rw [Nat.zero_add] at hJ
    have heV:(evT nm 0 (T nm))[i]?=some (E (nm i)):=by rw [a66,hE,Nat.zero_add];rfl
    have hti:=htt nm i _ heV
    have hoi:=hokI i hil
    unfold a4J at hoi
    have ho':l.toArray[i]?=some o:=by simpa using hl
    simp only [ho',hs,Bool.and_eq_true] at hoi
    obtain⟨hreads,hguard⟩:=hoi
    have hlen2:(evT nm 0 (T nm)).length=l.length:=by rw [a4q,htl]
    have hrow:∀ (j:Nat) (oj:Oper) (t:Nat),j < i→l[j]?=some oj→oj.dst=some t→∃ e,(evT nm 0 (T nm))[j]?=some e∧F6 (a65 (l.take i) ((evT nm 0 (T nm)).take i) σ) t=some e.r:=fun j oj t hji hj hd=>by
      have hjl:=(List.getElem?_eq_some_iff.1 hj).1
      refine⟨_,List.getElem?_eq_getElem (by omega),b1J (j:=j) (o:=oj) (by rw [List.getElem?_take,if_pos hji];exact hj) (by rw [List.getElem?_take,if_pos hji];exact List.getElem?_eq_getElem (by omega)) hd fun k o2 hk hne hd2 => ?_⟩
      rw [List.getElem?_take] at hk
      split at hk
      · exact hne (huniq k j o2 oj t hk hj hd2 hd)
      · cases hk
    have hsub:a3X (Q3 (a65 (l.take i) ((evT nm 0 (T nm)).take i) σ) o) (a64 σ R s (J6 o)):=fun t a ha=>by
      obtain⟨hm2,ha⟩:=a6v ha
      refine b0f ?_ hm2
      have hro:=List.all_eq_true.1 hreads t hm2
      unfold a2y at hro
      cases hsrc:T1 s t with
      | some j =>
        simp only [hsrc,Bool.and_eq_true,beq_iff_eq] at hro
        obtain⟨oj,hoj,hdj⟩:=Option.bind_eq_some_iff.1 hro.1.2
        have hoj:l[j]?=some oj:=by simpa using hoj
        obtain⟨e,he,h5⟩:=hrow j oj t (hbk i o j hl hro.2) hoj hdj
        rw [h5] at ha
        simp only
        rw [hR j e (hw j hro.2) he];exact ha
      | none =>
        simp only [hsrc] at hro
        simp only
        rw [←ha]
        refine(a8c fun j oj hj hd => ?_).symm
        rw [List.getElem?_take] at hj
        split at hj
        · rename_i hji
          have h6:=List.all_eq_true.1 hro j (List.mem_range.2 (by omega))
          simp [hj,hd] at h6
          rcases h6 with h6|h6
          · omega
          · have:=hbk j oj i hj h6;omega
        · cases hj
    -- who turns what this operation touches
    have hwr:∀ (p m j:Nat) (e:R8) (k:Nat),(E (nm i)).t=some (p,m)→(evT nm 0 (T nm))[j]?=some e→e.t=some (p,k+1)→j≠i→(j < i∧listed.getD j false=true)∨(i < j∧listed.getD j false=false):=fun p m j e k h1 h2 h4 hne=>by
      have htj:=htt nm j e h2
      rw [h1] at hti;rw [h4] at htj
      rcases Nat.lt_or_gt_of_ne hne with hlt2|hgt
      · exact .inl ⟨hlt2,b4n hcl hw (hpair j i p (k+1) m hlt2 htj hti (by omega))⟩
      · refine .inr ⟨hgt,?_⟩
        cases hlj:listed.getD j false with
        | false=>rfl
        | true=>rw [a2r hcl (hpair i j p m (k+1) hgt hti htj (by omega)) hlj] at hun;cases hun
    have hcont:∀ (p m:Nat) (B:Bool×C3),(E (nm i)).t=some (p,m)→(((evT nm 0 (T nm)).take i).foldl a5j H)[p]?=some B→(a29 (fun j=>listed.getD j false) (evT nm 0 (T nm)) H)[p]?=some B:=fun p m B h1 hB2=>by
      rw [a5N _ 0] at hB2
      rw [a1X,←hB2]
      congr 1
      refine funext fun B0 => ?_
      rw [←b6A]
      refine a2q _ _ _ fun j e k h4 h5 => ?_
      rw [Nat.zero_add,Nat.zero_add]
      by_cases hji:j=i
      · subst hji
        rw [hun]
        cases hb:Nat.blt j j with
        | false=>rfl
        | true=>simp at hb
      · rcases hwr p m j e k h1 h4 h5 hji with ⟨h6,h7⟩|⟨h6,h7⟩
        · rw [h7];exact(show Nat.blt j i=true by simpa [Nat.blt_eq] using h6).symm
        · rw [h7]
          cases hb:Nat.blt j i with
          | false=>rfl
          | true => have : j < i := by simpa [Nat.blt_eq] using hb
                    omega
    have hset:∀ j,(listed.setIfInBounds i true).getD j false=if i=j then true else listed.getD j false:=fun j=>c2n hlt
    -- an operation that turns nothing
    have d2q:(match (E (nm i)).t with|some (_,_+1)=>False|_=>True)→a29 (fun j=>(listed.setIfInBounds i true).getD j false) (evT nm 0 (T nm)) H=a29 (fun j=>listed.getD j false) (evT nm 0 (T nm)) H:=fun hn=>List.ext_getElem? fun p=>by
      rw [a1X,a1X]
      congr 1
      refine funext fun B0=>a2q _ _ _ fun j e k h4 h5 => ?_
      rw [Nat.zero_add,hset,if_neg]
      rintro rfl
      rw [heV] at h4
      cases h4
      rw [h5] at hn
      exact hn
    obtain⟨H0',hH0⟩:∃ z,z=a29 (fun j=>listed.getD j false) (evT nm 0 (T nm)) H:=⟨_,rfl⟩
    have hinv : ∀ R' : Nat → AV, (∀ j, j ≠ i → listed.getD j false = true → R' j = R j) → R' i = (E (nm i)).r → (match (E (nm i)).t with | some (_, _ + 1) => False | _ => True) →
        (listed.setIfInBounds i true).size=l.length∧∃ nm,(∀ (j:Nat) (e:R8),(listed.setIfInBounds i true).getD j false=true→(evT nm 0 (T nm))[j]?=some e→R' j=e.r)∧H0'=a29 (fun j=>(listed.setIfInBounds i true).getD j false) (evT nm 0 (T nm)) H:=fun R' h1 h2 hn=>by
      refine⟨by simpa using hsz,nm,fun j e hlj he => ?_,hH0.trans (d2q hn).symm⟩
      rw [hset] at hlj
      by_cases hji:i=j
      · subst hji
        rw [heV] at he
        cases he
        exact h2
      · rw [if_neg hji] at hlj
        rw [h1 j (Ne.symm hji) hlj]
        exact hR j e hlj he
    subst hH0
    have hself:∀ x:AV,(fun j=>if j=i then x else R j) i=x:=fun x=>if_pos rfl
    have hoth:∀ (x:AV) (j:Nat),j≠i→listed.getD j false=true→(fun j=>if j=i then x else R j) j=R j:=fun x j hj _=>if_neg hj
    have hread:∀ c,RdU P C N o (a65 (l.take i) ((evT nm 0 (T nm)).take i) σ) (((evT nm 0 (T nm)).take i).foldl a5j H) (E (nm i)).t c→OpP P N C o (a64 σ R s (J6 o)) (a29 (fun j=>listed.getD j false) (evT nm 0 (T nm)) H) (fun a=>a=c):=fun c hrd=>by
      unfold RdU at hrd
      split at hrd
      · exact(hrd _).c2s hsub
      · rename_i p ht
        obtain⟨B,h4,h5⟩:=hrd
        exact(h5 _ _ (H9.at (hcont p 0 B ht h4))).c2s hsub
      · exact hrd.elim
    -- an operation that turns a place
    have upd : ∀ (V' : List R8) (e' : R8) (p k m : Nat), (E (nm i)).t = some (p, m) → V'.length = (evT nm 0 (T nm)).length → (∀ j, listed.getD j false = true → V'[j]? = (evT nm 0 (T nm))[j]?) → (∀ (j : Nat) (e : R8), V'[j]? = some e → ts[j]? = some e.t) → V'[i]? = some e' → e'.t = some (p, k + 1) → p < H.length →
        (a29 (fun j=>listed.getD j false) (evT nm 0 (T nm)) H).set p e'.B=a29 (fun j=>(listed.setIfInBounds i true).getD j false) V' H:=fun V' e' p k m hm0 h4 h5 h6 h7 h8 h9=>List.ext_getElem? fun q=>by
      rw [List.getElem?_set,a1X _ V']
      by_cases hq:p=q
      · subst hq
        rw [if_pos rfl,b9G,if_pos h9,List.getElem?_eq_getElem h9,Option.map_some]
        congr 1
        refine(b0h V' 0 i _ e' k h7 h8 (by rw [Nat.zero_add,hset,if_pos rfl]) fun j u n h10 h11 h12 => ?_).symm
        rw [Nat.zero_add,hset,if_neg (by omega)]
        cases hlj:listed.getD j false with
        | false=>rfl
        | true =>
          rw [hm0] at hti
          have h13:=h6 j u h10
          rw [h11] at h13
          rw [a2r hcl (hpair i j p m (n+1) h12 hti h13 (by omega)) hlj] at hun;cases hun
      · rw [if_neg hq,a1X]
        congr 1
        refine funext fun B0 => ?_
        rw [b0g _ V' _ _ h4.symm fun j hj hlj=>(h5 j (by rwa [Nat.zero_add] at hlj)).symm]
        refine a2q _ _ _ fun j e n h10 h11 => ?_
        rw [Nat.zero_add,hset,if_neg]
        rintro rfl
        rw [h7] at h10
        cases h10
        rw [h8] at h11
        cases h11
        exact hq rfl
    have hin:∀ (p:Nat) (B:Bool×C3),(((evT nm 0 (T nm)).take i).foldl a5j H)[p]?=some B→p < H.length:=fun p B h4=>by
      rw [a5N _ 0] at h4
      cases h5:H[p]? with
      | none=>rw [h5] at h4;cases h4
      | some _=>exact(List.getElem?_eq_some_iff.1 h5).1
    unfold JU at hJ
    cases hg:o.guard with
    | some gw =>
      obtain⟨g,want⟩:=gw
      rw [hg] at hJ hguard
      obtain⟨b,c,dg,hnd,hlk,her,hnw,hrd⟩:=hJ
      simp only [Bool.and_eq_true] at hguard
      have hRg:R g = .v b:=by
        rw [a4p] at hnd
        obtain⟨og,hog,hdg⟩:=Option.bind_eq_some_iff.1 hnd
        have hog:l[g]?=some og:=by simpa using hog
        obtain⟨e,he,h5⟩:=hrow g og dg (hbk i o g hl hguard.1.2) hog hdg
        rw [h5] at hlk
        rw [hR g e (hw g hguard.1.2) he];exact Option.some.inj hlk
      exact⟨b,c,hRg,fun hb=>hread c (hrd hb),hinv _ (hoth _) (by rw [if_pos rfl,her]) hnw⟩
    | none =>
      rw [hg] at hJ
      have rd:(match (E (nm i)).t with|some (_,_+1)=>False|_=>True)→RdU P C N o (a65 (l.take i) ((evT nm 0 (T nm)).take i) σ) (((evT nm 0 (T nm)).take i).foldl a5j H) (E (nm i)).t (E (nm i)).r→_:=fun hnw hrd=>OpH.ofP (KH:=fun r H'=>∃ R':Nat→AV,(∀ j,j≠i→listed.getD j false=true→R' j=R j)∧R' i=r∧(listed.setIfInBounds i true).size=l.length∧∃ nm,(∀ (j:Nat) (e:R8),(listed.setIfInBounds i true).getD j false=true→(evT nm 0 (T nm))[j]?=some e→R' j=e.r)∧H'=a29 (fun j=>(listed.setIfInBounds i true).getD j false) (evT nm 0 (T nm)) H) ((hread _ hrd).to ⟨_,hoth _,hself _,hinv _ (hoth _) (hself _) hnw⟩)
      simp only at hJ ⊢
      split at hJ
      · rename_i p ht
        obtain⟨B,h4,h5⟩:=hJ
        refine OpH.mono ((h5 _ _ (H9.at (hcont p 1 B ht h4))).c2s hsub) fun r H'' ⟨hr,hH⟩=>⟨_,hoth r,hself r,by simpa using hsz,nm,fun j e hlj he => ?_,?_⟩
        · rw [hset] at hlj
          by_cases hji:i=j
          · subst hji
            rw [heV] at he
            cases he
            rw [if_pos rfl,hr]
          · rw [if_neg hji] at hlj
            rw [if_neg (Ne.symm hji)]
            exact hR j e hlj he
        · rw [hH]
          exact upd _ _ p 0 1 ht rfl (fun _ _=>rfl) (htt nm) heV ht (hin p B h4)
      · rename_i p ht
        obtain⟨B,h4,h5⟩:=hJ
        refine OpH.mono ((h5 _ _ (H9.at (hcont p 2 B ht h4))).c2s hsub) fun r H'' ⟨v,hv,hr,hH⟩=>⟨_,hoth r,hself r,by simpa using hsz,a9k nm i v,?_⟩
        have hmem:i∈a2g ts 0:=by
          have:=a8H (ts:=ts) (k:=0) (i:=i) (p:=p) (by rw [hti,ht])
          rwa [Nat.zero_add] at this
        have hvi:(evT (a9k nm i v) 0 (T (a9k nm i v)))[i]?=some (E v):=by
          rw [a66,b0j hi i hmem nm v i (by
            cases hb:a9j l.toArray l.length i i with
            | false=>rfl
            | true=>rw [b4n hcl hw hb] at hun;cases hun),hE,Nat.zero_add,b9H];rfl
        have hvj:∀ j,listed.getD j false=true→(evT (a9k nm i v) 0 (T (a9k nm i v)))[j]?=(evT nm 0 (T nm))[j]?:=fun j hlj=>by
          have hne:j≠i:=by rintro rfl;rw [hun] at hlj;cases hlj
          rw [a66,a66,b0j hi i hmem nm v j (by
            cases hb:a9j l.toArray l.length j i with
            | false=>rfl
            | true=>rw [a2r hcl hb hlj] at hun;cases hun),Nat.zero_add,c5g hne]
        refine⟨fun j e hlj he => ?_,?_⟩
        · rw [hset] at hlj
          by_cases hji:i=j
          · subst hji
            rw [hvi] at he
            cases he
            rw [if_pos rfl,hr]
          · rw [if_neg hji] at hlj
            rw [if_neg (Ne.symm hji)]
            rw [hvj j hlj] at he
            exact hR j e hlj he
        · rw [hH]
          exact upd _ _ p 1 2 ht (by rw [a4q,a4q,htl,htl]) hvj (htt _) hvi hv (hin p B h4)
      · rename_i h4 h5
        refine rd ?_ hJ
        split
        · rename_i p k ht
          rcases k with _|_|k
          · exact h4 p ht
          · exact h5 p ht
          · rw [ht] at hJ;exact hJ
        · trivial
  · rintro listed R H' ⟨hsz,nm,hR,rfl⟩ hall
    obtain⟨h1,h2,_⟩:=a67 (h nm)
    rw [b1K (es:=evT nm 0 (T nm)) (by rw [a4q,htl]) fun j e he=>hR _ e (by
      rw [Nat.zero_add]
      exact hall j (by have:=(List.getElem?_eq_some_iff.1 he).1;rw [a4q,htl] at this;exact this)) (by rwa [Nat.zero_add])]
    have e:a29 (fun j=>listed.getD j false) (evT nm 0 (T nm)) H=(evT nm 0 (T nm)).foldl a5j H:=List.ext_getElem? fun p=>by
      rw [a1X,a5N _ 0]
      congr 1
      refine funext fun B=>a2q _ _ _ fun j e m he _ => ?_
      rw [Nat.zero_add]
      exact hall j (by have:=(List.getElem?_eq_some_iff.1 he).1;rw [a4q,htl] at this;exact this)
    rw [e];exact h2
end Go.Ab
namespace Go.Ab
open Go.Fl Go.RowKit
open u3 (rep)
universe u v
@[reducible] def orW:Bool→Bool→Bool|true,_=>true|false,b=>b
theorem a01 {a b:Bool}(h:orW a b=true):a=true∨b=true:=by cases a with|true=>exact .inl rfl|false=>exact .inr h
@[reducible] def a9l (t:Nat):Operand→Bool | .tmp s=>Nat.beq s t|_=>false
@[reducible] def c2t (t:Nat):List Operand→Bool | []=>false|x::r=>orW (a9l t x) (c2t t r)
@[reducible] def c7E (t:Nat):List (Nat×Operand)→Bool | []=>false|x::r=>orW (a9l t x.2) (c7E t r)
@[reducible] def c5h (t:Nat):Option Operand→Bool|none=>false|some x=>a9l t x
@[reducible] def c92 (t:Nat):Callee→Bool | .value x=>a9l t x|_=>false
@[reducible] def c7F (t:Nat):Op→Bool
 | .move x | .assign x | .box _ x | .load _ x | .nilCheck x | .unOp _ _ x | .convert _ _ x | .sliceToArrayPointer _ x | .fieldAddr _ x _ | .field _ x _ | .extract x _ | .range _ x | .next x _ | .makeInterface _ x=>a9l t x
 | .pick c a b=>orW (a9l t c) (orW (a9l t a) (a9l t b))
 | .build _ ps | .buildSlice _ _ ps=>c7E t ps.toList
 | .store _ a v | .binOp _ _ a v _ | .makeSlice _ a v | .indexAddr _ a v | .index _ a v=>orW (a9l t a) (a9l t v)
 | .makeFunc _ first captured=>orW (c2t t first.toList) (c2t t captured.toList)
 | .slice _ x l h m=>orW (a9l t x) (orW (c5h t l) (orW (c5h t h) (c5h t m)))
 | .call c=>orW (c92 t c.callee) (c2t t c.args.toList)
 | _=>false
theorem a2h {t:Nat}{x:Operand}(h:a9l t x=true):x = .tmp t:=by
 cases x with
 | tmp s=>exact congrArg Operand.tmp (Nat.eq_of_beq_eq_true h)
 | _=>cases h
theorem a68 {t:Nat}:∀ {l:List Operand},c2t t l=true → .tmp t∈l
 | [],h=>by cases h
 | x::r,h=>by
  rcases a01 h with h|h
  ·rw [a2h h];exact List.mem_cons_self ..
  ·exact List.mem_cons_of_mem _ (a68 h)
theorem b4o {t:Nat}:∀ {l:List (Nat×Operand)},c7E t l=true → .tmp t∈l.map Prod.snd
 | [],h=>by cases h
 | x::r,h=>by
  rcases a01 h with h|h
  ·rw [List.map_cons,a2h h];exact List.mem_cons_self ..
  ·exact List.mem_cons_of_mem _ (b4o h)
theorem b2S {t:Nat}{x:Option Operand}(h:c5h t x=true):x=some (.tmp t):=by
 cases x with
 | none=>cases h
 | some x=>rw [a2h h]
theorem c2u {t:Nat}{o:Oper}(h:c7F t o.op=true):t∈J6 o:=by
  have key:Operand.tmp t∈o.op.operands.toList:=by
    revert h
    cases o.op<;>intro h<;>simp only [c7F] at h<;>(try cases h;done)<;>simp only [Op.operands]
    all_goals first
      | (rw [a2h h];simp;done)
      | (rcases a01 h with h | h
         · rw [a2h h];simp;done
         · rcases a01 h with h|h
           · rw [a2h h];simp;done
           · rw [a2h h];simp;done)
      | (rcases a01 h with h|h<;>rw [a2h h]<;>simp;done)
      | (have:=b4o h;simpa using this;done)
      | (rcases a01 h with h | h
         · have:=a68 h;simp;exact .inl (by simpa using this)
         · have:=a68 h;simp;exact .inr (by simpa using this))
      | (rcases a01 h with h | h
         · rw [a2h h];simp;done
         · rcases a01 h with h|h
           · rw [b2S h];simp;done
           · rcases a01 h with h|h
             · rw [b2S h];simp;done
             · rw [b2S h];simp;done)
      | skip
    all_goals
      rename_i c
      obtain⟨cal,args,tys⟩:=c
      rcases a01 h with h|h
      · cases cal<;>simp only [c92] at h<;>(try cases h;done)
        rw [a2h h];simp [Call.operands]
      · have:=a68 h
        cases cal<;>simp [Call.operands]<;>first|exact .inr (by simpa using this)|(simpa using this)
  unfold J6
  exact List.mem_filterMap.2 ⟨_,key,rfl⟩
instance (priority:=high){σ:o8}{o:Oper}{t:Nat}{a:AV}[h:LkQ σ t a][k:TrB (c7F t o.op)]:LkQ (Q3 σ o) t a:=⟨a5O (c2u k.h) h.h⟩
class Cj (A B:List Prop)(D:outParam (List Prop)):Prop where h:D=A++B
instance {B:List Prop}:Cj [] B B:=⟨rfl⟩
instance {p:Prop}{A B D:List Prop}[k:Cj A B D]:Cj (p::A) B (p::D):=⟨by rw [k.h];rfl⟩
class Ce (A B:List Bool)(D:outParam (List Bool)):Prop where h:D=A++B
instance {B:List Bool}:Ce [] B B:=⟨rfl⟩
instance {p:Bool}{A B D:List Bool}[k:Ce A B D]:Ce (p::A) B (p::D):=⟨by rw [k.h];rfl⟩
def Z8:List Prop→Prop | []=>True|p::r=>p∧Z8 r
def a0K:List Bool→Bool | []=>true|p::r=>p&&a0K r
theorem b0k:∀ {A B:List Prop},Z8 (A++B)→Z8 A∧Z8 B
 | [],_,h=>⟨trivial,h⟩
 | _::_,_,h=>⟨⟨h.1,(b0k h.2).1⟩,(b0k h.2).2⟩
theorem b0l:∀ {A B:List Bool},a0K (A++B)=true→a0K A=true∧a0K B=true
 | [],_,h=>⟨rfl,h⟩
 | _::_,_,h=>by
  obtain⟨h1,h2⟩:=Bool.and_eq_true_iff.1 h
  exact⟨Bool.and_eq_true_iff.2 ⟨h1,(b0l h2).1⟩,(b0l h2).2⟩
theorem Cj.of {A B D:List Prop}(c:Cj A B D)(h:Z8 D):Z8 A∧Z8 B:=b0k (c.h▸h)
theorem Ce.of {A B D:List Bool}(c:Ce A B D)(h:a0K D=true):a0K A=true∧a0K B=true:=b0l (c.h▸h)
class ImQ (p:Prop)(D:List Prop)(D':outParam (List Prop)):Prop where h:Z8 D'→p→Z8 D
instance {p:Prop}:ImQ p [] []:=⟨fun _ _=>trivial⟩
instance {p q:Prop}{D D':List Prop}[k:ImQ p D D']:ImQ p (q::D) ((p→q)::D'):=⟨fun h hp=>⟨h.1 hp,k.h h.2 hp⟩⟩
class EvB (b:Bool)(c:outParam Bool):Prop where h:b=c
instance {b:Bool}[k:TrB b]:EvB b true:=⟨k.h⟩
instance {b:Bool}[k:FaB b]:EvB b false:=⟨k.h⟩
class BoP (b:Bool)(p:outParam Prop):Prop where h:b=true↔p
instance {p:Prop}{_:Decidable p}:BoP (decide p) p:=⟨decide_eq_true_iff⟩
instance {a b:Bool}{p q:Prop}[x:BoP a p][y:BoP b q]:BoP (a&&b) (p∧q):=⟨by rw [Bool.and_eq_true,x.h,y.h]⟩
instance {a b:Bool}{p q:Prop}[x:BoP a p][y:BoP b q]:BoP (a||b) (p∨q):=⟨by rw [Bool.or_eq_true,x.h,y.h]⟩
instance {a:Bool}{p:Prop}[x:BoP a p]:BoP (!a) (¬p):=⟨by rw [←x.h];simp⟩
instance (priority:=low){b:Bool}:BoP b (b=true):=⟨Iff.rfl⟩
class GdQ (b want:Bool)(p:outParam Prop):Prop where h:b=want→p
instance {b:Bool}{p:Prop}[x:BoP b p]:GdQ b true p:=⟨x.h.1⟩
instance {b:Bool}{p:Prop}[x:BoP b p]:GdQ b false (¬p):=⟨fun e hp=>by rw [x.h.2 hp] at e;cases e⟩
class OpD (G:Gl)(P:Program)(c:Bool)(o:Oper)(σ:o8)(H:j8)(D:outParam (List Prop))(r:outParam AV):Prop where h:∀ N C,G.p C.I0→c=true→Z8 D→OpP P N C o σ H (fun a=>a=r)
section
variable {G:Gl}{P:Program}{c:Bool}{σ:o8}{H:j8}{d:Option Nat}{ty:TypeId}{ps:String}{af:Array Edge}{g:Option (Nat×Bool)}{x y:Operand}{T T2 E:TypeId}{m n:Int}
instance (priority:=high){o:Oper}{r:AV}[h:OpQ G P c o σ H r]:OpD G P c o σ H [] r:=⟨fun N C hG e _=>h.h N C hG e⟩
instance [hx:T9 c σ x Int inferInstance m][hy:T9 c σ y Int inferInstance n]:OpD G P c ⟨d,.binOp .add T x y T2,ty,ps,af,g⟩ σ H [-9223372036854775808≤m+n,m+n≤9223372036854775807] (.v (m+n)):=⟨fun N C hG e h => .add (hx.h C H e) (hy.h C H e) h.1 h.2.1 rfl⟩
instance [hx:T9 c σ x Int inferInstance m][hy:T9 c σ y Int inferInstance n]:OpD G P c ⟨d,.binOp .sub T x y T2,ty,ps,af,g⟩ σ H [-9223372036854775808≤m - n,m - n≤9223372036854775807] (.v (m - n)):=⟨fun N C hG e h => .sub (hx.h C H e) (hy.h C H e) h.1 h.2.1 rfl⟩
instance [hx:T9 c σ x Int inferInstance m][hy:T9 c σ y Int inferInstance n]:OpD G P c ⟨d,.binOp .mul T x y T2,ty,ps,af,g⟩ σ H [-9223372036854775808≤m*n,m*n≤9223372036854775807] (.v (m*n)):=⟨fun N C hG e h => .mul (hx.h C H e) (hy.h C H e) h.1 h.2.1 rfl⟩
instance [hx:T9 c σ x Int inferInstance m][hy:T9 c σ y Int inferInstance n]:OpD G P c ⟨d,.binOp .rem T x y T2,ty,ps,af,g⟩ σ H [0≤m,0 < n] (.v (m % n)):=⟨fun N C hG e h => .rem (hx.h C H e) (hy.h C H e) h.1 h.2.1 rfl⟩
instance {α:Type}{r:u3 α}{i:Inhabited α}{l:List α}[u:UnI P T (.slice E)][t:TyI P E α r i][hx:T9 c σ x (List α) inferInstance l][hy:T9 c σ y Int inferInstance n]:OpD G P c ⟨d,.indexAddr T x y,ty,ps,af,g⟩ σ H [0≤n,n < l.length] (.p (l.getD n.toNat default)):=⟨fun N C hG e h => .idx t.h u.h (hx.h C H e) (hy.h C H e) h.1 h.2.1 (by
 have h1:=h.1
 have h2:=h.2.1
 rw [List.getD_eq_getElem?_getD,List.getElem?_eq_getElem (by omega)];rfl)⟩
end
class Cl1 (G:Gl)(P:Program)(f:FuncId)(caps:List AV)(α:outParam Type)(r:outParam (u3 α))(β:outParam Type)(s:outParam (u3 β))(g:outParam (α→β)):Prop where h:∀ x,C4 G P f (.v x::caps) (fun r=>r = .v (g x))
class Cl2 (G:Gl)(P:Program)(f:FuncId)(caps:List AV)(α:outParam Type)(r:outParam (u3 α))(β:outParam Type)(s:outParam (u3 β))(γ:outParam Type)(t:outParam (u3 γ))(g:outParam (α→β→γ)):Prop where h:∀ x y,C4 G P f (.v x :: .v y::caps) (fun r=>r = .v (g x y))
section
variable {G:Gl}{P:Program}{c:Bool}{σ:o8}{H:j8}{d:Option Nat}{ty:TypeId}{ps:String}{af:Array Edge}{g:Option (Nat×Bool)}{f:FuncId}{args:Array Operand}{caps:List AV}{α β γ:Type}{r:u3 α}{s:u3 β}{t:u3 γ}
instance {g1:α→β}[hv:AsQ c σ args.toList caps][k:Cl1 G P f caps α r β s g1]:OpD G P c ⟨d,.makeFunc (.func f) #[] args,ty,ps,af,g⟩ σ H [] (.a62 P g1):=⟨fun N C hG e _ => .b6u hG k.h (hv.h C H e) rfl⟩
end
class P9 (G:Gl)(P:Program)(f:FuncId)(ags:List AV)(D:outParam (List Prop))(r:outParam AV):Prop where h:Z8 D→C4 G P f ags (fun x=>x=r)
instance {G:Gl}{P:Program}{c:Bool}{σ:o8}{H:j8}{d:Option Nat}{ty:TypeId}{ps:String}{af:Array Edge}{g:Option (Nat×Bool)}{f:FuncId}{args:Array Operand}{tys:Array TypeId}{ags:List AV}{D:List Prop}{r:AV}[hv:AsQ c σ args.toList ags][k:P9 G P f ags D r] :
    OpD G P c ⟨d,.call ⟨.value (.func f),args,tys⟩,ty,ps,af,g⟩ σ H D r:=⟨fun N C hG e hD => .J7 hG (k.h hD) (hv.h C H e) rfl⟩
class StD (G:Gl)(P:Program)(ops:List Oper)(o:Oper)(σ:o8)(H:j8)(D:outParam (List Prop))(σ':outParam o8)(H':outParam j8):Prop where
 h:∀ N C Q rest,G.p C.I0→Z8 D→wpB P C N ops.toArray Q rest σ' H'→wpB P C N ops.toArray Q (o::rest) σ H
section
variable {G:Gl}{P:Program}{ops:List Oper}{σ:o8}{H H':j8}{ps:String}{af:Array Edge}{ty:TypeId}
instance (priority:=high){o:Oper}{σ':o8}[h:StQ G P ops o σ H σ' H']:StD G P ops o σ H [] σ' H':=⟨fun N C Q rest hG _ k=>h.h N C Q rest hG k⟩
instance {d:Nat}{op:Op}{r:AV}{D:List Prop}[h:OpD G P true ⟨some d,op,ty,ps,af,none⟩ σ H D r]:StD G P ops ⟨some d,op,ty,ps,af,none⟩ σ H D ((d,r)::σ) H:=⟨fun N C Q rest hG hD k => .p ((h.h N C hG rfl hD).to k)⟩
instance {d:Nat}{op:Op}{j:Nat}{want b:Bool}{dj:Nat}{r:AV}{D D':List Prop}{p:Prop}[hj:EqS (a8a ops j) dj][hb:T9 true σ (.tmp dj) Bool inferInstance b][h:OpD G P (b == want) ⟨some d,op,ty,ps,af,none⟩ σ H D r][hg:GdQ b want p][hi:ImQ p D D'] :
    StD G P ops ⟨some d,op,ty,ps,af,some (j,want)⟩ σ H D' ((d,.opt (b == want) r)::σ) H:=⟨fun N C Q rest hG hD k => .go dj ((a4p ops j).symm.trans hj.h) (hb.h C H rfl) (fun e=>h.h N C hG (beq_iff_eq.2 e) (hi.h hD (hg.h e))) k⟩
end
class PoQ (H:j8)(w:Value)(p:outParam Nat)(B:outParam (Bool×C3))(F:outParam (Bool×C3→j8)):Prop where
 get:H[p]?=some B
 set:∀ X,H.set p X=F X
instance (priority:=low){A B:Bool×C3}{H:j8}{w:Value}{p:Nat}{F:Bool×C3→j8}[k:PoQ H w p B F]:PoQ (A::H) w (p+1) B (fun X=>A::F X):=⟨by rw [List.getElem?_cons_succ];exact k.get,fun X=>by rw [List.set_cons_succ,k.set]⟩
instance {g:Bool}{α:Type}{r:u3 α}{a:α}{H:j8}{w:Value}:PoQ ((g,.ob w a)::H) w 0 (g,.ob w a) (fun X=>X::H):=⟨rfl,fun _=>rfl⟩
instance {g:Bool}{α:Type}{r:u3 α}{E:TypeId}{a:List α}{H:j8}{w:Value}:PoQ ((g,.own E w a)::H) w 0 (g,.own E w a) (fun X=>X::H):=⟨rfl,fun _=>rfl⟩
class HlQ (H:j8)(p:outParam Nat)(F:outParam (Bool×C3→j8)):Prop where
 get:H[p]?=some a1n
 set:∀ X,H.set p X=F X
def a1p:Bool×C3:=a1n
instance {H:j8}:HlQ (a1p::H) 0 (fun X=>X::H):=⟨rfl,fun _=>rfl⟩
instance (priority:=low){A:Bool×C3}{H:j8}{p:Nat}{F:Bool×C3→j8}[k:HlQ H p F]:HlQ (A::H) (p+1) (fun X=>A::F X):=⟨by rw [List.getElem?_cons_succ];exact k.get,fun X=>by rw [List.set_cons_succ,k.set]⟩
class CoQ {α:Sort u}{β:Sort v}(f:α→β)(c:outParam β):Prop where h:∀ x,f x=c
instance {α:Sort u}{β:Sort v}{c:β}:CoQ (fun _:α=>c) c:=⟨fun _=>rfl⟩
structure HpW (w:Value)(B:Bool×C3) where
 H:j8
 F:Bool×C3→j8
 hole:H9 H B F
instance {w:Value}{B:Bool×C3}{X:HpW w B}:HoQ X.H w B X.F:=⟨X.hole⟩
class ApQ {w:Value}{B:Bool×C3}(R:HpW w B→j8)(B':outParam (Bool×C3)):Prop where h:∀ X,R X=X.F B'
instance {w:Value}{B B':Bool×C3}:ApQ (fun X:HpW w B=>X.F B') B':=⟨fun _=>rfl⟩
class ToQ (o:Oper)(σ:o8)(w:outParam Value):Prop where h:True
instance {σ:o8}{d:Option Nat}{T ty:TypeId}{ps:String}{af:Array Edge}{g:Option (Nat×Bool)}{x:Operand}{α β:Type}{r:u3 α}{s:u3 β}{w:Value}{l:j9 α β}[h:EvQ true σ x (.ln w l)]:ToQ ⟨d,.load T x,ty,ps,af,g⟩ σ w:=⟨trivial⟩
def GC (G:Gl)(C:Ctx):Prop:=Ctx.Ok C∧G.p C.I0
class ChQ (G:Gl)(P:Program)(l:List Oper)(nm:Nat→Nm)(k:Nat)(os:List Oper)(σ:o8)(H:j8)(T:outParam (List (Nm→R8)))(ts:outParam (List (Option (Nat×Nat))))(σ':outParam o8)(H':outParam j8)(D:outParam (List Prop)):Prop where
 h:∀ N C F,GC G C→Z8 D→F σ' H'→chU P C N l nm F k os T σ H
 t:(evT nm k T).map R8.t=ts
section
variable {G:Gl}{P:Program}{l os:List Oper}{nm:Nat→Nm}{k:Nat}{σ σ':o8}{H H':j8}{T:List (Nm→R8)}{ts:List (Option (Nat×Nat))}{D D1 D2:List Prop}{d:Nat}{op:Op}{ty:TypeId}{ps:String}{af:Array Edge}{r:AV}
instance:ChQ G P l nm k [] σ H [] [] σ H []:=⟨fun N C F _ _ h=>h,rfl⟩
instance (priority:=1100){DX:j8→List Prop}{rX:j8→AV}[hp:∀ H',OpD G P true ⟨some d,op,ty,ps,af,none⟩ (Q3 σ ⟨some d,op,ty,ps,af,none⟩) H' (DX H') (rX H')][cD:CoQ DX D1][cr:CoQ rX r][q:ChQ G P l nm (k+1) os ((d,r)::σ) H T ts σ' H' D2][c:Cj D1 D2 D] :
    ChQ G P l nm k (⟨some d,op,ty,ps,af,none⟩::os) σ H ((fun _=>⟨none,r,b1I⟩)::T) (none::ts) σ' H' D :=
  ⟨fun N C F hG hD hF=>⟨fun H'=>cr.h H'▸(hp H').h N C hG.2 rfl (cast (congrArg Z8 (cD.h H')).symm (c.of hD).1),q.h N C F hG (c.of hD).2 hF⟩,by rw [evT,List.map_cons,q.t]⟩
instance {w:Value}{p:Nat}{B:Bool×C3}{F0:Bool×C3→j8}[to:ToQ ⟨some d,op,ty,ps,af,none⟩ (Q3 σ ⟨some d,op,ty,ps,af,none⟩) w][po:PoQ H w p B F0]{DX:HpW w B→List Prop}{rX:HpW w B→AV}[hp:∀ X:HpW w B,OpD G P true ⟨some d,op,ty,ps,af,none⟩ (Q3 σ ⟨some d,op,ty,ps,af,none⟩) X.H (DX X) (rX X)][cD:CoQ DX D1][cr:CoQ rX r]
    [q:ChQ G P l nm (k+1) os ((d,r)::σ) H T ts σ' H' D2][c:Cj D1 D2 D] :
    ChQ G P l nm k (⟨some d,op,ty,ps,af,none⟩::os) σ H ((fun _=>⟨some (p,0),r,b1I⟩)::T) (some (p,0)::ts) σ' H' D :=
  ⟨fun N C F hG hD hF=>⟨⟨B,po.get,fun H' F' hh=>cr.h ⟨H',F',hh⟩▸(hp ⟨H',F',hh⟩).h N C hG.2 rfl (cast (congrArg Z8 (cD.h _)).symm (c.of hD).1)⟩,q.h N C F hG (c.of hD).2 hF⟩,by rw [evT,List.map_cons,q.t]⟩
instance (priority:=1100){j dj:Nat}{want b:Bool}{pp:Prop}{D3:List Prop}[hj:EqS (a8a l j) dj][hb:LkQ σ dj (.v b)]{DX:j8→List Prop}{rX:j8→AV}[hp:∀ H',OpD G P (b == want) ⟨some d,op,ty,ps,af,some (j,want)⟩ (Q3 σ ⟨some d,op,ty,ps,af,some (j,want)⟩) H' (DX H') (rX H')][cD:CoQ DX D1][cr:CoQ rX r][hg:GdQ b want pp][hi:ImQ pp D1 D3]
    [q:ChQ G P l nm (k+1) os ((d,.opt (b == want) r)::σ) H T ts σ' H' D2][c:Cj D3 D2 D] :
    ChQ G P l nm k (⟨some d,op,ty,ps,af,some (j,want)⟩::os) σ H ((fun _=>⟨none,.opt (b == want) r,b1I⟩)::T) (none::ts) σ' H' D :=
  ⟨fun N C F hG hD hF=>⟨⟨b,r,dj,hj.h,hb.h,rfl,trivial,fun e H'=>cr.h H'▸(hp H').h N C hG.2 (beq_iff_eq.2 e) (cast (congrArg Z8 (cD.h H')).symm (hi.h (c.of hD).1 (hg.h e)))⟩,q.h N C F hG (c.of hD).2 hF⟩,by rw [evT,List.map_cons,q.t]⟩
instance {j dj:Nat}{want b:Bool}{pp:Prop}{D3:List Prop}{w:Value}{p:Nat}{B:Bool×C3}{F0:Bool×C3→j8}[hj:EqS (a8a l j) dj][hb:LkQ σ dj (.v b)][to:ToQ ⟨some d,op,ty,ps,af,some (j,want)⟩ (Q3 σ ⟨some d,op,ty,ps,af,some (j,want)⟩) w][po:PoQ H w p B F0]
    {DX:HpW w B→List Prop}{rX:HpW w B→AV}[hp:∀ X:HpW w B,OpD G P (b == want) ⟨some d,op,ty,ps,af,some (j,want)⟩ (Q3 σ ⟨some d,op,ty,ps,af,some (j,want)⟩) X.H (DX X) (rX X)][cD:CoQ DX D1][cr:CoQ rX r][hg:GdQ b want pp][hi:ImQ pp D1 D3]
    [q:ChQ G P l nm (k+1) os ((d,.opt (b == want) r)::σ) H T ts σ' H' D2][c:Cj D3 D2 D] :
    ChQ G P l nm k (⟨some d,op,ty,ps,af,some (j,want)⟩::os) σ H ((fun _=>⟨some (p,0),.opt (b == want) r,b1I⟩)::T) (some (p,0)::ts) σ' H' D :=
  ⟨fun N C F hG hD hF=>⟨⟨b,r,dj,hj.h,hb.h,rfl,trivial,fun e=>⟨B,po.get,fun H' F' hh=>cr.h ⟨H',F',hh⟩▸(hp ⟨H',F',hh⟩).h N C hG.2 (beq_iff_eq.2 e) (cast (congrArg Z8 (cD.h _)).symm (hi.h (c.of hD).1 (hg.h e)))⟩⟩,q.h N C F hG (c.of hD).2 hF⟩,by rw [evT,List.map_cons,q.t]⟩
instance {TT:TypeId}{x y:Operand}{α:Type}{rr:u3 α}{v:α}{w:Value}{β γ:Type}{s:u3 β}{z:u3 γ}{ln:j9 β γ}{p:Nat}{B B':Bool×C3}{F0:Bool×C3→j8}
    [hx:EvQ true (Q3 σ ⟨none,.store TT x y,ty,ps,af,none⟩) x (.ln w ln)][hy:T9 true (Q3 σ ⟨none,.store TT x y,ty,ps,af,none⟩) y α rr v][po:PoQ H w p B F0]{RX:HpW w B→j8}[so:∀ X:HpW w B,SoQ P TT (.ln w ln) (.v v) X.H (RX X)][ap:ApQ RX B']
    [q:ChQ G P l nm (k+1) os σ (F0 B') T ts σ' H' D] :
    ChQ G P l nm k (⟨none,.store TT x y,ty,ps,af,none⟩::os) σ H ((fun _=>⟨some (p,1),.any,B'⟩)::T) (some (p,1)::ts) σ' H' D :=
  ⟨fun N C F hG hD hF=>⟨⟨B,po.get,fun H' F' hh=>(so ⟨H',F',hh⟩).h N C _ x y ty ps af none _ (hx.h C H' rfl) (hy.h C H' rfl) ⟨rfl,ap.h ⟨H',F',hh⟩⟩⟩,by
    show chU P C N l nm F (k+1) os T σ (H.set p B')
    rw [po.set];exact q.h N C F hG hD hF⟩,by rw [evT,List.map_cons,q.t]⟩
instance {TT:TypeId}{α:Type}{rr:u3 α}{j:Inhabited α}{p:Nat}{F0:Bool×C3→j8}[t:TyI P TT α rr j][ho:HlQ H p F0]
    [q:ChQ G P l nm (k+1) os ((d,.ln (ptr (nm k).2 0) (j9.id (α:=α)))::σ) (F0 (true,.ob (ptr (nm k).2 0) (default:α))) T ts σ' H' D] :
    ChQ G P l nm k (⟨some d,.alloc TT,ty,ps,af,none⟩::os) σ H ((fun v=>⟨some (p,2),.ln (ptr v.2 0) (j9.id (α:=α)),(true,.ob (ptr v.2 0) (default:α))⟩)::T) (some (p,2)::ts) σ' H' D :=
  ⟨fun N C F hG hD hF=>⟨⟨a1n,ho.get,fun H' F' hh=>OpH.c44 hh (OpH.alloc t.h fun b=>⟨_,rfl,(undef,b),rfl,rfl,rfl⟩)⟩,by
    show chU P C N l nm F (k+1) os T _ (H.set p _)
    rw [ho.set];exact q.h N C F hG hD hF⟩,by rw [evT,List.map_cons,q.t]⟩
end
theorem wpA.c5i {P:Program}{C:Ctx}{N:Nat}{Q:Exit→o8→j8→Prop}{σ:o8}{H:j8}{c:Code}(hC:Ctx.Ok C)(t:Nat){α:Type}{r:u3 α}{b:Nat}{x:α}{F:Bool×C3→j8}(ht:F6 σ t=some (.ln (ptr b 0) (j9.id (α:=α))))(h:H9 H (true,.ob (ptr b 0) x) F)(k:wpA P C N c Q ((t,.p x)::σ) (F a1p)):wpA P C N c Q σ H :=
 .U2 hC h (.asP t ht h.again (fun ρ I L hs=>by
  obtain⟨i,X,h1,h2,h3⟩:=(h.again (B':=(true,.fz (ptr b 0) (.p x)))).get hs.heap
  have hX:X = []:=h2.1.1
  subst hX
  have h4:=h3 I a1n [] (Le.refl I) ⟨⟨rfl,trivial⟩,fun _ p hp=>by cases hp⟩
  have e:L.set i []=L:=List.ext_getElem? fun j=>by
   rw [List.getElem?_set]
   by_cases e:i=j
   ·subst e;rw [if_pos rfl,if_pos (List.getElem?_eq_some_iff.1 h1).1,h1]
   ·rw [if_neg e]
  rw [e] at h4
  exact k ρ I L ⟨hs.env,h4,hs.U9⟩))
class FzQ (ts:List Nat)(σ:o8)(H:j8)(σ':outParam o8)(H':outParam j8):Prop where h:∀ {P:Program} {C:Ctx} {N:Nat} {Q:Exit→o8→j8→Prop} {c:Code},Ctx.Ok C→wpA P C N c Q σ' H'→wpA P C N c Q σ H
instance {σ:o8}{H:j8}:FzQ [] σ H σ H:=⟨fun _ k=>k⟩
instance {t b:Nat}{ts:List Nat}{σ σ':o8}{H H':j8}{α:Type}{r:u3 α}{x:α}{F:Bool×C3→j8}[ht:LkQ σ t (.ln (ptr b 0) (j9.id (α:=α)))][h:HoQ H (ptr b 0) (true,.ob (ptr b 0) x) F][k:FzQ ts ((t,.p x)::σ) (F a1p) σ' H']:FzQ (t::ts) σ H σ' H':=⟨fun hC q => .c5i hC t ht.h h.h (k.h hC q)⟩
theorem wpA.c94 {P:Program}{C:Ctx}{N:Nat}{Q:Exit→o8→j8→Prop}{σ:o8}{H:j8}{c:Code}(hC:Ctx.Ok C)(t:Nat){E:TypeId}{α:Type}{r:u3 α}{w:Value}{x:List α}{F:Bool×C3→j8}(ht:F6 σ t=some (.raw w))(h:H9 H (true,.own E w x) F)(k:wpA P C N c Q ((t,.v x)::σ) (F a1p)):wpA P C N c Q σ H :=
 .Q7 hC h (.as t ht h.again (fun ρ I L hs=>by
  obtain⟨i,X,h1,h2,h3⟩:=(h.again (B':=(true,.fz w (.v x)))).get hs.heap
  have hX:X = []:=h2.1.1
  subst hX
  have h4:=h3 I a1n [] (Le.refl I) ⟨⟨rfl,trivial⟩,fun _ p hp=>by cases hp⟩
  have e:L.set i []=L:=List.ext_getElem? fun j=>by
   rw [List.getElem?_set]
   by_cases e:i=j
   ·subst e;rw [if_pos rfl,if_pos (List.getElem?_eq_some_iff.1 h1).1,h1]
   ·rw [if_neg e]
  rw [e] at h4
  exact k ρ I L ⟨hs.env,h4,hs.U9⟩))
class PdQ (l:List Oper)(H:j8)(H':outParam j8):Prop where h:∀ {P:Program} {C:Ctx} {N:Nat} {Q:Exit→o8→j8→Prop} {σ:o8} {c:Code},wpA P C N c Q σ H'→wpA P C N c Q σ H
section
variable {l:List Oper}{H H':j8}{d:Option Nat}{T ty:TypeId}{x:Operand}{ps:String}{af:Array Edge}{g:Option (Nat×Bool)}{o:Oper}
instance:PdQ [] H H:=⟨id⟩
instance [k:PdQ l H H']:PdQ (⟨d,.alloc T,ty,ps,af,g⟩::l) H (a1p::H'):=⟨fun h=>k.h (wpA.c7y h)⟩
instance (priority:=low)[k:PdQ l H H']:PdQ (o::l) H H':=⟨k.h⟩
end
@[reducible] def c5j:List (Option (Nat×Nat))→Bool
 | []=>true
 | some (_,2)::_=>false
 | _::r=>c5j r
theorem b4p:∀ {ts:List (Option (Nat×Nat))} {k:Nat},c5j ts=true→a2g ts k = []
 | [],_,_=>rfl
 | x::r,k,h=>by
  unfold c5j at h
  split at h
  ·rename_i heq;cases heq
  ·cases h
  ·rename_i hne heq
   cases heq
   unfold a2g
   split
   ·rename_i heq;cases heq
   ·rename_i heq;cases heq;exact absurd rfl (hne _)
   ·rename_i heq;cases heq;exact b4p h
class PrQ (D:List Prop)(A:Prop)(A':outParam Prop):Prop where h:A'→Z8 D∧A
instance {A:Prop}:PrQ [] A A:=⟨fun h=>⟨trivial,h⟩⟩
instance {p A A':Prop}{D:List Prop}[k:PrQ D A A']:PrQ (p::D) A (p∧A'):=⟨fun h=>⟨⟨h.1,(k.h h.2).1⟩,(k.h h.2).2⟩⟩
@[reducible] def c7H:Code→Bool
 | .seq _ y=>c7H y
 | .ret=>true
 | .exit _=>true
 | _=>false
def c5k (P:Program)(fn:Func)(C:Ctx)(rs:List ResultVar)(post:AV→Prop):Exit→o8→j8→Prop:=fun e σ H=>fn.results=rs.toArray→a5X P fn C (fun r _=>post r) e σ H
class RtQ (Q:Exit→o8→j8→Prop)(rs:outParam (List ResultVar)):Prop where h:True
instance {X:o8→j8→Prop}{Q:Exit→o8→j8→Prop}{rs:List ResultVar}[k:RtQ Q rs]:RtQ (a1m X Q) rs:=⟨trivial⟩
instance {id:Nat}{Q:Exit→o8→j8→Prop}{rs:List ResultVar}[k:RtQ Q rs]:RtQ (Y8 id Q) rs:=⟨trivial⟩
instance {P:Program}{fn:Func}{C:Ctx}{rs:List ResultVar}{post:AV→Prop}:RtQ (c5k P fn C rs post) rs:=⟨trivial⟩
instance (priority:=low){Q:Exit→o8→j8→Prop}:RtQ Q []:=⟨trivial⟩
class FrQ (rs:List ResultVar)(σ:o8)(H:j8)(σ':outParam o8)(H':outParam j8):Prop where h:∀ {P:Program} {C:Ctx} {N:Nat} {Q:Exit→o8→j8→Prop} {c:Code},Ctx.Ok C→wpA P C N c Q σ' H'→wpA P C N c Q σ H
instance {σ:o8}{H:j8}:FrQ [] σ H σ H:=⟨fun _ k=>k⟩
instance (priority:=low){q:ResultVar}{rs:List ResultVar}{σ σ':o8}{H H':j8}[k:FrQ rs σ H σ' H']:FrQ (q::rs) σ H σ' H':=⟨k.h⟩
instance {t:Nat}{rs:List ResultVar}{σ σ':o8}{H H':j8}{E:TypeId}{α:Type}{r:u3 α}{w:Value}{x:List α}{F:Bool×C3→j8}[ht:LkQ σ t (.raw w)][h:HoQ H w (true,.own E w x) F][k:FrQ rs ((t,.v x)::σ) (F a1p) σ' H']:FrQ (.tmp t::rs) σ H σ' H':=⟨fun hC q => .c94 hC t ht.h h.h (k.h hC q)⟩
class Rw (m:Nat)(G:Gl)(P:Program)(C:Ctx)(N:Nat)(n:Nat)(i:It)(σ:o8)(H:j8)(E:outParam (List Bool))(A:outParam Prop):Prop where h:GC G C→a0K E=true→A→i.G P C N σ H
section
variable {mo:Nat}{G:Gl}{P:Program}{C:Ctx}{N n:Nat}{A A1 A2 p0:Prop}{D D1 D2:List Prop}{E E1 E2:List Bool}{ops:List Oper}{Q Q0:Exit→o8→j8→Prop}{l:List Oper}{σ:o8}{H:j8}{c x y:Code}{e:Exit}{id i:Nat}
instance (priority:=high):Rw 0 G P C N 0 (.b ops Q l) σ H [] (wpB P C N ops.toArray Q l σ H):=⟨fun _ _ h=>h⟩
instance (priority:=high):Rw 0 G P C N 0 (.q Q e) σ H [] (Q e σ H):=⟨fun _ _ h=>h⟩
instance [k:Rw mo G P C N n (.a x (a1m (wpA P C N y Q) Q)) σ H E A]:Rw mo G P C N (n+1) (.a (.seq x y) Q) σ H E A:=⟨fun g e h => .seq (k.h g e h)⟩
instance [hd:TrB (b9F N l)][k:Rw mo G P C N n (.b l Q l) σ H E A]:Rw mo G P C N (n+1) (.a (.region id l.toArray false) Q) σ H E A:=⟨fun g e h => .region (b2P hd.h) (k.h g e h)⟩
instance [k:Rw mo G P C N n (.q Q .normal) σ H E A]:Rw mo G P C N (n+1) (.a .skip Q) σ H E A:=⟨fun g e h => .skip (k.h g e h)⟩
instance {rs:List ResultVar}{σ':o8}{H':j8}[q:RtQ Q rs][f:FrQ rs σ H σ' H'][k:Rw mo G P C N n (.q Q .ret) σ' H' E A]:Rw mo G P C N (n+1) (.a .ret Q) σ H E A:=⟨fun g e h=>f.h g.1 (.ret (k.h g e h))⟩
instance [k:Rw mo G P C N n (.q Q (.exit id)) σ H E A]:Rw mo G P C N (n+1) (.a (.exit id) Q) σ H E A:=⟨fun g e h => .exit (k.h g e h)⟩
instance [k:Rw mo G P C N n (.a c (Y8 id Q)) σ H E A]:Rw mo G P C N (n+1) (.a (.block id c) Q) σ H E A:=⟨fun g e h => .block (k.h g e h)⟩
instance [k:Rw mo G P C N n (.q Q .normal) σ H E A]:Rw mo G P C N (n+1) (.b ops Q []) σ H E A:=⟨fun g e h => .nil (k.h g e h)⟩
instance {o:Oper}{σ':o8}{H':j8}[s:StD G P ops o σ H D σ' H'][k:Rw mo G P C N n (.b ops Q l) σ' H' E A1][pr:PrQ D A1 A]:Rw mo G P C N (n+1) (.b ops Q (o::l)) σ H E A:=⟨fun g e h=>s.h N C Q l g.2 (pr.h h).1 (k.h g e (pr.h h).2)⟩
instance [m:TrB (Nat.ble mo 1)][k:Rw mo G P C N (n+1) (.a y Q) σ H E A]:Rw mo G P C N (n+1) (.q (a1m (wpA P C N y Q) Q0) .normal) σ H E A:=⟨fun g e h=>k.h g e h⟩
instance:Rw 2 G P C N n (.q (a1m (wpA P C N y Q) Q0) .normal) σ H [] (wpA P C N y Q σ H):=⟨fun g e h=>h⟩
instance {X:o8→j8→Prop}[k:Rw mo G P C N (n+1) (.q Q .ret) σ H E A]:Rw mo G P C N (n+1) (.q (a1m X Q) .ret) σ H E A:=⟨fun g e h=>k.h g e h⟩
instance {X:o8→j8→Prop}[k:Rw mo G P C N (n+1) (.q Q (.exit id)) σ H E A]:Rw mo G P C N (n+1) (.q (a1m X Q) (.exit id)) σ H E A:=⟨fun g e h=>k.h g e h⟩
instance [k:Rw mo G P C N (n+1) (.q Q .normal) σ H E A]:Rw mo G P C N (n+1) (.q (Y8 id Q) .normal) σ H E A:=⟨fun g e h=>k.h g e h⟩
instance [k:Rw mo G P C N (n+1) (.q Q .ret) σ H E A]:Rw mo G P C N (n+1) (.q (Y8 id Q) .ret) σ H E A:=⟨fun g e h=>k.h g e h⟩
instance [k:Rw mo G P C N (n+1) (.q Q .normal) σ H E A]:Rw mo G P C N (n+1) (.q (Y8 i Q) (.exit i)) σ H E A:=⟨fun g e h=>by show Y8 i Q (.exit i) σ H;simp only [Y8,Nat.beq_refl,cond_true];exact k.h g e h⟩
instance {z:Operand}{b:Bool}{p:Prop}[hc:T9 true σ z Bool inferInstance b][hp:BoP b p]:Rw mo G P C N (n+1) (.a (.cond z x y) Q) σ H [] ((p→wpA P C N x Q σ H)∧(¬p→wpA P C N y Q σ H)) :=
 ⟨fun g _ h => .cond (hc.h C H rfl) (fun e=>h.1 (hp.h.1 e)) (fun e=>h.2 fun q=>by rw [hp.h.2 q] at e;cases e)⟩
instance (priority:=high){z:Operand}{b:Bool}{p:Prop}[j:TrB (orW (c7H x) (c7H y))][hc:T9 true σ z Bool inferInstance b][hp:BoP b p][k1:Rw 1 G P C N n (.a x Q) σ H E1 A1][k2:Rw 1 G P C N n (.a y Q) σ H E2 A2][ce:Ce E1 E2 E]:Rw 1 G P C N (n+1) (.a (.cond z x y) Q) σ H E ((p→A1)∧(¬p→A2)) :=
 ⟨fun g e h => .cond (hc.h C H rfl) (fun b=>k1.h g (ce.of e).1 (h.1 (hp.h.1 b))) (fun b=>k2.h g (ce.of e).2 (h.2 fun q=>by rw [hp.h.2 q] at b;cases b))⟩
instance {α:Type}{r:u3 α}{j:Inhabited α}{d:Nat}{T ty:TypeId}{ps:String}{af:Array Edge}{EX:Nat→List Bool}{AX:Nat→Prop}[t:TyI P T α r j][k:∀ b,Rw mo G P C N n (.b ops Q l) ((d,.ln (ptr b 0) (j9.id (α:=α)))::σ) ((true,.ob (ptr b 0) (default:α))::H) (EX b) (AX b)][cE:CoQ EX E] :
    Rw mo G P C N (n+1) (.b ops Q (⟨some d,.alloc T,ty,ps,af,none⟩::l)) σ H E (∀ b,AX b):=⟨fun g e h => .h (.alloc t.h fun b=>(k b).h g (cast (congrArg (fun z=>a0K z=true) (cE.h b)).symm e) (h b))⟩
instance {α:Type}{r:u3 α}{a:α}{d:Nat}{T ty:TypeId}{ps:String}{af:Array Edge}{z:Operand}{EX:Nat→List Bool}{AX:Nat→Prop}[hx:T9 true σ z α r a][k:∀ b,Rw mo G P C N n (.b ops Q l) ((d,.ln (ptr b 0) (j9.id (α:=α)))::σ) ((true,.ob (ptr b 0) a)::H) (EX b) (AX b)][cE:CoQ EX E] :
    Rw mo G P C N (n+1) (.b ops Q (⟨some d,.box T z,ty,ps,af,none⟩::l)) σ H E (∀ b,AX b):=⟨fun g e h => .h (.box (hx.h C H rfl) fun b=>(k b).h g (cast (congrArg (fun z=>a0K z=true) (cE.h b)).symm e) (h b))⟩
class SeA (b:Bool)(I:Prop)(A1:(Nat→Nm)→Prop)(A:outParam Prop):Prop where h:A→(b=false→I)∧∀ nm,A1 nm
instance {I:Prop}{A1:(Nat→Nm)→Prop}[a:CoQ A1 A]:SeA true I A1 A:=⟨fun h=>⟨fun e=>Bool.noConfusion e,fun nm=>cast (a.h nm).symm h⟩⟩
instance {I:Prop}{A1:(Nat→Nm)→Prop}:SeA false I A1 (I∧∀ nm,A1 nm):=⟨fun h=>⟨fun _=>h.1,h.2⟩⟩
instance {T:(Nat→Nm)→List (Nm→R8)}{ts:List (Option (Nat×Nat))}{σ':(Nat→Nm)→o8}{H':(Nat→Nm)→j8}{AX:(Nat→Nm)→Prop}{Hp:j8}{tsX:(Nat→Nm)→List (Option (Nat×Nat))}{DX:(Nat→Nm)→List Prop}{EX:(Nat→Nm)→List Bool}{b:Bool}
    [pd:PdQ l H Hp][q:∀ nm,ChQ G P l nm 0 l σ Hp (T nm) (tsX nm) (σ' nm) (H' nm) (DX nm)][ct:CoQ tsX ts][cD:CoQ DX D][z:EvB (c5j ts) b]
    [k:∀ nm,Rw mo G P C N n (.b l Q []) (σ' nm) (H' nm) (EX nm) (AX nm)][cE:CoQ EX E][a:SeA b (c5f l T (a2g ts 0)) AX A1][pr:PrQ D A1 A] :
    Rw mo G P C N (n+1) (.a (.region id l.toArray true) Q) σ H ((P.follows .mixedOrders&&(R7 N l&&okU l ts))::E) A :=
  ⟨fun g e h=>by
    have e0:=Bool.and_eq_true_iff.1 e
    have e1:=Bool.and_eq_true_iff.1 e0.1
    have e2:=Bool.and_eq_true_iff.1 e1.2
    have hd:=(pr.h h).1
    have ha:=a.h (pr.h h).2
    refine pd.h (wpA.c90 e1.1 e2.1 T ts (fun nm=>(q nm).t.trans (ct.h nm)) e2.2 ?_ fun nm=>(q nm).h N C _ g (cast (congrArg Z8 (cD.h nm)).symm hd) ((k nm).h g (cast (congrArg (fun z=>a0K z=true) (cE.h nm)).symm e0.2) (ha.2 nm)))
    cases b with
    | true=>rw [b4p z.h];trivial
    | false=>exact ha.1 rfl⟩
instance (priority:=10):Rw (mo+1) G P C N n (.a c Q) σ H [] (wpA P C N c Q σ H):=⟨fun _ _ h=>h⟩
instance (priority:=10):Rw (mo+1) G P C N n (.b ops Q l) σ H [] (wpB P C N ops.toArray Q l σ H):=⟨fun _ _ h=>h⟩
instance (priority:=10):Rw (mo+1) G P C N n (.q Q e) σ H [] (Q e σ H):=⟨fun _ _ h=>h⟩
class R1Q (P:Program)(C:Ctx)(q:ResultVar)(σ:o8)(H:j8)(a:outParam AV):Prop where h:a27 P q C σ H a
instance {t:Nat}{a:AV}[h:LkQ σ t a]:R1Q P C (.tmp t) σ H a:=⟨.tmp h.h⟩
instance {t b:Nat}{T:TypeId}{α:Type}{r:u3 α}{j:Inhabited α}{x:α}{bb:Bool}{F:Bool×C3→j8}[h:LkQ σ t (.ln (ptr b 0) (j9.id (α:=α)))][ty:TyI P T α r j][k:HoQ H (ptr b 0) (bb,.ob (ptr b 0) x) F]:R1Q P C (.cell t T) σ H (.v x):=⟨.cell ty.h h.h k.h⟩
class ReQ (P:Program)(C:Ctx)(rs:List ResultVar)(σ:o8)(H:j8)(a:outParam AV):Prop where h:∀ {fn:Func},fn.results=rs.toArray→a9h P fn C σ H a
section
variable {q1 q2 q3:ResultVar}{a1 a2 a3:AV}
instance:ReQ P C [] σ H (.raw (.tuple #[])):=⟨fun h => .r0 h⟩
instance [h1:R1Q P C q1 σ H a1]:ReQ P C [q1] σ H a1:=⟨fun h => .r1 h h1.h⟩
instance [h1:R1Q P C q1 σ H a1][h2:R1Q P C q2 σ H a2]:ReQ P C [q1,q2] σ H (.t2 a1 a2):=⟨fun h => .r2 h h1.h h2.h⟩
instance [h1:R1Q P C q1 σ H a1][h2:R1Q P C q2 σ H a2][h3:R1Q P C q3 σ H a3]:ReQ P C [q1,q2,q3] σ H (.t3 a1 a2 a3):=⟨fun h => .r3 h h1.h h2.h h3.h⟩
end
instance {fn:Func}{rs:List ResultVar}{post:AV→Prop}{a:AV}[h:ReQ P C rs σ H a]:Rw mo G P C N (n+1) (.q (c5k P fn C rs post) .ret) σ H [] (post a):=⟨fun _ _ k hr=>⟨a,h.h hr,k⟩⟩
theorem wpA.w (n:Nat)(hG:GC G C){A:Prop}[h:Rw 0 G P C N n (.a c Q) σ H E A](e:a0K E=true)(k:A):wpA P C N c Q σ H:=h.h hG e k
theorem wpA.z (hG:GC G C){A:Prop}[h:Rw 1 G P C N 1000 (.a c Q) σ H E A](e:a0K E=true)(k:A):wpA P C N c Q σ H:=h.h hG e k
theorem wpB.z (hG:GC G C){A:Prop}[h:Rw 1 G P C N 1000 (.b ops Q l) σ H E A](e:a0K E=true)(k:A):wpB P C N ops.toArray Q l σ H:=h.h hG e k
theorem wpA.fz {σ':o8}{H':j8}(hG:GC G C)(ts:List Nat)[h:FzQ ts σ H σ' H'](k:wpA P C N c Q σ' H'):wpA P C N c Q σ H:=h.h hG.1 k
theorem wpA.f (hG:GC G C){A:Prop}[h:Rw 2 G P C N 1000 (.a (.seq x y) Q) σ H E A](e:a0K E=true)(k:A):wpA P C N (.seq x y) Q σ H:=h.h hG e k
end
theorem C4.go {G:Gl}{P:Program}{f:FuncId}{fn:Func}{c:Code}{ags:List AV}{post:AV→Prop}(hf:P.funcs[f]?=some fn)(hb:fn.body=some c)(N:Nat)(rs:List ResultVar)(hr:fn.results=rs.toArray)
    (hk:(!(fn.name == "runtime.NumGoroutine")&&Nat.beq fn.ntmps N&&Nat.ble ags.length N)=true)(h:∀ C:Ctx,GC G C→wpA P C N c (c5k P fn C rs post) (a95 ags 0) []):C4 G P f ags post:=by
  simp only [Bool.and_eq_true,Bool.not_eq_true'] at hk
  have e:∀ C,c5k P fn C rs post=a5X P fn C fun r _=>post r:=fun C=>by funext e σ H;exact propext ⟨fun h=>h hr,fun h _=>h⟩
  exact C4.intro hf hb hk.1.1 N (Nat.eq_of_beq_eq_true hk.1.2) hk.2 _ rfl fun C hC hG=>e C▸h C ⟨hC,hG⟩
end Go.Ab
namespace Go.Ab
open Go.Fl Go.RowKit
open u3 (rep)
universe u v
class FpQ (ags:List AV)(w:outParam Value):Prop where h:True
instance {α β:Type}{r:u3 α}{s:u3 β}{w:Value}{l:j9 α β}{ags:List AV}:FpQ (.ln w l::ags) w:=⟨trivial⟩
instance {w:Value}{ags:List AV}:FpQ (.raw w::ags) w:=⟨trivial⟩
instance (priority:=low){a:AV}{w:Value}{ags:List AV}[h:FpQ ags w]:FpQ (a::ags) w:=⟨trivial⟩
class CaM (G:Gl)(P:Program)(f:FuncId)(ags:List AV)(B:C3)(D:outParam (List Prop))(r:outParam AV)(B':outParam C3):Prop where h:Z8 D→C6 G P f ags [B] (fun x Hs=>x=r∧Hs = [B'])
section
variable {G:Gl}{P:Program}{ops:List Oper}{σ:o8}{H:j8}{d:Nat}{ty:TypeId}{ps:String}{af:Array Edge}{f:FuncId}{args:Array Operand}{tys:Array TypeId}{ags:List AV}{B B':C3}{D:List Prop}{r:AV}{w:Value}{b:Bool}{F:Bool×C3→j8}
theorem CaM.op (k:CaM G P f ags B D r B'){N:Nat}{C:Ctx}{dd:Option Nat}{g:Option (Nat×Bool)}(hG:G.p C.I0)(hD:Z8 D)(hH:H9 H (b,B) F)(hv:a0I C σ H args.toList ags){K:AV→j8→Prop}(hk:K r (F (b,B'))):OpH P C N ⟨dd,.call ⟨.value (.func f),args,tys⟩,ty,ps,af,g⟩ σ H K :=
 .a8u hG (k.h hD) hH hv (fun x Hs e=>⟨B',e.2⟩) fun x B2 e=>by
  obtain⟨rfl,e2⟩:=e
  cases e2
  exact hk
instance [hv:AsQ true σ args.toList ags][fp:FpQ ags w][hH:HoQ H w (b,B) F][k:CaM G P f ags B D r B']:StD G P ops ⟨some d,.call ⟨.value (.func f),args,tys⟩,ty,ps,af,none⟩ σ H D ((d,r)::σ) (F (b,B')) :=
 ⟨fun N C Q rest hG hD q => .h (k.op hG hD hH.h (hv.h C H rfl) q)⟩
end
class CaX (G:Gl)(P:Program)(f:FuncId)(ags:List AV)(ι:outParam (Type u))(D:outParam (List Prop))(S:outParam (ι→Prop))(R:outParam (ι→AV))(Ns:outParam (ι→List C3)):Prop where h:Z8 D→C6 G P f ags [] (fun r Hs=>∃ x,S x∧r=R x∧Hs=Ns x)
@[reducible] def c2w:List C3→j8→j8
 | [],H=>H
 | B::r,H=>(true,B)::c2w r H
theorem a9u:∀ (Hs:List C3) (H:j8),Hs.map (fun B=>(true,B))++H=c2w Hs H
 | [],_=>rfl
 | B::r,H=>by rw [c2w,←a9u r H];rfl
class OwQ (Hs:List C3)(H:j8)(R:outParam j8):Prop where h:c2w Hs H=R
instance {H:j8}:OwQ [] H H:=⟨rfl⟩
instance {B:C3}{Hs:List C3}{H R:j8}[k:OwQ Hs H R]:OwQ (B::Hs) H ((true,B)::R):=⟨by rw [c2w,k.h]⟩
instance {mo:Nat}{G:Gl}{P:Program}{C:Ctx}{N n:Nat}{ops:List Oper}{Q:Exit→o8→j8→Prop}{l:List Oper}{σ:o8}{H:j8}{d:Nat}{ty:TypeId}{ps:String}{af:Array Edge}{f:FuncId}{args:Array Operand}{tys:Array TypeId}{ags:List AV}{ι:Type u}{D:List Prop}{S:ι→Prop}{R:ι→AV}{Ns:ι→List C3}{E:List Bool}{HX:ι→j8}{EX:ι→List Bool}{AX:ι→Prop}{A:Prop}
    [hv:AsQ true σ args.toList ags][c:CaX G P f ags ι D S R Ns][ow:∀ x,OwQ (Ns x) H (HX x)][k:∀ x,Rw mo G P C N n (.b ops Q l) ((d,R x)::σ) (HX x) (EX x) (AX x)][cE:CoQ EX E][pr:PrQ D (∀ x,S x→AX x) A] :
    Rw mo G P C N (n+1) (.b ops Q (⟨some d,.call ⟨.value (.func f),args,tys⟩,ty,ps,af,none⟩::l)) σ H E A :=
  ⟨fun g e h => .h (.a6Z g.2 (c.h (pr.h h).1) (hv.h C H rfl) fun r Hs q=>by
    obtain⟨x,hx,rfl,rfl⟩:=q
    rw [a9u,(ow x).h]
    exact(k x).h g (cast (congrArg (fun z=>a0K z=true) (cE.h x)).symm e) ((pr.h h).2 x hx))⟩
def c5m (P:Program)(fn:Func)(C:Ctx)(rs:List ResultVar)(post:AV→List C3→Prop):Exit→o8→j8→Prop:=fun e σ H=>fn.results=rs.toArray→a5X P fn C (fun r H=>∃ Hs,P6 H Hs∧post r Hs) e σ H
instance {mo:Nat}{G:Gl}{P:Program}{C:Ctx}{N n:Nat}{σ:o8}{H:j8}{fn:Func}{rs:List ResultVar}{post:AV→List C3→Prop}{a:AV}[h:ReQ P C rs σ H a]:Rw mo G P C N (n+1) (.q (c5m P fn C rs post) .ret) σ H [] (∃ Hs,P6 H Hs∧post a Hs):=⟨fun _ _ k hr=>⟨a,h.h hr,k⟩⟩
instance {mo:Nat}{G:Gl}{P:Program}{C:Ctx}{N n:Nat}{σ:o8}{H:j8}{fn:Func}{rs:List ResultVar}{post:AV→List C3→Prop}{a:AV}[h:ReQ P C rs σ H a]:Rw mo G P C N (n+1) (.q (c5m P fn C rs post) .normal) σ H [] (∃ Hs,P6 H Hs∧post a Hs):=⟨fun _ _ k hr=>⟨a,h.h hr,k⟩⟩
theorem C6.go {G:Gl}{P:Program}{f:FuncId}{fn:Func}{c:Code}{ags:List AV}{Hs:List C3}{post:AV→List C3→Prop}(hf:P.funcs[f]?=some fn)(hb:fn.body=some c)(N:Nat)(rs:List ResultVar)(hr:fn.results=rs.toArray)
    (hk:(!(fn.name == "runtime.NumGoroutine")&&Nat.beq fn.ntmps N&&Nat.ble ags.length N)=true)(h:∀ C:Ctx,GC G C→wpA P C N c (c5m P fn C rs post) (a95 ags 0) (a6X Hs)):C6 G P f ags Hs post:=by
  simp only [Bool.and_eq_true,Bool.not_eq_true'] at hk
  have e:∀ C,c5m P fn C rs post=a5X P fn C fun r H=>∃ Hs,P6 H Hs∧post r Hs:=fun C=>by funext e σ H;exact propext ⟨fun h=>h hr,fun h _=>h⟩
  exact C6.a0k hf hb hk.1.1 N (Nat.eq_of_beq_eq_true hk.1.2) hk.2 _ rfl _ rfl fun C hC hG=>e C▸h C ⟨hC,hG⟩
class SlQ (H:j8)(ws:List Value)(Hs:outParam (List C3)):Prop where h:P6 H Hs
instance {H:j8}:SlQ H [] []:=⟨.nil⟩
instance {H:j8}{w:Value}{ws:List Value}{b:Bool}{B:C3}{F:Bool×C3→j8}{Hs:List C3}[h:HoQ H w (b,B) F][k:SlQ (F a1p) ws Hs]:SlQ H (w::ws) (B::Hs):=⟨.cons h.h k.h⟩
theorem P6.of {H:j8}{Hs:List C3}{p:List C3→Prop}(ws:List Value)[k:SlQ H ws Hs](h:p Hs):∃ Hs,P6 H Hs∧p Hs:=⟨Hs,k.h,h⟩
end Go.Ab
