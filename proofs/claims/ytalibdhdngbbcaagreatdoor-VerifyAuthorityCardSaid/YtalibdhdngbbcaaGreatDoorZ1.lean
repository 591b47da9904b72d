/- Plain Lean over any program, and walks of this seat's functions: contracts, each proved once (part 1). -/
import Derived.Test.YtalibdhdngbbcaaGreatDoorZ0
import Derived.Laws.IdiomStrings
import Derived.Laws.BytesArg
set_option maxRecDepth 1000000
set_option synthInstance.maxSize 1000000
set_option synthInstance.maxHeartbeats 10000000
set_option linter.unusedVariables false
set_option linter.unusedSimpArgs false
namespace Go.Ab
open Go.Fl Go.RowKit
open p2 (rep)
theorem OpX.a1Q {P:Program} {N:Nat} {o:Oper} {ρ:Env} {I:Im} {L:Lh} {K K':Value→Im→Lh→Prop} (h:OpX P N o ρ I L K) (hk:∀ v J X,Le I J→K v J X→K' v J X):OpX P N o ρ I L K' :=
 fun a w ha hm=>(h a w ha hm).mono fun v w' ⟨J,X,a1,a2,a3,a4,a5,a6⟩=>⟨J,X,a1,a2,a3,a4,a5,hk v J X a2 a6⟩
theorem OpS.c03 {P:Program} {C:Ctx} {N:Nat} {o:Oper} {ρ:Env} {I:Im} {L:Lh} {K K':Value→Im→Lh→Prop} (h:OpS P C N o ρ I L K) (hk:∀ v J X,K v J X→K' v J X):OpS P C N o ρ I L K' :=
 fun a w ha hm=>(h a w ha hm).mono fun v w' ⟨J,X,a1,a2⟩=>⟨J,X,a1,hk v J X a2⟩
def j5 (P:Program) (N:Nat) (C:Ctx) (o:Oper) (σ:x5) (H:j7) (K:AV→Prop):Prop :=
 ∀ ρ I L,RSt C I L σ H ρ→OpX P N o ρ I L (fun v J X=>X = []∧∃ r,F8 J r v∧K r)
def B3 (P:Program) (C:Ctx) (N:Nat) (o:Oper) (σ:x5) (H:j7) (K:AV→j7→Prop):Prop :=
 ∀ ρ I L,RSt C I L σ H ρ→OpS P C N o ρ I L (fun v J L'=>Le I J∧∃ r H',F8 J r v∧U2 C.w0.heap.size J H' L'∧K r H')
theorem j5.H5 {P:Program} {N:Nat} {C:Ctx} {o:Oper} {σ:x5} {H:j7} {K:AV→Prop} (r:AV) (h:∀ ρ I L,RSt C I L σ H ρ→I1 P N o ρ I L (fun v=>F8 I r v)) (k:K r):j5 P N C o σ H K :=
 fun ρ I L hs => .H5 fun a w ha hm=>by
  obtain⟨v,hv,hr⟩:=h ρ I L hs a w ha hm
  exact⟨v,⟨a8,r,hv,k⟩,hr⟩
section opers
variable {P:Program} {C:Ctx} {N:Nat} {ops:Array Oper} {Q:Exit→x5→j7→Prop} {rest:List Oper} {σ:x5} {H:j7}
theorem D1.nil (h:Q .normal σ H):D1 P C N ops Q [] σ H:=fun ρ I L hs => .nil ⟨σ,H,hs,h⟩
theorem D1.p {d : Nat} {op : Op} {ty : TypeId} {ps : String} {af : Array Edge}
    (h:j5 P N C ⟨some d,op,ty,ps,af,none⟩ σ H (fun r=>D1 P C N ops Q rest ((d,r)::σ) H)) :
    D1 P C N ops Q (⟨some d,op,ty,ps,af,none⟩::rest) σ H:=fun ρ I L hs =>
  .x (OpX.a1Q (h ρ I L hs) fun v J X hle ⟨hX,r,hr,hk⟩=>by subst hX;exact hk _ _ _ (hs.put hle hr (hs.heap.mono hle)))
theorem D1.h {d : Nat} {op : Op} {ty : TypeId} {ps : String} {af : Array Edge}
    (h:B3 P C N ⟨some d,op,ty,ps,af,none⟩ σ H (fun r H'=>D1 P C N ops Q rest ((d,r)::σ) H')) :
    D1 P C N ops Q (⟨some d,op,ty,ps,af,none⟩::rest) σ H:=fun ρ I L hs =>
  .s (OpS.c03 (h ρ I L hs) fun v J L' ⟨hle,r,H',hr,hH,hk⟩=>hk _ _ _ (hs.put hle hr hH))
theorem D1.n {op : Op} {ty : TypeId} {ps : String} {af : Array Edge}
    (h:B3 P C N ⟨none,op,ty,ps,af,none⟩ σ H (fun _ H'=>D1 P C N ops Q rest σ H')) :
    D1 P C N ops Q (⟨none,op,ty,ps,af,none⟩::rest) σ H:=fun ρ I L hs =>
  .n (OpS.c03 (h ρ I L hs) fun v J L' ⟨hle,r,H',hr,hH,hk⟩=>hk _ _ _ ⟨(hs.mono hle).env,hH,hs.W3.trans hle⟩)
theorem D1.go {d : Nat} {op : Op} {ty : TypeId} {ps : String} {af : Array Edge} {j : Nat} {want : Bool} (dj : Nat) (hj : (ops[j]?).bind (·.dst) = some dj) {b : Bool} (hb : D5 C σ H (.tmp dj) (.v b)) {r : AV}
    (h:b=want→j5 P N C ⟨some d,op,ty,ps,af,none⟩ σ H (fun r'=>r'=r)) (k:D1 P C N ops Q rest ((d,.opt (b == want) r)::σ) H) :
    D1 P C N ops Q (⟨some d,op,ty,ps,af,some (j,want)⟩::rest) σ H:=fun ρ I L hs=>by
  have hbv:=hb.bool hs
  by_cases e:b=want
  · refine .gt dj hj (by rw [←e];exact hbv) (OpS.ofX (OpX.a1Q (h e ρ I L hs) fun v J X hle ⟨hX,r',hr,hk⟩ => ?_))
    subst hX;subst hk
    exact k _ _ _ (hs.put hle (r := .opt (b == want) r') (fun _=>hr) (hs.heap.mono hle))
  · have e':b = !want:=by cases b<;>cases want<;>simp_all
    exact .gf dj hj (by rw [←e'];exact hbv) (k _ _ _ (hs.put (Le.refl I) (r := .opt (b == want) r) (fun hc=>absurd (by simpa using hc) e) hs.heap))
theorem I9.region {id:Nat} {l:List Oper} (hd:M4 N l=true) (h:D1 P C N l.toArray Q l σ H):I9 P C N (.region id l.toArray false) Q σ H:=fun ρ I L hs => .region hd (h ρ I L hs)
inductive y4:j7→Bool×D8→(Bool×D8→j7)→Prop
 | z {B:Bool×D8} {H:j7}:y4 (B::H) B (fun X=>X::H)
 | s {A B:Bool×D8} {H:j7} {F:Bool×D8→j7} (h:y4 H B F):y4 (A::H) B (fun X=>A::F X)
theorem y4.get {n0 : Nat} {I : Im} {H : j7} {B : Bool × D8} {F : Bool × D8 → j7} (h : y4 H B F) : ∀ {L : Lh}, U2 n0 I H L →
    ∃ i X,L[i]?=some X∧b2L n0 I B X∧∀ J B' X',Le I J→b2L n0 J B' X'→U2 n0 J (F B') (L.set i X'):=by
  induction h with
  | z =>
    rintro _ ⟨X,R,rfl,h1,h2⟩
    exact⟨0,X,a8,h1,fun J B' X' hle hb=>⟨X',R,a8,hb,h2.mono hle⟩⟩
  | s h ih =>
    rintro _ ⟨X,R,rfl,h1,h2⟩
    obtain⟨i,Y,h3,h4,h5⟩:=ih h2
    exact⟨i+1,Y,by simpa using h3,h4,fun J B' X' hle hb=>⟨X,R.set i X',by simp,h1.mono hle,h5 J B' X' hle hb⟩⟩
theorem S6 {I J:Im} {E:TypeId} {α:Type} {r:p2 α} {w:Value} {l:List α} {X:List (Nat×Obj)} (h:(D8.own E w l).a69 I X) (hle:Le I J) (hp:∀ p∈X,J p.1=some p.2):F8 J (.v l) w:=by
 obtain⟨xs,h1,h2⟩:=h
 obtain⟨a,c,rfl⟩:=h1.shape
 exact⟨_,⟨_,a8,xs,h1.sl hp,h2.mono hle⟩,a8⟩
theorem a8F {I J:Im} {α:Type} {r:p2 α} {w:Value} {x:α} {X:List (Nat×Obj)} (h:(D8.ob w x).a69 I X) (hle:Le I J) (hp:∀ p∈X,J p.1=some p.2):F8 J (.p x) w:=by
 obtain⟨b,T,cs,rfl,rfl,h3⟩:=h
 exact⟨b,0,cs,a8,p2.mono hle h3,Cells.b6x (hp (b,row cs T) (List.mem_singleton.2 a8))⟩
def Ctx.Ok (C:Ctx):Prop:=∀ k∈C.M,k < C.w0.heap.size
theorem a5b (hC:Ctx.Ok C) {B:D8} {I:Im} {X:List (Nat×Obj)} (h:b2L C.w0.heap.size I (true,B) X):∀ p∈X,p.1∈C.M→False:=fun p hp hm=>by
 have:=h.2 rfl p hp
 have:=hC _ hm
 omega
theorem D1.y0 (hC:Ctx.Ok C) {E:TypeId} {α:Type} {r:p2 α} {w:Value} {l:List α} {os:List Oper} {F:Bool×D8→j7} (h:y4 H (true,.own E w l) F) (k:D1 P C N ops Q os σ (F (true,.fz w (.v l)))):D1 P C N ops Q os σ H:=fun ρ I L hs=>by
 obtain⟨i,X,h1,h2,h3⟩:=h.get hs.heap
 refine .freeze i h1 (a5b hC h2) fun J hle hp=>k ρ J _ ⟨(hs.mono hle).env,h3 J _ [] hle ⟨⟨rfl,S6 h2.1 hle hp⟩,by simp⟩,hs.W3.trans hle⟩
theorem b0R {I J:Im} {E:TypeId} {α:Type} {r:p2 α} {b n:Nat} {l:List α} {X:List (Nat×Obj)} (h:(D8.own E (slc b 0 n n) l).a69 I X) (hn:l.length=n) (hle:Le I J) (hp:∀ p∈X,J p.1=some p.2):F8 J (.vc l) (slc b 0 n n):=by
 obtain⟨xs,h1,h2⟩:=h
 subst hn
 exact⟨⟨_,a8⟩,xs,h1.sl hp,h2.mono hle⟩
theorem I9.c4i (hC:Ctx.Ok C) {E:TypeId} {α:Type} {r:p2 α} {b n:Nat} {l:List α} {c:Code} {F:Bool×D8→j7} (h:y4 H (true,.own E (slc b 0 n n) l) F) (hn:l.length=n) (k:I9 P C N c Q σ (F (true,.fz (slc b 0 n n) (.vc l)))):I9 P C N c Q σ H:=fun ρ I L hs=>by
 obtain⟨i,X,h1,h2,h3⟩:=h.get hs.heap
 refine .freeze i h1 (a5b hC h2) fun J hle hp=>k ρ J _ ⟨(hs.mono hle).env,h3 J _ [] hle ⟨⟨rfl,b0R h2.1 hn hle hp⟩,by simp⟩,hs.W3.trans hle⟩
theorem D1.C1 (hC:Ctx.Ok C) {α:Type} {r:p2 α} {w:Value} {x:α} {os:List Oper} {F:Bool×D8→j7} (h:y4 H (true,.ob w x) F) (k:D1 P C N ops Q os σ (F (true,.fz w (.p x)))):D1 P C N ops Q os σ H:=fun ρ I L hs=>by
 obtain⟨i,X,h1,h2,h3⟩:=h.get hs.heap
 refine .freeze i h1 (a5b hC h2) fun J hle hp=>k ρ J _ ⟨(hs.mono hle).env,h3 J _ [] hle ⟨⟨rfl,a8F h2.1 hle hp⟩,by simp⟩,hs.W3.trans hle⟩
theorem I9.y0 (hC:Ctx.Ok C) {E:TypeId} {α:Type} {r:p2 α} {w:Value} {l:List α} {c:Code} {F:Bool×D8→j7} (h:y4 H (true,.own E w l) F) (k:I9 P C N c Q σ (F (true,.fz w (.v l)))):I9 P C N c Q σ H:=fun ρ I L hs=>by
 obtain⟨i,X,h1,h2,h3⟩:=h.get hs.heap
 refine .freeze i h1 (a5b hC h2) fun J hle hp=>k ρ J _ ⟨(hs.mono hle).env,h3 J _ [] hle ⟨⟨rfl,S6 h2.1 hle hp⟩,by simp⟩,hs.W3.trans hle⟩
theorem I9.C1 (hC:Ctx.Ok C) {α:Type} {r:p2 α} {w:Value} {x:α} {c:Code} {F:Bool×D8→j7} (h:y4 H (true,.ob w x) F) (k:I9 P C N c Q σ (F (true,.fz w (.p x)))):I9 P C N c Q σ H:=fun ρ I L hs=>by
 obtain⟨i,X,h1,h2,h3⟩:=h.get hs.heap
 refine .freeze i h1 (a5b hC h2) fun J hle hp=>k ρ J _ ⟨(hs.mono hle).env,h3 J _ [] hle ⟨⟨rfl,a8F h2.1 hle hp⟩,by simp⟩,hs.W3.trans hle⟩
theorem RSt.as {C:Ctx} {I:Im} {L:Lh} {ρ:Env} (t:Nat) {w:Value} {a:AV} {g:Bool} {F:Bool×D8→j7} (ht:F0 σ t=some (.raw w)) (h:y4 H (g,.fz w a) F) (hs:RSt C I L σ H ρ):RSt C I L ((t,a)::σ) H ρ :=
 ⟨fun s b hb=>by
  rw [I8] at hb
  by_cases e:t=s
  ·subst e;simp at hb;subst hb
   obtain⟨u,h1,rfl⟩:=hs.env t _ ht
   obtain⟨i,X,h2,h3,_⟩:=h.get hs.heap
   exact⟨_,h1,h3.1.2⟩
  ·rw [if_neg e] at hb;exact hs.env s b hb,hs.heap,hs.W3⟩
theorem D1.as (t:Nat) {w:Value} {a:AV} {g:Bool} {F:Bool×D8→j7} {os:List Oper} (ht:F0 σ t=some (.raw w)) (h:y4 H (g,.fz w a) F) (k:D1 P C N ops Q os ((t,a)::σ) H):D1 P C N ops Q os σ H :=
 fun ρ I L hs=>k ρ I L (hs.as t ht h)
theorem I9.as (t:Nat) {w:Value} {a:AV} {g:Bool} {F:Bool×D8→j7} {c:Code} (ht:F0 σ t=some (.raw w)) (h:y4 H (g,.fz w a) F) (k:I9 P C N c Q ((t,a)::σ) H):I9 P C N c Q σ H :=
 fun ρ I L hs=>k ρ I L (hs.as t ht h)
theorem RSt.O9 {C:Ctx} {I:Im} {L:Lh} {ρ:Env} (t:Nat) {α:Type} {r:p2 α} {b:Nat} {a:AV} {g:Bool} {F:Bool×D8→j7} (ht:F0 σ t=some (.ln (ptr b 0) (j6.id (α:=α)))) (h:y4 H (g,.fz (ptr b 0) a) F) (hs:RSt C I L σ H ρ):RSt C I L ((t,a)::σ) H ρ :=
 ⟨fun s c hb=>by
  rw [I8] at hb
  by_cases e:t=s
  ·subst e;simp at hb;subst hb
   obtain⟨u,h1,b',hb',rfl⟩:=hs.env t _ ht
   cases hb'
   obtain⟨i,X,h2,h3,_⟩:=h.get hs.heap
   exact⟨_,h1,h3.1.2⟩
  ·rw [if_neg e] at hb;exact hs.env s c hb,hs.heap,hs.W3⟩
theorem D1.O9 (t:Nat) {α:Type} {r:p2 α} {b:Nat} {a:AV} {g:Bool} {F:Bool×D8→j7} {os:List Oper} (ht:F0 σ t=some (.ln (ptr b 0) (j6.id (α:=α)))) (h:y4 H (g,.fz (ptr b 0) a) F) (k:D1 P C N ops Q os ((t,a)::σ) H):D1 P C N ops Q os σ H :=
 fun ρ I L hs=>k ρ I L (hs.O9 t ht h)
theorem I9.O9 (t:Nat) {α:Type} {r:p2 α} {b:Nat} {a:AV} {g:Bool} {F:Bool×D8→j7} {c:Code} (ht:F0 σ t=some (.ln (ptr b 0) (j6.id (α:=α)))) (h:y4 H (g,.fz (ptr b 0) a) F) (k:I9 P C N c Q ((t,a)::σ) H):I9 P C N c Q σ H :=
 fun ρ I L hs=>k ρ I L (hs.O9 t ht h)
theorem I9.X3 (t:Nat) {α:Type} {r:p2 α} {l:List α} {c:Code} (ht:F0 σ t=some (.v l)) (k:l.length≤9223372036854775807→I9 P C N c Q σ H):I9 P C N c Q σ H :=
 fun ρ I L hs=>by
  obtain⟨u,_,xs,⟨a,c,_,_,h1,h2,_⟩,_⟩:=D5.sl (.t ht) hs
  exact k (by unfold maxLen at h2;omega) ρ I L hs
theorem I9.a8D (t:Nat) {s:T5} {c:Code} (ht:F0 σ t=some (.v s)) (k:s.l.length≤9223372036854775807→I9 P C N c Q σ H):I9 P C N c Q σ H :=
 fun ρ I L hs=>k (D5.a8D (.t ht) hs) ρ I L hs
end opers
structure Gl where
 p:Im→Prop
 mono:∀ {I J},Le I J→p I→p J
def a0c (I:Im):List AV→List Value→Prop
 | [],vs=>vs = []
 | a::ags,vs=>∃ v r,vs=v::r∧F8 I a v∧a0c I ags r
theorem a0c.mono {I J:Im} (hle:Le I J):∀ {ags:List AV} {vs:List Value},a0c I ags vs→a0c J ags vs
 | [],_,h=>h
 | a::ags,_,h=>by obtain⟨v,r,h1,h2,h3⟩:=h;exact⟨v,r,h1,h2.mono hle,h3.mono hle⟩
theorem a0c.len {I:Im}:∀ {ags:List AV} {vs:List Value},a0c I ags vs→vs.length=ags.length
 | [],_,h=>by simp [a0c] at h;simp [h]
 | a::ags,_,h=>by obtain⟨v,r,rfl,_,h3⟩:=h;simp [h3.len]
@[reducible] def b0S:List AV→Nat→x5
 | [],_ => []
 | a::r,k=>(k,a)::b0S r (k+1)
theorem a0c.env {I:Im}:∀ {ags:List AV} {vs:List Value} (k:Nat),a0c I ags vs→∀ t a,F0 (b0S ags k) t=some a→∃ u,Fl.look (a1p vs k) t=some u∧F8 I a u
 | [],_,k,h,t,a,ht=>by simp [b0S,F0] at ht
 | a::ags,_,k,h,t,b,ht=>by
  obtain⟨v,r,rfl,h2,h3⟩:=h
  rw [b0S,I8] at ht
  rw [a1p,Fl.U0]
  by_cases e:k=t
  ·rw [if_pos e] at ht ⊢;cases ht;exact⟨v,rfl,h2⟩
  ·rw [if_neg e] at ht ⊢;exact h3.env (k+1) t b ht
def p6 (G:Gl) (P:Program) (f:FuncId) (ags:List AV) (post:AV→Prop):Prop:=∀ I vs,G.p I→a0c I ags vs→Fun P f vs.toArray I (fun v J=>∃ r,F8 J r v∧post r)
def a6g (I:Im):List D8→Lh→Prop
 | [],L=>L = []
 | B::H,L=>∃ X R,L=X::R∧B.a69 I X∧a6g I H R
def G0 (G:Gl) (P:Program) (f:FuncId) (ags:List AV) (Hs:List D8) (post:AV→List D8→Prop):Prop :=
 ∀ I L vs,G.p I→a0c I ags vs→a6g I Hs L→c2U P f vs.toArray I L (fun v J L'=>∃ r Hs',F8 J r v∧a6g J Hs' L'∧post r Hs')
@[reducible] def a8G:List D8→j7
 | [] => []
 | B::r=>(false,B)::a8G r
theorem a5C:∀ Hs:List D8,a8G Hs=Hs.map (fun B=>(false,B))
 | []=>rfl
 | B::r=>by rw [a8G,a5C r];rfl
theorem a6g.toH {n0:Nat} {I:Im}:∀ {Hs:List D8} {L:Lh},a6g I Hs L→U2 n0 I (Hs.map (fun B=>(false,B))) L
 | [],_,h=>h
 | B::Hs,_,h=>by obtain⟨X,R,h1,h2,h3⟩:=h;exact⟨X,R,h1,⟨h2,fun e=>by cases e⟩,h3.toH⟩
theorem a6g.toT {n0:Nat} {I:Im}:∀ {Hs:List D8} {L:Lh},a6g I Hs L→(∀ p∈L.flatten,n0≤p.1)→U2 n0 I (Hs.map (fun B=>(true,B))) L
 | [],_,h,_=>h
 | B::Hs,_,h,hp=>by
  obtain⟨X,R,rfl,h2,h3⟩:=h
  exact⟨X,R,a8,⟨h2,fun _ p h=>hp p (by simp [h])⟩,h3.toT (fun p h=>hp p (by simp only [List.flatten_cons,List.mem_append];exact .inr h))⟩
theorem U2.toK {n0:Nat} {I:Im}:∀ {H:j7} {L:Lh},U2 n0 I H L→a6g I (H.map Prod.snd) L
 | [],_,h=>h
 | B::Hs,_,h=>by obtain⟨X,R,h1,h2,h3⟩:=h;exact⟨X,R,h1,h2.1,h3.toK⟩
def a9H (P:Program) (fn:Func) (C:Ctx) (σ:x5) (H:j7) (r:AV):Prop:=∀ ρ I L,RSt C I L σ H ρ→∃ v,Fin P fn ρ I L v∧F8 I r v
def a8l (P:Program) (fn:Func) (C:Ctx) (post:AV→j7→Prop):Exit→x5→j7→Prop
 | .normal,σ,H | .ret,σ,H=>∃ r,a9H P fn C σ H r∧post r H
 | _,_,_=>False
theorem a8l.q {P : Program} {fn : Func} {C : Ctx} {post : AV → j7 → Prop} {e : Exit} {ρ : Env} {I : Im} {L : Lh} (h : qA C (a8l P fn C post) e ρ I L) :
    b8U P fn (fun v J L'=>∃ r H,F8 J r v∧U2 C.w0.heap.size J H L'∧post r H) e ρ I L:=by
  obtain⟨σ,H,h1,h2⟩:=h
  cases e with
  | normal|ret =>
    obtain⟨r,h3,h4⟩:=h2
    obtain⟨v,h5,h6⟩:=h3 ρ I L h1
    exact⟨v,h5,r,H,h6,h1.heap,h4⟩
  | _=>exact h2.elim
theorem p6.intro {G : Gl} {P : Program} {f : FuncId} {fn : Func} {c : Code} {ags : List AV} {post : AV → Prop} (hf : P.funcs[f]? = some fn) (hb : fn.body = some c) (hn : (fn.name == "runtime.NumGoroutine") = false)
    (N:Nat) (hN:fn.ntmps=N) (hl:Nat.ble ags.length N=true) (σ:x5) (hσ:b0S ags 0=σ)
    (h:∀ C:Ctx,Ctx.Ok C→G.p C.I0→I9 P C N c (a8l P fn C (fun r _=>post r)) σ []):p6 G P f ags post:=fun I vs hG hvs =>
  ⟨⟨fn,hf,hn,by simp [hb]⟩,fun w hm=>a1J hf hb N hN (by rw [hvs.len];exact hl) hm (M := []) (by simp)
    ((h ⟨w,[],I,none⟩ (fun k hk=>by cases hk) hG (a1p vs 0) I [] ⟨by rw [←hσ];exact hvs.env 0,rfl,Le.refl I⟩).mono fun e ρ J L hq=>a8l.q hq)
    fun v J L' w' hs hp=>by
      obtain⟨r,H,h1,h2,h3⟩:=hp
      exact⟨v,J,a8,hs.chg,hs.W3,fun b h0 h1=>hs.new b h0 h1,hs.mem.drop,r,h1,h3⟩⟩
theorem G0.intro {G : Gl} {P : Program} {f : FuncId} {fn : Func} {c : Code} {ags : List AV} {Hs : List D8} {post : AV → List D8 → Prop} (hf : P.funcs[f]? = some fn) (hb : fn.body = some c) (hn : (fn.name == "runtime.NumGoroutine") = false)
    (N:Nat) (hN:fn.ntmps=N) (hl:Nat.ble ags.length N=true) (σ:x5) (hσ:b0S ags 0=σ) (H0:j7) (hH:a8G Hs=H0)
    (h:∀ C:Ctx,Ctx.Ok C→G.p C.I0→I9 P C N c (a8l P fn C (fun r H=>post r (H.map Prod.snd))) σ H0):G0 G P f ags Hs post:=fun I L vs hG hvs hL =>
  ⟨⟨fn,hf,hn,by simp [hb]⟩,fun w hm=>a1J hf hb N hN (by rw [hvs.len];exact hl) hm (M:=L.flatten.map Prod.fst) (fun p hp=>List.mem_map_of_mem hp)
    ((h ⟨w, L.flatten.map Prod.fst, I, none⟩ (fun k hk => by
        obtain⟨p,hp,rfl⟩:=List.mem_map.1 hk
        exact C6 (hm.loc p hp)) hG (a1p vs 0) I L ⟨by rw [←hσ];exact hvs.env 0,by rw [←hH,a5C];exact hL.toH,Le.refl I⟩).mono fun e ρ J L hq=>a8l.q hq)
    fun v J L' w' hs hp=>by
      obtain⟨r,H,h1,h2,h3⟩:=hp
      exact⟨v,J,L',a8,hs.chg,hs.W3,fun b h0 h1=>hs.new b h0 h1,hs.mem,hs.own,r,_,h1,h2.toK,h3⟩⟩
theorem p6.mono {G:Gl} {P:Program} {f:FuncId} {ags:List AV} {post post':AV→Prop} (h:p6 G P f ags post) (hp:∀ r,post r→post' r):p6 G P f ags post':=fun I vs hG hvs =>
 (h I vs hG hvs).mono fun v J hle ⟨r,h1,h2⟩=>⟨r,h1,hp r h2⟩
theorem D5.c1P {C:Ctx} {G:Gl} {σ:x5} {H:j7} {g:Nat} {a:AV} (hG:G.p C.I0) (h:∀ I,G.p I→F8 I a (ptr g 0)):D5 C σ H (.global g) a:=fun ρ I L hs=>⟨_,rfl,h I (G.mono hs.W3 hG)⟩
def a2v (C:Ctx) (σ:x5) (H:j7):List Operand→List AV→Prop
 | [],ags=>ags = []
 | x::xs,ags=>∃ a r,ags=a::r∧D5 C σ H x a∧a2v C σ H xs r
theorem a2v.nil {C:Ctx} {σ:x5} {H:j7}:a2v C σ H [] []:=rfl
theorem a2v.cons {C:Ctx} {σ:x5} {H:j7} {x:Operand} {a:AV} {xs:List Operand} {ags:List AV} (h:D5 C σ H x a) (k:a2v C σ H xs ags):a2v C σ H (x::xs) (a::ags):=⟨a,ags,rfl,h,k⟩
theorem a2v.get {C:Ctx} {σ:x5} {H:j7} {ρ:Env} {I:Im} {L:Lh} (hs:RSt C I L σ H ρ):∀ {xs:List Operand} {ags:List AV},a2v C σ H xs ags→∃ vs,evL ρ xs=some vs∧a0c I ags vs
 | [],_,h=>by simp [a2v] at h;subst h;exact⟨[],rfl,rfl⟩
 | x::xs,_,h=>by
  obtain⟨a,r,rfl,h1,h2⟩:=h
  obtain⟨u,h3,h4⟩:=h1 ρ I L hs
  obtain⟨vs,h5,h6⟩:=a2v.get hs h2
  exact⟨u::vs,by simp [evL,h3,h5],u,vs,rfl,h4,h6⟩
def EvL (C:Ctx) (σ:x5) (H:j7) (x:Operand) (a:AV):Prop:=∀ ρ I L,RSt C I L σ H ρ→∃ u,ev ρ x=some u∧∀ J,Le I J→(∀ p∈L.flatten,J p.1=some p.2)→F8 J a u
theorem EvL.e {C:Ctx} {σ:x5} {H:j7} {x:Operand} {a:AV} (h:D5 C σ H x a):EvL C σ H x a:=fun ρ I L hs=>by
 obtain⟨u,h1,h2⟩:=h ρ I L hs
 exact⟨u,h1,fun J hle _=>h2.mono hle⟩
theorem EvL.own {C:Ctx} {σ:x5} {H:j7} {t:Nat} {E:TypeId} {α:Type} {r:p2 α} {w:Value} {l:List α} {g:Bool} {F:Bool×D8→j7} (ht:F0 σ t=some (.raw w)) (h:y4 H (g,.own E w l) F):EvL C σ H (.tmp t) (.v l):=fun ρ I L hs=>by
 obtain⟨u,h1,rfl⟩:=hs.env t _ ht
 obtain⟨i,X,h2,h3,_⟩:=h.get hs.heap
 exact⟨_,h1,fun J hle hp=>S6 h3.1 hle (fun p hpx=>hp p (F7 h2 hpx))⟩
def a6h (C:Ctx) (σ:x5) (H:j7):List Operand→List AV→Prop
 | [],ags=>ags = []
 | x::xs,ags=>∃ a r,ags=a::r∧EvL C σ H x a∧a6h C σ H xs r
theorem a6h.nil {C:Ctx} {σ:x5} {H:j7}:a6h C σ H [] []:=rfl
theorem a6h.cons {C:Ctx} {σ:x5} {H:j7} {x:Operand} {a:AV} {xs:List Operand} {ags:List AV} (h:EvL C σ H x a) (k:a6h C σ H xs ags):a6h C σ H (x::xs) (a::ags):=⟨a,ags,rfl,h,k⟩
theorem a6h.get {C:Ctx} {σ:x5} {H:j7} {ρ:Env} {I:Im} {L:Lh} (hs:RSt C I L σ H ρ):∀ {xs:List Operand} {ags:List AV},a6h C σ H xs ags→∃ vs,evL ρ xs=some vs∧∀ J,Le I J→(∀ p∈L.flatten,J p.1=some p.2)→a0c J ags vs
 | [],_,h=>by simp [a6h] at h;subst h;exact⟨[],rfl,fun _ _ _=>rfl⟩
 | x::xs,_,h=>by
  obtain⟨a,r,rfl,h1,h2⟩:=h
  obtain⟨u,h3,h4⟩:=h1 ρ I L hs
  obtain⟨vs,h5,h6⟩:=a6h.get hs h2
  exact⟨u::vs,by simp [evL,h3,h5],fun J hle hp=>⟨u,vs,rfl,h4 J hle hp,h6 J hle hp⟩⟩
def a7C (r:AV):Prop:=∀ I J u,F8 I r u→F8 J r u
class a9I (α:Type) [p2 α]:Prop where
 any:∀ {I J:Im} {x:α} {cs},rep I x cs→rep J x cs
instance:a9I Int:=⟨fun h=>h⟩
instance:a9I UInt8:=⟨fun h=>h⟩
theorem K4.any {α:Type} [p2 α] [a9I α] {I J:Im}:∀ {l:List α} {cs:List Value},K4 I l cs→K4 J l cs
 | [],_,h=>h
 | x::l,_,h=>by obtain⟨c,r,h1,h2,h3⟩:=h;exact⟨c,r,h1,a9I.any h2,K4.any h3⟩
instance {n:Nat} {α:Type} [p2 α] [a9I α]:a9I (K5 n α):=⟨fun h=>K4.any h⟩
theorem a7C.v {α:Type} [p2 α] [a9I α] {x:α}:a7C (.v x):=fun I J u h=>by obtain⟨cs,h1,h2⟩:=h;exact⟨cs,a9I.any h1,h2⟩
section calls
variable {P:Program} {C:Ctx} {N:Nat} {σ:x5} {H:j7} {G:Gl} (hG:G.p C.I0) {f:FuncId} {d:Option Nat} {args:Array Operand} {tys:Array TypeId} {ty:TypeId} {ps:String} {af:Array Edge} {g:Option (Nat×Bool)} {ags:List AV}
include hG
theorem j5.call {post:AV→Prop} {K:AV→Prop} (h:p6 G P f ags post) (hv:a2v C σ H args.toList ags) (k:∀ r,post r→K r):j5 P N C ⟨d,.call ⟨.value (.func f),args,tys⟩,ty,ps,af,g⟩ σ H K:=fun ρ I L hs=>by
 obtain⟨vs,h1,h2⟩:=hv.get hs
 exact .call a8 h1 (h I vs (G.mono hs.W3 hG) h2) fun v J hle ⟨r,h3,h4⟩=>⟨a8,r,h3,k r h4⟩
theorem j5.p8 {r:AV} {K:AV→Prop} (h:p6 G P f ags (fun x=>x=r)) (hv:a2v C σ H args.toList ags) (k:K r):j5 P N C ⟨d,.call ⟨.value (.func f),args,tys⟩,ty,ps,af,g⟩ σ H K :=
 .call hG h hv fun x e=>e▸k
theorem j5.b8V {post:AV→Prop} {K:AV→Prop} (h:p6 G P f ags post) (hv:a6h C σ H args.toList ags) (hf:∀ r,post r→a7C r) (k:∀ r,post r→K r):j5 P N C ⟨d,.call ⟨.value (.func f),args,tys⟩,ty,ps,af,g⟩ σ H K:=fun ρ I L hs=>by
 obtain⟨vs,h1,h2⟩:=hv.get hs
 exact .b8V (φ:=fun v=>∃ r,F8 I r v∧post r) a8 h1 (fun J hle hp=>(h J vs (G.mono (hs.W3.trans hle) hG) (h2 J hle hp)).mono fun v J' _ ⟨r,h3,h4⟩=>⟨r,hf r h4 _ _ _ h3,h4⟩) fun v ⟨r,h3,h4⟩=>⟨a8,r,h3,k r h4⟩
theorem j5.c05 {r:AV} {K:AV→Prop} (h:p6 G P f ags (fun x=>x=r)) (hv:a6h C σ H args.toList ags) (hf:a7C r) (k:K r):j5 P N C ⟨d,.call ⟨.value (.func f),args,tys⟩,ty,ps,af,g⟩ σ H K :=
 .b8V hG h hv (fun x e=>e▸hf) fun x e=>e▸k
omit hG in
theorem OpS.c1Q {ρ : Env} {I : Im} {L : Lh} {F : Operand} {vs : List Value} {post : Value → Im → Lh → Prop} {K : Value → Im → Lh → Prop} (i : Nat) {c : List (Nat × Obj)} (hc : L[i]? = some c) (hF : ev ρ F = some (.func (.func f) #[] #[])) (hv : evL ρ args.toList = some vs)
    (h:c2U P f vs.toArray I [c] post) (k:∀ v J c' (w:World),Le I J→post v J [c']→(∀ p∈c',w.heap.size≤p.1∨p.1∈c.map Prod.fst)→C.w0.heap.size≤w.heap.size→K v J (L.set i c')) (hshape:∀ v J L',post v J L'→∃ c',L' = [c']) :
    OpS P C N ⟨d,.call ⟨.value F,args,tys⟩,ty,ps,af,g⟩ ρ I L K:=fun a w ha hs=>by
  have hm:=hs.mem
  have hsplit:=fun c'=>a1I L i c hc c'
  have hmc:Mem I [c] w:=⟨hm.im,fun p hp=>hm.loc p (F7 hc (by simpa using hp)),fun p hp=>hm.sep p (F7 hc (by simpa using hp)),by simpa using a2g hm.nodup hc⟩
  rw [a1K h.ok rfl (ha.ev hF) (ha.evL hv)]
  refine(h.run w hmc).mono ?_
  rintro e w' ⟨v,J,L',rfl,hch,hle,hn,hm',hown,hp⟩
  obtain⟨c',rfl⟩:=hshape v J L' hp
  have hlt:∀ p∈L.flatten,p.1 < w.heap.size:=fun p hp=>C6 (hm.loc p hp)
  have hnd:=hm.nodup
  rw [(hsplit c').1] at hnd
  -- the blocks of the other chunks
  have hoth:∀ p,p∈(L.take i).flatten∨p∈(L.drop (i+1)).flatten→p∈L.flatten∧p.1∉c.map Prod.fst:=by
    intro p hp
    rw [(hsplit c').1]
    simp only [List.map_append,List.nodup_append] at hnd
    rcases hp with hp|hp
    · exact⟨by simp [hp],fun hx=>hnd.2.2 p.1 (List.mem_map_of_mem hp) p.1 (by simp only [List.mem_append];exact .inl hx) rfl⟩
    · exact⟨by simp [hp],fun hx=>hnd.2.1.2.2 p.1 hx p.1 (List.mem_map_of_mem hp) rfl⟩
  have hcas:∀ p∈(L.set i c').flatten,p∈c'∨(p∈(L.take i).flatten∨p∈(L.drop (i+1)).flatten):=by
    intro p hp
    rw [(hsplit c').2] at hp
    simp only [List.mem_append] at hp
    rcases hp with hp|hp|hp
    · exact .inr (.inl hp)
    · exact .inl hp
    · exact .inr (.inr hp)
  have hcM:∀ k∈([c]:Lh).flatten.map Prod.fst,k < C.w0.heap.size→k∈C.M:=by
    intro k hk hlt0
    simp only [List.flatten_cons,List.flatten_nil,List.append_nil,List.mem_map] at hk
    obtain⟨p,hp,rfl⟩:=hk
    rcases hs.own p (F7 hc hp) with h1|h1
    · omega
    · exact h1
  have hchg:Chg C.M C.w0 w':=by
    refine⟨hch.os.trans hs.chg.os,hch.tape.trans hs.chg.tape,hch.output.trans hs.chg.output,Nat.le_trans hs.chg.size hch.size,fun k hk hkm => ?_⟩
    rw [hch.block k (Nat.lt_of_lt_of_le hk hs.chg.size) (fun hx=>hkm (hcM k hx hk))]
    exact hs.chg.block k hk hkm
  refine⟨v,rfl,J,L.set i c',⟨⟨hm'.im,fun p hp => ?_,fun p hp => ?_,?_⟩,hchg,fun p hp => ?_,hs.W3.trans hle,fun b h0 h1 => ?_⟩,k v J c' w hle hp (fun p hp=>by simpa using hown p (by simpa using hp)) hs.chg.size⟩
  · rcases hcas p hp with h1|h1
    · exact hm'.loc p (by simpa using h1)
    · obtain⟨h2,h3⟩:=hoth p h1
      exact(hch.block p.1 (hlt p h2) (by simpa using h3)).trans (hm.loc p h2)
  · rcases hcas p hp with h1|h1
    · exact hm'.sep p (by simpa using h1)
    · obtain⟨h2,h3⟩:=hoth p h1
      cases hj:J p.1 with
      | none=>rfl
      | some o=>exact absurd (hn p.1 (hm.sep p h2) (by simp [hj])) (by have:=hlt p h2;omega)
  · rw [(hsplit c').2]
    have hc'nd:=hm'.nodup
    have hblk:∀ p∈c',w.heap.size≤p.1∨p.1∈c.map Prod.fst:=fun p hp=>by
      have:=hown p (by simpa using hp)
      simpa using this
    simp only [List.map_append,List.nodup_append] at hnd ⊢
    refine⟨hnd.1,⟨by simpa using hc'nd,hnd.2.1.2.1,?_⟩,?_⟩
    · rintro x hx y hy rfl
      obtain⟨p,hp,rfl⟩:=List.mem_map.1 hx
      obtain⟨q,hq,hqe⟩:=List.mem_map.1 hy
      obtain⟨h2,h3⟩:=hoth q (.inr hq)
      rcases hblk p hp with h4|h4
      · have:=hlt q h2;omega
      · exact h3 (hqe▸h4)
    · rintro x hx y hy rfl
      obtain⟨q,hq,rfl⟩:=List.mem_map.1 hx
      obtain⟨h2,h3⟩:=hoth q (.inl hq)
      simp only [List.mem_append] at hy
      rcases hy with hy|hy
      · obtain⟨p,hp,hpe⟩:=List.mem_map.1 hy
        rcases hblk p hp with h4|h4
        · have:=hlt q h2;omega
        · exact h3 (hpe▸h4)
      · exact hnd.2.2 q.1 hx q.1 (by simp only [List.mem_append];exact .inr hy) rfl
  · rcases hcas p hp with h1|h1
    · rcases hown p (by simpa using h1) with h2|h2
      · exact .inl (Nat.le_trans hs.chg.size h2)
      · obtain⟨q,hq,hqe⟩:=List.mem_map.1 h2
        rw [←hqe]
        exact hs.own q (F7 hc (by simpa using hq))
    · exact hs.own p (hoth p h1).1
  · cases hi:I b with
    | none=>exact Nat.le_trans hs.chg.size (hn b hi h1)
    | some o=>exact hs.new b h0 (by simp [hi])
theorem B3.a4I {post : AV → List D8 → Prop} {K : AV → j7 → Prop} {b : Bool} {B : D8} {F : Bool × D8 → j7} (h : G0 G P f ags [B] post) (hH : y4 H (b, B) F) (hv : a2v C σ H args.toList ags)
    (hshape:∀ r Hs,post r Hs→∃ B',Hs = [B']) (k:∀ r B',post r [B']→K r (F (b,B'))):B3 P C N ⟨d,.call ⟨.value (.func f),args,tys⟩,ty,ps,af,g⟩ σ H K:=fun ρ I L hs=>by
  obtain⟨vs,h1,h2⟩:=hv.get hs
  obtain⟨i,X,h3,h4,h5⟩:=hH.get hs.heap
  refine OpS.c1Q (post:=fun v J L'=>∃ r Hs',F8 J r v∧a6g J Hs' L'∧post r Hs') i h3 rfl h1 (h I [X] vs (G.mono hs.W3 hG) h2 ⟨X,[],rfl,h4.1,rfl⟩) ?_ ?_
  · intro v J c' w hle ⟨r,Hs',q1,q2,q3⟩ q4 hsz
    obtain⟨B',rfl⟩:=hshape r Hs' q3
    obtain⟨X',R,e,q5,q6⟩:=q2
    simp [a6g] at q6
    subst q6
    cases e
    refine⟨hle,r,_,q1,h5 J (b,B') c' hle ⟨q5,fun hb p hp => ?_⟩,k r B' q3⟩
    rcases q4 p hp with h6|h6
    · exact Nat.le_trans hsz h6
    · obtain⟨q,hq,hqe⟩:=List.mem_map.1 h6
      rw [←hqe];exact h4.2 hb q hq
  · intro v J L' ⟨r,Hs',q1,q2,q3⟩
    obtain⟨B',rfl⟩:=hshape r Hs' q3
    obtain⟨X',R,e,q5,q6⟩:=q2
    exact⟨X',by rw [e,q6]⟩
theorem B3.a7D {post : AV → List D8 → Prop} {K : AV → j7 → Prop} (h : G0 G P f ags [] post) (hv : a2v C σ H args.toList ags) (k : ∀ r Hs, post r Hs → K r (Hs.map (fun B => (true, B)) ++ H)) :
    B3 P C N ⟨d,.call ⟨.value (.func f),args,tys⟩,ty,ps,af,g⟩ σ H K:=fun ρ I L hs=>by
  obtain⟨vs,h1,h2⟩:=hv.get hs
  have hM:=h I [] vs (G.mono hs.W3 hG) h2 rfl
  intro a w ha hst
  have hm:=hst.mem
  rw [a1K hM.ok rfl (ha.ev (x := .func f) rfl) (ha.evL h1)]
  refine(hM.run w hm.drop).mono ?_
  rintro e w' ⟨v,J,L',rfl,hc,hle,hn,hm',hown,r,Hs',q1,q2,q3⟩
  have hlt:∀ p∈L.flatten,p.1 < w.heap.size:=fun p hp=>C6 (hm.loc p hp)
  have hnew:∀ p∈L'.flatten,w.heap.size≤p.1:=fun p hp=>by simpa using hown p hp
  have hmem:Mem J (L'++L) w':=by
    refine⟨hm'.im,fun p hp => ?_,fun p hp => ?_,?_⟩
    · simp only [List.flatten_append,List.mem_append] at hp
      rcases hp with hp|hp
      · exact hm'.loc p hp
      · exact(hc.block p.1 (hlt p hp) (by simp)).trans (hm.loc p hp)
    · simp only [List.flatten_append,List.mem_append] at hp
      rcases hp with hp|hp
      · exact hm'.sep p hp
      · cases hj:J p.1 with
        | none=>rfl
        | some o=>exact absurd (hn p.1 (hm.sep p hp) (by simp [hj])) (by have:=hlt p hp;omega)
    · simp only [List.flatten_append,List.map_append]
      refine List.nodup_append.2 ⟨hm'.nodup,hm.nodup,?_⟩
      rintro x hx y hy rfl
      obtain⟨p,hp,rfl⟩:=List.mem_map.1 hx
      obtain⟨q,hq,hqe⟩:=List.mem_map.1 hy
      have:=hnew p hp
      have:=hlt q hq
      omega
  refine⟨v,a8,J,L'++L,hst.step (by simpa using hc) hle hn hmem hnew,hle,r,_,q1,?_,k r Hs' q3⟩
  exact(q2.toT (fun p hp=>Nat.le_trans hst.chg.size (hnew p hp))).append (hs.heap.mono hle)
end calls
end Go.Ab
namespace Go.Ab
open Go.Fl Go.RowKit
open p2 (rep)
def o9 (acc:List (Nat×AV)) (j:Nat):Option AV :=
 match acc with
 | []=>none
 | (i,S)::r=>bif Nat.beq i j then some S else o9 r j
def D3 (σ0:x5) (acc:List (Nat×AV)) (s:List (Nat×Nat)):List Nat→x5
 | [] => []
 | t::ts =>
  match (match J0 s t with|none=>F0 σ0 t|some j=>o9 acc j) with
  | some a=>(t,a)::D3 σ0 acc s ts
  | none=>D3 σ0 acc s ts
def a4J (P:Program) (N:Nat) (C:Ctx) (σ0:x5) (H:j7) (acc:List (Nat×AV)) (o:Oper) (s:List (Nat×Nat)) (r:AV):Prop :=
 match o.guard with
 | none=>j5 P N C o (D3 σ0 acc s (C4 o)) H (fun r'=>r'=r)
 | some (g,want)=>∃ b c,o9 acc g=some (.v b)∧r = .opt (b == want) c∧(b=want→j5 P N C o (D3 σ0 acc s (C4 o)) H (fun r'=>r'=c))
def b2M (P:Program) (N:Nat) (C:Ctx) (σ0:x5) (H:j7) (F:List (Nat×AV)→Prop):List Oper→List (List (Nat×Nat))→Nat→List (Nat×AV)→Prop
 | [],_,_,acc=>F acc
 | o::os,s::ss,k,acc=>∃ r,a4J P N C σ0 H acc o s r∧b2M P N C σ0 H F os ss (k+1) ((k,r)::acc)
 | _,[],_,_=>False
def a1q (acc:List (Nat×AV)):List Oper→Nat→x5→x5
 | o::os,k,σ =>
  match o.dst,o9 acc k with
  | some d,some r=>a1q acc os (k+1) ((d,r)::σ)
  | _,_=>a1q acc os (k+1) σ
 | [],_,σ=>σ
def a1R (r:AV):Fl.Spec := .val (fun v J=>F8 J r v) (fun v I J h hle=>h.mono hle)
def a3U (acc:List (Nat×AV)):List (Nat×Fl.Spec):=acc.map fun p=>(p.1,a1R p.2)
theorem a0d:∀ (acc:List (Nat×AV)) (j:Nat),U9 (a3U acc) j=(o9 acc j).map a1R
 | [],j=>rfl
 | (i,r)::acc,j=>by
  simp only [a3U,List.map_cons,U9,o9]
  cases Nat.beq i j with
  | true=>rfl
  | false=>simpa [a3U] using a0d acc j
theorem a7h {C : Ctx} {σ0 : x5} {H : j7} {acc : List (Nat × AV)} {s : List (Nat × Nat)} {ρ0 ρ : Env} {I J : Im} {L : Lh} (hs : RSt C I L σ0 H ρ0) (hle : Le I J) (G : Prop) : ∀ (ts : List Nat),
    ((∀ t a,F0 (D3 σ0 acc s ts) t=some a→∃ u,Fl.look ρ t=some u∧F8 J a u)→G)→Y8 (U9 (a3U acc)) s ρ0 ρ J ts G
  | [],h=>h (fun t a ht=>by simp [D3,F0] at ht)
  | t::ts,h=>by
    simp only [Y8]
    cases hsrc:J0 s t with
    | none =>
      intro hlk
      refine a7h hs hle G ts fun h2=>h fun t' a ht => ?_
      simp only [D3,hsrc] at ht
      cases h0:F0 σ0 t with
      | none=>simp only [h0] at ht;exact h2 t' a ht
      | some b =>
        simp only [h0] at ht
        rw [I8] at ht
        by_cases e:t=t'
        · subst e;simp at ht;subst ht
          obtain⟨u,h3,h4⟩:=hs.env t _ h0
          exact⟨u,hlk.trans h3,h4.mono hle⟩
        · rw [if_neg e] at ht;exact h2 t' a ht
    | some j =>
      simp only [a0d]
      cases hj:o9 acc j with
      | none=>simp
      | some r =>
        simp only [Option.map_some,a1R]
        intro v hv hr
        refine a7h hs hle G ts fun h2=>h fun t' a ht => ?_
        simp only [D3,hsrc,hj] at ht
        rw [I8] at ht
        by_cases e:t=t'
        · subst e;simp at ht;subst ht;exact⟨v,hv,hr⟩
        · rw [if_neg e] at ht;exact h2 t' a ht
theorem b9v {P : Program} {N : Nat} {C : Ctx} {ops : Array Oper} {σ0 : x5} {H : j7} {acc : List (Nat × AV)} {ρ0 : Env} {I : Im} {L : Lh} {o : Oper} {s : List (Nat × Nat)} {r : AV} (hs : RSt C I L σ0 H ρ0)
    (h:a4J P N C σ0 H acc o s r):a9n P N ops (U9 (a3U acc)) ρ0 I L o s (a1R r):=by
  intro J hle ρ
  refine a7h hs hle _ _ fun henv => ?_
  have hR:RSt C J L (D3 σ0 acc s (C4 o)) H ρ:=⟨henv,hs.heap.mono hle,hs.W3.trans hle⟩
  unfold a4J at h
  cases hg:o.guard with
  | none =>
    simp only [hg] at h
    exact OpX.a1Q (h ρ J L hR) fun v J' X _ ⟨h1,r',h2,h3⟩=>⟨h1,h3▸h2⟩
  | some p =>
    obtain⟨g,want⟩:=p
    simp only [hg] at h
    obtain⟨b,c,h1,rfl,h2⟩:=h
    intro v hv
    rw [a0d,h1] at hv
    simp only [Option.map_some,a1R,Fl.Spec.holds] at hv
    obtain⟨cs,rfl,rfl⟩:=hv
    refine⟨fun e => ?_,fun hne=>⟨?_,fun o e=>by cases e⟩⟩
    · have e':b=want:=by simpa [asV,p2.agg] using e
      exact OpX.a1Q (h2 e' ρ J L hR) fun v J' X _ ⟨h3,r',h4,h5⟩=>⟨h3,fun _=>h5▸h4⟩
    · have hb:b≠want:=hne b rfl
      exact fun hc=>absurd (by simpa using hc) hb
theorem a9J {C : Ctx} {H : j7} {acc : List (Nat × AV)} {J : Im} {G : Env → Lh → Prop} : ∀ (os : List Oper) (k : Nat) (σ : x5) (ρ : Env) (L : Lh), RSt C J L σ H ρ →
    (∀ i o,os[i]?=some o→∃ d r,o.dst=some d∧o9 acc (k+i)=some r)→(∀ ρ',RSt C J L (a1q acc os k σ) H ρ'→G ρ' L)→a63 J (U9 (a3U acc)) G os k ρ L
  | [],k,σ,ρ,L,hs,_,h=>h ρ hs
  | o::os,k,σ,ρ,L,hs,hd,h=>by
    obtain⟨d,r,h1,h2⟩:=hd 0 o rfl
    simp only [a63,h1,a0d]
    simp only [Nat.add_zero] at h2
    rw [h2]
    simp only [Option.map_some,a1R]
    intro v hv
    refine a9J os (k+1) ((d,r)::σ) _ L (hs.put (Le.refl J) hv hs.heap) (fun i o' ho => ?_) (fun ρ' h'=>h ρ' ?_)
    · obtain⟨d',r',h3,h4⟩:=hd (i+1) o' (by simpa using ho)
      exact⟨d',r',h3,by rw [show k+1+i=k+(i+1) by omega];exact h4⟩
    · simpa only [a1q,h1,h2] using h'
theorem b0T {P : Program} {N : Nat} {C : Ctx} {ops : Array Oper} {σ0 : x5} {H : j7} {ρ0 : Env} {I : Im} {L : Lh} {F : List (Nat × AV) → Prop} {F' : List (Nat × Fl.Spec) → Prop} (hs : RSt C I L σ0 H ρ0) :
    ∀ (os:List Oper) (ss:List (List (Nat×Nat))) (k:Nat) (acc:List (Nat×AV)),(∀ i,i < k→(o9 acc i).isSome)→b2M P N C σ0 H F os ss k acc →
      (∀ acc',(∀ i,i < k+os.length→(o9 acc' i).isSome)→F acc'→F' (a3U acc'))→chain P N ops ρ0 I L F' os ss k (a3U acc)
  | [],ss,k,acc,hk,h,hF=>by
    have hc:F acc:=by cases ss<;>exact h
    cases ss<;>exact hF acc (by simpa using hk) hc
  | o::os,[],k,acc,_,h,_=>h.elim
  | o::os,s::ss,k,acc,hk,h,hF=>by
    obtain⟨r,h1,h2⟩:=h
    refine⟨a1R r,b9v hs h1,b0T hs os ss (k+1) ((k,r)::acc) (fun i hi => ?_) h2 (fun acc' h3=>hF acc' (fun i hi=>h3 i (by simp only [List.length_cons] at hi;omega)))⟩
    simp only [o9]
    by_cases e:k=i
    · subst e;simp
    · rw [a4W e];exact hk i (by omega)
theorem a8H {ops:Array Oper} {n:Nat} {ss:List (List (Nat×Nat))} (h:a8x ops n ss=true) {i:Nat} (hi:i < n):∃ o d,ops[i]?=some o∧o.dst=some d:=by
 simp only [a8x,Bool.and_eq_true] at h
 have h1:=h.1.1.1.2
 have h2:=List.all_eq_true.1 h1 i (List.mem_range.2 hi)
 unfold b2q at h2
 split at h2
 ·rename_i o s ho hss
  simp only [Bool.and_eq_true] at h2
  obtain⟨d,hd⟩:=Option.isSome_iff_exists.1 h2.1.1
  exact⟨o,d,ho,hd⟩
 ·cases h2
section
variable {P:Program} {C:Ctx} {N:Nat} {Q:Exit→x5→j7→Prop} {σ:x5} {H:j7}
theorem I9.draw {id : Nat} {l : List Oper} (hm : P.follows .mixedOrders = true) (n : Nat) (ss : List (List (Nat × Nat)))
    (hN:M4 N l=true) (hB:a8x l.toArray n ss=true) (hss:Nat.ble n ss.length=true)
    (hch:b2M P N C σ H (fun acc=>D1 P C N l.toArray Q (l.drop n) (a1q acc (l.take n) 0 σ) H) (l.take n) ss 0 []) :
    I9 P C N (.region id l.toArray true) Q σ H:=fun ρ I L hs=>by
  refine .draw hm n ss hN hB hss ?_
  refine b0T (acc := []) (F:=_) hs _ _ 0 (fun i hi=>by omega) hch fun acc hacc hF J hle => ?_
  refine a9J (l.take n) 0 σ ρ L (hs.mono hle) (fun i o ho => ?_) (fun ρ' h'=>hF ρ' J L h')
  have hi:i < n:=by
    have:=(List.getElem?_eq_some_iff.1 ho).1
    simp at this;omega
  obtain⟨o',d,h1,h2⟩:=a8H hB hi
  have:o'=o:=by
    rw [List.getElem?_take,if_pos hi] at ho
    have h1':l[i]?=some o':=by simpa using h1
    rw [h1'] at ho;exact Option.some.inj ho
  subst this
  have hlen:i < (l.take n).length:=(List.getElem?_eq_some_iff.1 ho).1
  obtain⟨r,hr⟩:=Option.isSome_iff_exists.1 (hacc i (by omega))
  exact⟨d,r,h2,by simpa using hr⟩
end
class G4 (α:Type) [p2 α] [Inhabited α] where
 zs:List Value
 zero:∀ I,rep I (default:α) zs
instance:G4 Int:=⟨[i64 0],fun _=>⟨rfl,by decide,by decide⟩⟩
instance:G4 UInt8:=⟨[Fl.u8 0],fun _=>rfl⟩
instance:G4 UInt64:=⟨[Fl.u64 0],fun _=>rfl⟩
instance:G4 Bool:=⟨[.bool false],fun _=>rfl⟩
instance:G4 T5:=⟨[.string ⟨#[]⟩],fun _=>⟨⟨_,rfl,rfl⟩,by decide⟩⟩
instance:G4 Unit:=⟨[],fun _=>rfl⟩
instance {α:Type} [p2 α]:G4 (List α):=⟨[.slice none 0 0],fun I=>⟨_,rfl,[],Sl.nil I _,rfl⟩⟩
theorem a0m {α:Type} [p2 α] {I:Im} {x:α} {c:List Value} (h:rep I x c):∀ n,K4 I (List.replicate n x) (List.replicate n c).flatten
 | 0=>rfl
 | n+1=>by simp only [List.replicate_succ,List.flatten_cons];exact⟨c,_,rfl,h,a0m h n⟩
instance {n:Nat} {α:Type} [p2 α] [Inhabited α] [G4 α]:G4 (K5 n α):=⟨(List.replicate n (G4.zs α)).flatten,fun I=>a0m (G4.zero I) n⟩
instance {α β:Type} [p2 α] [p2 β] [Inhabited α] [Inhabited β] [G4 α] [G4 β]:G4 (α×β):=⟨G4.zs α++G4.zs β,fun I=>⟨_,_,rfl,G4.zero I,G4.zero I⟩⟩
@[reducible] def G4.via {S T:Type} [p2 T] [Inhabited S] [Inhabited T] [G4 T] (f:S→T) (h:f default=default) : @G4 S (p2.via f) _ :=
 letI:p2 S:=p2.via f
 ⟨G4.zs T,fun I=>by show rep I (f default) _;rw [h];exact G4.zero I⟩
structure F1 (P:Program) (T:TypeId) (α:Type) [p2 α] [Inhabited α]:Prop where
 size:D7 P T (p2.size α)
 kind:∃ dd,P.underlying T=some dd∧a0E dd=p2.agg α
 zero:∃ zs,W6 P T=some zs∧∀ I,rep I (default:α) zs
 pos:p2.size α≠0
theorem F1.of {P:Program} {T:TypeId} {α:Type} [p2 α] [Inhabited α] [G4 α] (h1:(P.info? T).map (·.size)=some (p2.size α)) (h2:(P.underlying T).map a0E=some (p2.agg α)) (h3:W6 P T=some (G4.zs α)) (h4:p2.size α≠0):F1 P T α :=
 ⟨.of h1,by
  cases h:P.underlying T with
  | none=>simp [h] at h2
  | some dd=>exact⟨dd,rfl,by simpa [h] using h2⟩,⟨_,h3,G4.zero⟩,h4⟩
def a4K (P:Program) (rv:ResultVar) (C:Ctx) (σ:x5) (H:j7) (a:AV):Prop:=∀ ρ I L,RSt C I L σ H ρ→∃ v,a56 P rv ρ I L v∧F8 I a v
section
variable {P:Program} {C:Ctx} {σ:x5} {H:j7}
theorem a4K.tmp {t:Nat} {a:AV} (h:F0 σ t=some a):a4K P (.tmp t) C σ H a:=fun ρ I L hs=>by
 obtain⟨u,h1,h2⟩:=hs.env t a h
 exact⟨u,.tmp h1,h2⟩
theorem a7i {α:Type} [p2 α] {I:Im} {x:α} {cs:List Value} (h:rep I x cs) (hg:p2.agg α=false):∃ v,cs = [v]∧asV (p2.agg α) cs=v:=by
 have h1:=p2.len h
 rw [p2.one hg] at h1
 obtain⟨v,rfl⟩:=List.length_eq_one_iff.1 h1
 exact⟨v,rfl,by rw [hg];rfl⟩
theorem a4K.cell {t b : Nat} {T : TypeId} {α : Type} {r : p2 α} {i : Inhabited α} {x : α} {g : Bool} {F : Bool × D8 → j7} (ty : F1 P T α) (h : F0 σ t = some (.ln (ptr b 0) (j6.id (α := α)))) (hH : y4 H (g, .ob (ptr b 0) x) F) :
    a4K P (.cell t T) C σ H (.v x):=fun ρ I L hs=>by
  obtain⟨u,h1,b',hb,rfl⟩:=hs.env t _ h
  cases hb
  obtain⟨i,X,h2,h3,_⟩:=hH.get hs.heap
  obtain⟨b2,T2,cs,hb2,rfl,h5⟩:=h3.1
  cases hb2
  obtain⟨dd,hd1,hd2⟩:=ty.kind
  refine⟨asV (p2.agg α) cs,?_,cs,h5,a8⟩
  cases hag:p2.agg α with
  | true=>exact .b0G i hd1 (hd2.trans hag) (by rw [p2.len h5];exact ty.size) (by simpa [j6.id] using h1) h2
  | false =>
    obtain⟨v,rfl,hv⟩:=a7i h5 hag
    exact .c2Z i hd1 (hd2.trans hag) (by simpa [j6.id] using h1) h2
variable {fn:Func} {q q2 q3:ResultVar} {a b c:AV}
theorem a9H.r0 (h:fn.results = #[]):a9H P fn C σ H (.raw (.tuple #[])):=fun ρ I L hs=>⟨_,.r0 h,rfl⟩
theorem a9H.r1 (h:fn.results = #[q]) (h1:a4K P q C σ H a):a9H P fn C σ H a:=fun ρ I L hs=>by
 obtain⟨v,k1,k2⟩:=h1 ρ I L hs
 exact⟨v,.r1 h k1,k2⟩
theorem a9H.r2 (h:fn.results = #[q,q2]) (h1:a4K P q C σ H a) (h2:a4K P q2 C σ H b):a9H P fn C σ H (.t2 a b):=fun ρ I L hs=>by
 obtain⟨v,k1,k2⟩:=h1 ρ I L hs
 obtain⟨v2,l1,l2⟩:=h2 ρ I L hs
 exact⟨_,.r2 h k1 l1,v,v2,a8,k2,l2⟩
theorem a9H.r3 (h:fn.results = #[q,q2,q3]) (h1:a4K P q C σ H a) (h2:a4K P q2 C σ H b) (h3:a4K P q3 C σ H c):a9H P fn C σ H (.t3 a b c):=fun ρ I L hs=>by
 obtain⟨v,k1,k2⟩:=h1 ρ I L hs
 obtain⟨v2,l1,l2⟩:=h2 ρ I L hs
 obtain⟨v3,m1,m2⟩:=h3 ρ I L hs
 exact⟨_,.r3 h k1 l1 m1,v,v2,v3,a8,k2,l2,m2⟩
end
end Go.Ab
namespace Go.Ab
open Go.Fl Go.RowKit
open p2 (rep)
variable {P:Program} {C:Ctx} {N:Nat} {σ:x5} {H:j7} {K:AV→Prop} {d:Option Nat} {ty:TypeId} {ps:String} {af:Array Edge} {g:Option (Nat×Bool)}
variable {x y z:Operand} {T T2 E S D:TypeId}
theorem j5.vk {o:Oper} {r:AV} (k:K r) (h:∀ ρ I L,RSt C I L σ H ρ→I1 P N o ρ I L (fun v=>F8 I r v)):j5 P N C o σ H K := .H5 r h k
theorem j5.move {a:AV} (hx:D5 C σ H x a) (k:K a):j5 P N C ⟨d,.move x,ty,ps,af,g⟩ σ H K :=
 .H5 a (fun ρ I L hs=>by obtain⟨u,h1,h2⟩:=hx ρ I L hs;exact .move h1 h2) k
theorem j5.assign {a:AV} (hx:D5 C σ H x a) (k:K a):j5 P N C ⟨d,.assign x,ty,ps,af,g⟩ σ H K :=
 .H5 a (fun ρ I L hs=>by obtain⟨u,h1,h2⟩:=hx ρ I L hs;exact .assign h1 h2) k
theorem j5.M5 {b v:Bool} (hc:D5 C σ H x (.v b)) (hy:b=true→D5 C σ H y (.v v)) (k:K (.v (b&&v))):j5 P N C ⟨d,.pick x y (.const (.bool false)),ty,ps,af,g⟩ σ H K :=
 .H5 (.v (b&&v)) (fun ρ I L hs=>by
  cases b with
  | true=>obtain⟨w,h1,h2⟩:=hy rfl ρ I L hs;exact .c0T (hc.bool hs) h1 (by simpa using h2)
  | false=>exact .c0U (v := .bool false) (hc.bool hs) rfl ⟨_,rfl,rfl⟩) k
theorem j5.a1r {b v:Bool} (hc:D5 C σ H x (.v b)) (hz:b=false→D5 C σ H z (.v v)) (k:K (.v (b||v))):j5 P N C ⟨d,.pick x (.const (.bool true)) z,ty,ps,af,g⟩ σ H K :=
 .H5 (.v (b||v)) (fun ρ I L hs=>by
  cases b with
  | true=>exact .c0T (v := .bool true) (hc.bool hs) rfl ⟨_,rfl,rfl⟩
  | false=>obtain⟨w,h1,h2⟩:=hz rfl ρ I L hs;exact .c0U (hc.bool hs) h1 (by simpa using h2)) k
theorem j5.a7E {a b:AV} (hx:D5 C σ H x (.t2 a b)) (k:K a):j5 P N C ⟨d,.extract x 0,ty,ps,af,g⟩ σ H K :=
 .H5 a (fun ρ I L hs=>by obtain⟨u,h1,v,w,rfl,h3,h4⟩:=hx ρ I L hs;exact .extract h1 rfl h3) k
theorem j5.a7F {a b:AV} (hx:D5 C σ H x (.t2 a b)) (k:K b):j5 P N C ⟨d,.extract x 1,ty,ps,af,g⟩ σ H K :=
 .H5 b (fun ρ I L hs=>by obtain⟨u,h1,v,w,rfl,h3,h4⟩:=hx ρ I L hs;exact .extract h1 rfl h4) k
theorem j5.L7 {a b c:AV} (hx:D5 C σ H x (.t3 a b c)) (k:K a):j5 P N C ⟨d,.extract x 0,ty,ps,af,g⟩ σ H K :=
 .H5 a (fun ρ I L hs=>by obtain⟨u,h1,v,w,t,rfl,h3,h4,h5⟩:=hx ρ I L hs;exact .extract h1 rfl h3) k
theorem j5.L8 {a b c:AV} (hx:D5 C σ H x (.t3 a b c)) (k:K b):j5 P N C ⟨d,.extract x 1,ty,ps,af,g⟩ σ H K :=
 .H5 b (fun ρ I L hs=>by obtain⟨u,h1,v,w,t,rfl,h3,h4,h5⟩:=hx ρ I L hs;exact .extract h1 rfl h4) k
theorem j5.L9 {a b c:AV} (hx:D5 C σ H x (.t3 a b c)) (k:K c):j5 P N C ⟨d,.extract x 2,ty,ps,af,g⟩ σ H K :=
 .H5 c (fun ρ I L hs=>by obtain⟨u,h1,v,w,t,rfl,h3,h4,h5⟩:=hx ρ I L hs;exact .extract h1 rfl h5) k
section int
variable {m n:Int} (hx:D5 C σ H x (.v m)) (hy:D5 C σ H y (.v n))
include hx hy
theorem j5.add (h1 : -9223372036854775808≤m+n) (h2:m+n≤9223372036854775807) (k:K (.v (m+n))):j5 P N C ⟨d,.binOp .add T x y T2,ty,ps,af,g⟩ σ H K :=
 .vk k (fun ρ I L hs => .add (hx.int hs).1 (hy.int hs).1 h1 h2 ⟨_,⟨rfl,h1,h2⟩,rfl⟩)
theorem j5.sub (h1 : -9223372036854775808≤m - n) (h2:m - n≤9223372036854775807) (k:K (.v (m - n))):j5 P N C ⟨d,.binOp .sub T x y T2,ty,ps,af,g⟩ σ H K :=
 .vk k (fun ρ I L hs => .sub (hx.int hs).1 (hy.int hs).1 h1 h2 ⟨_,⟨rfl,h1,h2⟩,rfl⟩)
theorem j5.mul (h1 : -9223372036854775808≤m*n) (h2:m*n≤9223372036854775807) (k:K (.v (m*n))):j5 P N C ⟨d,.binOp .mul T x y T2,ty,ps,af,g⟩ σ H K :=
 .vk k (fun ρ I L hs => .mul (hx.int hs).1 (hy.int hs).1 h1 h2 ⟨_,⟨rfl,h1,h2⟩,rfl⟩)
theorem j5.quo (h0:0≤m) (h2:0 < n) (k:K (.v (m/n))):j5 P N C ⟨d,.binOp .quo T x y T2,ty,ps,af,g⟩ σ H K :=
 .vk k (fun ρ I L hs => .quo (hx.int hs).1 (hy.int hs).1 h0 (hx.int hs).2.2 h2 ⟨_,⟨rfl,by have:=Int.ediv_nonneg h0 (Int.le_of_lt h2);omega,by have:=Int.ediv_le_self n h0;have:=(hx.int hs).2.2;omega⟩,rfl⟩)
theorem j5.rem (h0:0≤m) (h2:0 < n) (k:K (.v (m % n))):j5 P N C ⟨d,.binOp .rem T x y T2,ty,ps,af,g⟩ σ H K :=
 .vk k (fun ρ I L hs => .rem (hx.int hs).1 (hy.int hs).1 h0 h2 ⟨_,⟨rfl,by have:=Int.emod_nonneg m (show n≠0 by omega);omega,by have:=Int.emod_lt_of_pos m h2;have:=(hy.int hs).2.2;omega⟩,rfl⟩)
theorem j5.tmod (hn:n≠0) (k:K (.v (m.tmod n))):j5 P N C ⟨d,.binOp .rem T x y T2,ty,ps,af,g⟩ σ H K :=
  .vk k (fun ρ I L hs => .tmod (hx.int hs).1 (hy.int hs).1 hn ⟨_, ⟨rfl, by
      have h1:=(hx.int hs).2
      have h3:(m.tmod n).natAbs≤m.natAbs:=by rw [Int.natAbs_tmod];exact Nat.mod_le _ _
      by_cases hm:0≤m
      · have:=Int.tmod_nonneg n hm;omega
      · omega,by
      have h1:=(hx.int hs).2
      have h3:(m.tmod n).natAbs≤m.natAbs:=by rw [Int.natAbs_tmod];exact Nat.mod_le _ _
      by_cases hm:0≤m
      · omega
      · have e:m.tmod n = -((-m).tmod n):=by rw [Int.neg_tmod];omega
        have:=Int.tmod_nonneg n (show 0 ≤ -m by omega)
        omega⟩,rfl⟩)
theorem j5.lss (k:K (.v (decide (m < n)))):j5 P N C ⟨d,.binOp .lss T x y T2,ty,ps,af,g⟩ σ H K :=
 .vk k (fun ρ I L hs => .lss (hx.int hs).1 (hy.int hs).1 ⟨_,rfl,rfl⟩)
theorem j5.leq (k:K (.v (decide (m≤n)))):j5 P N C ⟨d,.binOp .leq T x y T2,ty,ps,af,g⟩ σ H K :=
 .vk k (fun ρ I L hs => .leq (hx.int hs).1 (hy.int hs).1 ⟨_,rfl,rfl⟩)
theorem j5.gtr (k:K (.v (decide (n < m)))):j5 P N C ⟨d,.binOp .gtr T x y T2,ty,ps,af,g⟩ σ H K :=
 .vk k (fun ρ I L hs => .gtr (hx.int hs).1 (hy.int hs).1 ⟨_,rfl,rfl⟩)
theorem j5.geq (k:K (.v (decide (n≤m)))):j5 P N C ⟨d,.binOp .geq T x y T2,ty,ps,af,g⟩ σ H K :=
 .vk k (fun ρ I L hs => .geq (hx.int hs).1 (hy.int hs).1 ⟨_,rfl,rfl⟩)
theorem j5.a9p (k:K (.v (decide (m=n)))):j5 P N C ⟨d,.binOp .eql T x y T2,ty,ps,af,g⟩ σ H K :=
 .vk k (fun ρ I L hs => .a9p (hx.int hs).1 (hy.int hs).1 ⟨_,rfl,rfl⟩)
theorem j5.b0y (k:K (.v (decide (m≠n)))):j5 P N C ⟨d,.binOp .neq T x y T2,ty,ps,af,g⟩ σ H K :=
 .vk k (fun ρ I L hs => .b0y (hx.int hs).1 (hy.int hs).1 ⟨_,rfl,rfl⟩)
theorem j5.a5w {ts:Array TypeId} (k:K (.v (min m n))):j5 P N C ⟨d,.call ⟨.builtin .min,#[x,y],ts⟩,ty,ps,af,g⟩ σ H K :=
 .vk k (fun ρ I L hs => .a5w (hx.int hs).1 (hy.int hs).1 ⟨_,⟨rfl,by have:=(hx.int hs).2;have:=(hy.int hs).2;omega,by have:=(hx.int hs).2;omega⟩,rfl⟩)
theorem j5.a8i {ts:Array TypeId} (k:K (.v (max m n))):j5 P N C ⟨d,.call ⟨.builtin .max,#[x,y],ts⟩,ty,ps,af,g⟩ σ H K :=
 .vk k (fun ρ I L hs => .a8i (hx.int hs).1 (hy.int hs).1 ⟨_,⟨rfl,by have:=(hx.int hs).2;omega,by have:=(hx.int hs).2;have:=(hy.int hs).2;omega⟩,rfl⟩)
end int
theorem j5.neg {m:Int} (hx:D5 C σ H x (.v m)) (h1 : -9223372036854775807≤m) (k:K (.v (-m))):j5 P N C ⟨d,.unOp .neg T x,ty,ps,af,g⟩ σ H K :=
 .vk k (fun ρ I L hs => .neg (hx.int hs).1 ⟨h1,(hx.int hs).2.2⟩ ⟨_,⟨rfl,by have:=(hx.int hs).2;omega,by omega⟩,rfl⟩)
theorem j5.not {b:Bool} (hx:D5 C σ H x (.v b)) (k:K (.v (!b))):j5 P N C ⟨d,.unOp .not T x,ty,ps,af,g⟩ σ H K :=
 .vk k (fun ρ I L hs => .not (hx.bool hs) ⟨_,rfl,rfl⟩)
theorem b4f (m n:UInt8):decide ((m.toNat:Int) < n.toNat)=decide (m < n):=by simp [UInt8.lt_iff_toNat_lt]
theorem b4g (m n:UInt8):decide ((m.toNat:Int)=n.toNat)=decide (m=n):=by rw [decide_eq_decide,Int.ofNat_inj,UInt8.toNat_inj]
theorem b0U (m n:UInt64):decide ((m.toNat:Int)=n.toNat)=decide (m=n):=by rw [decide_eq_decide,Int.ofNat_inj,UInt64.toNat_inj]
theorem b0V (m n:UInt64):decide ((m.toNat:Int) < n.toNat)=decide (m < n):=by simp [UInt64.lt_iff_toNat_lt]
section by8
variable {m n:UInt8} (hx:D5 C σ H x (.v m)) (hy:D5 C σ H y (.v n))
include hx hy
theorem j5.c4k (k:K (.v (decide (m < n)))):j5 P N C ⟨d,.binOp .lss T x y T2,ty,ps,af,g⟩ σ H K :=
 .vk k (fun ρ I L hs => .lss (hx.by8 hs) (hy.by8 hs) ⟨_,rfl,by rw [b4f];rfl⟩)
theorem j5.c4l (k:K (.v (decide (n < m)))):j5 P N C ⟨d,.binOp .gtr T x y T2,ty,ps,af,g⟩ σ H K :=
 .vk k (fun ρ I L hs => .gtr (hx.by8 hs) (hy.by8 hs) ⟨_,rfl,by rw [b4f];rfl⟩)
theorem j5.c4m (k:K (.v (decide (m=n)))):j5 P N C ⟨d,.binOp .eql T x y T2,ty,ps,af,g⟩ σ H K :=
 .vk k (fun ρ I L hs => .a9p (hx.by8 hs) (hy.by8 hs) ⟨_,rfl,by rw [b4g];rfl⟩)
theorem j5.c4n (k:K (.v (decide (m≠n)))):j5 P N C ⟨d,.binOp .neq T x y T2,ty,ps,af,g⟩ σ H K :=
 .vk k (fun ρ I L hs => .b0y (hx.by8 hs) (hy.by8 hs) ⟨_,rfl,by simp only [ne_eq,decide_not,b4g];rfl⟩)
theorem j5.b8W (k:K (.v (m ^^^ n))):j5 P N C ⟨d,.binOp .xor T x y T2,ty,ps,af,g⟩ σ H K :=
 .vk k (fun ρ I L hs => .b8W (hx.by8 hs) (hy.by8 hs) ⟨_,rfl,rfl⟩)
theorem j5.or8 (k:K (.v (m ||| n))):j5 P N C ⟨d,.binOp .or T x y T2,ty,ps,af,g⟩ σ H K :=
 .vk k (fun ρ I L hs => .or8 (hx.by8 hs) (hy.by8 hs) ⟨_,rfl,rfl⟩)
end by8
section a0l
variable {m n:UInt64} (hx:D5 C σ H x (.v m)) (hy:D5 C σ H y (.v n))
include hx hy
theorem j5.b4h (k:K (.v (decide (m=n)))):j5 P N C ⟨d,.binOp .eql T x y T2,ty,ps,af,g⟩ σ H K :=
 .vk k (fun ρ I L hs => .a9p (hx.a0l hs) (hy.a0l hs) ⟨_,rfl,by rw [b0U];rfl⟩)
theorem j5.b4i (k:K (.v (decide (m≠n)))):j5 P N C ⟨d,.binOp .neq T x y T2,ty,ps,af,g⟩ σ H K :=
 .vk k (fun ρ I L hs => .b0y (hx.a0l hs) (hy.a0l hs) ⟨_,rfl,by simp only [ne_eq,decide_not,b0U];rfl⟩)
theorem j5.b6r (k:K (.v (m ||| n))):j5 P N C ⟨d,.binOp .or T x y T2,ty,ps,af,g⟩ σ H K :=
 .vk k (fun ρ I L hs => .b6r (hx.a0l hs) (hy.a0l hs) ⟨_,rfl,rfl⟩)
theorem j5.b6p (k:K (.v (m &&& n))):j5 P N C ⟨d,.binOp .and T x y T2,ty,ps,af,g⟩ σ H K :=
 .vk k (fun ρ I L hs => .b6p (hx.a0l hs) (hy.a0l hs) ⟨_,rfl,rfl⟩)
theorem j5.b6u (k:K (.v (m+n))):j5 P N C ⟨d,.binOp .add T x y T2,ty,ps,af,g⟩ σ H K :=
 .vk k (fun ρ I L hs => .b6u (hx.a0l hs) (hy.a0l hs) ⟨_,rfl,rfl⟩)
theorem j5.b3U (k:K (.v (m - n))):j5 P N C ⟨d,.binOp .sub T x y T2,ty,ps,af,g⟩ σ H K :=
 .vk k (fun ρ I L hs => .b3U (hx.a0l hs) (hy.a0l hs) ⟨_,rfl,rfl⟩)
end a0l
section conv
variable {ds:TypeDesc}
theorem j5.c1R {n:UInt8} (hS:P.underlying S=some ds) (hD:P.underlying D=some (.int .i64)) (hx:D5 C σ H x (.v n)) (k:K (.v (n.toNat:Int))):j5 P N C ⟨d,.convert S D x,ty,ps,af,g⟩ σ H K :=
 .vk k (fun ρ I L hs => .c2X hS hD (hx.by8 hs) (by have:=n.toNat_lt;omega) (by have:=n.toNat_lt;omega) ⟨_,⟨rfl,by have:=n.toNat_lt;omega,by have:=n.toNat_lt;omega⟩,rfl⟩)
theorem j5.b6v {n:Int} (hS:P.underlying S=some ds) (hD:P.underlying D=some (.int .u8)) (hx:D5 C σ H x (.v n)) (k:K (.v (UInt8.ofInt n))):j5 P N C ⟨d,.convert S D x,ty,ps,af,g⟩ σ H K :=
 .vk k (fun ρ I L hs => .b6v hS hD (hx.int hs).1 ⟨_,rfl,rfl⟩)
theorem j5.a1N {n:Int} (hS:P.underlying S=some ds) (hD:P.underlying D=some (.int .u64)) (hx:D5 C σ H x (.v n)) (k:K (.v (UInt64.ofInt n))):j5 P N C ⟨d,.convert S D x,ty,ps,af,g⟩ σ H K :=
 .vk k (fun ρ I L hs => .a1N hS hD (hx.int hs).1 ⟨_,rfl,rfl⟩)
end conv
theorem j5.len {α:Type} {r:p2 α} {l:List α} (hT:P.underlying T=some (.slice E)) (hx:D5 C σ H x (.v l)) (k:K (.v (l.length:Int))):j5 P N C ⟨d,.call ⟨.builtin .len,#[x],#[T]⟩,ty,ps,af,g⟩ σ H K :=
 .vk k (fun ρ I L hs=>by
  obtain⟨u,h1,xs,⟨a,c,rfl,_,h3,h4,_⟩,_⟩:=hx.sl hs
  exact .len hT h1 ⟨_,⟨rfl,by omega,by unfold maxLen at h4;omega⟩,rfl⟩)
theorem j5.b2N {α : Type} {r : p2 α} {t : Nat} {w : Value} {l : List α} {b : Bool} {F : Bool × D8 → j7} (hT : P.underlying T = some (.slice E)) (hx : F0 σ t = some (.raw w)) {E' : TypeId} (hH : y4 H (b, .own E' w l) F) (k : K (.v (l.length : Int))) :
    j5 P N C ⟨d,.call ⟨.builtin .len,#[.tmp t],#[T]⟩,ty,ps,af,g⟩ σ H K :=
  .vk k (fun ρ I L hs=>by
    obtain⟨u,h1,rfl⟩:=hs.env t _ hx
    obtain⟨i,X,h2,h3,_⟩:=hH.get hs.heap
    obtain⟨xs,ho,_⟩:=h3.1
    have hle:=ho.le
    obtain⟨a,c,rfl⟩:=ho.shape
    exact .len hT h1 ⟨_,⟨rfl,by omega,by omega⟩,rfl⟩)
theorem j5.c1s {s:T5} (hT:P.underlying T=some .string) (hx:D5 C σ H x (.v s)) (k:K (.v (s.l.length:Int))):j5 P N C ⟨d,.call ⟨.builtin .len,#[x],#[T]⟩,ty,ps,af,g⟩ σ H K :=
 .vk k (fun ρ I L hs=>by
  obtain⟨b,h1,h2⟩:=hx.str hs
  have hb:=hx.a8D hs
  have e:(b.size:Int)=(s.l.length:Int):=by rw [←h2];rfl
  exact .c1s hT h1 ⟨_,⟨congrArg (fun q => [i64 q]) e,by omega,by omega⟩,rfl⟩)
theorem a0O {xs:List Value} {k s i:Nat} {v:Value} (h:(H7 xs k s)[i]?=some v):xs[k+i]?=some v:=by
 simp only [H7,List.getElem?_take,List.getElem?_drop] at h
 split at h
 ·exact h
 ·cases h
theorem j5.idx {α : Type} {r : p2 α} {i : Inhabited α} {l : List α} {n : Int} (tE : F1 P E α) (hT : P.underlying T = some (.slice E)) (hx : D5 C σ H x (.v l)) (hy : D5 C σ H y (.v n)) (h0 : 0 ≤ n) (h1 : n < l.length)
    (k:K (.p (l[n.toNat]'(by omega)))):j5 P N C ⟨d,.indexAddr T x y,ty,ps,af,g⟩ σ H K :=
  .vk k (fun ρ I L hs=>by
    obtain⟨u,hu,xs,hsl,hl⟩:=hx.sl hs
    have hk:n.toNat < l.length:=by omega
    have hg:=hl.get n.toNat hk
    obtain⟨a,c,rfl,hlen,h3,h4,h5,h6⟩:=hsl
    have hz:xs ≠ []:=by
      intro hz
      have:=hl.len
      rw [hz] at this
      simp only [List.length_nil] at this
      rcases Nat.mul_eq_zero.1 this.symm with h|h
      · omega
      · exact tE.pos h
    obtain⟨b,o,rfl,hc⟩:=h6 hz
    exact .Z4 hT tE.size hu (hy.int hs).1 h0 h1 ⟨b,_,_,a8,hg,hc.sub (n.toNat*p2.size α) (fun i v hv=>a0O hv)⟩)
theorem b6Y (T:TypeId) (m:Int) (kd:IntKind) (n:Nat) (h:n < 64):binOp .shr T (i64 m) (.int kd (n:Int))=pure (i64 (m >>> n)):=by
 show Op.shift .shr .i64 m kd n=_
 unfold Op.shift
 rw [if_neg (by omega)]
 have e:min ((n:Int).toNat) (IntKind.bits .i64)=n:=by simp [IntKind.bits];omega
 show(pure (Value.int .i64 (Int.fdiv m (2^(min ((n:Int).toNat) (IntKind.bits .i64))))):Sem Value)=_
 rw [e,Int.shiftRight_eq_div_pow,Int.fdiv_eq_ediv_of_nonneg _ (Int.pow_nonneg (by omega))]
 rfl
end Go.Ab
namespace Go.Ab
open Go.Fl Go.RowKit
open p2 (rep)
variable {P:Program} {C:Ctx} {N:Nat} {σ:x5} {H:j7} {K:AV→Prop} {KH:AV→j7→Prop} {d:Option Nat} {ty:TypeId} {ps:String} {af:Array Edge} {g:Option (Nat×Bool)}
variable {x y z:Operand} {T T2 E S D:TypeId}
theorem j5.b9w {β : Type} {s : p2 β} {n : Nat} {ag : Bool} {a : K5 n β} {i : Int} (hf : K9 P T = some (n, p2.size β, ag)) (hx : D5 C σ H x (.p a)) (hy : D5 C σ H y (.v i)) (h0 : 0 ≤ i) (h1 : i < n)
    (k:K (.p (a.l[i.toNat]'(by rw [a.h];omega)))):j5 P N C ⟨d,.indexAddr T x y,ty,ps,af,g⟩ σ H K :=
  .vk k (fun ρ I L hs=>by
    obtain⟨u,h2,b,o,cs,rfl,h3,h4⟩:=hx ρ I L hs
    exact .C8 hf h2 (hy.int hs).1 h0 h1 ⟨b,_,_,a8,K4.get h3 i.toNat (by rw [a.h];omega),h4.sub (i.toNat*p2.size β) (fun j v hv=>a0O hv)⟩)
theorem j5.a2w {β : Type} {s : p2 β} {ib : Inhabited β} {t : Nat} {w : Value} {l : List β} {i : Int} {bb : Bool} {E' : TypeId} {F : Bool × D8 → j7} (tE : F1 P E β) (hT : P.underlying T = some (.slice E)) (hx : F0 σ t = some (.raw w)) (hH : y4 H (bb, .own E' w l) F)
    (hy:D5 C σ H y (.v i)) (h0:0≤i) (h1:i < l.length) (k:K (.el w i.toNat (j6.id (α:=β)))):j5 P N C ⟨d,.indexAddr T (.tmp t) y,ty,ps,af,g⟩ σ H K :=
  .vk k (fun ρ I L hs=>by
    obtain⟨u,h2,rfl⟩:=hs.env t _ hx
    obtain⟨j,X,h3,h4,_⟩:=hH.get hs.heap
    obtain⟨xs,ho,hl⟩:=h4.1
    rcases ho with ⟨_,h,_⟩|⟨b,c,sp,q,rfl,_⟩
    · omega
    · refine .Z4 hT tE.size h2 (hy.int hs).1 h0 h1 ⟨b,a8,?_⟩
      simp [j6.id])
theorem j5.c3c {α β γ : Type} {r : p2 α} {s : p2 β} {q : p2 γ} {i off sz : Nat} {ag : Bool} {w : Value} {l : j6 α β} (m : j6 β γ) (hf : p4 P T i = some (off, sz + 1, ag)) (ho : off = m.off) (hx : D5 C σ H x (.ln w l)) (k : K (.ln w (l.comp m))) :
    j5 P N C ⟨d,.fieldAddr T x i,ty,ps,af,g⟩ σ H K :=
  .vk k (fun ρ I L hs=>by
    obtain⟨u,h2,b,h3,rfl⟩:=hx ρ I L hs
    subst ho
    exact .fieldAddr hf h2 ⟨b,h3,a8⟩)
theorem j5.c1S {α β γ : Type} {r : p2 α} {s : p2 β} {q : p2 γ} {i off sz kk : Nat} {ag : Bool} {w : Value} {l : j6 α β} (m : j6 β γ) (hf : p4 P T i = some (off, sz + 1, ag)) (ho : off = m.off) (hx : D5 C σ H x (.el w kk l)) (k : K (.el w kk (l.comp m))) :
    j5 P N C ⟨d,.fieldAddr T x i,ty,ps,af,g⟩ σ H K :=
  .vk k (fun ρ I L hs=>by
    obtain⟨u,h2,b,h3,rfl⟩:=hx ρ I L hs
    subst ho
    exact .fieldAddr hf h2 ⟨b,h3,by simp [j6.comp,Nat.add_assoc]⟩)
theorem j5.c4o {β γ : Type} {s : p2 β} {q : p2 γ} {i off sz : Nat} {ag : Bool} {a : β} (m : j6 β γ) (hf : p4 P T i = some (off, sz + 1, ag)) (ho : off = m.off) (hx : D5 C σ H x (.p a)) (k : K (.p (m.get a))) :
    j5 P N C ⟨d,.fieldAddr T x i,ty,ps,af,g⟩ σ H K :=
  .vk k (fun ρ I L hs=>by
    obtain⟨u,h2,b,o,cs,rfl,h3,h4⟩:=hx ρ I L hs
    subst ho
    exact .fieldAddr hf h2 ⟨b,_,_,a8,m.a48 h3,h4.sub m.off (fun j v hv=>a0O hv)⟩)
theorem I1.a9K {ρ : Env} {I : Im} {L : Lh} {φ : Value → Prop} {α : Type} [p2 α] [Inhabited α] {I' : Im} {a : α} {vs : List Value} {b off : Nat} (tT : F1 P T α) (hx : ev ρ x = some (ptr b off)) (hr : rep I' a vs)
    (hc:∀ w,Mem I L w→∀ j v,vs[j]?=some v→w.cell? ⟨b,off+j,none⟩=some v) (k:φ (asV (p2.agg α) vs)):I1 P N ⟨d,.load T x,ty,ps,af,g⟩ ρ I L φ := .mk k fun ac w ha hm=>by
  obtain⟨dd,hd1,hd2⟩:=tT.kind
  cases hag:p2.agg α with
  | true =>
    have hs:D7 P T vs.length:=by rw [p2.len hr];exact tT.size
    simp [execOp,ha.ev hx,Fl.a5Z hd1 (hd2.trans hag) hs (hc w hm),asV]
  | false =>
    obtain⟨v,rfl,hv⟩:=a7i hr hag
    simp [execOp,ha.ev hx,Fl.run_load hd1 (hd2.trans hag) (show w.cell? ⟨b,off,none⟩=some v by simpa using hc w hm 0 v rfl),asV]
theorem j5.G8 {α:Type} {r:p2 α} {i:Inhabited α} {a:α} (tT:F1 P T α) (hx:D5 C σ H x (.p a)) (k:K (.v a)):j5 P N C ⟨d,.load T x,ty,ps,af,g⟩ σ H K :=
 .vk k (fun ρ I L hs=>by
  obtain⟨u,h2,b,o,cs,rfl,h3,h4⟩:=hx ρ I L hs
  exact I1.a9K tT h2 h3 (fun w hm j v hv=>h4.cell hm hv) ⟨cs,h3,rfl⟩)
theorem j5.ldL {α β : Type} {r : p2 α} {s : p2 β} {i : Inhabited β} {w : Value} {l : j6 α β} {a : α} {bb : Bool} {F : Bool × D8 → j7} (tT : F1 P T β) (hx : D5 C σ H x (.ln w l)) (hH : y4 H (bb, .ob w a) F) (k : K (.v (l.get a))) :
    j5 P N C ⟨d,.load T x,ty,ps,af,g⟩ σ H K :=
  .vk k (fun ρ I L hs=>by
    obtain⟨u,h2,b,h3,rfl⟩:=hx ρ I L hs
    obtain⟨j,X,h4,h5,_⟩:=hH.get hs.heap
    obtain⟨b2,T',cs,rfl,rfl,h6⟩:=h5.1
    cases h3
    exact I1.a9K tT h2 (l.a48 h6) (fun w hm j v hv=>by rw [Z5 hm h4];exact a0O hv) ⟨_,l.a48 h6,rfl⟩)
theorem j5.ldE {α β : Type} {r : p2 α} {s : p2 β} {i : Inhabited β} {w : Value} {l : j6 α β} {ags : List α} {kk : Nat} {bb : Bool} {E' : TypeId} {F : Bool × D8 → j7} (tT : F1 P T β) (hx : D5 C σ H x (.el w kk l)) (hH : y4 H (bb, .own E' w ags) F) (hk : kk < ags.length)
    (k:K (.v (l.get ags[kk]))):j5 P N C ⟨d,.load T x,ty,ps,af,g⟩ σ H K :=
  .vk k (fun ρ I L hs=>by
    obtain⟨u,h2,b,h3,rfl⟩:=hx ρ I L hs
    obtain⟨j,X,h4,h5,_⟩:=hH.get hs.heap
    obtain⟨xs,ho,h6⟩:=h5.1
    rcases ho with ⟨_,h,_⟩|⟨b2,c,sp,q,rfl,rfl,_⟩
    · omega
    · cases h3
      have hg:=l.a48 (h6.get kk hk)
      rw [a4H l.fits] at hg
      exact I1.a9K tT h2 hg (fun w hm j v hv=>by
        rw [a6I hm h4]
        have:=a0O hv
        rw [List.getElem?_append_left (List.getElem?_eq_some_iff.1 this).1];exact this) ⟨_,hg,rfl⟩)
theorem a2O {α:Type} [p2 α] {I:Im} {a:α} {vs:List Value} (h:rep I a vs):(asV (p2.agg α) vs).cells.toList=vs:=by
 cases hag:p2.agg α with
 | true=>simp [asV,Value.cells]
 | false =>
  obtain⟨v,rfl,hv⟩:=a7i h hag
  have h1:=p2.flat h
  simp only [a0A,List.all_cons,List.all_nil,Bool.and_true] at h1
  simp only [asV,List.headD_cons]
  cases v<;>first|rfl|(simp [Value.oneCell'] at h1)
theorem B3.stL {α β : Type} {r : p2 α} {s : p2 β} {i : Inhabited β} {w : Value} {l : j6 α β} {a : α} {c : β} {bb : Bool} {F : Bool × D8 → j7} (tT : F1 P T β) (hx : D5 C σ H x (.ln w l)) (hy : D5 C σ H y (.v c)) (hH : y4 H (bb, .ob w a) F)
    (k:KH .any (F (bb,.ob w (l.set c a)))):B3 P C N ⟨d,.store T x y,ty,ps,af,g⟩ σ H KH:=fun ρ I L hs=>by
  obtain⟨u,h2,b,h3,rfl⟩:=hx ρ I L hs
  obtain⟨u,h7,vs,h8,rfl⟩:=hy ρ I L hs
  obtain⟨j,X,h4,h5,h6⟩:=hH.get hs.heap
  obtain⟨b2,T',cs,rfl,rfl,h9⟩:=h5.1
  cases h3
  refine .store j (by rw [p2.len h8];exact tT.size) h2 h7 (a2O h8) (p2.flat h8) h4 (by rw [p2.len h8,p2.len h9];exact l.fits) ⟨Le.refl I,.any,_,trivial,h6 I (bb,.ob (ptr b 0) (l.set c a)) [(b,row (C9 cs l.off vs) T')] (Le.refl I) ⟨⟨b,T',_,a8,a8,l.a6f h9 h8⟩,fun hb p hp => ?_⟩,k⟩
  have:=h5.2 hb (b,row cs T') (by simp)
  simp only [List.mem_singleton] at hp
  subst hp;exact this
theorem B3.P7 {α : Type} {r : p2 α} {i : Inhabited α} {w : Value} {a c : α} {bb : Bool} {F : Bool × D8 → j7} (tT : F1 P T α) (hx : D5 C σ H x (.ln w (j6.id (α := α)))) (hy : D5 C σ H y (.v c)) (hH : y4 H (bb, .ob w a) F)
    (k:KH .any (F (bb,.ob w c))):B3 P C N ⟨d,.store T x y,ty,ps,af,g⟩ σ H KH := .stL tT hx hy hH k
theorem j5.Q6 {α : Type} {r : p2 α} {i : Inhabited α} {w : Value} {a : α} {bb : Bool} {F : Bool × D8 → j7} (tT : F1 P T α) (hx : D5 C σ H x (.ln w (j6.id (α := α)))) (hH : y4 H (bb, .ob w a) F) (k : K (.v a)) :
    j5 P N C ⟨d,.load T x,ty,ps,af,g⟩ σ H K := .ldL tT hx hH k
theorem OpS.c1T {ρ : Env} {I : Im} {L : Lh} {K : Value → Im → Lh → Prop} (i : Nat) {b off : Nat} {v : Value} {cs vs : List Value} {e : TypeId} {q : Nat × Nat} (hs : D7 P T vs.length) (hx : ev ρ x = some (ptr b off)) (hy : ev ρ y = some v) (hv : v.cells.toList = vs) (h1 : a0A vs = true)
    (hL:L[i]?=some [(b,.cells cs.toArray e q)]) (hq:∀ j,j < cs.length→¬(q.1≤j∧j < q.2)) (hle:off+vs.length≤cs.length) (k:K undef I (L.set i [(b,.cells (C9 cs off vs).toArray e q)])) :
    OpS P C N ⟨d,.store T x y,ty,ps,af,g⟩ ρ I L K:=fun a w ha hst=>by
  have hb:=hst.mem.loc (b,.cells cs.toArray e q) (F7 hL (by simp))
  have hvs:v.cells.size=vs.length:=by rw [←hv];simp
  have hall:∀ u∈vs,u.oneCell'=true:=fun u hu=>List.all_eq_true.1 h1 u hu
  have hrun:=Q5 P b off e q vs 0 cs.toArray w hb (by simpa using hle) hall (by simpa using hq)
  have hr:(execOp a.eval ⟨d,.store T x y,ty,ps,af,g⟩).run P w = .ok .skip (w.setRow b (C9 cs off vs).toArray):=by
    simp only [Nat.add_zero] at hrun
    simp [execOp,ha.ev hx,ha.ev hy,Instr.storeAt,Instr.sureAddr,storeVar,hs.run,hvs,hv,hrun,C9]
  rw [hr]
  exact⟨I,_,a7g hst hL _,k⟩
theorem B3.stE {α β : Type} {r : p2 α} {s : p2 β} {i : Inhabited β} {w : Value} {l : j6 α β} {ags : List α} {c : β} {kk : Nat} {bb : Bool} {E' : TypeId} {F : Bool × D8 → j7} (tT : F1 P T β) (hx : D5 C σ H x (.el w kk l)) (hy : D5 C σ H y (.v c))
    (hH:y4 H (bb,.own E' w ags) F) (hk:kk < ags.length) (k:KH .any (F (bb,.own E' w (ags.set kk (l.set c ags[kk]))))):B3 P C N ⟨d,.store T x y,ty,ps,af,g⟩ σ H KH:=fun ρ I L hs=>by
  obtain⟨u,h2,b,h3,rfl⟩:=hx ρ I L hs
  obtain⟨u,h7,vs,h8,rfl⟩:=hy ρ I L hs
  obtain⟨j,X,h4,h5,h6⟩:=hH.get hs.heap
  obtain⟨xs,ho,h9⟩:=h5.1
  rcases ho with ⟨_,h,_⟩|⟨b2,cc,sp,q,rfl,rfl,e1,e2,e3,e4,e5⟩
  · omega
  · cases h3
    have hfit:kk*p2.size α+l.off+vs.length≤xs.length:=by
      rw [p2.len h8,h9.len]
      have:=l.fits
      have h10:=Nat.mul_le_mul_right (p2.size α) (Nat.succ_le_of_lt hk)
      rw [Nat.succ_mul] at h10
      omega
    have hset:K4 I (ags.set kk (l.set c ags[kk])) (C9 xs (kk*p2.size α+l.off) vs):=by
      have h10:=h9.set kk hk (l.a6f (h9.get kk hk) h8)
      rw [a2u (by rw [p2.len h8];exact l.fits) (by
        rw [h9.len]
        have h11:=Nat.mul_le_mul_right (p2.size α) (Nat.succ_le_of_lt hk)
        rw [Nat.succ_mul] at h11
        omega)] at h10
      exact h10
    refine OpS.c1T j (by rw [p2.len h8];exact tT.size) h2 h7 (a2O h8) (p2.flat h8) h4 (fun i hi=>by rcases e5 with rfl|rfl<;>simp at hi ⊢ <;> omega) (by rw [List.length_append];omega) ?_
    have hseg:C9 (xs++sp) (kk*p2.size α+l.off) vs=C9 xs (kk*p2.size α+l.off) vs++sp:=a4E xs sp _ vs hfit
    have hlen:(C9 xs (kk*p2.size α+l.off) vs).length=xs.length:=Y4 _ _ _ hfit
    refine⟨Le.refl I,.any,_,trivial,h6 I (bb,.own E' _ (ags.set kk (l.set c ags[kk]))) _ (Le.refl I) ⟨⟨C9 xs (kk*p2.size α+l.off) vs,.inr ⟨b,cc,sp,q,?_,by rw [hseg],by rw [hlen,List.length_set];exact e1,by rw [List.length_append,hlen,←List.length_append];exact e2,by rw [List.length_set];exact e3,e4,?_⟩,hset⟩,fun hb p hp => ?_⟩,k⟩
    · rw [List.length_set]
    · rw [List.length_append,hlen,←List.length_append];exact e5
    · have:=h5.2 hb (b,.cells (xs++sp).toArray E' q) (by simp)
      simp only [List.mem_singleton] at hp
      subst hp;exact this
theorem B3.ofX {o:Oper} (h:∀ ρ I L,RSt C I L σ H ρ→OpX P N o ρ I L (fun v J X=>∃ r B Xc,X = [Xc]∧F8 J r v∧D8.a69 J B Xc∧KH r ((true,B)::H))):B3 P C N o σ H KH:=fun ρ I L hs a w ha hst =>
 (h ρ I L hs a w ha hst.mem).mono fun v w' ⟨J,X,hc,hle,hn,hm,hX,r,B,Xc,e,h1,h2,h3⟩=>by
  subst e
  exact⟨J,[Xc]++L,hst.step hc hle hn hm hX,hle,r,(true,B)::H,h1,⟨Xc,L,a8,⟨h2,fun _ p hp=>Nat.le_trans hst.chg.size (hX p (by simpa using hp))⟩,hs.heap.mono hle⟩,h3⟩
theorem B3.alloc {α:Type} {r:p2 α} {i:Inhabited α} (tT:F1 P T α) (k:∀ b,KH (.ln (ptr b 0) (j6.id (α:=α))) ((true,.ob (ptr b 0) (default:α))::H)):B3 P C N ⟨d,.alloc T,ty,ps,af,g⟩ σ H KH :=
 .ofX fun ρ I L hs=>by
  obtain⟨zs,h1,h2⟩:=tT.zero
  exact .alloc h1 fun b=>⟨.ln (ptr b 0) (j6.id (α:=α)),.ob (ptr b 0) (default:α),_,a8,⟨b,a8,a8⟩,⟨b,T,zs,a8,a8,h2 I⟩,k b⟩
theorem B3.box {α:Type} {r:p2 α} {a:α} (hx:D5 C σ H x (.v a)) (k:∀ b,KH (.ln (ptr b 0) (j6.id (α:=α))) ((true,.ob (ptr b 0) a)::H)):B3 P C N ⟨d,.box T x,ty,ps,af,g⟩ σ H KH :=
 .ofX fun ρ I L hs=>by
  obtain⟨u,h1,cs,h2,rfl⟩:=hx ρ I L hs
  exact .box h1 (a2O h2) fun b=>⟨.ln (ptr b 0) (j6.id (α:=α)),.ob (ptr b 0) a,_,a8,⟨b,a8,a8⟩,⟨b,T,cs,a8,a8,h2⟩,k b⟩
theorem j5.ix {β : Type} {s : p2 β} {n : Nat} {a : K5 n β} {i : Int} (hf : K9 P T = some (n, p2.size β, false)) (hb : p2.agg β = false) (hx : D5 C σ H x (.v a)) (hy : D5 C σ H y (.v i)) (h0 : 0 ≤ i) (h1 : i < n)
    (k:K (.v (a.l[i.toNat]'(by rw [a.h];omega)))):j5 P N C ⟨d,.index T x y,ty,ps,af,g⟩ σ H K :=
  .vk k (fun ρ I L hs=>by
    obtain⟨u,h2,cs,h3,rfl⟩:=hx ρ I L hs
    have hgs:=K4.get h3 i.toNat (by rw [a.h];omega)
    obtain⟨v,hv,hv2⟩:=a7i hgs hb
    refine .c1u hf h2 (hy.int hs).1 h0 h1 (v:=v) ?_ ⟨_,hgs,hv2.symm⟩
    have:(H7 cs (i.toNat*p2.size β) (p2.size β))[0]?=some v:=by rw [hv];rfl
    simpa using a0O this)
theorem j5.b4j {s:T5} {i:Int} (hT:P.underlying T=some .string) (hx:D5 C σ H x (.v s)) (hy:D5 C σ H y (.v i)) (h0:0≤i) (h1:i < s.l.length) (k:K (.v (s.l[i.toNat]'(by omega)))):j5 P N C ⟨d,.index T x y,ty,ps,af,g⟩ σ H K :=
 .vk k (fun ρ I L hs=>by
  obtain⟨b,h2,h3⟩:=hx.str hs
  obtain⟨h4,_⟩:=hy.int hs
  obtain⟨m,rfl⟩:=Int.eq_ofNat_of_zero_le h0
  refine .b6y hT h2 h4 (c:=s.l[m]'(by omega)) ?_ ⟨_,a8,a8⟩
  rw [h3]
  exact List.getElem?_eq_getElem _)
theorem K4.cut {α:Type} [p2 α] {I:Im} {l:List α} {xs:List Value} (h:K4 I l xs) (a b:Nat) (hb:b≤l.length):K4 I ((l.take b).drop a) ((xs.take (b*p2.size α)).drop (a*p2.size α)):=by
 have h1:K4 I (l.take b) (xs.take (b*p2.size α)):=by
  have h2:=h
  rw [←List.take_append_drop b l] at h2
  have:=h2.split.1
  rwa [List.length_take,Nat.min_eq_left hb] at this
 by_cases ha:a≤b
 ·have h2:=h1
  rw [←List.take_append_drop a (l.take b)] at h2
  have:=h2.split.2
  rwa [List.length_take,List.length_take,Nat.min_eq_left hb,Nat.min_eq_left ha] at this
 ·have e:(l.take b).drop a = []:=List.drop_eq_nil_of_le (by rw [List.length_take];omega)
  have e2:(xs.take (b*p2.size α)).drop (a*p2.size α) = []:=List.drop_eq_nil_of_le (by
   rw [List.length_take]
   exact Nat.le_trans (Nat.min_le_left _ _) (Nat.mul_le_mul_right _ (by omega)))
  rw [e,e2];rfl
theorem j5.sl {α : Type} {r : p2 α} {i0 : Inhabited α} {l : List α} {lo hi : Option Operand} (a b : Nat) (tE : F1 P E α) (hT : P.underlying T = some (.slice E)) (hx : D5 C σ H x (.v l))
    (hlo:(lo=none∧a=0)∨∃ o,lo=some o∧D5 C σ H o (.v (a:Int))) (hhi:(hi=none∧b=l.length)∨∃ o,hi=some o∧D5 C σ H o (.v (b:Int))) (h1:a≤b) (h2:b≤l.length)
    (k:K (.v ((l.take b).drop a))):j5 P N C ⟨d,.slice T x lo hi none,ty,ps,af,g⟩ σ H K :=
  .vk k (fun ρ I L hs=>by
    obtain⟨u,hu,xs,hsl,hl⟩:=hx.sl hs
    refine .slice hT tE.size hu hsl (l:=a) (h:=b) ?_ ?_ h1 h2 (fun v' hv' => ?_)
    · rcases hlo with ⟨rfl,rfl⟩|⟨o,rfl,ho⟩
      · exact .inl ⟨a8,a8⟩
      · exact .inr ⟨_,o,a8,(ho.int hs).1⟩
    · rcases hhi with ⟨rfl,rfl⟩|⟨o,rfl,ho⟩
      · exact .inl ⟨a8,a8⟩
      · exact .inr ⟨_,o,a8,(ho.int hs).1⟩
    · refine⟨_,⟨v',a8,_,?_,hl.cut a b h2⟩,a8⟩
      have e:((l.take b).drop a).length=b - a:=by simp [Nat.min_eq_left h2]
      rw [e];exact hv')
section sl
variable {α:Type} {r:p2 α} {i0:Inhabited α} {l:List α} {i j:Int} (tE:F1 P E α) (hT:P.underlying T=some (.slice E)) (hx:D5 C σ H x (.v l))
include tE hT hx
theorem j5.c1U (hy:D5 C σ H y (.v i)) (h0:0≤i) (h1:i≤l.length) (k:K (.v (l.drop i.toNat))):j5 P N C ⟨d,.slice T x (some y) none none,ty,ps,af,g⟩ σ H K :=
 .sl i.toNat l.length tE hT hx (.inr ⟨y,rfl,by rw [Int.toNat_of_nonneg h0];exact hy⟩) (.inl ⟨rfl,rfl⟩) (by omega) (Nat.le_refl _) (by rw [List.take_length];exact k)
theorem j5.c3d (hz:D5 C σ H z (.v j)) (h0:0≤j) (h1:j≤l.length) (k:K (.v (l.take j.toNat))):j5 P N C ⟨d,.slice T x none (some z) none,ty,ps,af,g⟩ σ H K :=
 .sl 0 j.toNat tE hT hx (.inl ⟨rfl,rfl⟩) (.inr ⟨z,rfl,by rw [Int.toNat_of_nonneg h0];exact hz⟩) (by omega) (by omega) (by rw [List.drop_zero];exact k)
theorem j5.c3e (hy:D5 C σ H y (.v i)) (hz:D5 C σ H z (.v j)) (h0:0≤i) (h1:i≤j) (h2:j≤l.length) (k:K (.v ((l.take j.toNat).drop i.toNat))):j5 P N C ⟨d,.slice T x (some y) (some z) none,ty,ps,af,g⟩ σ H K :=
 .sl i.toNat j.toNat tE hT hx (.inr ⟨y,rfl,by rw [Int.toNat_of_nonneg h0];exact hy⟩) (.inr ⟨z,rfl,by rw [Int.toNat_of_nonneg (by omega)];exact hz⟩) (by omega) (by omega) k
end sl
theorem j5.b6Z {α β:Type} {n:Nat} {r:p2 α} {s:p2 β} {ag:Bool} {w:Value} {l:j6 α (K5 n β)} (hf:K9 P T=some (n,p2.size β,ag)) (hx:D5 C σ H x (.ln w l)) (k:K (.sv w l)):j5 P N C ⟨d,.slice T x none none none,ty,ps,af,g⟩ σ H K :=
 .vk k (fun ρ I L hs=>by
  obtain⟨u,h2,b,h3,rfl⟩:=hx ρ I L hs
  exact .a7v hf h2 ⟨b,h3,a8⟩)
theorem j5.V3 {β:Type} {n:Nat} {s:p2 β} {ag:Bool} {a:K5 n β} (hn:n≤9223372036854775807) (hf:K9 P T=some (n,p2.size β,ag)) (hx:D5 C σ H x (.p a)) (k:K (.v a.l)):j5 P N C ⟨d,.slice T x none none none,ty,ps,af,g⟩ σ H K :=
 .vk k (fun ρ I L hs=>by
  obtain⟨u,h2,b,o,cs,rfl,h3,h4⟩:=hx ρ I L hs
  refine .a7v hf h2 ⟨_,⟨_,a8,cs,?_,h3⟩,a8⟩
  have hl:=h3.len
  rw [a.h] at hl ⊢
  exact Sl.a3N h4 hl (Nat.le_refl _) (by unfold maxLen;omega))
end Go.Ab
namespace Go.Ab
open Go.Fl Go.RowKit
open p2 (rep)
variable {P:Program} {C:Ctx} {N:Nat} {σ:x5} {H:j7} {K:AV→Prop} {KH:AV→j7→Prop} {d:Option Nat} {ty:TypeId} {ps:String} {af:Array Edge} {g:Option (Nat×Bool)}
variable {x y z:Operand} {T T2 E S D U:TypeId}
inductive a7G {α:Type} [p2 α] (C:Ctx) (σ:x5) (H:j7) (place:Nat→Option (Nat×Nat)):List (Nat×Operand)→α→α→Prop
 | nil {x:α}:a7G C σ H place [] x x
 | cons {i:Nat} {o:Operand} {γ:Type} {q:p2 γ} {r:List (Nat×Operand)} {x y:α} (m:j6 α γ) (c:γ) (hi:place i=some (m.off,p2.size γ)) (ho:D5 C σ H o (.v c)) (t:a7G C σ H place r (m.set c x) y):a7G C σ H place ((i,o)::r) x y
theorem a7G.run {α : Type} [p2 α] {place : Nat → Option (Nat × Nat)} {ρ : Env} {I : Im} {L : Lh} (hs : RSt C I L σ H ρ) {ps : List (Nat × Operand)} {x y : α} (h : a7G C σ H place ps x y) : ∀ {cells : Array Value}, rep I x cells.toList →
    ∃ pv out,evP ρ ps=some pv∧Instr.fill place cells pv=some out∧rep I y out.toList:=by
  induction h with
  | nil=>intro cells hc;exact⟨[],cells,rfl,rfl,hc⟩
  | @cons i o γ q r x y m c hi ho t ih =>
    intro cells hc
    obtain⟨u,h1,vs,h2,rfl⟩:=ho ρ I L hs
    have hcv:=a2O h2
    have hsz:(asV (p2.agg γ) vs).cells.size=p2.size γ:=by have:=congrArg List.length hcv;rw [p2.len h2] at this;simpa using this
    have hcl:cells.size=p2.size α:=by have:=p2.len hc;simpa using this
    have hfit:=m.fits
    have hseg:=b0E (cells:=cells) (vs:=(asV (p2.agg γ) vs).cells) (off:=m.off) (by rw [hsz,hcl];exact hfit)
    rw [hcv] at hseg
    obtain⟨pv,out,h3,h4,h5⟩:=ih (cells:=(asV (p2.agg γ) vs).cells.zipIdx.foldl (fun cs (c,j)=>cs.setIfInBounds (m.off+j) c) cells) (by rw [hseg];exact m.a6f hc h2)
    refine⟨(i,asV (p2.agg γ) vs)::pv,out,by simp [evP,h1,h3],?_,h5⟩
    simp only [Instr.fill,hi]
    rw [if_neg (by simp only [hsz,ne_eq,not_true,hcl,gt_iff_lt];simp;omega)]
    exact h4
theorem b7a {offs:List (Nat×Nat)} (hT:D2 P T=some offs) (w:World):∃ fs,P.underlying T=some (.struct fs)∧(fs.mapM fun f=>(do pure (f.offset,←sizeOf f.type):Sem (Nat×Nat))).run P w = .ok offs.toArray w:=by
  unfold D2 at hT
  split at hT
  · rename_i fs hu
    have hpl : ∀ (l : List Field) (o : List (Nat × Nat)), (l.mapM fun f => (P.info? f.type).map fun i => (f.offset, i.size)) = some o →
        (l.mapM fun f=>(do pure (f.offset,←sizeOf f.type):Sem (Nat×Nat))).run P w = .ok o w:=by
      intro l
      induction l with
      | nil=>intro o h;simp at h;subst h;simp
      | cons f r ih =>
        intro o h
        rw [List.mapM_cons] at h
        cases hq:P.info? f.type with
        | none=>simp [hq] at h
        | some inf =>
          cases hr:(r.mapM fun f=>(P.info? f.type).map fun i=>(f.offset,i.size)) with
          | none=>simp [hq,hr] at h
          | some o' =>
            simp [hq,hr] at h
            subst h
            have hsz:D7 P f.type inf.size:=by simp [D7,hq]
            rw [List.mapM_cons,Sem.run_bind,Sem.run_bind,hsz.run]
            simp only [Result.andThen_ok,Sem.run_pure,Sem.run_bind]
            rw [ih o' hr]
            simp
    refine⟨fs,hu,?_⟩
    rw [Array.mapM_eq_mapM_toList,map_eq_pure_bind,Sem.run_bind,hpl fs.toList offs hT]
    simp
  · cases hT
theorem j5.a6i {α : Type} {r : p2 α} {i0 : Inhabited α} {offs : List (Nat × Nat)} {parts : Array (Nat × Operand)} {a : α} (c : α) (hg : p2.agg α = true) (tT : F1 P T α) (hT : D2 P T = some offs) (hp : a7G C σ H (fun i => offs[i]?) parts.toList (default : α) a) (e : a = c) (k : K (.v c)) :
    j5 P N C ⟨d,.build T parts,ty,ps,af,g⟩ σ H K:=by
  subst e
  exact .vk k (fun ρ I L hs=>by
    obtain⟨zs,hz1,hz2⟩:=tT.zero
    intro ac w ha hm
    obtain⟨zv,h1,h2⟩:=a2L hz1 w
    obtain⟨pv,out,h3,h4,h5⟩:=hp.run hs (cells:=zv.cells) (by rw [h2];exact hz2 I)
    have hparts:(parts.map fun x=>(x.1,ac.eval x.2)).toList=pv:=by rw [Array.toList_map];exact ha.evP h3
    obtain⟨fs,hu,h6⟩:=b7a hT w
    refine⟨.agg out,⟨out.toList,h5,by rw [hg];rfl⟩,?_⟩
    have e1:(fun (i:Nat)=>offs.toArray[i]?)=fun (i:Nat)=>offs[i]?:=by funext i;simp
    simp only [execOp,Instr.build,Sem.run_bind,h1,Result.andThen_ok,run_underlying hu,h6,hparts,Sem.run_pure,e1,h4])
theorem j5.U1 {β : Type} {n : Nat} {r : p2 β} {i0 : Inhabited β} {ag : Bool} {parts : Array (Nat × Operand)} {a : K5 n β} (c : K5 n β) (tT : F1 P T (K5 n β)) (hT : K9 P T = some (n, p2.size β, ag)) (hp : a7G C σ H (fun i => some (i * p2.size β, p2.size β)) parts.toList (default : K5 n β) a) (e : a = c) (k : K (.v c)) :
    j5 P N C ⟨d,.build T parts,ty,ps,af,g⟩ σ H K:=by
  subst e
  exact .vk k (fun ρ I L hs=>by
    obtain⟨zs,hz1,hz2⟩:=tT.zero
    intro ac w ha hm
    obtain⟨zv,h1,h2⟩:=a2L hz1 w
    obtain⟨pv,out,h3,h4,h5⟩:=hp.run hs (cells:=zv.cells) (by rw [h2];exact hz2 I)
    have hparts:(parts.map fun x=>(x.1,ac.eval x.2)).toList=pv:=by rw [Array.toList_map];exact ha.evP h3
    unfold K9 at hT
    split at hT
    · rename_i m e hu
      split at hT
      · rename_i inf dd h6 h7
        simp only [Option.some.injEq,Prod.mk.injEq] at hT
        obtain⟨rfl,h8,_⟩:=hT
        have hsz:D7 P e (p2.size β):=by simp [D7,h6,h8]
        refine⟨.agg out,⟨out.toList,h5,a8⟩,?_⟩
        simp only [execOp,Instr.build,Sem.run_bind,h1,Result.andThen_ok,run_underlying hu,hsz.run,hparts,h4,Sem.run_pure]
      · cases hT
    · cases hT)
inductive a6J {α:Type} [p2 α] (C:Ctx) (σ:x5) (H:j7):Nat→List (Nat×Operand)→List α→Prop
 | nil {i:Nat}:a6J C σ H i [] []
 | cons {i:Nat} {o:Operand} {c:α} {r:List (Nat×Operand)} {l:List α} (ho:D5 C σ H o (.v c)) (t:a6J C σ H (i+1) r l):a6J C σ H i ((i,o)::r) (c::l)
theorem a6J.run {α:Type} [p2 α] {ρ:Env} {I:Im} {L:Lh} (hs:RSt C I L σ H ρ) {i:Nat} {ps:List (Nat×Operand)} {l:List α} (h:a6J C σ H i ps l):∃ pv vs,evP ρ ps=some pv∧S5 (p2.size α) i pv=some vs∧K4 I l vs:=by
 induction h with
 | nil=>exact⟨[],[],rfl,rfl,rfl⟩
 | @cons i o c r l ho t ih =>
  obtain⟨u,h1,cs,h2,rfl⟩:=ho ρ I L hs
  obtain⟨pv,vs,h3,h4,h5⟩:=ih
  have hcv:=a2O h2
  have hsz:(asV (p2.agg α) cs).cells.size=p2.size α:=by have:=congrArg List.length hcv;rw [p2.len h2] at this;simpa using this
  refine⟨(i,asV (p2.agg α) cs)::pv,cs++vs,by simp [evP,h1,h3],?_,cs,vs,rfl,h2,h5⟩
  have b1:Nat.beq i i=true:=Nat.beq_refl i
  simp only [S5,hsz,b1,Nat.beq_refl,Bool.and_self,cond_true,h4,Option.map_some,hcv]
theorem B3.buildSlice {α : Type} {r : p2 α} {i0 : Inhabited α} {n : Nat} {l : List α} {parts : Array (Nat × Operand)} (tE : F1 P E α) (hT : P.underlying T = some (.slice E)) (hp : a6J C σ H 0 parts.toList l) (hn : l.length = n) (hb : n * p2.size α ≤ 16777216)
    (k:∀ b,KH (.raw (slc b 0 n n)) ((true,.own E (slc b 0 n n) l)::H)):B3 P C N ⟨d,.buildSlice T n parts,ty,ps,af,g⟩ σ H KH :=
  .ofX fun ρ I L hs=>by
    obtain⟨zs,hz1,hz2⟩:=tE.zero
    obtain⟨pv,vs,h1,h2,h3⟩:=hp.run hs
    subst hn
    have hl:=h3.len
    refine .buildSlice hT tE.size hz1 (p2.len (hz2 I)) h1 h2 hl hb fun b=>⟨.raw (slc b 0 l.length l.length),.own E (slc b 0 l.length l.length) l,_,a8,a8,⟨vs,.of (.made hl ?_),h3⟩,k b⟩
    have:1≤p2.size α:=Nat.one_le_iff_ne_zero.2 tE.pos
    have:=Nat.mul_le_mul_left l.length this
    unfold maxLen;omega
structure SlT (P:Program) (T E:TypeId) (α:Type) (by_:Nat) [p2 α] [Inhabited α]:Prop where
 elt:Elt P T E (p2.size α) by_
 ty:F1 P E α
theorem a8m {zs:List Value} {n:Nat} (h:zs.length≠0):madeCells zs.toArray (n*zs.length)=(List.replicate n zs).flatten.toArray:=by
 apply Array.ext'
 apply List.ext_getElem?
 intro i
 unfold madeCells
 simp only [Array.toList_map,Array.toList_range,List.getElem?_map,List.size_toArray]
 by_cases hi:i < n*zs.length
 ·rw [List.getElem?_range hi]
  have hm:i % zs.length < zs.length:=Nat.mod_lt _ (by omega)
  simp only [Option.map_some]
  have key:∀ (n i:Nat),i < n*zs.length→(List.replicate n zs).flatten[i]?=zs[i % zs.length]?:=by
   intro n
   induction n with
   | zero=>intro i hi;simp at hi
   | succ n ih =>
    intro i hi
    rw [List.replicate_succ,List.flatten_cons]
    by_cases h1:i < zs.length
    ·rw [List.getElem?_append_left h1,Nat.mod_eq_of_lt h1]
    ·rw [List.getElem?_append_right (by omega),ih (i - zs.length) (by rw [Nat.succ_mul] at hi;omega)]
     exact congrArg (fun q=>zs[q]?) (Nat.mod_eq_sub_mod (by omega)).symm
  rw [key n i hi]
  simp [hm]
 ·have hf:((List.replicate n zs).flatten).length=n*zs.length:=by simp
  rw [List.getElem?_eq_none (by simp;omega),List.getElem?_eq_none (by rw [hf];omega)]
  rfl
theorem B3.make {α : Type} {r : p2 α} {i0 : Inhabited α} {by_ : Nat} {i : Int} (st : SlT P T E α by_) (hx : D5 C σ H x (.v i)) (h0 : 0 ≤ i) (hb : (by_ : Int) * i ≤ 281474976710656) (hn : i ≤ 9223372036854775807)
    (k:∀ b,KH (.raw (slc b 0 i.toNat i.toNat)) ((true,.own E (slc b 0 i.toNat i.toNat) (List.replicate i.toNat (default:α)))::H)):B3 P C N ⟨d,.makeSlice T x x,ty,ps,af,g⟩ σ H KH :=
  .ofX fun ρ I L hs=>by
    obtain⟨inf,zv,h1,h2,h3,h4,h5⟩:=st.elt.info
    obtain⟨zs,hz1,hz2⟩:=st.ty.zero
    have hze:zs=zv.cells.toList:=by
      have:W6 P E=some zv.cells.toList:=by simp [W6,h1,h2]
      rw [this] at hz1;exact(Option.some.inj hz1).symm
    have hzl:zs.length=p2.size α:=p2.len (hz2 I)
    have hrep:K4 I (List.replicate i.toNat (default:α)) (List.replicate i.toNat zs).flatten:=a0m (hz2 I) i.toNat
    obtain⟨hxi,_⟩:=hx.int hs
    refine a7e (v:=fun b=>slc b 0 i.toNat i.toNat) (cs:=(List.replicate i.toNat zs).flatten) (e:=E) (fun a w ha hm => ?_)
      fun b=>⟨.raw (slc b 0 i.toNat i.toNat),.own E (slc b 0 i.toNat i.toNat) (List.replicate i.toNat (default:α)),_,rfl,rfl,⟨_,.of ?_,hrep⟩,k b⟩
    · have h:=run_make (P:=P) w T E inf zv st.elt.und h1 h2 .i64 .i64 i i h0 (Int.le_refl _) (by rw [h4];exact hb) hn
      simp only [execOp,Sem.run_bind,ha.ev hxi,h,Result.andThen_ok,Sem.run_pure]
      have e1:madeCells zv.cells (i.toNat*inf.size)=(List.replicate i.toNat zs).flatten.toArray:=by
        have:=a8m (zs:=zs) (n:=i.toNat) (by rw [hzl];exact st.ty.pos)
        rw [hze] at this ⊢
        rw [←this,h3,←hzl,hze]
      rw [e1]
    · have:=Own.made (e:=E) (s:=p2.size α) (b:=b) (n:=i.toNat) (xs:=(List.replicate i.toNat zs).flatten) (by simp [hzl]) (by unfold maxLen;omega)
      simpa using this
theorem SlT.pos {α:Type} [p2 α] [Inhabited α] {by_:Nat} (st:SlT P T E α by_):0 < p2.size α:=Nat.pos_of_ne_zero st.ty.pos
def a8n (P:Program) (C:Ctx) (σ:x5) (H:j7) (y:Operand) {α:Type} [p2 α] (m:List α):Prop:=∀ ρ I L,RSt C I L σ H ρ→∃ u news,ev ρ y=some u∧Src P I L (p2.size α) u m.length news∧K4 I m news
theorem a8n.v {α:Type} {r:p2 α} {m:List α} (h:D5 C σ H y (.v m)):a8n P C σ H y m:=fun ρ I L hs=>by
 obtain⟨u,h1,xs,h2,h3⟩:=h.sl hs
 exact⟨u,xs,h1,.sl h2,h3⟩
theorem a8n.own {α:Type} {r:p2 α} {t:Nat} {w:Value} {m:List α} {bb:Bool} {E':TypeId} {F:Bool×D8→j7} (ht:F0 σ t=some (.raw w)) (hH:y4 H (bb,.own E' w m) F):a8n P C σ H (.tmp t) m:=fun ρ I L hs=>by
 obtain⟨u,h1,rfl⟩:=hs.env t _ ht
 obtain⟨j,X,h2,h3,_⟩:=hH.get hs.heap
 obtain⟨xs,h4,h5⟩:=h3.1
 exact⟨_,xs,h1,Ab.Src.c3a j h2 h4,h5⟩
theorem B3.append {α : Type} {r : p2 α} {i0 : Inhabited α} {by_ t : Nat} {w : Value} {l m : List α} {bb : Bool} {F : Bool × D8 → j7} (st : SlT P T E α by_) (hU : (∃ E2, P.underlying U = some (.slice E2)) ∨ P.underlying U = some .string) (hx : F0 σ t = some (.raw w))
    (hH:y4 H (bb,.own E w l) F) (hy:a8n P C σ H y m) (hb:(l.length+m.length)*by_≤140737488355328) (hn:l.length+m.length≤9223372036854775807) (k:∀ w',KH (.raw w') (F (true,.own E w' (l++m)))) (hbb:bb=true) :
    B3 P C N ⟨d,.call ⟨.builtin .append,#[.tmp t,y],#[T,U]⟩,ty,ps,af,g⟩ σ H KH:=fun ρ I L hs=>by
  obtain⟨u,h1,rfl⟩:=hs.env t _ hx
  obtain⟨v,news,h2,h3,h4⟩:=hy ρ I L hs
  obtain⟨j,X,h5,h6,h7⟩:=hH.get hs.heap
  obtain⟨xs,h8,h9⟩:=h6.1
  intro a w0 ha hst
  have hfr:=h6.2 hbb
  refine Yld.mono (OpS.b4e (K:=fun v' J L'=>∃ X',L'=L.set j X'∧J=I∧a1c E (p2.size α) v' (l.length+m.length) (xs++news) X'∧(∀ p∈X',p.1∈X.map Prod.fst∨C.w0.heap.size≤p.1)) j st.elt st.pos hU (x := .tmp t) h1 h2 h5 h8 h3 h4.flat (by unfold maxLen;omega) hb (fun v' X' ho hn=>⟨X',rfl,rfl,ho,hn⟩) a w0 ha hst) ?_
  rintro v' w' ⟨J,L',hst',X',rfl,rfl,ho,hnew⟩
  refine⟨J,_,hst',Le.refl J,.raw v',_,rfl,h7 J (true,.own E v' (l++m)) X' (Le.refl J) ⟨⟨xs++news,by rw [List.length_append];exact ho,h9.append h4⟩,fun _ p hp => ?_⟩,k v'⟩
  rcases hnew p hp with h|h
  · obtain⟨q,hq,hqe⟩:=List.mem_map.1 h
    rw [←hqe];exact hfr q hq
  · exact h
theorem OpX.push {ρ : Env} {I : Im} {L : Lh} {KX : Value → Im → Lh → Prop} {o : Oper} (h : ∀ a w, Fits N ρ a → Mem I L w → (∃ v, (execOp a.eval o).run P w = .ok (.value v) w ∧ KX v I []) ∨
    ∃ v w' ob,(execOp a.eval o).run P w = .ok (.value v) w'∧w'.heap=w.heap.push ob∧w'.os=w.os∧w'.tape=w.tape∧w'.output=w.output∧KX v I [[(w.heap.size,ob)]]):OpX P N o ρ I L KX:=fun a w ha hm=>by
  rcases h a w ha hm with ⟨v,hr,hk⟩|⟨v,w',ob,hr,hw,h1,h2,h3,hk⟩
  · rw [hr];exact⟨I,[],Chg.refl _ _,Le.refl _,fun b h0 h1=>absurd h0 h1,hm,by simp,hk⟩
  · rw [hr]
    have hnI:I w.heap.size=none:=by
      cases hi:I w.heap.size with
      | none=>rfl
      | some o=>have:=C6 (hm.im _ _ hi);omega
    have hnew:w'.heap[w.heap.size]?=some ob:=by rw [hw];simp
    have hold:∀ k,k < w.heap.size→w'.heap[k]?=w.heap[k]?:=fun k hk=>by
      rw [hw,Array.getElem?_push_lt hk,Array.getElem?_eq_getElem hk]
    refine⟨I,[[(w.heap.size,ob)]],⟨h1,h2,h3,by rw [hw];simp,fun k hk _=>hold k hk⟩,Le.refl I,fun b h0 h1=>absurd h0 h1,⟨fun b o hb => ?_,fun p hp => ?_,fun p hp => ?_,?_⟩,?_,hk⟩
    · exact(hold b (C6 (hm.im b o hb))).trans (hm.im b o hb)
    · simp only [List.cons_append,List.nil_append,List.flatten_cons,List.mem_cons] at hp
      rcases hp with rfl|hp
      · exact hnew
      · exact(hold _ (C6 (hm.loc p hp))).trans (hm.loc p hp)
    · simp only [List.cons_append,List.nil_append,List.flatten_cons,List.mem_cons] at hp
      rcases hp with rfl|hp
      · exact hnI
      · exact hm.sep p hp
    · simp only [List.cons_append,List.nil_append,List.flatten_cons,List.map_cons,List.nodup_cons,List.mem_map,not_exists,not_and]
      refine⟨fun p hp e => ?_,hm.nodup⟩
      have:=C6 (hm.loc p hp)
      omega
    · intro p hp;simp at hp;subst hp;exact Nat.le_refl _
theorem j5.Y9 {α : Type} {r : p2 α} {i0 : Inhabited α} {by_ : Nat} {l m : List α} (st : SlT P T E α by_) (hU : (∃ E2, P.underlying U = some (.slice E2)) ∨ P.underlying U = some .string) (hx : D5 C σ H x (.vc l)) (hy : a8n P C σ H y m)
    (hb:(l.length+m.length)*by_≤140737488355328) (hn:l.length+m.length≤9223372036854775807) (k:K (.v (l++m))):j5 P N C ⟨d,.call ⟨.builtin .append,#[x,y],#[T,U]⟩,ty,ps,af,g⟩ σ H K:=fun ρ I L hs=>by
  obtain⟨u,h1,⟨a0,rfl⟩,xs,hsl,hrl⟩:=hx ρ I L hs
  obtain⟨v,news,h2,h3,h4⟩:=hy ρ I L hs
  obtain⟨inf,zv,e1,e2,e3,e4,e5⟩:=st.elt.info
  refine OpX.frz (OpX.push fun a w ha hm => ?_)
  have hcells:∀ w',w'.heap=w.heap→(Builtin.firstCells inf.size m.length v).run P w' = .ok news.toArray w':=fun w' hw=>by
    have hm':Mem I L w':=⟨by rw [hw];exact hm.im,by rw [hw];exact hm.loc,hm.sep,hm.nodup⟩
    have:=h3.cells w' hm' m.length (Nat.le_refl _)
    rw [←h3.size,List.take_length,←e3] at this;exact this
  have hboth:(l.length+m.length≤l.length→(Builtin.append_ #[T,U] ty #[.slice a0 l.length l.length,v]).run P w=((match a0 with|some ad=>storeCells (ad.add (l.length*inf.size)) news|none=>pure ()).run P w).andThen fun _ w' => .ok (.slice a0 (l.length+m.length) l.length) w') ∧
    (l.length < l.length+m.length→∀ olds,((Builtin.firstCells inf.size l.length (.slice a0 l.length l.length)).run P w.drew = .ok olds w.drew) →
      (Builtin.append_ #[T,U] ty #[.slice a0 l.length l.length,v]).run P w = .ok (.slice (some ⟨w.heap.size,0,none⟩) (l.length+m.length) (grownCap w (l.length+m.length) l.length E))
        (w.drew.alloc (.cells (olds++news.toArray++Builtin.zeroCells zv.cells (grownCap w (l.length+m.length) l.length E - (l.length+m.length))) E))):=by
    rcases hU with ⟨E2,hU⟩|hU
    · exact a2r st.elt.und e1 e2 hU h3.len hcells hn (by rw [e4];exact hb)
    · exact a1O st.elt.und e1 e2 hU h3.len hcells hn (by rw [e4];exact hb)
  have hop:∀ r,(Builtin.append_ #[T,U] ty #[.slice a0 l.length l.length,v]).run P w=r→(execOp a.eval ⟨d,.call ⟨.builtin .append,#[x,y],#[T,U]⟩,ty,ps,af,g⟩).run P w=r.andThen fun v w' => .ok (.value v) w':=fun r hr=>by
    simp [execOp,resolve,invoke,builtin,ha.ev h1,ha.ev h2,hr]
  by_cases h0:m.length=0
  · have hm0:m = []:=List.eq_nil_of_length_eq_zero h0
    subst hm0
    have hnw:news = []:=by simpa [K4] using h4
    subst hnw
    left
    refine⟨.slice a0 l.length l.length,?_,fun J' hle _=>⟨a8,.v (l ++ []),?_,k⟩⟩
    · rw [hop _ (hboth.1 (by simp))]
      cases a0<;>simp [storeCells]
    · rw [List.append_nil]
      exact⟨_,⟨_,a8,xs,hsl.mono hle,hrl.mono hle⟩,a8⟩
  · right
    have hold:(Builtin.firstCells inf.size l.length (.slice a0 l.length l.length)).run P w.drew = .ok xs.toArray w.drew:=by
      have hm':Mem I L w.drew:=⟨hm.im,hm.loc,hm.sep,hm.nodup⟩
      have:=(Src.sl (P:=P) (L:=L) hsl).cells w.drew hm' l.length (Nat.le_refl _)
      rw [←hsl.len,List.take_length,←e3] at this;exact this
    have hr:=hboth.2 (by omega) _ hold
    have hge:=grownCap_ge w (l.length+m.length) l.length E
    have hcm:grownCap w (l.length+m.length) l.length E≤maxLen:=grownCap_le_maxLen w _ _ E (by unfold maxLen;omega)
    refine⟨.slice (some ⟨w.heap.size,0,none⟩) (l.length+m.length) (grownCap w (l.length+m.length) l.length E),w.drew.alloc (.cells (xs.toArray++news.toArray++Builtin.zeroCells zv.cells (grownCap w (l.length+m.length) l.length E - (l.length+m.length))) E),
      .cells (xs.toArray++news.toArray++Builtin.zeroCells zv.cells (grownCap w (l.length+m.length) l.length E - (l.length+m.length))) E,by rw [hop _ hr];rfl,rfl,rfl,rfl,rfl,fun J' hle hp=>⟨rfl,.v (l++m),⟨_,⟨_,rfl,xs++news,?_,(hrl.append h4).mono hle⟩,rfl⟩,k⟩⟩
    have hob:=hp (w.heap.size,_) (List.mem_singleton.2 rfl)
    rw [List.length_append]
    refine Sl.a3N ⟨_,_,_,hob,fun i q hq => ?_⟩ ?_ hge hcm
    · have hi:=(List.getElem?_eq_some_iff.1 hq).1
      rw [Nat.zero_add]
      have:(xs.toArray++news.toArray++Builtin.zeroCells zv.cells (grownCap w (l.length+m.length) l.length E - (l.length+m.length)))=(xs++news++(Builtin.zeroCells zv.cells (grownCap w (l.length+m.length) l.length E - (l.length+m.length))).toList).toArray:=by
        apply Array.ext';simp
      rw [this,List.getElem?_toArray,List.getElem?_append_left hi];exact hq
    · rw [List.length_append,hsl.len,h3.size,Nat.add_mul]
end Go.Ab
namespace Go.Ab
open Go.Fl Go.RowKit
open p2 (rep)
variable {P:Program} {C:Ctx} {N:Nat} {σ:x5} {H:j7} {K:AV→Prop} {KH:AV→j7→Prop} {d:Option Nat} {ty:TypeId} {ps:String} {af:Array Edge} {g:Option (Nat×Bool)}
variable {x y z:Operand} {T T2 E S D U:TypeId}
theorem a00 {I:Im}:∀ {l:List UInt8} {cs:List Value},K4 I l cs↔cs=C5 l
 | [],cs=>by simp [K4,C5]
 | x::l,cs=>by
  constructor
  ·rintro⟨c,r,rfl,h1,h2⟩
   rw [a00.1 h2,show c = [Fl.u8 x] from h1];rfl
  ·rintro rfl
   exact⟨[Fl.u8 x],C5 l,a8,a8,a00.2 a8⟩
theorem D5.a9L {n:Nat} {a:K5 n UInt8} (h:D5 C σ H x (.v a)) {ρ:Env} {I:Im} {L:Lh} (hs:RSt C I L σ H ρ):ev ρ x=some (.agg (C5 a.l).toArray):=by
 obtain⟨u,h1,cs,h2,rfl⟩:=h ρ I L hs
 rw [a00.1 h2] at h1
 exact h1
theorem b9x {n:Nat} {α:Type} [DecidableEq α] (a b:K5 n α):decide (a.l=b.l)=decide (a=b):=by
 rw [decide_eq_decide]
 exact⟨K5.ext,fun h=>by rw [h]⟩
theorem j5.a8I {n : Nat} {a b : K5 n UInt8} (hT : P.underlying T = some (.array n E)) (hs : D7 P E 1) (hE : P.underlying E = some (.int .u8)) (hg : P.eqGuardType P.depth T = false) (hx : D5 C σ H x (.v a)) (hy : D5 C σ H y (.v b)) (k : K (.v (decide (a = b)))) :
    j5 P N C ⟨d,.binOp .eql T x y T2,ty,ps,af,g⟩ σ H K :=
  .vk k (fun ρ I L hst => .c4b hT hs hE hg a.h b.h (hx.a9L hst) (hy.a9L hst) ⟨_,rfl,by rw [b9x];rfl⟩)
theorem b2O {a b:ByteArray} {s t:T5} (ha:a.data.toList=s.l) (hb:b.data.toList=t.l):(a.toList == b.toList)=decide (s=t):=by
 have h1:∀ q:ByteArray,q.toList=q.data.toList:=fun q=>ByteArray.toList_eq q
 rw [h1,h1,ha,hb]
 cases s;cases t
 exact Bool.eq_iff_iff.2 (by simp)
theorem j5.c4s {s t:T5} (hx:D5 C σ H x (.v s)) (hy:D5 C σ H y (.v t)) (k:K (.v (decide (s=t)))):j5 P N C ⟨d,.binOp .eql T x y T2,ty,ps,af,g⟩ σ H K :=
 .vk k (fun ρ I L hst=>by
  obtain⟨a,h1,h2⟩:=hx.str hst
  obtain⟨b,h3,h4⟩:=hy.str hst
  exact .mk ⟨_,rfl,rfl⟩ fun ac w ha hm=>by simp [execOp,ha.ev h1,ha.ev h3,eqGuard,binOp_string_eql,b2O h2 h4,asV,p2.agg])
theorem j5.c3f {s t:T5} (hx:D5 C σ H x (.v s)) (hy:D5 C σ H y (.v t)) (k:K (.v (decide (s≠t)))):j5 P N C ⟨d,.binOp .neq T x y T2,ty,ps,af,g⟩ σ H K :=
 .vk k (fun ρ I L hst=>by
  obtain⟨a,h1,h2⟩:=hx.str hst
  obtain⟨b,h3,h4⟩:=hy.str hst
  exact .mk ⟨_,rfl,rfl⟩ fun ac w ha hm=>by
   have:=b2O h2 h4
   simp [execOp,ha.ev h1,ha.ev h3,eqGuard,binOp,Op.stringOp,asV,p2.agg] at this ⊢
   first|exact this|(simp [bne,this]))
theorem b7b (w:World) {a b:Bool} (hT:P.underlying T=some .bool):(Op.equal T (.bool a) (.bool b)).run P w = .ok (a == b) w:=by
 have:∀ dd,(Op.equalIn (dd+1) T (.bool a) (.bool b)).run P w = .ok (a == b) w:=fun dd=>by simp [Op.equalIn,run_underlying hT]
 exact this 9999
theorem j5.b7c {a b:Bool} (hT:P.underlying T=some .bool) (hx:D5 C σ H x (.v a)) (hy:D5 C σ H y (.v b)) (k:K (.v (a == b))):j5 P N C ⟨d,.binOp .eql T x y T2,ty,ps,af,g⟩ σ H K :=
 .vk k (fun ρ I L hst => .mk ⟨_,rfl,rfl⟩ fun ac w ha hm=>by simp [execOp,ha.ev (hx.bool hst),ha.ev (hy.bool hst),eqGuard,binOp,b7b w hT,asV,p2.agg])
theorem B3.T6 {s : T5} (hS : P.underlying S = some .string) (hD : P.underlying D = some (.slice E)) (hE : P.underlying E = some (.int .u8)) (hx : D5 C σ H x (.v s))
    (k:∀ w,KH (.raw w) ((true,.own E w s.l)::H)):B3 P C N ⟨d,.convert S D x,ty,ps,af,g⟩ σ H KH :=
  .ofX fun ρ I L hs a w ha hm=>by
    obtain⟨b,h1,h2⟩:=hx.str hs
    have hb:=hx.a8D hs
    have hsz:b.size=s.l.length:=by rw [←h2];rfl
    have hrun:=run_bytes_of_string (P:=P) w S D E b hS hD hE
    have hop:(execOp a.eval ⟨d,.convert S D x,ty,ps,af,g⟩).run P w=((convert S D (.string b)).run P w).andThen fun v w' => .ok (.value v) w':=by
      simp [execOp,ha.ev h1]
    rw [hop,hrun]
    generalize hC:bytesRow b (grownCap w b.size 0 E)=R
    have hcap:grownCap w b.size 0 E≥b.size:=grownCap_ge w b.size 0 E
    have hcapm:grownCap w b.size 0 E≤maxLen:=grownCap_le_maxLen w b.size 0 E (by rw [hsz];unfold maxLen;omega)
    generalize grownCap w b.size 0 E=c at *
    have hR:R.toList=C5 s.l++List.replicate (c - b.size) (Value.int .u8 0):=by
      rw [←hC,←h2]
      simp [bytesRow,C5,Fl.u8]
    have hnI:I w.heap.size=none:=by
      cases hi:I w.heap.size with
      | none=>rfl
      | some o=>have:=C6 (hm.im _ _ hi);omega
    have hnew:(w.drew.alloc (.cells R E (R.size,R.size+1))).heap[w.heap.size]?=some (.cells R E (R.size,R.size+1)):=by
      show(w.heap.push _)[w.heap.size]?=_
      simp
    have hold:∀ k,k < w.heap.size→(w.drew.alloc (.cells R E (R.size,R.size+1))).heap[k]?=w.heap[k]?:=fun k hk=>by
      show(w.heap.push _)[k]?=_
      rw [Array.getElem?_push_lt hk,Array.getElem?_eq_getElem hk]
    have hRl:R=(C5 s.l++List.replicate (c - b.size) (Value.int .u8 0)).toArray:=by rw [←hR]
    have hbl:(C5 s.l).length=s.l.length:=by simp [C5]
    refine⟨I,[[(w.heap.size,.cells R E (R.size,R.size+1))]],⟨rfl,rfl,rfl,by show _≤(w.heap.push _).size;simp,fun k hk _=>hold k hk⟩,Le.refl I,fun b h0 h1=>absurd h0 h1,⟨fun b o hb => ?_,fun p hp => ?_,fun p hp => ?_,?_⟩,?_,.raw (slc w.heap.size 0 b.size c),.own E (slc w.heap.size 0 b.size c) s.l,_,rfl,rfl,⟨C5 s.l,.inr ⟨w.heap.size,c,_,(R.size,R.size+1),by rw [hsz],by rw [hRl],by rw [hbl];exact(Nat.mul_one _).symm,?_,by omega,hcapm,.inr ?_⟩,a00.2 rfl⟩,k _⟩
    · exact(hold b (C6 (hm.im b o hb))).trans (hm.im b o hb)
    · simp only [List.cons_append,List.nil_append,List.flatten_cons,List.mem_cons] at hp
      rcases hp with rfl|hp
      · exact hnew
      · exact(hold _ (C6 (hm.loc p hp))).trans (hm.loc p hp)
    · simp only [List.cons_append,List.nil_append,List.flatten_cons,List.mem_cons] at hp
      rcases hp with rfl|hp
      · exact hnI
      · exact hm.sep p hp
    · simp only [List.cons_append,List.nil_append,List.flatten_cons,List.map_cons,List.nodup_cons,List.mem_map,not_exists,not_and]
      refine⟨fun p hp e => ?_,hm.nodup⟩
      have:=C6 (hm.loc p hp)
      omega
    · intro p hp;simp at hp;subst hp;exact Nat.le_refl _
    · rw [List.length_append,hbl,List.length_replicate]
      show _=c*1
      omega
    · rw [hRl];simp
theorem B3.same {α : Type} {r : p2 α} {t : Nat} {w : Value} {l : List α} {bb : Bool} {F : Bool × D8 → j7} (hT : P.underlying T = some (.slice E)) (hE : P.underlying E = some (.int .u8)) (hx : F0 σ t = some (.raw w)) (hH : y4 H (bb, .own E w l) F) (hl : l ≠ [])
    (k:KH (.raw w) (F (bb,.own E w l))):B3 P C N ⟨d,.convert T T (.tmp t),ty,ps,af,g⟩ σ H KH:=fun ρ I L hs=>by
  obtain⟨u,h1,rfl⟩:=hs.env t _ hx
  obtain⟨j,X,h5,h6,h7⟩:=hH.get hs.heap
  obtain⟨xs,h8,h9⟩:=h6.1
  intro a w ha hst
  have hx2:a.eval (.tmp t)=_:=ha.ev (x := .tmp t) h1
  rcases h8 with ⟨⟨a1,rfl⟩,hn,rfl,rfl⟩|⟨b,c,sp,q,rfl,rfl,e1,e2,e3,e4,e5⟩
  · exact absurd (List.eq_nil_of_length_eq_zero hn) hl
  · have hb:=hst.mem.loc (b,.cells (xs++sp).toArray E q) (F7 h5 (by simp))
    have hsh:w.shape? b=some (E,(xs++sp).length):=by simp [World.shape?,hb]
    have hr:(execOp a.eval ⟨d,.convert T T (.tmp t),ty,ps,af,g⟩).run P w = .ok (.value (slc b 0 l.length c)) (w.freeze ⟨b,(xs++sp).length,none⟩ 1):=by
      simp only [execOp,hx2,convert,Sem.run_bind,run_underlying hT,run_underlying hE,Result.andThen_ok]
      simp [markStringish,hsh]
    rw [hr]
    refine⟨I,L.set j [(b,.cells (xs++sp).toArray E ((xs++sp).length,(xs++sp).length+1))],hst.write (w':=w.freeze ⟨b,(xs++sp).length,none⟩ 1) h5 ?_ ?_ ?_ a8 a8 a8,Le.refl I,.raw _,_,a8,h7 I (bb,.own E _ l) _ (Le.refl I) ⟨⟨xs,.inr ⟨b,c,sp,_,a8,a8,e1,e2,e3,e4,.inr a8⟩,h9⟩,fun hbb p hp => ?_⟩,k⟩
    · have hlt:=C6 hb
      simp only [World.freeze,Nat.one_ne_zero,if_false]
      rw [Array.getElem?_modify,if_pos rfl,hb]
      rcases e5 with rfl|rfl
      · simp
      · simp
    · intro q hq
      simp only [World.freeze,Nat.one_ne_zero,if_false]
      rw [Array.getElem?_modify,if_neg (Ne.symm hq)]
    · simp [World.freeze]
    · have:=h6.2 hbb _ (List.mem_singleton.2 rfl)
      simp only [List.mem_singleton] at hp
      subst hp;exact this
theorem B3.b9y {α : Type} {r : p2 α} {i0 : Inhabited α} {t : Nat} {w : Value} {l m : List α} {bb : Bool} {F : Bool × D8 → j7} (tE : F1 P E α) (hT : P.underlying T = some (.slice E)) (hx : F0 σ t = some (.raw w)) (hH : y4 H (bb, .own E w l) F) (hy : a8n P C σ H y m)
    (hb:m.length≤9223372036854775807) (k:KH (.v ((min m.length l.length:Nat):Int)) (F (bb,.own E w (m.take l.length++l.drop m.length)))):B3 P C N ⟨d,.call ⟨.builtin .copy,#[.tmp t,y],#[T,U]⟩,ty,ps,af,g⟩ σ H KH:=fun ρ I L hs=>by
  obtain⟨u,h1,rfl⟩:=hs.env t _ hx
  obtain⟨v,news,h2,h3,h4⟩:=hy ρ I L hs
  obtain⟨j,X,h5,h6,h7⟩:=hH.get hs.heap
  obtain⟨xs,h8,h9⟩:=h6.1
  intro a w ha hst
  have hmem:=hst.mem
  generalize hmn:min m.length l.length=n at k
  have hnm:Nat.min m.length l.length=n:=hmn
  have hsz:=tE.size.run w
  have hfc:=h3.cells w hmem n (by omega)
  have hl4:=h4.len
  have hpos:0 < p2.size α:=Nat.pos_of_ne_zero tE.pos
  have hlist:m.take l.length=m.take n:=by rw [←hmn,List.take_eq_take_iff];omega
  have hdrop:l.drop m.length=l.drop n:=by
    by_cases h:m.length≤l.length
    · rw [←hmn,Nat.min_eq_left h]
    · rw [List.drop_eq_nil_of_le (by omega),List.drop_eq_nil_of_le (by omega)]
  have hrep:K4 I (m.take l.length++l.drop m.length) (C9 xs 0 (news.take (n*p2.size α))):=by
    rw [hlist,hdrop]
    have h10:=h4.cut 0 n (by omega)
    have h11:=h9.cut n l.length (Nat.le_refl _)
    simp only [List.drop_zero,Nat.zero_mul,List.take_length] at h10 h11
    rw [←h9.len,List.take_length] at h11
    have hl:(news.take (n*p2.size α)).length=n*p2.size α:=by
      rw [List.length_take,hl4];exact Nat.min_eq_left (Nat.mul_le_mul_right _ (by omega))
    simp only [C9,List.take_zero,List.nil_append,Nat.zero_add]
    rw [hl]
    exact h10.append h11
  have hlen2:(m.take l.length++l.drop m.length).length=l.length:=by
    rw [hlist,hdrop];simp;omega
  rcases h8 with ⟨⟨a1,rfl⟩,hn0,rfl,rfl⟩|⟨b,c,sp,q,rfl,rfl,e1,e2,e3,e4,e5⟩
  · have hn00:n=0:=by omega
    have hr:(execOp a.eval ⟨d,.call ⟨.builtin .copy,#[.tmp t,y],#[T,U]⟩,ty,ps,af,g⟩).run P w = .ok (.value (goInt n)) w:=by
      simp only [execOp,resolve,invoke,builtin,Builtin.copy_,Sem.run_bind,run_underlying hT,Result.andThen_ok,ha.ev (x := .tmp t) h1,ha.ev h2,h3.len w,hsz,hn0] at hfc hnm ⊢
      simp [run_underlying hT,h3.len w,hsz,ha.ev (x := .tmp t) h1,ha.ev h2,hn0,hn00] at hfc hnm ⊢
      cases a1<;>simp [hnm,hfc,storeCells]
    rw [hr]
    refine⟨I,L.set j [],hst.b2v j,Le.refl I,.v ((n:Nat):Int),_,⟨_,⟨rfl,by omega,by omega⟩,rfl⟩,h7 I (bb,.own E _ (m.take l.length++l.drop m.length)) [] (Le.refl I) ⟨⟨_,.inl ⟨⟨a1,rfl⟩,by rw [hlen2];exact hn0,?_,rfl⟩,hrep⟩,by simp⟩,k⟩
    have:=hrep.len
    rw [hlen2,hn0,Nat.zero_mul] at this
    exact List.eq_nil_of_length_eq_zero this
  · have hbh:=hst.mem.loc (b,.cells (xs++sp).toArray E q) (F7 h5 (by simp))
    have hxl:xs.length=l.length*p2.size α:=h9.len
    have hnl:(news.take (n*p2.size α)).length=n*p2.size α:=by
      rw [List.length_take,hl4];exact Nat.min_eq_left (Nat.mul_le_mul_right _ (by omega))
    have hfit:0+(news.take (n*p2.size α)).length≤xs.length:=by rw [hnl,hxl,Nat.zero_add];exact Nat.mul_le_mul_right _ (by omega)
    have hall:∀ u∈news.take (n*p2.size α),u.oneCell'=true:=fun u hu=>List.all_eq_true.1 h4.flat u (List.mem_of_mem_take hu)
    have hst2:=Q5 P b 0 E q (news.take (n*p2.size α)) 0 (xs++sp).toArray w hbh (by simp only [List.size_toArray,List.length_append];omega) hall (fun j hj=>by rcases e5 with rfl|rfl<;>simp at hj ⊢ <;> omega)
    have hr:(execOp a.eval ⟨d,.call ⟨.builtin .copy,#[.tmp t,y],#[T,U]⟩,ty,ps,af,g⟩).run P w = .ok (.value (goInt n)) (w.setRow b (C9 (xs++sp) 0 (news.take (n*p2.size α))).toArray):=by
      simp [execOp,resolve,invoke,builtin,Builtin.copy_,run_underlying hT,h3.len w,hsz,ha.ev (x := .tmp t) h1,ha.ev h2,hmn,hfc]
      simp only [Nat.add_zero] at hst2
      rw [show(⟨b,0,none⟩:Addr) = { block:=b,off:=0 } from rfl] at hst2
      simp [hst2,C9]
    rw [hr]
    have hseg:C9 (xs++sp) 0 (news.take (n*p2.size α))=C9 xs 0 (news.take (n*p2.size α))++sp:=a4E xs sp _ _ hfit
    have hlen:(C9 xs 0 (news.take (n*p2.size α))).length=xs.length:=Y4 _ _ _ hfit
    refine⟨I,_,a7g hst h5 _,Le.refl I,.v ((n:Nat):Int),_,⟨_,⟨rfl,by omega,by omega⟩,rfl⟩,h7 I (bb,.own E _ (m.take l.length++l.drop m.length)) _ (Le.refl I) ⟨⟨_,.inr ⟨b,c,sp,q,by rw [hlen2],by rw [hseg],by rw [hlen,hlen2];exact e1,by rw [List.length_append,hlen,←List.length_append];exact e2,by rw [hlen2];exact e3,e4,?_⟩,hrep⟩,fun hbb p hp => ?_⟩,k⟩
    · rw [List.length_append,hlen,←List.length_append];exact e5
    · have:=h6.2 hbb _ (List.mem_singleton.2 rfl)
      simp only [List.mem_singleton] at hp
      subst hp;exact this
end Go.Ab
namespace Go.Ab
open Go.Fl Go.RowKit
open p2 (rep)
theorem b7d {b w:Bool} (h:¬b=w):b = !w:=by cases b<;>cases w<;>simp_all
def a8o (P:Program) (C:Ctx) (N:Nat) (σ0:x5) (accP:List (Nat×AV)) (F:List (Nat×AV)→j7→Prop):List (Nat×Oper×List (Nat×Nat))→List (Nat×AV)→j7→Prop
  | [],cacc,H=>F cacc H
  | (i,o,s)::rest,cacc,H =>
    match o.guard,o9 accP i with
    | none,none=>B3 P C N o (D3 σ0 (cacc++accP) s (C4 o)) H (fun r H'=>a8o P C N σ0 accP F rest ((i,r)::cacc) H')
    | none,some r0=>B3 P C N o (D3 σ0 (cacc++accP) s (C4 o)) H (fun r H'=>r=r0∧a8o P C N σ0 accP F rest ((i,r0)::cacc) H')
    | some (g, want), none => ∃ b, o9 accP g = some (.v b) ∧ (b = want → B3 P C N o (D3 σ0 (cacc ++ accP) s (C4 o)) H (fun r H' => a8o P C N σ0 accP F rest ((i, r) :: cacc) H')) ∧
        (b=(!want)→a8o P C N σ0 accP F rest ((i,.any)::cacc) H)
    | some (g, want), some r0 => ∃ b c, o9 accP g = some (.v b) ∧ r0 = .opt (b == want) c ∧ (b = want → B3 P C N o (D3 σ0 (cacc ++ accP) s (C4 o)) H (fun r H' => r = c ∧ a8o P C N σ0 accP F rest ((i, r0) :: cacc) H')) ∧
        (b=(!want)→a8o P C N σ0 accP F rest ((i,r0)::cacc) H)
def S2 (P:Program) (C:Ctx) (N:Nat) (σ0:x5) {ι:Type 1} (HT:ι→j7) (accP:List (Nat×AV)) (F:List (Nat×AV)→j7→Prop):List (Nat×Oper×List (Nat×Nat))→List (Nat×AV)→j7→Prop
  | [],cacc,H=>(∃ Hp,H=HT Hp)∧F cacc H
  | (i,o,s)::rest,cacc,H=>(∃ Hp,H=HT Hp) ∧
    match o.guard,o9 accP i with
    | none,none=>B3 P C N o (D3 σ0 (cacc++accP) s (C4 o)) H (fun r H'=>S2 P C N σ0 HT accP F rest ((i,r)::cacc) H')
    | none,some r0=>B3 P C N o (D3 σ0 (cacc++accP) s (C4 o)) H (fun r H'=>r=r0∧S2 P C N σ0 HT accP F rest ((i,r0)::cacc) H')
    | some (g, want), none => ∃ b, o9 accP g = some (.v b) ∧ (b = want → B3 P C N o (D3 σ0 (cacc ++ accP) s (C4 o)) H (fun r H' => S2 P C N σ0 HT accP F rest ((i, r) :: cacc) H')) ∧
        (b=(!want)→S2 P C N σ0 HT accP F rest ((i,.any)::cacc) H)
    | some (g, want), some r0 => ∃ b c, o9 accP g = some (.v b) ∧ r0 = .opt (b == want) c ∧ (b = want → B3 P C N o (D3 σ0 (cacc ++ accP) s (C4 o)) H (fun r H' => r = c ∧ S2 P C N σ0 HT accP F rest ((i, r0) :: cacc) H')) ∧
        (b=(!want)→S2 P C N σ0 HT accP F rest ((i,r0)::cacc) H)
theorem S2.tail {P:Program} {C:Ctx} {N:Nat} {σ0:x5} {ι:Type 1} {HT:ι→j7} {accP:List (Nat×AV)} {F:List (Nat×AV)→j7→Prop}:∀ {l:List (Nat×Oper×List (Nat×Nat))} {cacc:List (Nat×AV)} {H:j7},S2 P C N σ0 HT accP F l cacc H→∃ Hp,H=HT Hp
 | [],_,_,h=>h.1
 | _::_,_,_,h=>h.1
theorem B3.mono {P:Program} {C:Ctx} {N:Nat} {o:Oper} {σ:x5} {H:j7} {K K':AV→j7→Prop} (h:B3 P C N o σ H K) (hk:∀ r H',K r H'→K' r H'):B3 P C N o σ H K':=fun ρ I L hs a w ha hst =>
 (h ρ I L hs a w ha hst).mono fun v w' ⟨J,L',q1,q2,r,H',q3,q4,q5⟩=>⟨J,L',q1,q2,r,H',q3,q4,hk r H' q5⟩
theorem a8o.toK {P:Program} {C:Ctx} {N:Nat} {σ0:x5} {accP:List (Nat×AV)} {F:List (Nat×AV)→j7→Prop}:∀ {l:List (Nat×Oper×List (Nat×Nat))} {cacc:List (Nat×AV)} {H:j7},a8o P C N σ0 accP F l cacc H→S2 P C N σ0 (fun H=>H) accP F l cacc H
 | [],_,H,h=>⟨⟨H,rfl⟩,h⟩
 | (i,o,s)::rest,cacc,H,h=>by
  refine⟨⟨H,a8⟩,?_⟩
  unfold a8o at h
  cases hg:o.guard with
  | none =>
   cases hr:o9 accP i with
   | none=>simp only [hg,hr] at h ⊢;exact h.mono fun r H' k=>k.toK
   | some r0=>simp only [hg,hr] at h ⊢;exact h.mono fun r H' k=>⟨k.1,k.2.toK⟩
  | some gw =>
   obtain⟨g,want⟩:=gw
   cases hr:o9 accP i with
   | none =>
    simp only [hg,hr] at h ⊢
    obtain⟨b,h1,h2,h3⟩:=h
    exact⟨b,h1,fun e=>(h2 e).mono fun r H' k=>k.toK,fun e=>(h3 e).toK⟩
   | some r0 =>
    simp only [hg,hr] at h ⊢
    obtain⟨b,c,h1,h2,h3,h4⟩:=h
    exact⟨b,c,h1,h2,fun e=>(h3 e).mono fun r H' k=>⟨k.1,k.2.toK⟩,fun e=>(h4 e).toK⟩
def S7 (ops:Array Oper) (n:Nat) (ss:List (List (Nat×Nat))) (ci:List Nat):Bool :=
 (List.range ci.length).all (fun k=>match ci[k]? with
  | some i=>Nat.blt i n&&(match k with|0=>true|k'+1=>match ci[k']? with|some j=>Nat.blt j i&&Region.waitsFor .any ops i j|none=>false)
  | none=>false)
theorem C0 (a b:List (Nat×AV)) (j:Nat):o9 (a++b) j=(match o9 a j with|some r=>some r|none=>o9 b j):=by
 induction a with
 | nil=>rfl
 | cons p a ih =>
  simp only [List.cons_append,o9]
  cases Nat.beq p.1 j with
  | true=>rfl
  | false=>simpa using ih
theorem y5 (i:Nat) (r:AV) (a:List (Nat×AV)) (j:Nat):o9 ((i,r)::a) j=if i=j then some r else o9 a j:=by
 by_cases h:i=j
 ·subst h;simp [o9]
 ·simp [o9,h,a4W h]
theorem b5l {s:List (Nat×Nat)} {t j:Nat} (h:J0 s t=some j):(t,j)∈s:=by
 induction s with
 | nil=>simp [J0] at h
 | cons p s ih =>
  simp only [J0] at h
  cases hb:Nat.beq p.1 t with
  | true =>
   simp only [hb,cond_true,Option.some.injEq] at h
   have:=Nat.eq_of_beq_eq_true hb
   subst h;subst this;exact List.mem_cons_self
  | false=>simp only [hb,cond_false] at h;exact List.mem_cons_of_mem _ (ih h)
theorem a3V {σ0:x5} {a b:List (Nat×AV)} {s:List (Nat×Nat)} (h:∀ t j,J0 s t=some j→o9 a j=o9 b j):∀ ts,D3 σ0 a s ts=D3 σ0 b s ts
 | []=>rfl
 | t::ts=>by
  simp only [D3]
  cases hs:J0 s t with
  | none=>simp only [a3V h ts]
  | some j=>simp only [h t j hs,a3V h ts]
theorem a0P {σ0:x5} {acc:List (Nat×AV)} {s:List (Nat×Nat)}:∀ {ts:List Nat} {t:Nat} {a:AV},F0 (D3 σ0 acc s ts) t=some a→t∈ts∧(match J0 s t with|none=>F0 σ0 t|some j=>o9 acc j)=some a
 | [],t,a,h=>by simp [D3,F0] at h
 | u::ts,t,a,h=>by
  simp only [D3] at h
  split at h
  ·rename_i b hb
   rw [I8] at h
   by_cases e:u=t
   ·subst e;simp at h;subst h;exact⟨List.mem_cons_self,hb⟩
   ·rw [if_neg e] at h
    have:=a0P h
    exact⟨List.mem_cons_of_mem _ this.1,this.2⟩
  ·have:=a0P h
   exact⟨List.mem_cons_of_mem _ this.1,this.2⟩
theorem a4s {σ0:x5} {acc:List (Nat×AV)} {s:List (Nat×Nat)} {t:Nat} {a:AV} (h:(match J0 s t with|none=>F0 σ0 t|some j=>o9 acc j)=some a):∀ {ts:List Nat},t∈ts→F0 (D3 σ0 acc s ts) t=some a
 | [],hm=>by cases hm
 | u::ts,hm=>by
  by_cases e:u=t
  ·subst e
   cases hs:J0 s u with
   | none=>simp only [hs] at h;simp only [D3,hs,h];rw [I8,if_pos rfl]
   | some j=>simp only [hs] at h;simp only [D3,hs,h];rw [I8,if_pos rfl]
  ·have hm':t∈ts:=by
    rcases List.mem_cons.1 hm with h1|h1
    ·exact absurd h1.symm e
    ·exact h1
   simp only [D3]
   split
   ·rw [I8,if_neg e];exact a4s h hm'
   ·exact a4s h hm'
def a0F (ops:Array Oper) (n:Nat) (ss:List (List (Nat×Nat))) (i:Nat):Bool :=
 match ops[i]?,ss[i]? with
 | some o,some s=>(C4 o).all (a0I ops n i s) &&
  (match o.guard with|none=>true|some (g,_)=>Nat.blt g n&&Region.waitsFor .any ops i g&&((ops[g]?).bind (·.dst)).isSome)
 | _,_=>false
def a5D (ops:Array Oper) (n:Nat):Bool:=(List.range n).all fun i=>(List.range i).all fun j=>match (ops[i]?).bind (·.dst) with|some d => !((ops[j]?).bind (·.dst) == some d)|none=>true
def a1S (ops:Array Oper) (n:Nat) (ss:List (List (Nat×Nat))):Bool :=
 Nat.ble n ops.size&&a1E ops&&(List.range n).all (a0F ops n ss)&&a5D ops n &&
 (n == ops.size||(Region.sinkB .any ops n&&Region.chainB .any ops n))&&Region.seqB .any ops (ops.size - n) n (Q4 ops.size n)
theorem put_defers (a:Act) (d:Option Nat) (v:Value):(a.put d v).defers=a.defers:=by cases d<;>rfl
theorem b0X (a:Act) (d:Option Nat) (v:Value):(a.put d v).tmps.size=a.tmps.size:=by cases d<;>simp [Act.put]
theorem a9M (a:Act) {d:Option Nat} {t:Nat} (v:Value) (h:d≠some t):(a.put d v).tmps[t]?=a.tmps[t]?:=by
 cases d with
 | none=>rfl
 | some d=>simp [Act.put,Array.getElem?_setIfInBounds_ne (show d≠t from fun e=>h (by rw [e]))]
theorem put_eq (a:Act) {d:Nat} (v:Value) (h:d < a.tmps.size):(a.put (some d) v).tmps[d]?=some v:=by simp [Act.put,h]
def a1T (P:Program) (N:Nat) (C:Ctx) (σ0:x5) {ι:Type 1} (HT:ι→j7) (accP:List (Nat×AV)) (o:Oper) (s:List (Nat×Nat)) (r:AV):Prop:=∀ Hp,a4J P N C σ0 (HT Hp) accP o s r
structure b5m (P : Program) (C : Ctx) (N n : Nat) (l : List Oper) (ci : List Nat) (cl : List (Nat × Oper × List (Nat × Nat))) (σ0 : x5) {ι : Type 1} (HT : ι → j7) (accP : List (Nat × AV)) (F : List (Nat × AV) → j7 → Prop) (ρ0 : Env) (I : Im)
    (listed:Array Bool) (k:Nat) (cacc:List (Nat×AV)) (H:j7) (J:Im) (L:Lh) (vs:Nat→Value) (a:Act) (w:World):Prop where
  head:HeadInv .any l.toArray n listed
  le:Le I J
  W3:Le C.I0 J
  st:St C J L w
  heap:U2 C.w0.heap.size J H L
  kle:k≤ci.length
  ch:∀ m i,ci[m]?=some i→(listed.getD i false=true↔m < k)
  pl:S2 P C N σ0 HT accP F (cl.drop k) cacc H
  keys:∀ j r,o9 cacc j=some r→j∈ci
  prom:∀ j r r0,o9 cacc j=some r→o9 accP j=some r0→r=r0
  b7e:∀ j,j∈ci→listed.getD j false=true→∃ r,o9 cacc j=some r
  val:∀ j,j < n→listed.getD j false=true→∃ r,o9 (cacc++accP) j=some r∧F8 J r (vs j)
  defers:a.defers = []
  size:a.tmps.size=N
  a5u:∀ j d,j < n→listed.getD j false=true→(l.toArray[j]?).bind (·.dst)=some d→a.tmps[d]?=some (vs j)
  a7q:∀ t v,Fl.look ρ0 t=some v→(∀ j,j < n→listed.getD j false=true→(l.toArray[j]?).bind (·.dst)≠some t)→a.tmps[t]?=some v
section
variable {P:Program} {C:Ctx} {N n:Nat} {l:List Oper} {ci:List Nat} {cl:List (Nat×Oper×List (Nat×Nat))} {ss:List (List (Nat×Nat))} {σ0:x5} {ι:Type 1} {HT:ι→j7} {accP:List (Nat×AV)} {F:List (Nat×AV)→j7→Prop} {ρ0:Env} {I:Im} {L0:Lh} {H0:j7}
theorem b5m.step {listed : Array Bool} {k : Nat} {cacc : List (Nat × AV)} {H : j7} {J : Im} {L : Lh} {vs : Nat → Value} {a : Act} {w : World} {Q' : Exit → Act → World → Prop}
    (h0:RSt C I L0 σ0 H0 ρ0) (hN:M4 N l=true) (hok:∀ i,i < n→a0F l.toArray n ss i=true) (hdst:a5D l.toArray n=true) (hch:S7 l.toArray n ss ci=true)
    (hcl:∀ (m i:Nat) (o:Oper) (s:List (Nat×Nat)),ci[m]?=some i→l[i]?=some o→ss[i]?=some s→cl[m]?=some (i,o,s)) (hnd:ci.Nodup)
    (hp:∀ i o s,i < n→i∉ci→l[i]?=some o→ss[i]?=some s→∃ r,o9 accP i=some r∧a1T P N C σ0 HT accP o s r)
    (inv:b5m P C N n l ci cl σ0 HT accP F ρ0 I listed k cacc H J L vs a w) {i:Nat} (hr:i∈Region.ready .any l.toArray listed) (hin:i < n)
    {K:Act→World→Prop} (hK:∀ k cacc H J L vs a' w,b5m P C N n l ci cl σ0 HT accP F ρ0 I (listed.setIfInBounds i true) k cacc H J L vs a' w→K a' w) :
    wpOpIn C.fen 0 P l.toArray Q' i K a w:=by
  obtain⟨hun,o,ho,hall⟩:=mem_ready.1 hr
  have hol:l[i]?=some o:=by simpa using ho
  have hok':=hok i hin
  unfold a0F at hok'
  simp only [ho] at hok'
  cases hs:ss[i]? with
  | none=>simp [hs] at hok'
  | some s =>
  simp only [hs,Bool.and_eq_true] at hok'
  obtain⟨hreads,hguard⟩:=hok'
  have hdN:∀ d,o.dst=some d→d < N:=fun d hod=>by
    have:=List.all_eq_true.1 hN o (List.mem_of_getElem? hol)
    rw [hod] at this
    simpa [Nat.blt_eq] using this
  have hlisted:∀ j,Region.waitsFor .any l.toArray i j=true→listed.getD j false=true:=fun j hw=>by
    obtain⟨e,he,hb,heq⟩:=a0K ho hw
    exact heq▸hall e he hb
  have hilt:i < listed.size:=by
    rcases Nat.lt_or_ge i listed.size with h'|h'
    · exact h'
    · simp [Array.getElem?_eq_none h'] at hun
  have hiun:listed.getD i false=false:=getD_both hun
  have hnot:∀ j,Region.waitsFor .any l.toArray j i=true→listed.getD j false=true→False:=fun j hw hl=>by
    obtain⟨oj,hoj,e,he,hb,heq⟩:=Region.waitsFor_spec hw
    have:=inv.head.closed j oj hoj hl e he hb
    rw [heq,hiun] at this
    cases this
  have hch1:=hch
  unfold S7 at hch1
  let g:Nat→Option Value:=fun t=>match J0 s t with|some j=>some (vs j)|none=>Fl.look ρ0 t
  have hsrcl:∀ t∈C4 o,∀ j,J0 s t=some j→j < n∧listed.getD j false=true∧(l.toArray[j]?).bind (·.dst)=some t:=fun t ht j hj=>by
    have hro:=List.all_eq_true.1 hreads t ht
    unfold a0I at hro
    simp only [hj,Bool.and_eq_true,beq_iff_eq] at hro
    exact⟨by simpa [Nat.blt_eq] using hro.1.1,hlisted j hro.2,hro.1.2⟩
  have hfits:Fits N (a0i g (C4 o)) a:=by
    refine⟨inv.defers,inv.size,fun t v hv => ?_⟩
    obtain⟨hmem,hg⟩:=a0J hv
    cases hsrc:J0 s t with
    | some j =>
      obtain⟨h1,h2,h3⟩:=hsrcl t hmem j hsrc
      have hgv:vs j=v:=by simpa [g,hsrc] using hg
      rw [←hgv]
      exact inv.a5u j t h1 h2 h3
    | none =>
      have hro:=List.all_eq_true.1 hreads t hmem
      unfold a0I at hro
      simp only [hsrc] at hro
      refine inv.a7q t v (by simpa [g,hsrc] using hg) fun j hj hl hdj => ?_
      have h1:=List.all_eq_true.1 hro j (List.mem_range.2 hj)
      simp only [hdj,beq_self_eq_true,Bool.not_true,Bool.false_or,Bool.or_eq_true,beq_iff_eq] at h1
      rcases h1 with h1|h1
      · subst h1;rw [hiun] at hl;cases hl
      · exact hnot j h1 hl
  have henv:∀ t b,F0 (D3 σ0 (cacc++accP) s (C4 o)) t=some b→∃ u,Fl.look (a0i g (C4 o)) t=some u∧F8 J b u:=fun t b hb=>by
    obtain⟨hmem,hb2⟩:=a0P hb
    cases hsrc:J0 s t with
    | some j =>
      simp only [hsrc] at hb2
      obtain⟨h1,h2,_⟩:=hsrcl t hmem j hsrc
      obtain⟨r,h3,h4⟩:=inv.val j h1 h2
      rw [hb2] at h3
      cases h3
      exact⟨vs j,by rw [L6 hmem];simp [g,hsrc],h4⟩
    | none =>
      simp only [hsrc] at hb2
      obtain⟨u,h1,h2⟩:=h0.env t b hb2
      exact⟨u,by rw [L6 hmem];simpa [g,hsrc] using h1,h2.mono inv.le⟩
  have hR:RSt C J L (D3 σ0 (cacc++accP) s (C4 o)) H (a0i g (C4 o)):=⟨henv,inv.heap,inv.W3⟩
  have hput:∀ j,j≠i→(listed.setIfInBounds i true).getD j false=listed.getD j false:=fun j hj=>getD_set_ne false (Ne.symm hj)
  have hdne:∀ j,j < n→j≠i→∀ d',(l.toArray[j]?).bind (·.dst)=some d'→o.dst≠some d':=by
    intro j hj hji d' hd' hod
    have hdi:(l.toArray[i]?).bind (·.dst)=some d':=by rw [ho];exact hod
    rcases Nat.lt_or_gt_of_ne hji with h1|h1
    · have:=List.all_eq_true.1 (List.all_eq_true.1 hdst i (List.mem_range.2 hin)) j (List.mem_range.2 h1)
      rw [hdi,hd'] at this
      simp at this
    · have:=List.all_eq_true.1 (List.all_eq_true.1 hdst j (List.mem_range.2 hj)) i (List.mem_range.2 h1)
      rw [hdi,hd'] at this
      simp at this
  -- what a finished operation does
  have fin : ∀ v J' L' H' k' cacc' w' r, Le J J' → St C J' L' w' → U2 C.w0.heap.size J' H' L' → F8 J' r v → o9 (cacc' ++ accP) i = some r → (∀ j, j ≠ i → o9 (cacc' ++ accP) j = o9 (cacc ++ accP) j) → k' ≤ ci.length →
      (∀ m i',ci[m]?=some i'→((listed.setIfInBounds i true).getD i' false=true↔m < k'))→S2 P C N σ0 HT accP F (cl.drop k') cacc' H'→(∀ j r,o9 cacc' j=some r→j∈ci)→(∀ j r r0,o9 cacc' j=some r→o9 accP j=some r0→r=r0)→(∀ j,j∈ci→(listed.setIfInBounds i true).getD j false=true→∃ r,o9 cacc' j=some r)→K (a.put o.dst v) w':=by
    intro v J' L' H' k' cacc' w' r hle hst hH hv hri hrj hk' hch' hpl hkeys hprom hproL
    refine hK k' cacc' H' J' L' (fun j=>if j=i then v else vs j) _ _ ⟨inv.head.set hr hin,inv.le.trans hle,inv.W3.trans hle,hst,hH,hk',hch',hpl,hkeys,hprom,hproL,fun j hj hl => ?_,?_,?_,fun j d' hj hl hd' => ?_,fun t u hu hno => ?_⟩
    · by_cases hji:j=i
      · subst hji
        exact⟨r,hri,by simpa using hv⟩
      · rw [hput j hji] at hl
        obtain⟨q,h1,h2⟩:=inv.val j hj hl
        exact⟨q,(hrj j hji).trans h1,by simpa [hji] using h2.mono hle⟩
    · rw [put_defers];exact inv.defers
    · rw [b0X];exact inv.size
    · by_cases hji:j=i
      · subst hji
        have hod:o.dst=some d':=by rw [ho] at hd';exact hd'
        rw [hod,put_eq _ _ (by rw [inv.size];exact hdN d' hod),if_pos rfl]
      · rw [hput j hji] at hl
        rw [a9M _ _ (hdne j hj hji d' hd'),if_neg hji]
        exact inv.a5u j d' hj hl hd'
    · rw [a9M _ _ (fun hod=>hno i hin (G7 hilt) (by rw [ho];exact hod))]
      refine inv.a7q t u hu fun j hj hl=>hno j hj ?_
      by_cases hji:j=i
      · subst hji;rw [hiun] at hl;cases hl
      · rw [hput j hji];exact hl
  -- the guard
  have hgrd:∀ gi want,o.guard=some (gi,want)→∀ b,o9 accP gi=some (.v b)→yielded l.toArray a.tmps gi=some b:=fun gi want hg b hb=>by
    rw [hg] at hguard
    simp only [Bool.and_eq_true] at hguard
    have hgn:gi < n:=by simpa [Nat.blt_eq] using hguard.1.1
    have hgl:=hlisted gi hguard.1.2
    obtain⟨r,h1,h2⟩:=inv.val gi hgn hgl
    have hr2:r = .v b:=by
      rw [C0] at h1
      cases hc:o9 cacc gi with
      | some q =>
        rw [hc] at h1
        cases h1
        exact inv.prom gi _ _ hc hb
      | none =>
        rw [hc] at h1
        simp only at h1
        rw [hb] at h1
        exact(Option.some.inj h1).symm
    subst hr2
    obtain⟨cs,rfl,hvs⟩:=h2
    obtain⟨dg,hdg0⟩:=Option.isSome_iff_exists.1 hguard.2
    obtain⟨og,hog,hdg⟩:=Option.bind_eq_some_iff.1 hdg0
    have htg:=inv.a5u gi dg hgn hgl (by rw [hog];exact hdg)
    rw [hvs] at htg
    unfold yielded
    rw [hog]
    simp only [Option.bind_some,hdg,htg]
    rfl
  unfold wpOpIn
  simp only [ho]
  by_cases hic:i∈ci
  · obtain⟨m,hm⟩:=List.mem_iff_getElem?.1 hic
    have hmk:¬m < k:=fun h=>by
      have:=(inv.ch m i hm).2 h
      rw [hiun] at this;cases this
    have hml:m < ci.length:=(List.getElem?_eq_some_iff.1 hm).1
    have hkm:m≤k:=by
      cases m with
      | zero=>omega
      | succ mj =>
        have h1:=List.all_eq_true.1 hch1 (mj+1) (List.mem_range.2 hml)
        simp only [hm,Bool.and_eq_true] at h1
        cases hj:ci[mj]? with
        | none=>simp [hj] at h1
        | some j =>
          simp only [hj,Bool.and_eq_true] at h1
          have:=(inv.ch mj j hj).1 (hlisted j h1.2.2)
          omega
    have hmk':m=k:=by omega
    subst hmk'
    have hc:=hcl m i o s hm hol hs
    have hdrop:cl.drop m=(i,o,s)::cl.drop (m+1):=by
      have hlt:=(List.getElem?_eq_some_iff.1 hc).1
      rw [List.drop_eq_getElem_cons hlt]
      congr 1
      rw [List.getElem?_eq_getElem hlt] at hc
      exact Option.some.inj hc
    have hpl:=inv.pl
    rw [hdrop,S2] at hpl
    replace hpl:=hpl.2
    have hch':∀ mj i',ci[mj]?=some i'→((listed.setIfInBounds i true).getD i' false=true↔mj < m+1):=fun mj i' hm'=>by
      by_cases e:i'=i
      · subst e
        have hlj:=(List.getElem?_eq_some_iff.1 hm').1
        have heq:ci[mj]'hlj=ci[m]'hml:=by rw [(List.getElem?_eq_some_iff.1 hm').2,(List.getElem?_eq_some_iff.1 hm).2]
        have:mj=m:=by
          rcases Nat.lt_trichotomy mj m with h|h|h
          · exact absurd heq ((List.pairwise_iff_getElem.1 hnd) mj m hlj hml h)
          · exact h
          · exact absurd heq.symm ((List.pairwise_iff_getElem.1 hnd) m mj hml hlj h)
        exact⟨fun _=>by omega,fun _=>G7 hilt⟩
      · rw [hput i' e,inv.ch mj i' hm']
        have:mj≠m:=by
          rintro rfl
          rw [hm] at hm';exact e (Option.some.inj hm').symm
        omega
    have hkeys:∀ r,∀ j q,o9 ((i,r)::cacc) j=some q→j∈ci:=fun r j q hq=>by
      rw [y5] at hq
      by_cases e:i=j
      · subst e;exact hic
      · rw [if_neg e] at hq;exact inv.keys j q hq
    have hself:∀ r,o9 ((i,r)::cacc++accP) i=some r:=fun r=>by rw [List.cons_append,y5,if_pos rfl]
    have hoth:∀ r j,j≠i→o9 ((i,r)::cacc++accP) j=o9 (cacc++accP) j:=fun r j hj=>by rw [List.cons_append,y5,if_neg (Ne.symm hj)]
    have hprom:∀ r,(∀ r0,o9 accP i=some r0→r=r0)→∀ j q r0,o9 ((i,r)::cacc) j=some q→o9 accP j=some r0→q=r0:=fun r hr0 j q r0 hq h0=>by
      rw [y5] at hq
      by_cases e:i=j
      · subst e;rw [if_pos rfl] at hq;cases hq;exact hr0 r0 h0
      · rw [if_neg e] at hq;exact inv.prom j q r0 hq h0
    have hproL:∀ r,∀ j,j∈ci→(listed.setIfInBounds i true).getD j false=true→∃ q,o9 ((i,r)::cacc) j=some q:=fun r j hj hl=>by
      by_cases e:i=j
      · subst e;exact⟨r,by rw [y5,if_pos rfl]⟩
      · rw [hput j (Ne.symm e)] at hl
        obtain⟨q,hq⟩:=inv.b7e j hj hl
        exact⟨q,by rw [y5,if_neg e];exact hq⟩
    have run : ∀ (R : AV → AV), (∀ r r0, o9 accP i = some r0 → R r = r0) → ∀ Z : AV → Prop, (∀ r, Z r → ∀ J' u, F8 J' r u → F8 J' (R r) u) →
        B3 P C N o (D3 σ0 (cacc++accP) s (C4 o)) H (fun r H'=>Z r∧S2 P C N σ0 HT accP F (cl.drop (m+1)) ((i,R r)::cacc) H')→o.wpIn C.fen 0 P a w K Q':=fun R hR0 Z hZ h=>by
      refine Yld.wp ((h _ J L hR a w hfits inv.st).mono ?_)
      rintro v w' ⟨J',L',hst,hle,r,H',h1,h2,h3,h4⟩
      exact fin v J' L' H' (m+1) ((i,R r)::cacc) w' (R r) hle hst h2 (hZ r h3 _ _ h1) (hself _) (hoth _) (by omega) hch' h4 (hkeys _) (hprom _ (hR0 r)) (hproL _)
    have skipd:∀ b want r,o.guard.isSome=true→(∀ r0,o9 accP i=some r0→r=r0)→F8 J r undef→S2 P C N σ0 HT accP F (cl.drop (m+1)) ((i,r)::cacc) H→(b:Bool) = !want→K (a.put o.dst undef) w:=fun b want r _ hr0 hu hp _ =>
      fin undef J L H (m+1) ((i,r)::cacc) w r (Le.refl J) inv.st inv.heap hu (hself r) (hoth r) (by omega) hch' hp (hkeys r) (hprom r hr0) (hproL r)
    cases hg:o.guard with
    | none =>
      rw [if_pos (by simp [Region.wanted,hg])]
      cases hpr:o9 accP i with
      | none =>
        rw [hg,hpr] at hpl
        exact run (fun r=>r) (fun r r0 h=>by rw [hpr] at h;cases h) (fun _=>True) (fun _ _ _ _ h=>h) (by
          intro ρ' I' L' hs' a' w' ha' hst'
          exact Yld.mono (hpl ρ' I' L' hs' a' w' ha' hst') (fun v w'' ⟨J',L'',q1,q2,r,H',q3,q4,q5⟩=>⟨J',L'',q1,q2,r,H',q3,q4,trivial,q5⟩))
      | some r0 =>
        rw [hg,hpr] at hpl
        exact run (fun _=>r0) (fun r q h=>by rw [hpr] at h;exact Option.some.inj h) (fun r=>r=r0) (fun r hr _ _ h=>hr▸h) hpl
    | some gw =>
      obtain⟨gi,want⟩:=gw
      cases hpr:o9 accP i with
      | none =>
        rw [hg,hpr] at hpl
        obtain⟨b,hb,h1,h2⟩:=hpl
        have hy:=hgrd gi want hg b hb
        by_cases hbw:b=want
        · rw [if_pos (by simp [Region.wanted,hg,hy,hbw])]
          exact run (fun r=>r) (fun r r0 h=>by rw [hpr] at h;cases h) (fun _=>True) (fun _ _ _ _ h=>h) (by
            intro ρ' I' L' hs' a' w' ha' hst'
            exact Yld.mono (h1 hbw ρ' I' L' hs' a' w' ha' hst') (fun v w'' ⟨J',L'',q1,q2,r,H',q3,q4,q5⟩=>⟨J',L'',q1,q2,r,H',q3,q4,trivial,q5⟩))
        · have hwf:¬Region.wanted o (yielded l.toArray a.tmps)=true:=by simpa [Region.wanted,hg,hy] using hbw
          rw [if_neg hwf]
          refine⟨fun _ _=>trivial,?_⟩
          have hbn:b = !want:=b7d hbw
          exact skipd b want .any (by simp [hg]) (fun r0 h=>by rw [hpr] at h;cases h) trivial (h2 hbn) hbn
      | some r0 =>
        rw [hg,hpr] at hpl
        obtain⟨b,c,hb,rfl,h1,h2⟩:=hpl
        have hy:=hgrd gi want hg b hb
        by_cases hbw:b=want
        · rw [if_pos (by simp [Region.wanted,hg,hy,hbw])]
          exact run (fun _ => .opt (b == want) c) (fun r q h=>by rw [hpr] at h;exact Option.some.inj h) (fun r=>r=c) (fun r hr J' u h _=>hr▸h) (h1 hbw)
        · have hwf:¬Region.wanted o (yielded l.toArray a.tmps)=true:=by simpa [Region.wanted,hg,hy] using hbw
          rw [if_neg hwf]
          refine⟨fun _ _=>trivial,?_⟩
          have hbn:b = !want:=b7d hbw
          exact skipd b want (.opt (b == want) c) (by simp [hg]) (fun q h=>by rw [hpr] at h;exact Option.some.inj h) (fun hc=>absurd (by simpa using hc) hbw) (h2 hbn) hbn
  · obtain⟨r,hri,hd⟩:=hp i o s hin hic hol hs
    have hcn:∀ j,j∉ci→o9 cacc j=none:=fun j hj=>by
      cases hc:o9 cacc j with
      | none=>rfl
      | some q=>exact absurd (inv.keys j q hc) hj
    have hself:o9 (cacc++accP) i=some r:=by rw [C0,hcn i hic];exact hri
    have hRq:RSt C J L (D3 σ0 accP s (C4 o)) H (a0i g (C4 o)):=hR.sub fun t b hb=>by
      obtain⟨hmem,hb2⟩:=a0P hb
      refine a4s ?_ hmem
      cases hsrc:J0 s t with
      | none=>simp only [hsrc] at hb2 ⊢;exact hb2
      | some j =>
        simp only [hsrc] at hb2 ⊢
        rw [C0]
        cases hc:o9 cacc j with
        | none=>exact hb2
        | some q=>exact congrArg some (inv.prom j q b hc hb2)
    have hproL:∀ j,j∈ci→(listed.setIfInBounds i true).getD j false=true→∃ q,o9 cacc j=some q:=fun j hj hl=>by
      have:j≠i:=by rintro rfl;exact hic hj
      rw [hput j this] at hl;exact inv.b7e j hj hl
    have hch':∀ mj i',ci[mj]?=some i'→((listed.setIfInBounds i true).getD i' false=true↔mj < k):=fun mj i' hm'=>by
      have:i'≠i:=by rintro rfl;exact hic (List.mem_of_getElem? hm')
      rw [hput i' this];exact inv.ch mj i' hm'
    obtain⟨Hp,hHp⟩:=inv.pl.tail
    have hdH:=hd Hp
    rw [←hHp] at hdH
    unfold a4J at hdH
    have run:∀ (c:AV),j5 P N C o (D3 σ0 accP s (C4 o)) H (fun r'=>r'=c)→(∀ J' u,F8 J' c u→F8 J' r u)→o.wpIn C.fen 0 P a w K Q':=fun c h hcr=>by
      refine Yld.wp ((h _ J L hRq a w hfits inv.st.mem).mono ?_)
      rintro v w' ⟨J',X,hc,hle,hn,hm,hX,rfl,r',h1,rfl⟩
      have hst:=(inv.st.step hc hle hn hm hX)
      rw [List.nil_append] at hst
      exact fin v J' L H k cacc w' r hle hst (inv.heap.mono hle) (hcr _ _ h1) hself (fun j hj=>rfl) inv.kle hch' inv.pl inv.keys inv.prom hproL
    cases hg:o.guard with
    | none =>
      rw [hg] at hdH
      rw [if_pos (by simp [Region.wanted,hg])]
      exact run r hdH (fun _ _ h=>h)
    | some gw =>
      obtain⟨gi,want⟩:=gw
      rw [hg] at hdH
      obtain⟨b,c,hb,rfl,h2⟩:=hdH
      have hy:=hgrd gi want hg b hb
      by_cases hbw:b=want
      · rw [if_pos (by simp [Region.wanted,hg,hy,hbw])]
        exact run c (h2 hbw) (fun _ _ h _=>h)
      · have hwf:¬Region.wanted o (yielded l.toArray a.tmps)=true:=by simpa [Region.wanted,hg,hy] using hbw
        rw [if_neg hwf]
        refine⟨fun _ _=>trivial,?_⟩
        exact fin undef J L H k cacc w (.opt (b == want) c) (Le.refl J) inv.st inv.heap (fun hc=>absurd (by simpa using hc) hbw) hself (fun j hj=>rfl) inv.kle hch' inv.pl inv.keys inv.prom hproL
theorem b4k {Q' : Exit → Act → World → Prop} (h0 : RSt C I L0 σ0 H0 ρ0) (hN : M4 N l = true) (hback : a1E l.toArray = true) (hok : ∀ i, i < n → a0F l.toArray n ss i = true) (hdst : a5D l.toArray n = true) (hch : S7 l.toArray n ss ci = true)
    (hcl:∀ (m i:Nat) (o:Oper) (s:List (Nat×Nat)),ci[m]?=some i→l[i]?=some o→ss[i]?=some s→cl[m]?=some (i,o,s)) (hnd:ci.Nodup)
    (hp:∀ i o s,i < n→i∉ci→l[i]?=some o→ss[i]?=some s→∃ r,o9 accP i=some r∧a1T P N C σ0 HT accP o s r)
    (hle:n≤l.length) (htail:n=l.length∨(Region.sinkB .any l.toArray n=true∧Region.chainB .any l.toArray n=true)) (hseq:Region.seqB .any l.toArray (l.length - n) n (Q4 l.length n)=true)
    (hfin:∀ listed k cacc H J L vs a w,b5m P C N n l ci cl σ0 HT accP F ρ0 I listed k cacc H J L vs a w→(∀ j,j < n→listed.getD j false=true)→wpListIn C.fen 0 P l.toArray Q' (l.drop n) a w) :
    ∀ (m:Nat) (listed:Array Bool) k cacc H J L vs a w,b5m P C N n l ci cl σ0 HT accP F ρ0 I listed k cacc H J L vs a w→unl listed n=m→wpAnyIn C.fen 0 P .any l.toArray Q' (m+(l.length - n)) listed a w
  | 0,listed,k,cacc,H,J,L,vs,a,w,inv,hm=>by
    have hsz:listed.size=l.length:=by simpa using inv.head.size
    have hall:∀ j,j < n→listed.getD j false=true:=fun j hj=>a4X (by omega) (a2I hm j hj)
    have heq:listed=Q4 l.length n:=by
      refine Array.ext (by simp [Q4,hsz]) fun j h1 h2 => ?_
      have e1:(Q4 l.length n)[j]'h2=Nat.blt j n:=by simp [Q4]
      rw [e1]
      by_cases hj:j < n
      · have:=hall j hj
        simp [h1] at this
        rw [this]
        exact(Nat.blt_eq▸hj:Nat.blt j n=true).symm
      · have:=inv.head.tail j (by omega) (by simp;omega)
        simp [h1] at this
        rw [this]
        cases hb:Nat.blt j n
        · rfl
        · exact absurd (Nat.blt_eq▸hb:j < n) hj
    have hw:=hfin listed k cacc H J L vs a w inv hall
    have h2:=a0k (md := .any) (Q':=Q') (l.drop n) n listed a w (fun j=>by simp [List.getElem?_drop]) (by rw [heq];simpa using hseq) hw
    simpa using h2
  | m+1,listed,k,cacc,H,J,L,vs,a,w,inv,hm=>by
    have hsz:listed.size=l.length:=by simpa using inv.head.size
    obtain⟨i,hin,hi,hlt⟩:=a9o hm
    have hr:=a1L hback (by simpa using inv.head.size) hi hlt
    rw [show m+1+(l.length - n)=(m+(l.length - n))+1 by omega]
    refine⟨fun h0=>(by rw [h0] at hr;cases hr),fun j hj => ?_⟩
    have hjn:j < n:=by
      rcases Nat.lt_or_ge j n with h|h
      · exact h
      · rcases htail with ht|⟨hs,hc⟩
        · obtain⟨_,o,ho,_⟩:=mem_ready.1 hj
          have:=(Array.getElem?_eq_some_iff.1 ho).1
          simp at this
          omega
        · have hnl:n < l.toArray.size:=by
            obtain⟨_,o,ho,_⟩:=mem_ready.1 hj
            have:=(Array.getElem?_eq_some_iff.1 ho).1
            omega
          exact absurd hj (tail_waits hs hc hnl inv.head _ i rfl hin hi j h)
    refine inv.step h0 hN hok hdst hch hcl hnd hp hj hjn fun k' cacc' H' J' L' vs' a' w' inv' => ?_
    refine b4k h0 hN hback hok hdst hch hcl hnd hp hle htail hseq hfin m _ k' cacc' H' J' L' vs' a' w' inv' ?_
    have hu:=(mem_ready.1 hj).1
    have:=a7c hu hjn
    omega
end
def a1U (P:Program) (N:Nat) (C:Ctx) (σ0:x5) {ι:Type 1} (HT:ι→j7) (ci:List Nat) (F:List (Nat×AV)→Prop):List Oper→List (List (Nat×Nat))→Nat→List (Nat×AV)→Prop
 | [],_,_,acc=>F acc
 | o::os,s::ss,k,acc=>bif ci.contains k then a1U P N C σ0 HT ci F os ss (k+1) acc∨∃ r,a1U P N C σ0 HT ci F os ss (k+1) ((k,r)::acc) else ∃ r,a1T P N C σ0 HT acc o s r∧a1U P N C σ0 HT ci F os ss (k+1) ((k,r)::acc)
 | _,[],_,_=>False
def I3 (l:List Oper) (ss:List (List (Nat×Nat))):List Nat→List (Nat×Oper×List (Nat×Nat))
 | [] => []
 | i::r=>match l[i]?,ss[i]? with
  | some o,some s=>(i,o,s)::I3 l ss r
  | _,_=>I3 l ss r
theorem a3W {l:List Oper} {ss:List (List (Nat×Nat))}:∀ (ci:List Nat),(∀ i∈ci,∃ o s,l[i]?=some o∧ss[i]?=some s)→∀ (m i:Nat) (o:Oper) (s:List (Nat×Nat)),ci[m]?=some i→l[i]?=some o→ss[i]?=some s→(I3 l ss ci)[m]?=some (i,o,s)
 | [],_,m,i,o,s,h,_,_=>by simp at h
 | j::r,h0,m,i,o,s,h,h1,h2=>by
  obtain⟨o',s',h3,h4⟩:=h0 j List.mem_cons_self
  simp only [I3,h3,h4]
  cases m with
  | zero =>
   simp only [List.getElem?_cons_zero,Option.some.injEq] at h ⊢
   subst h
   rw [h1] at h3;rw [h2] at h4
   cases h3;cases h4;rfl
  | succ m=>simpa using a3W r (fun i hi=>h0 i (List.mem_cons_of_mem _ hi)) m i o s (by simpa using h) h1 h2
theorem a2j {P : Program} {N : Nat} {C : Ctx} {σ0 : x5} {ι : Type 1} {HT : ι → j7} {ci : List Nat} {F : List (Nat × AV) → Prop} : ∀ (os : List Oper) (ss : List (List (Nat × Nat))) (k : Nat) (acc : List (Nat × AV)), (∀ j r, o9 acc j = some r → j < k) → a1U P N C σ0 HT ci F os ss k acc →
    ∃ full,F full∧(∀ j,j < k→o9 full j=o9 acc j) ∧
      ∀ i o s,os[i]?=some o→ss[i]?=some s→k+i∉ci→∃ r acc',o9 full (k+i)=some r∧a1T P N C σ0 HT acc' o s r∧∀ j,j < k+i→o9 acc' j=o9 full j
  | [],ss,k,acc,hacc,h=>⟨acc,by cases ss<;>exact h,fun _ _=>rfl,fun i o s ho=>by simp at ho⟩
  | o::os,[],k,acc,_,h=>h.elim
  | o::os,s::ss,k,acc,hacc,h=>by
    simp only [a1U] at h
    have hacc2:∀ r,∀ j q,o9 ((k,r)::acc) j=some q→j < k+1:=fun r j q hj=>by
      rw [y5] at hj
      by_cases e:k=j
      · omega
      · rw [if_neg e] at hj;have:=hacc j q hj;omega
    cases hc:ci.contains k with
    | true =>
      rw [hc] at h
      simp only [cond_true] at h
      have fin : ∀ acc2, (∀ j, j < k → o9 acc2 j = o9 acc j) → (∀ j r, o9 acc2 j = some r → j < k + 1) → a1U P N C σ0 HT ci F os ss (k + 1) acc2 → ∃ full, F full ∧ (∀ j, j < k → o9 full j = o9 acc j) ∧
          ∀ i o' s',(o::os)[i]?=some o'→(s::ss)[i]?=some s'→k+i∉ci→∃ r acc',o9 full (k+i)=some r∧a1T P N C σ0 HT acc' o' s' r∧∀ j,j < k+i→o9 acc' j=o9 full j:=fun acc2 ha hb h=>by
        obtain⟨full,hF,h1,h3⟩:=a2j os ss (k+1) acc2 hb h
        refine⟨full,hF,fun j hj=>(h1 j (by omega)).trans (ha j hj),fun i o' s' ho hs hni => ?_⟩
        cases i with
        | zero=>exact absurd (by simpa using hc) hni
        | succ i =>
          have e:k+(i+1)=k+1+i:=by omega
          rw [e]
          exact h3 i o' s' (by simpa using ho) (by simpa using hs) (by rw [←e];exact hni)
      rcases h with h|⟨r,h⟩
      · exact fin acc (fun _ _=>rfl) (fun j r hj=>Nat.lt_succ_of_lt (hacc j r hj)) h
      · exact fin ((k,r)::acc) (fun j hj=>by rw [y5,if_neg (by omega)]) (hacc2 r) h
    | false =>
      rw [hc] at h
      simp only [cond_false] at h
      obtain⟨r,hd,h⟩:=h
      obtain⟨full,hF,h1,h3⟩:=a2j os ss (k+1) ((k,r)::acc) (hacc2 r) h
      refine⟨full,hF,fun j hj=>by rw [h1 j (by omega),y5,if_neg (by omega)],fun i o' s' ho hs hni => ?_⟩
      cases i with
      | zero =>
        simp only [List.getElem?_cons_zero,Option.some.injEq] at ho hs
        subst ho;subst hs
        refine⟨r,acc,by rw [Nat.add_zero,h1 k (by omega),y5,if_pos rfl],hd,fun j hj => ?_⟩
        rw [Nat.add_zero] at hj
        rw [h1 j (by omega),y5,if_neg (by omega)]
      | succ i =>
        have e:k+(i+1)=k+1+i:=by omega
        rw [e]
        exact h3 i o' s' (by simpa using ho) (by simpa using hs) (by rw [←e];exact hni)
def a8p (vs:Nat→Value):List Oper→Nat→Env→Env
 | o::os,k,ρ=>match o.dst with
  | some d=>a8p vs os (k+1) ((d,vs k)::ρ)
  | none=>a8p vs os (k+1) ρ
 | [],_,ρ=>ρ
theorem a7j {C : Ctx} {J : Im} {L : Lh} {H : j7} {acc : List (Nat × AV)} {vs : Nat → Value} : ∀ (os : List Oper) (k : Nat) (σ : x5) (ρ : Env), RSt C J L σ H ρ → (∀ i o, os[i]? = some o → ∃ r, o9 acc (k + i) = some r ∧ F8 J r (vs (k + i))) →
    RSt C J L (a1q acc os k σ) H (a8p vs os k ρ)
  | [],k,σ,ρ,hs,_=>hs
  | o::os,k,σ,ρ,hs,hd=>by
    obtain⟨r,h1,h2⟩:=hd 0 o rfl
    simp only [Nat.add_zero] at h1 h2
    have hd':∀ i o',os[i]?=some o'→∃ r,o9 acc (k+1+i)=some r∧F8 J r (vs (k+1+i)):=fun i o' ho=>by
      have:=hd (i+1) o' (by simpa using ho)
      rwa [show k+(i+1)=k+1+i by omega] at this
    cases ho:o.dst with
    | none=>simp only [a1q,a8p,ho];exact a7j os (k+1) σ ρ hs hd'
    | some d=>simp only [a1q,a8p,ho,h1];exact a7j os (k+1) _ _ (hs.put (Le.refl J) h2 hs.heap) hd'
theorem a4t {N : Nat} {vs : Nat → Value} {a : Act} (hd : a.defers = []) (hsz : a.tmps.size = N) : ∀ (os : List Oper) (k : Nat) (ρ : Env),
    (∀ (i:Nat) (o:Oper) (d:Nat),os[i]?=some o→o.dst=some d→a.tmps[d]?=some (vs (k+i)))→(∀ t v,Fl.look ρ t=some v→(∀ (i:Nat) (o:Oper),os[i]?=some o→o.dst≠some t)→a.tmps[t]?=some v)→Fits N (a8p vs os k ρ) a
  | [],k,ρ,_,h=>⟨hd,hsz,fun t v hv=>h t v hv (fun i o ho=>by simp at ho)⟩
  | o::os,k,ρ,hI,hO=>by
    have hI':∀ (i:Nat) (o':Oper) (d:Nat),os[i]?=some o'→o'.dst=some d→a.tmps[d]?=some (vs (k+1+i)):=fun i o' d ho hdd=>by
      have:=hI (i+1) o' d (by simpa using ho) hdd
      rwa [show k+(i+1)=k+1+i by omega] at this
    cases ho:o.dst with
    | none =>
      simp only [a8p,ho]
      refine a4t hd hsz os (k+1) ρ hI' fun t v hv hno=>hO t v hv fun i o' ho' => ?_
      cases i with
      | zero=>simp only [List.getElem?_cons_zero,Option.some.injEq] at ho';subst ho';rw [ho];exact fun h=>by cases h
      | succ i=>exact hno i o' (by simpa using ho')
    | some d =>
      simp only [a8p,ho]
      refine a4t hd hsz os (k+1) _ hI' fun t v hv hno => ?_
      rw [Fl.U0] at hv
      by_cases e:d=t
      · subst e
        rw [if_pos rfl] at hv
        cases hv
        have:=hI 0 o d rfl ho
        simpa using this
      · rw [if_neg e] at hv
        refine hO t v hv fun i o' ho' => ?_
        cases i with
        | zero =>
          simp only [List.getElem?_cons_zero,Option.some.injEq] at ho'
          subst ho'
          rw [ho]
          exact fun h=>e (Option.some.inj h)
        | succ i=>exact hno i o' (by simpa using ho')
theorem I9.b7f {P : Program} {C : Ctx} {N : Nat} {Q : Exit → x5 → j7 → Prop} {σ : x5} {H : j7} {id : Nat} {l : List Oper} {ι : Type 1} (HT : ι → j7) (hm : P.follows .mixedOrders = true) (n : Nat) (ss : List (List (Nat × Nat))) (ci : List Nat)
    (hN:M4 N l=true) (hB:a1S l.toArray n ss=true) (hss:Nat.ble n ss.length=true) (hC:S7 l.toArray n ss ci=true) (hnd:ci.Nodup)
    (h:a1U P N C σ HT ci (fun accP=>S2 P C N σ HT accP (fun cacc H'=>D1 P C N l.toArray Q (l.drop n) (a1q (cacc++accP) (l.take n) 0 σ) H') (I3 l ss ci) [] H) (l.take n) ss 0 []) :
    I9 P C N (.region id l.toArray true) Q σ H:=fun ρ I L hs a w ha hst=>by
  have hB0:=hB
  simp only [a1S,Bool.and_eq_true,Bool.or_eq_true] at hB
  obtain⟨⟨⟨⟨⟨hle,hback⟩,hok⟩,hdst⟩,htail⟩,hseq⟩:=hB
  have hle':n≤l.length:=by simpa using Nat.le_of_ble_eq_true hle
  have hok':∀ i,i < n→a0F l.toArray n ss i=true:=fun i hi=>List.all_eq_true.1 hok i (List.mem_range.2 hi)
  have hssl:=Nat.le_of_ble_eq_true hss
  obtain⟨full,hF,_,hd⟩:=a2j (l.take n) ss 0 [] (fun j r hj=>by simp [o9] at hj) h
  have hC':=hC
  unfold S7 at hC'
  have hcin:∀ i∈ci,i < n:=fun i hi=>by
    obtain⟨m,hm⟩:=List.mem_iff_getElem?.1 hi
    have h1:=List.all_eq_true.1 hC' m (List.mem_range.2 (List.getElem?_eq_some_iff.1 hm).1)
    simp only [hm,Bool.and_eq_true] at h1
    simpa [Nat.blt_eq] using h1.1
  have hcl:=a3W (l:=l) (ss:=ss) ci (fun i hi=>⟨_,_,List.getElem?_eq_getElem (Nat.lt_of_lt_of_le (hcin i hi) hle'),List.getElem?_eq_getElem (Nat.lt_of_lt_of_le (hcin i hi) hssl)⟩)
  have hp:∀ i o s,i < n→i∉ci→l[i]?=some o→ss[i]?=some s→∃ r,o9 full i=some r∧a1T P N C σ HT full o s r:=fun i o s hi hic ho hsi=>by
    obtain⟨r,acc',h1,h2,h3⟩:=hd i o s (by rw [List.getElem?_take,if_pos hi];exact ho) hsi (by simpa using hic)
    rw [Nat.zero_add] at h1 h3
    refine⟨r,h1,fun H' => ?_⟩
    have hoi:=hok' i hi
    unfold a0F at hoi
    have ho':l.toArray[i]?=some o:=by simpa using ho
    simp only [ho',hsi,Bool.and_eq_true] at hoi
    have hback':∀ j,Region.waitsFor .any l.toArray i j=true→j < i:=fun j hw=>by
      obtain⟨e,he,hb,heq⟩:=a0K ho' hw
      have hil:i < l.toArray.size:=(Array.getElem?_eq_some_iff.1 ho').1
      have h4:=List.all_eq_true.1 hback i (List.mem_range.2 hil)
      simp only [ho',Array.all_eq_true_iff_forall_mem] at h4
      have h5:=h4 e he
      rw [hb] at h5
      have:e.on < i:=by simpa [Nat.blt_eq] using h5
      omega
    -- sources that are no operand are looked at too
    have henv:∀ t∈C4 o,∀ j,J0 s t=some j→o9 acc' j=o9 full j:=fun t ht j hj=>by
      have h6:=List.all_eq_true.1 hoi.1 t ht
      unfold a0I at h6
      simp only [hj,Bool.and_eq_true] at h6
      exact h3 j (hback' j h6.2)
    have hdd:=h2 H'
    unfold a4J at hdd ⊢
    have he:∀ ts,(∀ t∈ts,t∈C4 o)→D3 σ acc' s ts=D3 σ full s ts:=by
      intro ts
      induction ts with
      | nil=>intro _;rfl
      | cons t ts ih =>
        intro hts
        simp only [D3]
        cases hsrc:J0 s t with
        | none=>simp only [ih (fun u hu=>hts u (List.mem_cons_of_mem _ hu))]
        | some j=>simp only [henv t (hts t List.mem_cons_self) j hsrc,ih (fun u hu=>hts u (List.mem_cons_of_mem _ hu))]
    rw [←he _ (fun t ht=>ht)]
    cases hg:o.guard with
    | none=>rw [hg] at hdd;exact hdd
    | some p =>
      obtain⟨g,want⟩:=p
      rw [hg] at hdd
      have h6:=hoi.2
      rw [hg] at h6
      simp only [Bool.and_eq_true] at h6
      simp only at hdd ⊢
      rw [←h3 g (hback' g h6.1.2)];exact hdd
  have hs':St C I L { w with drawn:=w.drawn+1 }:=⟨⟨hst.mem.im,hst.mem.loc,hst.mem.sep,hst.mem.nodup⟩,⟨hst.chg.os,hst.chg.tape,hst.chg.output,hst.chg.size,hst.chg.block⟩,hst.own,hst.W3,hst.new⟩
  refine wpIn_region_any hm ?_
  have inv0:b5m P C N n l ci (I3 l ss ci) σ HT full (fun cacc H'=>D1 P C N l.toArray Q (l.drop n) (a1q (cacc++full) (l.take n) 0 σ) H') ρ I (Array.replicate l.toArray.size false) 0 [] H I L (fun _=>undef) a { w with drawn:=w.drawn+1 }:=by
    have hnl:∀ j,(Array.replicate l.toArray.size false).getD j false=true→False:=fun j hl=>by rw [getD_replicate_false] at hl;cases hl
    refine⟨⟨by simp,fun j oj _ hl=>(hnl j hl).elim,fun t _ ht=>getD_in (by simpa using ht) (getD_replicate_false _ _)⟩,Le.refl _,hs.W3,hs',hs.heap,Nat.zero_le _,fun m i hm=>⟨fun hl=>(hnl i hl).elim,fun h=>by omega⟩,by rw [List.drop_zero];exact hF,fun j r hj=>by simp [o9] at hj,fun j r r0 hj=>by simp [o9] at hj,fun j _ hl=>(hnl j hl).elim,fun j _ hl=>(hnl j hl).elim,ha.defers,ha.size,fun j d _ hl=>(hnl j hl).elim,fun t v hv _=>ha.tmp t v hv⟩
  have hunl:unl (Array.replicate l.toArray.size false) n=n:=by
    have key:∀ k,k≤l.toArray.size→unl (Array.replicate l.toArray.size false) k=k:=by
      intro k
      induction k with
      | zero=>intro _;rfl
      | succ k ih =>
        intro hk
        rw [unl,ih (by omega),if_pos (getD_in (by simp at hk ⊢;omega) (getD_replicate_false _ _))]
    exact key n (by simpa using hle')
  have hmain:=b4k (Q':=a6A C N (qA C Q)) hs hN hback hok' hdst hC hcl hnd hp hle'
    (by rcases htail with h | h
        · exact .inl (by simpa using h)
        · exact .inr h) (by simpa using hseq)
    (fun listed k cacc H' J L' vs a' w' inv hall=>by
      have hk:k=ci.length:=by
        rcases Nat.lt_or_ge k ci.length with h|h
        · have:=(inv.ch k _ (List.getElem?_eq_getElem h)).1 (hall _ (hcin _ (List.getElem_mem h)))
          omega
        · have:=inv.kle;omega
      have hpl:=inv.pl
      have hlen:(I3 l ss ci).length≤ci.length:=by
        have:∀ c:List Nat,(I3 l ss c).length≤c.length:=by
          intro c
          induction c with
          | nil=>exact Nat.le_refl _
          | cons i c ih =>
            simp only [I3]
            split
            · simpa using ih
            · exact Nat.le_succ_of_le ih
        exact this ci
      rw [hk,List.drop_eq_nil_of_le hlen,S2] at hpl
      replace hpl:=hpl.2
      have hNd:M4 N (l.drop n)=true:=by
        simp only [M4,List.all_eq_true] at hN ⊢
        exact fun o ho=>hN o (List.mem_of_mem_drop ho)
      have hR:RSt C J L' σ H' ρ:=⟨fun t b hb=>by obtain⟨u,h1,h2⟩:=hs.env t b hb;exact⟨u,h1,h2.mono inv.le⟩,inv.heap,inv.W3⟩
      have hget:∀ i o,(l.take n)[i]?=some o→i < n∧l[i]?=some o:=fun i o ho=>by
        have h1:=(List.getElem?_eq_some_iff.1 ho).1
        have hin:i < n:=by rw [List.length_take] at h1;omega
        rw [List.getElem?_take,if_pos hin] at ho
        exact⟨hin,ho⟩
      refine hpl (a8p vs (l.take n) 0 ρ) J L' (a7j (l.take n) 0 σ ρ hR fun i o ho => ?_) hNd a' w' (a4t inv.defers inv.size (l.take n) 0 ρ (fun i o d ho hdd => ?_) fun t v hv hno=>inv.a7q t v hv fun j hj _ hdj => ?_) inv.st
      · obtain⟨hin,_⟩:=hget i o ho
        rw [Nat.zero_add]
        exact inv.val i hin (hall i hin)
      · obtain⟨hin,ho2⟩:=hget i o ho
        rw [Nat.zero_add]
        exact inv.a5u i d hin (hall i hin) (by simp [ho2,hdd])
      · have hjl:j < l.length:=by omega
        have:(l.take n)[j]?=some l[j]:=by rw [List.getElem?_take,if_pos hj];exact List.getElem?_eq_getElem hjl
        refine hno j l[j] this ?_
        simpa [hjl] using hdj)
    n _ _ _ _ _ _ _ _ _ inv0 hunl
  rw [show n+(l.length - n)=l.toArray.size by simp;omega] at hmain
  exact hmain
theorem y4.app {Hp:j7} {H:j7} {B:Bool×D8} {F:Bool×D8→j7} (h:y4 H B F):y4 (Hp++H) B (fun X=>Hp++F X):=by
 induction Hp with
 | nil=>exact h
 | cons A Hp ih=>exact .s ih
def Q9:List Bool→j7→(Nat→Bool×D8)→Nat→j7
 | b::bs,B::H,q,k=>(bif b then q k else B)::Q9 bs H q (k+1)
 | _,H,_,_=>H
theorem I9.F3 {P : Program} {C : Ctx} {N : Nat} {Q : Exit → x5 → j7 → Prop} {σ : x5} {H : j7} {id : Nat} {l : List Oper} (bs : List Bool) (hm : P.follows .mixedOrders = true) (n : Nat) (ss : List (List (Nat × Nat))) (ci : List Nat)
    (hN:M4 N l=true) (hB:a1S l.toArray n ss=true) (hss:Nat.ble n ss.length=true) (hC:S7 l.toArray n ss ci=true) (hnd:ci.Nodup)
    (h:a1U P N C σ (fun q:j7×(Nat→Bool×D8)=>q.1++Q9 bs H q.2 0) ci (fun accP=>S2 P C N σ (fun q:j7×(Nat→Bool×D8)=>q.1++Q9 bs H q.2 0) accP (fun cacc H'=>D1 P C N l.toArray Q (l.drop n) (a1q (cacc++accP) (l.take n) 0 σ) H') (I3 l ss ci) [] H) (l.take n) ss 0 []) :
    I9 P C N (.region id l.toArray true) Q σ H := .b7f _ hm n ss ci hN hB hss hC hnd h
def a3i (P:Program) (N:Nat) (C:Ctx) (σ0:x5) (ci:List Nat) (F:List (Nat×AV)→Prop):List Oper→List (List (Nat×Nat))→Nat→List (Nat×AV)→Prop
 | [],_,_,acc=>F acc
 | o::os,s::ss,k,acc=>bif ci.contains k then a3i P N C σ0 ci F os ss (k+1) acc∨∃ r,a3i P N C σ0 ci F os ss (k+1) ((k,r)::acc) else ∃ r,(∀ H,a4J P N C σ0 H acc o s r)∧a3i P N C σ0 ci F os ss (k+1) ((k,r)::acc)
 | _::_,[],_,_=>False
theorem a3i.toK {P:Program} {N:Nat} {C:Ctx} {σ0:x5} {ci:List Nat} {F F':List (Nat×AV)→Prop} (hF:∀ acc,F acc→F' acc):∀ {os:List Oper} {ss:List (List (Nat×Nat))} {k:Nat} {acc:List (Nat×AV)},a3i P N C σ0 ci F os ss k acc→a1U P N C σ0 (fun H=>H) ci F' os ss k acc
 | [],_,_,_,h=>hF _ h
 | o::os,s::ss,k,acc,h=>by
  simp only [a3i] at h
  simp only [a1U]
  cases hb:ci.contains k with
  | true =>
   simp only [hb,cond_true] at h ⊢
   rcases h with h|⟨r,h⟩
   ·exact .inl (h.toK hF)
   ·exact .inr ⟨r,h.toK hF⟩
  | false =>
   simp only [hb,cond_false] at h ⊢
   obtain⟨r,h1,h2⟩:=h
   exact⟨r,fun Hp=>h1 _,h2.toK hF⟩
theorem I9.a7H {P : Program} {C : Ctx} {N : Nat} {Q : Exit → x5 → j7 → Prop} {σ : x5} {H : j7} {id : Nat} {l : List Oper} (hm : P.follows .mixedOrders = true) (n : Nat) (ss : List (List (Nat × Nat))) (ci : List Nat)
    (hN:M4 N l=true) (hB:a1S l.toArray n ss=true) (hss:Nat.ble n ss.length=true) (hC:S7 l.toArray n ss ci=true) (hnd:ci.Nodup)
    (h:a3i P N C σ ci (fun accP=>a8o P C N σ accP (fun cacc H'=>D1 P C N l.toArray Q (l.drop n) (a1q (cacc++accP) (l.take n) 0 σ) H') (I3 l ss ci) [] H) (l.take n) ss 0 []) :
    I9 P C N (.region id l.toArray true) Q σ H:=(I9.b7f (fun H=>H) hm n ss ci hN hB hss hC hnd (h.toK fun _ h=>h.toK))
end Go.Ab
namespace Go.Ab
open Go.Fl Go.RowKit
open p2 (rep)
variable {P:Program} {C:Ctx} {N:Nat} {σ:x5} {H:j7} {K:AV→Prop} {KH:AV→j7→Prop} {d:Option Nat} {ty:TypeId} {ps:String} {af:Array Edge} {g:Option (Nat×Bool)}
variable {x y z:Operand} {T T2 E S D U:TypeId} {o:Oper}
theorem B3.ofP (h:j5 P N C o σ H (fun r=>KH r H)):B3 P C N o σ H KH:=fun ρ I L hs =>
 OpS.ofX (OpX.a1Q (h ρ I L hs) fun v J X hle ⟨hX,r,h1,h2⟩=>by subst hX;exact⟨hle,r,H,h1,hs.heap.mono hle,h2⟩)
theorem B3.y0 (hC:Ctx.Ok C) {E:TypeId} {α:Type} {r:p2 α} {w:Value} {l:List α} {F:Bool×D8→j7} (h:y4 H (true,.own E w l) F) (k:B3 P C N o σ (F (true,.fz w (.v l))) KH):B3 P C N o σ H KH:=fun ρ I L hs a w0 ha hst=>by
 obtain⟨i,X,h1,h2,h3⟩:=h.get hs.heap
 have hst2:=hst.freeze h1 (a5b hC h2)
 have hle:Le I (I.with X):=Im.a0Z (fun p hp=>hst.mem.sep p (F7 h1 hp))
 have hp:∀ p∈X,I.with X p.1=some p.2:=fun p hp=>Im.a1b (a2g hst.mem.nodup h1) hp
 refine Yld.mono (k ρ _ _ ⟨(hs.mono hle).env,h3 _ _ [] hle ⟨⟨rfl,S6 h2.1 hle hp⟩,by simp⟩,hs.W3.trans hle⟩ a w0 ha hst2) ?_
 rintro v w' ⟨J,L',q1,q2,q3⟩
 exact⟨J,L',q1,hle.trans q2,q3⟩
theorem B3.as (t:Nat) {w:Value} {a:AV} {b:Bool} {F:Bool×D8→j7} (ht:F0 σ t=some (.raw w)) (h:y4 H (b,.fz w a) F) (k:B3 P C N o ((t,a)::σ) H KH):B3 P C N o σ H KH :=
 fun ρ I L hs=>k ρ I L (hs.as t ht h)
theorem j5.G1 {α : Type} {r : p2 α} {i0 : Inhabited α} {n : Nat} {l : List α} {parts : Array (Nat × Operand)} (tE : F1 P E α) (hT : P.underlying T = some (.slice E)) (hp : a6J C σ H 0 parts.toList l) (hn : l.length = n) (hb : n * p2.size α ≤ 16777216) (k : K (.vc l)) :
    j5 P N C ⟨d,.buildSlice T n parts,ty,ps,af,g⟩ σ H K:=fun ρ I L hs=>by
  obtain⟨zs,hz1,hz2⟩:=tE.zero
  obtain⟨pv,vs,h1,h2,h3⟩:=hp.run hs
  subst hn
  have hl:=h3.len
  refine OpX.frz (.buildSlice hT tE.size hz1 (p2.len (hz2 I)) h1 h2 hl hb fun b J' hle hpp=>⟨rfl,.vc l,⟨⟨_,rfl⟩,vs,?_,h3.mono hle⟩,k⟩)
  refine(Own.made (e:=E) hl ?_).sl (fun p hp=>hpp p (by simpa using hp))
  have:1≤p2.size α:=Nat.one_le_iff_ne_zero.2 tE.pos
  have:=Nat.mul_le_mul_left l.length this
  unfold maxLen;omega
theorem D1.drop {ops:Array Oper} {Q:Exit→x5→j7→Prop} {os:List Oper} {B:Bool×D8} (k:D1 P C N ops Q os σ H):D1 P C N ops Q os σ (B::H):=fun ρ I L hs=>by
 obtain⟨X,R,rfl,h1,h2⟩:=hs.heap
 exact wpL.forget (X := [X]) (k ρ I R ⟨hs.env,h2,hs.W3⟩)
theorem I9.drop {Q:Exit→x5→j7→Prop} {c:Code} {B:Bool×D8} (k:I9 P C N c Q σ H):I9 P C N c Q σ (B::H):=fun ρ I L hs=>by
 obtain⟨X,R,rfl,h1,h2⟩:=hs.heap
 exact wpS.forget (X := [X]) (k ρ I R ⟨hs.env,h2,hs.W3⟩)
theorem j5.E5 {α β:Type} {r:p2 α} {s:p2 β} {w:Value} {l:j6 α β} (hx:D5 C σ H x (.ln w l)) (k:K (.ln w l)):j5 P N C ⟨d,.nilCheck x,ty,ps,af,g⟩ σ H K :=
 .vk k (fun ρ I L hs=>by
  obtain⟨u,h2,b,h3,rfl⟩:=hx ρ I L hs
  exact .mk ⟨b,h3,rfl⟩ fun a w ha hm=>by simp [execOp,ha.ev h2])
section c3g
variable {s:T5} {i j:Int} (hT:P.underlying T=some .string) (hx:D5 C σ H x (.v s))
include hT hx
end c3g
def AV.a7a (c:Bool) (a:AV):AV := .pr (fun I u=>(c=true→F8 I a u)∧(c=false→u=undef)) (fun hle h=>⟨fun e=>(h.1 e).mono hle,h.2⟩)
theorem D5.ou {t:Nat} {a:AV} {c:Bool} (h:F0 σ t=some (.a7a c a)) (hc:c=true):D5 C σ H (.tmp t) a:=fun ρ I L hs=>by
 obtain⟨u,h1,h2⟩:=hs.env t _ h
 exact⟨u,h1,h2.1 hc⟩
section nested
variable {P:Program} {C:Ctx} {N:Nat} {ops:Array Oper} {Q:Exit→x5→j7→Prop} {rest:List Oper} {σ:x5} {H:j7}
theorem D1.goU {d : Nat} {op : Op} {ty : TypeId} {ps : String} {af : Array Edge} {j : Nat} {want : Bool} (dj : Nat) (hj : (ops[j]?).bind (·.dst) = some dj) {b : Bool} (hb : D5 C σ H (.tmp dj) (.v b)) {r : AV}
    (h:b=want→j5 P N C ⟨some d,op,ty,ps,af,none⟩ σ H (fun r'=>r'=r)) (k:D1 P C N ops Q rest ((d,.a7a (b == want) r)::σ) H) :
    D1 P C N ops Q (⟨some d,op,ty,ps,af,some (j,want)⟩::rest) σ H:=fun ρ I L hs=>by
  have hbv:=hb.bool hs
  by_cases e:b=want
  · refine .gt dj hj (by rw [←e];exact hbv) (OpS.ofX (OpX.a1Q (h e ρ I L hs) fun v J X hle ⟨hX,r',hr,hk⟩ => ?_))
    subst hX;subst hk
    exact k _ _ _ (hs.put hle (r := .a7a (b == want) r') ⟨fun _=>hr,fun hc=>absurd e (by simpa using hc)⟩ (hs.heap.mono hle))
  · have e':b = !want:=by cases b<;>cases want<;>simp_all
    exact .gf dj hj (by rw [←e'];exact hbv) (k _ _ _ (hs.put (Le.refl I) (r := .a7a (b == want) r) ⟨fun hc=>absurd (by simpa using hc) e,fun _=>a8⟩ hs.heap))
theorem c1W {ρ : Env} {I : Im} {L : Lh} {Q : Exit → Env → Im → Lh → Prop} {d : Nat} {op : Op} {ty : TypeId} {ps : String} {af : Array Edge} {j : Nat} {want : Bool} (dj : Nat) (hj : (ops[j]?).bind (·.dst) = some dj) (hb : Fl.look ρ dj = some undef)
    (h:wpL P C N ops Q rest ((d,undef)::ρ) I L):wpL P C N ops Q (⟨some d,op,ty,ps,af,some (j,want)⟩::rest) ρ I L:=fun hd a w ha hs=>by
  obtain⟨hlt,hd'⟩:=a9l hd
  refine wpListIn_step fun K hK => ?_
  have hy:yielded ops a.tmps j=none:=by unfold yielded;rw [hj];simp only [Option.bind_some,ha.tmp dj _ hb];rfl
  rw [if_neg (by simp [Region.wanted,hy])]
  exact⟨fun _ _=>trivial,hK _ _ (h hd' _ _ (ha.put hlt undef) hs)⟩
theorem D1.gn {d : Nat} {op : Op} {ty : TypeId} {ps : String} {af : Array Edge} {j : Nat} {want : Bool} (dj : Nat) (hj : (ops[j]?).bind (·.dst) = some dj) {b c : Bool} (hb : F0 σ dj = some (.a7a c (.v b))) {r : AV}
    (h:c=true→b=want→j5 P N C ⟨some d,op,ty,ps,af,none⟩ σ H (fun r'=>r'=r)) (k:D1 P C N ops Q rest ((d,.a7a (c&&(b == want)) r)::σ) H) :
    D1 P C N ops Q (⟨some d,op,ty,ps,af,some (j,want)⟩::rest) σ H:=fun ρ I L hs=>by
  obtain⟨u,hu1,hu2,hu3⟩:=hs.env dj _ hb
  cases c with
  | false =>
    obtain rfl:=hu3 rfl
    exact c1W dj hj hu1 (k _ _ _ (hs.put (Le.refl I) (r := .a7a (false&&(b == want)) r) ⟨fun hc=>by simp at hc,fun _=>rfl⟩ hs.heap))
  | true =>
    have hbv:Fl.look ρ dj=some (.bool b):=by
      obtain⟨cs,rfl,rfl⟩:=hu2 rfl
      exact hu1
    by_cases e:b=want
    · refine .gt dj hj (by rw [←e];exact hbv) (OpS.ofX (OpX.a1Q (h a8 e ρ I L hs) fun v J X hle ⟨hX,r',hr,hk⟩ => ?_))
      subst hX;subst hk
      exact k _ _ _ (hs.put hle (r := .a7a (true&&(b == want)) r') ⟨fun _=>hr,fun hc=>absurd e (by simpa using hc)⟩ (hs.heap.mono hle))
    · have e':b = !want:=by cases b<;>cases want<;>simp_all
      exact .gf dj hj (by rw [←e'];exact hbv) (k _ _ _ (hs.put (Le.refl I) (r := .a7a (true&&(b == want)) r) ⟨fun hc=>absurd (by simpa using hc) e,fun _=>a8⟩ hs.heap))
end nested
end Go.Ab
namespace Go.Ab
open Go.Fl Go.RowKit
open p2 (rep)
variable {P:Program} {C:Ctx} {N:Nat} {σ:x5} {H:j7} {K:AV→Prop} {KH:AV→j7→Prop} {d:Option Nat} {ty:TypeId} {ps:String} {af:Array Edge} {g:Option (Nat×Bool)}
variable {x y z:Operand} {T T2 E S D U:TypeId} {o:Oper}
theorem j5.bS1 {α γ1 : Type} {r : p2 α} {i0 : Inhabited α} {q1 : p2 γ1} {offs : List (Nat × Nat)} {parts : Array (Nat × Operand)} {i1 : Nat} {o1 : Operand} {c1 : γ1} (m1 : j6 α γ1) (hg : p2.agg α = true) (tT : F1 P T α) (hT : D2 P T = some offs) (mk : γ1 → α) (hm : ∀ c1, (m1.set c1 (default : α)) = mk c1) (hp : parts.toList = [(i1, o1)]) (h1 : offs[i1]? = some (m1.off, p2.size γ1)) (e1 : D5 C σ H o1 (.v c1)) (k : K (.v (mk c1))) :
    j5 P N C ⟨d,.build T parts,ty,ps,af,g⟩ σ H K :=
  .a6i (mk c1) hg tT hT (by rw [hp];exact(.cons m1 c1 h1 e1 .nil)) (hm c1) k
theorem j5.bS2 {α γ1 γ2 : Type} {r : p2 α} {i0 : Inhabited α} {q1 : p2 γ1} {q2 : p2 γ2} {offs : List (Nat × Nat)} {parts : Array (Nat × Operand)} {i1 : Nat} {o1 : Operand} {i2 : Nat} {o2 : Operand} {c1 : γ1} {c2 : γ2} (m1 : j6 α γ1) (m2 : j6 α γ2) (hg : p2.agg α = true) (tT : F1 P T α) (hT : D2 P T = some offs) (mk : γ1 → γ2 → α) (hm : ∀ c1 c2, (m2.set c2 (m1.set c1 (default : α))) = mk c1 c2) (hp : parts.toList = [(i1, o1), (i2, o2)]) (h1 : offs[i1]? = some (m1.off, p2.size γ1)) (h2 : offs[i2]? = some (m2.off, p2.size γ2)) (e1 : D5 C σ H o1 (.v c1)) (e2 : D5 C σ H o2 (.v c2)) (k : K (.v (mk c1 c2))) :
    j5 P N C ⟨d,.build T parts,ty,ps,af,g⟩ σ H K :=
  .a6i (mk c1 c2) hg tT hT (by rw [hp];exact(.cons m1 c1 h1 e1 (.cons m2 c2 h2 e2 .nil))) (hm c1 c2) k
theorem j5.bS3 {α γ1 γ2 γ3 : Type} {r : p2 α} {i0 : Inhabited α} {q1 : p2 γ1} {q2 : p2 γ2} {q3 : p2 γ3} {offs : List (Nat × Nat)} {parts : Array (Nat × Operand)} {i1 : Nat} {o1 : Operand} {i2 : Nat} {o2 : Operand} {i3 : Nat} {o3 : Operand} {c1 : γ1} {c2 : γ2} {c3 : γ3} (m1 : j6 α γ1) (m2 : j6 α γ2) (m3 : j6 α γ3) (hg : p2.agg α = true) (tT : F1 P T α) (hT : D2 P T = some offs) (mk : γ1 → γ2 → γ3 → α) (hm : ∀ c1 c2 c3, (m3.set c3 (m2.set c2 (m1.set c1 (default : α)))) = mk c1 c2 c3) (hp : parts.toList = [(i1, o1), (i2, o2), (i3, o3)]) (h1 : offs[i1]? = some (m1.off, p2.size γ1)) (h2 : offs[i2]? = some (m2.off, p2.size γ2)) (h3 : offs[i3]? = some (m3.off, p2.size γ3)) (e1 : D5 C σ H o1 (.v c1)) (e2 : D5 C σ H o2 (.v c2)) (e3 : D5 C σ H o3 (.v c3)) (k : K (.v (mk c1 c2 c3))) :
    j5 P N C ⟨d,.build T parts,ty,ps,af,g⟩ σ H K :=
  .a6i (mk c1 c2 c3) hg tT hT (by rw [hp];exact(.cons m1 c1 h1 e1 (.cons m2 c2 h2 e2 (.cons m3 c3 h3 e3 .nil)))) (hm c1 c2 c3) k
theorem j5.bS4 {α γ1 γ2 γ3 γ4 : Type} {r : p2 α} {i0 : Inhabited α} {q1 : p2 γ1} {q2 : p2 γ2} {q3 : p2 γ3} {q4 : p2 γ4} {offs : List (Nat × Nat)} {parts : Array (Nat × Operand)} {i1 : Nat} {o1 : Operand} {i2 : Nat} {o2 : Operand} {i3 : Nat} {o3 : Operand} {i4 : Nat} {o4 : Operand} {c1 : γ1} {c2 : γ2} {c3 : γ3} {c4 : γ4} (m1 : j6 α γ1) (m2 : j6 α γ2) (m3 : j6 α γ3) (m4 : j6 α γ4) (hg : p2.agg α = true) (tT : F1 P T α) (hT : D2 P T = some offs) (mk : γ1 → γ2 → γ3 → γ4 → α) (hm : ∀ c1 c2 c3 c4, (m4.set c4 (m3.set c3 (m2.set c2 (m1.set c1 (default : α))))) = mk c1 c2 c3 c4) (hp : parts.toList = [(i1, o1), (i2, o2), (i3, o3), (i4, o4)]) (h1 : offs[i1]? = some (m1.off, p2.size γ1)) (h2 : offs[i2]? = some (m2.off, p2.size γ2)) (h3 : offs[i3]? = some (m3.off, p2.size γ3)) (h4 : offs[i4]? = some (m4.off, p2.size γ4)) (e1 : D5 C σ H o1 (.v c1)) (e2 : D5 C σ H o2 (.v c2)) (e3 : D5 C σ H o3 (.v c3)) (e4 : D5 C σ H o4 (.v c4)) (k : K (.v (mk c1 c2 c3 c4))) :
    j5 P N C ⟨d,.build T parts,ty,ps,af,g⟩ σ H K :=
  .a6i (mk c1 c2 c3 c4) hg tT hT (by rw [hp];exact(.cons m1 c1 h1 e1 (.cons m2 c2 h2 e2 (.cons m3 c3 h3 e3 (.cons m4 c4 h4 e4 .nil))))) (hm c1 c2 c3 c4) k
theorem j5.bS5 {α γ1 γ2 γ3 γ4 γ5 : Type} {r : p2 α} {i0 : Inhabited α} {q1 : p2 γ1} {q2 : p2 γ2} {q3 : p2 γ3} {q4 : p2 γ4} {q5 : p2 γ5} {offs : List (Nat × Nat)} {parts : Array (Nat × Operand)} {i1 : Nat} {o1 : Operand} {i2 : Nat} {o2 : Operand} {i3 : Nat} {o3 : Operand} {i4 : Nat} {o4 : Operand} {i5 : Nat} {o5 : Operand} {c1 : γ1} {c2 : γ2} {c3 : γ3} {c4 : γ4} {c5 : γ5} (m1 : j6 α γ1) (m2 : j6 α γ2) (m3 : j6 α γ3) (m4 : j6 α γ4) (m5 : j6 α γ5) (hg : p2.agg α = true) (tT : F1 P T α) (hT : D2 P T = some offs) (mk : γ1 → γ2 → γ3 → γ4 → γ5 → α) (hm : ∀ c1 c2 c3 c4 c5, (m5.set c5 (m4.set c4 (m3.set c3 (m2.set c2 (m1.set c1 (default : α)))))) = mk c1 c2 c3 c4 c5) (hp : parts.toList = [(i1, o1), (i2, o2), (i3, o3), (i4, o4), (i5, o5)]) (h1 : offs[i1]? = some (m1.off, p2.size γ1)) (h2 : offs[i2]? = some (m2.off, p2.size γ2)) (h3 : offs[i3]? = some (m3.off, p2.size γ3)) (h4 : offs[i4]? = some (m4.off, p2.size γ4)) (h5 : offs[i5]? = some (m5.off, p2.size γ5)) (e1 : D5 C σ H o1 (.v c1)) (e2 : D5 C σ H o2 (.v c2)) (e3 : D5 C σ H o3 (.v c3)) (e4 : D5 C σ H o4 (.v c4)) (e5 : D5 C σ H o5 (.v c5)) (k : K (.v (mk c1 c2 c3 c4 c5))) :
    j5 P N C ⟨d,.build T parts,ty,ps,af,g⟩ σ H K :=
  .a6i (mk c1 c2 c3 c4 c5) hg tT hT (by rw [hp];exact(.cons m1 c1 h1 e1 (.cons m2 c2 h2 e2 (.cons m3 c3 h3 e3 (.cons m4 c4 h4 e4 (.cons m5 c5 h5 e5 .nil)))))) (hm c1 c2 c3 c4 c5) k
theorem j5.bS0 {α:Type} {r:p2 α} {i0:Inhabited α} {offs:List (Nat×Nat)} (hg:p2.agg α=true) (tT:F1 P T α) (hT:D2 P T=some offs) (k:K (.v (default:α))):j5 P N C ⟨d,.build T #[],ty,ps,af,g⟩ σ H K := .a6i default hg tT hT .nil rfl k
theorem j5.A9 {β γ : Type} {s : p2 β} {q : p2 γ} {i off sz : Nat} {ag : Bool} {w : Value} (m : j6 β γ) (hf : p4 P T i = some (off, sz + 1, ag)) (ho : off = m.off) (hx : D5 C σ H x (.ln w (j6.id (α := β)))) (k : K (.ln w m)) :
    j5 P N C ⟨d,.fieldAddr T x i,ty,ps,af,g⟩ σ H K :=
  .vk k (fun ρ I L hs=>by
    obtain⟨u,h2,b,h3,rfl⟩:=hx ρ I L hs
    subst ho
    exact .fieldAddr hf h2 ⟨b,h3,by simp [j6.id]⟩)
theorem j5.c3h {β : Type} {s : p2 β} {n : Nat} {ag : Bool} {w : Value} {i : Int} (hf : K9 P T = some (n, p2.size β, ag)) (hx : D5 C σ H x (.ln w (j6.id (α := K5 n β)))) (hy : D5 C σ H y (.v i)) (h0 : 0 ≤ i) (h1 : i < n)
    (k:K (.ln w (j6.idx (α:=β) (n:=n) i.toNat (by omega)))):j5 P N C ⟨d,.indexAddr T x y,ty,ps,af,g⟩ σ H K :=
  .vk k (fun ρ I L hs=>by
    obtain⟨u,h2,b,h3,rfl⟩:=hx ρ I L hs
    exact .C8 hf h2 (hy.int hs).1 h0 h1 ⟨b,h3,by simp [j6.id,j6.idx]⟩)
theorem j5.S1 {α β : Type} {r : p2 α} {s : p2 β} {i : Inhabited β} {w : Value} {l : j6 α β} {a : α} {bb : Bool} {F : Bool × D8 → j7} (f : α → β) (tT : F1 P T β) (hx : D5 C σ H x (.ln w l)) (hH : y4 H (bb, .ob w a) F) (hf : ∀ x, l.get x = f x) (k : K (.v (f a))) :
    j5 P N C ⟨d,.load T x,ty,ps,af,g⟩ σ H K := .ldL tT hx hH (hf a▸k)
theorem B3.Z0 {α β : Type} {r : p2 α} {s : p2 β} {i : Inhabited β} {w : Value} {l : j6 α β} {a : α} {c : β} {bb : Bool} {F : Bool × D8 → j7} (f : β → α → α) (tT : F1 P T β) (hx : D5 C σ H x (.ln w l)) (hy : D5 C σ H y (.v c)) (hH : y4 H (bb, .ob w a) F) (hf : ∀ y x, l.set y x = f y x)
    (k:KH .any (F (bb,.ob w (f c a)))):B3 P C N ⟨d,.store T x y,ty,ps,af,g⟩ σ H KH := .stL tT hx hy hH (hf c a▸k)
theorem j5.b9A {α : Type} {r : p2 α} {i : Inhabited α} {w : Value} {ags : List α} {kk : Nat} {bb : Bool} {E' : TypeId} {F : Bool × D8 → j7} (tT : F1 P T α) (hx : D5 C σ H x (.el w kk (j6.id (α := α)))) (hH : y4 H (bb, .own E' w ags) F) (hk : kk < ags.length)
    (k:K (.v ags[kk])):j5 P N C ⟨d,.load T x,ty,ps,af,g⟩ σ H K := .ldE tT hx hH hk k
theorem B3.b9B {α : Type} {r : p2 α} {i : Inhabited α} {w : Value} {ags : List α} {c : α} {kk : Nat} {bb : Bool} {E' : TypeId} {F : Bool × D8 → j7} (tT : F1 P T α) (hx : D5 C σ H x (.el w kk (j6.id (α := α)))) (hy : D5 C σ H y (.v c))
    (hH:y4 H (bb,.own E' w ags) F) (hk:kk < ags.length) (k:KH .any (F (bb,.own E' w (ags.set kk c)))):B3 P C N ⟨d,.store T x y,ty,ps,af,g⟩ σ H KH := .stE tT hx hy hH hk k
theorem j5.y9 {β γ : Type} {s : p2 β} {q : p2 γ} {i off sz : Nat} {ag : Bool} {a : β} (m : j6 β γ) (f : β → γ) (hf : p4 P T i = some (off, sz + 1, ag)) (ho : off = m.off) (hm : ∀ x, m.get x = f x) (hx : D5 C σ H x (.p a)) (k : K (.p (f a))) :
    j5 P N C ⟨d,.fieldAddr T x i,ty,ps,af,g⟩ σ H K := .c4o m hf ho hx (hm a▸k)
end Go.Ab
namespace Go.Ab
open Go.Fl Go.RowKit
open p2 (rep)
structure FnV where
 f:Option FuncId
instance:p2 FnV where
 size:=1
 agg:=false
 rep _ x cs:=cs = [match x.f with|none => .nilFunc|some k => .func (.func k) #[] #[]]
 len h:=by simp [h]
 mono _ h:=h
 one _:=rfl
 flat {I x cs} h:=by cases x with|mk f=>cases f<;>simp [h,a0A,Value.oneCell']
end Go.Ab
namespace Go.Mac
open Go.Ab
structure y6 where
 Key:(K5 32 UInt8)
 Message:(List UInt8)
 Tag:(K5 32 UInt8)
def y6.f (x:y6):(K5 32 UInt8)×(List UInt8)×(K5 32 UInt8)×Unit:=(x.Key,x.Message,x.Tag,())
instance:Inhabited y6:=⟨⟨default,default,default⟩⟩
instance:p2 y6:=p2.via y6.f
instance:G4 y6:=G4.via y6.f rfl
def y6.l0:j6 y6 (K5 32 UInt8):=j6.via y6.f j6.fst (fun x=>x.Key) (fun y x => { x with Key:=y }) (fun _=>rfl) (fun _ _=>rfl)
def y6.l1:j6 y6 (List UInt8):=j6.via y6.f (j6.snd.comp j6.fst) (fun x=>x.Message) (fun y x => { x with Message:=y }) (fun _=>rfl) (fun _ _=>rfl)
def y6.l2:j6 y6 (K5 32 UInt8):=j6.via y6.f (j6.snd.comp (j6.snd.comp j6.fst)) (fun x=>x.Tag) (fun y x => { x with Tag:=y }) (fun _=>rfl) (fun _ _=>rfl)
structure o8 where
 Key:(K5 32 UInt8)
 E7:Int
 Plain:(List UInt8)
 Box:(List UInt8)
def o8.f (x:o8):(K5 32 UInt8)×Int×(List UInt8)×(List UInt8)×Unit:=(x.Key,x.E7,x.Plain,x.Box,())
instance:Inhabited o8:=⟨⟨default,default,default,default⟩⟩
instance:p2 o8:=p2.via o8.f
instance:G4 o8:=G4.via o8.f rfl
def o8.l0:j6 o8 (K5 32 UInt8):=j6.via o8.f j6.fst (fun x=>x.Key) (fun y x => { x with Key:=y }) (fun _=>rfl) (fun _ _=>rfl)
def o8.l1:j6 o8 Int:=j6.via o8.f (j6.snd.comp j6.fst) (fun x=>x.E7) (fun y x => { x with E7:=y }) (fun _=>rfl) (fun _ _=>rfl)
def o8.l2:j6 o8 (List UInt8):=j6.via o8.f (j6.snd.comp (j6.snd.comp j6.fst)) (fun x=>x.Plain) (fun y x => { x with Plain:=y }) (fun _=>rfl) (fun _ _=>rfl)
def o8.l3:j6 o8 (List UInt8):=j6.via o8.f (j6.snd.comp (j6.snd.comp (j6.snd.comp j6.fst))) (fun x=>x.Box) (fun y x => { x with Box:=y }) (fun _=>rfl) (fun _ _=>rfl)
structure j8 where
 J6:Bool
 a3I:(K5 32 UInt8)
 F4:Int
 G2:(List y6)
 y7:(List o8)
def j8.f (x:j8):Bool×(K5 32 UInt8)×Int×(List y6)×(List o8)×Unit:=(x.J6,x.a3I,x.F4,x.G2,x.y7,())
instance:Inhabited j8:=⟨⟨default,default,default,default,default⟩⟩
instance:p2 j8:=p2.via j8.f
instance:G4 j8:=G4.via j8.f rfl
def j8.l0:j6 j8 Bool:=j6.via j8.f j6.fst (fun x=>x.J6) (fun y x => { x with J6:=y }) (fun _=>rfl) (fun _ _=>rfl)
def j8.l1:j6 j8 (K5 32 UInt8):=j6.via j8.f (j6.snd.comp j6.fst) (fun x=>x.a3I) (fun y x => { x with a3I:=y }) (fun _=>rfl) (fun _ _=>rfl)
def j8.l2:j6 j8 Int:=j6.via j8.f (j6.snd.comp (j6.snd.comp j6.fst)) (fun x=>x.F4) (fun y x => { x with F4:=y }) (fun _=>rfl) (fun _ _=>rfl)
def j8.l3:j6 j8 (List y6):=j6.via j8.f (j6.snd.comp (j6.snd.comp (j6.snd.comp j6.fst))) (fun x=>x.G2) (fun y x => { x with G2:=y }) (fun _=>rfl) (fun _ _=>rfl)
def j8.l4:j6 j8 (List o8):=j6.via j8.f (j6.snd.comp (j6.snd.comp (j6.snd.comp (j6.snd.comp j6.fst)))) (fun x=>x.y7) (fun y x => { x with y7:=y }) (fun _=>rfl) (fun _ _=>rfl)
structure u4 where
 Number:Int
 Key:(K5 32 UInt8)
def u4.f (x:u4):Int×(K5 32 UInt8)×Unit:=(x.Number,x.Key,())
instance:Inhabited u4:=⟨⟨default,default⟩⟩
instance:p2 u4:=p2.via u4.f
instance:G4 u4:=G4.via u4.f rfl
def u4.l0:j6 u4 Int:=j6.via u4.f j6.fst (fun x=>x.Number) (fun y x => { x with Number:=y }) (fun _=>rfl) (fun _ _=>rfl)
def u4.l1:j6 u4 (K5 32 UInt8):=j6.via u4.f (j6.snd.comp j6.fst) (fun x=>x.Key) (fun y x => { x with Key:=y }) (fun _=>rfl) (fun _ _=>rfl)
structure C7 where
 Live:(List u4)
 c1X:Int
def C7.f (x:C7):(List u4)×Int×Unit:=(x.Live,x.c1X,())
instance:Inhabited C7:=⟨⟨default,default⟩⟩
instance:p2 C7:=p2.via C7.f
instance:G4 C7:=G4.via C7.f rfl
def C7.l0:j6 C7 (List u4):=j6.via C7.f j6.fst (fun x=>x.Live) (fun y x => { x with Live:=y }) (fun _=>rfl) (fun _ _=>rfl)
def C7.l1:j6 C7 Int:=j6.via C7.f (j6.snd.comp j6.fst) (fun x=>x.c1X) (fun y x => { x with c1X:=y }) (fun _=>rfl) (fun _ _=>rfl)
structure A0 where
 Name:T5
 b2P:Int
def A0.f (x:A0):T5×Int×Unit:=(x.Name,x.b2P,())
instance:Inhabited A0:=⟨⟨default,default⟩⟩
instance:p2 A0:=p2.via A0.f
instance:G4 A0:=G4.via A0.f rfl
def A0.l0:j6 A0 T5:=j6.via A0.f j6.fst (fun x=>x.Name) (fun y x => { x with Name:=y }) (fun _=>rfl) (fun _ _=>rfl)
def A0.l1:j6 A0 Int:=j6.via A0.f (j6.snd.comp j6.fst) (fun x=>x.b2P) (fun y x => { x with b2P:=y }) (fun _=>rfl) (fun _ _=>rfl)
structure u6 where
 G5:Int
 Key:(K5 32 UInt8)
 a01:(List A0)
def u6.f (x:u6):Int×(K5 32 UInt8)×(List A0)×Unit:=(x.G5,x.Key,x.a01,())
instance:Inhabited u6:=⟨⟨default,default,default⟩⟩
instance:p2 u6:=p2.via u6.f
instance:G4 u6:=G4.via u6.f rfl
def u6.l0:j6 u6 Int:=j6.via u6.f j6.fst (fun x=>x.G5) (fun y x => { x with G5:=y }) (fun _=>rfl) (fun _ _=>rfl)
def u6.l1:j6 u6 (K5 32 UInt8):=j6.via u6.f (j6.snd.comp j6.fst) (fun x=>x.Key) (fun y x => { x with Key:=y }) (fun _=>rfl) (fun _ _=>rfl)
def u6.l2:j6 u6 (List A0):=j6.via u6.f (j6.snd.comp (j6.snd.comp j6.fst)) (fun x=>x.a01) (fun y x => { x with a01:=y }) (fun _=>rfl) (fun _ _=>rfl)
structure j2 where
 Kind:Int
 Mask:UInt64
 p3:Int
 To:Int
 Name:T5
 Number:Int
def j2.f (x:j2):Int×UInt64×Int×Int×T5×Int×Unit:=(x.Kind,x.Mask,x.p3,x.To,x.Name,x.Number,())
instance:Inhabited j2:=⟨⟨default,default,default,default,default,default⟩⟩
instance:DecidableEq j2:=fun a b=>decidable_of_iff (a.Kind=b.Kind∧a.Mask=b.Mask∧a.p3=b.p3∧a.To=b.To∧a.Name=b.Name∧a.Number=b.Number) (by cases a;cases b;simp)
instance:p2 j2:=p2.via j2.f
instance:G4 j2:=G4.via j2.f rfl
def j2.l0:j6 j2 Int:=j6.via j2.f j6.fst (fun x=>x.Kind) (fun y x => { x with Kind:=y }) (fun _=>rfl) (fun _ _=>rfl)
def j2.l1:j6 j2 UInt64:=j6.via j2.f (j6.snd.comp j6.fst) (fun x=>x.Mask) (fun y x => { x with Mask:=y }) (fun _=>rfl) (fun _ _=>rfl)
def j2.l2:j6 j2 Int:=j6.via j2.f (j6.snd.comp (j6.snd.comp j6.fst)) (fun x=>x.p3) (fun y x => { x with p3:=y }) (fun _=>rfl) (fun _ _=>rfl)
def j2.l3:j6 j2 Int:=j6.via j2.f (j6.snd.comp (j6.snd.comp (j6.snd.comp j6.fst))) (fun x=>x.To) (fun y x => { x with To:=y }) (fun _=>rfl) (fun _ _=>rfl)
def j2.l4:j6 j2 T5:=j6.via j2.f (j6.snd.comp (j6.snd.comp (j6.snd.comp (j6.snd.comp j6.fst)))) (fun x=>x.Name) (fun y x => { x with Name:=y }) (fun _=>rfl) (fun _ _=>rfl)
def j2.l5:j6 j2 Int:=j6.via j2.f (j6.snd.comp (j6.snd.comp (j6.snd.comp (j6.snd.comp (j6.snd.comp j6.fst))))) (fun x=>x.Number) (fun y x => { x with Number:=y }) (fun _=>rfl) (fun _ _=>rfl)
structure p9 where
 X4:Bool
 a3X:j2
 G5:Int
 p7:(List UInt8)
 Box:(List UInt8)
def p9.f (x:p9):Bool×j2×Int×(List UInt8)×(List UInt8)×Unit:=(x.X4,x.a3X,x.G5,x.p7,x.Box,())
instance:Inhabited p9:=⟨⟨default,default,default,default,default⟩⟩
instance:p2 p9:=p2.via p9.f
instance:G4 p9:=G4.via p9.f rfl
def p9.l0:j6 p9 Bool:=j6.via p9.f j6.fst (fun x=>x.X4) (fun y x => { x with X4:=y }) (fun _=>rfl) (fun _ _=>rfl)
def p9.l1:j6 p9 j2:=j6.via p9.f (j6.snd.comp j6.fst) (fun x=>x.a3X) (fun y x => { x with a3X:=y }) (fun _=>rfl) (fun _ _=>rfl)
def p9.l2:j6 p9 Int:=j6.via p9.f (j6.snd.comp (j6.snd.comp j6.fst)) (fun x=>x.G5) (fun y x => { x with G5:=y }) (fun _=>rfl) (fun _ _=>rfl)
def p9.l3:j6 p9 (List UInt8):=j6.via p9.f (j6.snd.comp (j6.snd.comp (j6.snd.comp j6.fst))) (fun x=>x.p7) (fun y x => { x with p7:=y }) (fun _=>rfl) (fun _ _=>rfl)
def p9.l4:j6 p9 (List UInt8):=j6.via p9.f (j6.snd.comp (j6.snd.comp (j6.snd.comp (j6.snd.comp j6.fst)))) (fun x=>x.Box) (fun y x => { x with Box:=y }) (fun _=>rfl) (fun _ _=>rfl)
structure x4 where
 D4:Int
 C2:Int
 l9:(List p9)
 Tag:(K5 32 UInt8)
def x4.f (x:x4):Int×Int×(List p9)×(K5 32 UInt8)×Unit:=(x.D4,x.C2,x.l9,x.Tag,())
instance:Inhabited x4:=⟨⟨default,default,default,default⟩⟩
instance:p2 x4:=p2.via x4.f
instance:G4 x4:=G4.via x4.f rfl
def x4.l0:j6 x4 Int:=j6.via x4.f j6.fst (fun x=>x.D4) (fun y x => { x with D4:=y }) (fun _=>rfl) (fun _ _=>rfl)
def x4.l1:j6 x4 Int:=j6.via x4.f (j6.snd.comp j6.fst) (fun x=>x.C2) (fun y x => { x with C2:=y }) (fun _=>rfl) (fun _ _=>rfl)
def x4.l2:j6 x4 (List p9):=j6.via x4.f (j6.snd.comp (j6.snd.comp j6.fst)) (fun x=>x.l9) (fun y x => { x with l9:=y }) (fun _=>rfl) (fun _ _=>rfl)
def x4.l3:j6 x4 (K5 32 UInt8):=j6.via x4.f (j6.snd.comp (j6.snd.comp (j6.snd.comp j6.fst))) (fun x=>x.Tag) (fun y x => { x with Tag:=y }) (fun _=>rfl) (fun _ _=>rfl)
structure p5 where
 p7:(List UInt8)
 j9:(List j2)
 Tag:(K5 32 UInt8)
def p5.f (x:p5):(List UInt8)×(List j2)×(K5 32 UInt8)×Unit:=(x.p7,x.j9,x.Tag,())
instance:Inhabited p5:=⟨⟨default,default,default⟩⟩
instance:p2 p5:=p2.via p5.f
instance:G4 p5:=G4.via p5.f rfl
def p5.l0:j6 p5 (List UInt8):=j6.via p5.f j6.fst (fun x=>x.p7) (fun y x => { x with p7:=y }) (fun _=>rfl) (fun _ _=>rfl)
def p5.l1:j6 p5 (List j2):=j6.via p5.f (j6.snd.comp j6.fst) (fun x=>x.j9) (fun y x => { x with j9:=y }) (fun _=>rfl) (fun _ _=>rfl)
def p5.l2:j6 p5 (K5 32 UInt8):=j6.via p5.f (j6.snd.comp (j6.snd.comp j6.fst)) (fun x=>x.Tag) (fun y x => { x with Tag:=y }) (fun _=>rfl) (fun _ _=>rfl)
structure u7 where
 Gate:Int
 E7:Int
def u7.f (x:u7):Int×Int×Unit:=(x.Gate,x.E7,())
instance:Inhabited u7:=⟨⟨default,default⟩⟩
instance:DecidableEq u7:=fun a b=>decidable_of_iff (a.Gate=b.Gate∧a.E7=b.E7) (by cases a;cases b;simp)
instance:p2 u7:=p2.via u7.f
instance:G4 u7:=G4.via u7.f rfl
def u7.l0:j6 u7 Int:=j6.via u7.f j6.fst (fun x=>x.Gate) (fun y x => { x with Gate:=y }) (fun _=>rfl) (fun _ _=>rfl)
def u7.l1:j6 u7 Int:=j6.via u7.f (j6.snd.comp j6.fst) (fun x=>x.E7) (fun y x => { x with E7:=y }) (fun _=>rfl) (fun _ _=>rfl)
structure u1 where
 A:j8
 Ring:C7
 C:u6
 Pass:x4
 K8:(List p5)
 Request:u7
 A7:T5
 Minute:Int
def u1.f (x:u1):j8×C7×u6×x4×(List p5)×u7×T5×Int×Unit:=(x.A,x.Ring,x.C,x.Pass,x.K8,x.Request,x.A7,x.Minute,())
instance:Inhabited u1:=⟨⟨default,default,default,default,default,default,default,default⟩⟩
instance:p2 u1:=p2.via u1.f
instance:G4 u1:=G4.via u1.f rfl
def u1.l0:j6 u1 j8:=j6.via u1.f j6.fst (fun x=>x.A) (fun y x => { x with A:=y }) (fun _=>rfl) (fun _ _=>rfl)
def u1.l3:j6 u1 x4:=j6.via u1.f (j6.snd.comp (j6.snd.comp (j6.snd.comp j6.fst))) (fun x=>x.Pass) (fun y x => { x with Pass:=y }) (fun _=>rfl) (fun _ _=>rfl)
def u1.l4:j6 u1 (List p5):=j6.via u1.f (j6.snd.comp (j6.snd.comp (j6.snd.comp (j6.snd.comp j6.fst)))) (fun x=>x.K8) (fun y x => { x with K8:=y }) (fun _=>rfl) (fun _ _=>rfl)
def u1.l5:j6 u1 u7:=j6.via u1.f (j6.snd.comp (j6.snd.comp (j6.snd.comp (j6.snd.comp (j6.snd.comp j6.fst))))) (fun x=>x.Request) (fun y x => { x with Request:=y }) (fun _=>rfl) (fun _ _=>rfl)
structure x6 where
 p7:(List UInt8)
 j9:(List j2)
 Proof:(K5 32 UInt8)
def x6.f (x:x6):(List UInt8)×(List j2)×(K5 32 UInt8)×Unit:=(x.p7,x.j9,x.Proof,())
instance:Inhabited x6:=⟨⟨default,default,default⟩⟩
instance:p2 x6:=p2.via x6.f
instance:G4 x6:=G4.via x6.f rfl
def x6.l0:j6 x6 (List UInt8):=j6.via x6.f j6.fst (fun x=>x.p7) (fun y x => { x with p7:=y }) (fun _=>rfl) (fun _ _=>rfl)
def x6.l1:j6 x6 (List j2):=j6.via x6.f (j6.snd.comp j6.fst) (fun x=>x.j9) (fun y x => { x with j9:=y }) (fun _=>rfl) (fun _ _=>rfl)
def x6.l2:j6 x6 (K5 32 UInt8):=j6.via x6.f (j6.snd.comp (j6.snd.comp j6.fst)) (fun x=>x.Proof) (fun y x => { x with Proof:=y }) (fun _=>rfl) (fun _ _=>rfl)
structure u9 where
 Request:u7
 D4:Int
 C2:Int
 l9:(List p9)
 Proof:(K5 32 UInt8)
 j3:(List x6)
def u9.f (x:u9):u7×Int×Int×(List p9)×(K5 32 UInt8)×(List x6)×Unit:=(x.Request,x.D4,x.C2,x.l9,x.Proof,x.j3,())
instance:Inhabited u9:=⟨⟨default,default,default,default,default,default⟩⟩
instance:p2 u9:=p2.via u9.f
instance:G4 u9:=G4.via u9.f rfl
def u9.l0:j6 u9 u7:=j6.via u9.f j6.fst (fun x=>x.Request) (fun y x => { x with Request:=y }) (fun _=>rfl) (fun _ _=>rfl)
def u9.l1:j6 u9 Int:=j6.via u9.f (j6.snd.comp j6.fst) (fun x=>x.D4) (fun y x => { x with D4:=y }) (fun _=>rfl) (fun _ _=>rfl)
def u9.l2:j6 u9 Int:=j6.via u9.f (j6.snd.comp (j6.snd.comp j6.fst)) (fun x=>x.C2) (fun y x => { x with C2:=y }) (fun _=>rfl) (fun _ _=>rfl)
def u9.l3:j6 u9 (List p9):=j6.via u9.f (j6.snd.comp (j6.snd.comp (j6.snd.comp j6.fst))) (fun x=>x.l9) (fun y x => { x with l9:=y }) (fun _=>rfl) (fun _ _=>rfl)
def u9.l4:j6 u9 (K5 32 UInt8):=j6.via u9.f (j6.snd.comp (j6.snd.comp (j6.snd.comp (j6.snd.comp j6.fst)))) (fun x=>x.Proof) (fun y x => { x with Proof:=y }) (fun _=>rfl) (fun _ _=>rfl)
def u9.l5:j6 u9 (List x6):=j6.via u9.f (j6.snd.comp (j6.snd.comp (j6.snd.comp (j6.snd.comp (j6.snd.comp j6.fst))))) (fun x=>x.j3) (fun y x => { x with j3:=y }) (fun _=>rfl) (fun _ _=>rfl)
structure x7 where
 a1w:Int
 a1x:Int
 Minute:Int
 A7:T5
def x7.f (x:x7):Int×Int×Int×T5×Unit:=(x.a1w,x.a1x,x.Minute,x.A7,())
instance:Inhabited x7:=⟨⟨default,default,default,default⟩⟩
instance:p2 x7:=p2.via x7.f
instance:G4 x7:=G4.via x7.f rfl
def x7.l0:j6 x7 Int:=j6.via x7.f j6.fst (fun x=>x.a1w) (fun y x => { x with a1w:=y }) (fun _=>rfl) (fun _ _=>rfl)
def x7.l1:j6 x7 Int:=j6.via x7.f (j6.snd.comp j6.fst) (fun x=>x.a1x) (fun y x => { x with a1x:=y }) (fun _=>rfl) (fun _ _=>rfl)
def x7.l2:j6 x7 Int:=j6.via x7.f (j6.snd.comp (j6.snd.comp j6.fst)) (fun x=>x.Minute) (fun y x => { x with Minute:=y }) (fun _=>rfl) (fun _ _=>rfl)
def x7.l3:j6 x7 T5:=j6.via x7.f (j6.snd.comp (j6.snd.comp (j6.snd.comp j6.fst))) (fun x=>x.A7) (fun y x => { x with A7:=y }) (fun _=>rfl) (fun _ _=>rfl)
structure u0 where
 p3:Int
 To:Int
def u0.f (x:u0):Int×Int×Unit:=(x.p3,x.To,())
instance:Inhabited u0:=⟨⟨default,default⟩⟩
instance:DecidableEq u0:=fun a b=>decidable_of_iff (a.p3=b.p3∧a.To=b.To) (by cases a;cases b;simp)
instance:p2 u0:=p2.via u0.f
instance:G4 u0:=G4.via u0.f rfl
def u0.l0:j6 u0 Int:=j6.via u0.f j6.fst (fun x=>x.p3) (fun y x => { x with p3:=y }) (fun _=>rfl) (fun _ _=>rfl)
def u0.l1:j6 u0 Int:=j6.via u0.f (j6.snd.comp j6.fst) (fun x=>x.To) (fun y x => { x with To:=y }) (fun _=>rfl) (fun _ _=>rfl)
structure l8 where
 a2x:Bool
 L4:UInt64
 K3:UInt64
 T7:UInt64
 p3:Int
 To:Int
 E3:(List u0)
 A7:T5
def l8.f (x:l8):Bool×UInt64×UInt64×UInt64×Int×Int×(List u0)×T5×Unit:=(x.a2x,x.L4,x.K3,x.T7,x.p3,x.To,x.E3,x.A7,())
instance:Inhabited l8:=⟨⟨default,default,default,default,default,default,default,default⟩⟩
instance:p2 l8:=p2.via l8.f
instance:G4 l8:=G4.via l8.f rfl
def l8.l0:j6 l8 Bool:=j6.via l8.f j6.fst (fun x=>x.a2x) (fun y x => { x with a2x:=y }) (fun _=>rfl) (fun _ _=>rfl)
def l8.l1:j6 l8 UInt64:=j6.via l8.f (j6.snd.comp j6.fst) (fun x=>x.L4) (fun y x => { x with L4:=y }) (fun _=>rfl) (fun _ _=>rfl)
def l8.l2:j6 l8 UInt64:=j6.via l8.f (j6.snd.comp (j6.snd.comp j6.fst)) (fun x=>x.K3) (fun y x => { x with K3:=y }) (fun _=>rfl) (fun _ _=>rfl)
def l8.l3:j6 l8 UInt64:=j6.via l8.f (j6.snd.comp (j6.snd.comp (j6.snd.comp j6.fst))) (fun x=>x.T7) (fun y x => { x with T7:=y }) (fun _=>rfl) (fun _ _=>rfl)
def l8.l4:j6 l8 Int:=j6.via l8.f (j6.snd.comp (j6.snd.comp (j6.snd.comp (j6.snd.comp j6.fst)))) (fun x=>x.p3) (fun y x => { x with p3:=y }) (fun _=>rfl) (fun _ _=>rfl)
def l8.l5:j6 l8 Int:=j6.via l8.f (j6.snd.comp (j6.snd.comp (j6.snd.comp (j6.snd.comp (j6.snd.comp j6.fst))))) (fun x=>x.To) (fun y x => { x with To:=y }) (fun _=>rfl) (fun _ _=>rfl)
def l8.l6:j6 l8 (List u0):=j6.via l8.f (j6.snd.comp (j6.snd.comp (j6.snd.comp (j6.snd.comp (j6.snd.comp (j6.snd.comp j6.fst)))))) (fun x=>x.E3) (fun y x => { x with E3:=y }) (fun _=>rfl) (fun _ _=>rfl)
def l8.l7:j6 l8 T5:=j6.via l8.f (j6.snd.comp (j6.snd.comp (j6.snd.comp (j6.snd.comp (j6.snd.comp (j6.snd.comp (j6.snd.comp j6.fst))))))) (fun x=>x.A7) (fun y x => { x with A7:=y }) (fun _=>rfl) (fun _ _=>rfl)
structure o0 where
 L:(List Int)
 At:Int
def o0.f (x:o0):(List Int)×Int×Unit:=(x.L,x.At,())
instance:Inhabited o0:=⟨⟨default,default⟩⟩
instance:p2 o0:=p2.via o0.f
instance:G4 o0:=G4.via o0.f rfl
def o0.l0:j6 o0 (List Int):=j6.via o0.f j6.fst (fun x=>x.L) (fun y x => { x with L:=y }) (fun _=>rfl) (fun _ _=>rfl)
def o0.l1:j6 o0 Int:=j6.via o0.f (j6.snd.comp j6.fst) (fun x=>x.At) (fun y x => { x with At:=y }) (fun _=>rfl) (fun _ _=>rfl)
structure A5 where
 a8J:(List (K5 32 UInt8))
 b5n:(K5 32 UInt8)
def A5.f (x:A5):(List (K5 32 UInt8))×(K5 32 UInt8)×Unit:=(x.a8J,x.b5n,())
instance:Inhabited A5:=⟨⟨default,default⟩⟩
instance:p2 A5:=p2.via A5.f
instance:G4 A5:=G4.via A5.f rfl
def A5.l0:j6 A5 (List (K5 32 UInt8)):=j6.via A5.f j6.fst (fun x=>x.a8J) (fun y x => { x with a8J:=y }) (fun _=>rfl) (fun _ _=>rfl)
def A5.l1:j6 A5 (K5 32 UInt8):=j6.via A5.f (j6.snd.comp j6.fst) (fun x=>x.b5n) (fun y x => { x with b5n:=y }) (fun _=>rfl) (fun _ _=>rfl)
structure C3 where
 G5:Int
 Key:(K5 32 UInt8)
 p7:(List UInt8)
def C3.f (x:C3):Int×(K5 32 UInt8)×(List UInt8)×Unit:=(x.G5,x.Key,x.p7,())
instance:Inhabited C3:=⟨⟨default,default,default⟩⟩
instance:p2 C3:=p2.via C3.f
instance:G4 C3:=G4.via C3.f rfl
def C3.l0:j6 C3 Int:=j6.via C3.f j6.fst (fun x=>x.G5) (fun y x => { x with G5:=y }) (fun _=>rfl) (fun _ _=>rfl)
def C3.l1:j6 C3 (K5 32 UInt8):=j6.via C3.f (j6.snd.comp j6.fst) (fun x=>x.Key) (fun y x => { x with Key:=y }) (fun _=>rfl) (fun _ _=>rfl)
def C3.l2:j6 C3 (List UInt8):=j6.via C3.f (j6.snd.comp (j6.snd.comp j6.fst)) (fun x=>x.p7) (fun y x => { x with p7:=y }) (fun _=>rfl) (fun _ _=>rfl)
structure B0 where
 a2P:Int
 a6j:Int
def B0.f (x:B0):Int×Int×Unit:=(x.a2P,x.a6j,())
instance:Inhabited B0:=⟨⟨default,default⟩⟩
instance:p2 B0:=p2.via B0.f
instance:G4 B0:=G4.via B0.f rfl
def B0.l0:j6 B0 Int:=j6.via B0.f j6.fst (fun x=>x.a2P) (fun y x => { x with a2P:=y }) (fun _=>rfl) (fun _ _=>rfl)
def B0.l1:j6 B0 Int:=j6.via B0.f (j6.snd.comp j6.fst) (fun x=>x.a6j) (fun y x => { x with a6j:=y }) (fun _=>rfl) (fun _ _=>rfl)
structure A8 where
 a1w:Int
 a1x:Int
 Minute:Int
 A7:T5
def A8.f (x:A8):Int×Int×Int×T5×Unit:=(x.a1w,x.a1x,x.Minute,x.A7,())
instance:Inhabited A8:=⟨⟨default,default,default,default⟩⟩
instance:p2 A8:=p2.via A8.f
instance:G4 A8:=G4.via A8.f rfl
def A8.l0:j6 A8 Int:=j6.via A8.f j6.fst (fun x=>x.a1w) (fun y x => { x with a1w:=y }) (fun _=>rfl) (fun _ _=>rfl)
def A8.l1:j6 A8 Int:=j6.via A8.f (j6.snd.comp j6.fst) (fun x=>x.a1x) (fun y x => { x with a1x:=y }) (fun _=>rfl) (fun _ _=>rfl)
def A8.l2:j6 A8 Int:=j6.via A8.f (j6.snd.comp (j6.snd.comp j6.fst)) (fun x=>x.Minute) (fun y x => { x with Minute:=y }) (fun _=>rfl) (fun _ _=>rfl)
def A8.l3:j6 A8 T5:=j6.via A8.f (j6.snd.comp (j6.snd.comp (j6.snd.comp j6.fst))) (fun x=>x.A7) (fun y x => { x with A7:=y }) (fun _=>rfl) (fun _ _=>rfl)
structure o7 where
 B:(List UInt8)
 Used:Int
 E:Int
def o7.f (x:o7):(List UInt8)×Int×Int×Unit:=(x.B,x.Used,x.E,())
instance:Inhabited o7:=⟨⟨default,default,default⟩⟩
instance:p2 o7:=p2.via o7.f
instance:G4 o7:=G4.via o7.f rfl
def o7.l0:j6 o7 (List UInt8):=j6.via o7.f j6.fst (fun x=>x.B) (fun y x => { x with B:=y }) (fun _=>rfl) (fun _ _=>rfl)
def o7.l1:j6 o7 Int:=j6.via o7.f (j6.snd.comp j6.fst) (fun x=>x.Used) (fun y x => { x with Used:=y }) (fun _=>rfl) (fun _ _=>rfl)
def o7.l2:j6 o7 Int:=j6.via o7.f (j6.snd.comp (j6.snd.comp j6.fst)) (fun x=>x.E) (fun y x => { x with E:=y }) (fun _=>rfl) (fun _ _=>rfl)
structure a1V where
 H:(K5 8 UInt32)
 Rest:(List UInt8)
 Len:Int
end Go.Mac
namespace Go.Ab
open Go.Fl Go.RowKit
open p2 (rep)
def Clo (P:Program) {ι:Type} (ags:ι→List AV) (r:ι→AV) (I:Im) (u:Value):Prop :=
 ∃ f fi ca,u = .func (.func f) fi ca∧∀ J,Le I J→∀ i vs,a0c J (ags i) vs→Fun P f (fi++vs.toArray++ca) J (fun v K=>F8 K (r i) v)
theorem Clo.mono {P:Program} {ι:Type} {ags:ι→List AV} {r:ι→AV} {I J:Im} {u:Value} (hle:Le I J) (h:Clo P ags r I u):Clo P ags r J u:=by
 obtain⟨f,fi,ca,h1,h2⟩:=h
 exact⟨f,fi,ca,h1,fun K hk=>h2 K (hle.trans hk)⟩
def AV.clo (P:Program) {ι:Type} (ags:ι→List AV) (r:ι→AV):AV := .pr (Clo P ags r) Clo.mono
def AV.a6k (P:Program) {α β:Type} [p2 α] [p2 β] (g:α→β):AV := .clo P (fun x:α => [.v x]) (fun x => .v (g x))
theorem b0Y {P : Program} {f : FuncId} {fi ca : Array Value} (ok : a9m P f) {a : Act} {w : World} {o : Oper} {F : Operand} {args : Array Operand} {tys : Array TypeId} (ho : o.op = .call ⟨.value F, args, tys⟩)
    (hF:a.eval F = .func (.func f) fi ca) {vs:List Value} (hv:args.toList.map a.eval=vs):(execOp a.eval o).run P w = .ok (.enter f (fi++vs.toArray++ca)) w:=by
  obtain⟨fn,h1,h2,h3⟩:=ok.ok
  subst hv
  have hargs:args.map a.eval=(args.toList.map a.eval).toArray:=by cases args;simp
  have h2':¬fn.name = "runtime.NumGoroutine" := by simpa using h2
  have h3':fn.body≠none:=by intro e;simp [e] at h3
  simp [execOp,ho,resolve,Deferred.ofValue,hF,invoke,callFunc,program,Sem.run,h1,h2',h3',←hargs]
theorem OpX.c07 {P : Program} {N : Nat} {ρ : Env} {I : Im} {L : Lh} {f : FuncId} {fi ca : Array Value} {d : Option Nat} {F : Operand} {args : Array Operand} {tys : Array TypeId} {ty : TypeId} {ps : String} {af : Array Edge} {g : Option (Nat × Bool)} {vs : List Value}
    {post:Value→Im→Prop} {K:Value→Im→Lh→Prop} (hF:ev ρ F=some (.func (.func f) fi ca)) (hv:evL ρ args.toList=some vs) (h:Fun P f (fi++vs.toArray++ca) I post)
    (k:∀ v J,Le I J→post v J→K v J []):OpX P N ⟨d,.call ⟨.value F,args,tys⟩,ty,ps,af,g⟩ ρ I L K:=fun a w ha hm=>by
  rw [b0Y h.ok rfl (ha.ev hF) (ha.evL hv)]
  refine(h.run w hm.drop).mono ?_
  rintro e w' ⟨v,J,rfl,hc,hle,hn,hm',hp⟩
  refine⟨v,rfl,J,[],hc,hle,hn,?_,by simp,k v J hle hp⟩
  have hlt:∀ p∈L.flatten,p.1 < w.heap.size:=fun p hp=>C6 (hm.loc p hp)
  refine⟨hm'.im,fun p hp=>(hc.block p.1 (hlt p hp) (by simp)).trans (hm.loc p hp),fun p hp => ?_,hm.nodup⟩
  cases hj:J p.1 with
  | none=>rfl
  | some o=>exact absurd (hn p.1 (hm.sep p hp) (by simp [hj])) (by have:=hlt p hp;omega)
section clo
variable {P:Program} {C:Ctx} {N:Nat} {σ:x5} {H:j7} {G:Gl} {f:FuncId} {d:Option Nat} {args:Array Operand} {tys:Array TypeId} {ty:TypeId} {ps:String} {af:Array Edge} {g:Option (Nat×Bool)} {K:AV→Prop}
theorem j5.b4l {ι : Type} {ags : ι → List AV} {r : ι → AV} {t : Nat} (i : ι) (ht : F0 σ t = some (.clo P ags r)) (hv : a2v C σ H args.toList (ags i)) (k : K (r i)) :
    j5 P N C ⟨d,.call ⟨.value (.tmp t),args,tys⟩,ty,ps,af,g⟩ σ H K:=fun ρ I L hs=>by
  obtain⟨u,h1,f,fi,ca,rfl,h2⟩:=hs.env t _ ht
  obtain⟨vs,h3,h4⟩:=hv.get hs
  exact OpX.c07 (F := .tmp t) h1 h3 (h2 I (Le.refl I) i vs h4) fun v J hle h5=>⟨rfl,r i,h5,k⟩
theorem j5.a2Q {α β : Type} [p2 α] [p2 β] {g1 : α → β} {x : α} {t : Nat} {a : Operand} (ht : F0 σ t = some (.a6k P g1)) (ha : D5 C σ H a (.v x)) (k : K (.v (g1 x))) :
    j5 P N C ⟨d,.call ⟨.value (.tmp t),#[a],tys⟩,ty,ps,af,g⟩ σ H K := .b4l (ags:=fun x:α => [.v x]) (r:=fun x => .v (g1 x)) x ht (.cons ha .nil) k
theorem a0c.append {I:Im}:∀ {ags bs:List AV} {vs ws:List Value},a0c I ags vs→a0c I bs ws→a0c I (ags++bs) (vs++ws)
 | [],_,_,_,h,k=>by simp [a0c] at h;subst h;simpa using k
 | a::ags,_,_,_,h,k=>by obtain⟨v,r,rfl,h2,h3⟩:=h;exact⟨v,r++_,rfl,h2,h3.append k⟩
theorem j5.c08 (hG : G.p C.I0) {ι : Type} {ags : ι → List AV} {r : ι → AV} {caps : List AV} (h : ∀ i, p6 G P f (ags i ++ caps) (fun x => x = r i)) (hv : a2v C σ H args.toList caps) (k : K (.clo P ags r)) :
    j5 P N C ⟨d,.makeFunc (.func f) #[] args,ty,ps,af,g⟩ σ H K := .H5 (.clo P ags r) (fun ρ I L hs=>fun a w ha hm=>by
      obtain⟨vs,h1,h2⟩:=hv.get hs
      have e:=ha.evL h1
      have hargs:args.map a.eval=vs.toArray:=by rw [←e];cases args;simp
      refine⟨.func (.func f) #[] vs.toArray,⟨f,#[],vs.toArray,rfl,fun J hle i ws hw => ?_⟩,by simp [execOp,Instr.makeFunc,hargs]⟩
      have h3:=h i J (ws++vs) (G.mono (hs.W3.trans hle) hG) (hw.append (h2.mono hle))
      simp only [List.append_toArray]
      exact h3.mono fun v K _ ⟨x,h4,h5⟩=>h5▸h4) k
theorem j5.a9N (hG : G.p C.I0) {α β : Type} [p2 α] [p2 β] {g1 : α → β} {caps : List AV} (h : ∀ x, p6 G P f (.v x :: caps) (fun r => r = .v (g1 x))) (hv : a2v C σ H args.toList caps) (k : K (.a6k P g1)) :
    j5 P N C ⟨d,.makeFunc (.func f) #[] args,ty,ps,af,g⟩ σ H K := .c08 hG (ags:=fun x:α => [.v x]) (r:=fun x => .v (g1 x)) h hv k
theorem D5.c4v (hG:G.p C.I0) {ι:Type} {ags:ι→List AV} {r:ι→AV} (h:∀ i,p6 G P f (ags i) (fun x=>x=r i)):D5 C σ H (.func f) (.clo P ags r):=fun ρ I L hs =>
 ⟨_,rfl,f,#[],#[],rfl,fun J hle i ws hw=>by
  simp only [Array.empty_append,Array.append_empty]
  exact(h i J ws (G.mono (hs.W3.trans hle) hG) hw).mono fun v K _ ⟨x,h4,h5⟩=>h5▸h4⟩
end clo
end Go.Ab
namespace Go.Ab
open Go.Fl Go.RowKit
open p2 (rep)
section rules
variable {P:Program} {C:Ctx} {N:Nat} {σ:x5} {H:j7} {d:Option Nat} {ty:TypeId} {ps:String} {af:Array Edge} {g:Option (Nat×Bool)} {K:AV→Prop} {KH:AV→j7→Prop} {x y z:Operand} {T T2 E S D U:TypeId}
theorem a6L:∀ (l:List UInt8) (s:ByteArray),(l.map (fun c=>(c.toNat:Int))).foldl (fun r n=>r.push (UInt8.ofNat n.toNat)) s=⟨s.data++l.toArray⟩
 | [],s=>by simp
 | c::l,s=>by
  rw [List.map_cons,List.foldl_cons,a6L l]
  simp [ByteArray.push]
theorem j5.b0Z {l : List UInt8} (hS : P.underlying S = some (.slice E)) (hE : P.underlying E = some (.int .u8)) (hD : P.underlying D = some .string) (hx : D5 C σ H x (.v l)) (k : K (.v (T5.mk l))) :
    j5 P N C ⟨d,.convert S D x,ty,ps,af,g⟩ σ H K :=
  .vk k (fun ρ I L hs => .mk ⟨[.string ⟨l.toArray⟩], ⟨⟨_, rfl, by simp⟩, by
      obtain⟨u,h1,xs,⟨a,c,rfl,h2,h3,h4,_⟩,_⟩:=hx.sl hs
      unfold maxLen at h4;show l.length≤_;omega⟩,rfl⟩ fun ac w ha hm=>by
    obtain⟨u,h1,xs,hsl,hl⟩:=hx.sl hs
    obtain rfl:=a00.1 hl
    obtain⟨a,c,rfl,h2,h3,h4,h5,h6⟩:=hsl
    have hrun:(convert S D (.slice a l.length c)).run P w = .ok (.string ⟨l.toArray⟩) w:=by
      rw [run_convert_bytes_string w S D E a l.length c hS hE hD]
      cases a with
      | none =>
        have hc:=h5 rfl
        have:l = []:=List.eq_nil_of_length_eq_zero (by omega)
        subst this
        simp [Conv.bytesToString];rfl
      | some ad =>
        have hload:(loadCells ad l.length).run P w = .ok ((l.map (fun c=>(c.toNat:Int))).map (Value.int .u8)).toArray w:=by
          have h7:=run_loadCells_list (P:=P) w ad (C5 l) (fun j v hj=>by
            have hne:C5 l ≠ []:=by intro e;simp [e] at hj
            obtain⟨b,o,hab,hcl⟩:=h6 hne
            cases hab
            have:=hcl.cell hm hj
            have hplain:(⟨b,o,none⟩:Addr).add j=⟨b,o+j,none⟩:=by unfold Addr.add;split<;>simp_all
            rw [hplain];exact this)
          have e1:(C5 l).length=l.length:=by simp [C5]
          have e2:(l.map (fun c=>(c.toNat:Int))).map (Value.int .u8)=C5 l:=by simp [C5,Fl.u8]
          rw [e1] at h7
          rw [e2];exact h7
        rw [run_bytesToString w ad l.length c _ hload,a6L]
        simp [ByteArray.empty,ByteArray.emptyWithCapacity]
        rfl
    simp [execOp,ha.ev h1,hrun,asV,p2.agg])
theorem j5.c1Z {α : Type} {r : p2 α} {l : List α} (hT : P.underlying T = some (.slice E)) (hx : D5 C σ H x (.v l)) (k : ∀ c : Bool, (c = true → l = []) → K (.v c)) :
    j5 P N C ⟨d,.binOp .eql T x (.const (.slice none 0 0)) T2,ty,ps,af,g⟩ σ H K:=fun ρ I L hs=>by
  obtain⟨u,h1,xs,⟨a,c,rfl,h2,h3,h4,h5,h6⟩,hl⟩:=hx.sl hs
  refine .H5 (I1.b8Z hT h1 a8 ⟨a8,.v a.isNone,⟨_,a8,a8⟩,k _ fun e => ?_⟩)
  have:=h5 (by simpa using e)
  exact List.eq_nil_of_length_eq_zero (by omega)
def a02 {n:Nat} {α:Type} (a:K5 n α) (m:List α):K5 n α:=⟨m.take n++a.l.drop m.length,by simp;omega⟩
theorem B3.b7h {α β : Type} {n : Nat} {r : p2 α} {s : p2 β} {i0 : Inhabited β} {w : Value} {l : j6 α (K5 n β)} {a : α} {m : List β} {bb : Bool} {F : Bool × D8 → j7} (tE : F1 P E β) (hT : P.underlying T = some (.slice E)) (hx : D5 C σ H x (.sv w l))
    (hH:y4 H (bb,.ob w a) F) (hy:a8n P C σ H y m) (hb:m.length≤9223372036854775807) (k:KH (.v ((min m.length n:Nat):Int)) (F (bb,.ob w (l.set (a02 (l.get a) m) a)))) :
    B3 P C N ⟨d,.call ⟨.builtin .copy,#[x,y],#[T,U]⟩,ty,ps,af,g⟩ σ H KH:=fun ρ I L hs=>by
  obtain⟨u,h1,b,h0,rfl⟩:=hx ρ I L hs
  obtain⟨v,news,h2,h3,h4⟩:=hy ρ I L hs
  obtain⟨j,X,h5,h6,h7⟩:=hH.get hs.heap
  obtain⟨b2,T',cs,rfl,rfl,h9⟩:=h6.1
  cases h0
  intro ac w0 ha hst
  have hmem:=hst.mem
  generalize hmn:min m.length n=q at k
  have hsz:=tE.size.run w0
  have hfc:=h3.cells w0 hmem q (by omega)
  have hl4:=h4.len
  have hget:=l.a48 h9
  have hfits:=l.fits
  have hfits2:l.off+n*p2.size β≤p2.size α:=hfits
  have hcl:=p2.len h9
  have hsegl:(H7 cs l.off (n*p2.size β)).length=n*p2.size β:=by
    simp only [H7,List.length_take,List.length_drop];omega
  have hal:(l.get a).l.length=n:=(l.get a).h
  have hlist:m.take n=m.take q:=by rw [←hmn,List.take_eq_take_iff];omega
  have hdrop:(l.get a).l.drop m.length=(l.get a).l.drop q:=by
    by_cases h:m.length≤n
    · rw [←hmn,Nat.min_eq_left h]
    · rw [List.drop_eq_nil_of_le (by omega),List.drop_eq_nil_of_le (by omega)]
  have hnl:(news.take (q*p2.size β)).length=q*p2.size β:=by
    rw [List.length_take,hl4];exact Nat.min_eq_left (Nat.mul_le_mul_right _ (by omega))
  have hqn:q*p2.size β≤n*p2.size β:=Nat.mul_le_mul_right _ (by omega)
  have hrep:K4 I (m.take n++(l.get a).l.drop m.length) (C9 (H7 cs l.off (n*p2.size β)) 0 (news.take (q*p2.size β))):=by
    rw [hlist,hdrop]
    have h10:=h4.cut 0 q (by omega)
    have h11:=K4.cut (show K4 I (l.get a).l _ from hget) q n (by omega)
    simp only [List.drop_zero,Nat.zero_mul] at h10 h11
    rw [List.take_of_length_le (show(l.get a).l.length≤n by omega)] at h11
    rw [List.take_of_length_le (show(H7 cs l.off (p2.size (K5 n β))).length≤n*p2.size β from Nat.le_of_eq hsegl)] at h11
    simp only [C9,List.take_zero,List.nil_append,Nat.zero_add]
    rw [hnl]
    exact h10.append h11
  have hbh:=hst.mem.loc (b,row cs T') (F7 h5 (by simp))
  have hall:∀ u∈news.take (q*p2.size β),u.oneCell'=true:=fun u hu=>List.all_eq_true.1 h4.flat u (List.mem_of_mem_take hu)
  have hfit:l.off+(news.take (q*p2.size β)).length≤cs.length:=by rw [hnl,hcl];omega
  have hst2:=Q5 P b l.off T' (0,0) (news.take (q*p2.size β)) 0 cs.toArray w0 hbh (by simpa using hfit) hall (fun j hj=>by omega)
  have hr:(execOp ac.eval ⟨d,.call ⟨.builtin .copy,#[x,y],#[T,U]⟩,ty,ps,af,g⟩).run P w0 = .ok (.value (goInt q)) (w0.setRow b (C9 cs l.off (news.take (q*p2.size β))).toArray):=by
    simp [execOp,resolve,invoke,builtin,Builtin.copy_,run_underlying hT,h3.len w0,hsz,ha.ev h1,ha.ev h2,hmn,hfc]
    simp only [Nat.add_zero] at hst2
    simp [hst2,C9]
  rw [hr]
  have hset:rep I (l.set (a02 (l.get a) m) a) (C9 cs l.off (news.take (q*p2.size β))):=by
    have h12:=l.a6f (y:=a02 (l.get a) m) h9 (show rep I (a02 (l.get a) m) _ from hrep)
    rw [a2u (by rw [hnl,Nat.zero_add];exact hqn) (by rw [hcl];exact hfits2)] at h12
    exact h12
  refine⟨I,_,a7g hst h5 _,Le.refl I,.v ((q:Nat):Int),_,⟨_,⟨rfl,by omega,by omega⟩,rfl⟩,h7 I (bb,.ob (ptr b 0) (l.set (a02 (l.get a) m) a)) [(b,row _ T')] (Le.refl I) ⟨⟨b,T',_,rfl,rfl,hset⟩,fun hbb p hp => ?_⟩,k⟩
  have:=h6.2 hbb _ (List.mem_singleton.2 rfl)
  simp only [List.mem_singleton] at hp
  subst hp;exact this
end rules
end Go.Ab
namespace Go.Ab
open Go.Fl Go.RowKit
open p2 (rep)
structure b5o (P : Program) (C : Ctx) (N n : Nat) (l : List Oper) (ci : List Nat) (σ0 : x5) (accP : List (Nat × AV)) (Inv : Array Bool → List (Nat × AV) → j7 → Prop) (ρ0 : Env) (I : Im)
    (listed:Array Bool) (cacc:List (Nat×AV)) (H:j7) (J:Im) (L:Lh) (vs:Nat→Value) (a:Act) (w:World):Prop where
  head:HeadInv .any l.toArray n listed
  le:Le I J
  W3:Le C.I0 J
  st:St C J L w
  heap:U2 C.w0.heap.size J H L
  pl:Inv listed cacc H
  keys:∀ j r,o9 cacc j=some r→j∈ci
  fresh:∀ j r,o9 cacc j=some r→listed.getD j false=true
  prom:∀ j r r0,o9 cacc j=some r→o9 accP j=some r0→r=r0
  b7e:∀ j,j∈ci→listed.getD j false=true→∃ r,o9 cacc j=some r
  val:∀ j,j < n→listed.getD j false=true→∃ r,o9 (cacc++accP) j=some r∧F8 J r (vs j)
  defers:a.defers = []
  size:a.tmps.size=N
  a5u:∀ j d,j < n→listed.getD j false=true→(l.toArray[j]?).bind (·.dst)=some d→a.tmps[d]?=some (vs j)
  a7q:∀ t v,Fl.look ρ0 t=some v→(∀ j,j < n→listed.getD j false=true→(l.toArray[j]?).bind (·.dst)≠some t)→a.tmps[t]?=some v
section
variable {P:Program} {C:Ctx} {N n:Nat} {l:List Oper} {ci:List Nat} {ss:List (List (Nat×Nat))} {σ0:x5} {ι:Type 1} {HT:Nat→ι→j7} {accP:List (Nat×AV)} {Inv:Array Bool→List (Nat×AV)→j7→Prop} {ρ0:Env} {I:Im} {L0:Lh} {H0:j7}
theorem b5o.step {listed : Array Bool} {cacc : List (Nat × AV)} {H : j7} {J : Im} {L : Lh} {vs : Nat → Value} {a : Act} {w : World} {Q' : Exit → Act → World → Prop}
    (h0:RSt C I L0 σ0 H0 ρ0) (hN:M4 N l=true) (hok:∀ i,i < n→a0F l.toArray n ss i=true) (hdst:a5D l.toArray n=true)
    (hfam:∀ listed cacc H i,Inv listed cacc H→i < n→i∉ci→listed.getD i false=false→∃ q,H=HT i q) (hpure:∀ listed cacc H i,Inv listed cacc H→i∉ci→Inv (listed.setIfInBounds i true) cacc H)
    (hstep:∀ listed cacc H i o s,Inv listed cacc H→i∈ci→l[i]?=some o→ss[i]?=some s→listed.getD i false=false→(∀ j,Region.waitsFor .any l.toArray i j=true→listed.getD j false=true)→i < listed.size →
      o.guard=none∧B3 P C N o (D3 σ0 (cacc++accP) s (C4 o)) H (fun r H'=>(∀ r0,o9 accP i=some r0→r=r0)∧Inv (listed.setIfInBounds i true) ((i,r)::cacc) H'))
    (hp:∀ i o s,i < n→i∉ci→l[i]?=some o→ss[i]?=some s→∃ r,o9 accP i=some r∧a1T P N C σ0 (HT i) accP o s r)
    (inv:b5o P C N n l ci σ0 accP Inv ρ0 I listed cacc H J L vs a w) {i:Nat} (hr:i∈Region.ready .any l.toArray listed) (hin:i < n)
    {K:Act→World→Prop} (hK:∀ cacc H J L vs a' w,b5o P C N n l ci σ0 accP Inv ρ0 I (listed.setIfInBounds i true) cacc H J L vs a' w→K a' w) :
    wpOpIn C.fen 0 P l.toArray Q' i K a w:=by
  obtain⟨hun,o,ho,hall⟩:=mem_ready.1 hr
  have hol:l[i]?=some o:=by simpa using ho
  have hok':=hok i hin
  unfold a0F at hok'
  simp only [ho] at hok'
  cases hs:ss[i]? with
  | none=>simp [hs] at hok'
  | some s =>
  simp only [hs,Bool.and_eq_true] at hok'
  obtain⟨hreads,hguard⟩:=hok'
  have hdN:∀ d,o.dst=some d→d < N:=fun d hod=>by
    have:=List.all_eq_true.1 hN o (List.mem_of_getElem? hol)
    rw [hod] at this
    simpa [Nat.blt_eq] using this
  have hlisted:∀ j,Region.waitsFor .any l.toArray i j=true→listed.getD j false=true:=fun j hw=>by
    obtain⟨e,he,hb,heq⟩:=a0K ho hw
    exact heq▸hall e he hb
  have hilt:i < listed.size:=by
    rcases Nat.lt_or_ge i listed.size with h'|h'
    · exact h'
    · simp [Array.getElem?_eq_none h'] at hun
  have hiun:listed.getD i false=false:=getD_both hun
  have hnot:∀ j,Region.waitsFor .any l.toArray j i=true→listed.getD j false=true→False:=fun j hw hl=>by
    obtain⟨oj,hoj,e,he,hb,heq⟩:=Region.waitsFor_spec hw
    have:=inv.head.closed j oj hoj hl e he hb
    rw [heq,hiun] at this
    cases this
  let g:Nat→Option Value:=fun t=>match J0 s t with|some j=>some (vs j)|none=>Fl.look ρ0 t
  have hsrcl:∀ t∈C4 o,∀ j,J0 s t=some j→j < n∧listed.getD j false=true∧(l.toArray[j]?).bind (·.dst)=some t:=fun t ht j hj=>by
    have hro:=List.all_eq_true.1 hreads t ht
    unfold a0I at hro
    simp only [hj,Bool.and_eq_true,beq_iff_eq] at hro
    exact⟨by simpa [Nat.blt_eq] using hro.1.1,hlisted j hro.2,hro.1.2⟩
  have hfits:Fits N (a0i g (C4 o)) a:=by
    refine⟨inv.defers,inv.size,fun t v hv => ?_⟩
    obtain⟨hmem,hg⟩:=a0J hv
    cases hsrc:J0 s t with
    | some j =>
      obtain⟨h1,h2,h3⟩:=hsrcl t hmem j hsrc
      have hgv:vs j=v:=by simpa [g,hsrc] using hg
      rw [←hgv]
      exact inv.a5u j t h1 h2 h3
    | none =>
      have hro:=List.all_eq_true.1 hreads t hmem
      unfold a0I at hro
      simp only [hsrc] at hro
      refine inv.a7q t v (by simpa [g,hsrc] using hg) fun j hj hl hdj => ?_
      have h1:=List.all_eq_true.1 hro j (List.mem_range.2 hj)
      simp only [hdj,beq_self_eq_true,Bool.not_true,Bool.false_or,Bool.or_eq_true,beq_iff_eq] at h1
      rcases h1 with h1|h1
      · subst h1;rw [hiun] at hl;cases hl
      · exact hnot j h1 hl
  have henv:∀ t b,F0 (D3 σ0 (cacc++accP) s (C4 o)) t=some b→∃ u,Fl.look (a0i g (C4 o)) t=some u∧F8 J b u:=fun t b hb=>by
    obtain⟨hmem,hb2⟩:=a0P hb
    cases hsrc:J0 s t with
    | some j =>
      simp only [hsrc] at hb2
      obtain⟨h1,h2,_⟩:=hsrcl t hmem j hsrc
      obtain⟨r,h3,h4⟩:=inv.val j h1 h2
      rw [hb2] at h3
      cases h3
      exact⟨vs j,by rw [L6 hmem];simp [g,hsrc],h4⟩
    | none =>
      simp only [hsrc] at hb2
      obtain⟨u,h1,h2⟩:=h0.env t b hb2
      exact⟨u,by rw [L6 hmem];simpa [g,hsrc] using h1,h2.mono inv.le⟩
  have hR:RSt C J L (D3 σ0 (cacc++accP) s (C4 o)) H (a0i g (C4 o)):=⟨henv,inv.heap,inv.W3⟩
  have hput:∀ j,j≠i→(listed.setIfInBounds i true).getD j false=listed.getD j false:=fun j hj=>getD_set_ne false (Ne.symm hj)
  have hdne:∀ j,j < n→j≠i→∀ d',(l.toArray[j]?).bind (·.dst)=some d'→o.dst≠some d':=by
    intro j hj hji d' hd' hod
    have hdi:(l.toArray[i]?).bind (·.dst)=some d':=by rw [ho];exact hod
    rcases Nat.lt_or_gt_of_ne hji with h1|h1
    · have:=List.all_eq_true.1 (List.all_eq_true.1 hdst i (List.mem_range.2 hin)) j (List.mem_range.2 h1)
      rw [hdi,hd'] at this
      simp at this
    · have:=List.all_eq_true.1 (List.all_eq_true.1 hdst j (List.mem_range.2 hj)) i (List.mem_range.2 h1)
      rw [hdi,hd'] at this
      simp at this
  -- what a finished operation does
  have fin : ∀ v J' L' H' cacc' w' r, Le J J' → St C J' L' w' → U2 C.w0.heap.size J' H' L' → F8 J' r v → o9 (cacc' ++ accP) i = some r → (∀ j, j ≠ i → o9 (cacc' ++ accP) j = o9 (cacc ++ accP) j) →
      Inv (listed.setIfInBounds i true) cacc' H'→(∀ j r,o9 cacc' j=some r→j∈ci)→(∀ j r r0,o9 cacc' j=some r→o9 accP j=some r0→r=r0)→(∀ j,j∈ci→(listed.setIfInBounds i true).getD j false=true→∃ r,o9 cacc' j=some r)→(∀ j r,o9 cacc' j=some r→(listed.setIfInBounds i true).getD j false=true)→K (a.put o.dst v) w':=by
    intro v J' L' H' cacc' w' r hle hst hH hv hri hrj hpl hkeys hprom hproL hfresh
    refine hK cacc' H' J' L' (fun j=>if j=i then v else vs j) _ _ ⟨inv.head.set hr hin,inv.le.trans hle,inv.W3.trans hle,hst,hH,hpl,hkeys,hfresh,hprom,hproL,fun j hj hl => ?_,?_,?_,fun j d' hj hl hd' => ?_,fun t u hu hno => ?_⟩
    · by_cases hji:j=i
      · subst hji
        exact⟨r,hri,by simpa using hv⟩
      · rw [hput j hji] at hl
        obtain⟨q,h1,h2⟩:=inv.val j hj hl
        exact⟨q,(hrj j hji).trans h1,by simpa [hji] using h2.mono hle⟩
    · rw [put_defers];exact inv.defers
    · rw [b0X];exact inv.size
    · by_cases hji:j=i
      · subst hji
        have hod:o.dst=some d':=by rw [ho] at hd';exact hd'
        rw [hod,put_eq _ _ (by rw [inv.size];exact hdN d' hod),if_pos rfl]
      · rw [hput j hji] at hl
        rw [a9M _ _ (hdne j hj hji d' hd'),if_neg hji]
        exact inv.a5u j d' hj hl hd'
    · rw [a9M _ _ (fun hod=>hno i hin (G7 hilt) (by rw [ho];exact hod))]
      refine inv.a7q t u hu fun j hj hl=>hno j hj ?_
      by_cases hji:j=i
      · subst hji;rw [hiun] at hl;cases hl
      · rw [hput j hji];exact hl
  -- the guard
  have hgrd:∀ gi want,o.guard=some (gi,want)→∀ b,o9 accP gi=some (.v b)→yielded l.toArray a.tmps gi=some b:=fun gi want hg b hb=>by
    rw [hg] at hguard
    simp only [Bool.and_eq_true] at hguard
    have hgn:gi < n:=by simpa [Nat.blt_eq] using hguard.1.1
    have hgl:=hlisted gi hguard.1.2
    obtain⟨r,h1,h2⟩:=inv.val gi hgn hgl
    have hr2:r = .v b:=by
      rw [C0] at h1
      cases hc:o9 cacc gi with
      | some q =>
        rw [hc] at h1
        cases h1
        exact inv.prom gi _ _ hc hb
      | none =>
        rw [hc] at h1
        simp only at h1
        rw [hb] at h1
        exact(Option.some.inj h1).symm
    subst hr2
    obtain⟨cs,rfl,hvs⟩:=h2
    obtain⟨dg,hdg0⟩:=Option.isSome_iff_exists.1 hguard.2
    obtain⟨og,hog,hdg⟩:=Option.bind_eq_some_iff.1 hdg0
    have htg:=inv.a5u gi dg hgn hgl (by rw [hog];exact hdg)
    rw [hvs] at htg
    unfold yielded
    rw [hog]
    simp only [Option.bind_some,hdg,htg]
    rfl
  unfold wpOpIn
  simp only [ho]
  by_cases hic:i∈ci
  · obtain⟨hgn,hop⟩:=hstep listed cacc H i o s inv.pl hic hol hs hiun hlisted hilt
    have hcn:o9 cacc i=none:=by
      cases hc:o9 cacc i with
      | none=>rfl
      | some q=>exact absurd (inv.fresh i q hc) (by rw [hiun];decide)
    have hself:∀ r,o9 (((i,r)::cacc)++accP) i=some r:=fun r=>by rw [C0,y5,if_pos rfl]
    have hoth:∀ r j,j≠i→o9 (((i,r)::cacc)++accP) j=o9 (cacc++accP) j:=fun r j hj=>by rw [C0,C0,y5,if_neg (Ne.symm hj)]
    have hkeys:∀ r,∀ j q,o9 ((i,r)::cacc) j=some q→j∈ci:=fun r j q hq=>by
      rw [y5] at hq
      by_cases e:i=j
      · subst e;exact hic
      · rw [if_neg e] at hq;exact inv.keys j q hq
    have hfresh:∀ r,∀ j q,o9 ((i,r)::cacc) j=some q→(listed.setIfInBounds i true).getD j false=true:=fun r j q hq=>by
      rw [y5] at hq
      by_cases e:i=j
      · subst e;exact G7 hilt
      · rw [if_neg e] at hq;rw [hput j (Ne.symm e)];exact inv.fresh j q hq
    have hprom:∀ r,(∀ r0,o9 accP i=some r0→r=r0)→∀ j q r0,o9 ((i,r)::cacc) j=some q→o9 accP j=some r0→q=r0:=fun r hr0 j q r0 hq h0=>by
      rw [y5] at hq
      by_cases e:i=j
      · subst e;rw [if_pos rfl] at hq;cases hq;exact hr0 r0 h0
      · rw [if_neg e] at hq;exact inv.prom j q r0 hq h0
    have hproL:∀ r,∀ j,j∈ci→(listed.setIfInBounds i true).getD j false=true→∃ q,o9 ((i,r)::cacc) j=some q:=fun r j hj hl=>by
      by_cases e:i=j
      · subst e;exact⟨r,by rw [y5,if_pos rfl]⟩
      · rw [hput j (Ne.symm e)] at hl
        obtain⟨q,hq⟩:=inv.b7e j hj hl
        exact⟨q,by rw [y5,if_neg e];exact hq⟩
    rw [if_pos (by simp [Region.wanted,hgn])]
    refine Yld.wp ((hop _ J L hR a w hfits inv.st).mono ?_)
    rintro v w' ⟨J',L',hst,hle,r,H',h1,h2,h3,h4⟩
    exact fin v J' L' H' ((i,r)::cacc) w' r hle hst h2 h1 (hself r) (hoth r) h4 (hkeys r) (hprom r h3) (hproL r) (hfresh r)
  · obtain⟨r,hri,hd⟩:=hp i o s hin hic hol hs
    have hcn:∀ j,j∉ci→o9 cacc j=none:=fun j hj=>by
      cases hc:o9 cacc j with
      | none=>rfl
      | some q=>exact absurd (inv.keys j q hc) hj
    have hself:o9 (cacc++accP) i=some r:=by rw [C0,hcn i hic];exact hri
    have hRq:RSt C J L (D3 σ0 accP s (C4 o)) H (a0i g (C4 o)):=hR.sub fun t b hb=>by
      obtain⟨hmem,hb2⟩:=a0P hb
      refine a4s ?_ hmem
      cases hsrc:J0 s t with
      | none=>simp only [hsrc] at hb2 ⊢;exact hb2
      | some j =>
        simp only [hsrc] at hb2 ⊢
        rw [C0]
        cases hc:o9 cacc j with
        | none=>exact hb2
        | some q=>exact congrArg some (inv.prom j q b hc hb2)
    have hproL:∀ j,j∈ci→(listed.setIfInBounds i true).getD j false=true→∃ q,o9 cacc j=some q:=fun j hj hl=>by
      have:j≠i:=by rintro rfl;exact hic hj
      rw [hput j this] at hl;exact inv.b7e j hj hl
    have hfresh:∀ j q,o9 cacc j=some q→(listed.setIfInBounds i true).getD j false=true:=fun j q hq=>by
      have:j≠i:=by rintro rfl;exact hic (inv.keys j q hq)
      rw [hput j this];exact inv.fresh j q hq
    obtain⟨Hp,hHp⟩:=hfam _ _ _ i inv.pl hin hic hiun
    have hdH:=hd Hp
    rw [←hHp] at hdH
    unfold a4J at hdH
    have run:∀ (c:AV),j5 P N C o (D3 σ0 accP s (C4 o)) H (fun r'=>r'=c)→(∀ J' u,F8 J' c u→F8 J' r u)→o.wpIn C.fen 0 P a w K Q':=fun c h hcr=>by
      refine Yld.wp ((h _ J L hRq a w hfits inv.st.mem).mono ?_)
      rintro v w' ⟨J',X,hc,hle,hn,hm,hX,rfl,r',h1,rfl⟩
      have hst:=(inv.st.step hc hle hn hm hX)
      rw [List.nil_append] at hst
      exact fin v J' L H cacc w' r hle hst (inv.heap.mono hle) (hcr _ _ h1) hself (fun j hj=>rfl) (hpure _ _ _ i inv.pl hic) inv.keys inv.prom hproL hfresh
    cases hg:o.guard with
    | none =>
      rw [hg] at hdH
      rw [if_pos (by simp [Region.wanted,hg])]
      exact run r hdH (fun _ _ h=>h)
    | some gw =>
      obtain⟨gi,want⟩:=gw
      rw [hg] at hdH
      obtain⟨b,c,hb,rfl,h2⟩:=hdH
      have hy:=hgrd gi want hg b hb
      by_cases hbw:b=want
      · rw [if_pos (by simp [Region.wanted,hg,hy,hbw])]
        exact run c (h2 hbw) (fun _ _ h _=>h)
      · have hwf:¬Region.wanted o (yielded l.toArray a.tmps)=true:=by simpa [Region.wanted,hg,hy] using hbw
        rw [if_neg hwf]
        refine⟨fun _ _=>trivial,?_⟩
        exact fin undef J L H cacc w (.opt (b == want) c) (Le.refl J) inv.st inv.heap (fun hc=>absurd (by simpa using hc) hbw) hself (fun j hj=>rfl) (hpure _ _ _ i inv.pl hic) inv.keys inv.prom hproL hfresh
theorem b4m {Q' : Exit → Act → World → Prop} (h0 : RSt C I L0 σ0 H0 ρ0) (hN : M4 N l = true) (hback : a1E l.toArray = true) (hok : ∀ i, i < n → a0F l.toArray n ss i = true) (hdst : a5D l.toArray n = true)
    (hfam:∀ listed cacc H i,Inv listed cacc H→i < n→i∉ci→listed.getD i false=false→∃ q,H=HT i q) (hpure:∀ listed cacc H i,Inv listed cacc H→i∉ci→Inv (listed.setIfInBounds i true) cacc H)
    (hstep:∀ listed cacc H i o s,Inv listed cacc H→i∈ci→l[i]?=some o→ss[i]?=some s→listed.getD i false=false→(∀ j,Region.waitsFor .any l.toArray i j=true→listed.getD j false=true)→i < listed.size →
      o.guard=none∧B3 P C N o (D3 σ0 (cacc++accP) s (C4 o)) H (fun r H'=>(∀ r0,o9 accP i=some r0→r=r0)∧Inv (listed.setIfInBounds i true) ((i,r)::cacc) H'))
    (hp:∀ i o s,i < n→i∉ci→l[i]?=some o→ss[i]?=some s→∃ r,o9 accP i=some r∧a1T P N C σ0 (HT i) accP o s r)
    (hle:n≤l.length) (htail:n=l.length∨(Region.sinkB .any l.toArray n=true∧Region.chainB .any l.toArray n=true)) (hseq:Region.seqB .any l.toArray (l.length - n) n (Q4 l.length n)=true)
    (hfin:∀ listed cacc H J L vs a w,b5o P C N n l ci σ0 accP Inv ρ0 I listed cacc H J L vs a w→(∀ j,j < n→listed.getD j false=true)→wpListIn C.fen 0 P l.toArray Q' (l.drop n) a w) :
    ∀ (m:Nat) (listed:Array Bool) cacc H J L vs a w,b5o P C N n l ci σ0 accP Inv ρ0 I listed cacc H J L vs a w→unl listed n=m→wpAnyIn C.fen 0 P .any l.toArray Q' (m+(l.length - n)) listed a w
  | 0,listed,cacc,H,J,L,vs,a,w,inv,hm=>by
    have hsz:listed.size=l.length:=by simpa using inv.head.size
    have hall:∀ j,j < n→listed.getD j false=true:=fun j hj=>a4X (by omega) (a2I hm j hj)
    have heq:listed=Q4 l.length n:=by
      refine Array.ext (by simp [Q4,hsz]) fun j h1 h2 => ?_
      have e1:(Q4 l.length n)[j]'h2=Nat.blt j n:=by simp [Q4]
      rw [e1]
      by_cases hj:j < n
      · have:=hall j hj
        simp [h1] at this
        rw [this]
        exact(Nat.blt_eq▸hj:Nat.blt j n=true).symm
      · have:=inv.head.tail j (by omega) (by simp;omega)
        simp [h1] at this
        rw [this]
        cases hb:Nat.blt j n
        · rfl
        · exact absurd (Nat.blt_eq▸hb:j < n) hj
    have hw:=hfin listed cacc H J L vs a w inv hall
    have h2:=a0k (md := .any) (Q':=Q') (l.drop n) n listed a w (fun j=>by simp [List.getElem?_drop]) (by rw [heq];simpa using hseq) hw
    simpa using h2
  | m+1,listed,cacc,H,J,L,vs,a,w,inv,hm=>by
    have hsz:listed.size=l.length:=by simpa using inv.head.size
    obtain⟨i,hin,hi,hlt⟩:=a9o hm
    have hr:=a1L hback (by simpa using inv.head.size) hi hlt
    rw [show m+1+(l.length - n)=(m+(l.length - n))+1 by omega]
    refine⟨fun h0=>(by rw [h0] at hr;cases hr),fun j hj => ?_⟩
    have hjn:j < n:=by
      rcases Nat.lt_or_ge j n with h|h
      · exact h
      · rcases htail with ht|⟨hs,hc⟩
        · obtain⟨_,o,ho,_⟩:=mem_ready.1 hj
          have:=(Array.getElem?_eq_some_iff.1 ho).1
          simp at this
          omega
        · have hnl:n < l.toArray.size:=by
            obtain⟨_,o,ho,_⟩:=mem_ready.1 hj
            have:=(Array.getElem?_eq_some_iff.1 ho).1
            omega
          exact absurd hj (tail_waits hs hc hnl inv.head _ i rfl hin hi j h)
    refine inv.step h0 hN hok hdst hfam hpure hstep hp hj hjn fun cacc' H' J' L' vs' a' w' inv' => ?_
    refine b4m h0 hN hback hok hdst hfam hpure hstep hp hle htail hseq hfin m _ cacc' H' J' L' vs' a' w' inv' ?_
    have hu:=(mem_ready.1 hj).1
    have:=a7c hu hjn
    omega
end
theorem I9.b7i {P : Program} {C : Ctx} {N : Nat} {Q : Exit → x5 → j7 → Prop} {σ : x5} {H : j7} {id : Nat} {l : List Oper} {ι : Type 1} (HT : Nat → ι → j7) (hm : P.follows .mixedOrders = true) (n : Nat) (ss : List (List (Nat × Nat))) (ci : List Nat)
    (hN:M4 N l=true) (hB:a1S l.toArray n ss=true) (full:List (Nat×AV)) (Inv:Array Bool→List (Nat×AV)→j7→Prop) (h00:Inv (Array.replicate l.toArray.size false) [] H)
    (hp:∀ i o s,i < n→i∉ci→l[i]?=some o→ss[i]?=some s→∃ r,o9 full i=some r∧a1T P N C σ (HT i) full o s r)
    (hfam:∀ listed cacc H i,Inv listed cacc H→i < n→i∉ci→listed.getD i false=false→∃ q,H=HT i q) (hpure:∀ listed cacc H i,Inv listed cacc H→i∉ci→Inv (listed.setIfInBounds i true) cacc H)
    (hstep:∀ listed cacc H i o s,Inv listed cacc H→i∈ci→l[i]?=some o→ss[i]?=some s→listed.getD i false=false→(∀ j,Region.waitsFor .any l.toArray i j=true→listed.getD j false=true)→i < listed.size →
      o.guard=none∧B3 P C N o (D3 σ (cacc++full) s (C4 o)) H (fun r H'=>(∀ r0,o9 full i=some r0→r=r0)∧Inv (listed.setIfInBounds i true) ((i,r)::cacc) H'))
    (hfinal:∀ listed cacc H',Inv listed cacc H'→(∀ j,j < n→listed.getD j false=true)→D1 P C N l.toArray Q (l.drop n) (a1q (cacc++full) (l.take n) 0 σ) H') :
    I9 P C N (.region id l.toArray true) Q σ H:=fun ρ I L hs a w ha hst=>by
  have hB0:=hB
  simp only [a1S,Bool.and_eq_true,Bool.or_eq_true] at hB
  obtain⟨⟨⟨⟨⟨hle,hback⟩,hok⟩,hdst⟩,htail⟩,hseq⟩:=hB
  have hle':n≤l.length:=by simpa using Nat.le_of_ble_eq_true hle
  have hok':∀ i,i < n→a0F l.toArray n ss i=true:=fun i hi=>List.all_eq_true.1 hok i (List.mem_range.2 hi)
  have hs':St C I L { w with drawn:=w.drawn+1 }:=⟨⟨hst.mem.im,hst.mem.loc,hst.mem.sep,hst.mem.nodup⟩,⟨hst.chg.os,hst.chg.tape,hst.chg.output,hst.chg.size,hst.chg.block⟩,hst.own,hst.W3,hst.new⟩
  refine wpIn_region_any hm ?_
  have inv0:b5o P C N n l ci σ full Inv ρ I (Array.replicate l.toArray.size false) [] H I L (fun _=>undef) a { w with drawn:=w.drawn+1 }:=by
    have hnl:∀ j,(Array.replicate l.toArray.size false).getD j false=true→False:=fun j hl=>by rw [getD_replicate_false] at hl;cases hl
    refine⟨⟨by simp,fun j oj _ hl=>(hnl j hl).elim,fun t _ ht=>getD_in (by simpa using ht) (getD_replicate_false _ _)⟩,Le.refl _,hs.W3,hs',hs.heap,h00,fun j r hj=>by simp [o9] at hj,fun j r hj=>by simp [o9] at hj,fun j r r0 hj=>by simp [o9] at hj,fun j _ hl=>(hnl j hl).elim,fun j _ hl=>(hnl j hl).elim,ha.defers,ha.size,fun j d _ hl=>(hnl j hl).elim,fun t v hv _=>ha.tmp t v hv⟩
  have hunl:unl (Array.replicate l.toArray.size false) n=n:=by
    have key:∀ k,k≤l.toArray.size→unl (Array.replicate l.toArray.size false) k=k:=by
      intro k
      induction k with
      | zero=>intro _;rfl
      | succ k ih =>
        intro hk
        rw [unl,ih (by omega),if_pos (getD_in (by simp at hk ⊢;omega) (getD_replicate_false _ _))]
    exact key n (by simpa using hle')
  have hmain:=b4m (Q':=a6A C N (qA C Q)) hs hN hback hok' hdst hfam hpure hstep hp hle'
    (by rcases htail with h | h
        · exact .inl (by simpa using h)
        · exact .inr h) (by simpa using hseq)
    (fun listed cacc H' J L' vs a' w' inv hall=>by
      have hpl:=hfinal listed cacc H' inv.pl hall
      have hNd:M4 N (l.drop n)=true:=by
        simp only [M4,List.all_eq_true] at hN ⊢
        exact fun o ho=>hN o (List.mem_of_mem_drop ho)
      have hR:RSt C J L' σ H' ρ:=⟨fun t b hb=>by obtain⟨u,h1,h2⟩:=hs.env t b hb;exact⟨u,h1,h2.mono inv.le⟩,inv.heap,inv.W3⟩
      have hget:∀ i o,(l.take n)[i]?=some o→i < n∧l[i]?=some o:=fun i o ho=>by
        have h1:=(List.getElem?_eq_some_iff.1 ho).1
        have hin:i < n:=by rw [List.length_take] at h1;omega
        rw [List.getElem?_take,if_pos hin] at ho
        exact⟨hin,ho⟩
      refine hpl (a8p vs (l.take n) 0 ρ) J L' (a7j (l.take n) 0 σ ρ hR fun i o ho => ?_) hNd a' w' (a4t inv.defers inv.size (l.take n) 0 ρ (fun i o d ho hdd => ?_) fun t v hv hno=>inv.a7q t v hv fun j hj _ hdj => ?_) inv.st
      · obtain⟨hin,_⟩:=hget i o ho
        rw [Nat.zero_add]
        exact inv.val i hin (hall i hin)
      · obtain⟨hin,ho2⟩:=hget i o ho
        rw [Nat.zero_add]
        exact inv.a5u i d hin (hall i hin) (by simp [ho2,hdd])
      · have hjl:j < l.length:=by omega
        have:(l.take n)[j]?=some l[j]:=by rw [List.getElem?_take,if_pos hj];exact List.getElem?_eq_getElem hjl
        refine hno j l[j] this ?_
        simpa [hjl] using hdj)
    n _ _ _ _ _ _ _ _ inv0 hunl
  rw [show n+(l.length - n)=l.toArray.size by simp;omega] at hmain
  exact hmain
theorem I9.c3i {P : Program} {C : Ctx} {N : Nat} {Q : Exit → x5 → j7 → Prop} {σ : x5} {H : j7} {id : Nat} {l : List Oper} {ι : Type 1} (HT : ι → j7) (hm : P.follows .mixedOrders = true) (n : Nat) (ss : List (List (Nat × Nat))) (ci : List Nat)
    (hN:M4 N l=true) (hB:a1S l.toArray n ss=true) (full:List (Nat×AV)) (Inv:Array Bool→List (Nat×AV)→j7→Prop) (h00:Inv (Array.replicate l.toArray.size false) [] H)
    (hp:∀ i o s,i < n→i∉ci→l[i]?=some o→ss[i]?=some s→∃ r,o9 full i=some r∧a1T P N C σ HT full o s r)
    (hfam:∀ listed cacc H,Inv listed cacc H→∃ q,H=HT q) (hpure:∀ listed cacc H i,Inv listed cacc H→i∉ci→Inv (listed.setIfInBounds i true) cacc H)
    (hstep:∀ listed cacc H i o s,Inv listed cacc H→i∈ci→l[i]?=some o→ss[i]?=some s→listed.getD i false=false→(∀ j,Region.waitsFor .any l.toArray i j=true→listed.getD j false=true)→i < listed.size →
      o.guard=none∧B3 P C N o (D3 σ (cacc++full) s (C4 o)) H (fun r H'=>(∀ r0,o9 full i=some r0→r=r0)∧Inv (listed.setIfInBounds i true) ((i,r)::cacc) H'))
    (hfinal:∀ listed cacc H',Inv listed cacc H'→(∀ j,j < n→listed.getD j false=true)→D1 P C N l.toArray Q (l.drop n) (a1q (cacc++full) (l.take n) 0 σ) H') :
    I9 P C N (.region id l.toArray true) Q σ H :=
  I9.b7i (fun _=>HT) hm n ss ci hN hB full Inv h00 hp (fun listed cacc H i h _ _ _=>hfam listed cacc H h) hpure hstep hfinal
end Go.Ab
