/- Plain Lean over any program, and walks of this seat's functions: contracts, each proved once (part 4). -/
import Derived.Test.YtfdifhfnpbphaaaGreatDoorZ3
import Derived.Lib.ItoaNum
import Derived.Lib.AtoiAll
import Derived.Shelf.Strings.Cut
import Derived.Shelf.Strings.Split
import Derived.Shelf.Strings.OnBuilder
import Derived.Shelf.Strconv.Itoa3
import Derived.Shelf.Strconv.AtoiAll
import Derived.Lib.AtoiErrMem
set_option maxRecDepth 1000000
set_option synthInstance.maxSize 1000000
set_option synthInstance.maxHeartbeats 10000000
set_option linter.unusedVariables false
set_option linter.unusedSimpArgs false
namespace Go.Proofs.YtfdifhfnpbphaaaGreatDoor
open Go.Proofs.Tryz
open Go.Fl Go.Ab Go.Mac Go.Sha
structure y2 where
 P7:Bool
 a2L:(M4 32 UInt8)
 K9:Int
 G4:O5
 B7:O5
def y2.f (x:y2):Bool×(M4 32 UInt8)×Int×O5×O5×Unit:=(x.P7,x.a2L,x.K9,x.G4,x.B7,())
instance:Inhabited y2:=⟨⟨default,default,default,default,default⟩⟩
instance:u3 y2:=u3.via y2.f
instance:K4 y2:=K4.via y2.f rfl
def y2.l0:j9 y2 Bool:=j9.via y2.f j9.fst (fun x=>x.P7) (fun y x => { x with P7:=y }) (fun _=>rfl) (fun _ _=>rfl)
def y2.l1:j9 y2 (M4 32 UInt8):=j9.via y2.f (j9.snd.comp j9.fst) (fun x=>x.a2L) (fun y x => { x with a2L:=y }) (fun _=>rfl) (fun _ _=>rfl)
def y2.l2:j9 y2 Int:=j9.via y2.f (j9.snd.comp (j9.snd.comp j9.fst)) (fun x=>x.K9) (fun y x => { x with K9:=y }) (fun _=>rfl) (fun _ _=>rfl)
def y2.l3:j9 y2 O5:=j9.via y2.f (j9.snd.comp (j9.snd.comp (j9.snd.comp j9.fst))) (fun x=>x.G4) (fun y x => { x with G4:=y }) (fun _=>rfl) (fun _ _=>rfl)
def y2.l4:j9 y2 O5:=j9.via y2.f (j9.snd.comp (j9.snd.comp (j9.snd.comp (j9.snd.comp j9.fst)))) (fun x=>x.B7) (fun y x => { x with B7:=y }) (fun _=>rfl) (fun _ _=>rfl)
structure u7 where
 a:y2
 e:Int
def u7.f (x:u7):y2×Int×Unit:=(x.a,x.e,())
instance:Inhabited u7:=⟨⟨default,default⟩⟩
instance:u3 u7:=u3.via u7.f
instance:K4 u7:=K4.via u7.f rfl
def u7.l0:j9 u7 y2:=j9.via u7.f j9.fst (fun x=>x.a) (fun y x => { x with a:=y }) (fun _=>rfl) (fun _ _=>rfl)
def u7.l1:j9 u7 Int:=j9.via u7.f (j9.snd.comp j9.fst) (fun x=>x.e) (fun y x => { x with e:=y }) (fun _=>rfl) (fun _ _=>rfl)
theorem a6e:K1 prog 43 O5 := .ok (by kernel_rfl)
theorem a6f:K1 prog 44 O5 := .ok (by kernel_rfl)
theorem a2s:K1 prog 46 y2 := .ok (by kernel_rfl)
instance:FdS prog 46 4 y2.l4 (fun x=>x.B7):=⟨.ok a23 rfl fun _=>rfl⟩
theorem c7Y:K1 prog 200 u7 := .ok (by kernel_rfl)
instance:FdS prog 200 0 u7.l0 (fun x=>x.a):=⟨.ok P1 rfl fun _=>rfl⟩
instance:FdS prog 200 1 u7.l1 (fun x=>x.e):=⟨.ok b2A rfl fun _=>rfl⟩
instance:Q2 u7.l1 (fun x=>x.e) (fun y x => { x with e:=y }):=⟨fun _=>rfl,fun _ _=>rfl⟩
def a5q (a:F1)(um ub:Value):y2:=⟨a.P7,a.a2L,a.K9,⟨um⟩,⟨ub⟩⟩
def a2D (a:F1)(e:Int)(um ub:Value):u7:=⟨a5q a um ub,e⟩
theorem b9T (a:F1)(I:Im)(u:Value)(h:F9 I (.v a) u):∃ x y,F9 I (.v (a5q a x y)) u∧F9 I (.v a.G4) x∧F9 I (.v a.B7) y:=by
 obtain⟨cs,⟨c1,r1,rfl,h1,c2,r2,rfl,h2,c3,r3,rfl,h3,c4,r4,rfl,h4,c5,r5,rfl,h5,h6⟩,rfl⟩:=h
 obtain⟨v4,rfl,h4⟩:=h4
 obtain⟨v5,rfl,h5⟩:=h5
 have o4:v4.oneCell'=true:=by obtain⟨xs,⟨a,c,rfl,_⟩,_⟩:=h4;rfl
 have o5:v5.oneCell'=true:=by obtain⟨xs,⟨a,c,rfl,_⟩,_⟩:=h5;rfl
 exact⟨v4,v5,⟨_,⟨c1,_,j0,h1,c2,_,j0,h2,c3,_,j0,h3,_,_,j0,⟨j0,o4⟩,_,_,j0,⟨j0,o5⟩,h6⟩,j0⟩,⟨_,⟨v4,j0,h4⟩,j0⟩,⟨_,⟨v5,j0,h5⟩,j0⟩⟩
theorem b1Q (a:F1)(x y:Value)(I:Im)(u:Value)(h:F9 I (.v (a5q a x y)) u)(h4:F9 I (.v a.G4) x)(h5:F9 I (.v a.B7) y):F9 I (.v a) u:=by
 obtain⟨cs,⟨c1,r1,rfl,h1,c2,r2,rfl,h2,c3,r3,rfl,h3,c4,r4,rfl,⟨rfl,_⟩,c5,r5,rfl,⟨rfl,_⟩,h6⟩,rfl⟩:=h
 obtain⟨_,⟨v4,rfl,h4⟩,rfl⟩:=h4
 obtain⟨_,⟨v5,rfl,h5⟩,rfl⟩:=h5
 exact⟨_,⟨c1,_,j0,h1,c2,_,j0,h2,c3,_,j0,h3,_,_,j0,⟨_,j0,h4⟩,_,_,j0,⟨_,j0,h5⟩,h6⟩,j0⟩
abbrev gsM (u:Value)(a:F1):C3 := .P4 u (GS.mk 107 a.G4)
abbrev gsB (u:Value)(a:F1):C3 := .P4 u (GS.mk 109 a.B7)
abbrev mp (w:Value):AV := .ln w (j9.id (α:=u7))
structure MkU where
 a:F1
 e:Int
 um:Value
 ub:Value
def MkU.bs (w:Value)(x:MkU):List C3 := [.ob w (a2D x.a x.e x.um x.ub),gsM x.um x.a,gsB x.ub x.a]
theorem Q9.mono {I J:Im}(hle:Le I J):∀ {Hs:List C3} {L:Lh},Q9 I Hs L→Q9 J Hs L
 | [],_,h=>h
 | B::Hs,_,h=>by obtain⟨X,R,h1,h2,h3⟩:=h;exact⟨X,R,h1,C3.mono hle h2,Q9.mono hle h3⟩
instance:UB MkU where
 ub I w x X:=∃ L,X=L.flatten∧Q9 I (x.bs w) L
 mono hle h:=by obtain⟨L,h1,h2⟩:=h;exact⟨L,h1,Q9.mono hle h2⟩
theorem C6.mk {G : Gl}{P : Program}{f : FuncId}{ag : List AV}{w : Value}{x : MkU}{post : AV → MkU → Prop}(h : C6 G P f ag (x.bs w) (fun r Hs => ∃ x', Hs = x'.bs w ∧ post r x')) :
    C6 G P f ag [.P4 w x] (fun r Hs=>∃ x',Hs = [.P4 w x']∧post r x'):=by
  refine .a2J fun I L vs hvs hL => ?_
  obtain⟨X,R,rfl,⟨L0,rfl,h1⟩,h2⟩:=hL
  obtain rfl:R = []:=h2
  refine⟨ag,x.bs w,L0,by simp,hvs,h1,fun I L vs hG hvs hL => ?_⟩
  have hM:=h I L vs hG hvs hL
  refine⟨hM.ok,fun w0 hm=>(hM.run w0 hm).mono ?_⟩
  rintro e w' ⟨v,J,L',rfl,q1,q2,q3,q4,q5,r,Hs,q6,q7,x',rfl,q8⟩
  exact⟨v,J,L',rfl,q1,q2,q3,q4,q5,r,_,q6,q7,fun J' L1 h3=>⟨[.P4 w x'],[L1.flatten],by simp,⟨_,[],rfl,⟨L1,rfl,h3⟩,rfl⟩,x',rfl,q8⟩⟩
theorem C6.d0L {G : Gl}{P : Program}{f : FuncId}{ag : List AV}{post : AV → Value → MkU → Prop}(h : C6 G P f ag [] (fun r Hs => ∃ w x', Hs = MkU.bs w x' ∧ post r w x')) :
    C6 G P f ag [] (fun r Hs=>∃ w x',Hs = [.P4 w x']∧post r w x'):=by
  refine .a2J fun I L vs hvs hL=>⟨ag,[],L,j0,hvs,hL,fun I L vs hG hvs hL => ?_⟩
  have hM:=h I L vs hG hvs hL
  refine⟨hM.ok,fun w0 hm=>(hM.run w0 hm).mono ?_⟩
  rintro e w' ⟨v,J,L',rfl,q1,q2,q3,q4,q5,r,Hs,q6,q7,w,x',rfl,q8⟩
  exact⟨v,J,L',rfl,q1,q2,q3,q4,q5,r,_,q6,q7,fun J' L1 h3=>⟨[.P4 w x'],[L1.flatten],by simp,⟨_,[],rfl,⟨L1,rfl,h3⟩,rfl⟩,w,x',rfl,q8⟩⟩
theorem a9w (a:F1):C6 gl prog 82 [.v a] [] (fun r Hs=>∃ w,∃ x:MkU,Hs = [.P4 w x]∧r=mp w∧x.a=a∧x.e=0):=by
 refine C6.d0L (post:=fun r w x=>r=mp w∧x.a=a∧x.e=0) ?_
 refine C6.a0k func82 rfl (by kernel_rfl) 14 rfl rfl _ rfl _ rfl fun C hC hG => ?_
 refine .q 1 hG ?_
 refine .c9J 0 (fun um ub => .v (a5q a um ub)) (b9T a) j0 fun um ub => ?_
 refine .q 2 hG fun b1 => ?_
 refine .p (.assign .raw ?_)
 refine .q 2 hG ?_
 refine .a0w [j6,j6,j6] (by kernel_rfl) 7 [[],[(3,0)],[(4,1)],[],[(6,3)],[(7,4)],[]] [2,5] j0 (by kernel_rfl) j0 (by kernel_rfl) (by decide) ?_
 refine⟨_,fun H=>OpP.P5 y2.l3 a3B j0 (.t j0) j0,?_⟩
 refine⟨_,fun H=>OpP.ldR (fun x=>x.G4) a6e (.t j0) (H9.app .z) (fun _=>j0) j0,?_⟩
 refine .inl ?_
 refine⟨_,fun H=>OpP.P5 y2.l4 a23 j0 (.t j0) j0,?_⟩
 refine⟨_,fun H=>OpP.ldR (fun x=>x.B7) a6f (.t j0) (H9.app .z) (fun _=>j0) j0,?_⟩
 refine .inl ?_
 refine⟨_,fun H=>OpP.P5 y2.l3 a3B j0 (.t j0) j0,?_⟩
 refine⟨⟨([],j7 [j4,j4,j4]),j0⟩,?_⟩
 refine OpH.a6Z hG (C4.gs 107 (b9R _)) (.cons (.fzA rfl .z1) .nil) fun r5 Hs5 hr5 => ?_
 obtain⟨u5,rfl,rfl⟩:=hr5
 refine⟨⟨([_],j7 [j4,j4,j4]),j0⟩,?_⟩
 refine OpH.a6Z hG (C4.gs 109 (b2Z _)) (.cons (.fzA rfl .z3) .nil) fun r8 Hs8 hr8 => ?_
 obtain⟨u8,rfl,rfl⟩:=hr8
 refine⟨⟨([_,_],j7 [j4,j4,j4]),j0⟩,?_⟩
 show wpB _ _ _ _ _ [_,_,_] ((9,_)::(8,_)::(7,_)::(6,_)::(5,_)::(4,_)::(3,_)::_) _
 refine .n (.stF (fun y x => { x with G4:=y }) a6e (.t j0) (.gs j0 .z1) .z2 (fun _ _=>j0) ?_)
 refine .q 1 hG ?_
 refine .n (.stF (fun y x => { x with B7:=y }) a6f (.t j0) (.gs j0 .z) .z2 (fun _ _=>j0) ?_)
 refine .q 3 hG ?_
 refine .p (.ldW a2s (.t j0) .z2 (.p (.bS1 u7.l0 j0 c7Y c9c (fun c0=>(⟨c0,0⟩:u7)) (fun _=>j0) j0 j0 (.t j0) ?_)))
 refine .q 1 hG fun b13 => ?_
 refine .q 3 hG ?_
 refine .e1 j0 j0 ?_
 refine⟨_,.cons .z (.cons .z2 (.cons .z1 (.nil))),?_⟩
 exact⟨ptr b13 0,⟨a,0,u5,u8⟩,j0,j0,j0,j0⟩
theorem a5r (w:Value)(s:u7)(e:Int):C6 gl prog 87 [mp w,.v e] [.ob w s] (fun r Hs=>Hs = [.ob w { s with e:=if s.e=0 then e else s.e }]):=by
 refine C6.jn func87 (by kernel_rfl) 13 rfl fun C hC hG => ?_
 refine .q 9 hG ⟨fun hc8 => ?_,fun hc8 => ?_⟩
 ·refine .q 7 hG ?_
  refine⟨_,.r0 j0,?_⟩
  have h8:s.e=0:=hc8
  rw [if_pos h8];rfl
 ·refine .q 1 hG ?_
  refine⟨_,.r0 j0,?_⟩
  have h8:¬s.e=0:=hc8
  rw [if_neg h8];rfl
theorem b3a (seed:Tag)(n:Int)(h0:0≤n)(h1:n≤65536):(derive seed a5n n).2=0:=by
 unfold derive
 rw [if_neg (by decide),if_neg (by simp;omega)]
def mkKey (a:F1)(e:Int):Tag×F1×Int:=if e≠0 then (default,a,e) else ((K2 a).2.1,if (K2 a).2.2=0 then (K2 a).1 else a,(K2 a).2.2)
theorem b1R {a:F1}{e:Int}(h:e≠0):mkKey a e=(default,a,e):=by unfold mkKey;rw [if_pos h]
theorem b6N {a:F1}{e:Int}(h:e=0)(h2:65536≤a.K9):mkKey a e=(default,a,2):=by
 unfold mkKey K2;rw [if_neg (by omega),if_pos h2];rfl
theorem b1S {a:F1}{e:Int}(h:e=0)(h2:¬65536≤a.K9):mkKey a e=((if a.P7 then Y9 107 (a.K9+1) else (derive a.a2L a5n (a.K9+1)).1),⟨a.P7,a.a2L,a.K9+1,a.G4,a.B7⟩,0):=by
 unfold mkKey K2;rw [if_neg (by omega),if_neg h2];rfl
theorem c5y (w:Value)(a:F1)(e:Int)(um ub:Value)(B1 B2:C3)(h0:0≤a.K9):C6 gl prog 83 [mp w] [.ob w (a2D a e um ub),B1,B2] (fun r Hs=>r = .v (mkKey a e).1∧Hs = [.ob w (a2D (mkKey a e).2.1 (mkKey a e).2.2 um ub),B1,B2]):=by
 refine C6.a0k func83 rfl (by kernel_rfl) 57 rfl rfl _ rfl _ rfl fun C hC hG => ?_
 refine .q 1 hG ?_
 have hr0:(a2D a e um ub).a.K9=a.K9:=rfl
 refine .q 2 hG fun b2 => ?_
 refine .q 4 hG ?_
 refine .mv j0 (.p (.E3 (.t j0) (.p (.P5 u7.l0 P1 j0 (.t j0) (.p (.a2n y2.l2 a9Z j0 (.t j0) (.p (.ldF (fun x=>x.a.K9) ty3 (.t j0) .z1 (fun _=>j0) (.p (.geq (.t j0) (.i j0) ?_))))))))))
 refine .q 1 hG ?_
 refine .a0q (.t j0) (fun hc10 => ?_) (fun hc10 => ?_)
 ·refine .q 1 hG ?_
  refine .mv j0 ?_
  refine .km hG (a5r _ _ _) .z1 (by rintro _ _ rfl;exact⟨_,rfl⟩) fun r12 B12 hr12 => ?_
  cases hr12
  refine .q 10 hG ?_
  refine .a0q (.t rfl) (fun hc17 => ?_) (fun hc17=>(by exfalso;apply hc17;show(if e=0 then (2:Int) else e)≠0;split<;>omega))
  refine .q 2 hG ?_
  refine .p (.a1y (default:(M4 32 UInt8)) U0 a1s .nil j0 ?_)
  refine .q 3 hG ?_
  refine⟨_,.r1 j0 (.cell U0 j0 .z),?_⟩
  refine⟨_,.cons .z1 (.cons .z2 (.cons .z3 (.nil))),?_⟩
  have h9:65536≤a.K9:=hc10
  by_cases he:e=0
  ·rw [b6N he h9,he];exact⟨rfl,rfl⟩
  ·rw [b1R he];refine⟨rfl,?_⟩;show [C3.ob w (u7.mk _ (if e=0 then (2:Int) else e)),_,_]=_;rw [if_neg he];rfl
 ·refine .q 11 hG ⟨fun hc17 => ?_,fun hc17 => ?_⟩
  ·refine .q 2 hG ?_
   refine .p (.a1y (default:(M4 32 UInt8)) U0 a1s .nil j0 ?_)
   refine .q 3 hG ?_
   refine⟨_,.r1 j0 (.cell U0 j0 .z),?_⟩
   refine⟨_,.cons .z1 (.cons .z2 (.cons .z3 (.nil))),?_⟩
   have he:e≠0:=hc17
   rw [b1R he];exact⟨rfl,rfl⟩
  ·refine .q 3 hG ?_
   refine .mv j0 (.p (.E3 (.t j0) (.p (.P5 u7.l0 P1 j0 (.t j0) (.p (.a2n y2.l2 a9Z j0 (.t j0) (.p (.ldF (fun x=>x.a.K9) ty3 (.t j0) .z1 (fun _=>j0) (.p (.add (.t j0) (.i j0) (by first|omega|(simp;done)|(simp;omega)|(simp at *;omega)) (by first|omega|(simp;done)|(simp;omega)|(simp at *;omega)) (.p (.E3 (.t j0) (.p (.P5 u7.l0 P1 j0 (.t j0) (.p (.a2n y2.l2 a9Z j0 (.t j0) (.n (.stF (fun y x => { x with a.K9:=y }) ty3 (.t j0) (.t j0) .z1 (fun _ _=>j0) ?_))))))))))))))))))
   refine .q 4 hG ?_
   refine .mv j0 (.p (.E3 (.t j0) (.p (.P5 u7.l0 P1 j0 (.t j0) (.p (.a2n y2.l0 b2v j0 (.t j0) (.p (.ldF (fun x=>x.a.P7) ty4 (.t j0) .z1 (fun _=>j0) ?_))))))))
   refine .q 1 hG ?_
   refine .cond (.t j0) (fun hc32 => ?_) (fun hc32 => ?_)
   ·refine .q 2 hG ?_
    refine .mv j0 (.p (.E3 (.t j0) (.p (.P5 u7.l0 P1 j0 (.t j0) (.p (.a2n y2.l2 a9Z j0 (.t j0) (.p (.ldF (fun x=>x.a.K9) ty3 (.t j0) .z1 (fun _=>j0) (.p (.J7 hG (b0t _ _) (.cons (.u8 107 j0) (.cons (.t j0) .nil)) ?_))))))))))
    refine .q 3 hG ?_
    refine⟨_,.r1 j0 (.cell U0 j0 .z),?_⟩
    refine⟨_,.cons .z1 (.cons .z2 (.cons .z3 (.nil))),?_⟩
    have he:e=0:=by have h9:¬(e≠0):=hc17;omega
    rw [b1S he hc10,if_pos (show a.P7=true from hc32),he];exact⟨rfl,rfl⟩
   ·refine .q 2 hG ?_
    refine .a0w [j6,j6,j6,j6] (by kernel_rfl) 17 [[],[(40,0)],[(41,1)],[(42,2)],[(43,3)],[],[(45,5)],[(46,6)],[(47,7)],[(48,8)],[(44,4),(49,9)],[(50,10)],[(39,11)],[(39,11)],[],[(3,14),(51,12)],[(52,13)]] [14,15] j0 (by kernel_rfl) j0 (by kernel_rfl) (by decide) ?_
    refine⟨_,fun H=>OpP.move (.t j0) j0,?_⟩
    refine⟨_,fun H=>OpP.E3 (.t j0) j0,?_⟩
    refine⟨_,fun H=>OpP.P5 u7.l0 P1 j0 (.t j0) j0,?_⟩
    refine⟨_,fun H=>OpP.a2n y2.l1 c7f j0 (.t j0) j0,?_⟩
    refine⟨_,fun H=>OpP.ldF (fun x=>x.a.a2L) U0 (.t j0) (H9.app .z1) (fun _=>j0) j0,?_⟩
    refine⟨_,fun H=>OpP.move (.t j0) j0,?_⟩
    refine⟨_,fun H=>OpP.E3 (.t j0) j0,?_⟩
    refine⟨_,fun H=>OpP.P5 u7.l0 P1 j0 (.t j0) j0,?_⟩
    refine⟨_,fun H=>OpP.a2n y2.l2 a9Z j0 (.t j0) j0,?_⟩
    refine⟨_,fun H=>OpP.ldF (fun x=>x.a.K9) ty3 (.t j0) (H9.app .z1) (fun _=>j0) j0,?_⟩
    refine⟨_,fun H=>OpP.J7 hG (c2J _ _ _ (by decide)) (.cons (.t j0) (.cons (.s [102,114,101,115,104] (by decide) (by decide)) (.cons (.t j0) .nil))) j0,?_⟩
    refine⟨_,fun H=>OpP.move (.t j0) j0,?_⟩
    refine⟨_,fun H=>OpP.c10 (.t j0) j0,?_⟩
    refine⟨_,fun H=>OpP.c11 (.t j0) j0,?_⟩
    refine .inl (.inl ?_)
    refine⟨_,fun H=>OpP.assign (.t j0) j0,?_⟩
    refine⟨⟨([],j7 [j4,j4,j4,j4]),j0⟩,?_⟩
    refine OpH.alloc U0 fun b3 => ?_
    refine⟨⟨([_],j7 [j4,j4,j4,j4]),j0⟩,?_⟩
    refine OpH.stW U0 (.t rfl) (.t rfl) .z ?_
    refine⟨⟨([_],j7 [j4,j4,j4,j4]),j0⟩,?_⟩
    show wpB _ _ _ _ _ [] ((4,_)::(3,_)::(52,_)::(51,_)::(39,_)::(50,_)::(49,_)::(48,_)::(47,_)::(46,_)::(45,_)::(44,_)::(43,_)::(42,_)::(41,_)::(40,_)::_) _
    refine .q 5 hG ?_
    refine .km hG (a5r _ _ _) .z2 (by rintro _ _ rfl;exact⟨_,rfl⟩) fun r55 B55 hr55 => ?_
    cases hr55
    refine .q 7 hG ?_
    refine⟨_,.r1 j0 (.cell U0 j0 .z1),?_⟩
    refine⟨_,.cons .z2 (.cons .z3 (.cons .z4 (.nil))),?_⟩
    have he:e=0:=by have h9:¬(e≠0):=hc17;omega
    have hf:¬(a.P7=true):=by rw [show a.P7=false from hc32];decide
    have h10:¬65536≤a.K9:=hc10
    have hd:=b3a a.a2L (a.K9+1) (by omega) (by omega)
    rw [b1S he hc10,if_neg hf];refine⟨rfl,?_⟩
    show [C3.ob w (u7.mk _ (if e=0 then (derive a.a2L a5n (a.K9+1)).2 else e)),_,_]=_
    rw [hd,he];rfl
def O2 (a:F1)(e:Int)(k:Tag)(m:List UInt8):Tag×F1×Int:=if e≠0 then (default,a,e) else ((P3 a k m).2.1,if (P3 a k m).2.2=0 then (P3 a k m).1 else a,(P3 a k m).2.2)
theorem a32 {a:F1}{e:Int}{k:Tag}{m:List UInt8}(h:e≠0):O2 a e k m=(default,a,e):=by unfold O2;rw [if_pos h]
theorem a1D {a:F1}{e:Int}{k:Tag}{m:List UInt8}(h:e=0){r}(h2:P3 a k m=r):O2 a e k m=(r.2.1,if r.2.2=0 then r.1 else a,r.2.2):=by unfold O2;rw [if_neg (by omega),h2]
theorem a8h {α:Type}{l:List α}{p:α→Bool}(h:0≤idx l p):idx l p < l.length:=by
 unfold idx at *;split at h<;>split<;>omega
theorem a9x {α:Type}{l:List α}{p:α→Bool}(h:0≤idx l p)(h2:(idx l p).toNat < l.length):l.find? p=some l[(idx l p).toNat]:=by
 have h3:l.findIdx p < l.length:=by unfold idx at h;split at h<;>omega
 have h4:(idx l p).toNat=l.findIdx p:=by unfold idx;rw [if_pos h3];rfl
 simp only [h4]
 exact List.find?_eq_some_iff_getElem.2 ⟨List.findIdx_getElem (w:=h3),_,h3,rfl,fun j hj=>by simpa using List.not_of_lt_findIdx hj⟩
theorem a3s {α:Type}{l:List α}{p:α→Bool}(h:¬0≤idx l p):l.find? p=none:=by
 unfold idx at h
 split at h
 ·omega
 ·next h3=>exact List.find?_eq_none.2 fun x hx hp=>h3 (List.findIdx_lt_length_of_exists ⟨x,hx,hp⟩)
theorem b1T {a:F1}{k:Tag}{m:List UInt8}(h:¬4096 < m.length)(hi:0≤idx a.G4 (a3q k m))(h2:(idx a.G4 (a3q k m)).toNat < a.G4.length):P3 a k m=(a,a.G4[(idx a.G4 (a3q k m)).toNat].Tag,0):=by
 unfold P3 a2M;rw [if_neg h,a9x hi h2]
theorem c5z (w:Value)(a:F1)(e:Int)(um ub:Value)(B:C3)(k:Tag)(m:List UInt8)(hl:a.G4.length≤1000000):C6 gl prog 148 [mp w,.v k,.v m] [.ob w (a2D a e um ub),gsM um a,B]
    (fun r Hs=>∃ um',r = .v (O2 a e k m).1∧Hs = [.ob w (a2D (O2 a e k m).2.1 (O2 a e k m).2.2 um' ub),gsM um' (O2 a e k m).2.1,B]):=by
  refine C6.a0k func148 rfl (by kernel_rfl) 80 rfl rfl _ rfl _ rfl fun C hC hG => ?_
  refine .q 1 hG ?_
  have hr0:(a2D a e um ub).a.K9=a.K9:=rfl
  refine .q 2 hG fun b4 => ?_
  refine .q 1 hG fun b6 => ?_
  refine .q 3 hG ?_
  refine .U2 hC .z1 (.asP 4 j0 .z1 ?_)
  refine .q 6 hG ⟨fun hc12 => ?_,fun hc12 => ?_⟩
  · refine .q 2 hG ?_
    refine .km hG (a5r _ _ _) .z2 (by rintro _ _ rfl;exact⟨_,rfl⟩) fun r14 B14 hr14 => ?_
    cases hr14
    refine .q 10 hG ?_
    refine .a0q (.t rfl) (fun hc19 => ?_) (fun hc19=>(by exfalso;apply hc19;show(if e=0 then (2:Int) else e)≠0;split<;>omega))
    refine .q 2 hG ?_
    refine .p (.a1y (default:(M4 32 UInt8)) U0 a1s .nil j0 ?_)
    refine .q 3 hG ?_
    refine⟨_,.r1 j0 (.cell U0 j0 .z),?_⟩
    refine⟨_,.cons .z2 (.cons .z3 (.cons .z4 (.nil))),?_⟩
    by_cases he:e=0
    · rw [a1D he (b4E (by omega))];exact⟨um,rfl,by rw [he];rfl⟩
    · rw [a32 he];refine⟨um,rfl,?_⟩;show C3.ob w (u7.mk _ (if e=0 then (2:Int) else e))::_=_;rw [if_neg he];rfl
  · refine .q 11 hG ⟨fun hc19 => ?_,fun hc19 => ?_⟩
    · refine .q 2 hG ?_
      refine .p (.a1y (default:(M4 32 UInt8)) U0 a1s .nil j0 ?_)
      refine .q 3 hG ?_
      refine⟨_,.r1 j0 (.cell U0 j0 .z),?_⟩
      refine⟨_,.cons .z2 (.cons .z3 (.cons .z4 (.nil))),?_⟩
      have he:e≠0:=hc19
      rw [a32 he];exact⟨um,rfl,rfl⟩
    · refine .q 3 hG ?_
      refine .draw (by kernel_rfl) 9 [[],[(21,0)],[(22,1)],[(23,2)],[(24,3)],[],[],[(25,4),(26,5),(27,6)],[(28,7)]] j0 (by kernel_rfl) j0 ?_
      refine⟨_,OpP.move (.t j0) j0,?_⟩
      refine⟨_,OpP.E3 (.t j0) j0,?_⟩
      refine⟨_,OpP.P5 u7.l0 P1 j0 (.t j0) j0,?_⟩
      refine⟨_,OpP.a2n y2.l3 a3B j0 (.t j0) j0,?_⟩
      refine⟨_,OpP.ldR (fun x=>x.a.G4) a6e (.t j0) .z2 (fun _=>j0) j0,?_⟩
      refine⟨_,OpP.ldP U0 (.t j0) j0,?_⟩
      refine⟨_,OpP.move (.t j0) j0,?_⟩
      refine⟨_,OpP.c1Y hG (c7W _ _ _) (.cons (.gs j0 .z3) (.cons (.e (.t j0)) (.cons (.e (.t j0)) .nil))) (by first|exact .v|exact .t2 .v .v|exact .t3 .v .v .v) j0,?_⟩
      refine⟨_,OpP.assign (.t j0) j0,?_⟩
      show wpB _ _ _ _ _ [] ((7,_)::(28,_)::(27,_)::(26,_)::(25,_)::(24,_)::(23,_)::(22,_)::(21,_)::_) _
      refine .q 7 hG ⟨fun hc30 => ?_,fun hc30 => ?_⟩
      · refine .q 1 hG ?_
        refine .b8v .z3 ?_ ?_
        · have hi7:0≤idx a.G4 (a3q k m):=hc30
          have hl7:=a8h hi7
          refine .q 1 hG ?_
          refine .mv j0 (.p (.E3 (.t j0) (.p (.P5 u7.l0 P1 j0 (.t j0) (.p (.a2n y2.l3 a3B j0 (.t j0) (.p (.ldR (fun x=>x.a.G4) a6e (.t j0) .z2 (fun _=>j0) ?_))))))))
          refine .q 1 hG ?_
          refine .p (.idx a7d underlying43 (.fzC j0 .z3) (.t j0) (by first|omega|(simp;done)|(simp;omega)|(simp at *;omega)) (by first|omega|(simp;done)|(simp;omega)|(simp at *;omega)) ?_)
          refine .q 5 hG ?_
          refine⟨_,.r1 j0 (.cell U0 j0 .z),?_⟩
          refine⟨_,.cons .z2 (.gsC .z3 (.cons .z4 (.nil))),?_⟩
          have he:e=0:=by have h9:¬(e≠0):=hc19;omega
          rw [a1D he (b1T (by omega) hi7 (by omega))];exact⟨um,rfl,by rw [he];rfl⟩
        · have hi7:0≤idx a.G4 (a3q k m):=hc30
          have hl7:=a8h hi7
          refine .q 1 hG ?_
          refine .mv j0 (.p (.E3 (.t j0) (.p (.P5 u7.l0 P1 j0 (.t j0) (.p (.a2n y2.l3 a3B j0 (.t j0) (.p (.ldR (fun x=>x.a.G4) a6e (.t j0) .z2 (fun _=>j0) ?_))))))))
          refine .q 1 hG ?_
          refine .p (.a7Y a7d underlying43 j0 .z3 (.t j0) (by first|omega|(simp;done)|(simp;omega)|(simp at *;omega)) (by first|omega|(simp;done)|(simp;omega)|(simp at *;omega)) (.p (.c9u D8.l2 b7Z j0 (.t j0) (.p (.ldE U0 (.t j0) .z3 (by first|omega|(simp;done)|(simp;omega)|(simp at *;omega)) ?_)))))
          refine .q 3 hG ?_
          refine⟨_,.r1 j0 (.cell U0 j0 .z),?_⟩
          refine⟨_,.cons .z2 (.gsO .z3 (.cons .z4 (.nil))),?_⟩
          have he:e=0:=by have h9:¬(e≠0):=hc19;omega
          rw [a1D he (b1T (by omega) hi7 (by omega))];exact⟨um,rfl,by rw [he];rfl⟩
      · refine .q 3 hG ?_
        refine .mv j0 (.p (.E3 (.t j0) (.p (.P5 u7.l0 P1 j0 (.t j0) (.p (.a2n y2.l3 a3B j0 (.t j0) (.p (.ldR (fun x=>x.a.G4) a6e (.t j0) .z2 (fun _=>j0) (.p (.c6E underlying43 j0 .z3 ?_))))))))))
        refine .ad (by first|omega|(simp;done)|(simp;omega)|(simp at *;omega)) (by first|omega|(simp;done)|(simp;omega)|(simp at *;omega)) ?_
        refine .q 9 hG ⟨fun hc48 => ?_,fun hc48 => ?_⟩
        · refine .q 3 hG ?_
          refine .km hG (a5r _ _ _) .z2 (by rintro _ _ rfl;exact⟨_,rfl⟩) fun r50 B50 hr50 => ?_
          cases hr50
          refine .q 3 hG ?_
          refine .p (.a1y (default:(M4 32 UInt8)) U0 a1s .nil j0 ?_)
          refine .q 3 hG ?_
          refine⟨_,.r1 j0 (.cell U0 j0 .z),?_⟩
          refine⟨_,.cons .z2 (.cons .z3 (.cons .z4 (.nil))),?_⟩
          have he:e=0:=by have h9:¬(e≠0):=hc19;omega
          have hf:=a3s hc30
          rw [a1D he (b4F (by omega) hf (by simp at hc48;omega))];exact⟨um,rfl,by rw [he];rfl⟩
        · refine .q 4 hG ?_
          refine .p (.J7 hG (b0t _ _) (.cons (.u8 109 j0) (.cons (.t j0) .nil)) ?_)
          refine .q 1 hG fun b9 => ?_
          refine .n (.stW U0 (.t j0) (.t j0) .z ?_)
          refine .q 4 hG ?_
          refine .mv j0 (.p (.E3 (.t j0) (.p (.P5 u7.l0 P1 j0 (.t j0) (.p (.a2n y2.l0 b2v j0 (.t j0) (.p (.ldF (fun x=>x.a.P7) ty4 (.t j0) .z3 (fun _=>j0) (.p (.not (.t j0) ?_))))))))))
          refine .q 1 hG ?_
          refine .cond (.t j0) (fun hc59 => ?_) (fun hc59 => ?_)
          · refine .q 1 hG ?_
            refine .p (.a1W (by decide) a1s (.t j0) ?_)
            refine .q 1 hG ?_
            refine .p (.J7 hG (a7h _ _ (by first|omega|(simp;done)|(simp;omega)|(simp at *;omega)) (by first|omega|(simp;done)|(simp;omega)|(simp at *;omega))) (.cons (.t j0) (.cons (.t j0) .nil)) ?_)
            refine .q 3 hG ?_
            refine .a0w [j6,j6,j6,j6,j5,j6] (by kernel_rfl) 16 [[],[],[(64,1)],[(65,2)],[(66,3)],[(67,4)],[],[],[(70,7)],[],[(69,6),(71,8),(72,9)],[(73,10)],[(68,5),(74,11)],[(63,0)],[(76,13)],[(77,14)]] [5,12] j0 (by kernel_rfl) j0 (by kernel_rfl) (by decide) ?_
            refine⟨_,fun H=>OpP.move (.t j0) j0,?_⟩
            refine⟨_,fun H=>OpP.move (.t j0) j0,?_⟩
            refine⟨_,fun H=>OpP.E3 (.t j0) j0,?_⟩
            refine⟨_,fun H=>OpP.P5 u7.l0 P1 j0 (.t j0) j0,?_⟩
            refine⟨_,fun H=>OpP.a2n y2.l3 a3B j0 (.t j0) j0,?_⟩
            refine .inl ?_
            refine⟨_,fun H=>OpP.ldP U0 (.t j0) j0,?_⟩
            refine⟨_,fun H=>OpP.move (.t j0) j0,?_⟩
            refine⟨_,fun H=>OpP.J7 hG (Q1 _ (by first|omega|(simp;done)|(simp;omega)|(simp at *;omega))) (.cons (.t j0) .nil) j0,?_⟩
            refine⟨_,fun H=>OpP.ldW U0 (.t j0) (H9.app .z) j0,?_⟩
            refine⟨_,fun H=>OpP.bS3 D8.l0 D8.l1 D8.l2 j0 a7d c6v (fun c0 c1 c2=>(⟨c0,c1,c2⟩:D8)) (fun _ _ _=>j0) j0 j0 j0 j0 (.t j0) (.t j0) (.t j0) j0,?_⟩
            refine⟨_,fun H=>OpP.a2p (α:=D8) a7d underlying43 (.cons (.t j0) .nil) j0 (by decide) j0,?_⟩
            refine .inl ?_
            refine⟨_,fun H=>OpP.E3 (.t j0) j0,?_⟩
            refine⟨_,fun H=>OpP.P5 u7.l0 P1 j0 (.t j0) j0,?_⟩
            refine⟨_,fun H=>OpP.a2n y2.l3 a3B j0 (.t j0) j0,?_⟩
            refine⟨⟨([],j7 [j4,j4,j4,j4,_,j4]),j0⟩,?_⟩
            refine OpH.ofP (OpP.ldR (fun x=>x.a.G4) a6e (.t rfl) .z3 (fun _=>rfl) ?_)
            refine⟨⟨([],j7 [j4,j4,j4,j4,_,j4]),j0⟩,?_⟩
            refine OpH.a5i c7Q (.inl ⟨_,underlying43⟩) rfl .z4 (.v (.c rfl)) (by first|omega|(simp;done)|(simp;omega)|(simp at *;omega)) (by first|omega|(simp;done)|(simp;omega)|(simp at *;omega)) fun w75 => ?_
            refine⟨⟨([],j7 [j4,j4,j4,j4,_,j4]),j0⟩,?_⟩
            show wpB _ _ _ _ _ [_] ((78,_)::(77,_)::(76,_)::(75,_)::(74,_)::(73,_)::(72,_)::(71,_)::(70,_)::(69,_)::(68,_)::(67,_)::(66,_)::(65,_)::(64,_)::(63,_)::_) _
            refine .n (.stF (fun y x => { x with a.G4:=y }) a6e (.t j0) (.gs j0 .z4) .z3 (fun _ _=>j0) ?_)
            refine .q 7 hG ?_
            refine⟨_,.r1 j0 (.cell U0 j0 .z1),?_⟩
            refine⟨_,.cons .z3 (.cons .z4 (.cons .z5 (.nil))),?_⟩
            have he:e=0:=by have h9:¬(e≠0):=hc19;omega
            have hf:=a3s hc30
            rw [a1D he (a4t (by omega) hf (by simp at hc48;omega)),b4H (show a.P7=false from by have h9:(!a.P7)=true:=hc59;simpa using h9)];exact⟨w75,rfl,by rw [he];rfl⟩
          · refine .q 2 hG ?_
            refine .a0w [j6,j6,j6,j6,j5,j6] (by kernel_rfl) 16 [[],[],[(64,1)],[(65,2)],[(66,3)],[(67,4)],[],[],[(70,7)],[],[(69,6),(71,8),(72,9)],[(73,10)],[(68,5),(74,11)],[(63,0)],[(76,13)],[(77,14)]] [5,12] j0 (by kernel_rfl) j0 (by kernel_rfl) (by decide) ?_
            refine⟨_,fun H=>OpP.move (.t j0) j0,?_⟩
            refine⟨_,fun H=>OpP.move (.t j0) j0,?_⟩
            refine⟨_,fun H=>OpP.E3 (.t j0) j0,?_⟩
            refine⟨_,fun H=>OpP.P5 u7.l0 P1 j0 (.t j0) j0,?_⟩
            refine⟨_,fun H=>OpP.a2n y2.l3 a3B j0 (.t j0) j0,?_⟩
            refine .inl ?_
            refine⟨_,fun H=>OpP.ldP U0 (.t j0) j0,?_⟩
            refine⟨_,fun H=>OpP.move (.t j0) j0,?_⟩
            refine⟨_,fun H=>OpP.J7 hG (Q1 _ (by first|omega|(simp;done)|(simp;omega)|(simp at *;omega))) (.cons (.t j0) .nil) j0,?_⟩
            refine⟨_,fun H=>OpP.ldW U0 (.t j0) (H9.app .z) j0,?_⟩
            refine⟨_,fun H=>OpP.bS3 D8.l0 D8.l1 D8.l2 j0 a7d c6v (fun c0 c1 c2=>(⟨c0,c1,c2⟩:D8)) (fun _ _ _=>j0) j0 j0 j0 j0 (.t j0) (.t j0) (.t j0) j0,?_⟩
            refine⟨_,fun H=>OpP.a2p (α:=D8) a7d underlying43 (.cons (.t j0) .nil) j0 (by decide) j0,?_⟩
            refine .inl ?_
            refine⟨_,fun H=>OpP.E3 (.t j0) j0,?_⟩
            refine⟨_,fun H=>OpP.P5 u7.l0 P1 j0 (.t j0) j0,?_⟩
            refine⟨_,fun H=>OpP.a2n y2.l3 a3B j0 (.t j0) j0,?_⟩
            refine⟨⟨([],j7 [j4,j4,j4,j4,_,j4]),j0⟩,?_⟩
            refine OpH.ofP (OpP.ldR (fun x=>x.a.G4) a6e (.t rfl) .z3 (fun _=>rfl) ?_)
            refine⟨⟨([],j7 [j4,j4,j4,j4,_,j4]),j0⟩,?_⟩
            refine OpH.a5i c7Q (.inl ⟨_,underlying43⟩) rfl .z4 (.v (.c rfl)) (by first|omega|(simp;done)|(simp;omega)|(simp at *;omega)) (by first|omega|(simp;done)|(simp;omega)|(simp at *;omega)) fun w75 => ?_
            refine⟨⟨([],j7 [j4,j4,j4,j4,_,j4]),j0⟩,?_⟩
            show wpB _ _ _ _ _ [_] ((78,_)::(77,_)::(76,_)::(75,_)::(74,_)::(73,_)::(72,_)::(71,_)::(70,_)::(69,_)::(68,_)::(67,_)::(66,_)::(65,_)::(64,_)::(63,_)::_) _
            refine .n (.stF (fun y x => { x with a.G4:=y }) a6e (.t j0) (.gs j0 .z4) .z3 (fun _ _=>j0) ?_)
            refine .q 7 hG ?_
            refine⟨_,.r1 j0 (.cell U0 j0 .z1),?_⟩
            refine⟨_,.cons .z3 (.cons .z4 (.cons .z5 (.nil))),?_⟩
            have he:e=0:=by have h9:¬(e≠0):=hc19;omega
            have hf:=a3s hc30
            rw [a1D he (a4t (by omega) hf (by simp at hc48;omega)),b4G (show a.P7=true from by have h9:(!a.P7)=false:=hc59;simpa using h9)];exact⟨w75,rfl,by rw [he];rfl⟩
theorem c2K (w:Value)(s:u7)(B1 B2:C3):C6 gl prog 84 [mp w] [.ob w s,B1,B2] (fun r Hs=>r = .t2 (.v (if s.e≠0 then default else s.a)) (.v s.e)∧Hs = [.ob w s,B1,B2]):=by
 refine C6.a0k func84 rfl (by kernel_rfl) 18 rfl rfl _ rfl _ rfl fun C hC hG => ?_
 refine .q 2 hG ?_
 refine .h (.alloc a2s fun b2 => ?_)
 refine .q 12 hG ⟨fun hc8 => ?_,fun hc8 => ?_⟩
 ·refine .q 1 hG ?_
  refine .a0w [j5,j6,j6,j6] (by kernel_rfl) 7 [[],[],[(10,1)],[(11,2)],[(12,3)],[(9,0)],[(13,4)]] [5] j0 (by kernel_rfl) j0 (by kernel_rfl) (by decide) ?_
  refine⟨_,fun H=>OpP.bS0 (α:=y2) j0 a2s c4j j0,?_⟩
  refine⟨_,fun H=>OpP.move (.t j0) j0,?_⟩
  refine⟨_,fun H=>OpP.E3 (.t j0) j0,?_⟩
  refine⟨_,fun H=>OpP.P5 u7.l1 b2A j0 (.t j0) j0,?_⟩
  refine⟨_,fun H=>OpP.ldF (fun x=>x.e) d0n (.t j0) (H9.app .z1) (fun _=>j0) j0,?_⟩
  refine .inl ?_
  refine⟨_,fun H=>OpP.assign (.t j0) j0,?_⟩
  refine⟨⟨([],j7 [_,j4,j4,j4]),j0⟩,?_⟩
  refine OpH.stW a2s (.t rfl) (.t rfl) .z ?_
  refine⟨⟨([],j7 [_,j4,j4,j4]),j0⟩,?_⟩
  show wpB _ _ _ _ _ [] ((3,_)::(13,_)::(12,_)::(11,_)::(10,_)::(9,_)::_) _
  refine .q 2 hG ?_
  refine⟨_,.r2 j0 (.cell a2s j0 .z) (.tmp j0),?_⟩
  refine⟨_,.cons .z1 (.cons .z2 (.cons .z3 (.nil))),?_⟩
  rw [if_pos hc8];exact⟨rfl,rfl⟩
 ·refine .q 6 hG ?_
  refine .p (.ldF (fun x=>x.a) a2s (.t j0) .z1 (fun _=>j0) (.n (.stW a2s (.t j0) (.t j0) .z ?_)))
  refine .q 3 hG ?_
  refine⟨_,.r2 j0 (.cell a2s j0 .z) (.tmp j0),?_⟩
  refine⟨_,.cons .z1 (.cons .z2 (.cons .z3 (.nil))),?_⟩
  rw [if_neg hc8,show s.e=0 by omega];exact⟨rfl,rfl⟩
theorem b0u (a:F1)(e:Int):(mkKey a e).2.1.G4=a.G4∧(mkKey a e).2.1.B7=a.B7:=by
 unfold mkKey K2;split
 ·exact⟨j0,j0⟩
 ·split
  ·exact⟨j0,j0⟩
  ·exact⟨j0,j0⟩
theorem b4J (a:F1)(e:Int)(k:Tag)(m:List UInt8):(O2 a e k m).2.1.B7=a.B7:=by
 unfold O2 P3;split
 ·rfl
 ·split
  ·rfl
  ·split
   ·rfl
   ·split<;>rfl
theorem c7Z (w:Value)(x:MkU)(h0:0≤x.a.K9):C6 gl prog 83 [mp w] [.P4 w x] (fun r Hs=>∃ x':MkU,Hs = [.P4 w x']∧r = .v (mkKey x.a x.e).1∧x'.a=(mkKey x.a x.e).2.1∧x'.e=(mkKey x.a x.e).2.2) :=
 C6.mk (post:=fun r x'=>r = .v (mkKey x.a x.e).1∧x'.a=(mkKey x.a x.e).2.1∧x'.e=(mkKey x.a x.e).2.2)
  ((c5y w x.a x.e x.um x.ub (gsM x.um x.a) (gsB x.ub x.a) h0).mono fun r Hs ⟨h1,h2⟩=>⟨⟨_,_,x.um,x.ub⟩,by rw [h2];unfold MkU.bs gsM gsB;rw [(b0u x.a x.e).1,(b0u x.a x.e).2],h1,rfl,rfl⟩)
theorem c2L (w:Value)(x:MkU)(k:Tag)(m:List UInt8)(hl:x.a.G4.length≤1000000):C6 gl prog 148 [mp w,.v k,.v m] [.P4 w x] (fun r Hs=>∃ x':MkU,Hs = [.P4 w x']∧r = .v (O2 x.a x.e k m).1∧x'.a=(O2 x.a x.e k m).2.1∧x'.e=(O2 x.a x.e k m).2.2) :=
 C6.mk (post:=fun r x'=>r = .v (O2 x.a x.e k m).1∧x'.a=(O2 x.a x.e k m).2.1∧x'.e=(O2 x.a x.e k m).2.2)
  ((c5z w x.a x.e x.um x.ub (gsB x.ub x.a) k m hl).mono fun r Hs ⟨um',h1,h2⟩=>⟨⟨_,_,um',x.ub⟩,by rw [h2];unfold MkU.bs gsB;rw [b4J],h1,rfl,rfl⟩)
theorem b8L (w:Value)(x:MkU):C6 gl prog 84 [mp w] [.P4 w x] (fun r Hs=>∃ x':MkU,Hs = [.P4 w x']∧r = .t2 (.v (if x.e≠0 then default else a5q x.a x.um x.ub)) (.v x.e)∧x'=x) :=
 C6.mk (post:=fun r x'=>r = .t2 (.v (if x.e≠0 then default else a5q x.a x.um x.ub)) (.v x.e)∧x'=x)
  ((c2K w (a2D x.a x.e x.um x.ub) (gsM x.um x.a) (gsB x.ub x.a)).mono fun r Hs ⟨h1,h2⟩=>⟨x,h2,h1,rfl⟩)
theorem a9y {P : Program}{C : Ctx}{N : Nat}{σ : o8}{H : j8}{ops : Array Oper}{Q : Exit → o8 → j8 → Prop}{os : List Oper}(hC : Ctx.Ok C)(t : Nat){w : Value}{x : MkU}{F : Bool × C3 → j8}(ht : F6 σ t = some (.v (if x.e ≠ 0 then default else a5q x.a x.um x.ub)))(hH : H9 H (true, .P4 w x) F)
    (k:wpB P C N ops Q os ((t,.v (if x.e≠0 then default else x.a))::σ) (F (true,.fz w .any))):wpB P C N ops Q os σ H:=fun ρ I L hs=>by
  obtain⟨i,X,h1,h2,h3⟩:=hH.get hs.heap
  refine .freeze i h1 (a3F hC h2) fun J hle hp=>k ρ J _ ⟨fun s b hb => ?_,h3 J _ [] hle ⟨⟨rfl,trivial⟩,by simp⟩,hs.U9.trans hle⟩
  obtain⟨L0,rfl,X0,R0,rfl,g0,X1,R1,rfl,g1,X2,R2,rfl,g2,g3⟩:=h2.1
  have f1:=a79 g1 hle (fun p hq=>hp p (by simp [hq]))
  have f2:=a79 g2 hle (fun p hq=>hp p (by simp [hq]))
  rw [G7] at hb
  by_cases e:t=s
  · subst e;simp only [if_true] at hb;cases hb
    obtain⟨u,h4,h5⟩:=hs.env t _ ht
    refine⟨u,h4,?_⟩
    by_cases he:x.e≠0
    · rw [if_pos he] at h5 ⊢
      exact b1Q default _ _ J u (h5.mono hle) ⟨_,⟨_,rfl,[],Sl.nil J _,rfl⟩,rfl⟩ ⟨_,⟨_,rfl,[],Sl.nil J _,rfl⟩,rfl⟩
    · rw [if_neg he] at h5 ⊢
      exact b1Q x.a _ _ J u (h5.mono hle) f1 f2
  · rw [if_neg e] at hb
    obtain⟨u,h4,h5⟩:=hs.env s b hb
    exact⟨u,h4,h5.mono hle⟩
open Go.Ab Go.Mac
theorem d0M:EqT prog 81 3 y3 := .struct y3.f (fun a b h=>by cases a;cases b;simpa [y3.f] using h) underlying81 (by kernel_rfl) (.cons rfl (by simp) underlying3 rfl (.of (by kernel_rfl)) (.up 1 (.i64 underlying3)) (.cons rfl (by simp) underlying28 rfl (.of (by kernel_rfl)) (.a7Z underlying28 sz5 underlying5) .nil))
instance:EqJ prog 81 y3 := .mk' d0M rfl rfl (by kernel_rfl)
theorem a0x:EqT prog 131 2 o6 := .struct o6.f (fun a b h=>by cases a;cases b;simpa [o6.f] using h) underlying131 (by kernel_rfl) (.cons rfl (by simp) underlying3 rfl (.of (by kernel_rfl)) (.i64 underlying3) (.cons rfl (by simp) underlying129 rfl (.of (by kernel_rfl)) (.u64 underlying129) (.cons rfl (by simp) underlying3 rfl (.of (by kernel_rfl)) (.i64 underlying3) (.cons rfl (by simp) underlying3 rfl (.of (by kernel_rfl)) (.i64 underlying3) (.cons rfl (by simp) underlying9 rfl (.of (by kernel_rfl)) (.str underlying9) (.cons rfl (by simp) underlying3 rfl (.of (by kernel_rfl)) (.i64 underlying3) .nil))))))
instance:EqJ prog 131 o6 := .mk' a0x rfl rfl (by kernel_rfl)
instance:EqJ prog 28 (M4 32 UInt8) := .mk' (.a7Z underlying28 sz5 underlying5) rfl rfl (by kernel_rfl)
open Go.Fl Go.Ab Go.Mac
theorem a8L (l:List y3)(h:l.length≤1000000):C6 gl prog 80 [.v l] [] (fun r Hs=>∃ u,r = .raw u∧Hs = [.own 81 u l]):=by
 have i2:a1Z 2:=⟨trivial⟩
 refine .go func80 j0 8 [.tmp 2] j0 (by kernel_rfl) fun C hG => ?_
 exact .z hG rfl fun b hb=>⟨fun h1=>P6.of [.slice none 0 0] ⟨_,rfl,by rw [hb h1]⟩,fun h1 b3=>⟨by simp;omega,by simp;omega,fun w=>P6.of [w] ⟨_,rfl,rfl⟩⟩⟩
theorem b1U (l:List y3)(h:l.length≤1000000):C4 gl prog 80 [.v l] (fun r=>r = .v l):=(a8L l h).b2O
theorem a8M (l:List UInt8)(h:l.length≤100000000):C6 gl prog 120 [.v l] [] (fun r Hs=>∃ u,r = .raw u∧Hs = [.own 5 u l]):=by
 have i2:a1Z 2:=⟨trivial⟩
 refine .go func120 j0 8 [.tmp 2] j0 (by kernel_rfl) fun C hG => ?_
 exact .z hG rfl fun b hb=>⟨fun h1=>P6.of [.slice none 0 0] ⟨_,rfl,by rw [hb h1]⟩,fun h1 b3=>⟨by simp;omega,by simp;omega,fun w=>P6.of [w] ⟨_,rfl,rfl⟩⟩⟩
theorem a5P (l:List UInt8)(h:l.length≤100000000):C4 gl prog 120 [.v l] (fun r=>r = .v l):=(a8M l h).b2O
theorem b4K (l:List o7)(h:l.length≤1000000):C6 gl prog 119 [.v l] [] (fun r Hs=>∃ u,r = .raw u∧Hs = [.own 101 u l]):=by
 have i2:a1Z 2:=⟨trivial⟩
 refine .go func119 j0 8 [.tmp 2] j0 (by kernel_rfl) fun C hG => ?_
 exact .z hG rfl fun b hb=>⟨fun h1=>P6.of [.slice none 0 0] ⟨_,rfl,by rw [hb h1]⟩,fun h1 b3=>⟨by simp;omega,by simp;omega,fun w=>P6.of [w] ⟨_,rfl,rfl⟩⟩⟩
theorem b4L (l:List u9)(h:l.length≤1000000):C6 gl prog 121 [.v l] [] (fun r Hs=>∃ u,r = .raw u∧Hs = [.own 114 u l]):=by
 have i2:a1Z 2:=⟨trivial⟩
 refine .go func121 j0 8 [.tmp 2] j0 (by kernel_rfl) fun C hG => ?_
 exact .z hG rfl fun b hb=>⟨fun h1=>P6.of [.slice none 0 0] ⟨_,rfl,by rw [hb h1]⟩,fun h1 b3=>⟨by simp;omega,by simp;omega,fun w=>P6.of [w] ⟨_,rfl,rfl⟩⟩⟩
theorem b4M (l:List y1)(h:l.length≤1000000):C6 gl prog 177 [.v l] [] (fun r Hs=>∃ u,r = .raw u∧Hs = [.own 147 u l]):=by
 have i2:a1Z 2:=⟨trivial⟩
 refine .go func177 j0 8 [.tmp 2] j0 (by kernel_rfl) fun C hG => ?_
 exact .z hG rfl fun b hb=>⟨fun h1=>P6.of [.slice none 0 0] ⟨_,rfl,by rw [hb h1]⟩,fun h1 b3=>⟨by simp;omega,by simp;omega,fun w=>P6.of [w] ⟨_,rfl,rfl⟩⟩⟩
theorem c2M (l:List y3)(p:y3→Bool):C4 gl prog 179 [.v l,.a62 prog p] (fun r=>r = .v (idx l p)):=by
 refine .go func179 rfl 19 [.tmp 4] rfl (by kernel_rfl) fun C hG=>(.z hG rfl (.a4I 0 rfl fun hl0=>(.lp hG (fun k:Nat => [(8,.v (k:Int))]) (fun k => []) (fun k=>k≤l.length∧∀ j (hj:j < l.length),j < k→p l[j]=false) (fun k=>l.length - k) 0 rfl ⟨rfl,by simp,fun k ⟨h1,h2⟩=>⟨fun h3=>⟨by omega,h3,fun h4 => ?_,fun h4=>⟨by omega,by omega,k+1,rfl,⟨by omega,fun j hj hjk => ?_⟩,by omega⟩⟩,fun h3 => ?_⟩⟩)))
 ·rw [b0s (by omega) (by simpa [show k < l.length by omega] using h4) h2]
 ·rcases Nat.lt_or_ge j k with h|h
  ·exact h2 j hj h
  ·obtain rfl:j=k:=by omega
   simpa [hj] using h4
 ·rw [a5m fun j hj=>h2 j hj (by omega)]
theorem c2N (l:List y1)(p:y1→Bool):C4 gl prog 301 [.v l,.a62 prog p] (fun r=>r = .v (idx l p)):=by
 refine .go func301 rfl 19 [.tmp 4] rfl (by kernel_rfl) fun C hG=>(.z hG rfl (.a4I 0 rfl fun hl0=>(.lp hG (fun k:Nat => [(8,.v (k:Int))]) (fun k => []) (fun k=>k≤l.length∧∀ j (hj:j < l.length),j < k→p l[j]=false) (fun k=>l.length - k) 0 rfl ⟨rfl,by simp,fun k ⟨h1,h2⟩=>⟨fun h3=>⟨by omega,h3,fun h4 => ?_,fun h4=>⟨by omega,by omega,k+1,rfl,⟨by omega,fun j hj hjk => ?_⟩,by omega⟩⟩,fun h3 => ?_⟩⟩)))
 ·rw [b0s (by omega) (by simpa [show k < l.length by omega] using h4) h2]
 ·rcases Nat.lt_or_ge j k with h|h
  ·exact h2 j hj h
  ·obtain rfl:j=k:=by omega
   simpa [hj] using h4
 ·rw [a5m fun j hj=>h2 j hj (by omega)]
theorem b8M {α:Type}(l:List α)(p:α→Bool):decide (0≤idx l p)=l.any p:=by
 by_cases h:0≤idx l p
 ·have h2:=a8h h
  have h3:=a9x h (by omega)
  rw [decide_eq_true h]
  obtain⟨h4,h5⟩:=List.find?_eq_some_iff_append.1 h3
  exact(List.any_eq_true.2 ⟨_,List.getElem_mem _,h4⟩).symm
 ·have h3:=a3s h
  rw [decide_eq_false h]
  refine(List.any_eq_false.2 fun x hx => ?_).symm
  exact List.find?_eq_none.1 h3 x hx
instance (l:List y1)(p:y1→Bool):P9 gl prog 301 [.v l,.a62 prog p] [] (.v (idx l p)):=⟨fun hh=>c2N l p⟩
theorem c2O (l:List y1)(p:y1→Bool):C4 gl prog 298 [.v l,.a62 prog p] (fun r=>r = .v (l.any p)):=by
 refine .go func298 j0 9 [.tmp 4] j0 (by kernel_rfl) fun C hG=>(.z hG j0 ?_)
 rw [b8M]
theorem a2X {α:Type}[Inhabited α]{a b:List α}{k:Nat}(h1:k < a.length)(h2:k < b.length)(h:a.take k=b.take k)(e:a.getD k default=b.getD k default):a.take (k+1)=b.take (k+1):=by
 rw [List.take_add_one,List.take_add_one,h,List.getElem?_eq_getElem h1,List.getElem?_eq_getElem h2]
 rw [List.getD_eq_getElem?_getD,List.getD_eq_getElem?_getD,List.getElem?_eq_getElem h1,List.getElem?_eq_getElem h2] at e
 have e:a[k]=b[k]:=e
 rw [e]
theorem b8N {α:Type}{a b:List α}{k:Nat}(hl:a.length=b.length)(h1:¬k < a.length)(h:a.take k=b.take k):a=b:=by
 rwa [List.take_of_length_le (by omega),List.take_of_length_le (by omega)] at h
theorem c5A (a b:List y1)(p:y1→y1→Bool)(hp:∀ x y,p x y=decide (x=y)):C4 gl prog 263 [.v a,.v b,.c2d prog p] (fun r=>r = .v (decide (a=b))):=by
 refine .go func263 j0 32 [.tmp 6] j0 (by kernel_rfl) fun C hG=>(.z hG j0 ⟨fun h1 => ?_,fun h1 => ?_⟩)
 ·rw [decide_eq_false fun e=>h1 (by rw [e])]
 have hl:a.length=b.length:=by omega
 refine .a4I 0 rfl fun hl0=>(.lp hG (fun k:Nat => [(17,.v (k:Int))]) (fun k => []) (fun k=>k≤a.length∧a.take k=b.take k) (fun k=>a.length - k) 0 rfl ⟨rfl,by simp,fun k ⟨h2,h3⟩=>⟨fun h4=>⟨by omega,h4,fun _=>⟨by omega,by omega,fun _=>⟨fun h5 => ?_,fun h5=>⟨by omega,by omega,k+1,rfl,⟨by omega,?_⟩,by omega⟩⟩⟩⟩,fun h4 => ?_⟩⟩)
 ·rw [hp] at h5
  rw [decide_eq_false fun e=>h5 (by rw [e];simp)]
 ·rw [hp] at h5
  exact a2X (by omega) (by omega) h3 (by simpa using h5)
 ·rw [decide_eq_true (b8N hl (by omega) h3)]
theorem c5B (a b:List (M4 32 UInt8)):C4 gl prog 256 [.v a,.v b] (fun r=>r = .v (decide (a=b))):=by
 refine .go func256 j0 26 [.tmp 4] j0 (by kernel_rfl) fun C hG=>(.z hG j0 ⟨fun h1 => ?_,fun h1 => ?_⟩)
 ·rw [decide_eq_false fun e=>h1 (by rw [e])]
 have hl:a.length=b.length:=by omega
 refine .a4I 0 rfl fun hl0=>(.lp hG (fun k:Nat => [(13,.v (k:Int))]) (fun k => []) (fun k=>k≤a.length∧a.take k=b.take k) (fun k=>a.length - k) 0 (by kernel_rfl) ⟨rfl,by simp,fun k ⟨h2,h3⟩=>⟨fun h4=>⟨by omega,h4,by omega,by omega,fun h5 => ?_,fun h5=>⟨by omega,by omega,k+1,rfl,⟨by omega,?_⟩,by omega⟩⟩,fun h4 => ?_⟩⟩)
 ·rw [decide_eq_false fun e=>h5 (by rw [e])]
 ·exact a2X (by omega) (by omega) h3 (by simpa using h5)
 ·rw [decide_eq_true (b8N hl (by omega) h3)]
theorem c2P (l:List y1):C4 gl prog 228 [.v l] (fun r=>r = .vc l):=by
 refine .go func228 j0 9 [.tmp 2] j0 (by kernel_rfl) fun C hG => ?_
 exact .z hG j0 ⟨j0,j0,j0⟩
def a7i (last:Int):List y3→Int→Bool
 | [],_=>true
 | e::l,b=>decide (b < e.Number)&&decide (e.Number≤last)&&a7i last l e.Number
def a16 (r:D6):Bool:=a7i r.H7 r.Live 0&&decide (0≤r.H7)&&decide (r.H7≤1000)
theorem a17 {α:Type}[Inhabited α]{l:List α}{k:Nat}(h:k < l.length):l.drop k=l.getD k default::l.drop (k+1):=by
 rw [List.getD_eq_getElem?_getD,List.getElem?_eq_getElem h];exact List.drop_eq_getElem_cons h
theorem b4N (r:D6):C4 gl prog 157 [.v r] (fun x=>x = .v (a16 r)):=by
 refine .go func157 j0 35 [.tmp 2] j0 (by kernel_rfl) fun C hG=>(.z hG j0 fun b=>(.a4I 7 j0 fun hl0 => ?_))
 refine .lp hG (fun k:Nat×Int => [(9,.v (k.1:Int)),(3,.v k.2)]) (fun k => []) (fun k=>k.1≤r.Live.length∧a7i r.H7 (r.Live.drop k.1) k.2=a7i r.H7 r.Live 0) (fun k=>r.Live.length - k.1) (0,0) j0
  ⟨rfl,rfl,⟨Nat.zero_le _,rfl⟩,fun ⟨k,c⟩ ⟨h1,h2⟩=>⟨fun h3=>⟨by omega,h3,fun b2 => ?_⟩,fun h3 => ?_⟩⟩
 ·dsimp only at *
  rw [a17 (by omega),a7i] at h2
  refine⟨fun h4 => ?_,fun h4=>⟨by omega,by omega,(k+1,(r.Live.getD k default).Number),rfl,rfl,⟨by omega,?_⟩,by omega⟩⟩
  ·unfold a16
   rw [←h2,Int.toNat_natCast] at *
   rcases h4 with h|h
   ·rw [decide_eq_false (by omega)];rfl
   ·rw [decide_eq_false (p:=_≤r.H7) (by omega)];simp
  ·rw [Int.toNat_natCast] at h4
   rw [←h2,decide_eq_true (by omega),decide_eq_true (by omega)];rfl
 ·dsimp only at *
  rw [List.drop_of_length_le (by omega)] at h2
  unfold a16;rw [←h2];rfl
instance:FdS prog 235 0 y3.l0 (fun x=>x.Number):=⟨.ok c4F rfl fun _=>rfl⟩
theorem c2Q (e:y3)(n:Int):C4 gl prog 178 [.v e,.v n] (fun x=>x = .v (decide (e.Number=n))):=by
 refine .go func178 j0 9 [.tmp 4] j0 (by kernel_rfl) fun C hG => ?_
 exact .z hG j0 fun b=>j0
instance (e:y3)(n:Int):P9 gl prog 178 [.v e,.v n] [] (.v (decide (e.Number=n))):=⟨fun hh=>c2Q e n⟩
theorem b6O (e:y3)(n:Int):C4 gl prog 180 [.v e,.p (FnV.mk (some 178)),.p n] (fun x=>x = .v (decide (e.Number=n))):=by
 refine .go func180 j0 9 [.tmp 4] j0 (by kernel_rfl) fun C hG => ?_
 exact .z hG j0 fun b=>j0
instance (n:Int):Cl1 gl prog 180 [.p (FnV.mk (some 178)),.p n] _ inferInstance _ inferInstance (fun e:y3=>decide (e.Number=n)):=⟨fun e=>b6O e n⟩
instance (l:List y3)(p:y3→Bool):P9 gl prog 179 [.v l,.a62 prog p] [] (.v (idx l p)):=⟨fun hh=>c2M l p⟩
theorem b4O (r:D6)(n:Int):C4 gl prog 128 [.v r,.v n] (fun x=>x = .v (idx r.Live fun e=>decide (e.Number=n))):=by
 refine .go func128 j0 10 [.tmp 4] j0 (by kernel_rfl) fun C hG=>(.f hG j0 fun b2 b3=>(.f hG j0 fun b5 => .fz hG [5,3] ?_))
 exact .z hG j0 j0
instance (r:D6):P9 gl prog 157 [.v r] [] (.v (a16 r)):=⟨fun hh=>b4N r⟩
instance (r:D6)(n:Int):P9 gl prog 128 [.v r,.v n] [] (.v (idx r.Live fun e=>decide (e.Number=n))):=⟨fun hh=>b4O r n⟩
def I4 (r:D6)(n:Int):y3×Bool:=match r.Live.find? fun e=>decide (e.Number=n) with|some e=>(e,true)|none=>(default,false)
theorem b6P (r:D6)(n:Int):C4 gl prog 68 [.v r,.v n] (fun x=>x = .t2 (.v (I4 r n).1) (.v (I4 r n).2)):=by
 refine .go func68 j0 18 [.cell 4 81,.tmp 5] j0 (by kernel_rfl) fun C hG=>(.z hG j0 fun b2 b4=>⟨fun h => ?_,fun h => ?_⟩)
 ·unfold I4;rw [a3s (by omega)]
 ·have hi:0≤idx r.Live (fun e=>decide (e.Number=n)):=by omega
  have hl:=a8h hi
  refine⟨hi,hl,?_⟩
  unfold I4;rw [a9x hi (by omega),List.getD_eq_getElem?_getD,List.getElem?_eq_getElem (by omega)];rfl
def X4 (r:D6)(e:y3):D6×Int :=
 if a16 r=false then (default,5) else if e.Number < 1∨1000 < e.Number then (default,1) else if e.Number≠r.H7+1 then (default,11) else ({ Live:=r.Live ++ [e],H7:=e.Number },0)
theorem b9U (r:D6)(e:y3)(h:r.Live.length≤1000000):C4 gl prog 100 [.v r,.v e] (fun x=>x = .t2 (.v (X4 r e).1) (.v (X4 r e).2)):=by
 have i_cloneEp_own:∀ (l:List y3),CaN gl prog 80 [.v l] [l.length≤1000000] (fun u => .raw u) 81 _ _ (l):=fun l=>⟨fun hh=>a8L l hh.1⟩
 refine .go func100 j0 38 [.cell 4 31,.tmp 5] j0 (by kernel_rfl) fun C hG=>(.z hG (by kernel_rfl) fun b2 b3 b4=>⟨fun h1 => ?_,fun h1=>⟨fun h2 => ?_,fun h2 => ?_⟩⟩)
 ·unfold X4;rw [if_pos (by simpa using h1)]
 all_goals have h1:a16 r=true:=by simpa using h1
 ·unfold X4;rw [if_neg (by simp [h1]),if_pos h2]
 ·have h9:0≤r.H7∧r.H7≤1000:=by unfold a16 at h1;simp at h1;omega
  have hr:¬e.Number≠r.H7+1→X4 r e=({ Live:=r.Live ++ [e],H7:=e.Number },0):=fun h3=>by unfold X4;rw [if_neg (by simp [h1]),if_neg h2,if_neg h3]
  refine⟨by omega,by omega,fun h3 => ?_,fun h3=>⟨h,by simp;omega,by simp;omega,⟨fun _ _=>by kernel_rfl,trivial⟩,fun nm => ?_⟩⟩
  ·unfold X4;rw [if_neg (by simp [h1]),if_neg h2,if_pos h3]
  ·rw [hr h3]
theorem a33 {α:Type}[Inhabited α](l:List α)(k:Nat)(x:α)(h:x=l.getD k default):l.set k x=l:=List.ext_getElem? fun j=>by
 rw [List.getElem?_set]
 by_cases e:k=j
 ·subst e
  by_cases hk:k < l.length
  ·rw [if_pos rfl,if_pos hk,h,List.getD_eq_getElem?_getD,List.getElem?_eq_getElem hk];rfl
  ·rw [if_pos rfl,if_neg hk,List.getElem?_eq_none (by omega)]
 ·rw [if_neg e]
theorem T7 {α:Type}[Inhabited α]{l:List α}{k:Nat}(h:k < l.length):l.getD k default∈l:=by
 rw [List.getD_eq_getElem?_getD,List.getElem?_eq_getElem h];exact List.getElem_mem h
theorem a7j (l:List o7)(h:l.length≤1000000)(hB:∀ x∈l,x.O8.length≤1000000):C6 gl prog 65 [.v l] [] (fun r Hs=>∃ u,r = .raw u∧Hs = [.own 101 u l]):=by
 have i_cloneIt_own:∀ (l:List o7),CaN gl prog 119 [.v l] [l.length≤1000000] (fun u => .raw u) 101 _ _ (l):=fun l=>⟨fun hh=>b4K l hh.1⟩
 have i_bytesClone_c:∀ (b:List UInt8),P9 gl prog 120 [.v b] [b.length≤1000000] (.v b):=fun b=>⟨fun hh=>Q1 b hh.1⟩
 refine .go func65 j0 24 [.tmp 2] j0 (by kernel_rfl) fun C hG=>(.z hG (by kernel_rfl) ⟨h,fun u _ => ?_⟩)
 refine .lp hG (fun k:Nat => [(9,.v (k:Int))]) (fun k => []) (fun k=>k≤l.length) (fun k=>l.length - k) 0 (by kernel_rfl) ⟨rfl,by omega,fun k hk=>⟨fun h1=>⟨by omega,by omega,by omega,?_,by omega,by omega,by omega,by omega,by omega,k+1,rfl,by rw [a33 _ _ _ rfl],by omega,by omega⟩,fun h1=>P6.of [u] ⟨_,rfl,rfl⟩⟩⟩
 exact hB _ (T7 (by omega))
theorem a6w (l:List o7)(h:l.length≤1000000)(hB:∀ x∈l,x.O8.length≤1000000):C4 gl prog 65 [.v l] (fun r=>r = .v l):=(a7j l h hB).b2O
def V0 (l:List y1):Prop:=l.length≤1000000∧∀ c∈l,c.L7.length≤1000000∧c.O8.length≤1000000
theorem b3b (l:List y1)(h:V0 l):C6 gl prog 122 [.v l] [] (fun r Hs=>∃ u,r = .raw u∧Hs = [.own 147 u l]):=by
 have i_cloneCa_own:∀ (l:List y1),CaN gl prog 177 [.v l] [l.length≤1000000] (fun u => .raw u) 147 _ _ (l):=fun l=>⟨fun hh=>b4M l hh.1⟩
 have i_bytesClone_c:∀ (b:List UInt8),P9 gl prog 120 [.v b] [b.length≤1000000] (.v b):=fun b=>⟨fun hh=>Q1 b hh.1⟩
 refine .go func122 j0 34 [.tmp 2] j0 (by kernel_rfl) fun C hG=>(.z hG (by kernel_rfl) ⟨h.1,fun u _ => ?_⟩)
 refine .lp hG (fun k:Nat => [(9,.v (k:Int))]) (fun k => []) (fun k=>k≤l.length) (fun k=>l.length - k) 0 (by kernel_rfl) ⟨rfl,by omega,fun k hk=>⟨fun h1 => ?_,fun h1=>P6.of [u] ⟨_,rfl,rfl⟩⟩⟩
 have h0:=h.1
 have hm:=h.2 _ (T7 (l:=l) (k:=k) (by omega))
 rw [a33 l _ _ rfl,a33 l _ _ rfl]
 exact⟨by omega,by omega,by omega,hm.1,by omega,by omega,by omega,hm.2,by omega,by omega,by omega,by omega,by omega,by omega,by omega,by omega,k+1,rfl,rfl,by omega,by omega⟩
theorem a6x (l:List y1)(h:V0 l):C4 gl prog 122 [.v l] (fun r=>r = .v l):=(b3b l h).b2O
theorem a7k (l:List u9)(h:l.length≤1000000)(hB:∀ m∈l,V0 m.y5):C6 gl prog 66 [.v l] [] (fun r Hs=>∃ u,r = .raw u∧Hs = [.own 114 u l]):=by
 have i_cloneMi_own:∀ (l:List u9),CaN gl prog 121 [.v l] [l.length≤1000000] (fun u => .raw u) 114 _ _ (l):=fun l=>⟨fun hh=>b4L l hh.1⟩
 have i_caCopied_c:∀ (l:List y1),P9 gl prog 122 [.v l] [V0 l] (.v l):=fun l=>⟨fun hh=>a6x l hh.1⟩
 refine .go func66 j0 24 [.tmp 2] j0 (by kernel_rfl) fun C hG=>(.z hG (by kernel_rfl) ⟨h,fun u _ => ?_⟩)
 refine .lp hG (fun k:Nat => [(9,.v (k:Int))]) (fun k => []) (fun k=>k≤l.length) (fun k=>l.length - k) 0 (by kernel_rfl) ⟨rfl,by omega,fun k hk=>⟨fun h1=>⟨by omega,by omega,by omega,?_,by omega,by omega,by omega,by omega,by omega,k+1,rfl,by rw [a33 _ _ _ rfl],by omega,by omega⟩,fun h1=>P6.of [u] ⟨_,rfl,rfl⟩⟩⟩
 exact hB _ (T7 (by omega))
theorem b0v (l:List u9)(h:l.length≤1000000)(hB:∀ m∈l,V0 m.y5):C4 gl prog 66 [.v l] (fun r=>r = .v l):=(a7k l h hB).b2O
theorem a8N {n:Nat}{α:Type}[Inhabited α](a:M4 n α)(k:Nat):Q8 a k (a.l.getD k default)=a:=by
 cases a with
 | mk l h=>unfold Q8;simp only [a33 l k _ rfl]
def V5 (d:l9):Prop:=∀ a∈d.F3.l,a.length≤100000000
theorem V5.at {d:l9}(h:V5 d)(k:Nat):(d.F3.l.getD k default).length≤100000000:=by
 by_cases hk:k < d.F3.l.length
 ·exact h _ (T7 hk)
 ·rw [List.getD_eq_getElem?_getD,List.getElem?_eq_none (by omega)];exact Nat.zero_le _
theorem a4u (d:l9)(h:V5 d):C4 gl prog 81 [.v d] (fun r=>r = .v d):=by
 have i_cloneBy_c:∀ (l:List UInt8),P9 gl prog 120 [.v l] [l.length≤100000000] (.v l):=fun l=>⟨fun hh=>a5P l hh.1⟩
 refine .go func81 j0 17 [.cell 2 37] j0 (by kernel_rfl) fun C hG=>(.z hG j0 fun b1 b2 => ?_)
 refine .lp hG (fun k:Nat => [(4,.v (k:Int))]) (fun k => []) (fun k=>k≤2) (fun k=>2 - k) 0 rfl ⟨rfl,by omega,fun k hk=>⟨fun h1=>⟨by omega,by omega,h.at _,by omega,by omega,by omega,by omega,k+1,rfl,by rw [a8N],by omega,by omega⟩,fun _=>rfl⟩⟩
theorem a8O (d:l9)(h:V5 d):C4 gl prog 103 [.v d] (fun r=>r = .v d):=by
 have i_cloneBy_c:∀ (l:List UInt8),P9 gl prog 120 [.v l] [l.length≤100000000] (.v l):=fun l=>⟨fun hh=>a5P l hh.1⟩
 refine .go func103 j0 17 [.cell 2 37] j0 (by kernel_rfl) fun C hG=>(.z hG j0 fun b1 b2 => ?_)
 refine .lp hG (fun k:Nat => [(4,.v (k:Int))]) (fun k => []) (fun k=>k≤2) (fun k=>2 - k) 0 rfl ⟨rfl,by omega,fun k hk=>⟨fun h1=>⟨by omega,by omega,h.at _,by omega,by omega,by omega,by omega,k+1,rfl,by rw [a8N],by omega,by omega⟩,fun _=>rfl⟩⟩
theorem c2R (d:l9)(h:V5 d)(h0:0≤d.B3)(h1:d.B3 < 2):C4 gl prog 97 [.v d] (fun r=>r = .v (d.F3.l.getD d.B3.toNat default)):=by
 have i_cloneBy_c:∀ (l:List UInt8),P9 gl prog 120 [.v l] [l.length≤100000000] (.v l):=fun l=>⟨fun hh=>a5P l hh.1⟩
 refine .go func97 j0 9 [.tmp 2] j0 (by kernel_rfl) fun C hG => ?_
 exact .z hG rfl fun b1=>⟨h0,by omega,h.at _,rfl⟩
def a2t (n:Int):l9×Int:=if n < 0∨1048576 < n then (default,1) else ({ (default:l9) with G8:=n },0)
theorem c5C (n:Int):C4 gl prog 40 [.v n] (fun r=>r = .t2 (.v (a2t n).1) (.v (a2t n).2)):=by
 refine .go func40 j0 13 [.cell 2 37,.tmp 3] j0 (by kernel_rfl) fun C hG=>(.z hG (by kernel_rfl) fun b2=>⟨fun h => ?_,fun h => ?_⟩)
 ·unfold a2t;rw [if_pos h]
 ·unfold a2t;rw [if_neg h]
instance (d:l9):P9 gl prog 81 [.v d] [V5 d] (.v d):=⟨fun hh=>a4u d hh.1⟩
theorem b4P (d:l9)(h:V5 d):C4 gl prog 95 [.v d] (fun r=>r = .v { d with Off:=false,a0O:=0,a3g:=0 }):=by
 refine .go func95 j0 9 [.cell 2 37] j0 (by kernel_rfl) fun C hG => ?_
 exact .z hG j0 fun b1 b2=>⟨h,j0⟩
structure DvR where
 a0:O5
 a1:O5
 B3:Int
 G8:Int
 C7:Int
 a0O:Int
 a3g:Int
 Off:Bool
def DvR.f (x:DvR):M4 2 O5×Int×Int×Int×Int×Int×Bool×Unit:=(⟨[x.a0,x.a1],rfl⟩,x.B3,x.G8,x.C7,x.a0O,x.a3g,x.Off,())
instance:Inhabited DvR:=⟨⟨default,default,default,default,default,default,default,default⟩⟩
instance:u3 DvR:=u3.via DvR.f
instance:K4 DvR:=K4.via DvR.f rfl
def DvR.l0:j9 DvR (M4 2 O5):=j9.via DvR.f j9.fst (fun x=>⟨[x.a0,x.a1],rfl⟩) (fun y x => { x with a0:=y.l.getD 0 default,a1:=y.l.getD 1 default }) (fun _=>rfl) (fun y x=>by
 obtain⟨l,h⟩:=y
 match l,h with
 | [a,b],_=>rfl)
def DvR.l1:j9 DvR Int:=j9.via DvR.f (j9.snd.comp j9.fst) (fun x=>x.B3) (fun y x => { x with B3:=y }) (fun _=>rfl) (fun _ _=>rfl)
def DvR.l2:j9 DvR Int:=j9.via DvR.f (j9.snd.comp (j9.snd.comp j9.fst)) (fun x=>x.G8) (fun y x => { x with G8:=y }) (fun _=>rfl) (fun _ _=>rfl)
def DvR.l3:j9 DvR Int:=j9.via DvR.f (j9.snd.comp (j9.snd.comp (j9.snd.comp j9.fst))) (fun x=>x.C7) (fun y x => { x with C7:=y }) (fun _=>rfl) (fun _ _=>rfl)
def DvR.l4:j9 DvR Int:=j9.via DvR.f (j9.snd.comp (j9.snd.comp (j9.snd.comp (j9.snd.comp j9.fst)))) (fun x=>x.a0O) (fun y x => { x with a0O:=y }) (fun _=>rfl) (fun _ _=>rfl)
def DvR.l5:j9 DvR Int:=j9.via DvR.f (j9.snd.comp (j9.snd.comp (j9.snd.comp (j9.snd.comp (j9.snd.comp j9.fst))))) (fun x=>x.a3g) (fun y x => { x with a3g:=y }) (fun _=>rfl) (fun _ _=>rfl)
def DvR.l6:j9 DvR Bool:=j9.via DvR.f (j9.snd.comp (j9.snd.comp (j9.snd.comp (j9.snd.comp (j9.snd.comp (j9.snd.comp j9.fst)))))) (fun x=>x.Off) (fun y x => { x with Off:=y }) (fun _=>rfl) (fun _ _=>rfl)
instance:Q2 (DvR.l0.comp (j9.idx (Int.toNat 0) (by decide))) (fun x=>x.a0) (fun y x => { x with a0:=y }):=⟨fun _=>rfl,fun _ _=>rfl⟩
instance:Q2 (DvR.l0.comp (j9.idx (Int.toNat 1) (by decide))) (fun x=>x.a1) (fun y x => { x with a1:=y }):=⟨fun _=>rfl,fun _ _=>rfl⟩
instance:Q2 DvR.l1 (fun x=>x.B3) (fun y x => { x with B3:=y }):=⟨fun _=>rfl,fun _ _=>rfl⟩
instance:Q2 DvR.l2 (fun x=>x.G8) (fun y x => { x with G8:=y }):=⟨fun _=>rfl,fun _ _=>rfl⟩
instance:Q2 DvR.l3 (fun x=>x.C7) (fun y x => { x with C7:=y }):=⟨fun _=>rfl,fun _ _=>rfl⟩
instance:Q2 DvR.l4 (fun x=>x.a0O) (fun y x => { x with a0O:=y }):=⟨fun _=>rfl,fun _ _=>rfl⟩
instance:Q2 DvR.l5 (fun x=>x.a3g) (fun y x => { x with a3g:=y }):=⟨fun _=>rfl,fun _ _=>rfl⟩
instance:Q2 DvR.l6 (fun x=>x.Off) (fun y x => { x with Off:=y }):=⟨fun _=>rfl,fun _ _=>rfl⟩
instance:TyK prog 37 DvR:=⟨.of (by kernel_rfl) (by kernel_rfl) (by kernel_rfl) (by decide)⟩
instance:TyR prog 34:=⟨.of (by kernel_rfl) (by kernel_rfl) (by kernel_rfl) (by decide)⟩
instance:FdS prog 37 0 DvR.l0 (fun x=>⟨[x.a0,x.a1],rfl⟩):=⟨.ok c1D rfl fun _=>rfl⟩
instance:FdS prog 37 1 DvR.l1 (fun x=>x.B3):=⟨.ok c1E rfl fun _=>rfl⟩
instance:FdS prog 37 2 DvR.l2 (fun x=>x.G8):=⟨.ok c1F rfl fun _=>rfl⟩
instance:FdS prog 37 3 DvR.l3 (fun x=>x.C7):=⟨.ok c1G rfl fun _=>rfl⟩
instance:FdS prog 37 4 DvR.l4 (fun x=>x.a0O):=⟨.ok c1H rfl fun _=>rfl⟩
instance:FdS prog 37 5 DvR.l5 (fun x=>x.a3g):=⟨.ok c1I rfl fun _=>rfl⟩
instance:FdS prog 37 6 DvR.l6 (fun x=>x.Off):=⟨.ok c1J rfl fun _=>rfl⟩
@[reducible] def a3d (d:l9)(u v:Value):DvR:=⟨⟨u⟩,⟨v⟩,d.B3,d.G8,d.C7,d.a0O,d.a3g,d.Off⟩
theorem a7l (d:l9)(I:Fl.Im)(cs:List Value)(h:u3.rep I d cs):∃ u v,u3.rep I (a3d d u v) cs∧F9 I (.v (d.F3.l.getD 0 default)) u∧F9 I (.v (d.F3.l.getD 1 default)) v:=by
 obtain⟨⟨l,hl⟩,_⟩:=d
 match l,hl with
 | [a,b],_ =>
  obtain⟨c1,r1,rfl,⟨ca,ra,rfl,⟨u,rfl,hu⟩,⟨cb,rb,rfl,⟨v,rfl,hv⟩,hn⟩⟩,hr⟩:=h
  have hn:rb = []:=hn
  subst hn
  have ou:u.oneCell'=true:=by obtain⟨xs,⟨a,c,rfl,_⟩,_⟩:=hu;rfl
  have ov:v.oneCell'=true:=by obtain⟨xs,⟨a,c,rfl,_⟩,_⟩:=hv;rfl
  exact⟨u,v,⟨[u,v],r1,j0,⟨[u],[v],j0,⟨j0,ou⟩,[v],[],j0,⟨j0,ov⟩,j0⟩,hr⟩,⟨[u],⟨u,j0,hu⟩,j0⟩,⟨[v],⟨v,j0,hv⟩,j0⟩⟩
theorem b3c (d:l9)(h:V5 d):C6 gl prog 81 [.v d] [] (fun r Hs=>∃ u v,r = .v (a3d d u v)∧Hs = [.own 5 u (d.F3.l.getD 0 default),.own 5 v (d.F3.l.getD 1 default)]):=by
 have i_cloneBy_own:∀ (l:List UInt8),CaN gl prog 120 [.v l] [l.length≤100000000] (fun u => .raw u) 5 _ _ (l):=fun l=>⟨fun hh=>a8M l hh.1⟩
 refine .go func81 j0 17 [.cell 2 37] j0 (by kernel_rfl) fun C hG=>(.z hG j0 fun b1 b2=>(.d0j 2 (a3d default) _ _ (a7l default) fun u' v'=>(.d0j 1 (a3d d) _ _ (a7l d) fun u v => ?_)))
 refine .lpU (fun x:List Value=>match x with | [] => [(4,.v (0:Int))] | [_] => [(4,.v (1:Int))]|_ => [(4,.v (2:Int))])
  (fun x=>match x with | []=>_ | [p]=>(true,.own 5 p (d.F3.l.getD 0 default))::(true,.fz u (.v (d.F3.l.getD 0 default)))::(true,.fz v (.v (d.F3.l.getD 1 default)))::(true,.fz u' (.v ((default:l9).F3.l.getD 0 default)))::(true,.fz v' (.v ((default:l9).F3.l.getD 1 default)))::(true,.ob (ptr b2 0) (a3d default u' v'))::(true,.ob (ptr b1 0) (a3d d p v)) :: []|p::q::_=>(true,.own 5 q (d.F3.l.getD 1 default))::(true,.own 5 p (d.F3.l.getD 0 default))::(true,.fz u (.v (d.F3.l.getD 0 default)))::(true,.fz v (.v (d.F3.l.getD 1 default)))::(true,.fz u' (.v ((default:l9).F3.l.getD 0 default)))::(true,.fz v' (.v ((default:l9).F3.l.getD 1 default)))::(true,.ob (ptr b2 0) (a3d default u' v'))::(true,.ob (ptr b1 0) (a3d d p q)) :: [])
  (fun x=>x.length≤2) (fun x=>2 - x.length) [] (by exact⟨rfl,trivial⟩) rfl (by decide) fun x hx => ?_
 match x,hx with
 | [],_ =>
  simp only [List.cons_append,List.nil_append]
  exact .z hG rfl ⟨fun _=>⟨by decide,by decide,h.at 0,fun p _=>⟨by decide,by decide,by decide,by decide,a69.of 0 [p] (by exact⟨rfl,trivial⟩) rfl (by simp) (by simp)⟩⟩,fun h=>absurd (by decide) h⟩
 | [p],_ =>
  simp only [List.cons_append,List.nil_append]
  exact .z hG rfl ⟨fun _=>⟨by decide,by decide,h.at 1,fun q _=>⟨by decide,by decide,by decide,by decide,a69.of 0 [p,q] (by exact⟨rfl,trivial⟩) rfl (by simp) (by simp)⟩⟩,fun h=>absurd (by decide) h⟩
 | [p,q],_ =>
  simp only [List.cons_append,List.nil_append]
  exact .z hG j0 ⟨fun h=>absurd h (by decide),fun _=>P6.of [p,q] ⟨p,q,j0,j0⟩⟩
def L9 (d:l9)(U1 kept:Int)(b:List UInt8):l9×Int :=
 if d.Off then (d,27) else if d.G8 < kept+b.length then (d,26) else
 if d.C7+1=d.a0O then ({ d with C7:=d.C7+1,F3:=Q8 d.F3 U1.toNat ((d.F3.l.getD U1.toNat default).take kept.toNat++b.take (min (max d.a3g 0) b.length).toNat),Off:=true },27)
 else ({ d with C7:=d.C7+1,F3:=Q8 d.F3 U1.toNat ((d.F3.l.getD U1.toNat default).take kept.toNat++b),B3:=U1 },0)
theorem c2S {d:l9}{u v:Value}{I:Fl.Im}{cs:List Value}(h:u3.rep I (a3d d u v) cs)(h1:F9 I (.v (d.F3.l.getD 0 default)) u)(h2:F9 I (.v (d.F3.l.getD 1 default)) v):u3.rep I d cs:=by
 obtain⟨⟨l,hl⟩,_⟩:=d
 match l,hl with
 | [a,b],_ =>
  obtain⟨c1,r1,rfl,⟨ca,ra,rfl,⟨rfl,_⟩,⟨cb,rb,rfl,⟨rfl,_⟩,hn⟩⟩,hr⟩:=h
  obtain⟨_,⟨u,rfl,hu⟩,rfl⟩:=h1
  obtain⟨_,⟨v,rfl,hv⟩,rfl⟩:=h2
  have hn:rb = []:=hn
  subst hn
  exact⟨_,r1,j0,⟨_,_,j0,⟨_,j0,hu⟩,_,_,j0,⟨_,j0,hv⟩,j0⟩,hr⟩
theorem a5s {d:l9}{U1 kept:Int}{b:List UInt8}(h1:¬d.Off=true)(h2:¬d.G8 < kept+b.length)(h3:d.C7+1=d.a0O):L9 d U1 kept b=({ d with C7:=d.C7+1,F3:=Q8 d.F3 U1.toNat ((d.F3.l.getD U1.toNat default).take kept.toNat++b.take (min (max d.a3g 0) b.length).toNat),Off:=true },27):=by
 unfold L9;rw [if_neg h1,if_neg h2,if_pos h3]
theorem a4v {d:l9}{U1 kept:Int}{b:List UInt8}(h1:¬d.Off=true)(h2:¬d.G8 < kept+b.length)(h3:¬d.C7+1=d.a0O):L9 d U1 kept b=({ d with C7:=d.C7+1,F3:=Q8 d.F3 U1.toNat ((d.F3.l.getD U1.toNat default).take kept.toNat++b),B3:=U1 },0):=by
 unfold L9;rw [if_neg h1,if_neg h2,if_neg h3]
theorem b9V {α:Type}[Inhabited α](A:M4 2 α)(x:α):(Q8 A (Int.toNat 0) x).l.getD 0 default=x∧(Q8 A (Int.toNat 0) x).l.getD 1 default=A.l.getD 1 default∧(Q8 A (Int.toNat 1) x).l.getD 0 default=A.l.getD 0 default∧(Q8 A (Int.toNat 1) x).l.getD 1 default=x:=by
 obtain⟨l,h⟩:=A
 match l,h with
 | [a,b],_=>exact⟨rfl,rfl,rfl,rfl⟩
theorem b4Q (d:l9)(U1 kept:Int)(b:List UInt8)(h:V5 d)(ha:U1=0∨U1=1)(hk:0≤kept∧kept≤(d.F3.l.getD U1.toNat default).length)(hb:b.length≤100000000)(hw : -1000000000≤d.C7∧d.C7≤1000000000):C6 gl prog 211 [.v d,.v U1,.v kept,.v b] [] (fun r Hs=>∃ u v,r = .t2 (.v (a3d (L9 d U1 kept b).1 u v)) (.v (L9 d U1 kept b).2)∧Hs = [.own 5 u ((L9 d U1 kept b).1.F3.l.getD 0 default),.own 5 v ((L9 d U1 kept b).1.F3.l.getD 1 default)]):=by
 have iC:∀ d,CaX gl prog 81 [.v d] (Value×Value) [V5 d] (fun _=>True) (fun p => .v (a3d d p.1 p.2)) (fun p => [.own 5 p.1 (d.F3.l.getD 0 default),.own 5 p.2 (d.F3.l.getD 1 default)]):=fun d=>⟨fun hh=>(b3c d hh.1).mono fun r Hs ⟨u,v,h1,h2⟩=>⟨(u,v),trivial,h1,h2⟩⟩
 have r0:=fun I cs h=>(a7l (default:l9) I cs h).imp fun u h=>h.imp fun v h=>h.1
 have r1:=fun I cs h=>(a7l d I cs h).imp fun u h=>h.imp fun v h=>h.1
 refine .go func211 j0 59 [.cell 8 37,.tmp 9] j0 (by kernel_rfl) fun C hG => ?_
 have hk2:=h.at U1.toNat
 rcases ha with rfl|rfl
 ·refine .f hG rfl fun b4 b8=>(.rob (ι:=Value×Value) 8 (fun i=>a3d default i.1 i.2) (fun I cs h=>by obtain⟨u,v,h⟩:=r0 I cs h;exact⟨(u,v),h⟩) fun j=>(.w 4 hG rfl ⟨h,fun p _ => ?_⟩))
  refine .rob (ι:=Value×Value) 4 (fun i=>a3d d i.1 i.2) (fun I cs h=>by obtain⟨u,v,h⟩:=r1 I cs h;exact⟨(u,v),h⟩) fun i=>(.z hG (by kernel_rfl) ⟨fun h1 => ?_,fun h1=>⟨by omega,by omega,fun h2 => ?_,fun h2=>⟨by show _≤d.C7+1;omega,by show d.C7+1≤_;omega,fun h3 => ?_,fun h3 => ?_⟩⟩⟩)
  ·have e:L9 d 0 kept b=(d,27):=by unfold L9;rw [if_pos h1]
   rw [e];exact P6.of [p.1,p.2] ⟨p.1,p.2,rfl,rfl⟩
  ·have e:L9 d 0 kept b=(d,26):=by unfold L9;rw [if_neg h1,if_pos h2]
   rw [e];exact P6.of [p.1,p.2] ⟨p.1,p.2,rfl,rfl⟩
  ·refine .z hG (by kernel_rfl) ?_
   dsimp only at h3 ⊢
   refine⟨by omega,by omega,by omega,by omega,by decide,hk.1,hk.2,fun w1=>⟨by have:=List.length_take_le kept.toNat (d.F3.l.getD 0 default);simp only [List.length_drop,List.length_take];omega,by simp only [List.length_drop,List.length_take];omega,fun w2=>⟨by omega,by decide,fun _ => ?_,fun h=>absurd h3 h⟩⟩⟩
   have e:=a5s (d:=d) (U1:=0) (kept:=kept) (b:=b) h1 h2 h3
   have a:=b9V d.F3 ((d.F3.l.getD 0 default).take kept.toNat++b.take (min (max d.a3g 0) b.length).toNat)
   rw [e];exact P6.of [w2,p.2] ⟨w2,p.2,rfl,by rw [show((d.F3.l.getD (Int.toNat 0) default).take kept.toNat)=((d.F3.l.getD 0 default).take kept.toNat) from rfl];dsimp only;rw [a.1,a.2.1];rfl⟩
  ·refine .z hG (by kernel_rfl) ?_
   dsimp only at h3 ⊢
   refine⟨by omega,by decide,hk.1,hk.2,fun w1=>⟨by simp only [List.length_take];omega,by simp only [List.length_take];omega,fun w2=>⟨by omega,by decide,fun h=>absurd h h3,fun _ => ?_⟩⟩⟩
   have e:=a4v (d:=d) (U1:=0) (kept:=kept) (b:=b) h1 h2 h3
   have a:=b9V d.F3 ((d.F3.l.getD 0 default).take kept.toNat++b)
   rw [e];exact P6.of [w2,p.2] ⟨w2,p.2,rfl,by rw [show((d.F3.l.getD (Int.toNat 0) default).take kept.toNat)=((d.F3.l.getD 0 default).take kept.toNat) from rfl];dsimp only;rw [a.1,a.2.1]⟩
 ·refine .f hG rfl fun b4 b8=>(.rob (ι:=Value×Value) 8 (fun i=>a3d default i.1 i.2) (fun I cs h=>by obtain⟨u,v,h⟩:=r0 I cs h;exact⟨(u,v),h⟩) fun j=>(.w 4 hG rfl ⟨h,fun p _ => ?_⟩))
  refine .rob (ι:=Value×Value) 4 (fun i=>a3d d i.1 i.2) (fun I cs h=>by obtain⟨u,v,h⟩:=r1 I cs h;exact⟨(u,v),h⟩) fun i=>(.z hG (by kernel_rfl) ⟨fun h1 => ?_,fun h1=>⟨by omega,by omega,fun h2 => ?_,fun h2=>⟨by show _≤d.C7+1;omega,by show d.C7+1≤_;omega,fun h3 => ?_,fun h3 => ?_⟩⟩⟩)
  ·have e:L9 d 1 kept b=(d,27):=by unfold L9;rw [if_pos h1]
   rw [e];exact P6.of [p.1,p.2] ⟨p.1,p.2,rfl,rfl⟩
  ·have e:L9 d 1 kept b=(d,26):=by unfold L9;rw [if_neg h1,if_pos h2]
   rw [e];exact P6.of [p.1,p.2] ⟨p.1,p.2,rfl,rfl⟩
  ·refine .z hG (by kernel_rfl) ?_
   dsimp only at h3 ⊢
   refine⟨by omega,by omega,by omega,by omega,by decide,hk.1,hk.2,fun w1=>⟨by have:=List.length_take_le kept.toNat (d.F3.l.getD 1 default);simp only [List.length_drop,List.length_take];omega,by simp only [List.length_drop,List.length_take];omega,fun w2=>⟨by omega,by decide,fun _ => ?_,fun h=>absurd h3 h⟩⟩⟩
   have e:=a5s (d:=d) (U1:=1) (kept:=kept) (b:=b) h1 h2 h3
   have a:=b9V d.F3 ((d.F3.l.getD 1 default).take kept.toNat++b.take (min (max d.a3g 0) b.length).toNat)
   rw [e];exact P6.of [p.1,w2] ⟨p.1,w2,rfl,by rw [show((d.F3.l.getD (Int.toNat 1) default).take kept.toNat)=((d.F3.l.getD 1 default).take kept.toNat) from rfl];dsimp only;rw [a.2.2.1,a.2.2.2];rfl⟩
  ·refine .z hG (by kernel_rfl) ?_
   dsimp only at h3 ⊢
   refine⟨by omega,by decide,hk.1,hk.2,fun w1=>⟨by simp only [List.length_take];omega,by simp only [List.length_take];omega,fun w2=>⟨by omega,by decide,fun h=>absurd h h3,fun _ => ?_⟩⟩⟩
   have e:=a4v (d:=d) (U1:=1) (kept:=kept) (b:=b) h1 h2 h3
   have a:=b9V d.F3 ((d.F3.l.getD 1 default).take kept.toNat++b)
   rw [e];exact P6.of [p.1,w2] ⟨p.1,w2,rfl,by rw [show((d.F3.l.getD (Int.toNat 1) default).take kept.toNat)=((d.F3.l.getD 1 default).take kept.toNat) from rfl];dsimp only;rw [a.2.2.1,a.2.2.2]⟩
theorem b9W (d:l9)(U1 kept:Int)(b:List UInt8)(h:V5 d)(ha:U1=0∨U1=1)(hk:0≤kept∧kept≤(d.F3.l.getD U1.toNat default).length)(hb:b.length≤100000000)(hw : -1000000000≤d.C7∧d.C7≤1000000000):C4 gl prog 211 [.v d,.v U1,.v kept,.v b] (fun r=>r = .t2 (.v (L9 d U1 kept b).1) (.v (L9 d U1 kept b).2)) :=
 (b4Q d U1 kept b h ha hk hb hw).c5q _ fun x Hs I L v hp hv hL J hle hj=>by
  obtain⟨u,v',rfl,rfl⟩:=hp
  obtain⟨X,R,rfl,h1,Y,R2,rfl,h2,h3⟩:=hL
  obtain⟨y,z,rfl,⟨cs,h4,rfl⟩,h5⟩:=hv
  exact⟨_,z,j0,⟨cs,c2S (u3.mono hle h4) (O9 h1 hle fun p hp=>hj p (by simp [hp])) (O9 h2 hle fun p hp=>hj p (by simp [hp])),j0⟩,h5.mono hle⟩
instance (d:l9)(U1:Int)(kept:Int)(b:List UInt8):P9 gl prog 211 [.v d,.v U1,.v kept,.v b] [V5 d,U1=0∨U1=1,0≤kept∧kept≤(d.F3.l.getD U1.toNat default).length,b.length≤100000000,-1000000000≤d.C7∧d.C7≤1000000000] (.t2 (.v (L9 d U1 kept b).1) (.v (L9 d U1 kept b).2)):=⟨fun hh=>b9W d U1 kept b hh.1 hh.2.1 hh.2.2.1 hh.2.2.2.1 hh.2.2.2.2.1⟩
theorem b6Q (d:l9)(b:List UInt8)(h:V5 d)(ha:d.B3=0∨d.B3=1)(hb:b.length≤100000000)(hw : -1000000000≤d.C7∧d.C7≤1000000000):C4 gl prog 229 [.v d,.v b] (fun r=>r = .t2 (.v (L9 d d.B3 (d.F3.l.getD d.B3.toNat default).length b).1) (.v (L9 d d.B3 (d.F3.l.getD d.B3.toNat default).length b).2)):=by
 refine .go func229 j0 19 [.cell 4 37,.tmp 5] j0 (by kernel_rfl) fun C hG=>(.z hG (by kernel_rfl) ?_)
 rw [b6E (by omega)]
 exact fun _ _=>⟨by omega,by omega,h,ha,⟨by omega,by omega⟩,hb,hw,rfl⟩
theorem b4R (d:l9)(b:List UInt8)(h:V5 d)(ha:d.B3=0∨d.B3=1)(hb:b.length≤100000000)(hw : -1000000000≤d.C7∧d.C7≤1000000000):C4 gl prog 161 [.v d,.v b] (fun r=>r = .t2 (.v (L9 d (1 - d.B3) 0 b).1) (.v (L9 d (1 - d.B3) 0 b).2)):=by
 refine .go func161 j0 14 [.cell 4 37,.tmp 5] j0 (by kernel_rfl) fun C hG => ?_
 exact .z hG (by kernel_rfl) fun b2 b4=>⟨by omega,by omega,h,by omega,⟨by omega,by omega⟩,hb,hw,rfl⟩
def Z1 (r:List UInt8):List UInt8×Int :=
 if r.length=0 then ([],3) else if 4096 < r.length then ([],2) else (([UInt8.ofNat (r.length/256),UInt8.ofNat (r.length % 256)]++(sha r).l.take 4)++r,0)
instance (b:List UInt8):P9 gl prog 151 [.v b] [b.length≤17592186044416] (.v (sha b)):=⟨fun hh=>d0J b hh.1⟩
instance (a:List UInt8)(b:List UInt8):P9 gl prog 152 [.v a,.v b] [] (.v (decide (a=b))):=⟨fun hh=>a0L a b⟩
theorem ofInt8 (n:Nat):UInt8.ofInt (n:Int)=UInt8.ofNat (n % 256):=by apply UInt8.toNat_inj.1;simp [UInt8.ofInt];omega
theorem c71 (n:Nat):UInt8.ofInt ((n:Int) >>> UInt64.toNat 8)=UInt8.ofNat (n/256):=by
 have e:((n:Int) >>> UInt64.toNat 8)=((n/256:Nat):Int):=by rw [Int.shiftRight_eq_div_pow];rfl
 rw [e];apply UInt8.toNat_inj.1;simp [UInt8.ofInt];omega
theorem c2T (r:List UInt8)(h:r.length≤100000000):C4 gl prog 160 [.v r] (fun x=>x = .t2 (.v (Z1 r).1) (.v (Z1 r).2)):=by
 have i5:FzS 5:=⟨trivial⟩
 refine .go func160 rfl 30 [.tmp 2,.tmp 3] rfl (by kernel_rfl) fun C hG=>(.z hG (by kernel_rfl) ⟨fun h1 => ?_,fun h1=>⟨fun h2 => ?_,fun h2=>⟨by omega,fun b5=>⟨by decide,fun b24=>⟨by decide,by decide,?_,?_,fun w1=>⟨?_,?_,fun w2 => ?_⟩⟩⟩⟩⟩⟩)
 ·unfold Z1;rw [if_pos (by omega)]
 ·unfold Z1;rw [if_neg (by omega),if_pos (by omega)]
 ·simp only [List.length_take];simp
 ·simp only [List.length_take];simp
 ·simp only [List.length_append,List.length_take];simp;omega
 ·simp only [List.length_append,List.length_take];simp;omega
 ·unfold Z1;rw [if_neg (by omega),if_neg (by omega),c71,ofInt8];rfl
def a2E (b:List UInt8):Nat:=(b.getD 0 0).toNat*256+(b.getD 1 0).toNat
def a2A (b:List UInt8):Option (List UInt8) :=
 if b.length < 6 then none else if a2E b=0∨4096 < a2E b∨b.length - 6 < a2E b then none else if (sha ((b.drop 6).take (a2E b))).l.take 4=(b.drop 2).take 4 then some ((b.drop 6).take (a2E b)) else none
def a7m (b:List UInt8):Int:=match a2A b with|none=>0|some r=>6+r.length
theorem d0N (x y:UInt8):((((x.toNat:Int)*2^(UInt64.toNat 8)).toNat ||| ((y.toNat:Int)).toNat:Nat):Int)=((x.toNat*256+y.toNat:Nat):Int):=by
 have e:((x.toNat:Int)*2^(UInt64.toNat 8)).toNat=x.toNat <<< 8:=by
  rw [Nat.shiftLeft_eq]
  have:((x.toNat:Int)*2^(UInt64.toNat 8))=((x.toNat*2^8:Nat):Int):=by simp
  rw [this,Int.toNat_natCast]
 rw [e,Int.toNat_natCast,Nat.shiftLeft_add_eq_or_of_lt (b:=y.toNat) (i:=8) (y.toNat_lt) x.toNat |>.symm,Nat.shiftLeft_eq]
theorem c5D (b1 b4:Nat)(data:List UInt8)(u:Int)(hu:0≤u∧u≤data.length)(hl:data.length≤100000000):C6 gl prog 150 [.raw (ptr b1 0),.raw (ptr b4 0)] [.ob (ptr b1 0) data,.ob (ptr b4 0) u] (fun x Hs=>x = .t2 (.v ((a2A (data.drop u.toNat)).getD [])) (.v (a2A (data.drop u.toNat)).isSome)∧Hs = [.ob (ptr b1 0) data,.ob (ptr b4 0) (u+a7m (data.drop u.toNat))]):=by
 have i_cloneBy_c:∀ (l:List UInt8),P9 gl prog 120 [.v l] [l.length≤100000000] (.v l):=fun l=>⟨fun hh=>a5P l hh.1⟩
 have i7:FzR 9 7:=⟨trivial⟩
 refine .go func150 j0 54 [.tmp 2,.tmp 3] j0 (by kernel_rfl) fun C hG=>(.z hG (by kernel_rfl) ?_)
 have e:(data.take ((data.length:Int)).toNat).drop u.toNat=data.drop u.toNat:=by simp
 simp only [e,d0N]
 have hbl:(data.drop u.toNat).length=data.length - u.toNat:=by simp
 generalize data.drop u.toNat=b at *
 have hn:(b.getD (Int.toNat 0) default).toNat*256+(b.getD (Int.toNat 1) default).toNat=a2E b:=rfl
 have h0:=(b.getD (Int.toNat 0) default).toNat_lt
 have h9:((b.getD (Int.toNat 0) default).toNat:Int)*2^UInt64.toNat 8=((b.getD (Int.toNat 0) default).toNat*256:Int):=rfl
 simp only [hn,h9]
 have hs:P6 (a6X [C3.ob (ptr b1 0) data,C3.ob (ptr b4 0) u]) [C3.ob (ptr b1 0) data,C3.ob (ptr b4 0) u]:=(SlQ.h (ws := [ptr b1 0,ptr b4 0]))
 refine⟨hu.1,hu.2,by omega,fun h1 => ?_,fun h1=>⟨by decide,by omega,by decide,by omega,by omega,by decide,by omega,by omega,by omega,fun _=>by omega,fun _=>by omega,fun h2 => ?_,fun h2 => ?_⟩⟩
 ·have e:a2A b=none:=by unfold a2A;rw [if_pos (by omega)]
  unfold a7m;rw [e];exact⟨_,hs,rfl,by simp⟩
 ·have e:a2A b=none:=by unfold a2A;rw [if_neg (by omega),if_pos (by omega)]
  unfold a7m;rw [e];exact⟨_,hs,rfl,by simp⟩
 ·have e6:(b.take (6+(a2E b:Int)).toNat).drop (Int.toNat 6)=(b.drop 6).take (a2E b):=by
   rw [show(6+(a2E b:Int)).toNat=a2E b+6 by omega,List.drop_take];rfl
  have e2:(b.take (Int.toNat 6)).drop (Int.toNat 2)=(b.drop 2).take 4:=by rw [List.drop_take];rfl
  have hr:((b.drop 6).take (a2E b)).length=a2E b:=by rw [List.length_take,List.length_drop];omega
  simp only [e6,e2]
  have hd:a2A b=if (sha ((b.drop 6).take (a2E b))).l.take 4=(b.drop 2).take 4 then some ((b.drop 6).take (a2E b)) else none:=by unfold a2A;rw [if_neg (by omega),if_neg (by omega)]
  refine⟨by omega,by omega,by decide,by omega,by omega,by omega,fun b7=>⟨by decide,by decide,by decide,by decide,by omega,fun h3 => ?_,fun h3=>⟨by omega,by omega,by omega,by omega,by omega,?_⟩⟩⟩
  ·have hd:=hd.trans (if_neg h3)
   unfold a7m;rw [hd];exact P6.of [ptr b1 0,ptr b4 0] ⟨rfl,by simp⟩
  ·have hd:=hd.trans (if_pos (Classical.not_not.1 h3))
   unfold a7m;rw [hd];exact P6.of [ptr b1 0,ptr b4 0] ⟨rfl,by simp only [hr]⟩
def a1Q (data:List UInt8):Nat→Nat→List (List UInt8)×Nat
 | 0,u=>([],u)
 | f+1,u=>match a2A (data.drop u) with
  | none=>([],u)
  | some r=>(r::(a1Q data f (u+(6+r.length))).1,(a1Q data f (u+(6+r.length))).2)
theorem b0w {b r:List UInt8}(h:a2A b=some r):0 < r.length∧6+r.length≤b.length∧r.length≤4096:=by
 unfold a2A at h
 split at h
 ·cases h
 ·split at h
  ·cases h
  ·split at h
   ·cases h;rw [List.length_take,List.length_drop];omega
   ·cases h
theorem b0x (data:List UInt8):∀ (f g u:Nat),data.length - u < f→data.length - u < g→a1Q data f u=a1Q data g u
 | 0,_,_,h,_=>by omega
 | _+1,0,_,_,h=>by omega
 | f+1,g+1,u,h1,h2=>by
  unfold a1Q
  cases h:a2A (data.drop u) with
  | none=>rfl
  | some r =>
   have:=b0w h
   rw [List.length_drop] at this
   simp only [b0x data f g (u+(6+r.length)) (by omega) (by omega)]
def a1f (data:List UInt8):List (List UInt8)×Nat:=a1Q data (data.length+1) 0
instance (b1 b4:Nat)(data:List UInt8)(u:Int):CaE gl prog 150 [.raw (ptr b1 0),.raw (ptr b4 0)] [.ob (ptr b1 0) data,.ob (ptr b4 0) u] [0≤u∧u≤data.length,data.length≤100000000] (.t2 (.v ((a2A (data.drop u.toNat)).getD [])) (.v (a2A (data.drop u.toNat)).isSome)) [.ob (ptr b1 0) data,.ob (ptr b4 0) (u+a7m (data.drop u.toNat))]:=⟨fun h=>c5D b1 b4 data u h.1 h.2.1⟩
theorem b0y (data:List UInt8)(hl:data.length≤100000000):C4 gl prog 96 [.v data] (fun x=>x = .t2 (.v (a1f data).1) (.v ((a1f data).2:Int))):=by
 have i1:ExR 150:=⟨trivial⟩
 have i6:a1Z 6:=⟨trivial⟩
 refine .go func96 rfl 23 [.tmp 2,.tmp 3] rfl (by kernel_rfl) fun C hG=>(.z hG rfl fun b1 b4=>(.lp hG (fun x:Nat×List (List UInt8)×Value => [(6,.raw x.2.2)]) (fun x => [(ptr b4 0,.ob (ptr b4 0) (x.1:Int)),(.slice none 0 0,.own 34 x.2.2 x.2.1)]) (fun x=>x.1≤data.length∧x.2.1.length≤x.1∧a1f data=(x.2.1++(a1Q data (data.length+1) x.1).1,(a1Q data (data.length+1) x.1).2)) (fun x=>data.length - x.1) (0,[],.slice none 0 0) (by kernel_rfl) ⟨rfl,⟨by omega,by simp,by simp [a1f]⟩,fun ⟨u,out,w⟩ ⟨h1,h2,h3⟩ => ?_⟩))
 dsimp only at h1 h2 h3 ⊢
 rw [Int.toNat_natCast]
 refine⟨by omega,hl,fun h4 => ?_,fun h4 b21 => ?_⟩
 ·have hn:a2A (data.drop u)=none:=by simpa using h4
  rw [a1Q,hn] at h3
  rw [h3];unfold a7m;rw [hn];simp
 ·obtain⟨r,hr⟩:=Option.isSome_iff_exists.1 (Classical.not_not.1 h4)
  have hb:=b0w hr
  rw [List.length_drop] at hb
  have hs:(u:Int)+a7m (data.drop u)=((u+(6+r.length):Nat):Int):=by unfold a7m;rw [hr];simp
  rw [hs,hr]
  refine⟨by simp;omega,by simp;omega,fun w2=>⟨(u+(6+r.length),out ++ [r],w2),rfl,rfl,rfl,⟨by omega,by simp;omega,?_⟩,by omega⟩⟩
  rw [h3]
  have e:a1Q data (data.length+1) u=(r::(a1Q data (data.length+1) (u+(6+r.length))).1,(a1Q data (data.length+1) (u+(6+r.length))).2):=by
   rw [a1Q,hr,b0x data (data.length+1) data.length (u+(6+r.length)) (by omega) (by omega)]
  rw [e];simp
def a2N (d:l9)(r:List UInt8):l9×Int :=
 if (Z1 r).2≠0 then (d,(Z1 r).2) else L9 d d.B3 (d.F3.l.getD d.B3.toNat default).length (Z1 r).1
theorem b0z (r:List UInt8):(Z1 r).1.length≤4102:=by
 unfold Z1;split
 ·simp
 ·split
  ·simp
  ·simp only [List.length_append,List.length_take];simp;omega
instance (d:l9):P9 gl prog 81 [.v d] [V5 d] (.v d):=⟨fun hh=>a4u d hh.1⟩
instance (d:l9)(b:List UInt8):P9 gl prog 229 [.v d,.v b] [V5 d,d.B3=0∨d.B3=1,b.length≤100000000,-1000000000≤d.C7∧d.C7≤1000000000] (.t2 (.v (L9 d d.B3 (d.F3.l.getD d.B3.toNat default).length b).1) (.v (L9 d d.B3 (d.F3.l.getD d.B3.toNat default).length b).2)):=⟨fun hh=>b6Q d b hh.1 hh.2.1 hh.2.2.1 hh.2.2.2.1⟩
instance (d:l9)(b:List UInt8):P9 gl prog 161 [.v d,.v b] [V5 d,d.B3=0∨d.B3=1,b.length≤100000000,-1000000000≤d.C7∧d.C7≤1000000000] (.t2 (.v (L9 d (1 - d.B3) 0 b).1) (.v (L9 d (1 - d.B3) 0 b).2)):=⟨fun hh=>b4R d b hh.1 hh.2.1 hh.2.2.1 hh.2.2.2.1⟩
instance (d:l9):P9 gl prog 95 [.v d] [V5 d] (.v { d with Off:=false,a0O:=0,a3g:=0 }):=⟨fun hh=>b4P d hh.1⟩
instance (r:List UInt8):P9 gl prog 160 [.v r] [r.length≤100000000] (.t2 (.v (Z1 r).1) (.v (Z1 r).2)):=⟨fun hh=>c2T r hh.1⟩
instance (data:List UInt8):P9 gl prog 96 [.v data] [data.length≤100000000] (.t2 (.v (a1f data).1) (.v ((a1f data).2:Int))):=⟨fun hh=>b0y data hh.1⟩
theorem b9X (d:l9)(r:List UInt8)(h:V5 d)(ha:d.B3=0∨d.B3=1)(hr:r.length≤100000000)(hw : -1000000000≤d.C7∧d.C7≤1000000000):C4 gl prog 185 [.v d,.v r] (fun x=>x = .t2 (.v (a2N d r).1) (.v (a2N d r).2)):=by
 have hf:=b0z r
 refine .go func185 rfl 23 [.cell 4 37,.tmp 5] rfl (by kernel_rfl) fun C hG=>(.z hG (by kernel_rfl) fun b2 b4=>⟨hr,fun h1=>⟨h,?_⟩,fun h1=>⟨h,ha,by omega,hw,?_⟩⟩)
 ·unfold a2N;rw [if_pos h1]
 ·unfold a2N;rw [if_neg h1]
def O1:List (List UInt8)→List UInt8×Int
 | []=>([],0)
 | r::l=>if (Z1 r).2≠0 then ([],(Z1 r).2) else if (O1 l).2≠0 then ([],(O1 l).2) else ((Z1 r).1++(O1 l).1,0)
theorem b3d:∀ l,O1 l=if (O1 l).2≠0 then ([],(O1 l).2) else ((O1 l).1,0)
 | []=>by simp [O1]
 | r::l=>by
  by_cases h1:(Z1 r).2≠0
  ·have e:O1 (r::l)=([],(Z1 r).2):=by rw [O1,if_pos h1]
   rw [e,if_pos h1]
  ·by_cases h2:(O1 l).2≠0
   ·have e:O1 (r::l)=([],(O1 l).2):=by rw [O1,if_neg h1,if_pos h2]
    rw [e,if_pos h2]
   ·have e:O1 (r::l)=((Z1 r).1++(O1 l).1,0):=by rw [O1,if_neg h1,if_neg h2]
    rw [e,if_neg (by simp)]
def a1E (d:l9)(l:List (List UInt8)):l9×Int :=
 if (O1 l).2≠0 then (d,(O1 l).2) else L9 d (1 - d.B3) 0 (O1 l).1
theorem b6R (d:l9)(l:List (List UInt8))(h:V5 d)(ha:d.B3=0∨d.B3=1)(hr:∀ r∈l,r.length≤100000000)(hl:l.length≤10000)(hw : -1000000000≤d.C7∧d.C7≤1000000000):C4 gl prog 104 [.v d,.v l] (fun x=>x = .t2 (.v (a1E d l).1) (.v (a1E d l).2)):=by
 have i6:a1Z 6:=⟨trivial⟩
 have i10:FzW 10 6:=⟨trivial⟩
 refine .go func104 j0 36 [.cell 4 37,.tmp 5] j0 (by kernel_rfl) fun C hG=>(.z hG (by kernel_rfl) fun b2 b4 => ?_)
 refine .lp hG (fun x:Nat×List UInt8×Value => [(13,.v (x.1:Int)),(6,.raw x.2.2)]) (fun x => [(.slice none 0 0,.own 5 x.2.2 x.2.1)]) (fun x=>x.1≤l.length∧x.2.1.length≤x.1*4102∧O1 l=if (O1 (l.drop x.1)).2≠0 then ([],(O1 (l.drop x.1)).2) else (x.2.1++(O1 (l.drop x.1)).1,0)) (fun x=>l.length - x.1) (0,[],.slice none 0 0) (by kernel_rfl)
  ⟨rfl,rfl,⟨by omega,by simp,?_⟩,fun ⟨k,acc,w⟩ ⟨h1,h2,h3⟩ => ?_⟩
 ·exact b3d l
 dsimp only at h1 h2 h3 ⊢
 refine⟨fun h4 => ?_,fun h4 => ?_⟩
 ·rw [Int.toNat_natCast]
  have hf:=b0z (l.getD k default)
  have hm:=hr _ (T7 (l:=l) (k:=k) (by omega))
  rw [a17 (by omega),O1] at h3
  refine⟨by omega,h4,hm,fun h5=>⟨h,?_⟩,fun h5=>⟨by omega,by omega,fun w2=>⟨by omega,by omega,(k+1,_,w2),rfl,rfl,rfl,⟨by omega,by simp only [List.length_append];omega,?_⟩,by omega⟩⟩⟩
  ·rw [if_pos (by rw [if_pos h5];exact h5),if_pos h5] at h3
   unfold a1E;rw [h3,if_pos h5]
  ·rw [h3,if_neg h5]
   by_cases h6:(O1 (l.drop (k+1))).2≠0
   ·rw [if_pos h6,if_pos h6,if_pos h6]
   ·rw [if_neg h6,if_neg h6,if_neg (by simp),List.append_assoc]
 ·rw [List.drop_of_length_le (by omega)] at h3
  have h3:O1 l=(acc,0):=by rw [h3];simp [O1]
  refine⟨h,ha,by omega,hw,?_⟩
  unfold a1E;rw [h3];rfl
theorem b4S (data:List UInt8):∀ (f u:Nat),u≤data.length→(a1Q data f u).2≤data.length
 | 0,_,h=>h
 | f+1,u,h=>by
  unfold a1Q
  cases hr:a2A (data.drop u) with
  | none=>exact h
  | some r =>
   have:=b0w hr
   rw [List.length_drop] at this
   exact b4S data f _ (by omega)
theorem c5E (data:List UInt8):(a1f data).2≤data.length:=b4S data _ 0 (by omega)
def F5 (d:l9):l9 := { d with F3:=Q8 d.F3 d.B3.toNat ((d.F3.l.getD d.B3.toNat default).take (a1f (d.F3.l.getD d.B3.toNat default)).2),a0O:=0,a3g:=0,Off:=false }
theorem b6S (d:l9)(h:V5 d)(ha:d.B3=0∨d.B3=1):C4 gl prog 47 [.v d] (fun x=>x = .v (F5 d)):=by
 have h1:=h.at d.B3.toNat
 have h2:=c5E (d.F3.l.getD d.B3.toNat default)
 refine .go func47 j0 28 [.cell 2 37] j0 (by kernel_rfl) fun C hG=>(.z hG (by kernel_rfl) ?_)
 dsimp only
 rw [b6E (by omega),Int.toNat_natCast]
 exact fun b1 b2=>⟨h,by omega,by omega,h1,by omega,by omega,by omega,by omega,by omega,by omega,by omega,rfl⟩
theorem a8P (n:Int)(hn0:0≤n)(hn1:n≤281474976710656):C6 gl prog 144 [.v n] [] (fun r Hs=>∃ u,r = .raw u∧Hs = [.own 5 u (W5 (UInt64.ofInt n) 8)]):=by
 refine C6.c2i func144 rfl (by kernel_rfl) 17 rfl rfl _ rfl _ rfl fun C hC hG => ?_
 refine .q 2 hG ?_
 refine .p (.assign .raw ?_)
 refine .q 3 hG ?_
 refine .p (.assign .raw ?_)
 refine .q 3 hG ?_
 refine .a78 5 UInt8 ?_
 refine .q 4 hG ?_
 refine .a0Y (α:=Nat×Value) [(0,_)] (fun x R=>(3,.raw x.2)::(4,.v (56 - 8*(x.1:Int)))::R) (fun x => [(true,.own 5 x.2 (W5 (UInt64.ofInt n) x.1))]) (fun x=>x.1≤8) (fun x=>8 - x.1) ((0,.slice none 0 0)) (.cons j0 (.nil _)) ?_ (.c2 j0 j0 (.cons j0 (.nil _))) (j0) fun x hF => ?_
 ·simp
 obtain⟨j,w⟩:=x
 dsimp only at hF ⊢
 refine .q 7 hG ⟨fun hc6 => ?_,fun hc6 => ?_⟩
 ·refine .q 3 hG ?_
  have hbe:=K8 (UInt64.ofInt n) j
  refine .q 4 hG ?_
  refine .p (.c7s (.t j0) (.t j0) (by first|omega|(simp;done)|(simp;omega)|(simp at *;omega)) (by first|omega|(simp;done)|(simp;omega)|(simp at *;omega)) ?_)
  refine .q 1 hG ?_
  refine .bs j0 (by decide) fun b14 => ?_
  refine .ap (by first|omega|(simp;done)|(simp;omega)|(simp at *;omega)) (by first|omega|(simp;done)|(simp;omega)|(simp at *;omega)) fun w15 => ?_
  refine .q 1 hG ?_
  refine .drop ?_
  refine .q 3 hG ?_
  refine .sb (by first|omega|(simp;done)|(simp;omega)|(simp at *;omega)) (by first|omega|(simp;done)|(simp;omega)|(simp at *;omega)) ?_
  refine .q 2 hG ?_
  refine⟨(j+1,w15),.cons rfl (.cons (congrArg (fun q=>some (AV.v q)) (by dsimp only;omega)) (.cons rfl (.nil _))),congrArg (fun q => [(true,C3.own _ _ q)]) (by dsimp only;rw [a1U,←b1O n hn0 (by omega) _ (by omega),show(56 - 8*(j:Int)).toNat=56 - 8*j by omega]),?_,by dsimp only;omega⟩
  dsimp only;omega
 ·refine .q 7 hG ?_
  refine .e1 j0 j0 ?_
  obtain rfl:j=8:=by omega
  exact⟨0,_,j0,j0⟩
theorem b0A (key:Tag)(b:List UInt8)(hb:b.length≤900000):C4 gl prog 146 [.v key,.v b] (fun r=>r = .v (a3h key.l (a5o.l++b))):=by
 refine C4.jn func146 (by kernel_rfl) 11 rfl fun C hC hG => ?_
 refine .q 3 hG fun b2 => ?_
 refine .q 1 hG fun b4 => ?_
 refine .q 2 hG ?_
 refine .U2 hC .z1 (.asP 2 j0 .z1 (.c6C (by kernel_rfl) 6 [[],[],[(6,1)],[],[(7,2),(8,3)],[(5,0),(9,4)]] [1,2,4,5] j0 (by kernel_rfl) j0 (by kernel_rfl) (by decide) ?_))
 refine⟨_,fun H=>OpP.a1W (by decide) a1s (.t j0) j0,?_⟩
 refine .inl (.inl ?_)
 refine⟨_,fun H=>OpP.move (.t j0) j0,?_⟩
 refine .inl (.inl ?_)
 refine OpH.buildSlice (α:=UInt8) ty5 underlying34 (.cons (.u8 98 rfl) (.cons (.u8 111 rfl) (.cons (.u8 120 rfl) .nil))) rfl (by decide) fun b6 => ?_
 refine OpH.same underlying34 underlying5 rfl .z (by simp) ?_
 refine OpH.append c2E (.inl ⟨_,underlying34⟩) rfl .z (.v (.t rfl)) (by first|omega|(simp;done)|(simp;omega)|(simp at *;omega)) (by first|omega|(simp;done)|(simp;omega)|(simp at *;omega)) (fun w9 => ?_) rfl
 refine OpH.Q7 hC .z (OpH.as 9 rfl .z (OpH.ofP (OpP.J7 hG (a7h _ _ (by first|omega|(simp;done)|(simp;omega)|(simp at *;omega)) (by first|omega|(simp;done)|(simp;omega)|(simp at *;omega))) (.cons (.t rfl) (.cons (.t rfl) .nil)) ?_)))
 show wpB _ _ _ _ _ [_] ((10,_)::(9,_)::(8,_)::(7,_)::(6,_)::(5,_)::_) _
 refine .q 3 hG ?_
 refine⟨_,.r1 j0 (.cell U0 j0 .z1),?_⟩
 rfl
theorem b6T (b:List UInt8)(hb:b.length≤1000000):C6 gl prog 120 [.v b] [] (fun r Hs=>∃ u,r = .raw u∧Hs = [.own 5 u b]):=by
 refine C6.a0k func120 rfl (by kernel_rfl) 8 rfl rfl _ rfl _ rfl fun C hC hG => ?_
 refine .q 2 hG ?_
 refine .p (.assign .raw ?_)
 refine .q 5 hG ?_
 refine .p (.b0c underlying34 (.t j0) fun c4 hn4 => ?_)
 refine .q 1 hG ?_
 refine .cond (.t j0) (fun hc4 => ?_) (fun hc4 => ?_)
 ·refine .q 2 hG ?_
  refine .p (.assign .raw ?_)
  refine .q 1 hG ?_
  refine .a78 5 UInt8 ?_
  refine .q 1 hG ?_
  refine .e1 j0 j0 ?_
  refine⟨_,.cons .z (.nil),?_⟩
  rw [hn4 hc4];exact⟨_,rfl,rfl⟩
 ·refine .q 3 hG ?_
  refine .h (.buildSlice (α:=UInt8) ty5 underlying34 .nil j0 (by decide) fun b5 => ?_)
  refine .q 1 hG ?_
  refine .ap (by first|omega|(simp;done)|(simp;omega)|(simp at *;omega)) (by first|omega|(simp;done)|(simp;omega)|(simp at *;omega)) fun w7 => ?_
  refine .q 3 hG ?_
  refine .e1 j0 j0 ?_
  refine⟨_,.cons .z (.nil),?_⟩
  rw [List.nil_append];exact⟨w7,rfl,rfl⟩
def a2O (f:Nat→UInt8)(b:List UInt8)(k:Nat):List UInt8:=(b.take k).mapIdx (fun i c=>c ^^^ f i)++b.drop k
theorem a3t (f:Nat→UInt8)(b:List UInt8)(k:Nat):(a2O f b k).length=b.length:=by simp [a2O];omega
theorem b3e (f:Nat→UInt8)(b:List UInt8){k:Nat}(h:b.length≤k):a2O f b k=a2O f b b.length:=by simp [a2O,List.take_of_length_le h,List.drop_of_length_le h]
theorem c2U (f:Nat→UInt8)(b:List UInt8)(k:Nat)(hk:k < b.length)(h:k < (a2O f b k).length):(a2O f b k)[k]=b[k]:=by
 simp only [a2O]
 rw [List.getElem_append_right (by simp;omega)]
 simp
 congr 1;omega
theorem b9Y (f:Nat→UInt8)(b:List UInt8)(k:Nat)(hk:k < b.length):(a2O f b k).set k (b[k] ^^^ f k)=a2O f b (k+1):=by
 apply List.ext_getElem (by simp [a3t])
 intro j h1 h2
 rw [List.getElem_set]
 simp only [a2O]
 by_cases e:k=j
 ·subst e
  rw [if_pos rfl,List.getElem_append_left (by simp;omega)]
  simp
 ·rw [if_neg e]
  rcases Nat.lt_or_ge j k with h|h
  ·rw [List.getElem_append_left (by simp;omega),List.getElem_append_left (by simp;omega)]
   simp
  ·rw [List.getElem_append_right (by simp;omega),List.getElem_append_right (by simp;omega)]
   simp
   congr 1;omega
theorem b9Z (f:Nat→UInt8)(b:List UInt8)(k x:Nat)(h:x=32∨(b.length≤32*k+x∧x≤32)):a2O f b (32*k+x)=a2O f b (32*(k+1)):=by
 rcases h with rfl|⟨h,h2⟩
 ·rfl
 ·rw [b3e _ _ h,b3e _ _ (show b.length≤32*(k+1) by omega)]
def a2P (key:Tag)(nb:List UInt8)(k:Nat):Tag:=a3h key.l (b1P.l++nb++W5 (UInt64.ofInt (k:Int)) 8)
def a3J (key:Tag)(nb:List UInt8)(i:Nat):UInt8:=(a2P key nb (i/32)).l.getD (i % 32) 0
theorem c2V (key:Tag)(nb b:List UInt8)(k x:Nat)(hx:x < 32)(hk:32*k+x < b.length)(h1:((k:Int)*32+(x:Int)).toNat < (a2O (a3J key nb) b (32*k+x)).length)(h2:((k:Int)*32+(x:Int) - (k:Int)*32).toNat < 32) :
    (a2O (a3J key nb) b (32*k+x)).set ((k:Int)*32+(x:Int)).toNat ((a2O (a3J key nb) b (32*k+x))[((k:Int)*32+(x:Int)).toNat] ^^^ (j9.idx ((k:Int)*32+(x:Int) - (k:Int)*32).toNat h2).get (a2P key nb k))=a2O (a3J key nb) b (32*k+(x+1)):=by
  have e0:((k:Int)*32+(x:Int)).toNat=32*k+x:=by omega
  have e4:((k:Int)*32+(x:Int) - (k:Int)*32).toNat=x:=by omega
  rw [show 32*k+(x+1)=32*k+x+1 by omega,←b9Y _ b _ hk]
  have e3:(j9.idx ((k:Int)*32+(x:Int) - (k:Int)*32).toNat h2).get (a2P key nb k)=a3J key nb (32*k+x):=by
    show(a2P key nb k).l[((k:Int)*32+(x:Int) - (k:Int)*32).toNat]'_=_
    unfold a3J
    have h5:(32*k+x)/32=k:=by omega
    have h6:(32*k+x) % 32=x:=by omega
    have h4:x < (a2P key nb k).l.length:=by rw [M4.len];omega
    simp only [e4,h5,h6]
    rw [List.getD_eq_getElem?_getD,List.getElem?_eq_getElem h4];rfl
  simp only [e3,e0]
  rw [c2U (a3J key nb) b _ hk]
theorem b4T (key:Tag)(nb:List UInt8):C4 gl prog 195 [.v key,.v nb] (fun r=>r = .cap 233 [.p nb,.p key]):=by
 refine C4.jn func195 (by kernel_rfl) 6 rfl fun C hC hG => ?_
 refine .q 3 hG fun b2 => ?_
 refine .q 1 hG fun b3 => ?_
 refine .p (.assign .raw ?_)
 refine .q 2 hG ?_
 refine .U2 hC .z (.asP 3 j0 .z (.U2 hC .z1 (.asP 2 j0 .z1 ?_)))
 refine .q 1 hG ?_
 refine .p (.c9P (.cons (.t j0) (.cons (.t j0) .nil)) ?_)
 refine .q 3 hG ?_
 refine .e1 j0 j0 ?_
 rfl
theorem b6U (key:Tag)(nb:List UInt8)(hn:nb.length≤900000)(bound:Nat)(hb:bound≤1000000):c6J gl prog 233 [.p nb,.p key] (fun k => [.v ((k:Int)*32),.v (a2P key nb k)]) bound:=by
 refine⟨⟨_,func233,by kernel_rfl,rfl⟩,fun I0 l it hy => ?_⟩
 refine C6.a0k func233 rfl (by kernel_rfl) 23 rfl rfl _ rfl _ rfl fun C hC hG' => ?_
 obtain⟨hG,hI⟩:=hG'
 refine .q 5 hG ?_
 refine .a0Y (α:=Nat) [(0,_),(1,_),(2,_)] (fun k R=>(4,.v (k:Int))::R) (fun k => [(false,itB it (some k))]) (fun k=>k≤bound) (fun k=>bound - k) (0) (.c2 j0 j0 (.cons j0 (.nil _))) ?_ (.c2 j0 j0 (.c2 j0 j0 (.nil _))) (j0) fun k hF => ?_
 ·simp
 refine .q 3 hG ?_
 have hb2:=K8 (UInt64.ofInt (k:Int)) 8
 refine .q 1 hG ?_
 refine .bs j0 (by decide) fun b8 => .h (.same underlying34 underlying5 j0 .z (by simp) ?_)
 refine .q 1 hG ?_
 refine .ap (by first|omega|(simp;done)|(simp;omega)|(simp at *;omega)) (by first|omega|(simp;done)|(simp;omega)|(simp at *;omega)) fun w11 => ?_
 refine .q 1 hG ?_
 refine .k0 hG (a8P _ (by first|omega|(simp;done)|(simp;omega)|(simp at *;omega)) (by first|omega|(simp;done)|(simp;omega)|(simp at *;omega))) fun r13 Hs13 hr13 => ?_
 obtain⟨u13,rfl,rfl⟩:=hr13
 show wpB _ _ _ _ _ _ _ ((true,_)::_)
 refine .h (.append c2E (.inl ⟨_,underlying34⟩) j0 .z1 (.own j0 .z) (by first|omega|(simp;done)|(simp;omega)|(simp at *;omega)) (by first|omega|(simp;done)|(simp;omega)|(simp at *;omega)) (fun w14 => .ag j0 ?_) j0)
 refine .q 2 hG ?_
 refine .Q7 hC .z1 (.as 5 j0 .z1 ?_)
 refine .q 3 hG ?_
 refine .p (.mul (.t j0) (.i j0) (by first|omega|(simp;done)|(simp;omega)|(simp at *;omega)) (by first|omega|(simp;done)|(simp;omega)|(simp at *;omega)) (.p (.a1W (by decide) a1s (.t j0) ?_)))
 refine .q 1 hG ?_
 refine .p (.J7 hG (a7h _ _ (by first|omega|(simp;done)|(simp;omega)|(simp at *;omega)) (by first|omega|(simp;done)|(simp;omega)|(simp at *;omega))) (.cons (.t j0) (.cons (.t j0) .nil)) (.h (.b6w hI (hy k hF) j0 .z2 (.cons (.t j0) (.cons (.t j0) .nil)) fun r21 B21 hr21 => ?_)))
 obtain⟨c21,rfl,rfl,hk21⟩:=hr21
 refine .q 1 hG ?_
 refine .drop (.drop ?_)
 refine .q 1 hG ?_
 refine .cond (.t j0) (fun hc22 => ?_) (fun hc22 => ?_)
 ·refine .q 1 hG ?_
  refine⟨_,.r0 j0,?_⟩
  refine⟨_,.cons .z (.nil),?_⟩
  have e:c21=false:=by simpa using hc22
  subst e
  rfl
 ·refine .q 3 hG ?_
  refine .ad (by first|omega|(simp;done)|(simp;omega)|(simp at *;omega)) (by first|omega|(simp;done)|(simp;omega)|(simp at *;omega)) ?_
  refine .q 2 hG ?_
  refine⟨k+1,.c2 rfl rfl (.c2 rfl rfl (.nil _)),congrArg (fun q => [(false,itB it q)]) (by rw [show c21=true by simpa using hc22];rfl),?_,by have:=hk21 (by simpa using hc22);omega⟩
  exact hk21 (by simpa using hc22)
theorem b1V:K1 prog 34 O5 := .ok (by kernel_rfl)
theorem b8O (key:Tag)(nb b:List UInt8)(hn:nb.length≤900000)(hb:b.length≤1000000):C6 gl prog 145 [.v key,.v nb,.v b] [] (fun r Hs=>∃ u,r = .raw u∧Hs = [.own 5 u (a2O (a3J key nb) b b.length)]):=by
 refine C6.c5a func145 rfl (by kernel_rfl) 47 rfl rfl _ rfl _ rfl fun C hC hrd hG=>(.c7A (.region rfl (.h (.box (.t rfl) fun b3 => .p (.assign (.b1h (α:=UInt8)) (.nil (.c7A (.U2 hC .z (.asP 3 rfl .z (.region rfl (.p (.move (.t rfl) (.h (.a6Z hG (b6T _ (by first|omega|(simp;done)|(simp;omega)|(simp at *;omega))) (.cons (.t rfl) .nil) fun r12 Hs12 hr12 => ?_))))))))))))))
 obtain⟨u12,rfl,rfl⟩:=hr12
 show wpB _ _ _ _ _ _ _ ((true,_)::_)
 refine .h (.alloc b1V fun b7 => .n (.stW b1V (.t j0) (.d2n j0 (.s .z)) .z (.nil (.d2m (.c7A (.region j0 (.p (.ldP U0 (.t j0) (.p (.move (.t j0) (.p (.J7 hG (b4T _ _) (.cons (.t j0) (.cons (.t j0) .nil)) (.nil (.block (.range (vs:=fun k => [.v ((k:Int)*32),.v (a2P key nb k)]) (bound:=(b.length+31)/32) (fun k => [.ob (ptr b7 0) (O5.mk u12),.own 5 u12 (a2O (a3J key nb) b (32*k))]) [.ob (ptr b7 0) (O5.mk u12),.own 5 u12 (a2O (a3J key nb) b b.length)] 0 hrd hG j0 (b6U key nb hn _ (by omega)) (by decide) (fun _=>j0) (.cons .z (.cons (.s .z) .nil)) j0 (fun k hk C hC hG => ?_) ?_)))))))))))))))
 ·show wpA _ _ _ _ _ ((17,_)::(16,_)::_) [(false,_),(false,_),(false,.none_)]
  have hl5:=a3t (a3J key nb) b (32*k)
  refine .seq (.region j0 (.p (.assign (.t j0) (.nil (.region j0 (.h (.alloc U0 fun b9 => .n (.stW U0 (.t j0) (.t j0) .z (.nil ?_)))))))))
  refine⟨j0,fun C hC hG => ?_⟩
  show wpA _ _ _ _ _ _ [(false,_),(false,_),(false,_),(false,.none_)]
  refine .block (.seq (.seq (.region j0 (.p (.move (.t j0) (.p (.ldR (fun x=>x) b1V (.t j0) (.s .z) (fun _=>j0) (.p (.b6t underlying34 j0 (.s (.s .z)) (.p (.geq (.t j0) (.t j0) (.nil (.a0q (.t j0) (fun hc21 => ?_) (fun hc21 => ?_))))))))))))))
  ·refine .exit ?_
   have e:=b3e (a3J key nb) b (k:=32*k) (by omega)
   rw [e]
   refine .inr ⟨j0,?_⟩
   exact(.cons (.s .z) (.cons (.s (.s .z)) .nil))
  ·refine .skip (.seq (.region j0 (.p (.move (.t j0) (.p (.assign (.t j0) (.nil (.block (.a0Y (α:=Nat) [(7,_),(8,_),(9,_)] (fun x R=>(10,.v ((k:Int)*32+(x:Int)))::R) (fun x => [(false,.ob (ptr b9 0) (a2P key nb k)),(false,.ob (ptr b7 0) (O5.mk u12)),(false,.own 5 u12 (a2O (a3J key nb) b (32*k+x))),(false,.none_)]) (fun x=>x≤32∧32*k+x≤b.length) (fun x=>b.length - (32*k+x)) (0) (.cons j0 (.cons j0 (.cons j0 (.nil _)))) ?_ (.cons j0 (.cons j0 (.cons j0 (.cons j0 (.nil _))))) (j0) fun x hF => ?_)))))))))
   ·exact⟨by omega,by omega⟩
   obtain⟨hx1,hx2⟩:=hF
   have hl7:=a3t (a3J key nb) b (32*k+x)
   refine .seq (.seq (.region j0 (.p (.move (.t j0) (.p (.ldR (fun x=>x) b1V (.t j0) (.s .z) (fun _=>j0) (.p (.b6t underlying34 j0 (.s (.s .z)) (.p (.lss (.t j0) (.t j0) (.p (.move (.t j0) (.go 27 j0 (.t j0) (fun hg28 => .move (.t j0) j0) (.go 27 j0 (.t j0) (fun hg29 => .move (.t j0) j0) (.go 27 j0 (.t j0) (fun hg30 => .add (.o j0 (beq_iff_eq.2 hg30)) (.i j0) (by first|omega|(simp;done)|(simp;omega)|(have:=hg30;simp at this;omega)) (by first|omega|(simp;done)|(simp;omega)|(have:=hg30;simp at this;omega)) j0) (.go 27 j0 (.t j0) (fun hg31 => .lss (.o j0 (beq_iff_eq.2 hg31)) (.o j0 (beq_iff_eq.2 hg31)) j0) (.p (.a2I (.t j0) (fun hp=>(.o j0 (beq_iff_eq.2 hp))) (.nil (.cond (.t j0) (fun hc32 => ?_) (fun hc32 => ?_)))))))))))))))))))))
   ·refine .skip (.seq (.block (.draw (by kernel_rfl) 11 [[],[],[(35,0),(36,1)],[(37,2)],[],[],[(39,4),(40,5)],[(41,6)],[(42,7)],[(38,3),(43,8)],[(35,0),(36,1)]] j0 (by kernel_rfl) j0 ?_)))
    refine⟨_,OpP.ldR (fun x=>x) b1V (.t j0) (.s .z) (fun _=>j0) j0,?_⟩
    refine⟨_,OpP.move (.t j0) j0,?_⟩
    refine⟨_,OpP.a7Y ty5 underlying34 j0 (.s (.s .z)) (.t j0) (by first|omega|(simp;done)|(simp;omega)|(simp at *;omega)) (by first|omega|(simp;done)|(simp;omega)|(simp at *;omega)) j0,?_⟩
    refine⟨_,OpP.c9C ty5 (.t j0) (.s (.s .z)) (by first|omega|(simp;done)|(simp;omega)|(simp at *;omega)) j0,?_⟩
    refine⟨_,OpP.move (.t j0) j0,?_⟩
    refine⟨_,OpP.move (.t j0) j0,?_⟩
    refine⟨_,OpP.sub (.t j0) (.t j0) (by first|omega|(simp;done)|(simp;omega)|(simp at *;omega)) (by first|omega|(simp;done)|(simp;omega)|(simp at *;omega)) j0,?_⟩
    refine⟨_,OpP.c43 a1s (.t j0) (.t j0) (by first|omega|(simp;done)|(simp;omega)|(simp at *;omega)) (by first|omega|(simp;done)|(simp;omega)|(simp at *;omega)) j0,?_⟩
    refine⟨_,OpP.ldL ty5 (.t j0) .z j0,?_⟩
    refine⟨_,OpP.c1p (.t j0) (.t j0) j0,?_⟩
    refine⟨_,OpP.a7Y ty5 underlying34 j0 (.s (.s .z)) (.t j0) (by first|omega|(simp;done)|(simp;omega)|(simp at *;omega)) (by first|omega|(simp;done)|(simp;omega)|(simp at *;omega)) j0,?_⟩
    show wpB _ _ _ _ _ _ ((45,_)::(44,_)::(43,_)::(42,_)::(41,_)::(40,_)::(39,_)::(38,_)::(37,_)::(36,_)::(35,_)::_) _
    refine .n (.c9D ty5 (.t j0) (.t j0) (.s (.s .z)) (by first|omega|(simp;done)|(simp;omega)|(simp at *;omega)) (.nil (.region j0 (.p (.move (.t j0) (.p (.add (.t j0) (.i j0) (by first|omega|(simp;done)|(simp;omega)|(simp at *;omega)) (by first|omega|(simp;done)|(simp;omega)|(simp at *;omega)) (.p (.assign (.t j0) (.nil ?_))))))))))
    refine⟨x+1,.cons rfl (.cons rfl (.cons rfl (.cons rfl (.nil _)))),congrArg (fun q => [_,_,(false,C3.own _ _ q),_]) (c2V key nb b k x (by simp at hc32;omega) (by simp at hc32;omega) _ _),?_,by simp at hc32;omega⟩
    simp at hc32;exact⟨by omega,by omega⟩
   ·refine .exit ?_
    have e:=b9Z (a3J key nb) b k x (by simp at hc32;omega)
    rw [e]
    refine .inl ⟨rfl,by omega,?_⟩
    exact(.cons (.s .z) (.cons (.s (.s .z)) .nil))
 ·show wpF _ _ _ _ _ _ [(true,_),(true,_),(false,.none_)]
  refine .seq (.region j0 (.p (.ldR (fun x=>x) b1V (.t j0) .z (fun _=>j0) (.p (.assign (.t j0) (.nil (.ret ?_)))))))
  refine⟨_,.r1 j0 (.tmp j0),?_⟩
  refine⟨_,.cons (.s .z) (.nil),?_⟩
  exact⟨u12,j0,j0⟩
theorem c73 (k:Tag)(n:Int)(p:List UInt8)(x:y6):C4 gl prog 194 [.v x,.p k,.p n,.p p] (fun r=>r = .v (Z0 k n p x)):=by
 refine C4.jn func194 (by kernel_rfl) 22 rfl fun C hC hG => ?_
 refine .q 3 hG fun b4 => ?_
 refine .q 7 hG ?_
 refine .p (.b4f underlying28 sz5 underlying5 b9y (.t j0) (.t j0) ?_)
 refine .q 10 hG ?_
 refine .go 16 j0 (.t j0) (fun hg20 => .J7 hG (a0L _ _) (.cons (.q j0 hg20) (.cons (.q j0 hg20) .nil)) j0) ?_
 refine .q 4 hG ?_
 refine .e1 j0 j0 ?_
 rfl
theorem b1r (l:List y6)(p:y6→Bool):C4 gl prog 193 [.v l,.a62 prog p] (fun r=>r = .v (idx l p)):=by
 refine C4.jn func193 (by kernel_rfl) 19 rfl fun C hC hG => ?_
 refine .q 6 hG ?_
 refine .a4I 0 j0 fun hl0 => ?_
 refine .q 6 hG ?_
 refine .a0Y (α:=Nat) [(0,_),(1,_),(7,_)] (fun k R=>(8,.v (k:Int))::R) (fun k => []) (fun k=>k≤l.length∧∀ j (hj:j < l.length),j < k→p l[j]=false) (fun k=>l.length - k) (0) (.c2 j0 j0 (.cons j0 (.nil _))) ?_ (.c2 j0 j0 (.c2 j0 j0 (.nil _))) (j0) fun k hF => ?_
 ·simp
 obtain⟨h1,h2⟩:=hF
 refine .q 6 hG ⟨fun hc9 => ?_,fun hc9 => ?_⟩
 ·refine .q 13 hG ?_
  refine .ix (by first|omega|(simp;done)|(simp;omega)|(simp at *;omega)) (by first|omega|(simp;done)|(simp;omega)|(simp at *;omega)) ?_
  refine .q 1 hG ?_
  refine .p (.b0a j0 (.t j0) ?_)
  refine .q 1 hG ?_
  refine .cond (.t j0) (fun hc16 => ?_) (fun hc16 => ?_)
  ·refine .q 6 hG ?_
   refine .e1 j0 j0 ?_
   rw [b0s (by omega) (by simpa using hc16) h2]
  ·refine .q 2 hG ?_
   refine .ad (by first|omega|(simp;done)|(simp;omega)|(simp at *;omega)) (by first|omega|(simp;done)|(simp;omega)|(simp at *;omega)) ?_
   refine .q 2 hG ?_
   refine⟨k+1,.c2 rfl rfl (.c2 rfl rfl (.nil _)),rfl,?_,by omega⟩
   refine⟨by omega,fun j hj hjk => ?_⟩;rcases Nat.lt_or_ge j k with h|h;exact h2 j hj h;(obtain rfl:j=k:=by omega);simpa using hc16
 ·refine .q 6 hG ?_
  refine .e1 j0 j0 ?_
  rw [a5m fun j hj=>h2 j hj (by omega)]
def P0 (a:F1)(e:Int)(k:Tag)(n:Int)(p:List UInt8)(rb:List UInt8):List UInt8×F1×Int:=if e≠0 then ([],a,e) else
 match a.B7.find? (Z0 k n p) with
 | some x=>(x.O8,a,0)
 | none=>if 65536≤a.B7.length then ([],a,2) else
  ((if a.P7 then (Y9 98 (a.B7.length+1)).l++List.replicate (p.length+8) 0 else rb),
   ⟨a.P7,a.a2L,a.K9,a.G4,a.B7 ++ [⟨k,n,p,if a.P7 then (Y9 98 (a.B7.length+1)).l++List.replicate (p.length+8) 0 else rb⟩]⟩,0)
theorem a2Y {a:F1}{e:Int}{k:Tag}{n:Int}{p rb:List UInt8}(h:e≠0):P0 a e k n p rb=([],a,e):=by unfold P0;rw [if_pos h]
theorem b4U {a:F1}{k:Tag}{n:Int}{p rb:List UInt8}(hi:0≤idx a.B7 (Z0 k n p))(h2:(idx a.B7 (Z0 k n p)).toNat < a.B7.length):P0 a 0 k n p rb=(a.B7[(idx a.B7 (Z0 k n p)).toNat].O8,a,0):=by
 unfold P0;rw [if_neg (by simp),a9x hi h2]
theorem b0B {a:F1}{k:Tag}{n:Int}{p rb:List UInt8}(hf:a.B7.find? (Z0 k n p)=none)(h:65536≤a.B7.length):P0 a 0 k n p rb=([],a,2):=by
 unfold P0;rw [if_neg (by simp),hf];simp only [];rw [if_pos h]
theorem a8i {a:F1}{k:Tag}{n:Int}{p rb:List UInt8}(hf:a.B7.find? (Z0 k n p)=none)(h:¬65536≤a.B7.length):P0 a 0 k n p rb =
    ((if a.P7 then (Y9 98 (a.B7.length+1)).l++List.replicate (p.length+8) 0 else rb),
      ⟨a.P7,a.a2L,a.K9,a.G4,a.B7 ++ [⟨k,n,p,if a.P7 then (Y9 98 (a.B7.length+1)).l++List.replicate (p.length+8) 0 else rb⟩]⟩,0):=by
  unfold P0;rw [if_neg (by simp),hf];simp only [];rw [if_neg h]
theorem c5F (w:Value)(a:F1)(e:Int)(um ub:Value)(B1 B2:C3)(k:Tag)(n:Int)(p:List UInt8)(he:e≠0):C6 gl prog 142 [mp w,.v k,.v n,.v p,.any] [.ob w (a2D a e um ub),B1,B2]
    (fun r Hs=>r = .v ([]:List UInt8)∧Hs = [.ob w (a2D a e um ub),B1,B2]):=by
  refine C6.a0k func142 rfl (by kernel_rfl) 84 rfl rfl _ rfl _ rfl fun C hC hG => ?_
  refine .q 3 hG fun b6 => ?_
  refine .q 1 hG fun b7 => ?_
  refine .q 1 hG fun b8 => ?_
  refine .q 11 hG ?_
  refine .a0q (.t j0) (fun hc19 => ?_) (fun hc19=>(by exfalso;exact hc19 he))
  refine .q 5 hG ?_
  refine .e1 j0 j0 ?_
  refine⟨_,.cons .z3 (.cons .z4 (.cons .z5 (.nil))),?_⟩
  exact⟨j0,j0⟩
theorem c5G (w:Value)(a:F1)(um ub:Value)(B:C3)(k:Tag)(n:Int)(p rb:List UInt8)(hl:a.B7.length≤1000000)(hp:p.length≤256)(hrb:rb.length≤1000)(hbx:∀ x∈a.B7,x.O8.length≤1000000) :
    C6 gl prog 142 [mp w,.v k,.v n,.v p,.c2c prog (.v rb)] [.ob w (a2D a 0 um ub),B,gsB ub a]
    (fun r Hs=>∃ ub',r = .v (P0 a 0 k n p rb).1∧Hs = [.ob w (a2D (P0 a 0 k n p rb).2.1 (P0 a 0 k n p rb).2.2 um ub'),B,gsB ub' (P0 a 0 k n p rb).2.1]):=by
  refine C6.a0k func142 rfl (by kernel_rfl) 84 rfl rfl _ rfl _ rfl fun C hC hG => ?_
  refine .q 3 hG fun b6 => ?_
  refine .q 1 hG fun b7 => ?_
  refine .q 1 hG fun b8 => ?_
  refine .q 4 hG ?_
  refine .U2 hC .z2 (.asP 6 j0 .z2 (.U2 hC .z1 (.asP 7 j0 .z1 (.U2 hC .z (.asP 8 j0 .z ?_)))))
  refine .q 7 hG ?_
  refine .a0q (.t j0) (fun hc19=>(by exfalso;exact hc19 rfl)) (fun hc19 => ?_)
  refine .q 3 hG ?_
  refine .mv j0 (.p (.E3 (.t j0) (.p (.P5 u7.l0 P1 j0 (.t j0) (.p (.a2n y2.l4 a23 j0 (.t j0) (.p (.ldR (fun x=>x.a.B7) a6f (.t j0) .z3 (fun _=>j0) (.p (.b6u hG (fun x=>c73 k n p x) (.cons (.t j0) (.cons (.t j0) (.cons (.t j0) .nil))) (.p (.c1Y hG (b1r _ _) (.cons (.gs j0 .z5) (.cons (.e (.t j0)) .nil)) (by first|exact .v|exact .t2 .v .v|exact .t3 .v .v .v) ?_))))))))))))
  refine .q 9 hG ⟨fun hc28 => ?_,fun hc28 => ?_⟩
  · refine .q 1 hG ?_
    refine .b8v .z5 ?_ ?_
    · have hi5:0≤idx a.B7 (Z0 k n p):=hc28
      have hl5:=a8h hi5
      have hb5:=hbx _ (List.getElem_mem (l:=a.B7) (n:=(idx a.B7 (Z0 k n p)).toNat) (by omega))
      refine .q 1 hG ?_
      refine .mv j0 (.p (.E3 (.t j0) (.p (.P5 u7.l0 P1 j0 (.t j0) (.p (.a2n y2.l4 a23 j0 (.t j0) (.p (.ldR (fun x=>x.a.B7) a6f (.t j0) .z3 (fun _=>j0) ?_))))))))
      refine .q 1 hG ?_
      refine .p (.idx a7e underlying44 (.fzC j0 .z5) (.t j0) (by first|omega|(simp;done)|(simp;omega)|(simp at *;omega)) (by first|omega|(simp;done)|(simp;omega)|(simp at *;omega)) ?_)
      refine .q 2 hG ?_
      refine .k hG (Q1 _ hb5) ?_
      refine .q 3 hG ?_
      refine .e1 j0 j0 ?_
      refine⟨_,.cons .z3 (.cons .z4 (.gsC .z5 (.nil))),?_⟩
      rw [b4U hi5 (by omega)];exact⟨ub,rfl,rfl⟩
    · have hi5:0≤idx a.B7 (Z0 k n p):=hc28
      have hl5:=a8h hi5
      have hb5:=hbx _ (List.getElem_mem (l:=a.B7) (n:=(idx a.B7 (Z0 k n p)).toNat) (by omega))
      refine .q 1 hG ?_
      refine .mv j0 (.p (.E3 (.t j0) (.p (.P5 u7.l0 P1 j0 (.t j0) (.p (.a2n y2.l4 a23 j0 (.t j0) (.p (.ldR (fun x=>x.a.B7) a6f (.t j0) .z3 (fun _=>j0) ?_))))))))
      refine .q 1 hG ?_
      refine .p (.a7Y a7e underlying44 j0 .z5 (.t j0) (by first|omega|(simp;done)|(simp;omega)|(simp at *;omega)) (by first|omega|(simp;done)|(simp;omega)|(simp at *;omega)) (.p (.c9u y6.l3 b8a j0 (.t j0) (.p (.ldE a9m (.t j0) .z5 (by first|omega|(simp;done)|(simp;omega)|(simp at *;omega)) ?_)))))
      refine .k hG (Q1 _ hb5) ?_
      refine .q 3 hG ?_
      refine .e1 j0 j0 ?_
      refine⟨_,.cons .z3 (.cons .z4 (.gsO .z5 (.nil))),?_⟩
      rw [b4U hi5 (by omega)];exact⟨ub,rfl,rfl⟩
  · refine .q 3 hG ?_
    refine .mv j0 (.p (.E3 (.t j0) (.p (.P5 u7.l0 P1 j0 (.t j0) (.p (.a2n y2.l4 a23 j0 (.t j0) (.p (.ldR (fun x=>x.a.B7) a6f (.t j0) .z3 (fun _=>j0) (.p (.c6E underlying44 j0 .z5 ?_))))))))))
    refine .ad (by first|omega|(simp;done)|(simp;omega)|(simp at *;omega)) (by first|omega|(simp;done)|(simp;omega)|(simp at *;omega)) ?_
    refine .q 9 hG ⟨fun hc47 => ?_,fun hc47 => ?_⟩
    · refine .q 3 hG ?_
      refine .km hG (a5r _ _ _) .z3 (by rintro _ _ rfl;exact⟨_,rfl⟩) fun r49 B49 hr49 => ?_
      cases hr49
      refine .q 6 hG ?_
      refine .e1 j0 j0 ?_
      refine⟨_,.cons .z3 (.cons .z4 (.cons .z5 (.nil))),?_⟩
      have hf:=a3s hc28
      rw [b0B hf (by simp at hc47;omega)];exact⟨ub,rfl,rfl⟩
    · refine .q 4 hG ?_
      refine .p (.J7 hG (b0t _ _) (.cons (.u8 98 j0) (.cons (.t j0) .nil)) ?_)
      refine .q 1 hG fun b13 => ?_
      refine .q 3 hG ?_
      refine .U2 hC .z (.asP 13 j0 .z (.c6C (by kernel_rfl) 6 [[],[],[(53,1)],[(54,2)],[(52,0),(55,3)],[(56,4)]] [0,4,5] j0 (by kernel_rfl) j0 (by kernel_rfl) (by decide) (.inl ?_)))
      refine⟨_,fun H=>OpP.ldP a9m (.t j0) j0,?_⟩
      refine⟨_,fun H=>OpP.len underlying34 (.t j0) j0,?_⟩
      refine⟨_,fun H=>OpP.add (.t j0) (.i j0) (by first|omega|(simp;done)|(simp;omega)|(simp at *;omega)) (by first|omega|(simp;done)|(simp;omega)|(simp at *;omega)) j0,?_⟩
      refine .inl (.inl ?_)
      refine OpH.ofP (OpP.slArrPC (by decide) a1s (.t rfl) ?_)
      refine OpH.ofP (OpP.appendZC underlying34 c84 rfl rfl rfl (fun _=>rfl) underlying3 (.t rfl) (.t rfl) (by first|omega|(simp;done)|(simp;omega)|(simp at *;omega)) (by first|omega|(simp;done)|(simp;omega)|(simp at *;omega)) (by first|omega|(simp;done)|(simp;omega)|(simp at *;omega)) ?_)
      refine OpH.ofP (OpP.assign (.t rfl) ?_)
      show wpB _ _ _ _ _ [] ((14,_)::(56,_)::(55,_)::(54,_)::(53,_)::(52,_)::_) _
      refine .q 4 hG ?_
      refine .mv j0 (.p (.E3 (.t j0) (.p (.P5 u7.l0 P1 j0 (.t j0) (.p (.a2n y2.l0 b2v j0 (.t j0) (.p (.ldF (fun x=>x.a.P7) ty4 (.t j0) .z4 (fun _=>j0) (.p (.not (.t j0) ?_))))))))))
      refine .q 1 hG ?_
      refine .cond (.t j0) (fun hc62 => ?_) (fun hc62 => ?_)
      · refine .q 2 hG ?_
        refine .p (.c2e j0  ?_)
        refine .q 3 hG ?_
        refine .a0w [j6,j6,j6,j6,j6,j6,j5] (by kernel_rfl) 18 [[],[],[(66,1)],[(67,2)],[(68,3)],[(69,4)],[],[],[],[(73,8)],[],[(75,10)],[(71,6),(72,7),(74,9),(76,11)],[(77,12)],[(70,5),(78,13)],[(65,0)],[(80,15)],[(81,16)]] [5,14] j0 (by kernel_rfl) j0 (by kernel_rfl) (by decide) ?_
        refine⟨_,fun H=>OpP.move (.t j0) j0,?_⟩
        refine⟨_,fun H=>OpP.move (.t j0) j0,?_⟩
        refine⟨_,fun H=>OpP.E3 (.t j0) j0,?_⟩
        refine⟨_,fun H=>OpP.P5 u7.l0 P1 j0 (.t j0) j0,?_⟩
        refine⟨_,fun H=>OpP.a2n y2.l4 a23 j0 (.t j0) j0,?_⟩
        refine .inl ?_
        refine⟨_,fun H=>OpP.ldP U0 (.t j0) j0,?_⟩
        refine⟨_,fun H=>OpP.ldP ty3 (.t j0) j0,?_⟩
        refine⟨_,fun H=>OpP.ldP a9m (.t j0) j0,?_⟩
        refine⟨_,fun H=>OpP.J7 hG (Q1 _ (by first|omega|(simp;done)|(simp;omega)|(simp at *;omega))) (.cons (.t j0) .nil) j0,?_⟩
        refine⟨_,fun H=>OpP.move (.t j0) j0,?_⟩
        refine⟨_,fun H=>OpP.J7 hG (Q1 _ (by first|omega|(simp;done)|(simp;omega)|(simp at *;omega))) (.cons (.t j0) .nil) j0,?_⟩
        refine⟨_,fun H=>OpP.bS4 y6.l0 y6.l1 y6.l2 y6.l3 j0 a7e c6w (fun c0 c1 c2 c3=>(⟨c0,c1,c2,c3⟩:y6)) (fun _ _ _ _=>j0) j0 j0 j0 j0 j0 (.t j0) (.t j0) (.t j0) (.t j0) j0,?_⟩
        refine⟨_,fun H=>OpP.a2p (α:=y6) a7e underlying44 (.cons (.t j0) .nil) j0 (by decide) j0,?_⟩
        refine .inl ?_
        refine⟨_,fun H=>OpP.E3 (.t j0) j0,?_⟩
        refine⟨_,fun H=>OpP.P5 u7.l0 P1 j0 (.t j0) j0,?_⟩
        refine⟨_,fun H=>OpP.a2n y2.l4 a23 j0 (.t j0) j0,?_⟩
        refine⟨⟨([],j7 [j4,j4,j4,j4,j4,j4,_]),j0⟩,?_⟩
        refine OpH.ofP (OpP.ldR (fun x=>x.a.B7) a6f (.t rfl) .z4 (fun _=>rfl) ?_)
        refine⟨⟨([],j7 [j4,j4,j4,j4,j4,j4,_]),j0⟩,?_⟩
        refine OpH.a5i c7R (.inl ⟨_,underlying44⟩) rfl .z6 (.v (.c rfl)) (by first|omega|(simp;done)|(simp;omega)|(simp at *;omega)) (by first|omega|(simp;done)|(simp;omega)|(simp at *;omega)) fun w79 => ?_
        refine⟨⟨([],j7 [j4,j4,j4,j4,j4,j4,_]),j0⟩,?_⟩
        show wpB _ _ _ _ _ [_] ((82,_)::(81,_)::(80,_)::(79,_)::(78,_)::(77,_)::(76,_)::(75,_)::(74,_)::(73,_)::(72,_)::(71,_)::(70,_)::(69,_)::(68,_)::(67,_)::(66,_)::(65,_)::_) _
        refine .n (.stF (fun y x => { x with a.B7:=y }) a6f (.t j0) (.gs j0 .z6) .z4 (fun _ _=>j0) ?_)
        refine .q 7 hG ?_
        refine .e1 j0 j0 ?_
        refine⟨_,.cons .z4 (.cons .z5 (.cons .z6 (.nil))),?_⟩
        have hf:=a3s hc28
        have hfr:¬(a.P7=true):=by have h9:(!a.P7)=true:=hc62;simpa using h9
        rw [a8i hf (by simp at hc47;omega)]
        simp only [if_neg hfr]
        exact⟨w79,by trivial,rfl⟩
      · refine .q 2 hG ?_
        refine .a0w [j6,j6,j6,j6,j6,j6,j5] (by kernel_rfl) 18 [[],[],[(66,1)],[(67,2)],[(68,3)],[(69,4)],[],[],[],[(73,8)],[],[(75,10)],[(71,6),(72,7),(74,9),(76,11)],[(77,12)],[(70,5),(78,13)],[(65,0)],[(80,15)],[(81,16)]] [5,14] j0 (by kernel_rfl) j0 (by kernel_rfl) (by decide) ?_
        refine⟨_,fun H=>OpP.move (.t j0) j0,?_⟩
        refine⟨_,fun H=>OpP.move (.t j0) j0,?_⟩
        refine⟨_,fun H=>OpP.E3 (.t j0) j0,?_⟩
        refine⟨_,fun H=>OpP.P5 u7.l0 P1 j0 (.t j0) j0,?_⟩
        refine⟨_,fun H=>OpP.a2n y2.l4 a23 j0 (.t j0) j0,?_⟩
        refine .inl ?_
        refine⟨_,fun H=>OpP.ldP U0 (.t j0) j0,?_⟩
        refine⟨_,fun H=>OpP.ldP ty3 (.t j0) j0,?_⟩
        refine⟨_,fun H=>OpP.ldP a9m (.t j0) j0,?_⟩
        refine⟨_,fun H=>OpP.J7 hG (Q1 _ (by first|omega|(simp;done)|(simp;omega)|(simp at *;omega))) (.cons (.t j0) .nil) j0,?_⟩
        refine⟨_,fun H=>OpP.move (.t j0) j0,?_⟩
        refine⟨_,fun H=>OpP.J7 hG (Q1 _ (by first|omega|(simp;done)|(simp;omega)|(simp at *;omega))) (.cons (.t j0) .nil) j0,?_⟩
        refine⟨_,fun H=>OpP.bS4 y6.l0 y6.l1 y6.l2 y6.l3 j0 a7e c6w (fun c0 c1 c2 c3=>(⟨c0,c1,c2,c3⟩:y6)) (fun _ _ _ _=>j0) j0 j0 j0 j0 j0 (.t j0) (.t j0) (.t j0) (.t j0) j0,?_⟩
        refine⟨_,fun H=>OpP.a2p (α:=y6) a7e underlying44 (.cons (.t j0) .nil) j0 (by decide) j0,?_⟩
        refine .inl ?_
        refine⟨_,fun H=>OpP.E3 (.t j0) j0,?_⟩
        refine⟨_,fun H=>OpP.P5 u7.l0 P1 j0 (.t j0) j0,?_⟩
        refine⟨_,fun H=>OpP.a2n y2.l4 a23 j0 (.t j0) j0,?_⟩
        refine⟨⟨([],j7 [j4,j4,j4,j4,j4,j4,_]),j0⟩,?_⟩
        refine OpH.ofP (OpP.ldR (fun x=>x.a.B7) a6f (.t rfl) .z4 (fun _=>rfl) ?_)
        refine⟨⟨([],j7 [j4,j4,j4,j4,j4,j4,_]),j0⟩,?_⟩
        refine OpH.a5i c7R (.inl ⟨_,underlying44⟩) rfl .z6 (.v (.c rfl)) (by first|omega|(simp;done)|(simp;omega)|(simp at *;omega)) (by first|omega|(simp;done)|(simp;omega)|(simp at *;omega)) fun w79 => ?_
        refine⟨⟨([],j7 [j4,j4,j4,j4,j4,j4,_]),j0⟩,?_⟩
        show wpB _ _ _ _ _ [_] ((82,_)::(81,_)::(80,_)::(79,_)::(78,_)::(77,_)::(76,_)::(75,_)::(74,_)::(73,_)::(72,_)::(71,_)::(70,_)::(69,_)::(68,_)::(67,_)::(66,_)::(65,_)::_) _
        refine .n (.stF (fun y x => { x with a.B7:=y }) a6f (.t j0) (.gs j0 .z6) .z4 (fun _ _=>j0) ?_)
        refine .q 7 hG ?_
        refine .e1 j0 j0 ?_
        refine⟨_,.cons .z4 (.cons .z5 (.cons .z6 (.nil))),?_⟩
        have hf:=a3s hc28
        have hfr:a.P7=true:=by have h9:(!a.P7)=false:=hc62;simpa using h9
        rw [a8i hf (by simp at hc47;omega)]
        simp only [if_pos hfr]
        exact⟨w79,by trivial,rfl⟩
theorem a6y (a:F1)(e:Int)(k:Tag)(n:Int)(p rb:List UInt8):(P0 a e k n p rb).2.1.G4=a.G4:=by
 unfold P0;split
 ·rfl
 ·split
  ·rfl
  ·split<;>rfl
theorem c74 (w:Value)(x:MkU)(k:Tag)(n:Int)(p rb:List UInt8)(he:x.e=0)(hl:x.a.B7.length≤1000000)(hp:p.length≤256)(hrb:rb.length≤1000)(hbx:∀ y∈x.a.B7,y.O8.length≤1000000) :
    C6 gl prog 142 [mp w,.v k,.v n,.v p,.c2c prog (.v rb)] [.P4 w x] (fun r Hs=>∃ x':MkU,Hs = [.P4 w x']∧r = .v (P0 x.a x.e k n p rb).1∧x'.a=(P0 x.a x.e k n p rb).2.1∧x'.e=(P0 x.a x.e k n p rb).2.2):=by
  rw [he]
  refine C6.mk (post:=fun r x'=>r = .v (P0 x.a 0 k n p rb).1∧x'.a=(P0 x.a 0 k n p rb).2.1∧x'.e=(P0 x.a 0 k n p rb).2.2) ?_
  have h:=c5G w x.a x.um x.ub (gsM x.um x.a) k n p rb hl hp hrb hbx
  have e:x.bs w = [.ob w (a2D x.a 0 x.um x.ub),gsM x.um x.a,gsB x.ub x.a]:=by unfold MkU.bs;rw [he]
  rw [e]
  exact h.mono fun r Hs ⟨ub',h1,h2⟩=>⟨⟨_,_,x.um,ub'⟩,by rw [h2];unfold MkU.bs gsM;rw [a6y],h1,rfl,rfl⟩
theorem a8j (w:Value)(x:MkU)(k:Tag)(n:Int)(p rb:List UInt8)(he:x.e≠0) :
    C6 gl prog 142 [mp w,.v k,.v n,.v p,.any] [.P4 w x] (fun r Hs=>∃ x':MkU,Hs = [.P4 w x']∧r = .v (P0 x.a x.e k n p rb).1∧x'.a=(P0 x.a x.e k n p rb).2.1∧x'.e=(P0 x.a x.e k n p rb).2.2) :=
  C6.mk (post:=fun r x'=>r = .v (P0 x.a x.e k n p rb).1∧x'.a=(P0 x.a x.e k n p rb).2.1∧x'.e=(P0 x.a x.e k n p rb).2.2)
    ((c5F w x.a x.e x.um x.ub (gsM x.um x.a) (gsB x.ub x.a) k n p he).mono fun r Hs ⟨h1,h2⟩=>⟨x,h2,by rw [a2Y he];exact h1,by rw [a2Y he],by rw [a2Y he]⟩)
theorem c0a (w:Value)(s:u7)(e:Int)(B1 B2:C3):C6 gl prog 87 [mp w,.v e] [.ob w s,B1,B2] (fun r Hs=>Hs = [.ob w { s with e:=if s.e=0 then e else s.e },B1,B2]):=by
 refine C6.jn func87 (by kernel_rfl) 13 rfl fun C hC hG => ?_
 refine .q 9 hG ⟨fun hc8 => ?_,fun hc8 => ?_⟩
 ·refine .q 7 hG ?_
  refine⟨_,.r0 j0,?_⟩
  have h8:s.e=0:=hc8
  rw [if_pos h8];rfl
 ·refine .q 1 hG ?_
  refine⟨_,.r0 j0,?_⟩
  have h8:¬s.e=0:=hc8
  rw [if_neg h8];rfl
theorem a9z (w:Value)(x:MkU)(e:Int):C6 gl prog 87 [mp w,.v e] [.P4 w x] (fun r Hs=>∃ x':MkU,Hs = [.P4 w x']∧x'.a=x.a∧x'.e=if x.e=0 then e else x.e) :=
 C6.mk (post:=fun r x'=>x'.a=x.a∧x'.e=if x.e=0 then e else x.e)
  ((show C6 gl prog 87 [mp w,.v e] (x.bs w) _ from c0a w (a2D x.a x.e x.um x.ub) e (gsM x.um x.a) (gsB x.ub x.a)).mono fun r Hs h=>⟨⟨x.a,if x.e=0 then e else x.e,x.um,x.ub⟩,h,rfl,rfl⟩)
theorem b6V (k:Tag)(nonce:UInt64)(i:Nat):a3J k (W5 nonce 8) i=a3b k nonce i:=by
 unfold a3J a3b a2P b4I
 have e:UInt64.ofInt ((i/32:Nat):Int)=UInt64.ofNat (i/32):=by
  apply UInt64.toNat_inj.1
  simp [UInt64.ofInt];omega
 rw [List.append_assoc,e]
theorem a8Q (k:Tag)(nonce:UInt64)(p:List UInt8)(m:Nat):a2O (a3J k (W5 nonce 8)) p m=a1C k nonce p m:=by
 unfold a2O a1C
 rw [show a3J k (W5 nonce 8)=a3b k nonce from funext fun i=>b6V k nonce i]
theorem c5H (k:Tag)(n:Int)(p:List UInt8)(hn0:0≤n)(hn1:n≤281474976710656)(hp:p.length≤256):C4 gl prog 143 [.p n,.p k,.p p] (fun r=>r = .v (M5 k n p)):=by
 refine C4.jn func143 (by kernel_rfl) 21 rfl fun C hC hG => ?_
 refine .q 7 hG ?_
 refine .k0 hG (a8P _ (by first|omega|(simp;done)|(simp;omega)|(simp at *;omega)) (by first|omega|(simp;done)|(simp;omega)|(simp at *;omega))) fun r8 Hs8 hr8 => ?_
 obtain⟨u8,rfl,rfl⟩:=hr8
 show wpB _ _ _ _ _ _ _ ((true,_)::_)
 refine .q 3 hG ?_
 have hb2:=K8 (UInt64.ofInt n) 8
 have hx3:=a3t (a3J k (W5 (UInt64.ofInt n) 8)) p p.length
 refine .q 5 hG ?_
 refine .h (.lend0 hG (b8O _ _ _ (by first|omega|(simp;done)|(simp;omega)|(simp at *;omega)) (by first|omega|(simp;done)|(simp;omega)|(simp at *;omega))) (.cons (.e (.t j0)) (.cons (.own j0 .z) (.cons (.e (.t j0)) .nil))) (by rintro _ _ ⟨u,rfl,rfl⟩;exact .own) fun r13 Hs13 hr13 => ?_)
 obtain⟨u13,rfl,rfl⟩:=hr13
 show wpB _ _ _ _ _ _ _ ((true,_)::_)
 refine .h (.append c2E (.inl ⟨_,underlying34⟩) j0 .z1 (.own j0 .z) (by first|omega|(simp;done)|(simp;omega)|(simp at *;omega)) (by first|omega|(simp;done)|(simp;omega)|(simp at *;omega)) (fun w14 => .ag j0 ?_) j0)
 refine .q 3 hG ?_
 refine .p (.ldP U0 (.t j0) (.mv j0 (.p (.c1Y hG (b0A _ _ (by first|omega|(simp;done)|(simp;omega)|(simp at *;omega))) (.cons (.e (.t j0)) (.cons (.own j0 .z1) .nil)) (by first|exact .v|exact .t2 .v .v|exact .t3 .v .v .v) ?_))))
 refine .q 1 hG fun b6 => ?_
 refine .q 3 hG ?_
 refine .U2 hC .z (.asP 6 j0 .z ?_)
 refine .q 2 hG ?_
 refine .p (.a1W (by decide) a1s (.t j0) ?_)
 refine .ap (by first|omega|(simp;done)|(simp;omega)|(simp at *;omega)) (by first|omega|(simp;done)|(simp;omega)|(simp at *;omega)) fun w20 => ?_
 refine .q 2 hG ?_
 refine .Q7 hC .z2 (.as 3 j0 .z2 ?_)
 refine .q 1 hG ?_
 refine .e1 j0 j0 ?_
 rw [a8Q];rfl
theorem c5I (w:Value)(x:MkU)(k:Tag)(n:Int)(p rb:List UInt8)(hl:x.a.B7.length≤1000000)(hp:p.length≤256)(hrb:rb.length≤1000)(hbx:∀ y∈x.a.B7,y.O8.length≤1000000) :
    C6 gl prog 142 [mp w,.v k,.v n,.v p,.c2c prog (.v rb)] [.P4 w x] (fun r Hs=>∃ x':MkU,Hs = [.P4 w x']∧r = .v (P0 x.a x.e k n p rb).1∧x'.a=(P0 x.a x.e k n p rb).2.1∧x'.e=(P0 x.a x.e k n p rb).2.2):=by
  by_cases he:x.e=0
  · exact c74 w x k n p rb he hl hp hrb hbx
  · intro I L vs hG hvs hL
    refine a8j w x k n p rb he I L vs hG ?_ hL
    obtain⟨v1,r1,rfl,q1,v2,r2,rfl,q2,v3,r3,rfl,q3,v4,r4,rfl,q4,v5,r5,rfl,q5,q6⟩:=hvs
    exact⟨v1,_,j0,q1,v2,_,j0,q2,v3,_,j0,q3,v4,_,j0,q4,v5,_,j0,trivial,q6⟩
def R5 (e n:Int)(p:List UInt8):Int:=if n < 0∨281474976710656 < n then (if e=0 then 1 else e) else if 256 < p.length then (if e=0 then 2 else e) else e
theorem a0y (k:Tag)(n:Int)(p:List UInt8):(M5 k n p).length=p.length+40:=by
 simp [M5,a0d,K8,a3c,(a3h k.l _).len];omega
theorem c2W (w:Value)(x:MkU)(k:Tag)(n:Int)(p:List UInt8)(hl:x.a.B7.length≤1000000)(hbx:∀ y∈x.a.B7,y.O8.length≤1000000) :
    C6 gl prog 88 [mp w,.v k,.v n,.v p] [.P4 w x] (fun r Hs=>∃ x':MkU,Hs = [.P4 w x']∧r = .v (P0 x.a (R5 x.e n p) k n p (M5 k n p)).1∧x'.a=(P0 x.a (R5 x.e n p) k n p (M5 k n p)).2.1∧x'.e=(P0 x.a (R5 x.e n p) k n p (M5 k n p)).2.2):=by
  refine C6.a0k func88 rfl (by kernel_rfl) 30 rfl rfl _ rfl _ rfl fun C hC hG => ?_
  refine .q 3 hG fun b5 => ?_
  refine .q 1 hG fun b6 => ?_
  refine .q 1 hG fun b7 => ?_
  refine .q 5 hG ?_
  refine .U2 hC .z2 (.asP 5 j0 .z2 (.U2 hC .z1 (.asP 6 j0 .z1 (.U2 hC .z (.asP 7 j0 .z ?_)))))
  refine .q 9 hG ?_
  refine .cond (.t j0) (fun hc9 => ?_) (fun hc9 => ?_)
  · refine .q 2 hG ?_
    refine .km hG (a9z _ _ _) .z3 (by rintro _ _ ⟨_,rfl,_⟩;exact⟨_,rfl⟩) fun r17 B17 hr17 => ?_
    obtain⟨x17,hB,ha17,he17⟩:=hr17
    cases hB
    have hne:x17.e≠0:=by rw [he17];split<;>omega
    refine .q 7 hG ?_
    refine .p (.c6H (.cons (.t j0) (.cons (.t j0) (.cons (.t j0) .nil))) ?_)
    refine .km hG (a8j _ _ _ _ _ (M5 k n p) ‹_›) .z3 (by rintro _ _ ⟨_,rfl,_⟩;exact⟨_,rfl⟩) fun r29 B29 hr29 => ?_
    obtain⟨x29,hB,rfl,ha29,he29⟩:=hr29
    cases hB
    refine .q 3 hG ?_
    refine .e1 j0 j0 ?_
    refine⟨_,.cons .z3 (.nil),?_⟩
    have e:R5 x.e n p=x17.e:=by rw [he17];unfold R5;rw [if_pos (by simpa using hc9)]
    rw [e,←ha17];exact⟨x29,rfl,rfl,ha29,he29⟩
  · refine .q 8 hG ⟨fun hc18 => ?_,fun hc18 => ?_⟩
    · refine .q 2 hG ?_
      refine .km hG (a9z _ _ _) .z3 (by rintro _ _ ⟨_,rfl,_⟩;exact⟨_,rfl⟩) fun r23 B23 hr23 => ?_
      obtain⟨x23,hB,ha23,he23⟩:=hr23
      cases hB
      have hne:x23.e≠0:=by rw [he23];split<;>omega
      refine .q 7 hG ?_
      refine .p (.c6H (.cons (.t j0) (.cons (.t j0) (.cons (.t j0) .nil))) ?_)
      refine .km hG (a8j _ _ _ _ _ (M5 k n p) ‹_›) .z3 (by rintro _ _ ⟨_,rfl,_⟩;exact⟨_,rfl⟩) fun r29 B29 hr29 => ?_
      obtain⟨x29,hB,rfl,ha29,he29⟩:=hr29
      cases hB
      refine .q 3 hG ?_
      refine .e1 j0 j0 ?_
      refine⟨_,.cons .z3 (.nil),?_⟩
      have e:R5 x.e n p=x23.e:=by rw [he23];unfold R5;rw [if_neg (by simp at hc9;omega),if_pos (by omega)]
      rw [e,←ha23];exact⟨x29,rfl,rfl,ha29,he29⟩
    · refine .q 7 hG ?_
      refine .p (.c7x hG (c5H k n p (by simp at hc9;omega) (by simp at hc9;omega) (by omega)) (.cons (.t j0) (.cons (.t j0) (.cons (.t j0) .nil))) ?_)
      refine .km hG (c5I _ _ _ _ _ (M5 k n p) hl (by omega) (by rw [a0y];omega) hbx) .z3 (by rintro _ _ ⟨_,rfl,_⟩;exact⟨_,rfl⟩) fun r29 B29 hr29 => ?_
      obtain⟨x29,hB,rfl,ha29,he29⟩:=hr29
      cases hB
      refine .q 3 hG ?_
      refine .e1 j0 j0 ?_
      refine⟨_,.cons .z3 (.nil),?_⟩
      have e:R5 x.e n p=x.e:=by unfold R5;rw [if_neg (by simp at hc9;omega),if_neg (by omega)]
      rw [e];exact⟨x29,rfl,rfl,ha29,he29⟩
theorem b4V (a : F1)(k : Tag)(n : Int)(p : List UInt8) : (if (P0 a (R5 0 n p) k n p (M5 k n p)).2.2 ≠ 0 then (default, [], (P0 a (R5 0 n p) k n p (M5 k n p)).2.2) else
    ((P0 a (R5 0 n p) k n p (M5 k n p)).2.1,(P0 a (R5 0 n p) k n p (M5 k n p)).1,0))=Z9 a k n p:=by
  unfold Z9 R5
  by_cases h1:n < 0∨281474976710656 < n
  · simp only [if_pos h1,if_true];rw [a2Y (by decide)];simp
  · simp only [if_neg h1]
    by_cases h2:256 < p.length
    · simp only [if_pos h2,if_true];rw [a2Y (by decide)];simp
    · simp only [if_neg h2]
      cases hf:a.B7.find? (Z0 k n p) with
      | some x =>
        have e:P0 a 0 k n p (M5 k n p)=(x.O8,a,0):=by unfold P0;rw [if_neg (by decide),hf]
        rw [e];rfl
      | none =>
        by_cases h3:65536≤a.B7.length
        · rw [b0B hf h3];simp only [if_pos h3];rfl
        · rw [a8i hf h3];simp only [if_neg h3];rfl
def D5 (n:Nat):List UInt8:=if n < 128 then [UInt8.ofNat n] else UInt8.ofNat (n % 128+128)::D5 (n/128)
termination_by n
theorem a3u {n:Nat}(h:n < 128):D5 n = [UInt8.ofNat n]:=by rw [D5,if_pos h]
theorem a9A {n:Nat}(h:¬n < 128):D5 n=UInt8.ofNat (n % 128+128)::D5 (n/128):=by rw [D5,if_neg h]
theorem a5t (k n:Nat)(h:n < 128^(k+1)):(D5 n).length≤k+1:=by
 induction k generalizing n with
 | zero=>rw [a3u (by simpa using h)];simp
 | succ k ih =>
  by_cases h1:n < 128
  ·rw [a3u h1];simp
  ·rw [a9A h1,List.length_cons]
   have:=ih (n/128) (by rw [Nat.pow_succ] at h;omega)
   omega
theorem H4 {n:Nat}(h:n≤281474976710656):(D5 n).length≤7:=a5t 6 n (by omega)
theorem b0C (n:Nat):0 < (D5 n).length:=by
 rw [D5];split<;>simp
theorem c2X (n:Nat):n &&& 127=n % 128:=Nat.and_two_pow_sub_one_eq_mod n 7
theorem d0O {n:Nat}(h:n < 128):n ||| 128=n+128:=by
 have:=Nat.two_pow_add_eq_or_of_lt (i:=7) (b:=n) (by simpa using h) 1
 rw [Nat.or_comm];simpa [Nat.add_comm] using this.symm
theorem b0D (n:Nat):UInt8.ofInt (n:Int)=UInt8.ofNat n:=by apply UInt8.toNat_inj.1;simp [UInt8.ofInt];omega
def b6W (n:Int):Bool:=decide (n < 0)||decide (281474976710656 < n)
theorem b3f {n:Int}(h0:0≤n)(h1:n≤281474976710656):b6W n=false:=by unfold b6W;simp;omega
theorem a5u (b:List UInt8)(hb:b.length≤1000000):C6 gl prog 234 [.v b] [] (fun r Hs=>∃ u,r = .raw u∧Hs = [.own 5 u b]):=by
 refine C6.a0k func234 rfl (by kernel_rfl) 8 rfl rfl _ rfl _ rfl fun C hC hG => ?_
 refine .q 2 hG ?_
 refine .p (.assign .raw ?_)
 refine .q 5 hG ?_
 refine .p (.b0c underlying34 (.t j0) fun c4 hn4 => ?_)
 refine .q 1 hG ?_
 refine .cond (.t j0) (fun hc4 => ?_) (fun hc4 => ?_)
 ·refine .q 2 hG ?_
  refine .p (.assign .raw ?_)
  refine .q 1 hG ?_
  refine .a78 5 UInt8 ?_
  refine .q 1 hG ?_
  refine .e1 j0 j0 ?_
  refine⟨_,.cons .z (.nil),?_⟩
  rw [hn4 hc4];exact⟨_,rfl,rfl⟩
 ·refine .q 3 hG ?_
  refine .h (.buildSlice (α:=UInt8) ty5 underlying34 .nil j0 (by decide) fun b5 => ?_)
  refine .q 1 hG ?_
  refine .ap (by first|omega|(simp;done)|(simp;omega)|(simp at *;omega)) (by first|omega|(simp;done)|(simp;omega)|(simp at *;omega)) fun w7 => ?_
  refine .q 3 hG ?_
  refine .e1 j0 j0 ?_
  refine⟨_,.cons .z (.nil),?_⟩
  rw [List.nil_append];exact⟨w7,rfl,rfl⟩
theorem d2W (k:Nat):((k:Int) >>> (7:Nat))=((k/128:Nat):Int):=by rw [Int.shiftRight_eq_div_pow];rfl
theorem a0i (b:List UInt8)(n:Int)(hb:b.length≤900000)(h0:0≤n)(h1:n≤281474976710656):C6 gl prog 197 [.v b,.v n] [] (fun r Hs=>∃ u,r = .t2 (.raw u) (.v (0:Int))∧Hs = [.own 5 u (b++D5 n.toNat)]):=by
 have hlen:=H4 (n:=n.toNat) (by omega)
 refine C6.c2i func197 rfl (by kernel_rfl) 31 rfl rfl _ rfl _ rfl fun C hC hG => ?_
 refine .q 2 hG ?_
 refine .p (.assign .raw ?_)
 refine .q 12 hG ?_
 refine .cond (.t j0) (fun hc12=>(by exfalso;have hbad:=b3f h0 h1;unfold b6W at hbad;rw [hbad] at hc12;cases hc12)) (fun hc12 => ?_)
 refine .q 4 hG ?_
 refine .k0 hG (a5u _ (by first|omega|(simp;done)|(simp;omega)|(simp at *;omega))) fun r14 Hs14 hr14 => ?_
 obtain⟨u14,rfl,rfl⟩:=hr14
 show wpB _ _ _ _ _ _ _ ((true,_)::_)
 refine .q 4 hG ?_
 refine .a0Y (α:=Nat×Value×List UInt8) [] (fun x R=>(1,.v (x.1:Int))::(6,.raw x.2.1)::R) (fun x => [(true,.own 5 x.2.1 x.2.2)]) (fun x=>x.2.2++D5 x.1=b++D5 n.toNat) (fun x=>x.1) ((n.toNat,u14,b)) (.nil _) ?_ (.cons (congrArg (fun q=>some (AV.v q)) (by dsimp only;omega)) (.cons j0 (.nil _))) (j0) fun x hF => ?_
 ·rfl
 obtain⟨k,w,l⟩:=x
 dsimp only at hF ⊢
 have hl9:=congrArg List.length hF
 rw [List.length_append,List.length_append] at hl9
 have hk9:=b0C k
 refine .q 7 hG ⟨fun hc16 => ?_,fun hc16 => ?_⟩
 ·refine .q 3 hG ?_
  have hb6:=c2X k;have hc6:k % 128 < 128:=Nat.mod_lt _ (by decide)
  refine .q 3 hG ?_
  refine .p (.c9S (.t j0) (.i j0) (by first|omega|(simp;done)|(simp;omega)|(simp at *;omega)) (by first|omega|(simp;done)|(simp;omega)|(simp at *;omega)) (.p (.orI (.t j0) (.i j0) (by first|omega|(simp;done)|(simp;omega)|(simp at *;omega)) (by first|omega|(simp;done)|(simp;omega)|(simp at *;omega)) ?_)))
  refine .q 1 hG ?_
  refine .bs j0 (by decide) fun b24 => ?_
  refine .ap (by first|omega|(simp;done)|(simp;omega)|(simp at *;omega)) (by first|omega|(simp;done)|(simp;omega)|(simp at *;omega)) fun w25 => ?_
  refine .q 1 hG ?_
  refine .drop ?_
  refine .q 3 hG ?_
  refine .p (.c6L (.t j0) (.u64 7 j0) (by decide) ?_)
  refine .q 2 hG ?_
  refine⟨(k/128,w25,_),.cons (congrArg (fun q=>some (AV.v q)) (d2W k)) (.cons rfl (.nil _)),rfl,?_,by dsimp only;omega⟩
  dsimp only;rw [←hF,a9A (n:=k) (by omega),List.append_assoc];show l++([UInt8.ofInt (((k &&& 127) ||| 128:Nat):Int)]++D5 (k/128))=_;rw [c2X,d0O (Nat.mod_lt _ (by decide)),b0D];rfl
 ·refine .q 6 hG ?_
  refine .bs j0 (by decide) fun b29 => ?_
  refine .ap (by first|omega|(simp;done)|(simp;omega)|(simp at *;omega)) (by first|omega|(simp;done)|(simp;omega)|(simp at *;omega)) fun w30 => ?_
  refine .q 4 hG ?_
  refine .e2 j0 j0 j0 ?_
  exact⟨1,_,rfl,by rw [←hF,a3u (n:=k) (by omega),←b0D];rfl⟩
theorem b1W (b x:List UInt8)(hb:b.length≤800000)(hx:x.length≤1024):C6 gl prog 198 [.v b,.v x] [] (fun r Hs=>∃ u,r = .t2 (.raw u) (.v (0:Int))∧Hs = [.own 5 u (b++D5 x.length++x)]):=by
 have hlen:=H4 (n:=x.length) (by omega)
 refine C6.a0k func198 rfl (by kernel_rfl) 22 rfl rfl _ rfl _ rfl fun C hC hG => ?_
 refine .q 12 hG ?_
 refine .a0q (.t j0) (fun hc10=>(by exfalso;omega)) (fun hc10 => ?_)
 refine .q 6 hG ?_
 refine .k0 hG (a0i _ _ (by first|omega|(simp;done)|(simp;omega)|(simp at *;omega)) (by first|omega|(simp;done)|(simp;omega)|(simp at *;omega)) (by first|omega|(simp;done)|(simp;omega)|(simp at *;omega))) fun r15 Hs15 hr15 => ?_
 obtain⟨u15,rfl,rfl⟩:=hr15
 show wpB _ _ _ _ _ _ _ ((true,_)::_)
 refine .q 10 hG ?_
 refine .ap (by first|omega|(simp;done)|(simp;omega)|(simp at *;omega)) (by first|omega|(simp;done)|(simp;omega)|(simp at *;omega)) fun w20 => ?_
 refine .q 5 hG ?_
 refine .e2 j0 j0 j0 ?_
 refine⟨_,.cons .z (.nil),?_⟩
 exact⟨_,j0,j0⟩
theorem a9B (b x:List UInt8)(hb:b.length≤800000)(hx:x.length≤1024):C4 gl prog 198 [.v b,.v x] (fun r=>r = .t2 (.v (b++D5 x.length++x)) (.v (0:Int))):=(b1W b x hb hx).b9E
abbrev Pred:=o6
def a3K (m:UInt64)(n:Int):Bool:=decide (m≠0)&&(decide (n=64)||decide (m >>> UInt64.ofNat n.toNat=0))
theorem b6X (m:UInt64)(n:Int)(h0:0≤n)(h1:n≤64):C4 gl prog 266 [.v m,.v n] (fun r=>r = .v (a3K m n)):=by
 refine C4.jn func266 (by kernel_rfl) 17 rfl fun C hC hG => ?_
 refine .q 11 hG ?_
 refine .goU 7 j0 (.t j0) (fun hg10 => .move (.q j0 hg10) j0) (.gn 10 j0 j0 (fun hc11 hg11 => .move (.t j0) j0) (.gn 10 j0 j0 (fun hc12 hg12 => .move (.t j0) j0) (.gn 10 j0 j0 (fun hc13 hg13 => .b6z (.ou j0 (Bool.and_eq_true_iff.2 ⟨hc13,beq_iff_eq.2 hg13⟩)) (.ou j0 (Bool.and_eq_true_iff.2 ⟨hc13,beq_iff_eq.2 hg13⟩)) (by first|omega|(simp;done)|(simp;omega)|(have:=hg13;simp at this;omega)) (by first|omega|(simp;done)|(simp;omega)|(have:=hg13;simp at this;omega)) j0) (.gn 10 j0 j0 (fun hc14 hg14 => .c6B (.ou j0 (Bool.and_eq_true_iff.2 ⟨hc14,beq_iff_eq.2 hg14⟩)) (.u64 0 j0) j0) (.go 7 j0 (.t j0) (fun hg15 => .b6r (.ou j0 (beq_iff_eq.2 hg15)) (fun hp=>(.ou j0 (Bool.and_eq_true_iff.2 ⟨(beq_iff_eq.2 hg15),beq_iff_eq.2 hp⟩))) j0) ?_)))))
 refine .q 4 hG ?_
 refine .e1 j0 j0 ?_
 rfl
theorem a6z (s:Str):C4 gl prog 267 [.v s] (fun r=>r = .v (a0n s)):=by
 refine C4.jn func267 (by kernel_rfl) 28 rfl fun C hC hG => ?_
 refine .q 6 hG ?_
 refine .b1E 0 j0 fun hs => ?_
 refine .q 10 hG ?_
 refine .cond (.t j0) (fun hc11 => ?_) (fun hc11 => ?_)
 ·refine .q 5 hG ?_
  refine .e1 j0 j0 ?_
  refine congrArg AV.v ?_;simp only [Bool.or_eq_true,decide_eq_true_eq] at hc11;unfold a0n;rcases hc11 with h|h
  ·rw [decide_eq_false (show ¬1≤s.l.length by omega)];rfl
  ·rw [decide_eq_false (show ¬s.l.length≤16 by omega)];simp
 ·refine .q 9 hG ?_
  refine .a0Y (α:=Nat) [(0,_),(13,_)] (fun k R=>(14,.v (k:Int))::R) (fun k => []) (fun k=>k≤s.l.length∧(s.l.take k).all a4r=true) (fun k=>s.l.length - k) (0) (.c2 j0 j0 (.nil _)) ?_ (.c2 j0 j0 (.cons j0 (.nil _))) (j0) fun k hF => ?_
  ·simp
  obtain⟨h1,h2⟩:=hF
  refine .q 6 hG ⟨fun hc15 => ?_,fun hc15 => ?_⟩
  ·refine .q 12 hG ?_
   refine .p (.b8s underlying9 (.t j0) (.t j0) (by first|omega|(simp;done)|(simp;omega)|(simp at *;omega)) (by first|omega|(simp;done)|(simp;omega)|(simp at *;omega)) ?_)
   refine .q 4 hG ?_
   refine .go 21 j0 (.t j0) (fun hg24 => .b8s underlying9 (.q j0 hg24) (.q j0 hg24) (by first|omega|(simp;done)|(simp;omega)|(have:=hg24;simp at this;omega)) (by first|omega|(simp;done)|(simp;omega)|(have:=hg24;simp at this;omega)) j0) ?_
   refine .q 3 hG ?_
   refine .cond (.t j0) (fun hc26 => ?_) (fun hc26 => ?_)
   ·refine .q 5 hG ?_
    refine .e1 j0 j0 ?_
    refine congrArg AV.v (Eq.symm ?_);unfold a0n;rw [c2H a4r s.l k (by omega),Bool.and_false];unfold a4r;simp only [Bool.or_eq_true,decide_eq_true_eq,Int.toNat_natCast] at hc26;rcases hc26 with h|h
    ·rw [decide_eq_false (UInt8.not_le.2 h)];rfl
    ·rw [decide_eq_false (UInt8.not_le.2 h),Bool.and_false]
   ·refine .q 2 hG ?_
    refine .ad (by first|omega|(simp;done)|(simp;omega)|(simp at *;omega)) (by first|omega|(simp;done)|(simp;omega)|(simp at *;omega)) ?_
    refine .q 2 hG ?_
    refine⟨k+1,.c2 rfl rfl (.cons rfl (.nil _)),rfl,?_,by omega⟩
    refine⟨by omega,?_⟩;rw [all_succ _ _ _ (by omega),h2];simp only [Bool.or_eq_false_iff,decide_eq_false_iff_not,Int.toNat_natCast] at hc26;unfold a4r;simp only [Bool.true_and,Bool.and_eq_true,decide_eq_true_eq];exact⟨UInt8.not_lt.1 hc26.1,UInt8.not_lt.1 hc26.2⟩
  ·refine .q 6 hG ?_
   refine .e1 j0 j0 ?_
   refine congrArg AV.v (Eq.symm ?_);simp only [Bool.or_eq_false_iff,decide_eq_false_iff_not] at hc11;unfold a0n;rw [List.take_of_length_le (by omega)] at h2;rw [h2];simp;omega
def c2Y (k:Int):Int:=if k=1 then 64 else if k=2 then 32 else 7
def I9 (p:Pred):Bool :=
 if p.Kind=1∨p.Kind=2∨p.Kind=3 then a3K p.Mask (c2Y p.Kind)&&decide (p=⟨p.Kind,p.Mask,0,0,⟨[]⟩,0⟩)
 else if p.Kind=4 then decide (0≤p.a00)&&decide (p.a00≤p.To)&&decide (p.To≤67108864)&&decide (p=⟨p.Kind,0,p.a00,p.To,⟨[]⟩,0⟩)
 else if p.Kind=5 then decide (0≤p.a00)&&decide (p.a00 < 1440)&&decide (0≤p.To)&&decide (p.To < 1440)&&decide (p=⟨p.Kind,0,p.a00,p.To,⟨[]⟩,0⟩)
 else if p.Kind=6 then a0n p.Name&&decide (p=⟨p.Kind,0,0,0,p.Name,0⟩)
 else if p.Kind=7 then decide (0≤p.Number)&&decide (p.Number≤1000000)&&decide (p=⟨p.Kind,0,0,0,⟨[]⟩,p.Number⟩)
 else false
theorem a18:∀ (i:Nat) (h:i < a7f.l.length),0≤a7f.l[i]∧a7f.l[i]≤64:=by decide
theorem W0 (k:Int)(h:k=1∨k=2∨k=3)(h2:k.toNat < a7f.l.length):a7f.l[k.toNat]=c2Y k:=by
 rcases h with rfl|rfl|rfl<;>rfl
theorem a5v (p:Pred):C4 gl prog 259 [.v p] (fun r=>r = .v (I9 p)):=by
 refine C4.jn func259 (by kernel_rfl) 118 rfl fun C hC hG => ?_
 refine .q 3 hG fun b1 => ?_
 refine .q 3 hG ?_
 refine .U2 hC .z (.asP 1 j0 .z ?_)
 refine .q 3 hG ?_
 refine .p (.bS1 o6.l0 j0 a6d c1T (fun c0=>(⟨c0,0,0,0,⟨[]⟩,0⟩:o6)) (fun _=>j0) j0 j0 (.t j0) ?_)
 refine .q 1 hG fun b3 => ?_
 refine .q 16 hG ⟨fun hc9 => ?_,fun hc9 => ?_⟩
 ·refine .q 2 hG ⟨fun hc9 => ?_,fun hc9 => ?_⟩
  ·refine .q 8 hG ?_
   refine .draw (by kernel_rfl) 13 [[],[(16,0)],[],[(18,2)],[(19,3)],[(20,4)],[(17,1),(21,5)],[(22,6)],[],[],[(24,8),(25,9)],[(23,7),(26,10)],[(27,11)]] j0 (by kernel_rfl) j0 ?_
   refine⟨_,OpP.a0Z o6.l1 (fun x=>x.Mask) a9p j0 (fun _=>j0) (.t j0) j0,?_⟩
   refine⟨_,OpP.ldP b8F (.t j0) j0,?_⟩
   refine⟨_,OpP.a0Z o6.l0 (fun x=>x.Kind) a9o j0 (fun _=>j0) (.t j0) j0,?_⟩
   refine⟨_,OpP.ldP ty3 (.t j0) j0,?_⟩
   refine⟨_,OpP.c7t c1V (.c7r hG a1B) (.t j0) (by first|omega|(simp;done)|(simp;omega)|(simp at *;omega)) (by first|omega|(simp;done)|(simp;omega)|(simp at *;omega)) j0,?_⟩
   refine⟨_,OpP.ldP ty3 (.t j0) j0,?_⟩
   refine⟨_,OpP.J7 hG (b6X _ _ (a18 _ _).1 (a18 _ _).2) (.cons (.t j0) (.cons (.t j0) .nil)) j0,?_⟩
   refine⟨_,OpP.move (.t j0) j0,?_⟩
   refine⟨_,⟨_,_,j0,j0,fun hg24=>OpP.ldP a6d (.t j0) j0⟩,?_⟩
   refine⟨_,⟨_,_,j0,j0,fun hg25=>OpP.ldW a6d (.t j0) .z j0⟩,?_⟩
   refine⟨_,⟨_,_,j0,j0,fun hg26=>OpP.a5l a0x (by decide) j0 (by kernel_rfl) (.q j0 hg26) (.q j0 hg26) j0⟩,?_⟩
   refine⟨_,OpP.a2I (.t j0) (fun hp=>(.q j0 hp)) j0,?_⟩
   refine⟨_,OpP.assign (.t j0) j0,?_⟩
   show wpB _ _ _ _ _ [] ((2,_)::(27,_)::(26,_)::(25,_)::(24,_)::(23,_)::(22,_)::(21,_)::(20,_)::(19,_)::(18,_)::(17,_)::(16,_)::_) _
   refine .q 2 hG ?_
   refine .e1 j0 j0 ?_
   first|(exfalso;omega)|(refine congrArg AV.v ?_;(try rw [W0 p.Kind (by omega)]);unfold I9;(repeat (first|rw [if_pos (by omega)]|rw [if_neg (by omega)]));(try rfl))
  ·refine .q 6 hG ⟨fun hc28 => ?_,fun hc28 => ?_⟩
   ·refine .q 1 hG ?_
    refine .a0w [j5,j6] (by kernel_rfl) 8 [[],[(30,0)],[],[(32,2)],[],[(34,4),(31,1)],[],[(35,6),(33,3)]] [5,7] j0 (by kernel_rfl) j0 (by kernel_rfl) (by decide) ?_
    refine⟨_,fun H=>OpP.a0Z o6.l2 (fun x=>x.a00) a0F j0 (fun _=>j0) (.t j0) j0,?_⟩
    refine⟨_,fun H=>OpP.ldP ty3 (.t j0) j0,?_⟩
    refine⟨_,fun H=>OpP.a0Z o6.l3 (fun x=>x.To) a0G j0 (fun _=>j0) (.t j0) j0,?_⟩
    refine⟨_,fun H=>OpP.ldP ty3 (.t j0) j0,?_⟩
    refine⟨_,fun H=>OpP.P5 o6.l2 a0F j0 (.t j0) j0,?_⟩
    refine .inl ?_
    refine⟨_,fun H=>OpP.P5 o6.l3 a0G j0 (.t j0) j0,?_⟩
    refine .inl ?_
    refine⟨⟨([],j7 [_,j4]),j0⟩,?_⟩
    refine OpH.stF (fun y x => { x with a00:=y }) ty3 (.t rfl) (.t rfl) .z (fun _ _=>rfl) ?_
    refine⟨⟨([],j7 [_,j4]),j0⟩,?_⟩
    refine OpH.stF (fun y x => { x with To:=y }) ty3 (.t rfl) (.t rfl) .z (fun _ _=>rfl) ?_
    refine⟨⟨([],j7 [_,j4]),j0⟩,?_⟩
    show wpB _ _ _ _ _ [] ((35,_)::(34,_)::(33,_)::(32,_)::(31,_)::(30,_)::_) _
    refine .q 21 hG ?_
    refine .go 51 j0 (.t j0) (fun hg54 => .a5l a0x (by decide) j0 (by kernel_rfl) (.q j0 hg54) (.q j0 hg54) j0) ?_
    refine .q 4 hG ?_
    refine .e1 j0 j0 ?_
    first|(exfalso;omega)|(refine congrArg AV.v ?_;(try rw [W0 p.Kind (by omega)]);unfold I9;(repeat (first|rw [if_pos (by omega)]|rw [if_neg (by omega)]));(try rfl))
   ·refine .q 6 hG ⟨fun hc56 => ?_,fun hc56 => ?_⟩
    ·refine .q 1 hG ?_
     refine .a0w [j5,j6] (by kernel_rfl) 8 [[],[(58,0)],[],[(60,2)],[],[(62,4),(59,1)],[],[(63,6),(61,3)]] [5,7] j0 (by kernel_rfl) j0 (by kernel_rfl) (by decide) ?_
     refine⟨_,fun H=>OpP.a0Z o6.l2 (fun x=>x.a00) a0F j0 (fun _=>j0) (.t j0) j0,?_⟩
     refine⟨_,fun H=>OpP.ldP ty3 (.t j0) j0,?_⟩
     refine⟨_,fun H=>OpP.a0Z o6.l3 (fun x=>x.To) a0G j0 (fun _=>j0) (.t j0) j0,?_⟩
     refine⟨_,fun H=>OpP.ldP ty3 (.t j0) j0,?_⟩
     refine⟨_,fun H=>OpP.P5 o6.l2 a0F j0 (.t j0) j0,?_⟩
     refine .inl ?_
     refine⟨_,fun H=>OpP.P5 o6.l3 a0G j0 (.t j0) j0,?_⟩
     refine .inl ?_
     refine⟨⟨([],j7 [_,j4]),j0⟩,?_⟩
     refine OpH.stF (fun y x => { x with a00:=y }) ty3 (.t rfl) (.t rfl) .z (fun _ _=>rfl) ?_
     refine⟨⟨([],j7 [_,j4]),j0⟩,?_⟩
     refine OpH.stF (fun y x => { x with To:=y }) ty3 (.t rfl) (.t rfl) .z (fun _ _=>rfl) ?_
     refine⟨⟨([],j7 [_,j4]),j0⟩,?_⟩
     show wpB _ _ _ _ _ [] ((63,_)::(62,_)::(61,_)::(60,_)::(59,_)::(58,_)::_) _
     refine .q 24 hG ?_
     refine .go 82 j0 (.t j0) (fun hg85 => .a5l a0x (by decide) j0 (by kernel_rfl) (.q j0 hg85) (.q j0 hg85) j0) ?_
     refine .q 4 hG ?_
     refine .e1 j0 j0 ?_
     first|(exfalso;omega)|(refine congrArg AV.v ?_;(try rw [W0 p.Kind (by omega)]);unfold I9;(repeat (first|rw [if_pos (by omega)]|rw [if_neg (by omega)]));(try rfl))
    ·refine .q 6 hG ⟨fun hc87 => ?_,fun hc87 => ?_⟩
     ·refine .q 11 hG ?_
      refine .k hG (a6z _) ?_
      refine .q 3 hG ?_
      refine .go 95 j0 (.t j0) (fun hg98 => .a5l a0x (by decide) j0 (by kernel_rfl) (.q j0 hg98) (.q j0 hg98) j0) ?_
      refine .q 4 hG ?_
      refine .e1 j0 j0 ?_
      first|(exfalso;omega)|(refine congrArg AV.v ?_;(try rw [W0 p.Kind (by omega)]);unfold I9;(repeat (first|rw [if_pos (by omega)]|rw [if_neg (by omega)]));(try rfl))
     ·refine .q 6 hG ⟨fun hc100 => ?_,fun hc100 => ?_⟩
      ·refine .q 20 hG ?_
       refine .go 113 j0 (.t j0) (fun hg116 => .a5l a0x (by decide) j0 (by kernel_rfl) (.q j0 hg116) (.q j0 hg116) j0) ?_
       refine .q 4 hG ?_
       refine .e1 j0 j0 ?_
       first|(exfalso;omega)|(refine congrArg AV.v ?_;(try rw [W0 p.Kind (by omega)]);unfold I9;(repeat (first|rw [if_pos (by omega)]|rw [if_neg (by omega)]));(try rfl))
      ·refine .q 6 hG ?_
       refine .e1 j0 j0 ?_
       first|(exfalso;omega)|(refine congrArg AV.v ?_;(try rw [W0 p.Kind (by omega)]);unfold I9;(repeat (first|rw [if_pos (by omega)]|rw [if_neg (by omega)]));(try rfl))
 ·refine .q 6 hG ⟨fun hc9 => ?_,fun hc9 => ?_⟩
  ·refine .q 2 hG ⟨fun hc9 => ?_,fun hc9 => ?_⟩
   ·refine .q 8 hG ?_
    refine .draw (by kernel_rfl) 13 [[],[(16,0)],[],[(18,2)],[(19,3)],[(20,4)],[(17,1),(21,5)],[(22,6)],[],[],[(24,8),(25,9)],[(23,7),(26,10)],[(27,11)]] j0 (by kernel_rfl) j0 ?_
    refine⟨_,OpP.a0Z o6.l1 (fun x=>x.Mask) a9p j0 (fun _=>j0) (.t j0) j0,?_⟩
    refine⟨_,OpP.ldP b8F (.t j0) j0,?_⟩
    refine⟨_,OpP.a0Z o6.l0 (fun x=>x.Kind) a9o j0 (fun _=>j0) (.t j0) j0,?_⟩
    refine⟨_,OpP.ldP ty3 (.t j0) j0,?_⟩
    refine⟨_,OpP.c7t c1V (.c7r hG a1B) (.t j0) (by first|omega|(simp;done)|(simp;omega)|(simp at *;omega)) (by first|omega|(simp;done)|(simp;omega)|(simp at *;omega)) j0,?_⟩
    refine⟨_,OpP.ldP ty3 (.t j0) j0,?_⟩
    refine⟨_,OpP.J7 hG (b6X _ _ (a18 _ _).1 (a18 _ _).2) (.cons (.t j0) (.cons (.t j0) .nil)) j0,?_⟩
    refine⟨_,OpP.move (.t j0) j0,?_⟩
    refine⟨_,⟨_,_,j0,j0,fun hg24=>OpP.ldP a6d (.t j0) j0⟩,?_⟩
    refine⟨_,⟨_,_,j0,j0,fun hg25=>OpP.ldW a6d (.t j0) .z j0⟩,?_⟩
    refine⟨_,⟨_,_,j0,j0,fun hg26=>OpP.a5l a0x (by decide) j0 (by kernel_rfl) (.q j0 hg26) (.q j0 hg26) j0⟩,?_⟩
    refine⟨_,OpP.a2I (.t j0) (fun hp=>(.q j0 hp)) j0,?_⟩
    refine⟨_,OpP.assign (.t j0) j0,?_⟩
    show wpB _ _ _ _ _ [] ((2,_)::(27,_)::(26,_)::(25,_)::(24,_)::(23,_)::(22,_)::(21,_)::(20,_)::(19,_)::(18,_)::(17,_)::(16,_)::_) _
    refine .q 2 hG ?_
    refine .e1 j0 j0 ?_
    first|(exfalso;omega)|(refine congrArg AV.v ?_;(try rw [W0 p.Kind (by omega)]);unfold I9;(repeat (first|rw [if_pos (by omega)]|rw [if_neg (by omega)]));(try rfl))
   ·refine .q 6 hG ⟨fun hc28 => ?_,fun hc28 => ?_⟩
    ·refine .q 1 hG ?_
     refine .a0w [j5,j6] (by kernel_rfl) 8 [[],[(30,0)],[],[(32,2)],[],[(34,4),(31,1)],[],[(35,6),(33,3)]] [5,7] j0 (by kernel_rfl) j0 (by kernel_rfl) (by decide) ?_
     refine⟨_,fun H=>OpP.a0Z o6.l2 (fun x=>x.a00) a0F j0 (fun _=>j0) (.t j0) j0,?_⟩
     refine⟨_,fun H=>OpP.ldP ty3 (.t j0) j0,?_⟩
     refine⟨_,fun H=>OpP.a0Z o6.l3 (fun x=>x.To) a0G j0 (fun _=>j0) (.t j0) j0,?_⟩
     refine⟨_,fun H=>OpP.ldP ty3 (.t j0) j0,?_⟩
     refine⟨_,fun H=>OpP.P5 o6.l2 a0F j0 (.t j0) j0,?_⟩
     refine .inl ?_
     refine⟨_,fun H=>OpP.P5 o6.l3 a0G j0 (.t j0) j0,?_⟩
     refine .inl ?_
     refine⟨⟨([],j7 [_,j4]),j0⟩,?_⟩
     refine OpH.stF (fun y x => { x with a00:=y }) ty3 (.t rfl) (.t rfl) .z (fun _ _=>rfl) ?_
     refine⟨⟨([],j7 [_,j4]),j0⟩,?_⟩
     refine OpH.stF (fun y x => { x with To:=y }) ty3 (.t rfl) (.t rfl) .z (fun _ _=>rfl) ?_
     refine⟨⟨([],j7 [_,j4]),j0⟩,?_⟩
     show wpB _ _ _ _ _ [] ((35,_)::(34,_)::(33,_)::(32,_)::(31,_)::(30,_)::_) _
     refine .q 21 hG ?_
     refine .go 51 j0 (.t j0) (fun hg54 => .a5l a0x (by decide) j0 (by kernel_rfl) (.q j0 hg54) (.q j0 hg54) j0) ?_
     refine .q 4 hG ?_
     refine .e1 j0 j0 ?_
     first|(exfalso;omega)|(refine congrArg AV.v ?_;(try rw [W0 p.Kind (by omega)]);unfold I9;(repeat (first|rw [if_pos (by omega)]|rw [if_neg (by omega)]));(try rfl))
    ·refine .q 6 hG ⟨fun hc56 => ?_,fun hc56 => ?_⟩
     ·refine .q 1 hG ?_
      refine .a0w [j5,j6] (by kernel_rfl) 8 [[],[(58,0)],[],[(60,2)],[],[(62,4),(59,1)],[],[(63,6),(61,3)]] [5,7] j0 (by kernel_rfl) j0 (by kernel_rfl) (by decide) ?_
      refine⟨_,fun H=>OpP.a0Z o6.l2 (fun x=>x.a00) a0F j0 (fun _=>j0) (.t j0) j0,?_⟩
      refine⟨_,fun H=>OpP.ldP ty3 (.t j0) j0,?_⟩
      refine⟨_,fun H=>OpP.a0Z o6.l3 (fun x=>x.To) a0G j0 (fun _=>j0) (.t j0) j0,?_⟩
      refine⟨_,fun H=>OpP.ldP ty3 (.t j0) j0,?_⟩
      refine⟨_,fun H=>OpP.P5 o6.l2 a0F j0 (.t j0) j0,?_⟩
      refine .inl ?_
      refine⟨_,fun H=>OpP.P5 o6.l3 a0G j0 (.t j0) j0,?_⟩
      refine .inl ?_
      refine⟨⟨([],j7 [_,j4]),j0⟩,?_⟩
      refine OpH.stF (fun y x => { x with a00:=y }) ty3 (.t rfl) (.t rfl) .z (fun _ _=>rfl) ?_
      refine⟨⟨([],j7 [_,j4]),j0⟩,?_⟩
      refine OpH.stF (fun y x => { x with To:=y }) ty3 (.t rfl) (.t rfl) .z (fun _ _=>rfl) ?_
      refine⟨⟨([],j7 [_,j4]),j0⟩,?_⟩
      show wpB _ _ _ _ _ [] ((63,_)::(62,_)::(61,_)::(60,_)::(59,_)::(58,_)::_) _
      refine .q 24 hG ?_
      refine .go 82 j0 (.t j0) (fun hg85 => .a5l a0x (by decide) j0 (by kernel_rfl) (.q j0 hg85) (.q j0 hg85) j0) ?_
      refine .q 4 hG ?_
      refine .e1 j0 j0 ?_
      first|(exfalso;omega)|(refine congrArg AV.v ?_;(try rw [W0 p.Kind (by omega)]);unfold I9;(repeat (first|rw [if_pos (by omega)]|rw [if_neg (by omega)]));(try rfl))
     ·refine .q 6 hG ⟨fun hc87 => ?_,fun hc87 => ?_⟩
      ·refine .q 11 hG ?_
       refine .k hG (a6z _) ?_
       refine .q 3 hG ?_
       refine .go 95 j0 (.t j0) (fun hg98 => .a5l a0x (by decide) j0 (by kernel_rfl) (.q j0 hg98) (.q j0 hg98) j0) ?_
       refine .q 4 hG ?_
       refine .e1 j0 j0 ?_
       first|(exfalso;omega)|(refine congrArg AV.v ?_;(try rw [W0 p.Kind (by omega)]);unfold I9;(repeat (first|rw [if_pos (by omega)]|rw [if_neg (by omega)]));(try rfl))
      ·refine .q 6 hG ⟨fun hc100 => ?_,fun hc100 => ?_⟩
       ·refine .q 20 hG ?_
        refine .go 113 j0 (.t j0) (fun hg116 => .a5l a0x (by decide) j0 (by kernel_rfl) (.q j0 hg116) (.q j0 hg116) j0) ?_
        refine .q 4 hG ?_
        refine .e1 j0 j0 ?_
        first|(exfalso;omega)|(refine congrArg AV.v ?_;(try rw [W0 p.Kind (by omega)]);unfold I9;(repeat (first|rw [if_pos (by omega)]|rw [if_neg (by omega)]));(try rfl))
       ·refine .q 6 hG ?_
        refine .e1 j0 j0 ?_
        first|(exfalso;omega)|(refine congrArg AV.v ?_;(try rw [W0 p.Kind (by omega)]);unfold I9;(repeat (first|rw [if_pos (by omega)]|rw [if_neg (by omega)]));(try rfl))
  ·refine .q 5 hG ⟨fun hc9 => ?_,fun hc9 => ?_⟩
   ·refine .q 8 hG ?_
    refine .draw (by kernel_rfl) 13 [[],[(16,0)],[],[(18,2)],[(19,3)],[(20,4)],[(17,1),(21,5)],[(22,6)],[],[],[(24,8),(25,9)],[(23,7),(26,10)],[(27,11)]] j0 (by kernel_rfl) j0 ?_
    refine⟨_,OpP.a0Z o6.l1 (fun x=>x.Mask) a9p j0 (fun _=>j0) (.t j0) j0,?_⟩
    refine⟨_,OpP.ldP b8F (.t j0) j0,?_⟩
    refine⟨_,OpP.a0Z o6.l0 (fun x=>x.Kind) a9o j0 (fun _=>j0) (.t j0) j0,?_⟩
    refine⟨_,OpP.ldP ty3 (.t j0) j0,?_⟩
    refine⟨_,OpP.c7t c1V (.c7r hG a1B) (.t j0) (by first|omega|(simp;done)|(simp;omega)|(simp at *;omega)) (by first|omega|(simp;done)|(simp;omega)|(simp at *;omega)) j0,?_⟩
    refine⟨_,OpP.ldP ty3 (.t j0) j0,?_⟩
    refine⟨_,OpP.J7 hG (b6X _ _ (a18 _ _).1 (a18 _ _).2) (.cons (.t j0) (.cons (.t j0) .nil)) j0,?_⟩
    refine⟨_,OpP.move (.t j0) j0,?_⟩
    refine⟨_,⟨_,_,j0,j0,fun hg24=>OpP.ldP a6d (.t j0) j0⟩,?_⟩
    refine⟨_,⟨_,_,j0,j0,fun hg25=>OpP.ldW a6d (.t j0) .z j0⟩,?_⟩
    refine⟨_,⟨_,_,j0,j0,fun hg26=>OpP.a5l a0x (by decide) j0 (by kernel_rfl) (.q j0 hg26) (.q j0 hg26) j0⟩,?_⟩
    refine⟨_,OpP.a2I (.t j0) (fun hp=>(.q j0 hp)) j0,?_⟩
    refine⟨_,OpP.assign (.t j0) j0,?_⟩
    show wpB _ _ _ _ _ [] ((2,_)::(27,_)::(26,_)::(25,_)::(24,_)::(23,_)::(22,_)::(21,_)::(20,_)::(19,_)::(18,_)::(17,_)::(16,_)::_) _
    refine .q 2 hG ?_
    refine .e1 j0 j0 ?_
    first|(exfalso;omega)|(refine congrArg AV.v ?_;(try rw [W0 p.Kind (by omega)]);unfold I9;(repeat (first|rw [if_pos (by omega)]|rw [if_neg (by omega)]));(try rfl))
   ·refine .q 6 hG ⟨fun hc28 => ?_,fun hc28 => ?_⟩
    ·refine .q 1 hG ?_
     refine .a0w [j5,j6] (by kernel_rfl) 8 [[],[(30,0)],[],[(32,2)],[],[(34,4),(31,1)],[],[(35,6),(33,3)]] [5,7] j0 (by kernel_rfl) j0 (by kernel_rfl) (by decide) ?_
     refine⟨_,fun H=>OpP.a0Z o6.l2 (fun x=>x.a00) a0F j0 (fun _=>j0) (.t j0) j0,?_⟩
     refine⟨_,fun H=>OpP.ldP ty3 (.t j0) j0,?_⟩
     refine⟨_,fun H=>OpP.a0Z o6.l3 (fun x=>x.To) a0G j0 (fun _=>j0) (.t j0) j0,?_⟩
     refine⟨_,fun H=>OpP.ldP ty3 (.t j0) j0,?_⟩
     refine⟨_,fun H=>OpP.P5 o6.l2 a0F j0 (.t j0) j0,?_⟩
     refine .inl ?_
     refine⟨_,fun H=>OpP.P5 o6.l3 a0G j0 (.t j0) j0,?_⟩
     refine .inl ?_
     refine⟨⟨([],j7 [_,j4]),j0⟩,?_⟩
     refine OpH.stF (fun y x => { x with a00:=y }) ty3 (.t rfl) (.t rfl) .z (fun _ _=>rfl) ?_
     refine⟨⟨([],j7 [_,j4]),j0⟩,?_⟩
     refine OpH.stF (fun y x => { x with To:=y }) ty3 (.t rfl) (.t rfl) .z (fun _ _=>rfl) ?_
     refine⟨⟨([],j7 [_,j4]),j0⟩,?_⟩
     show wpB _ _ _ _ _ [] ((35,_)::(34,_)::(33,_)::(32,_)::(31,_)::(30,_)::_) _
     refine .q 21 hG ?_
     refine .go 51 j0 (.t j0) (fun hg54 => .a5l a0x (by decide) j0 (by kernel_rfl) (.q j0 hg54) (.q j0 hg54) j0) ?_
     refine .q 4 hG ?_
     refine .e1 j0 j0 ?_
     first|(exfalso;omega)|(refine congrArg AV.v ?_;(try rw [W0 p.Kind (by omega)]);unfold I9;(repeat (first|rw [if_pos (by omega)]|rw [if_neg (by omega)]));(try rfl))
    ·refine .q 6 hG ⟨fun hc56 => ?_,fun hc56 => ?_⟩
     ·refine .q 1 hG ?_
      refine .a0w [j5,j6] (by kernel_rfl) 8 [[],[(58,0)],[],[(60,2)],[],[(62,4),(59,1)],[],[(63,6),(61,3)]] [5,7] j0 (by kernel_rfl) j0 (by kernel_rfl) (by decide) ?_
      refine⟨_,fun H=>OpP.a0Z o6.l2 (fun x=>x.a00) a0F j0 (fun _=>j0) (.t j0) j0,?_⟩
      refine⟨_,fun H=>OpP.ldP ty3 (.t j0) j0,?_⟩
      refine⟨_,fun H=>OpP.a0Z o6.l3 (fun x=>x.To) a0G j0 (fun _=>j0) (.t j0) j0,?_⟩
      refine⟨_,fun H=>OpP.ldP ty3 (.t j0) j0,?_⟩
      refine⟨_,fun H=>OpP.P5 o6.l2 a0F j0 (.t j0) j0,?_⟩
      refine .inl ?_
      refine⟨_,fun H=>OpP.P5 o6.l3 a0G j0 (.t j0) j0,?_⟩
      refine .inl ?_
      refine⟨⟨([],j7 [_,j4]),j0⟩,?_⟩
      refine OpH.stF (fun y x => { x with a00:=y }) ty3 (.t rfl) (.t rfl) .z (fun _ _=>rfl) ?_
      refine⟨⟨([],j7 [_,j4]),j0⟩,?_⟩
      refine OpH.stF (fun y x => { x with To:=y }) ty3 (.t rfl) (.t rfl) .z (fun _ _=>rfl) ?_
      refine⟨⟨([],j7 [_,j4]),j0⟩,?_⟩
      show wpB _ _ _ _ _ [] ((63,_)::(62,_)::(61,_)::(60,_)::(59,_)::(58,_)::_) _
      refine .q 24 hG ?_
      refine .go 82 j0 (.t j0) (fun hg85 => .a5l a0x (by decide) j0 (by kernel_rfl) (.q j0 hg85) (.q j0 hg85) j0) ?_
      refine .q 4 hG ?_
      refine .e1 j0 j0 ?_
      first|(exfalso;omega)|(refine congrArg AV.v ?_;(try rw [W0 p.Kind (by omega)]);unfold I9;(repeat (first|rw [if_pos (by omega)]|rw [if_neg (by omega)]));(try rfl))
     ·refine .q 6 hG ⟨fun hc87 => ?_,fun hc87 => ?_⟩
      ·refine .q 11 hG ?_
       refine .k hG (a6z _) ?_
       refine .q 3 hG ?_
       refine .go 95 j0 (.t j0) (fun hg98 => .a5l a0x (by decide) j0 (by kernel_rfl) (.q j0 hg98) (.q j0 hg98) j0) ?_
       refine .q 4 hG ?_
       refine .e1 j0 j0 ?_
       first|(exfalso;omega)|(refine congrArg AV.v ?_;(try rw [W0 p.Kind (by omega)]);unfold I9;(repeat (first|rw [if_pos (by omega)]|rw [if_neg (by omega)]));(try rfl))
      ·refine .q 6 hG ⟨fun hc100 => ?_,fun hc100 => ?_⟩
       ·refine .q 20 hG ?_
        refine .go 113 j0 (.t j0) (fun hg116 => .a5l a0x (by decide) j0 (by kernel_rfl) (.q j0 hg116) (.q j0 hg116) j0) ?_
        refine .q 4 hG ?_
        refine .e1 j0 j0 ?_
        first|(exfalso;omega)|(refine congrArg AV.v ?_;(try rw [W0 p.Kind (by omega)]);unfold I9;(repeat (first|rw [if_pos (by omega)]|rw [if_neg (by omega)]));(try rfl))
       ·refine .q 6 hG ?_
        refine .e1 j0 j0 ?_
        first|(exfalso;omega)|(refine congrArg AV.v ?_;(try rw [W0 p.Kind (by omega)]);unfold I9;(repeat (first|rw [if_pos (by omega)]|rw [if_neg (by omega)]));(try rfl))
def E0 (p:Pred):List UInt8:=D5 p.Kind.toNat++(if p.Kind=4∨p.Kind=5 then D5 p.a00.toNat++D5 p.To.toNat else if p.Kind=6 then D5 p.Name.l.length++p.Name.l else if p.Kind=7 then D5 p.Number.toNat else W5 p.Mask 8)
def a5Q (p:Pred):List UInt8×Int:=if I9 p then (E0 p,0) else ([],5)
theorem M8 {p:Pred}(h:I9 p=true):a5Q p=(E0 p,0):=by unfold a5Q;rw [if_pos h]
theorem a0a {p:Pred}(h:¬I9 p=true):a5Q p=([],5):=by unfold a5Q;rw [if_neg h]
structure c2Z (p:Pred):Prop where
 kind:1≤p.Kind∧p.Kind≤7
 from_:0≤p.a00∧p.a00≤67108864
 to:0≤p.To∧p.To≤67108864
 name:p.Name.l.length≤16
 num:0≤p.Number∧p.Number≤1000000
theorem a34 {p:Pred}(h:I9 p=true):c2Z p:=by
 unfold I9 at h
 obtain⟨k,m,f,t,n,u⟩:=p
 dsimp only at h
 split at h
 ·next hk=>simp only [Bool.and_eq_true,decide_eq_true_eq,o6.mk.injEq] at h;obtain⟨_,_,_,rfl,rfl,rfl,rfl⟩:=h;exact⟨by dsimp only;omega,by simp,by simp,by simp,by simp⟩
 ·split at h
  ·next hk=>simp only [Bool.and_eq_true,decide_eq_true_eq,o6.mk.injEq] at h;obtain⟨h1,_,_,_,_,rfl,rfl⟩:=h;exact⟨by dsimp only;omega,by dsimp only;omega,by dsimp only;omega,by simp,by simp⟩
  ·split at h
   ·next hk=>simp only [Bool.and_eq_true,decide_eq_true_eq,o6.mk.injEq] at h;obtain⟨h1,_,_,_,_,rfl,rfl⟩:=h;exact⟨by dsimp only;omega,by dsimp only;omega,by dsimp only;omega,by simp,by simp⟩
   ·split at h
    ·next hk =>
     simp only [Bool.and_eq_true,decide_eq_true_eq,o6.mk.injEq] at h;obtain⟨h1,_,_,rfl,rfl,_,rfl⟩:=h
     unfold a0n at h1;simp only [Bool.and_eq_true,decide_eq_true_eq] at h1
     exact⟨by dsimp only;omega,by simp,by simp,by dsimp only;omega,by simp⟩
    ·split at h
     ·next hk=>simp only [Bool.and_eq_true,decide_eq_true_eq,o6.mk.injEq] at h;obtain⟨h1,_,_,rfl,rfl,rfl,_⟩:=h;exact⟨by dsimp only;omega,by simp,by simp,by simp,by dsimp only;omega⟩
     ·cases h
theorem a3L {p:Pred}(h:c2Z p):(E0 p).length≤24:=by
 have l1:=H4 (n:=p.Kind.toNat) (by have:=h.kind;omega)
 have l2:=H4 (n:=p.a00.toNat) (by have:=h.from_;omega)
 have l3:=H4 (n:=p.To.toNat) (by have:=h.to;omega)
 have l4:=H4 (n:=p.Name.l.length) (by have:=h.name;omega)
 have l5:=H4 (n:=p.Number.toNat) (by have:=h.num;omega)
 have l6:=h.name
 have l0:(D5 p.Kind.toNat).length≤1:=a5t 0 _ (by have:=h.kind;omega)
 have l7:(D5 p.Name.l.length).length≤1:=a5t 0 _ (by omega)
 unfold E0
 rw [List.length_append]
 split
 ·rw [List.length_append];omega
 ·split
  ·rw [List.length_append];omega
  ·split
   ·omega
   ·rw [K8];omega
def numsL (l:List Int):List UInt8:=(l.map fun n=>D5 n.toNat).flatten
theorem b6Y (l:List Int)(k:Nat)(h:k < l.length):numsL (l.take (k+1))=numsL (l.take k)++D5 (l[k]).toNat:=by
 unfold numsL;rw [List.take_succ_eq_append_getElem h,List.map_append,List.flatten_append];simp
theorem b1X (l:List Int)(h:∀ n∈l,0≤n∧n≤281474976710656):(numsL l).length≤7*l.length:=by
 induction l with
 | nil=>simp [numsL]
 | cons n l ih =>
  have h1:=H4 (n:=n.toNat) (by have:=h n (by simp);omega)
  have h2:=ih fun m hm=>h m (by simp [hm])
  unfold numsL at h2 ⊢
  rw [List.map_cons,List.flatten_cons,List.length_append,List.length_cons];omega
theorem a7n (b:List UInt8)(l:List Int)(hb:b.length≤600000)(hl:0 < l.length)(hl2:l.length≤1000)(h:∀ n∈l,0≤n∧n≤281474976710656):C6 gl prog 261 [.v b,.v l] [] (fun r Hs=>∃ u,r = .raw u∧Hs = [.own 5 u (b++numsL l)]):=by
 refine C6.a0k func261 rfl (by kernel_rfl) 21 rfl rfl _ rfl _ rfl fun C hC hG => ?_
 refine .q 6 hG ?_
 refine .name 0 j0 fun w0=>(.M1 5 .z ?_)
 refine .q 6 hG ?_
 refine .a0Y (α:=Nat×Value×List UInt8×Bool) [(7,_),(8,_)] (fun x R=>(0,.raw x.2.1)::(9,.v (x.1:Int))::R) (fun x => [(true,.P4 x.2.1 (OF.mk 5 x.2.2.1 x.2.2.2))]) (fun x=>x.1≤l.length∧x.2.2.1=b++numsL (l.take x.1)∧(0 < x.1→x.2.2.2=true)) (fun x=>l.length - x.1) ((0,w0,b,false)) (.c2 j0 j0 (.nil _)) ?_ (.c2 j0 j0 (.c2 j0 j0 (.nil _))) (j0) fun x hF => ?_
 ·exact⟨Nat.zero_le _,by simp [numsL],by simp⟩
 obtain⟨k,w,c,o⟩:=x
 obtain⟨h1,h2,h3⟩:=hF
 dsimp only at h1 h2 h3 ⊢
 have hlen9:=b1X (l.take k) (fun n hn=>h n (List.mem_of_mem_take hn))
 have hc9:c.length≤607000:=(by rw [h2,List.length_append];have:(l.take k).length≤l.length:=(by simp;omega);omega)
 refine .q 6 hG ⟨fun hc10 => ?_,fun hc10 => ?_⟩
 ·refine .q 5 hG ?_
  refine .ix (by first|omega|(simp;done)|(simp;omega)|(simp at *;omega)) (by first|omega|(simp;done)|(simp;omega)|(simp at *;omega)) ?_
  refine .q 3 hG ?_
  refine .d0b hC .z (.as 0 j0 .z (.drop ?_))
  refine .q 3 hG ?_
  refine .k0 hG (a0i _ _ (by first|omega|(simp;done)|(simp;omega)|(simp at *;omega)) (h _ (List.getElem_mem _)).1 (h _ (List.getElem_mem _)).2) fun r16 Hs16 hr16 => ?_
  obtain⟨u16,rfl,rfl⟩:=hr16
  show wpB _ _ _ _ _ _ _ ((true,_)::_)
  refine .q 5 hG ?_
  refine .c99 .z ?_
  refine .q 1 hG ?_
  refine .ad (by first|omega|(simp;done)|(simp;omega)|(simp at *;omega)) (by first|omega|(simp;done)|(simp;omega)|(simp at *;omega)) ?_
  refine .q 2 hG ?_
  refine⟨(k+1,u16,_,true),.c2 rfl rfl (.c2 rfl rfl (.nil _)),rfl,?_,by dsimp only;omega⟩
  exact⟨by dsimp only;omega,by dsimp only;rw [b6Y l k (by omega),←List.append_assoc,←h2];rfl,fun _=>rfl⟩
 ·refine .q 2 hG ?_
  refine .d0a (h3 (by omega)) .z ?_
  refine .q 5 hG ?_
  refine .e1 j0 j0 ?_
  refine⟨_,.cons .z (.nil),?_⟩
  exact⟨_,rfl,by rw [h2,List.take_of_length_le (by omega)]⟩
theorem a4w (b:List UInt8)(l:List Int)(hb:b.length≤600000)(hl:0 < l.length)(hl2:l.length≤1000)(h:∀ n∈l,0≤n∧n≤281474976710656):C4 gl prog 261 [.v b,.v l] (fun r=>r = .v (b++numsL l)):=(a7n b l hb hl hl2 h).b2O
theorem c0b (p:Pred):C4 gl prog 249 [.v p] (fun r=>r = .t2 (.v (a5Q p).1) (.v (a5Q p).2)):=by
 refine C4.jn func249 (by kernel_rfl) 54 rfl fun C hC hG => ?_
 refine .q 3 hG fun b1 => ?_
 refine .q 5 hG ?_
 refine .U2 hC .z (.asP 1 j0 .z ?_)
 refine .q 2 hG ?_
 refine .k hG (a5v _) ?_
 refine .q 2 hG ?_
 refine .cond (.t j0) (fun hc8 => ?_) (fun hc8 => ?_)
 ·refine .q 6 hG ?_
  refine .e2 j0 j0 j0 ?_
  first|(exfalso;omega)|(rw [a0a (by simpa using hc8)])|(rw [M8 hpo];unfold E0;(repeat (first|rw [if_pos (by omega)]|rw [if_neg (by omega)]));(try simp [numsL]);done)|(obtain rfl:j=8:=(by omega);rw [M8 hpo];unfold E0;(repeat (first|rw [if_pos (by omega)]|rw [if_neg (by omega)]));simp [numsL])
 ·refine .q 2 hG ?_
  have hpo:I9 p=true:=by simpa using hc8
  have hp:=a34 hpo
  have hp4:=hp.name
  have hk1:(numsL [p.Kind]).length≤7:=b1X [p.Kind] (by have:=hp.kind;simp;omega)
  refine .q 3 hG ?_
  refine .bs j0 (by decide) fun b11=>(.Q7 hC .z (.as 11 j0 .z (.h (.a6Z hG (a7n _ _ (by decide) (by simp) (by simp) (by have:=hp.kind;simp;omega)) (.cons .b1h (.cons (.t j0) .nil)) fun r12 Hs12 hr12 => ?_))))
  obtain⟨u12,rfl,rfl⟩:=hr12
  show wpB _ _ _ _ _ _ _ ((true,_)::_)
  refine .q 16 hG ⟨fun hc15 => ?_,fun hc15 => ?_⟩
  ·refine .q 2 hG ⟨fun hc15 => ?_,fun hc15 => ?_⟩
   ·refine .q 1 hG ?_
    refine .Q7 hC .z (.as 4 j0 .z ?_)
    refine .q 6 hG ?_
    refine .bs j0 (by decide) fun b23=>(.Q7 hC .z (.as 23 j0 .z (.p (.J7 hG (a4w _ _ (by simp;omega) (by simp) (by simp) (by have:=hp.from_;have:=hp.to;simp;omega)) (.cons (.t j0) (.cons (.t j0) .nil)) ?_))))
    refine .q 4 hG ?_
    refine .e2 j0 j0 j0 ?_
    first|(exfalso;omega)|(rw [a0a (by simpa using hc8)])|(rw [M8 hpo];unfold E0;(repeat (first|rw [if_pos (by omega)]|rw [if_neg (by omega)]));(try simp [numsL]);done)|(obtain rfl:j=8:=(by omega);rw [M8 hpo];unfold E0;(repeat (first|rw [if_pos (by omega)]|rw [if_neg (by omega)]));simp [numsL])
   ·refine .q 6 hG ⟨fun hc25 => ?_,fun hc25 => ?_⟩
    ·refine .q 1 hG ?_
     refine .Q7 hC .z (.as 4 j0 .z ?_)
     refine .q 4 hG ?_
     refine .h (.a5f underlying9 underlying34 underlying5 (.t j0) fun w30=>(.Q7 hC .z (.as 30 j0 .z (.p (.J7 hG (a9B _ _ (by first|omega|(simp;done)|(simp;omega)|(simp at *;omega)) (by first|omega|(simp;done)|(simp;omega)|(simp at *;omega))) (.cons (.t j0) (.cons (.t j0) .nil)) ?_)))))
     refine .q 6 hG ?_
     refine .e2 j0 j0 j0 ?_
     first|(exfalso;omega)|(rw [a0a (by simpa using hc8)])|(rw [M8 hpo];unfold E0;(repeat (first|rw [if_pos (by omega)]|rw [if_neg (by omega)]));(try simp [numsL]);done)|(obtain rfl:j=8:=(by omega);rw [M8 hpo];unfold E0;(repeat (first|rw [if_pos (by omega)]|rw [if_neg (by omega)]));simp [numsL])
    ·refine .q 6 hG ⟨fun hc34 => ?_,fun hc34 => ?_⟩
     ·refine .q 1 hG ?_
      refine .Q7 hC .z (.as 4 j0 .z ?_)
      refine .q 4 hG ?_
      refine .bs j0 (by decide) fun b39=>(.Q7 hC .z (.as 39 j0 .z (.p (.J7 hG (a4w _ _ (by simp;omega) (by simp) (by simp) (by have:=hp.num;simp;omega)) (.cons (.t j0) (.cons (.t j0) .nil)) ?_))))
      refine .q 4 hG ?_
      refine .e2 j0 j0 j0 ?_
      first|(exfalso;omega)|(rw [a0a (by simpa using hc8)])|(rw [M8 hpo];unfold E0;(repeat (first|rw [if_pos (by omega)]|rw [if_neg (by omega)]));(try simp [numsL]);done)|(obtain rfl:j=8:=(by omega);rw [M8 hpo];unfold E0;(repeat (first|rw [if_pos (by omega)]|rw [if_neg (by omega)]));simp [numsL])
     ·refine .q 7 hG ?_
      refine .a0Y (α:=Nat×Value) [(1,_)] (fun x R=>(4,.raw x.2)::(5,.v (56 - 8*(x.1:Int)))::R) (fun x => [(true,.own 5 x.2 (numsL [p.Kind]++W5 p.Mask x.1)),(true,.fz (slc b11 0 1 1) (.v [p.Kind])),(true,.fz (ptr b1 0) (.p p))]) (fun x=>x.1≤8) (fun x=>8 - x.1) ((0,u12)) (.cons j0 (.nil _)) ?_ (.c2 j0 j0 (.cons j0 (.nil _))) (congrArg (fun q => [(true,C3.own _ _ q),_,_]) (by simp [W5])) fun x hF => ?_
      ·simp
      obtain⟨j,w⟩:=x
      dsimp only at hF ⊢
      have hk2:=K8 p.Mask j
      refine .q 7 hG ⟨fun hc42 => ?_,fun hc42 => ?_⟩
      ·refine .q 8 hG ?_
       refine .p (.b6z (.t j0) (.t j0) (by first|omega|(simp;done)|(simp;omega)|(simp at *;omega)) (by first|omega|(simp;done)|(simp;omega)|(simp at *;omega)) (.p (.a45 underlying129 underlying5 (.t j0) ?_)))
       refine .bs j0 (by decide) fun b51 => ?_
       refine .ap (by first|omega|(simp;done)|(simp;omega)|(simp at *;omega)) (by first|omega|(simp;done)|(simp;omega)|(simp at *;omega)) fun w52 => ?_
       refine .q 1 hG ?_
       refine .drop ?_
       refine .q 3 hG ?_
       refine .sb (by first|omega|(simp;done)|(simp;omega)|(simp at *;omega)) (by first|omega|(simp;done)|(simp;omega)|(simp at *;omega)) ?_
       refine .q 2 hG ?_
       refine⟨(j+1,w52),.cons rfl (.cons (congrArg (fun q=>some (AV.v q)) (by dsimp only;omega)) (.cons rfl (.nil _))),congrArg (fun q => [(true,C3.own _ _ q),_,_]) (by dsimp only;rw [a1U,show(56 - 8*(j:Int)).toNat=56 - 8*j by omega];try simp),?_,by dsimp only;omega⟩
       dsimp only;omega
      ·refine .q 2 hG ?_
       refine .Q7 hC .z (.as 4 j0 .z ?_)
       refine .q 6 hG ?_
       refine .e2 j0 j0 j0 ?_
       first|(exfalso;omega)|(rw [a0a (by simpa using hc8)])|(rw [M8 hpo];unfold E0;(repeat (first|rw [if_pos (by omega)]|rw [if_neg (by omega)]));(try simp [numsL]);done)|(obtain rfl:j=8:=(by omega);rw [M8 hpo];unfold E0;(repeat (first|rw [if_pos (by omega)]|rw [if_neg (by omega)]));simp [numsL])
  ·refine .q 5 hG ⟨fun hc15 => ?_,fun hc15 => ?_⟩
   ·refine .q 1 hG ?_
    refine .Q7 hC .z (.as 4 j0 .z ?_)
    refine .q 6 hG ?_
    refine .bs j0 (by decide) fun b23=>(.Q7 hC .z (.as 23 j0 .z (.p (.J7 hG (a4w _ _ (by simp;omega) (by simp) (by simp) (by have:=hp.from_;have:=hp.to;simp;omega)) (.cons (.t j0) (.cons (.t j0) .nil)) ?_))))
    refine .q 4 hG ?_
    refine .e2 j0 j0 j0 ?_
    first|(exfalso;omega)|(rw [a0a (by simpa using hc8)])|(rw [M8 hpo];unfold E0;(repeat (first|rw [if_pos (by omega)]|rw [if_neg (by omega)]));(try simp [numsL]);done)|(obtain rfl:j=8:=(by omega);rw [M8 hpo];unfold E0;(repeat (first|rw [if_pos (by omega)]|rw [if_neg (by omega)]));simp [numsL])
   ·refine .q 6 hG ⟨fun hc25 => ?_,fun hc25 => ?_⟩
    ·refine .q 1 hG ?_
     refine .Q7 hC .z (.as 4 j0 .z ?_)
     refine .q 4 hG ?_
     refine .h (.a5f underlying9 underlying34 underlying5 (.t j0) fun w30=>(.Q7 hC .z (.as 30 j0 .z (.p (.J7 hG (a9B _ _ (by first|omega|(simp;done)|(simp;omega)|(simp at *;omega)) (by first|omega|(simp;done)|(simp;omega)|(simp at *;omega))) (.cons (.t j0) (.cons (.t j0) .nil)) ?_)))))
     refine .q 6 hG ?_
     refine .e2 j0 j0 j0 ?_
     first|(exfalso;omega)|(rw [a0a (by simpa using hc8)])|(rw [M8 hpo];unfold E0;(repeat (first|rw [if_pos (by omega)]|rw [if_neg (by omega)]));(try simp [numsL]);done)|(obtain rfl:j=8:=(by omega);rw [M8 hpo];unfold E0;(repeat (first|rw [if_pos (by omega)]|rw [if_neg (by omega)]));simp [numsL])
    ·refine .q 6 hG ⟨fun hc34 => ?_,fun hc34 => ?_⟩
     ·refine .q 1 hG ?_
      refine .Q7 hC .z (.as 4 j0 .z ?_)
      refine .q 4 hG ?_
      refine .bs j0 (by decide) fun b39=>(.Q7 hC .z (.as 39 j0 .z (.p (.J7 hG (a4w _ _ (by simp;omega) (by simp) (by simp) (by have:=hp.num;simp;omega)) (.cons (.t j0) (.cons (.t j0) .nil)) ?_))))
      refine .q 4 hG ?_
      refine .e2 j0 j0 j0 ?_
      first|(exfalso;omega)|(rw [a0a (by simpa using hc8)])|(rw [M8 hpo];unfold E0;(repeat (first|rw [if_pos (by omega)]|rw [if_neg (by omega)]));(try simp [numsL]);done)|(obtain rfl:j=8:=(by omega);rw [M8 hpo];unfold E0;(repeat (first|rw [if_pos (by omega)]|rw [if_neg (by omega)]));simp [numsL])
     ·refine .q 7 hG ?_
      refine .a0Y (α:=Nat×Value) [(1,_)] (fun x R=>(4,.raw x.2)::(5,.v (56 - 8*(x.1:Int)))::R) (fun x => [(true,.own 5 x.2 (numsL [p.Kind]++W5 p.Mask x.1)),(true,.fz (slc b11 0 1 1) (.v [p.Kind])),(true,.fz (ptr b1 0) (.p p))]) (fun x=>x.1≤8) (fun x=>8 - x.1) ((0,u12)) (.cons j0 (.nil _)) ?_ (.c2 j0 j0 (.cons j0 (.nil _))) (congrArg (fun q => [(true,C3.own _ _ q),_,_]) (by simp [W5])) fun x hF => ?_
      ·simp
      obtain⟨j,w⟩:=x
      dsimp only at hF ⊢
      have hk2:=K8 p.Mask j
      refine .q 7 hG ⟨fun hc42 => ?_,fun hc42 => ?_⟩
      ·refine .q 8 hG ?_
       refine .p (.b6z (.t j0) (.t j0) (by first|omega|(simp;done)|(simp;omega)|(simp at *;omega)) (by first|omega|(simp;done)|(simp;omega)|(simp at *;omega)) (.p (.a45 underlying129 underlying5 (.t j0) ?_)))
       refine .bs j0 (by decide) fun b51 => ?_
       refine .ap (by first|omega|(simp;done)|(simp;omega)|(simp at *;omega)) (by first|omega|(simp;done)|(simp;omega)|(simp at *;omega)) fun w52 => ?_
       refine .q 1 hG ?_
       refine .drop ?_
       refine .q 3 hG ?_
       refine .sb (by first|omega|(simp;done)|(simp;omega)|(simp at *;omega)) (by first|omega|(simp;done)|(simp;omega)|(simp at *;omega)) ?_
       refine .q 2 hG ?_
       refine⟨(j+1,w52),.cons rfl (.cons (congrArg (fun q=>some (AV.v q)) (by dsimp only;omega)) (.cons rfl (.nil _))),congrArg (fun q => [(true,C3.own _ _ q),_,_]) (by dsimp only;rw [a1U,show(56 - 8*(j:Int)).toNat=56 - 8*j by omega];try simp),?_,by dsimp only;omega⟩
       dsimp only;omega
      ·refine .q 2 hG ?_
       refine .Q7 hC .z (.as 4 j0 .z ?_)
       refine .q 6 hG ?_
       refine .e2 j0 j0 j0 ?_
       first|(exfalso;omega)|(rw [a0a (by simpa using hc8)])|(rw [M8 hpo];unfold E0;(repeat (first|rw [if_pos (by omega)]|rw [if_neg (by omega)]));(try simp [numsL]);done)|(obtain rfl:j=8:=(by omega);rw [M8 hpo];unfold E0;(repeat (first|rw [if_pos (by omega)]|rw [if_neg (by omega)]));simp [numsL])
def a4x (k:Tag)(b:List UInt8)(x:y6):Bool:=decide (x.Key=k)&&decide (x.O8=b)
def a5w (k:Tag)(b:List UInt8):List UInt8:=a2O (a3J k ((b.take (b.length - 32)).take 8)) ((b.take (b.length - 32)).drop 8) ((b.take (b.length - 32)).drop 8).length
def O4 (a:F1)(k:Tag)(b:List UInt8):List UInt8×Int :=
 if a.P7 then match a.B7.find? (a4x k b) with
  | some x=>(x.Plain,0)
  | none=>([],14)
 else if b.length < 40∨296 < b.length then ([],14) else
 if (a3h k.l (a5o.l++b.take (b.length - 32))).l=b.drop (b.length - 32) then (a5w k b,0) else ([],14)
theorem a6g {a:F1}{k:Tag}{b:List UInt8}{x:y6}(hf:a.P7=true)(h:a.B7.find? (a4x k b)=some x):O4 a k b=(x.Plain,0):=by unfold O4;rw [if_pos hf,h]
theorem b3g {a:F1}{k:Tag}{b:List UInt8}(hf:a.P7=true)(h:a.B7.find? (a4x k b)=none):O4 a k b=([],14):=by unfold O4;rw [if_pos hf,h]
theorem b3h {a:F1}{k:Tag}{b:List UInt8}(hf:a.P7=false)(h:b.length < 40∨296 < b.length):O4 a k b=([],14):=by unfold O4;rw [if_neg (by rw [hf];decide),if_pos h]
theorem b4W {a:F1}{k:Tag}{b:List UInt8}(hf:a.P7=false)(h:¬(b.length < 40∨296 < b.length))(h2:¬(a3h k.l (a5o.l++b.take (b.length - 32))).l=b.drop (b.length - 32)):O4 a k b=([],14):=by
 unfold O4;rw [if_neg (by rw [hf];decide),if_neg h,if_neg h2]
theorem b0E {a:F1}{k:Tag}{b:List UInt8}(hf:a.P7=false)(h:¬(b.length < 40∨296 < b.length))(h2:(a3h k.l (a5o.l++b.take (b.length - 32))).l=b.drop (b.length - 32)):O4 a k b=(a5w k b,0):=by
 unfold O4;rw [if_neg (by rw [hf];decide),if_neg h,if_pos h2]
theorem c0c (a:F1)(k:Tag)(b:List UInt8)(hpl:∀ x∈a.B7,x.Plain.length≤1000000):C4 gl prog 156 [.v a,.v k,.v b] (fun r=>r = .t2 (.v (O4 a k b).1) (.v (O4 a k b).2)):=by
 refine C4.jn func156 (by kernel_rfl) 64 rfl fun C hC hG => ?_
 refine .q 3 hG fun b3 => ?_
 refine .q 1 hG fun b4 => ?_
 refine .q 5 hG ?_
 refine .U2 hC .z (.asP 4 j0 .z (.U2 hC .z1 (.asP 3 j0 .z1 ?_)))
 refine .q 4 hG ?_
 refine .cond (.t j0) (fun hc13 => ?_) (fun hc13 => ?_)
 ·refine .q 9 hG ?_
  refine .a0Y (α:=Nat) [(2,_),(4,_),(15,_),(16,_)] (fun i R=>(17,.v (i:Int))::R) (Function.const _ _) (fun i=>i≤a.B7.length∧∀ j (hj:j < a.B7.length),j < i→a4x k b a.B7[j]=false) (fun i=>a.B7.length - i) (0) (.c2 j0 j0 (.c2 j0 j0 (.nil _))) ?_ (.c2 j0 j0 (.c2 j0 j0 (.cons j0 (.nil _)))) (j0) fun i hF => ?_
  ·simp
  obtain⟨h1,h2⟩:=hF
  refine .q 6 hG ⟨fun hc18 => ?_,fun hc18 => ?_⟩
  ·refine .q 5 hG ?_
   refine .ix (by first|omega|(simp;done)|(simp;omega)|(simp at *;omega)) (by first|omega|(simp;done)|(simp;omega)|(simp at *;omega)) ?_
   refine .q 2 hG fun b9 => ?_
   refine .q 7 hG ?_
   refine .p (.b4f underlying28 sz5 underlying5 b9y (.t j0) (.t j0) ?_)
   refine .q 4 hG ?_
   refine .go 25 j0 (.t j0) (fun hg29 => .J7 hG (a0L _ _) (.cons (.q j0 hg29) (.cons (.q j0 hg29) .nil)) j0) ?_
   refine .q 2 hG ?_
   refine .cond (.t j0) (fun hc30 => ?_) (fun hc30 => ?_)
   ·refine .q 1 hG ?_
    have hb6:=hpl _ (List.getElem_mem (l:=a.B7) (n:=(i:Int).toNat) (by omega))
    refine .q 3 hG ?_
    refine .k hG (Q1 _ (by first|omega|(simp;done)|(simp;omega)|(simp at *;omega))) ?_
    refine .q 4 hG ?_
    refine .e2 j0 j0 j0 ?_
    rw [a6g hc13 (b6L (k:=i) (by omega) hc30 h2)];rfl
   ·refine .q 1 hG ?_
    refine .drop (.a4I 15 j0 fun hl15 => ?_)
    refine .q 1 hG ?_
    refine .ad (by first|omega|(simp;done)|(simp;omega)|(simp at *;omega)) (by first|omega|(simp;done)|(simp;omega)|(simp at *;omega)) ?_
    refine .q 2 hG ?_
    refine⟨i+1,.c2 rfl rfl (.c2 rfl rfl (.cons rfl (.nil _))),rfl,?_,by omega⟩
    refine⟨by omega,fun j hj hji => ?_⟩;rcases Nat.lt_or_ge j i with h|h;exact h2 j hj h;(obtain rfl:j=i:=by omega);exact hc30
  ·refine .q 7 hG ?_
   refine .e2 j0 j0 j0 ?_
   rw [b3g hc13 (b6M fun j hj=>h2 j hj (by omega))]
 ·refine .q 13 hG ?_
  refine .cond (.t j0) (fun hc42 => ?_) (fun hc42 => ?_)
  ·refine .q 6 hG ?_
   refine .e2 j0 j0 j0 ?_
   rw [b3h hc13 (by simp at hc42;omega)]
  ·refine .q 6 hG ?_
   refine .sb (by first|omega|(simp;done)|(simp;omega)|(simp at *;omega)) (by first|omega|(simp;done)|(simp;omega)|(simp at *;omega)) (.p (.c9v ty5 underlying34 (.t j0) (.t j0) (by first|omega|(simp;done)|(simp;omega)|(simp at *;omega)) (by first|omega|(simp;done)|(simp;omega)|(simp at *;omega)) ?_))
   refine .q 6 hG ?_
   refine .p (.J7 hG (b0A _ _ (by first|omega|(simp;done)|(simp;omega)|(simp at *;omega))) (.cons (.t j0) (.cons (.t j0) .nil)) ?_)
   refine .q 1 hG fun b11 => ?_
   refine .q 4 hG ?_
   refine .U2 hC .z (.asP 11 j0 .z (.draw (by kernel_rfl) 7 [[],[],[],[(53,2)],[(52,1),(54,3)],[(51,0),(55,4)],[(56,5)]] j0 (by kernel_rfl) j0 ?_))
   refine⟨_,OpP.a1W (by decide) a1s (.t j0) j0,?_⟩
   refine⟨_,OpP.move (.t j0) j0,?_⟩
   refine⟨_,OpP.move (.t j0) j0,?_⟩
   refine⟨_,OpP.len underlying34 (.t j0) j0,?_⟩
   refine⟨_,OpP.c4Z ty5 underlying34 (.t j0) (.t j0) (by first|omega|(simp;done)|(simp;omega)|(simp at *;omega)) (by first|omega|(simp;done)|(simp;omega)|(simp at *;omega)) j0,?_⟩
   refine⟨_,OpP.J7 hG (c5v _ _) (.cons (.t j0) (.cons (.t j0) .nil)) j0,?_⟩
   refine⟨_,OpP.not (.t j0) j0,?_⟩
   show wpB _ _ _ _ _ [] ((57,_)::(56,_)::(55,_)::(54,_)::(53,_)::(52,_)::(51,_)::_) _
   refine .q 1 hG ?_
   refine .cond (.t j0) (fun hc57 => ?_) (fun hc57 => ?_)
   ·refine .q 6 hG ?_
    refine .e2 j0 j0 j0 ?_
    have e1:((b.length:Int) - 32).toNat=b.length - 32:=by omega
    have e2:(List.take (b.length - 32) b).length=b.length - 32:=by simp
    rw [e1,Int.toNat_natCast,e2] at hc57
    rw [b4W hc13 (by simp at hc42;omega) (by simpa using hc57)]
   ·refine .q 2 hG ?_
    refine .draw (by kernel_rfl) 8 [[],[],[(59,1)],[],[(61,3)],[(58,0),(60,2),(62,4)],[(63,5)],[]] j0 (by kernel_rfl) j0 ?_
    refine⟨_,OpP.ldP U0 (.t j0) j0,?_⟩
    refine⟨_,OpP.move (.t j0) j0,?_⟩
    refine⟨_,OpP.c9v ty5 underlying34 (.t j0) (.i j0) (by first|omega|(simp;done)|(simp;omega)|(simp at *;omega)) (by first|omega|(simp;done)|(simp;omega)|(simp at *;omega)) j0,?_⟩
    refine⟨_,OpP.move (.t j0) j0,?_⟩
    refine⟨_,OpP.c4Z ty5 underlying34 (.t j0) (.i j0) (by first|omega|(simp;done)|(simp;omega)|(simp at *;omega)) (by first|omega|(simp;done)|(simp;omega)|(simp at *;omega)) j0,?_⟩
    refine⟨_,OpP.J7 hG ((b8O _ _ _ (by first|omega|(simp;done)|(simp;omega)|(simp at *;omega)) (by first|omega|(simp;done)|(simp;omega)|(simp at *;omega))).b2O) (.cons (.t j0) (.cons (.t j0) (.cons (.t j0) .nil))) j0,?_⟩
    refine⟨_,OpP.assign (.t j0) j0,?_⟩
    refine⟨_,OpP.assign (.i j0) j0,?_⟩
    show wpB _ _ _ _ _ [] ((7,_)::(6,_)::(63,_)::(62,_)::(61,_)::(60,_)::(59,_)::(58,_)::_) _
    refine .q 2 hG ?_
    refine .e2 j0 j0 j0 ?_
    have e1:((b.length:Int) - 32).toNat=b.length - 32:=by omega
    have e2:(List.take (b.length - 32) b).length=b.length - 32:=by simp
    rw [e1,Int.toNat_natCast,e2] at hc57
    rw [b0E hc13 (by simp at hc42;omega) (by simpa using hc57),e1];rfl
def a4M (b:List UInt8):Nat→UInt64
 | 0=>0
 | i+1=>256*a4M b i+(b.getD i 0).toUInt64
theorem b6Z (b:List UInt8)(j:Nat)(h:(j:Int).toNat < b.length):256*a4M b j+(b[(j:Int).toNat]'h).toUInt64=a4M b (j+1):=by
 have e:b.getD j 0=b[(j:Int).toNat]'h:=by
  rw [List.getD_eq_getElem?_getD,List.getElem?_eq_getElem (by omega)];rfl
 rw [a4M,e]
theorem d0P (n:UInt64)(k:Nat)(hk:k < 64):(n >>> UInt64.ofNat k).toUInt8.toNat=n.toNat/2^k % 256:=by
 rw [UInt64.toNat_toUInt8,UInt64.toNat_shiftRight,UInt64.toNat_ofNat_of_lt' (by have:UInt64.size=18446744073709551616:=rfl;omega),Nat.mod_eq_of_lt hk,Nat.shiftRight_eq_div_pow]
theorem b0F (b:List UInt8)(h:8≤b.length):W5 (a4M b 8) 8=b.take 8:=by
 obtain⟨c0,c1,c2,c3,c4,c5,c6,c7,r,rfl⟩:∃ c0 c1 c2 c3 c4 c5 c6 c7 r,b=c0::c1::c2::c3::c4::c5::c6::c7::r:=by
  match b,h with
  | c0::c1::c2::c3::c4::c5::c6::c7::r,_=>exact⟨_,_,_,_,_,_,_,_,_,rfl⟩
 have l0:=c0.toNat_lt;have l1:=c1.toNat_lt;have l2:=c2.toNat_lt;have l3:=c3.toNat_lt
 have l4:=c4.toNat_lt;have l5:=c5.toNat_lt;have l6:=c6.toNat_lt;have l7:=c7.toNat_lt
 have hN:(a4M (c0::c1::c2::c3::c4::c5::c6::c7::r) 8).toNat=256*(256*(256*(256*(256*(256*(256*c0.toNat+c1.toNat)+c2.toNat)+c3.toNat)+c4.toNat)+c5.toNat)+c6.toNat)+c7.toNat:=by
  simp only [a4M,UInt64.toNat_add,UInt64.toNat_mul,List.getD_cons_zero,List.getD_cons_succ,UInt8.toNat_toUInt64,UInt64.toNat_ofNat]
  omega
 generalize a4M (c0::c1::c2::c3::c4::c5::c6::c7::r) 8=n at hN
 have key:∀ (k:Nat) (c:UInt8),k < 64→n.toNat/2^k % 256=c.toNat→(n >>> UInt64.ofNat k).toUInt8=c:=fun k c hk h=>UInt8.toNat_inj.1 ((d0P n k hk).trans h)
 have e:W5 n 8 = [(n >>> UInt64.ofNat (56 - 8*0)).toUInt8,(n >>> UInt64.ofNat (56 - 8*1)).toUInt8,(n >>> UInt64.ofNat (56 - 8*2)).toUInt8,(n >>> UInt64.ofNat (56 - 8*3)).toUInt8,(n >>> UInt64.ofNat (56 - 8*4)).toUInt8,(n >>> UInt64.ofNat (56 - 8*5)).toUInt8,(n >>> UInt64.ofNat (56 - 8*6)).toUInt8,(n >>> UInt64.ofNat (56 - 8*7)).toUInt8]:=rfl
 rw [e]
 simp only [List.take_succ_cons,List.take_zero]
 rw [key (56 - 8*0) c0 (by omega) (by simp;omega),key (56 - 8*1) c1 (by omega) (by simp;omega),key (56 - 8*2) c2 (by omega) (by simp;omega),key (56 - 8*3) c3 (by omega) (by simp;omega),
  key (56 - 8*4) c4 (by omega) (by simp;omega),key (56 - 8*5) c5 (by omega) (by simp;omega),key (56 - 8*6) c6 (by omega) (by simp;omega),key (56 - 8*7) c7 (by omega) (by simp;omega)]
theorem b4X (n:UInt64):∀ k,k≤8→(W5 n k).foldl (fun a c=>256*a+c.toNat) 0=n.toNat/2^(64 - 8*k):=by
 intro k
 induction k with
 | zero=>intro _;have:=n.toNat_lt;simp [W5];omega
 | succ k ih =>
  intro hk
  rw [a1U,List.foldl_append,ih (by omega)]
  simp only [List.foldl_cons,List.foldl_nil]
  rw [d0P n (56 - 8*k) (by omega)]
  have e1:2^(64 - 8*k)=256*2^(56 - 8*k):=by
   rw [show 64 - 8*k=8+(56 - 8*k) by omega,Nat.pow_add]
  rw [show 64 - 8*(k+1)=56 - 8*k by omega,e1,Nat.mul_comm 256 (2^(56 - 8*k)),←Nat.div_div_eq_div_mul]
  generalize n.toNat/2^(56 - 8*k)=q
  omega
theorem b4Y {m n:UInt64}(h:W5 m 8=W5 n 8):m=n:=by
 have h1:=b4X m 8 (by omega)
 have h2:=b4X n 8 (by omega)
 rw [h,h2] at h1
 apply UInt64.toNat_inj.1
 simpa using h1.symm
abbrev Cav:=y1
def b7a {α:Type}(f:α→List UInt8)(l:List α):List UInt8:=(l.map f).flatten
theorem c0d {α:Type}(f:α→List UInt8)(l:List α)(k:Nat)(h:k < l.length):b7a f (l.take (k+1))=b7a f (l.take k)++f l[k]:=by
 unfold b7a;rw [List.take_succ_eq_append_getElem h,List.map_append,List.flatten_append];simp
def S5 (c:Cav):Bool :=
 if c.a0l then decide (c.X3=default)&&decide (0≤c.U3)&&decide (c.U3≤7)&&(decide (1≤c.L7.length)&&decide (c.L7.length≤1024))&&(decide (1≤c.O8.length)&&decide (c.O8.length≤1024))
 else I9 c.X3&&decide (c.U3=0)&&decide (c.L7.length=0)&&decide (c.O8.length=0)
def a3M (x:List UInt8):List UInt8:=D5 x.length++x
def D9 (c:Cav):List UInt8:=if c.a0l then 2::(D5 c.U3.toNat++a3M c.L7++a3M c.O8) else 1::E0 c.X3
def V1 (c:Cav):List UInt8×Int:=if S5 c then (D9 c,0) else ([],5)
theorem a4y {x:List UInt8}(h:x.length≤1024):(a3M x).length≤1031:=by
 have:=H4 (n:=x.length) (by omega)
 unfold a3M;rw [List.length_append];omega
theorem a3v {c:Cav}(h:S5 c=true)(h3:c.a0l=true):c.X3=default∧0≤c.U3∧c.U3≤7∧1≤c.L7.length∧c.L7.length≤1024∧1≤c.O8.length∧c.O8.length≤1024:=by
 unfold S5 at h;rw [if_pos h3] at h
 simp only [Bool.and_eq_true,decide_eq_true_eq] at h
 obtain⟨⟨⟨⟨a,b⟩,c⟩,d,e⟩,f,g⟩:=h
 exact⟨a,b,c,d,e,f,g⟩
theorem a3w {c:Cav}(h:S5 c=true)(h3:c.a0l=false):I9 c.X3=true∧c.U3=0∧c.L7 = []∧c.O8 = []:=by
 unfold S5 at h;rw [if_neg (by rw [h3];decide)] at h
 simp only [Bool.and_eq_true,decide_eq_true_eq,List.length_eq_zero_iff] at h
 obtain⟨⟨⟨a,b⟩,c⟩,d⟩:=h
 exact⟨a,b,c,d⟩
theorem a4z {c:Cav}(h:S5 c=true):(D9 c).length≤2100:=by
 unfold D9
 cases h3:c.a0l
 ·obtain⟨h1,_⟩:=a3w h h3
  have:=a3L (a34 h1)
  simp;omega
 ·obtain⟨_,p0,p1,_,t1,_,b1⟩:=a3v h h3
  have l1:=H4 (n:=c.U3.toNat) (by omega)
  have l2:=a4y t1
  have l3:=a4y b1
  simp;omega
def a07 (l:List Cav):List Pred:=(l.filter fun c => !c.a0l).map (·.X3)
theorem a7o (l:List Cav)(k:Nat)(h:k < l.length):a07 (l.take (k+1))=a07 (l.take k)++if l[k].a0l then [] else [l[k].X3]:=by
 unfold a07;rw [List.take_succ_eq_append_getElem h,List.filter_append,List.map_append]
 cases h2:l[k].a0l<;>simp [h2]
theorem b4Z (l:List Cav):(a07 l).length≤l.length:=by
 unfold a07;rw [List.length_map];exact List.length_filter_le _ _
def a1F (n:Int):List UInt8 := [109,105,110,116]++D5 n.toNat
def a35 (e n:Int):Bool:=decide (1≤e)&&decide (e≤1000)&&decide (1≤n)&&decide (n≤1073741824)
theorem b8P (b:List UInt8):C4 gl prog 260 [.v b] (fun r=>r = .v (decide (1≤b.length)&&decide (b.length≤1024))):=by
 refine C4.jn func260 (by kernel_rfl) 11 rfl fun C hC hG => ?_
 refine .q 17 hG ?_
 refine .e1 j0 j0 ?_
 refine congrArg AV.v ?_;congr 1<;>(rw [decide_eq_decide];omega)
theorem a6A (c:Cav):C4 gl prog 248 [.v c] (fun r=>r = .v (S5 c)):=by
 refine C4.jn func248 (by kernel_rfl) 50 rfl fun C hC hG => ?_
 refine .q 3 hG fun b1 => ?_
 refine .q 4 hG ?_
 refine .U2 hC .z (.asP 1 j0 .z ?_)
 refine .q 5 hG ?_
 refine .cond (.t j0) (fun hc5 => ?_) (fun hc5 => ?_)
 ·refine .q 4 hG ?_
  refine .k hG (a5v _) ?_
  refine .q 20 hG ?_
  refine .e1 j0 j0 ?_
  refine congrArg AV.v ?_
  unfold S5
  simp_all
 ·refine .q 5 hG ?_
  refine .p (.bS0 (α:=o6) j0 a6d c1T (.p (.a5l a0x (by decide) j0 (by kernel_rfl) (.t j0) (.t j0) ?_)))
  refine .q 13 hG ?_
  refine .kg hG (b8P _) ?_
  refine .q 4 hG ?_
  refine .kg hG (b8P _) ?_
  refine .q 4 hG ?_
  refine .e1 j0 j0 ?_
  refine congrArg AV.v ?_
  unfold S5
  simp_all
theorem a5R {c:Cav}(h:S5 c=true):V1 c=(D9 c,0):=by unfold V1;rw [if_pos h]
theorem c0e {c:Cav}(h:¬S5 c=true):V1 c=([],5):=by unfold V1;rw [if_neg h]
theorem b5a (l:List Cav)(hl:l.length≤1000000):C4 gl prog 250 [.v l] (fun r=>r = .v (a07 l)):=by
 refine C4.jn func250 (by kernel_rfl) 22 rfl fun C hC hG => ?_
 refine .q 6 hG ?_
 refine .p (.assign .raw ?_)
 refine .q 3 hG ?_
 refine .a78 131 Pred ?_
 refine .q 6 hG ?_
 refine .a0Y (α:=Nat×Value) [(6,_),(7,_)] (fun x R=>(3,.raw x.2)::(8,.v (x.1:Int))::R) (fun x => [(true,.own 131 x.2 (a07 (l.take x.1)))]) (fun x=>x.1≤l.length) (fun x=>l.length - x.1) ((0,.slice none 0 0)) (.c2 j0 j0 (.nil _)) ?_ (.c2 j0 j0 (.c2 j0 j0 (.nil _))) (j0) fun x hF => ?_
 ·simp
 obtain⟨k,w⟩:=x
 dsimp only at hF ⊢
 have hfl:(a07 (l.take k)).length≤1000000:=Nat.le_trans (b4Z _) (by simp;omega)
 refine .q 6 hG ⟨fun hc9 => ?_,fun hc9 => ?_⟩
 ·refine .q 5 hG ?_
  refine .ix (by first|omega|(simp;done)|(simp;omega)|(simp at *;omega)) (by first|omega|(simp;done)|(simp;omega)|(simp at *;omega)) ?_
  refine .q 2 hG fun b5 => ?_
  refine .q 3 hG ?_
  refine .U2 hC .z (.asP 5 j0 .z (.drop ?_))
  refine .q 5 hG ?_
  refine .cond (.t j0) (fun hc14 => ?_) (fun hc14 => ?_)
  ·refine .q 4 hG ?_
   refine .bs j0 (by decide) fun b18 => ?_
   refine .ap (by first|omega|(simp;done)|(simp;omega)|(simp at *;omega)) (by first|omega|(simp;done)|(simp;omega)|(simp at *;omega)) fun w19 => ?_
   refine .q 1 hG ?_
   refine .drop ?_
   refine .q 2 hG ?_
   refine .ad (by first|omega|(simp;done)|(simp;omega)|(simp at *;omega)) (by first|omega|(simp;done)|(simp;omega)|(simp at *;omega)) ?_
   refine .q 2 hG ?_
   refine⟨(k+1,_),.c2 rfl rfl (.c2 rfl rfl (.nil _)),congrArg (fun q => [(true,C3.own _ _ q)]) (by dsimp only;rw [a7o l k (by omega)];simp_all),?_,by dsimp only;omega⟩
   dsimp only;omega
  ·refine .q 2 hG ?_
   refine .ad (by first|omega|(simp;done)|(simp;omega)|(simp at *;omega)) (by first|omega|(simp;done)|(simp;omega)|(simp at *;omega)) ?_
   refine .q 2 hG ?_
   refine⟨(k+1,_),.c2 rfl rfl (.c2 rfl rfl (.nil _)),congrArg (fun q => [(true,C3.own _ _ q)]) (by dsimp only;rw [a7o l k (by omega)];simp_all),?_,by dsimp only;omega⟩
   dsimp only;omega
 ·refine .q 2 hG ?_
  refine .Q7 hC .z (.as 3 j0 .z ?_)
  refine .q 5 hG ?_
  refine .e1 j0 j0 ?_
  refine congrArg AV.v ?_
  rw [List.take_of_length_le (by omega)]
theorem b5b (c:Cav):C4 gl prog 226 [.v c] (fun r=>r = .t2 (.v (V1 c).1) (.v (V1 c).2)):=by
 refine C4.jn func226 (by kernel_rfl) 52 rfl fun C hC hG => ?_
 refine .q 3 hG fun b1 => ?_
 refine .q 5 hG ?_
 refine .U2 hC .z (.asP 1 j0 .z ?_)
 refine .q 2 hG ?_
 refine .k hG (a6A _) ?_
 refine .q 2 hG ?_
 refine .cond (.t j0) (fun hc12 => ?_) (fun hc12 => ?_)
 ·refine .q 6 hG ?_
  refine .e2 j0 j0 j0 ?_
  rw [c0e (by simpa using hc12)]
 ·refine .q 3 hG ?_
  have hco:S5 c=true:=by simpa using hc12
  refine .q 5 hG ?_
  refine .cond (.t j0) (fun hc15 => ?_) (fun hc15 => ?_)
  ·refine .q 4 hG ?_
   refine .k hG (c0b _) ?_
   refine .q 7 hG ?_
   have h15:c.a0l=false:=by simpa using hc15
   obtain⟨hpo,-⟩:=a3w hco h15
   have hpl:=a3L (a34 hpo)
   rw [M8 hpo]
   refine .q 1 hG ?_
   refine .bs j0 (by decide) fun b22 => ?_
   refine .q 1 hG ?_
   refine .ap (by first|omega|(simp;done)|(simp;omega)|(simp at *;omega)) (by first|omega|(simp;done)|(simp;omega)|(simp at *;omega)) fun w24 => ?_
   refine .q 4 hG ?_
   refine .Q7 hC .z (.as 2 j0 .z ?_)
   refine .q 1 hG ?_
   refine .e2 j0 j0 j0 ?_
   rw [a5R hco]
   unfold D9
   rw [h15]
   rfl
  ·refine .q 2 hG ?_
   obtain⟨g1,g2,g3,g4,g5,g6,g7⟩:=a3v hco (by simpa using hc15)
   have hn:=H4 (n:=c.U3.toNat) (by omega)
   refine .q 1 hG ?_
   refine .bs j0 (by decide) fun b27=>(.Q7 hC .z (.as 27 j0 .z ?_))
   refine .q 2 hG ?_
   refine .p (.J7 hG ((a0i _ _ (by first|omega|(simp;done)|(simp;omega)|(simp at *;omega)) (by omega) (by omega)).b9E) (.cons (.t j0) (.cons (.t j0) .nil)) ?_)
   refine .q 13 hG ?_
   refine .p (.a1y (⟨[_,_],j0⟩:(M4 2 (List UInt8))) d2G c7e (.cons (j9.idx 0 (by decide)) _ j0 (.t j0) (.cons (j9.idx 1 (by decide)) _ j0 (.t j0) .nil)) j0 ?_)
   refine .q 3 hG ?_
   refine .a0Y (α:=Nat×List UInt8) [(37,_)] (fun x R=>(6,.v x.2)::(7,.v (0:Int))::(38,.v (x.1:Int))::R) (Function.const _ _) (fun x=>x.1≤2∧x.2 = [2]++D5 c.U3.toNat++b7a a3M ([c.L7,c.O8].take x.1)) (fun x=>2 - x.1) ((0,[2]++D5 c.U3.toNat)) (.cons j0 (.nil _)) ?_ (.c2 j0 j0 (.c2 j0 j0 (.nil _))) (j0) fun x hF => ?_
   ·exact⟨Nat.zero_le _,by simp [b7a]⟩
   obtain⟨k,y⟩:=x
   obtain⟨h1,h2⟩:=hF
   dsimp only at h1 h2 ⊢
   have hy:y.length≤3000:=(by have h5:=a4y g5;have h7:=a4y g7;have h8:k=0∨k=1∨k=2:=(by omega);rw [h2];rcases h8 with rfl|rfl|rfl<;>simp [b7a]<;>omega)
   have hxk:∀ (h:k < [c.L7,c.O8].length),([c.L7,c.O8][k]).length≤1024:=(by intro h;have h8:k=0∨k=1:=(by simp at h;omega);rcases h8 with rfl|rfl;exact g5;exact g7)
   refine .q 6 hG ⟨fun hc39 => ?_,fun hc39 => ?_⟩
   ·refine .q 5 hG ?_
    refine .p (.ix c7e j0 (.t j0) (.t j0) (by first|omega|(simp;done)|(simp;omega)|(simp at *;omega)) (by first|omega|(simp;done)|(simp;omega)|(simp at *;omega)) ?_)
    refine .q 7 hG ?_
    refine .a0q (.t j0) (fun hc42 => ?_) (fun hc42=>(by exfalso;exact hc42 rfl))
    refine .q 3 hG ?_
    refine .p (.J7 hG (a9B _ _ (by first|omega|(simp;done)|(simp;omega)|(simp at *;omega)) (hxk (by simp;omega))) (.cons (.t j0) (.cons (.t j0) .nil)) ?_)
    refine .q 7 hG ?_
    refine .ad (by first|omega|(simp;done)|(simp;omega)|(simp at *;omega)) (by first|omega|(simp;done)|(simp;omega)|(simp at *;omega)) ?_
    refine .q 2 hG ?_
    refine⟨(k+1,_),.c2 rfl rfl (.c2 rfl rfl (.nil _)),rfl,?_,by dsimp only;omega⟩
    refine⟨by omega,?_⟩;rw [c0d a3M _ k (by simp;omega),←List.append_assoc,←h2];simp [a3M]
   ·refine .q 2 hG ?_
    skip
    refine .q 7 hG ?_
    refine .e2 j0 j0 j0 ?_
    obtain rfl:k=2:=(by omega)
    rw [a5R hco]
    unfold D9
    rw [if_pos (by simpa using hc15),h2]
    simp [b7a,a3M]
def U4 (b:List UInt8):Nat:=(b.take 7).findIdx fun c => !decide (127 < c)
def a19:List UInt8→Nat
 | []=>0
 | c::l=>c.toNat % 128+128*a19 l
theorem b3i:∀ l:List UInt8,a19 l < 128^l.length
 | []=>by decide
 | c::l=>by
  have:=b3i l
  rw [List.length_cons,Nat.pow_succ];unfold a19;omega
def I6 (b:List UInt8):Int×Int×Int :=
 if U4 b=7 then (0,0,5) else if U4 b=b.length then (0,0,3) else
 if (decide (0 < U4 b)&&decide (b.getD (U4 b) 0=0)) then (0,0,5) else
 if 281474976710656 < a19 (b.take (U4 b+1)) then (0,0,1) else ((a19 (b.take (U4 b+1)):Int),(U4 b:Int)+1,0)
theorem b0G (b:List UInt8):U4 b≤7∧U4 b≤b.length:=by
 have h:=List.findIdx_le_length (p:=fun c:UInt8 => !decide (127 < c)) (xs:=b.take 7)
 rw [List.length_take] at h
 unfold U4;omega
theorem a7p {b:List UInt8}{k:Nat}(h1:k≤7)(h2:k≤b.length)(h3:∀ j (hj:j < b.length),j < k→decide (127 < b[j])=true)(h4:k=7∨k=b.length∨∃ h:k < b.length,decide (127 < b[k])=false):U4 b=k:=by
 unfold U4
 by_cases e:k < (b.take 7).length
 ·rw [List.findIdx_eq e]
  rw [List.length_take] at e
  refine⟨?_,fun j hj => ?_⟩
  ·rcases h4 with h4|h4|⟨h4,h5⟩
   ·omega
   ·omega
   ·simp only [List.getElem_take];rw [h5];rfl
  ·simp only [List.getElem_take];rw [h3 j (by omega) hj];rfl
 ·rw [List.length_take] at e
  have:(b.take 7).length=k:=by rw [List.length_take];omega
  rw [←this]
  refine List.findIdx_eq_length.2 fun x hx => ?_
  obtain⟨j,hj,rfl⟩:=List.getElem_of_mem hx
  simp only [List.getElem_take]
  rw [List.length_take] at hj
  rw [h3 j (by omega) (by omega)];rfl
theorem a1g (b:List UInt8):0≤(I6 b).2.1∧(I6 b).2.1≤b.length:=by
 have h:=b0G b
 unfold I6
 split
 ·exact⟨Int.le_refl _,Int.natCast_nonneg _⟩
 ·split
  ·exact⟨Int.le_refl _,Int.natCast_nonneg _⟩
  ·split
   ·exact⟨Int.le_refl _,Int.natCast_nonneg _⟩
   ·split
    ·exact⟨Int.le_refl _,Int.natCast_nonneg _⟩
    ·dsimp only;omega
end Go.Proofs.YtfdifhfnpbphaaaGreatDoor
namespace Go.Ab
open Go.Lib
end Go.Ab
namespace Go.Ab
open Go.Fl Go.RowKit Go.Shelf Go.Proofs
open u3 (rep)
section
variable {P:Program}{N:Nat}{C:Ctx}{σ:o8}{H:j8}{K:AV→Prop}{d:Option Nat}{ty:TypeId}{ps:String}{af:Array Edge}{g:Option (Nat×Bool)}{x y:Operand}{T T2:TypeId}
theorem OpP.d2X {m n:Int}(hx:G5 C σ H x (.v m))(hy:G5 C σ H y (.v n))(h0:0≤n)(h1:n < 64)(h2:0≤m*2^n.toNat)(h3:m*2^n.toNat≤9223372036854775807)(k:K (.v (m*2^n.toNat))):OpP P N C ⟨d,.binOp .shl T x y T2,ty,ps,af,g⟩ σ H K :=
 .vk k (fun ρ I L hs=>by
  refine .mk ⟨_,⟨rfl,by omega,h3⟩,rfl⟩ fun a w ha hm => ?_
  have e:binOp .shl T (i64 m) (i64 n)=pure (i64 (m*2^n.toNat)):=by
   show Op.shift .shl .i64 m .i64 n=_
   unfold Op.shift
   rw [if_neg (by omega)]
   have e2:min n.toNat (IntKind.bits .i64)=n.toNat:=by simp [IntKind.bits];omega
   simp only [e2,wrap_i64 (n:=m*2^n.toNat) (by omega) h3]
  simp only [execOp,ha.ev (hx.int hs).1,ha.ev (hy.int hs).1,eqGuard]
  simp [e,asV,u3.agg])
end
end Go.Ab
namespace Go.Proofs.YtfdifhfnpbphaaaGreatDoor
open Go.Proofs.Tryz
open Go.Fl Go.Ab Go.Mac Go.Sha
theorem b1Y (c:UInt8):∀ l:List UInt8,a19 (l ++ [c])=a19 l+128^l.length*(c.toNat % 128)
 | []=>by simp [a19]
 | x::l=>by
  have ih:=b1Y c l
  rw [List.cons_append]
  simp only [a19,ih,List.length_cons,Nat.pow_succ]
  rw [Nat.mul_add,←Nat.mul_assoc,Nat.mul_comm 128 (128^l.length)];omega
def a5x:List UInt8→Prop
 | []=>False
 | [c]=>c.toNat < 128
 | c::d::l=>127 < c.toNat∧a5x (d::l)
theorem a5x.at:∀ {l:List UInt8},a5x l→∀ j (hj:j < l.length),(j+1 < l.length→127 < l[j].toNat)∧(j+1=l.length→l[j].toNat < 128)
 | [],h,_,_=>h.elim
 | [c],h,j,hj=>by
  have:j=0:=by simpa using hj
  subst this
  exact⟨fun h2=>absurd h2 (by simp),fun _=>h⟩
 | c::d::l,h,0,_=>⟨fun _=>h.1,fun h2=>absurd h2 (by simp)⟩
 | c::d::l,h,j+1,hj=>by
  have ih:=a5x.at h.2 j (by simpa using hj)
  refine⟨fun h2=>ih.1 (by simpa using h2),fun h2=>ih.2 (by simpa using h2)⟩
theorem a5x.val:∀ {l:List UInt8},a5x l→l.getLast?≠some 0→0 < a19 l
 | [],h,_=>h.elim
 | [c],h,hn=>by
  have h:c.toNat < 128:=h
  have:c.toNat≠0:=fun e=>hn (by rw [show c=0 from UInt8.toNat_inj.1 e];rfl)
  simp only [a19];omega
 | c::d::l,h,hn=>by
  have ih:=a5x.val h.2 (by rw [List.getLast?_cons_cons] at hn;exact hn)
  rw [a19];omega
theorem a7q (c:UInt8):UInt8.ofNat c.toNat=c:=by apply UInt8.toNat_inj.1;simp
theorem a5x.num:∀ {l:List UInt8},a5x l→(l.length=1∨l.getLast?≠some 0)→D5 (a19 l)=l
 | [],h,_=>h.elim
 | [c],h,_=>by
  have h:c.toNat < 128:=h
  have e:a19 [c]=c.toNat:=by simp only [a19];omega
  rw [e,a3u h,a7q]
 | c::d::l,h,hn=>by
  have hn2:(d::l).getLast?≠some 0:=by
   rcases hn with hn|hn
   ·simp at hn
   ·rw [List.getLast?_cons_cons] at hn;exact hn
  have hv:=a5x.val h.2 hn2
  have ih:=a5x.num h.2 (.inr hn2)
  have h1:=h.1
  have h2:=c.toNat_lt
  rw [a19,a9A (by omega)]
  have e1:(c.toNat % 128+128*a19 (d::l)) % 128+128=c.toNat:=by omega
  have e2:(c.toNat % 128+128*a19 (d::l))/128=a19 (d::l):=by omega
  rw [e1,e2,ih,a7q]
theorem c22 (n:Nat):a5x (D5 n)∧a19 (D5 n)=n∧(n≠0→(D5 n).getLast?≠some 0):=by
 induction n using Nat.strongRecOn with
 | _ n ih =>
  by_cases h:n < 128
  ·have e:(UInt8.ofNat n).toNat=n:=by simp;omega
   rw [a3u h]
   refine⟨show(UInt8.ofNat n).toNat < 128 by omega,by simp only [a19,e];omega,fun h0 h1 => ?_⟩
   have:UInt8.ofNat n=0:=by simpa using h1
   rw [this] at e
   exact h0 e.symm
  ·obtain⟨h1,h2,h3⟩:=ih (n/128) (by omega)
   have e:(UInt8.ofNat (n % 128+128)).toNat=n % 128+128:=by simp;omega
   rw [a9A h]
   cases hl:D5 (n/128) with
   | nil=>rw [hl] at h1;exact h1.elim
   | cons d r =>
    rw [hl] at h1 h2 h3
    refine⟨⟨by omega,h1⟩,by rw [a19,e,h2];omega,fun _ => ?_⟩
    rw [List.getLast?_cons_cons];exact h3 (by omega)
theorem b8Q {c:UInt8}:decide (127 < c)=decide (127 < c.toNat):=decide_eq_decide.2 UInt8.lt_iff_toNat_lt
theorem c0f {l:List UInt8}(t:List UInt8)(h:a5x l)(hl:l.length≤7):U4 (l++t)=l.length - 1:=by
 have h0:0 < l.length:=by
  cases l with
  | nil=>exact h.elim
  | cons=>simp
 refine a7p (by omega) (by simp;omega) (fun j hj hjk => ?_) (.inr (.inr ⟨by simp;omega,?_⟩))
 ·rw [List.getElem_append_left (show j < l.length by omega),b8Q,decide_eq_true ((h.at j (by omega)).1 (by omega))]
 ·rw [List.getElem_append_left (show l.length - 1 < l.length by omega),b8Q]
  have:=(h.at (l.length - 1) (by omega)).2 (by omega)
  exact decide_eq_false (by omega)
theorem a5S {n:Nat}(t:List UInt8)(h:n≤281474976710656):I6 (D5 n++t)=((n:Int),((D5 n).length:Int),0):=by
 obtain⟨h1,h2,h3⟩:=c22 n
 have h7:=H4 h
 have h0:=b0C n
 have hc:=c0f t h1 h7
 have e1:(D5 n).length - 1+1=(D5 n).length:=by omega
 unfold I6
 rw [hc,if_neg (by omega),if_neg (by simp;omega),if_neg,e1,List.take_left' rfl,h2,if_neg (by omega)]
 ·congr 2;omega
 ·simp only [Bool.and_eq_true,decide_eq_true_eq,not_and]
  intro hp he
  have hn:n≠0:=by
   intro e;subst e
   rw [a3u (by decide)] at hp
   simp at hp
  apply h3 hn
  rw [List.getLast?_eq_getElem?]
  rw [List.getD_eq_getElem?_getD,List.getElem?_append_left (by omega),List.getElem?_eq_getElem (by omega)] at he
  rw [List.getElem?_eq_getElem (by omega)]
  exact congrArg some he
theorem b7b (b:List UInt8):(∀ i (h:i < b.length),i < U4 b→127 < b[i].toNat)∧(∀ h:U4 b < b.length,U4 b < 7→b[U4 b].toNat < 128):=by
 have hle:=b0G b
 constructor
 ·intro i h hi
  unfold U4 at hi
  have h2:i < (b.take 7).length:=Nat.lt_of_lt_of_le hi (List.findIdx_le_length)
  have:=List.not_of_lt_findIdx hi
  simp only [List.getElem_take] at this
  rw [b8Q] at this
  simpa using this
 ·intro h h7
  have h2:(b.take 7).findIdx (fun c:UInt8 => !decide (127 < c)) < (b.take 7).length:=by
   rw [List.length_take];show U4 b < _;omega
  have:=List.findIdx_getElem (w:=h2)
  simp only [List.getElem_take] at this
  rw [b8Q] at this
  have h3:(!decide (127 < b[U4 b].toNat))=true:=this
  simp at h3;omega
theorem a5x.b8R:∀ (j:Nat) (l:List UInt8) (hj:j < l.length),(∀ i (h:i < l.length),i < j→127 < l[i].toNat)→l[j].toNat < 128→a5x (l.take (j+1))
 | _,[],hj,_,_=>absurd hj (Nat.not_lt_zero _)
 | 0,c::r,_,_,h=>h
 | j+1,[c],hj,_,_=>absurd hj (by simp)
 | j+1,c::d::r,hj,hi,h=>by
  have ih:=a5x.b8R j (d::r) (by simpa using hj) (fun i hl h2=>hi (i+1) (by simpa using hl) (by omega)) h
  exact⟨hi 0 (by simp) (by omega),ih⟩
theorem a7r {b:List UInt8}{v k:Int}(h:I6 b=(v,k,0)):0≤v∧v≤281474976710656∧1≤k∧k≤b.length∧b.take k.toNat=D5 v.toNat:=by
 have hle:=b0G b
 obtain⟨hs1,hs2⟩:=b7b b
 unfold I6 at h
 split at h
 ·simp at h
 ·rename_i c1
  split at h
  ·simp at h
  ·rename_i c2
   split at h
   ·simp at h
   ·rename_i c3
    split at h
    ·simp at h
    ·rename_i c4
     simp only [Prod.mk.injEq,and_true] at h
     obtain⟨rfl,rfl⟩:=h
     have hj:U4 b < b.length:=by omega
     have hcan:=a5x.b8R (U4 b) b hj hs1 (hs2 hj (by omega))
     have hlen:(b.take (U4 b+1)).length=U4 b+1:=by rw [List.length_take];omega
     refine⟨by omega,by omega,by omega,by omega,?_⟩
     rw [show((U4 b:Int)+1).toNat=U4 b+1 by omega,Int.toNat_natCast,hcan.num]
     by_cases h0:U4 b=0
     ·left;rw [hlen,h0]
     ·right
      intro e
      rw [List.getLast?_eq_getElem?,hlen,Nat.add_sub_cancel,List.getElem?_take_of_lt (by omega),List.getElem?_eq_getElem hj] at e
      apply c3
      rw [decide_eq_true (show 0 < U4 b by omega),Bool.true_and,decide_eq_true_eq,List.getD_eq_getElem?_getD,List.getElem?_eq_getElem hj]
      exact Option.some.inj e
theorem c23 (m:UInt64)(t:List UInt8):a4M (W5 m 8++t) 8=m:=by
 have h:=b0F (W5 m 8++t) (by simp [K8])
 rw [List.take_left' (K8 m 8)] at h
 exact b4Y h
theorem c77 (m:UInt64)(x:UInt8):(m <<< 8) ||| x.toUInt64=256*m+x.toUInt64:=by
 apply UInt64.toNat_inj.1
 have hx:=x.toNat_lt
 have hm:=m.toNat_lt
 have h1:(m <<< 8).toNat=2^8*(m.toNat % 2^56):=by
  rw [UInt64.toNat_shiftLeft]
  show m.toNat <<< 8 % 2^64=_
  rw [Nat.shiftLeft_eq];omega
 rw [UInt64.toNat_or,h1,UInt8.toNat_toUInt64,←Nat.two_pow_add_eq_or_of_lt (by omega),UInt64.toNat_add,UInt64.toNat_mul,UInt8.toNat_toUInt64]
 show _=(256*m.toNat % 2^64+x.toNat) % 2^64
 omega
abbrev PRd:=y9
def J0 (r:PRd):Int×PRd:=if r.e≠0 then (0,r) else ((I6 (r.b.drop r.used.toNat)).1,⟨r.b,r.used+(I6 (r.b.drop r.used.toNat)).2.1,(I6 (r.b.drop r.used.toNat)).2.2⟩)
def a0S (r:PRd):UInt64×PRd:=if (r.b.length:Int) - r.used < 8 then (0,⟨r.b,r.used,3⟩) else (a4M ((r.b.take (r.used+8).toNat).drop r.used.toNat) 8,⟨r.b,r.used+8,r.e⟩)
def Q4 (b:List UInt8):List UInt8×Int×Int :=
 if (I6 b).2.2≠0 then ([],0,(I6 b).2.2) else if 1024 < (I6 b).1 then ([],0,2) else if (b.length:Int) - (I6 b).2.1 < (I6 b).1 then ([],0,3)
 else ((b.take ((I6 b).2.1+(I6 b).1).toNat).drop (I6 b).2.1.toNat,(I6 b).2.1+(I6 b).1,0)
def a1h (r:PRd):Str×PRd:=(⟨(Q4 (r.b.drop r.used.toNat)).1⟩,⟨r.b,r.used+(Q4 (r.b.drop r.used.toNat)).2.1,(Q4 (r.b.drop r.used.toNat)).2.2⟩)
def a6C (r:PRd):Prop:=0≤r.used∧r.used≤r.b.length∧r.b.length≤1000000
theorem a7s {r:PRd}(h:a6C r):a6C (J0 r).2:=by
 unfold J0
 split
 ·exact h
 ·have:=a1g (r.b.drop r.used.toNat)
  rw [List.length_drop] at this
  unfold a6C at *
  dsimp only;omega
theorem a3x (b:List UInt8):0≤(Q4 b).2.1∧(Q4 b).2.1≤b.length:=by
 have h:=a1g b
 unfold Q4
 split
 ·exact⟨Int.le_refl _,Int.natCast_nonneg _⟩
 ·split
  ·exact⟨Int.le_refl _,Int.natCast_nonneg _⟩
  ·split
   ·exact⟨Int.le_refl _,Int.natCast_nonneg _⟩
   ·rename_i h1 h2 h3
    have h4:0≤(I6 b).1:=(a7r (b:=b) (v:=(I6 b).1) (k:=(I6 b).2.1) (by rw [←Decidable.not_not.1 h1])).1
    dsimp only;omega
def a2Q (k:Int)(r:PRd):Pred×PRd :=
 if k=1∨k=2∨k=3 then (⟨k,(a0S r).1,0,0,⟨[]⟩,0⟩,(a0S r).2)
 else if k=4∨k=5 then (⟨k,0,(J0 r).1,(J0 (J0 r).2).1,⟨[]⟩,0⟩,(J0 (J0 r).2).2)
 else if k=6 then (⟨k,0,0,0,(a1h r).1,0⟩,(a1h r).2)
 else (⟨k,0,0,0,⟨[]⟩,(J0 r).1⟩,(J0 r).2)
def a0M (b:List UInt8):Pred×Int×Int :=
 if (J0 ⟨b,0,0⟩).2.e≠0 then (default,0,(J0 ⟨b,0,0⟩).2.e)
 else if (J0 ⟨b,0,0⟩).1 < 1∨7 < (J0 ⟨b,0,0⟩).1 then (default,0,6)
 else if (a2Q (J0 ⟨b,0,0⟩).1 (J0 ⟨b,0,0⟩).2).2.e≠0 then (default,0,(a2Q (J0 ⟨b,0,0⟩).1 (J0 ⟨b,0,0⟩).2).2.e)
 else if I9 (a2Q (J0 ⟨b,0,0⟩).1 (J0 ⟨b,0,0⟩).2).1=true then ((a2Q (J0 ⟨b,0,0⟩).1 (J0 ⟨b,0,0⟩).2).1,(a2Q (J0 ⟨b,0,0⟩).1 (J0 ⟨b,0,0⟩).2).2.used,0)
 else (default,0,5)
theorem a6D {s:List UInt8}(t:List UInt8)(h:s.length≤1024):Q4 (D5 s.length++s++t)=(s,((D5 s.length++s).length:Int),0):=by
 have e:=a5S (n:=s.length) (s++t) (by omega)
 have h7:=H4 (n:=s.length) (by omega)
 unfold Q4
 rw [List.append_assoc,e,if_neg (by simp),if_neg (by dsimp only;omega),if_neg (by simp;omega)]
 dsimp only
 have e1:(((D5 s.length).length:Int)+(s.length:Int)).toNat=(D5 s.length++s).length:=by rw [List.length_append];omega
 rw [e1,←List.append_assoc,List.take_left' rfl,Int.toNat_natCast,List.drop_left' rfl,List.length_append]
 simp
theorem c0g {b x:List UInt8}{k:Int}(h:Q4 b=(x,k,0)):x.length≤1024∧0≤k∧k≤b.length∧b.take k.toNat=D5 x.length++x:=by
 unfold Q4 at h
 split at h
 ·rename_i c;simp only [Prod.mk.injEq] at h;exact absurd h.2.2 c
 ·rename_i c1
  split at h
  ·simp at h
  ·rename_i c2
   split at h
   ·simp at h
   ·rename_i c3
    simp only [Prod.mk.injEq,and_true] at h
    obtain⟨rfl,rfl⟩:=h
    obtain⟨h1,h2,h3,h4,h5⟩:=a7r (b:=b) (v:=(I6 b).1) (k:=(I6 b).2.1) (by rw [←Decidable.not_not.1 c1])
    have hl:((b.take ((I6 b).2.1+(I6 b).1).toNat).drop (I6 b).2.1.toNat).length=(I6 b).1.toNat:=by rw [List.length_drop,List.length_take];omega
    refine⟨by omega,by omega,by omega,?_⟩
    rw [hl,←h5]
    have e:b.take (I6 b).2.1.toNat=(b.take ((I6 b).2.1+(I6 b).1).toNat).take (I6 b).2.1.toNat:=by rw [List.take_take,Nat.min_eq_left (by omega)]
    rw [e,List.take_append_drop]
def Rds (b:List UInt8)(u u2:Int)(l:List UInt8):Prop:=0≤u∧u≤u2∧u2≤b.length∧(b.take u2.toNat).drop u.toNat=l
theorem Rds.trans {b l m:List UInt8}{u v w:Int}(h:Rds b u v l)(k:Rds b v w m):Rds b u w (l++m):=by
 obtain⟨h1,h2,h3,rfl⟩:=h
 obtain⟨k1,k2,k3,rfl⟩:=k
 refine⟨h1,by omega,k3,?_⟩
 have key:∀ T:List UInt8,(T.take v.toNat).drop u.toNat++T.drop v.toNat=T.drop u.toNat:=fun T=>by
  rw [List.drop_take,show T.drop v.toNat=(T.drop u.toNat).drop (v.toNat - u.toNat) by rw [List.drop_drop];congr 1;omega,List.take_append_drop]
 have e:b.take v.toNat=(b.take w.toNat).take v.toNat:=by rw [List.take_take,Nat.min_eq_left (by omega)]
 rw [e];exact(key _).symm
theorem Rds.of {b l:List UInt8}{u k:Int}(h0:0≤u)(hu:u≤b.length)(h1:0≤k)(h2:k≤(b.drop u.toNat).length)(h:(b.drop u.toNat).take k.toNat=l):Rds b u (u+k) l:=by
 rw [List.length_drop] at h2
 refine⟨h0,by omega,by omega,?_⟩
 rw [←h,List.take_drop]
 congr 2;omega
theorem b8S {r:PRd}(h:(J0 r).2.e=0):r.e=0:=by
 unfold J0 at h
 split at h
 ·rename_i c;exact absurd h c
 ·rename_i c;exact Decidable.not_not.1 c
theorem b8T (r:PRd):(J0 r).2.b=r.b:=by unfold J0;split<;>rfl
theorem a5T {r:PRd}(h:a6C r)(he:(J0 r).2.e=0):Rds r.b r.used (J0 r).2.used (D5 (J0 r).1.toNat)∧0≤(J0 r).1:=by
 have h0:=b8S he
 unfold J0 at he ⊢
 rw [if_neg (fun c=>c h0)] at he ⊢
 dsimp only at he ⊢
 obtain⟨h1,h2,h3,h4,h5⟩:=a7r (b:=r.b.drop r.used.toNat) (v:=(I6 (r.b.drop r.used.toNat)).1) (k:=(I6 (r.b.drop r.used.toNat)).2.1) (by rw [←he])
 exact⟨Rds.of h.1 h.2.1 (by omega) h4 h5,h1⟩
theorem b7c {r:PRd}(h:a6C r)(he:(a0S r).2.e=0)(h0:r.e=0):Rds r.b r.used (a0S r).2.used (W5 (a0S r).1 8):=by
 unfold a0S at he ⊢
 split at he
 ·cases he
 ·rename_i c
  rw [if_neg c]
  dsimp only
  have h1:=h.1
  have h2:=h.2.1
  have h3:r.used+8≤r.b.length:=by omega
  have h4:(r.used+8).toNat≤r.b.length:=by omega
  have hl:((r.b.take (r.used+8).toNat).drop r.used.toNat).length=8:=by rw [List.length_drop,List.length_take,Nat.min_eq_left h4];omega
  exact⟨h1,by omega,h3,((b0F _ (by omega)).trans (List.take_of_length_le (by omega))).symm⟩
theorem b7d {r:PRd}(h:a6C r)(he:(a1h r).2.e=0):Rds r.b r.used (a1h r).2.used (D5 (a1h r).1.l.length++(a1h r).1.l):=by
 unfold a1h at he ⊢
 dsimp only at he ⊢
 obtain⟨h1,h2,h3,h4⟩:=c0g (b:=r.b.drop r.used.toNat) (x:=(Q4 (r.b.drop r.used.toNat)).1) (k:=(Q4 (r.b.drop r.used.toNat)).2.1) (by rw [←he])
 exact Rds.of h.1 h.2.1 h2 h3 h4
def S2 (p:Pred):List UInt8:=if p.Kind=4∨p.Kind=5 then D5 p.a00.toNat++D5 p.To.toNat else if p.Kind=6 then D5 p.Name.l.length++p.Name.l else if p.Kind=7 then D5 p.Number.toNat else W5 p.Mask 8
theorem c0h (k:Int)(r:PRd):(a2Q k r).1.Kind=k:=by
 unfold a2Q;repeat' split
 all_goals rfl
theorem c25 {k:Int}{r:PRd}(hk:1≤k∧k≤7)(h:a6C r)(h0:r.e=0)(he:(a2Q k r).2.e=0):Rds r.b r.used (a2Q k r).2.used (S2 (a2Q k r).1):=by
 unfold a2Q at he ⊢
 by_cases c1:k=1∨k=2∨k=3
 ·rw [if_pos c1] at he ⊢
  dsimp only at he ⊢
  unfold S2;rw [if_neg (by dsimp only;omega),if_neg (by dsimp only;omega),if_neg (by dsimp only;omega)]
  exact b7c h he h0
 ·rw [if_neg c1] at he ⊢
  by_cases c4:k=4∨k=5
  ·rw [if_pos c4] at he ⊢
   dsimp only at he ⊢
   unfold S2;rw [if_pos (by dsimp only;omega)]
   have a1:=a5T h (b8S he)
   have a2:=a5T (a7s h) he
   rw [b8T] at a2
   exact a1.1.trans a2.1
  ·rw [if_neg c4] at he ⊢
   by_cases c6:k=6
   ·rw [if_pos c6] at he ⊢
    dsimp only at he ⊢
    unfold S2;rw [if_neg (by dsimp only;omega),if_pos (by dsimp only;omega)]
    exact b7d h he
   ·rw [if_neg c6] at he ⊢
    dsimp only at he ⊢
    unfold S2;rw [if_neg (by dsimp only;omega),if_neg (by dsimp only;omega),if_pos (by dsimp only;omega)]
    exact(a5T h he).1
theorem c5J {b:List UInt8}{p:Pred}{n:Int}(hb:b.length≤1000000)(h:a0M b=(p,n,0)):I9 p=true∧0≤n∧n≤b.length∧b.take n.toNat=E0 p:=by
 have hr:a6C ⟨b,0,0⟩:=⟨Int.le_refl _,Int.natCast_nonneg _,hb⟩
 unfold a0M at h
 split at h
 ·rename_i c;simp only [Prod.mk.injEq] at h;exact absurd h.2.2 c
 ·rename_i c1
  have c1:=Decidable.not_not.1 c1
  split at h
  ·simp at h
  ·rename_i c2
   split at h
   ·rename_i c;simp only [Prod.mk.injEq] at h;exact absurd h.2.2 c
   ·rename_i c3
    have c3:=Decidable.not_not.1 c3
    split at h
    ·rename_i c4
     simp only [Prod.mk.injEq,and_true] at h
     obtain⟨rfl,rfl⟩:=h
     have a1:=a5T hr c1
     have a2:=c25 (k:=(J0 ⟨b,0,0⟩).1) (by omega) (a7s hr) c1 c3
     rw [b8T] at a2
     obtain⟨q1,q2,q3,q4⟩:=a1.1.trans a2
     refine⟨c4,q2,q3,?_⟩
     have q4:(b.take (a2Q (J0 ⟨b,0,0⟩).1 (J0 ⟨b,0,0⟩).2).2.used.toNat).drop 0=_:=q4
     rw [List.drop_zero] at q4
     rw [q4]
     unfold E0 S2
     rw [c0h]
    ·simp at h
theorem c26 {b:List UInt8}(h:(a0M b).2.2≠0):(a0M b).2.1=0:=by
 unfold a0M at h ⊢
 split
 ·rfl
 ·rename_i c1
  rw [if_neg c1] at h
  split
  ·rfl
  ·rename_i c2
   rw [if_neg c2] at h
   split
   ·rfl
   ·rename_i c3
    rw [if_neg c3] at h
    split
    ·rename_i c4;rw [if_pos c4] at h;exact absurd rfl h
    ·rfl
theorem b1Z {b:List UInt8}(hb:b.length≤1000000):0≤(a0M b).2.1∧(a0M b).2.1≤b.length:=by
 by_cases h:(a0M b).2.2=0
 ·have:=c5J (b:=b) (p:=(a0M b).1) (n:=(a0M b).2.1) hb (by rw [←h])
  exact⟨this.2.1,this.2.2.1⟩
 ·rw [c26 h];exact⟨Int.le_refl _,Int.natCast_nonneg _⟩
theorem a5U {b t:List UInt8}{u:Int}{n:Nat}(h:b.drop u.toNat=D5 n++t)(hn:n≤281474976710656):J0 ⟨b,u,0⟩=((n:Int),⟨b,u+((D5 n).length:Int),0⟩):=by
 unfold J0
 rw [if_neg (by simp)]
 dsimp only
 rw [h,a5S t hn]
theorem b7e {b t:List UInt8}{u:Int}{m:UInt64}(h:b.drop u.toNat=W5 m 8++t)(h0:0≤u)(hu:u≤b.length):a0S ⟨b,u,0⟩=(m,⟨b,u+8,0⟩):=by
 have hl:=congrArg List.length h
 rw [List.length_drop,List.length_append,K8] at hl
 unfold a0S
 rw [if_neg (by dsimp only;omega)]
 dsimp only
 have e:(b.take (u+8).toNat).drop u.toNat=W5 m 8 ++ []:=by
  rw [List.drop_take,h,show(u+8).toNat - u.toNat=8 by omega,List.take_left' (K8 m 8),List.append_nil]
 rw [e,c23]
theorem b7f {b t:List UInt8}{u:Int}{s:Str}(h:b.drop u.toNat=D5 s.l.length++s.l++t)(hs:s.l.length≤1024):a1h ⟨b,u,0⟩=(s,⟨b,u+((D5 s.l.length++s.l).length:Int),0⟩):=by
 unfold a1h
 dsimp only
 rw [h,a6D t hs]
theorem c27 {p:Pred}(t:List UInt8)(h:I9 p=true):a0M (E0 p++t)=(p,((E0 p).length:Int),0):=by
 have ho:=a34 h
 have hk:=ho.kind
 have e0:E0 p=D5 p.Kind.toNat++S2 p:=rfl
 have hd:(E0 p++t).drop (0:Int).toNat=D5 p.Kind.toNat++(S2 p++t):=by rw [e0];simp
 have a1:=a5U hd (by omega)
 have hd2:(E0 p++t).drop ((0:Int)+((D5 p.Kind.toNat).length:Int)).toNat=S2 p++t:=by
  rw [e0,show((0:Int)+((D5 p.Kind.toNat).length:Int)).toNat=(D5 p.Kind.toNat).length by omega,List.append_assoc,List.drop_left' rfl]
 have hB:a2Q p.Kind ⟨E0 p++t,(0:Int)+((D5 p.Kind.toNat).length:Int),0⟩=(p,⟨E0 p++t,((E0 p).length:Int),0⟩):=by
  have el:((E0 p).length:Int)=((0:Int)+((D5 p.Kind.toNat).length:Int))+((S2 p).length:Int):=by rw [e0,List.length_append];omega
  have hu:((0:Int)+((D5 p.Kind.toNat).length:Int))≤(E0 p++t).length:=by rw [List.length_append];omega
  rw [el]
  generalize E0 p++t=b at hd2 hu ⊢
  generalize hq:((0:Int)+((D5 p.Kind.toNat).length:Int))=u at hd2 hu ⊢
  obtain⟨k,m,f,o,s,n⟩:=p
  unfold I9 at h
  dsimp only at h hk hq ho ⊢
  unfold a2Q
  by_cases c1:k=1∨k=2∨k=3
  ·rw [if_pos c1,Bool.and_eq_true,decide_eq_true_eq] at h
   have eb:S2 ⟨k,m,f,o,s,n⟩=W5 m 8:=by unfold S2;rw [if_neg (by dsimp only;omega),if_neg (by dsimp only;omega),if_neg (by dsimp only;omega)]
   rw [eb] at hd2 ⊢
   rw [if_pos c1,b7e hd2 (by omega) hu,K8,h.2]
   first|done|rfl|(congr 2;omega)
  ·rw [if_neg c1] at h
   rw [if_neg c1]
   by_cases c4:k=4∨k=5
   ·have hp:(⟨k,m,f,o,s,n⟩:Pred)=⟨k,0,f,o,⟨[]⟩,0⟩:=by
     rcases c4 with rfl|rfl
     ·simp only [if_pos,Bool.and_eq_true,decide_eq_true_eq] at h;exact h.2
     ·simp only [show ¬(5:Int)=4 by decide,if_false,if_pos,Bool.and_eq_true,decide_eq_true_eq] at h;exact h.2
    have hf:=ho.from_
    have hto:=ho.to
    dsimp only at hf hto
    have eb:S2 ⟨k,m,f,o,s,n⟩=D5 f.toNat++D5 o.toNat:=by unfold S2;rw [if_pos (by dsimp only;omega)]
    rw [eb] at hd2 ⊢
    rw [if_pos c4]
    have a2:=a5U (n:=f.toNat) (t:=D5 o.toNat++t) (by rw [hd2,List.append_assoc]) (by omega)
    have hd3:b.drop (u+((D5 f.toNat).length:Int)).toNat=D5 o.toNat++t:=by
     rw [show(u+((D5 f.toNat).length:Int)).toNat=u.toNat+(D5 f.toNat).length by omega,←List.drop_drop,hd2,List.append_assoc,List.drop_left' rfl]
    have a3:=a5U hd3 (by omega)
    rw [a2]
    dsimp only
    rw [a3]
    dsimp only
    rw [show((f.toNat:Nat):Int)=f by omega,show((o.toNat:Nat):Int)=o by omega,hp,List.length_append]
    first|done|rfl|(congr 2;omega)
   ·rw [if_neg c4]
    rw [if_neg (by omega),if_neg (by omega)] at h
    by_cases c6:k=6
    ·rw [if_pos c6,Bool.and_eq_true,decide_eq_true_eq] at h
     have hnm:=ho.name
     dsimp only at hnm
     have eb:S2 ⟨k,m,f,o,s,n⟩=D5 s.l.length++s.l:=by unfold S2;rw [if_neg (by dsimp only;omega),if_pos (by dsimp only;omega)]
     rw [eb] at hd2 ⊢
     rw [if_pos c6,b7f hd2 (by omega),h.2]
     first|done|rfl|(congr 2;omega)
    ·rw [if_neg c6] at h
     rw [if_neg c6]
     have c7:k=7:=by omega
     rw [if_pos c7,Bool.and_eq_true,Bool.and_eq_true,decide_eq_true_eq,decide_eq_true_eq,decide_eq_true_eq] at h
     have eb:S2 ⟨k,m,f,o,s,n⟩=D5 n.toNat:=by unfold S2;rw [if_neg (by dsimp only;omega),if_neg (by dsimp only;omega),if_pos (by dsimp only;omega)]
     rw [eb] at hd2 ⊢
     rw [a5U hd2 (by omega),h.2]
     dsimp only
     rw [show((n.toNat:Nat):Int)=n by omega]
     first|done|rfl|(congr 2;omega)
 unfold a0M
 rw [a1]
 dsimp only
 rw [show((p.Kind.toNat:Nat):Int)=p.Kind by omega,if_neg (by simp),if_neg (by omega),hB,if_neg (by simp)]
 dsimp only
 rw [if_pos h]
end Go.Proofs.YtfdifhfnpbphaaaGreatDoor
