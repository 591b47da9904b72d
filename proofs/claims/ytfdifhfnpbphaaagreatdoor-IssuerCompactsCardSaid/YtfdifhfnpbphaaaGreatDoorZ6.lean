/- Plain Lean over any program, and walks of this seat's functions: contracts, each proved once (part 6). -/
import Derived.Test.YtfdifhfnpbphaaaGreatDoorZ5
import Derived.ProofKit
import Derived.OpenShut
import Derived.ShutString
import Derived.ChangeOld
import Derived.Below
import Derived.LaidLaws
import Derived.Handed
import Derived.DataReads
import Derived.LaidSub
import Derived.Test.YtfdifhfnpbphaaaGreatDoorRows
import Derived.Test.YtfdifhfnpbphaaaGreatDoorTie
import Derived.Test.YtfdifhfnpbphaaaGreatDoorCards
import Derived.SevenTiedAt
set_option maxRecDepth 1000000
set_option synthInstance.maxSize 1000000
set_option synthInstance.maxHeartbeats 10000000
set_option linter.unusedVariables false
set_option linter.unusedSimpArgs false
namespace Go.Proofs.YtfdifhfnpbphaaaGreatDoor
open Go.Proofs.Tryz
open Go.Fl Go.Ab Go.Mac
def a0A (before after:F1)(x:l8)(r:Rec)(ch:l8→l8):F1×l8×Int :=
 if (a02 x.Device r).2=0 then (after,ch { x with Device:=(a02 x.Device r).1 },0) else
 if (a02 x.Device r).2=27 then (after,a0z x (a02 x.Device r).1,27) else (before,x,(a02 x.Device r).2)
def b5A (A:F1)(Y:l8)(E:Int)(r:AV)(Hs:List C3):Prop :=
 (∃ u:Value×Value,r = .t3 (.v A) (.v (mx Y u.1 u.2)) (.v E)∧Hs = [.own 114 u.1 Y.C0,.own 101 u.2 Y.E4])∨(r = .t3 (.v A) (.v Y) (.v E)∧Hs = [])
instance (b:Nat):P9 gl prog 93 [.ln (ptr b 0) (j9.id (α:=IsM))] [] (.ln (ptr b 0) (j9.id (α:=IsM))):=⟨fun _=>c3D b⟩
instance (b:Nat):P9 gl prog 72 [.ln (ptr b 0) (j9.id (α:=IsM))] [] (.ln (ptr b 0) B6.l2):=⟨fun _=>c54 b⟩
instance (b:Nat)(a:F1)(x:l8)(i:Item):CaM gl prog 91 [.ln (ptr b 0) (j9.id (α:=IsM)),.p a,.p i] (.P4 (ptr b 0) (IsV.mk x)) [i.Kind≠2,∀ y∈a.B7,y.Plain.length≤1000000,x.Ring.Live.length≤1000000,x.E4.length≤1000000,i.O8.length≤1000000] (.raw (.tuple #[])) (.P4 (ptr b 0) (IsV.mk (H6 a x i).1)):=⟨fun h=>b7B b a x i h.1 h.2.1 h.2.2.1 h.2.2.2.1 h.2.2.2.2.1⟩
theorem b3x (Y:l8)(w:Value)(I:Fl.Im)(X:List (Nat×Obj))(h:(C3.P4 w (IsV.mk Y)).a0H I X):∃ u Xs,X=Xs.flatten∧Q9 I (a7x Y w u) Xs:=h
theorem c3E (a0 a1:F1)(x:l8)(i:Item)(h:IsB x)(ha:x.Device.B3=0∨x.Device.B3=1)(hw : -1000000000≤x.Device.C7∧x.Device.C7≤1000000000)(hk:i.Kind≠2)(hpl:∀ y∈a1.B7,y.Plain.length≤1000000)(hb:i.O8.length≤1000000) :
    C6 gl prog 92 [.v (G0.mk (W6 i) (a3Z.mk' 91 a1 i)),.v a0,.v a1,.v x,.v (FnV.mk (some 93))] []
      (b5A (a0A a0 a1 x (W6 i) fun y=>(H6 a1 y i).1).1 (a0A a0 a1 x (W6 i) fun y=>(H6 a1 y i).1).2.1 (a0A a0 a1 x (W6 i) fun y=>(H6 a1 y i).1).2.2):=by
  have o28:c0K 28:=⟨trivial⟩
  have a15:AlR 15 IsM inferInstance:=⟨trivial⟩
  have i0:∀ (x:l8),CaX gl prog 41 [.v x] (Value×Value) [IsB x] (fun _=>True) (fun u => .v (mx x u.1 u.2)) (fun u => [.own 114 u.1 x.C0,.own 101 u.2 x.E4]):=fun x=>⟨fun hh=>(a7w x hh.1).mono fun r Hs ⟨u,h1,h2⟩=>⟨u,trivial,h1,h2⟩⟩
  have i1:∀ (x:l8) (d:l9),P9 gl prog 53 [.v x,.v d] [] (.v (a0z x d)):=fun x d=>⟨fun _=>a5z x d⟩
  have i_save_c:∀ (d:l9) (r:Rec),P9 gl prog 131 [.v d,.v r] [r.Kind=2∨r.Kind=4,V5 d,d.B3=0∨d.B3=1,-1000000000≤d.C7∧d.C7≤1000000000] (.t2 (.v (a02 d r).1) (.v (a02 d r).2)):=fun d r=>⟨fun hh=>c3j d r hh.1 hh.2.1 hh.2.2.1 hh.2.2.2.1⟩
  generalize hP:b5A (a0A a0 a1 x (W6 i) fun y=>(H6 a1 y i).1).1 (a0A a0 a1 x (W6 i) fun y=>(H6 a1 y i).1).2.1 (a0A a0 a1 x (W6 i) fun y=>(H6 a1 y i).1).2.2=P
  refine .go func92 j0 49 [.cell 10 46,.cell 11 39,.tmp 12] j0 (by kernel_rfl) fun C hG=>(.z hG (by kernel_rfl) fun b b1 b2 b3 b4 b5=>⟨.inr j0,h.dev,ha,hw,fun b6=>⟨fun h1=>⟨h,fun u _ b7 => ?_⟩,?_⟩⟩)
  · refine .glue [ptr b7 0,u.1,u.2] (.P4 (ptr b7 0) (IsV.mk { x with Device:=(a02 x.Device (W6 i)).1 })) (fun I Xs h=>⟨u,Xs,j0,h⟩) (.z hG (by kernel_rfl) ⟨hk,hpl,h.live,h.items,hb,?_⟩)
    generalize hY:(H6 a1 { x with Device:=(a02 x.Device (W6 i)).1 } i).1=Y
    refine .b0R (ptr b7 0) (a7x Y (ptr b7 0)) (b3x Y (ptr b7 0)) fun v=>(.ob1 11 (b0S default) (a5A default) (.z hG (by kernel_rfl) (P6.of [v.1,v.2] ?_)))
    subst hP
    have e:a0A a0 a1 x (W6 i) (fun y=>(H6 a1 y i).1)=(a1,Y,0):=by unfold a0A;rw [if_pos h1];exact congrArg (fun q=>(a1,q,(0:Int))) hY
    rw [e]
    exact .inl ⟨v,j0,j0⟩
  · dsimp only
    subst hP
    refine fun h1=>⟨fun h2=>⟨[],.nil,.inr ⟨?_,rfl⟩⟩,fun h2=>⟨h,[],.nil,.inr ⟨?_,rfl⟩⟩⟩
    · unfold a0A;rw [if_neg h1,if_pos h2,h2]
    · unfold a0A;rw [if_neg h1,if_neg h2]
theorem c63 {Y:l8}{u v:Value}{I:Fl.Im}{cs:List Value}(h:u3.rep I (mx Y u v) cs)(h1:F9 I (.v Y.C0) u)(h2:F9 I (.v Y.E4) v):u3.rep I Y cs:=by
 obtain⟨k,rg,ms,is,dv,up⟩:=Y
 obtain⟨c1,r1,rfl,q1,c2,r2,rfl,q2,c3,r3,rfl,⟨rfl,_⟩,c4,r4,rfl,⟨rfl,_⟩,hr⟩:=h
 obtain⟨_,⟨u,rfl,hu⟩,rfl⟩:=h1
 obtain⟨_,⟨v,rfl,hv⟩,rfl⟩:=h2
 exact⟨c1,_,j0,q1,c2,_,j0,q2,_,_,j0,⟨_,j0,hu⟩,_,_,j0,⟨_,j0,hv⟩,hr⟩
theorem b5A.frz {A:F1}{Y:l8}{E:Int}(x:AV)(Hs:List C3)(I:Fl.Im)(L:Lh)(v:Value)(hp:b5A A Y E x Hs)(hv:F9 I x v)(hL:Q9 I Hs L)(J:Fl.Im)(hle:Le I J)(hj:∀ p∈L.flatten,J p.1=some p.2):F9 J (.t3 (.v A) (.v Y) (.v E)) v:=by
 rcases hp with ⟨u,rfl,rfl⟩|⟨rfl,rfl⟩
 ·obtain⟨X,R,rfl,h1,Z,R2,rfl,h2,h3⟩:=hL
  obtain⟨a,b,c,rfl,h4,⟨cs,h5,rfl⟩,h6⟩:=hv
  exact⟨a,_,c,j0,h4.mono hle,⟨cs,c63 (u3.mono hle h5) (O9 h1 hle fun p hp=>hj p (by simp [hp])) (O9 h2 hle fun p hp=>hj p (by simp [hp])),j0⟩,h6.mono hle⟩
 ·exact hv.mono hle
theorem c8p (a0 a1:F1)(x:l8)(i:Item)(h:IsB x)(ha:x.Device.B3=0∨x.Device.B3=1)(hw : -1000000000≤x.Device.C7∧x.Device.C7≤1000000000)(hk:i.Kind≠2)(hpl:∀ y∈a1.B7,y.Plain.length≤1000000)(hb:i.O8.length≤1000000) :
    C4 gl prog 92 [.v (G0.mk (W6 i) (a3Z.mk' 91 a1 i)),.v a0,.v a1,.v x,.v (FnV.mk (some 93))] (fun r=>r = .t3 (.v (a0A a0 a1 x (W6 i) fun y=>(H6 a1 y i).1).1) (.v (a0A a0 a1 x (W6 i) fun y=>(H6 a1 y i).1).2.1) (.v (a0A a0 a1 x (W6 i) fun y=>(H6 a1 y i).1).2.2)) :=
  (c3E a0 a1 x i h ha hw hk hpl hb).c5q _ fun x Hs I L v hp hv hL J hle hj=>b5A.frz x Hs I L v hp hv hL J hle hj
theorem c3F (a0 a1:F1)(x:l8)(m:u9)(h:IsB x)(ha:x.Device.B3=0∨x.Device.B3=1)(hw : -1000000000≤x.Device.C7∧x.Device.C7≤1000000000)(hl:x.C0.length≤999999)(hc:V0 m.y5) :
    C6 gl prog 71 [.v (J8.mk (W7 m) (FnC.mk' 70 m)),.v a0,.v a1,.v x,.v (FnV.mk (some 72))] []
      (b5A (a0A a0 a1 x (W7 m) fun y => { y with C0:=y.C0 ++ [m] }).1 (a0A a0 a1 x (W7 m) fun y => { y with C0:=y.C0 ++ [m] }).2.1 (a0A a0 a1 x (W7 m) fun y => { y with C0:=y.C0 ++ [m] }).2.2):=by
  have o28:c0K 28:=⟨trivial⟩
  have a15:AlR 15 IsM inferInstance:=⟨trivial⟩
  have i0:∀ (x:l8),CaX gl prog 41 [.v x] (Value×Value) [IsB x] (fun _=>True) (fun u => .v (mx x u.1 u.2)) (fun u => [.own 114 u.1 x.C0,.own 101 u.2 x.E4]):=fun x=>⟨fun hh=>(a7w x hh.1).mono fun r Hs ⟨u,h1,h2⟩=>⟨u,trivial,h1,h2⟩⟩
  have i1:∀ (x:l8) (d:l9),P9 gl prog 53 [.v x,.v d] [] (.v (a0z x d)):=fun x d=>⟨fun _=>a5z x d⟩
  have i_save_c:∀ (d:l9) (r:Rec),P9 gl prog 131 [.v d,.v r] [r.Kind=2∨r.Kind=4,V5 d,d.B3=0∨d.B3=1,-1000000000≤d.C7∧d.C7≤1000000000] (.t2 (.v (a02 d r).1) (.v (a02 d r).2)):=fun d r=>⟨fun hh=>c3j d r hh.1 hh.2.1 hh.2.2.1 hh.2.2.2.1⟩
  generalize hP:b5A (a0A a0 a1 x (W7 m) fun y => { y with C0:=y.C0 ++ [m] }).1 (a0A a0 a1 x (W7 m) fun y => { y with C0:=y.C0 ++ [m] }).2.1 (a0A a0 a1 x (W7 m) fun y => { y with C0:=y.C0 ++ [m] }).2.2=P
  refine .go func71 j0 49 [.cell 10 46,.cell 11 39,.tmp 12] j0 (by kernel_rfl) fun C hG=>(.z hG (by kernel_rfl) fun b b1 b2 b3 b4 b5=>⟨.inl j0,h.dev,ha,hw,fun b6=>⟨fun h1=>⟨h,fun u _ b7 => ?_⟩,?_⟩⟩)
  · refine .glue [ptr b7 0,u.1,u.2] (.P4 (ptr b7 0) (IsV.mk { x with Device:=(a02 x.Device (W7 m)).1 })) (fun I Xs h=>⟨u,Xs,j0,h⟩) (.z hG (by kernel_rfl) ⟨hl,h.c0I,hc,?_⟩)
    dsimp only
    generalize hY:({ D4:=x.D4,Ring:=x.Ring,C0:=x.C0 ++ [m],E4:=x.E4,Device:=(a02 x.Device (W7 m)).1,Up:=x.Up }:l8)=Y
    refine .b0R (ptr b7 0) (a7x Y (ptr b7 0)) (b3x Y (ptr b7 0)) fun v=>(.ob1 11 (b0S default) (a5A default) (.z hG (by kernel_rfl) (P6.of [v.1,v.2] ?_)))
    subst hP
    have e:a0A a0 a1 x (W7 m) (fun y => { y with C0:=y.C0 ++ [m] })=(a1,Y,0):=by unfold a0A;rw [if_pos h1];exact congrArg (fun q=>(a1,q,(0:Int))) hY
    rw [e]
    exact .inl ⟨v,j0,j0⟩
  · dsimp only
    subst hP
    refine fun h1=>⟨fun h2=>⟨[],.nil,.inr ⟨?_,rfl⟩⟩,fun h2=>⟨h,[],.nil,.inr ⟨?_,rfl⟩⟩⟩
    · unfold a0A;rw [if_neg h1,if_pos h2,h2]
    · unfold a0A;rw [if_neg h1,if_neg h2]
theorem c8q (a0 a1:F1)(x:l8)(m:u9)(h:IsB x)(ha:x.Device.B3=0∨x.Device.B3=1)(hw : -1000000000≤x.Device.C7∧x.Device.C7≤1000000000)(hl:x.C0.length≤999999)(hc:V0 m.y5) :
    C4 gl prog 71 [.v (J8.mk (W7 m) (FnC.mk' 70 m)),.v a0,.v a1,.v x,.v (FnV.mk (some 72))] (fun r=>r = .t3 (.v (a0A a0 a1 x (W7 m) fun y => { y with C0:=y.C0 ++ [m] }).1) (.v (a0A a0 a1 x (W7 m) fun y => { y with C0:=y.C0 ++ [m] }).2.1) (.v (a0A a0 a1 x (W7 m) fun y => { y with C0:=y.C0 ++ [m] }).2.2)) :=
  (c3F a0 a1 x m h ha hw hl hc).c5q _ fun x Hs I L v hp hv hL J hle hj=>b5A.frz x Hs I L v hp hv hL J hle hj
open Go.Fl Go.Ab Go.Mac Go.Sha
theorem G2.b3y {a:F1}{n:Nat}(h:G2 a n):∀ x∈a.B7,x.Plain.length≤1000000:=fun x hx=>by
 obtain⟨i,hi,rfl⟩:=List.getElem_of_mem hx
 have:=(h.box i hi).1
 omega
theorem b3z (k:Tag)(n:UInt64)(p:List UInt8):a1C k n (a1C k n p p.length) (a1C k n p p.length).length=p:=by
 rw [a8K,a8K]
 apply List.ext_getElem (by simp)
 intro i h1 h2
 simp [UInt8.xor_assoc]
theorem b5B (k:Tag)(n:Int)(p:List UInt8):(a0d k n p).length=p.length+8:=by simp [a0d,K8,a3c];omega
theorem b2g (k:Tag)(n:Int)(p:List UInt8):(M5 k n p).take ((M5 k n p).length - 32)=a0d k n p:=by
 rw [a0y]
 unfold M5
 rw [List.take_left' (by rw [b5B];omega)]
theorem c0L (k:Tag)(n:Int)(p:List UInt8):(M5 k n p).drop ((M5 k n p).length - 32)=(a3h k.l (a5o.l++a0d k n p)).l:=by
 rw [a0y]
 unfold M5
 rw [List.drop_left' (by rw [b5B];omega)]
theorem c0M (k:Tag)(n:Int)(p:List UInt8):a5w k (M5 k n p)=p:=by
 unfold a5w
 rw [b2g]
 have h1:(a0d k n p).take 8=W5 (UInt64.ofInt n) 8:=by unfold a0d;rw [List.take_left' (K8 _ _)]
 have h2:(a0d k n p).drop 8=a1C k (UInt64.ofInt n) p p.length:=by unfold a0d;rw [List.drop_left' (K8 _ _)]
 rw [h1,h2,a8Q,b3z]
theorem b5C {a:F1}{k:Tag}{m:List UInt8}(h:(P3 a k m).2.2=0):(P3 a k m).1.P7=a.P7∧(P3 a k m).1.B7=a.B7:=by
 unfold P3 at *
 split
 ·next h1=>rw [if_pos h1] at h;cases h
 ·next h1 =>
  rw [if_neg h1] at h
  cases hf:a2M a k m with
  | some x=>exact⟨rfl,rfl⟩
  | none =>
   rw [hf] at h
   simp only at h ⊢
   split
   ·next h2=>rw [if_pos h2] at h;cases h
   ·exact⟨j0,j0⟩
theorem b3A {a b:F1}{k:Tag}{x y:Item}(h:L5 a k x=(b,y,0)):y.Kind=x.Kind∧y.Number=x.Number∧y.O8=x.O8∧b.P7=a.P7∧b.B7=a.B7:=by
 unfold L5 at h
 split at h
 ·next h1=>simp only [Prod.mk.injEq] at h;exact absurd h.2.2 h1
 ·split at h
  ·next h2=>simp only [Prod.mk.injEq] at h;exact absurd h.2.2 h2
  ·next h2 =>
   simp only [Prod.mk.injEq] at h
   obtain⟨rfl,rfl,_⟩:=h
   have:=b5C (a:=a) (k:=k) (m:=V6 x) (by omega)
   exact⟨j0,j0,j0,this.1,this.2⟩
structure IsG (x:l8):Prop where
 b:IsB x
 act:x.Device.B3=0∨x.Device.B3=1
 wr : -1000000000≤x.Device.C7∧x.Device.C7≤1000000000
def S3 (a0 a1:F1)(x:l8)(i:Item):F1×l8×Int:=a0A a0 a1 x (W6 i) fun y=>(H6 a1 y i).1
theorem b2h (a0 a1:F1)(x:l8)(i:Item)(h:IsG x)(hk:i.Kind≠2)(hpl:∀ y∈a1.B7,y.Plain.length≤1000000)(hb:i.O8.length≤1000000):C4 gl prog 45 [.v a0,.v a1,.v x,.v i] (fun r=>r = .t3 (.v (S3 a0 a1 x i).1) (.v (S3 a0 a1 x i).2.1) (.v (S3 a0 a1 x i).2.2)):=by
 have e1:ExF 91:=⟨trivial⟩
 have i1:∀ (r:Rec) (a0 a1:F1) (x:l8) (i:Item),P9 gl prog 92 [.v (G0.mk r (a3Z.mk' 91 a1 i)),.v a0,.v a1,.v x,.v (FnV.mk (some 93))] [r=W6 i,IsG x,i.Kind≠2,∀ y∈a1.B7,y.Plain.length≤1000000,i.O8.length≤1000000] (.t3 (.v (S3 a0 a1 x i).1) (.v (S3 a0 a1 x i).2.1) (.v (S3 a0 a1 x i).2.2)):=fun r a0 a1 x i=>⟨fun q=>q.1▸c8p a0 a1 x i q.2.1.b q.2.1.act q.2.1.wr q.2.2.1 q.2.2.2.1 q.2.2.2.2.1⟩
 refine .go func45 j0 24 [.cell 8 46,.cell 9 39,.tmp 10] j0 (by kernel_rfl) fun C hG=>(.f hG j0 fun b b1 b2 b3 b4 b5 => .fz hG [5,7] ?_)
 exact .z hG (by kernel_rfl) fun b6=>⟨j0,h,hk,hpl,hb,j0⟩
def a6H (x:l8)(i:Item):Item := { i with Place:=x.E4.length+1 }
def a4Q (a:F1)(x:l8)(i:Item):F1×l8×Int :=
 if 4096≤(x.E4.length:Int) then (a,x,2) else
 if (L5 a x.D4 (a6H x i)).2.2≠0 then (a,x,(L5 a x.D4 (a6H x i)).2.2) else S3 a (L5 a x.D4 (a6H x i)).1 x (L5 a x.D4 (a6H x i)).2.1
theorem b2i {a:F1}{k:Tag}{x:Item}(h:(L5 a k x).2.2=0):(L5 a k x).2.1.Kind=x.Kind∧(L5 a k x).2.1.O8=x.O8∧(L5 a k x).1.B7=a.B7:=by
 have e:L5 a k x=((L5 a k x).1,(L5 a k x).2.1,0):=by rw [←h]
 have:=b3A e
 exact⟨this.1,this.2.2.1,this.2.2.2.2⟩
theorem c3G (a:F1)(x:l8)(i:Item)(n:Nat)(h:IsG x)(hA:G2 a n)(hn:n≤60000)(hk:i.Kind≠2)(hb:i.O8.length≤1000000):C4 gl prog 94 [.v a,.v x,.v i] (fun r=>r = .t3 (.v (a4Q a x i).1) (.v (a4Q a x i).2.1) (.v (a4Q a x i).2.2)):=by
 have hl:=h.b.items
 have hm:=hA.a6G
 have i2:∀ (x:l8),P9 gl prog 42 [.v x] [] (.v (decide (4096≤(x.E4.length:Int)))):=fun x=>⟨fun _=>b5u x⟩
 have i_sign_c:∀ (a:F1) (k:Tag) (x:Item),P9 gl prog 149 [.v a,.v k,.v x] [x.O8.length≤1000000,a.G4.length≤1000000] (.t3 (.v (L5 a k x).1) (.v (L5 a k x).2.1) (.v (L5 a k x).2.2)):=fun a k x=>⟨fun hh=>c8l a k x hh.1 hh.2.1⟩
 have i_publish_c:∀ (a0:F1) (a1:F1) (x:l8) (i:Item),P9 gl prog 45 [.v a0,.v a1,.v x,.v i] [IsG x,i.Kind≠2,∀ y∈a1.B7,y.Plain.length≤1000000,i.O8.length≤1000000] (.t3 (.v (S3 a0 a1 x i).1) (.v (S3 a0 a1 x i).2.1) (.v (S3 a0 a1 x i).2.2)):=fun a0 a1 x i=>⟨fun hh=>b2h a0 a1 x i hh.1 hh.2.1 hh.2.2.1 hh.2.2.2.1⟩
 have i1:∀ (x:l8),P9 gl prog 41 [.v x] [IsB x] (.v x):=fun x=>⟨fun hh=>a2c x hh.1⟩
 refine .go func94 rfl 44 [.cell 6 46,.cell 7 39,.tmp 8] rfl (by kernel_rfl) fun C hG=>(.z hG (by kernel_rfl) fun _ _ _ _ _=>⟨fun h1=>⟨h.b,?_⟩,fun h1=>⟨by omega,by omega,hb,by omega,fun _=>⟨fun h2=>⟨h.b,?_⟩,fun h2 => ?_⟩⟩⟩)
 ·unfold a4Q;rw [if_pos h1]
 ·unfold a4Q;rw [if_neg h1];exact((if_pos (c:=(L5 a x.D4 (a6H x i)).2.2≠0) h2)▸rfl)
 ·have h3:(L5 a x.D4 (a6H x i)).2.2=0:=Classical.not_not.1 h2
  obtain⟨q1,q2,q3⟩:=b2i h3
  refine⟨h,?_,?_,?_,?_⟩
  ·show(L5 a x.D4 (a6H x i)).2.1.Kind≠2
   rw [q1];exact hk
  ·show ∀ y∈(L5 a x.D4 (a6H x i)).1.B7,_
   rw [q3];exact hA.b3y
  ·show(L5 a x.D4 (a6H x i)).2.1.O8.length≤_
   rw [q2];exact hb
  ·have e:a4Q a x i=S3 a (L5 a x.D4 (a6H x i)).1 x (L5 a x.D4 (a6H x i)).2.1:=by unfold a4Q;rw [if_neg h1,if_neg (by rw [h3];decide)]
   rw [e];rfl
theorem G2.c55 {a:F1}{m:Nat}(ha:G2 a m)(hm:m≤64000){k:Tag}{n:Int}{p:List UInt8}(hn0:0≤n)(hn1:n≤281474976710656)(hp:p.length≤256) :
    ∃ b x,Z9 a k n p=(b,x,0)∧G2 b (m+1)∧∃ i,∃ h:i < b.B7.length,b.B7[i]=⟨k,n,p,x⟩:=by
  have hok:=ha.boxed (by omega) (k:=k) hn0 hn1 hp
  have hr:(decide (n < 0)||decide (281474976710656 < n))=false:=by simp;omega
  have hl:=ha.boxes
  cases hf:a.B7.find? (Z0 k n p) with
  | some y =>
    have e:=a3I hr (by omega) hf
    rw [e] at hok
    refine⟨a,y.O8,e,hok,?_⟩
    obtain⟨i,hi,rfl⟩:=List.getElem_of_mem (List.mem_of_find?_eq_some hf)
    have hy:=List.find?_some hf
    simp only [Z0,Bool.and_eq_true,decide_eq_true_eq] at hy
    refine⟨i,hi,?_⟩
    obtain⟨⟨rfl,rfl⟩,rfl⟩:=hy
    rfl
  | none =>
    have e:=a5p hr (by omega) hf (by omega)
    rw [e] at hok
    exact⟨_,_,e,hok,a.B7.length,by simp,by simp⟩
theorem b7C {a:F1}{n:Nat}(hA:G2 a n)(hn:n≤64000){k:Tag}{place:Int}{e:M6}(h:(K3 a k place e).2.2=0):(K3 a k place e).2.1.Kind=1∧(K3 a k place e).2.1.O8.length≤1000000∧∀ y∈(K3 a k place e).1.B7,y.Plain.length≤1000000:=by
 have hb:a4P place e=false:=by
  cases hb:a4P place e with
  | false=>rfl
  | true=>unfold K3 at h;rw [if_pos hb] at h;cases h
 have hb0:1≤place∧place≤4096:=by unfold a4P at hb;simp at hb;omega
 have hk:e.Key.l.length=32:=e.Key.len
 have hS:=hA.boxed (by omega) (k:=k) (c:=place) (p:=e.Key.l) (by omega) (by omega) (by omega)
 have e1:K3 a k place e=L5 (Z9 a k place e.Key.l).1 k (a1j place e (Z9 a k place e.Key.l).2.1):=by
  unfold K3 at h ⊢
  rw [hb,if_neg (by decide)] at h ⊢
  split
  ·next h2=>rw [if_pos h2] at h;exact absurd h h2
  ·rfl
 rw [e1] at h ⊢
 obtain⟨q1,q2,q3⟩:=b2i h
 refine⟨q1,?_,?_⟩
 ·rw [q2]
  obtain⟨b,x,e2,ok,i,hi,e3⟩:=hA.c55 (by omega) (k:=k) (n:=place) (p:=e.Key.l) (by omega) (by omega) (by omega)
  have:=ok.c60 _ (List.getElem_mem hi)
  rw [e3] at this
  rw [e2];exact this
 ·rw [q3];exact hS.b3y
def a1M (a:F1)(x:l8):F1×l8×Int :=
 if ¬x.Up=true then (a,x,13) else
 if 1000≤x.Ring.H7∨4096≤(x.E4.length:Int) then (a,x,2) else
 if (K2 a).2.2≠0 then (a,x,(K2 a).2.2) else
 if (K3 (K2 a).1 x.D4 (x.E4.length+1) ⟨x.Ring.H7+1,(K2 a).2.1⟩).2.2≠0 then (a,x,(K3 (K2 a).1 x.D4 (x.E4.length+1) ⟨x.Ring.H7+1,(K2 a).2.1⟩).2.2) else
 S3 a (K3 (K2 a).1 x.D4 (x.E4.length+1) ⟨x.Ring.H7+1,(K2 a).2.1⟩).1 x (K3 (K2 a).1 x.D4 (x.E4.length+1) ⟨x.Ring.H7+1,(K2 a).2.1⟩).2.1
theorem c3H (a:F1)(x:l8)(n:Nat)(h:IsG x)(hA:G2 a n)(hn:n≤60000)(hr : -1000000≤x.Ring.H7):C4 gl prog 10 [.v a,.v x] (fun r=>r = .t3 (.v (a1M a x).1) (.v (a1M a x).2.1) (.v (a1M a x).2.2)):=by
 have hl:=h.b.items
 have hm:=hA.a6G
 have i2:∀ (x:l8),P9 gl prog 42 [.v x] [] (.v (decide (4096≤(x.E4.length:Int)))):=fun x=>⟨fun _=>b5u x⟩
 have i_algKey_c:∀ (a:F1),P9 gl prog 43 [.v a] [0≤a.K9] (.t3 (.v (K2 a).1) (.v (K2 a).2.1) (.v (K2 a).2.2)):=fun a=>⟨fun hh=>c3o a hh.1⟩
 have i_epochItem_c:∀ (a:F1) (k:Tag) (place:Int) (e:M6),P9 gl prog 44 [.v a,.v k,.v place,.v e] [a.G4.length≤1000000,a.B7.length≤1000000,∀ x∈a.B7,x.O8.length≤1000000] (.t3 (.v (K3 a k place e).1) (.v (K3 a k place e).2.1) (.v (K3 a k place e).2.2)):=fun a k place e=>⟨fun hh=>b5y a k place e hh.1 hh.2.1 hh.2.2.1⟩
 have i_publish_c:∀ (a0:F1) (a1:F1) (x:l8) (i:Item),P9 gl prog 45 [.v a0,.v a1,.v x,.v i] [IsG x,i.Kind≠2,∀ y∈a1.B7,y.Plain.length≤1000000,i.O8.length≤1000000] (.t3 (.v (S3 a0 a1 x i).1) (.v (S3 a0 a1 x i).2.1) (.v (S3 a0 a1 x i).2.2)):=fun a0 a1 x i=>⟨fun hh=>b2h a0 a1 x i hh.1 hh.2.1 hh.2.2.1 hh.2.2.2.1⟩
 have i1:∀ (x:l8),P9 gl prog 41 [.v x] [IsB x] (.v x):=fun x=>⟨fun hh=>a2c x hh.1⟩
 have hf:=hA.b0O
 have hk:=hA.key (by omega)
 have hkm:=hk.a6G
 have hkb:=hk.boxes
 refine .go func10 rfl 72 [.cell 4 46,.cell 5 39,.tmp 6] rfl (by kernel_rfl) fun C hG=>(.z hG (by kernel_rfl) fun _ _ _ _=>⟨fun h1=>⟨h.b,?_⟩,fun h1=>⟨fun h2=>⟨h.b,?_⟩,fun h2=>⟨hf,fun _ _=>⟨fun h3=>⟨h.b,?_⟩,fun h3=>⟨by omega,by omega,by omega,by omega,by omega,by omega,hk.c60,fun _=>⟨fun h4=>⟨h.b,?_⟩,fun h4 => ?_⟩⟩⟩⟩⟩⟩)
 ·unfold a1M;rw [if_pos h1]
 ·unfold a1M;rw [if_neg h1,if_pos h2]
 ·unfold a1M;rw [if_neg h1,if_neg h2,if_pos h3]
 ·unfold a1M;rw [if_neg h1,if_neg h2,if_neg h3];exact((if_pos (c:=(K3 (K2 a).1 x.D4 (x.E4.length+1) ⟨x.Ring.H7+1,(K2 a).2.1⟩).2.2≠0) h4)▸rfl)
 ·have h5:(K3 (K2 a).1 x.D4 (x.E4.length+1) ⟨x.Ring.H7+1,(K2 a).2.1⟩).2.2=0:=Classical.not_not.1 h4
  obtain⟨q1,q2,q3⟩:=b7C hk (by omega) h5
  refine⟨h,?_,q3,q2,?_⟩
  ·rw [show(K3 (K2 a).1 x.D4 (x.E4.length+1) ⟨x.Ring.H7+1,(K2 a).2.1⟩).2.1.Kind=1 from q1];decide
  ·have e:a1M a x=S3 a (K3 (K2 a).1 x.D4 (x.E4.length+1) ⟨x.Ring.H7+1,(K2 a).2.1⟩).1 x (K3 (K2 a).1 x.D4 (x.E4.length+1) ⟨x.Ring.H7+1,(K2 a).2.1⟩).2.1:=by unfold a1M;rw [if_neg h1,if_neg h2,if_neg h3,if_neg (by rw [h5];decide)]
   rw [e]
def a52 (a:F1)(x:l8)(t:Tag):F1×l8×Int:=if ¬x.Up=true then (a,x,13) else a4Q a x { (default:Item) with Kind:=3,Node:=t }
theorem c3I (a:F1)(x:l8)(t:Tag)(n:Nat)(h:IsG x)(hA:G2 a n)(hn:n≤60000):C4 gl prog 46 [.v a,.v x,.v t] (fun r=>r = .t3 (.v (a52 a x t).1) (.v (a52 a x t).2.1) (.v (a52 a x t).2.2)):=by
 have i0:∀ (a:F1) (x:l8) (i:Item),P9 gl prog 94 [.v a,.v x,.v i] [IsG x,G2 a n,i.Kind≠2,i.O8.length≤1000000] (.t3 (.v (a4Q a x i).1) (.v (a4Q a x i).2.1) (.v (a4Q a x i).2.2)):=fun a x i=>⟨fun q=>c3G a x i n q.1 q.2.1 hn q.2.2.1 q.2.2.2.1⟩
 have i1:∀ (x:l8),P9 gl prog 41 [.v x] [IsB x] (.v x):=fun x=>⟨fun hh=>a2c x hh.1⟩
 refine .go func46 rfl 23 [.cell 6 46,.cell 7 39,.tmp 8] rfl (by kernel_rfl) fun C hG=>(.z hG (by kernel_rfl) fun _ _ _ _ _=>⟨fun h1=>⟨h.b,?_⟩,fun h1=>⟨h,hA,show(3:Int)≠2 by decide,Nat.zero_le _,?_⟩⟩)
 ·unfold a52;rw [if_pos h1]
 ·unfold a52;rw [if_neg h1]
theorem e00:¬((0:Int)≠0):=by decide
theorem b2j {n:Nat}(t:List UInt8)(h:n≤281474976710656):O6 ⟨D5 n++t,0⟩=((n:Int),⟨t,0⟩):=by
 unfold O6;rw [if_neg e00,a5S t h]
 simp
theorem a0B {n:Int}(t:List UInt8)(h0:0≤n)(h:n≤281474976710656):O6 ⟨D5 n.toNat++t,0⟩=(n,⟨t,0⟩):=by
 rw [b2j t (by omega)]
 rw [Int.toNat_of_nonneg h0]
theorem c0N (x:Tag)(t:List UInt8):a2F ⟨x.l++t,0⟩=(x,⟨t,0⟩):=by
 have hx:x.l.length=32:=x.h
 unfold a2F
 rw [if_neg e00,if_neg (by show ¬(x.l++t).length < 32;rw [List.length_append];omega)]
 have e:a0J (default:Tag) (x.l++t)=x:=by
  apply M4.ext
  show(x.l++t).take 32++(default:Tag).l.drop (x.l++t).length=x.l
  rw [List.take_append_of_le_length (by omega),List.take_of_length_le (by omega),List.drop_eq_nil_of_le (by rw [List.length_append,M4.len,hx];omega),List.append_nil]
 rw [e]
 exact congrArg (fun q=>(x,E6.mk q 0)) (List.drop_left' hx)
theorem b5D {x:List UInt8}(t:List UInt8)(h:x.length≤1024):a0b ⟨D5 x.length++x++t,0⟩=(x,⟨t,0⟩):=by
 unfold a0b;rw [if_neg e00,a6D t h]
 show(x,E6.mk ((D5 x.length++x++t).drop (((D5 x.length++x).length:Int)).toNat) 0)=_
 rw [Int.toNat_natCast,List.drop_left]
theorem a8n {b t:List UInt8}{u:Int}{n:Nat}(h:b.drop u.toNat=D5 n++t)(hn:n≤281474976710656):M7 ⟨⟨b,u⟩,0⟩=((n:Int),⟨⟨b,u+((D5 n).length:Int)⟩,0⟩):=by
 unfold M7 a2a a5y;rw [if_neg e00]
 simp only [h,a5S t hn]
theorem a8Z {b t x:List UInt8}{u:Int}(h:b.drop u.toNat=D5 x.length++x++t)(hx:x.length≤1024):S0 ⟨⟨b,u⟩,0⟩=(x,⟨⟨b,u+((D5 x.length++x).length:Int)⟩,0⟩):=by
 unfold S0 a2a a5y;rw [if_neg e00]
 simp only [h,a6D t hx]
theorem b7D {b t:List UInt8}{u:Int}{p:Pred}(h:b.drop u.toNat=E0 p++t)(hp:I9 p=true):a3N ⟨⟨b,u⟩,0⟩=(p,⟨⟨b,u+((E0 p).length:Int)⟩,0⟩):=by
 unfold a3N a2a a5y
 simp only [h,c27 t hp]
theorem b7E {c:Cav}(t:List UInt8)(h:S5 c=true):Z2 (D9 c++t)=(c,((D9 c).length:Int),0):=by
 have n1:D5 1 = [1]:=a3u (by decide)
 have n2:D5 2 = [2]:=a3u (by decide)
 cases h3:c.a0l with
 | false =>
  obtain⟨h4,h5,h6,h7⟩:=a3w h h3
  have eb:D9 c++t=D5 1++(E0 c.X3++t):=by unfold D9;rw [if_neg (by rw [h3];decide),n1];rfl
  have e1:=a8n (b:=D9 c++t) (t:=E0 c.X3++t) (u:=0) (n:=1) eb (by decide)
  have ed:(D9 c++t).drop ((0:Int)+((D5 1).length:Int)).toNat=E0 c.X3++t:=by rw [eb,n1];rfl
  have e2:=b7D (b:=D9 c++t) (t:=t) (u:=0+((D5 1).length:Int)) ed h4
  have e3:X5 (D9 c++t)=({ (default:Cav) with X3:=c.X3 },⟨⟨D9 c++t,0+((D5 1).length:Int)+((E0 c.X3).length:Int)⟩,0⟩):=by
   rw [b2a (by rw [e1];exact e00) (by rw [e1];rfl),e1]
   simp only [e2]
  have ec:({ (default:Cav) with X3:=c.X3 }:Cav)=c:=by
   cases c;simp only at h3 h5 h6 h7 ⊢;subst h3;subst h5;subst h6;subst h7;rfl
  rw [ec] at e3
  unfold Z2 a2S
  rw [e3,if_neg e00,if_pos h]
  refine congrArg (fun q=>(c,q,(0:Int))) ?_
  have:(D9 c).length=1+(E0 c.X3).length:=by unfold D9;rw [if_neg (by rw [h3];decide)];simp;omega
  rw [this,n1];show(0:Int)+((1:Nat):Int)+_=_;omega
 | true =>
  obtain⟨h4,h5,h6,h7,h8,h9,h10⟩:=a3v h h3
  have eb:D9 c++t=D5 2++(D5 c.U3.toNat++(D5 c.L7.length++c.L7++(D5 c.O8.length++c.O8++t))):=by unfold D9 a3M;rw [if_pos h3,n2];simp
  have e1:=a8n (b:=D9 c++t) (u:=0) (n:=2) eb (by decide)
  have d1:(D9 c++t).drop ((0:Int)+((D5 2).length:Int)).toNat=D5 c.U3.toNat++(D5 c.L7.length++c.L7++(D5 c.O8.length++c.O8++t)):=by rw [eb,n2];rfl
  have e2:=a8n (b:=D9 c++t) (u:=0+((D5 2).length:Int)) (n:=c.U3.toNat) d1 (by omega)
  have d2:(D9 c++t).drop ((0:Int)+((D5 2).length:Int)+((D5 c.U3.toNat).length:Int)).toNat=D5 c.L7.length++c.L7++(D5 c.O8.length++c.O8++t):=by
   rw [show((0:Int)+((D5 2).length:Int)+((D5 c.U3.toNat).length:Int)).toNat=((0:Int)+((D5 2).length:Int)).toNat+(D5 c.U3.toNat).length by omega,←List.drop_drop,d1,List.drop_left]
  have e3:=a8Z (b:=D9 c++t) (u:=0+((D5 2).length:Int)+((D5 c.U3.toNat).length:Int)) d2 h8
  have d3:(D9 c++t).drop ((0:Int)+((D5 2).length:Int)+((D5 c.U3.toNat).length:Int)+((D5 c.L7.length++c.L7).length:Int)).toNat=D5 c.O8.length++c.O8++t:=by
   rw [show((0:Int)+((D5 2).length:Int)+((D5 c.U3.toNat).length:Int)+((D5 c.L7.length++c.L7).length:Int)).toNat=((0:Int)+((D5 2).length:Int)+((D5 c.U3.toNat).length:Int)).toNat+(D5 c.L7.length++c.L7).length by omega,←List.drop_drop,d2,List.drop_left]
  have e4:=a8Z (b:=D9 c++t) (u:=0+((D5 2).length:Int)+((D5 c.U3.toNat).length:Int)+((D5 c.L7.length++c.L7).length:Int)) d3 h10
  have e5:X5 (D9 c++t)=(c,⟨⟨D9 c++t,0+((D5 2).length:Int)+((D5 c.U3.toNat).length:Int)+((D5 c.L7.length++c.L7).length:Int)+((D5 c.O8.length++c.O8).length:Int)⟩,0⟩):=by
   rw [b2b (by rw [e1];exact e00) (by rw [e1];show ¬((2:Nat):Int)=1;decide) (by rw [e1];rfl),e1]
   simp only [e2,e3,e4]
   refine congrArg (fun q:Cav=>(q,_)) ?_
   cases c;simp only at h3 h4 h5 ⊢;subst h3;subst h4
   rw [Int.toNat_of_nonneg h5];rfl
  unfold Z2 a2S
  rw [e5,if_neg e00,if_pos h]
  refine congrArg (fun q=>(c,q,(0:Int))) ?_
  have:(D9 c).length=1+(D5 c.U3.toNat).length+(D5 c.L7.length++c.L7).length+(D5 c.O8.length++c.O8).length:=by unfold D9 a3M;rw [if_pos h3];simp only [List.length_cons,List.length_append];omega
  rw [this,n2];show(0:Int)+((1:Nat):Int)+_+_+_=_;omega
theorem c0O {c:Cav}(t:List UInt8)(h:S5 c=true):a1H ⟨D9 c++t,0⟩=(c,⟨t,0⟩):=by
 unfold a1H;rw [if_neg e00,b7E t h]
 simp
theorem b0T (t:List UInt8):∀ (l:List Cav),(∀ c∈l,S5 c=true)→a2b l.length ⟨(l.map D9).flatten++t,0⟩=(l,⟨t,0⟩)
 | [],_=>rfl
 | c::l,h=>by
  have e:((c::l).map D9).flatten++t=D9 c++((l.map D9).flatten++t):=by simp
  rw [e,List.length_cons,a2b,c0O _ (h c List.mem_cons_self),b0T t l fun x hx=>h x (List.mem_cons_of_mem _ hx)]
theorem c0P {l:List Cav}(t:List UInt8)(hl:l.length≤64)(h:∀ c∈l,S5 c=true):a3y ⟨D5 l.length++(l.map D9).flatten++t,0⟩=(l,⟨t,0⟩):=by
 unfold a3y
 have e:R9 ⟨D5 l.length++(l.map D9).flatten++t,0⟩=((l.length:Int),⟨(l.map D9).flatten++t,0⟩):=by
  unfold R9
  rw [List.append_assoc,b2j _ (by omega)]
  simp;omega
 rw [e]
 exact b0T t l h
theorem c8r {r:Rec}(hk:r.Kind=2)(hf:Fits r)(hx:r = { (default:Rec) with Kind:=2,M3:=r.M3 }):a4W (M9 r)=(r,⟨[],0⟩):=by
 have hp:C9 r.Kind=Q5:=by unfold C9;rw [if_pos hk]
 have f1:0≤r.M3.O0∧r.M3.O0≤281474976710656:=hf (.num (u4.l4.comp u9.l0) 1 1073741824) (by rw [hp];exact List.mem_cons_self)
 have f2:0≤r.M3.M6∧r.M3.M6≤281474976710656:=hf (.num (u4.l4.comp u9.l1) 1 1000) (by rw [hp];exact List.mem_cons_of_mem _ (List.mem_cons_self))
 have f3:r.M3.y5.length≤64∧∀ c∈r.M3.y5,S5 c=true:=hf (.cav (u4.l4.comp u9.l2)) (by rw [hp];exact List.mem_cons_of_mem _ (List.mem_cons_of_mem _ (List.mem_cons_self)))
 have eb:M9 r=D5 (2:Int).toNat++(D5 r.M3.O0.toNat++(D5 r.M3.M6.toNat++(D5 r.M3.y5.length++(r.M3.y5.map D9).flatten ++ []))):=by
  unfold M9;rw [hp,hk]
  show _++(D5 r.M3.O0.toNat++(D5 r.M3.M6.toNat++((D5 r.M3.y5.length++(r.M3.y5.map D9).flatten) ++ [])))=_
  simp
 have e0:a0T (M9 r)=({ (default:Rec) with Kind:=2 },⟨D5 r.M3.O0.toNat++(D5 r.M3.M6.toNat++(D5 r.M3.y5.length++(r.M3.y5.map D9).flatten ++ [])),0⟩):=by
  unfold a0T;rw [eb,a0B _ (by decide) (by decide)]
 have e1:a4W (M9 r)=Q5.foldl (fun q p=>p.rd q.1 q.2) (a0T (M9 r)):=by
  unfold a4W rdK
  rw [show(a0T (M9 r)).1.Kind=2 by rw [e0],List.take_length];rfl
 rw [e1,e0]
 unfold Q5
 simp only [List.foldl_cons,List.foldl_nil,Part.rd,a0B _ f1.1 f1.2,a0B _ f2.1 f2.2,c0P _ f3.1 f3.2]
 rw [hx];rfl
theorem c8s {r:Rec}(hk:r.Kind=4)(hf:Fits r)(hx:r = { (default:Rec) with Kind:=4,Item:=r.Item }):a4W (M9 r)=(r,⟨[],0⟩):=by
 have hp:C9 r.Kind=Q6:=by unfold C9;rw [if_neg (by omega)]
 have f1:0≤r.Item.Place∧r.Item.Place≤281474976710656:=hf (.num (u4.l5.comp o7.l0) 1 4096) (by rw [hp];exact List.mem_cons_self)
 have f2:0≤r.Item.Kind∧r.Item.Kind≤281474976710656:=hf (.num (u4.l5.comp o7.l1) 1 3) (by rw [hp];exact List.mem_cons_of_mem _ (List.mem_cons_self))
 have f3:0≤r.Item.Number∧r.Item.Number≤281474976710656:=hf (.num (u4.l5.comp o7.l2) 0 1000) (by rw [hp];exact List.mem_cons_of_mem _ (List.mem_cons_of_mem _ (List.mem_cons_self)))
 have f5:r.Item.O8.length≤1024:=hf (.box (u4.l5.comp o7.l4)) (by rw [hp];exact List.mem_cons_of_mem _ (List.mem_cons_of_mem _ (List.mem_cons_of_mem _ (List.mem_cons_of_mem _ (List.mem_cons_self)))))
 have eb:M9 r=D5 (4:Int).toNat++(D5 r.Item.Place.toNat++(D5 r.Item.Kind.toNat++(D5 r.Item.Number.toNat++(r.Item.Node.l++(D5 r.Item.O8.length++r.Item.O8++(r.Item.Tag.l ++ [])))))):=by
  unfold M9;rw [hp,hk]
  show _++(D5 r.Item.Place.toNat++(D5 r.Item.Kind.toNat++(D5 r.Item.Number.toNat++(r.Item.Node.l++((D5 r.Item.O8.length++r.Item.O8)++(r.Item.Tag.l ++ []))))))=_
  rfl
 have e0:a0T (M9 r)=({ (default:Rec) with Kind:=4 },⟨D5 r.Item.Place.toNat++(D5 r.Item.Kind.toNat++(D5 r.Item.Number.toNat++(r.Item.Node.l++(D5 r.Item.O8.length++r.Item.O8++(r.Item.Tag.l ++ []))))),0⟩):=by
  unfold a0T;rw [eb,a0B _ (by decide) (by decide)]
 have e1:a4W (M9 r)=Q6.foldl (fun q p=>p.rd q.1 q.2) (a0T (M9 r)):=by
  unfold a4W rdK
  rw [show(a0T (M9 r)).1.Kind=4 by rw [e0],List.take_length];rfl
 rw [e1,e0]
 unfold Q6
 simp only [List.foldl_cons,List.foldl_nil,Part.rd,a0B _ f1.1 f1.2,a0B _ f2.1 f2.2,a0B _ f3.1 f3.2,c0N,b5D _ f5]
 rw [hx];rfl
theorem b9e {r:Rec}(hk:r.Kind=2)(h:a1G r=false):r = { (default:Rec) with Kind:=2,M3:=r.M3 }:=by
 have hp:C9 r.Kind=Q5:=by unfold C9;rw [if_pos hk]
 unfold a1G at h
 simp only [Bool.not_eq_false',decide_eq_true_eq] at h
 unfold a4A at h
 rw [hp] at h
 obtain⟨k,n,ke,no,m,i,ns⟩:=r
 have h2:=congrArg u4.Number h
 have h3:=congrArg u4.Key h
 have h4:=congrArg u4.Node h
 have h5:=congrArg u4.Item h
 have h6:=congrArg u4.a2C h
 have h2:n=(default:Rec).Number:=h2
 have h3:ke=(default:Rec).Key:=h3
 have h4:no=(default:Rec).Node:=h4
 have h5:i=(default:Rec).Item:=h5
 have h6:ns=(default:Rec).a2C:=h6
 have hk:k=2:=hk
 subst h2;subst h3;subst h4;subst h5;subst h6;subst hk;rfl
theorem b9f {r:Rec}(hk:r.Kind=4)(h:a1G r=false):r = { (default:Rec) with Kind:=4,Item:=r.Item }:=by
 have hp:C9 r.Kind=Q6:=by unfold C9;rw [if_neg (by omega)]
 unfold a1G at h
 simp only [Bool.not_eq_false',decide_eq_true_eq] at h
 unfold a4A at h
 rw [hp] at h
 obtain⟨k,n,ke,no,m,i,ns⟩:=r
 have h2:=congrArg u4.Number h
 have h3:=congrArg u4.Key h
 have h4:=congrArg u4.Node h
 have h5:=congrArg u4.M3 h
 have h6:=congrArg u4.a2C h
 have h2:n=(default:Rec).Number:=h2
 have h3:ke=(default:Rec).Key:=h3
 have h4:no=(default:Rec).Node:=h4
 have h5:m=(default:Rec).M3:=h5
 have h6:ns=(default:Rec).a2C:=h6
 have hk:k=4:=hk
 subst h2;subst h3;subst h4;subst h5;subst h6;subst hk;rfl
theorem c3J {r:Rec}(hk:r.Kind=2∨r.Kind=4)(hf:Fits r)(hx:a1G r=false):a4W (M9 r)=(r,⟨[],0⟩) :=
 hk.elim (fun h=>c8r h hf (b9e h hx)) (fun h=>c8s h hf (b9f h hx))
theorem b5E {r:Rec}(hk:r.Kind=2∨r.Kind=4)(h:K6 r=0):a0N (M9 r)=(r,0):=by
 have hx:a1G r=false:=by
  unfold K6 at h
  split at h
  ·cases h
  ·next h1=>simpa using h1
 have e:=c3J hk (a9C h) hx
 have he:a3O (M9 r)=0:=by
  unfold a3O;rw [e];simp [h]
 unfold a0N;rw [he,e];rfl
def a5C (x:l8)(p:B5):u9:=⟨x.C0.length+1,(I4 x.Ring x.Ring.H7).1.Number,p.y5⟩
def a1I (a:F1)(x:l8)(p:F1×B5×Int):F1×l8×Int:=a0A a p.1 x (W7 (a5C x p.2.1)) fun y => { y with C0:=y.C0 ++ [a5C x p.2.1] }
def a7y (a:F1)(x:l8)(l:List Pred):F1×B5×Int:=X6 (U8 a (I4 x.Ring x.Ring.H7).1 (x.C0.length+1)) l
def a81 (a:F1)(x:l8)(p:F1×B5×Int):F1×l8×B5×Int :=
 if p.2.2≠0 then (a,x,default,p.2.2) else
 if (a1I a x p).2.2≠0 then ((a1I a x p).1,(a1I a x p).2.1,default,(a1I a x p).2.2) else ((a1I a x p).1,(a1I a x p).2.1,p.2.1,0)
def P8 (a:F1)(x:l8)(l:List Pred):F1×l8×B5×Int :=
 if ¬x.Up=true then (a,x,default,13) else
 if ¬(I4 x.Ring x.Ring.H7).2=true then (a,x,default,16) else
 if 64 < (l.length:Int) then (a,x,default,2) else
 if 1073741824 < (x.C0.length:Int)+1 then (a,x,default,1) else a81 a x (a7y a x l)
theorem c8t (a:F1)(x:l8)(l:List Pred)(n:Nat)(h:IsG x)(hA:G2 a n)(hn:n≤60000)(hm:x.C0.length≤999999):C4 gl prog 31 [.v a,.v x,.v l] (fun r=>r = .t4 (.v (P8 a x l).1) (.v (P8 a x l).2.1) (.v (P8 a x l).2.2.1) (.v (P8 a x l).2.2.2)):=by
 have e1:ExF 70:=⟨trivial⟩
 have hM:=hA.a6G
 have i1:∀ (x:l8),P9 gl prog 41 [.v x] [IsB x] (.v x):=fun x=>⟨fun hh=>a2c x hh.1⟩
 have i2:∀ (r:Rec) (a0 a1:F1) (x:l8) (m:u9),P9 gl prog 71 [.v (J8.mk r (FnC.mk' 70 m)),.v a0,.v a1,.v x,.v (FnV.mk (some 72))] [r=W7 m,IsG x,x.C0.length≤999999,V0 m.y5] (.t3 (.v (a0A a0 a1 x (W7 m) fun y => { y with C0:=y.C0 ++ [m] }).1) (.v (a0A a0 a1 x (W7 m) fun y => { y with C0:=y.C0 ++ [m] }).2.1) (.v (a0A a0 a1 x (W7 m) fun y => { y with C0:=y.C0 ++ [m] }).2.2)):=fun r a0 a1 x m=>⟨fun q=>q.1▸c8q a0 a1 x m q.2.1.b q.2.1.act q.2.1.wr q.2.2.1 q.2.2.2.1⟩
 have fz:FzR 15 16:=⟨trivial⟩
 have i_ringFind_c:∀ (r:D6) (n:Int),P9 gl prog 68 [.v r,.v n] [] (.t2 (.v (I4 r n).1) (.v (I4 r n).2)):=fun r n=>⟨fun hh=>b6P r n⟩
 have i_isPass_c:∀ (a:F1) (root:y3) (n:Int) (l:List Pred),P9 gl prog 69 [.v a,.v root,.v n,.v l] [0≤n,n≤281474976710656,a.G4.length≤700000,l.length≤1000] (.t3 (.v (X6 (U8 a root n) l).1) (.v (X6 (U8 a root n) l).2.1) (.v (X6 (U8 a root n) l).2.2)):=fun a root n l=>⟨fun hh=>c3x a root n l hh.1 hh.2.1 hh.2.2.1 hh.2.2.2.1⟩
 refine .go func31 rfl 106 [.cell 6 46,.cell 7 39,.cell 8 77,.tmp 9] rfl (by kernel_rfl) fun C hG=>(.z hG (by kernel_rfl) fun _ _ _ _ _=>⟨fun h1=>⟨h.b,?_⟩,fun h1 _=>⟨by omega,by omega,fun h2=>⟨h.b,?_⟩,fun h2=>⟨fun h3=>⟨h.b,?_⟩,fun h3=>⟨fun h4=>⟨h.b,?_⟩,fun h4=>⟨by omega,by omega,by omega,by omega,fun _ _=>⟨fun h5=>⟨h.b,?_⟩,fun h5 _ _=>⟨rfl,h,hm,?_,fun _ _=>⟨fun h6 => ?_,fun h6 => ?_⟩⟩⟩⟩⟩⟩⟩⟩)
 ·unfold P8;rw [if_pos h1]
 ·unfold P8;rw [if_neg h1,if_pos h2]
 ·unfold P8;rw [if_neg h1,if_neg h2,if_pos h3]
 ·unfold P8;rw [if_neg h1,if_neg h2,if_neg h3,if_pos h4]
 all_goals have hE:P8 a x l=a81 a x (a7y a x l):=by unfold P8;rw [if_neg h1,if_neg h2,if_neg h3,if_neg h4]
 ·have h5:(a7y a x l).2.2≠0:=h5
  rw [hE];unfold a81;rw [if_pos h5];rfl
 ·have hB:=a2H.all (a2H.c5Y (a:=a) (root:=(I4 x.Ring x.Ring.H7).1) (n:=x.C0.length+1) (M:=a.G4.length+2) (Nat.le_refl _)) l (by omega) l.length (Nat.le_refl _)
  rw [List.take_length] at hB
  exact hB.2.1
 ·have h5:¬(a7y a x l).2.2≠0:=h5
  have h6:(a1I a x (a7y a x l)).2.2≠0:=h6
  rw [hE];unfold a81;rw [if_neg h5,if_pos h6];rfl
 ·have h5:¬(a7y a x l).2.2≠0:=h5
  have h6:¬(a1I a x (a7y a x l)).2.2≠0:=h6
  rw [hE];unfold a81;rw [if_neg h5,if_neg h6];rfl
def a38 (a:F1)(x:l8)(r:Rec):l8×Int :=
 if r.Kind=4 then H6 a x r.Item else if r.Kind=2 then ({ x with C0:=x.C0 ++ [r.M3] },0) else (x,6)
def replay (a:F1):l8×Int→List Rec→l8×Int
 | x,[]=>x
 | x,r::l=>if x.2≠0 then x else replay a (a38 a x.1 r) l
def a3Q (x:l8):l8 := { (default:l8) with D4:=x.D4,Device:=F5 x.Device,Up:=true }
def V9 (a:F1)(x:l8):l8×Int :=
 if x.Up=true then (x,13) else
 if (a0e (F5 x.Device)).2≠0 then (x,(a0e (F5 x.Device)).2) else
 if (replay a (a3Q x,0) (a0e (F5 x.Device)).1).2≠0 then (x,(replay a (a3Q x,0) (a0e (F5 x.Device)).1).2) else ((replay a (a3Q x,0) (a0e (F5 x.Device)).1).1,0)
theorem c56 (y:l8)(w:Value)(h1:y.C0 = [])(h2:y.E4 = [])(I:Fl.Im)(X:List (Nat×Obj))(h:(C3.ob w (mx y (.slice none 0 0) (.slice none 0 0))).a0H I X):(C3.P4 w (IsV.mk y)).a0H I X:=by
 refine⟨(.slice none 0 0,.slice none 0 0),[X,[],[]],by simp,⟨X,_,rfl,h,[],_,rfl,?_,[],_,rfl,?_,rfl⟩⟩
 ·rw [h1];exact⟨[],a0Q.nil _ _,rfl⟩
 ·rw [h2];exact⟨[],a0Q.nil _ _,rfl⟩
theorem b5F (r:D6)(e:y3):(X4 r e).1.Live.length≤r.Live.length+1:=by
 have:(default:D6).Live.length=0:=rfl
 unfold X4;repeat' split
 all_goals simp_all
structure RpB (k:Nat)(x:l8):Prop where
 live:x.Ring.Live.length≤k
 items:x.E4.length≤k
 a0f:x.C0.length≤k
theorem b9g {a:F1}{x:l8}{k:Nat}(h:RpB k x)(r:Rec):RpB (k+1) (a38 a x r).1:=by
 have h1:=h.live
 have h2:=h.items
 have h3:=h.a0f
 have h4:=b5F x.Ring (M0 a x.D4 r.Item).1
 unfold a38 H6
 repeat' split
 all_goals first|(exact⟨by dsimp only;omega,by dsimp only;omega,by dsimp only;omega⟩)|exact⟨by dsimp only;omega,by dsimp only;rw [List.length_append,List.length_singleton];omega,by dsimp only;omega⟩|exact⟨by dsimp only;omega,by dsimp only;omega,by dsimp only;rw [List.length_append,List.length_singleton];omega⟩
def c3K (Y:l8)(E:Int)(r:AV)(Hs:List C3):Prop :=
 (∃ u:Value×Value,r = .t2 (.v (mx Y u.1 u.2)) (.v E)∧Hs = [.own 114 u.1 Y.C0,.own 101 u.2 Y.E4])∨(r = .t2 (.v Y) (.v E)∧Hs = [])
theorem c3K.frz {Y:l8}{E:Int}(x:AV)(Hs:List C3)(I:Fl.Im)(L:Lh)(v:Value)(hp:c3K Y E x Hs)(hv:F9 I x v)(hL:Q9 I Hs L)(J:Fl.Im)(hle:Le I J)(hj:∀ p∈L.flatten,J p.1=some p.2):F9 J (.t2 (.v Y) (.v E)) v:=by
 rcases hp with ⟨u,rfl,rfl⟩|⟨rfl,rfl⟩
 ·obtain⟨X,R,rfl,h1,Z,R2,rfl,h2,h3⟩:=hL
  obtain⟨b,c,rfl,⟨cs,h5,rfl⟩,h6⟩:=hv
  exact⟨_,c,j0,⟨cs,c63 (u3.mono hle h5) (O9 h1 hle fun p hp=>hj p (by simp [hp])) (O9 h2 hle fun p hp=>hj p (by simp [hp])),j0⟩,h6.mono hle⟩
 ·exact hv.mono hle
theorem a82:∀ l,(S1 l).1.length≤l.length
 | []=>Nat.le_refl _
 | b::l=>by
  have:=a82 l
  rw [S1];repeat' split
  all_goals simp_all
theorem b5G (a:F1)(x:l8)(n:Nat)(h:IsG x)(hA:G2 a n)(hl:(a1f (F4 (F5 x.Device))).1.length≤100000)(hr:∀ r∈(a1f (F4 (F5 x.Device))).1,r.length≤1000000∧((O6 ⟨r,0⟩).1=2∨(O6 ⟨r,0⟩).1=4))(hk:∀ r∈(a0e (F5 x.Device)).1,r.Item.Kind≠2∧r.Item.O8.length≤1000000)(hd:V5 (F5 x.Device)) :
    C6 gl prog 14 [.v a,.v x] [] (c3K (V9 a x).1 (V9 a x).2):=by
  have a6:AlR 6 IsM inferInstance:=⟨trivial⟩
  have a20:AlR 20 IsM inferInstance:=⟨trivial⟩
  have i1:∀ (x:l8),P9 gl prog 41 [.v x] [IsB x] (.v x):=fun x=>⟨fun hh=>a2c x hh.1⟩
  have it:∀ (b:Nat) (a:F1) (x:l8) (i:Item),CaM gl prog 49 [.v a,.ln (ptr b 0) (j9.id (α:=IsM)),.v i] (.P4 (ptr b 0) (IsV.mk x)) [i.Kind≠2,∀ y∈a.B7,y.Plain.length≤1000000,x.Ring.Live.length≤1000000,x.E4.length≤1000000,i.O8.length≤1000000] (.v (H6 a x i).2) (.P4 (ptr b 0) (IsV.mk (H6 a x i).1)):=fun b a x i=>⟨fun h=>c3C b a x i h.1 h.2.1 h.2.2.1 h.2.2.2.1 h.2.2.2.2.1⟩
  have i_jRestart_c:∀ (d:l9),P9 gl prog 47 [.v d] [V5 d,d.B3=0∨d.B3=1] (.v (F5 d)):=fun d=>⟨fun hh=>b6S d hh.1 hh.2.1⟩
  have i_load_c:∀ (d:l9),P9 gl prog 48 [.v d] [V5 d,d.B3=0∨d.B3=1,(a1f (F4 d)).1.length≤100000,∀ r∈(a1f (F4 d)).1,r.length≤1000000∧((O6 ⟨r,0⟩).1=2∨(O6 ⟨r,0⟩).1=4)] (.t2 (.v (a0e d).1) (.v (a0e d).2)):=fun d=>⟨fun hh=>c8i d hh.1 hh.2.1 hh.2.2.1 hh.2.2.2.1⟩
  have hln:(a0e (F5 x.Device)).1.length≤100000:=Nat.le_trans (a82 _) hl
  have ha2:(F5 x.Device).B3=0∨(F5 x.Device).B3=1:=h.act
  generalize hP:c3K (V9 a x).1 (V9 a x).2=P
  refine .go func14 rfl 62 [.cell 4 39,.tmp 5] rfl (by kernel_rfl) fun C hG=>(.z hG (by kernel_rfl) fun b b1 b2=>⟨fun h1=>⟨h.b,[],.nil,?_⟩,fun h1=>⟨h.b.dev,h.act,⟨fun _ _=>by kernel_rfl,trivial⟩,fun nm => ?_⟩⟩)
  · subst hP;unfold V9;rw [if_pos h1];exact .inr ⟨rfl,rfl⟩
  · dsimp only
    generalize (nm (0+1+1+1+1+1+1)).2=b6
    refine⟨hd,ha2,hl,hr,fun h2=>⟨h.b,[],.nil,?_⟩,fun h2 => ?_⟩
    · subst hP;unfold V9;rw [if_neg h1,if_pos h2];exact .inr ⟨rfl,rfl⟩
    · have h2':(a0e (F5 x.Device)).2=0:=Classical.not_not.1 h2
      have hF:V9 a x=if (replay a (a3Q x,0) (a0e (F5 x.Device)).1).2≠0 then (x,(replay a (a3Q x,0) (a0e (F5 x.Device)).1).2) else ((replay a (a3Q x,0) (a0e (F5 x.Device)).1).1,0):=by unfold V9;rw [if_neg h1,if_neg h2]
      rw [hF] at hP
      refine .c8o (ptr b6 0) (.P4 (ptr b6 0) (IsV.mk (a3Q x))) (c56 (a3Q x) (ptr b6 0) j0 j0) ?_
      generalize (a0e (F5 x.Device)).1=L at hk hln hP ⊢
      refine .lp hG (fun y:Nat×l8 => [(34,.v (y.1:Int)),(8,.v (0:Int))]) (fun y => [(ptr b6 0,.P4 (ptr b6 0) (IsV.mk y.2))]) (fun y=>y.1≤L.length∧RpB y.1 y.2∧replay a (a3Q x,0) L=replay a (y.2,0) (L.drop y.1)) (fun y=>L.length - y.1) (0,a3Q x) (by kernel_rfl)
        ⟨rfl,by rw [h2'],⟨Nat.zero_le _,⟨Nat.le_refl _,Nat.le_refl _,Nat.le_refl _⟩,rfl⟩,fun ⟨k,st⟩ ⟨hk1,hB,hR⟩=>⟨fun h4=>⟨by omega,h4,fun b10=>⟨fun h5 => ?_,fun h5 => ?_⟩⟩,fun h4 => ?_⟩⟩
      all_goals dsimp only at *
      · have hL:=a17 (l:=L) (k:=k) (by omega)
        rw [hL,replay,if_neg e00] at hR
        rw [Int.toNat_natCast] at h5 ⊢
        have hm:=hk _ (T7 (l:=L) (k:=k) (by omega))
        have hpl:=hA.b3y
        have hB1:=hB.live
        have hB2:=hB.items
        have e:a38 a st (L.getD k default)=H6 a st (L.getD k default).Item:=by unfold a38;rw [if_pos h5]
        have hS:=b9g (a:=a) hB (L.getD k default)
        rw [e] at hR hS
        refine .z hG (by kernel_rfl) ⟨hm.1,hpl,by omega,by omega,hm.2,fun h6=>⟨h.b,[],.nil,?_⟩,fun h6=>⟨by omega,by omega,(k+1,_),rfl,by rw [Classical.not_not.1 h6],rfl,⟨by show k+1≤_;omega,hS,?_⟩,by show _ - (k+1) < _;omega⟩⟩
        · subst hP
          have hE:∀ l,replay a (H6 a st (L.getD k default).Item) l=H6 a st (L.getD k default).Item:=fun l=>by cases l with
            | nil=>rfl
            | cons r l=>rw [replay,if_pos h6]
          rw [hR,hE,if_pos h6];exact .inr ⟨rfl,rfl⟩
        · rw [hR];dsimp only
          congr 1
          exact Prod.ext rfl (Classical.not_not.1 h6)
      · have hL:=a17 (l:=L) (k:=k) (by omega)
        rw [hL,replay,if_neg e00] at hR
        rw [Int.toNat_natCast] at h5 ⊢
        refine .z hG (by kernel_rfl) ⟨fun h6 => ?_,fun h6 => .z hG (by kernel_rfl) ⟨fun _=>⟨h.b,[],.nil,?_⟩,fun q=>absurd (show(6:Int)≠0 by decide) q⟩⟩
        · refine .b0R (ptr b6 0) (a7x st (ptr b6 0)) (b3x st (ptr b6 0)) fun v => ?_
          have hB3:=hB.a0f
          have e1 : [(L.getD k default).M3].length=1:=rfl
          refine .w 10 hG (by kernel_rfl) fun _=>⟨by omega,by omega,fun w' => ?_⟩
          have e:a38 a st (L.getD k default)=({ st with C0:=st.C0 ++ [(L.getD k default).M3] },0):=by unfold a38;rw [if_neg h5,if_pos h6]
          have hS:=b9g (a:=a) hB (L.getD k default)
          rw [e] at hR hS
          show wpA prog C 62 _ _ _ _
          refine .d1g [ptr b6 0,w',v.2] (.P4 (ptr b6 0) (IsV.mk { st with C0:=st.C0 ++ [(L.getD k default).M3] })) (fun I Xs h=>⟨(w',v.2),Xs,j0,h⟩) ?_
          exact .z hG (by kernel_rfl) ⟨fun q=>absurd rfl q,fun _=>⟨by omega,by omega,(k+1,_),rfl,rfl,rfl,⟨by show k+1≤_;omega,hS,hR⟩,by show _ - (k+1) < _;omega⟩⟩
        · subst hP
          have e:a38 a st (L.getD k default)=(st,6):=by unfold a38;rw [if_neg h5,if_neg h6]
          have hE:replay a (st,6) (L.drop (k+1))=(st,6):=by cases L.drop (k+1)<;>simp [replay]
          rw [hR,e,hE];exact .inr ⟨rfl,rfl⟩
      · obtain rfl:k=L.length:=by omega
        rw [List.drop_of_length_le (Nat.le_refl _),replay] at hR
        refine .b0R (ptr b6 0) (a7x st (ptr b6 0)) (b3x st (ptr b6 0)) fun v=>(.ob1 4 (b0S default) (a5A default) (.z hG (by kernel_rfl) (P6.of [v.1,v.2] ?_)))
        subst hP
        rw [hR];exact .inl ⟨v,rfl,rfl⟩
theorem c0Q (a:F1)(x:l8)(n:Nat)(h:IsG x)(hA:G2 a n)(hl:(a1f (F4 (F5 x.Device))).1.length≤100000)(hr:∀ r∈(a1f (F4 (F5 x.Device))).1,r.length≤1000000∧((O6 ⟨r,0⟩).1=2∨(O6 ⟨r,0⟩).1=4))(hk:∀ r∈(a0e (F5 x.Device)).1,r.Item.Kind≠2∧r.Item.O8.length≤1000000)(hd:V5 (F5 x.Device)) :
    C4 gl prog 14 [.v a,.v x] (fun r=>r = .t2 (.v (V9 a x).1) (.v (V9 a x).2)) :=
  (b5G a x n h hA hl hr hk hd).c5q _ fun x Hs I L v hp hv hL J hle hj=>c3K.frz x Hs I L v hp hv hL J hle hj
def jFr (r:List UInt8):List UInt8 := [UInt8.ofNat (r.length/256),UInt8.ofNat (r.length % 256)]++(sha r).l.take 4++r
def b5H (r:List UInt8):Prop:=1≤r.length∧r.length≤4096
theorem b2k {r:List UInt8}(h:b5H r):Z1 r=(jFr r,0):=by
 unfold b5H at h
 unfold Z1;rw [if_neg (by omega),if_neg (by omega)];rfl
theorem b5I (r:List UInt8):((sha r).l.take 4).length=4:=by rw [List.length_take,M4.len];rfl
theorem a9F (r:List UInt8):(jFr r).length=6+r.length:=by
 unfold jFr
 simp only [List.length_append,b5I,List.length_cons,List.length_nil]
theorem c3L {r:List UInt8}(h:b5H r)(t:List UInt8):a2E (jFr r++t)=r.length:=by
 obtain⟨h0,h1⟩:=h
 unfold a2E jFr
 simp only [List.cons_append,List.getD_cons_zero,List.getD_cons_succ]
 have e1:(UInt8.ofNat (r.length/256)).toNat=r.length/256:=by simp;omega
 have e2:(UInt8.ofNat (r.length % 256)).toNat=r.length % 256:=by simp
 rw [e1,e2];omega
theorem b7F {r:List UInt8}(h:b5H r)(t:List UInt8):a2A (jFr r++t)=some r:=by
 have hl:=a9F r
 have h1:=h.1
 have h2:=h.2
 unfold a2A
 rw [if_neg (by rw [List.length_append];omega),c3L h,if_neg (by rw [List.length_append];omega)]
 have hs:((sha r).l.take 4).length=4:=b5I r
 have e1:((jFr r++t).drop 6).take r.length=r:=by
  unfold jFr
  rw [List.append_assoc,List.drop_append_of_le_length (by simp only [List.length_append,hs];simp)]
  rw [List.drop_of_length_le (by simp only [List.length_append,hs];simp),List.nil_append]
  simp
 have e2:((jFr r++t).drop 2).take 4=(sha r).l.take 4:=by
  unfold jFr
  show(((sha r).l.take 4++r)++t).take 4=_
  rw [List.append_assoc,List.take_append_of_le_length (by omega),List.take_of_length_le (by omega)]
 rw [e1,e2,if_pos rfl]
theorem b5J:a2A []=none:=by unfold a2A;rw [if_pos (by decide)]
def L6 (R:List (List UInt8)):List UInt8:=(R.map jFr).flatten
theorem X7 (r:List UInt8)(R:List (List UInt8)):L6 (r::R)=jFr r++L6 R:=rfl
theorem a83 (R S:List (List UInt8)):L6 (R++S)=L6 R++L6 S:=by unfold L6;rw [List.map_append,List.flatten_append]
theorem b0U:∀ R:List (List UInt8),R.length≤(L6 R).length
 | []=>Nat.zero_le _
 | r::R=>by have:=b0U R;have:=a9F r;rw [X7,List.length_append,List.length_cons];omega
theorem a7z (t:List UInt8)(ht:a2A t=none):∀ (R:List (List UInt8)) (f:Nat) (data pre:List UInt8),(∀ r∈R,b5H r)→data=pre++(L6 R++t)→R.length < f→a1Q data f pre.length=(R,pre.length+(L6 R).length)
 | [],0,_,_,_,_,h=>by simp at h
 | [],f+1,data,pre,_,hd,_=>by
  rw [a1Q]
  have e:data.drop pre.length=t:=by rw [hd,List.drop_left];rfl
  rw [e,ht];rfl
 | r::R,0,_,_,_,_,h=>by simp at h
 | r::R,f+1,data,pre,hr,hd,hf=>by
  rw [a1Q]
  have e:data.drop pre.length=jFr r++(L6 R++t):=by rw [hd,List.drop_left,X7,List.append_assoc]
  rw [e,b7F (hr r List.mem_cons_self)]
  have hl:=a9F r
  have h1:=a7z t ht R f data (pre++jFr r) (fun x hx=>hr x (List.mem_cons_of_mem _ hx)) (by rw [hd,X7];simp) (by simp at hf;omega)
  rw [List.length_append,hl] at h1
  simp only [h1,X7,List.length_append,hl]
  congr 1;omega
theorem b5K {R:List (List UInt8)}{t:List UInt8}(hR:∀ r∈R,b5H r)(ht:a2A t=none):a1f (L6 R++t)=(R,(L6 R).length):=by
 have h1:=b0U R
 have:=a7z t ht R ((L6 R++t).length+1) (L6 R++t) [] hR rfl (by rw [List.length_append];omega)
 simpa [a1f] using this
theorem b0V:∀ {R:List (List UInt8)},(∀ r∈R,b5H r)→O1 R=(L6 R,0)
 | [],_=>rfl
 | r::R,h=>by
  rw [O1,b2k (h r List.mem_cons_self),b0V fun x hx=>h x (List.mem_cons_of_mem _ hx)]
  rfl
structure V3 (a b:F1):Prop where
 free:b.P7=a.P7
 fresh:a.K9≤b.K9
 a6G:∃ l,b.G4=a.G4++l
 boxes:∃ l,b.B7=a.B7++l
theorem V3.refl (a:F1):V3 a a:=⟨rfl,Int.le_refl _,⟨[],(List.append_nil _).symm⟩,⟨[],(List.append_nil _).symm⟩⟩
theorem V3.trans {a b c:F1}(h:V3 a b)(g:V3 b c):V3 a c:=by
 obtain⟨l,hl⟩:=h.a6G
 obtain⟨m,hm⟩:=g.a6G
 obtain⟨p,hp⟩:=h.boxes
 obtain⟨q,hq⟩:=g.boxes
 exact⟨g.free.trans h.free,Int.le_trans h.fresh g.fresh,⟨l++m,by rw [hm,hl,List.append_assoc]⟩,⟨p++q,by rw [hq,hp,List.append_assoc]⟩⟩
theorem c57 {a:F1}{k:Tag}{x p:List UInt8}:O4 a k x=(p,0)↔(if a.P7 then (∃ y,a.B7.find? (a4x k x)=some y∧y.Plain=p) else (¬(x.length < 40∨296 < x.length)∧(a3h k.l (a5o.l++x.take (x.length - 32))).l=x.drop (x.length - 32)∧a5w k x=p)):=by
  unfold O4
  cases a.P7 with
  | true =>
    rw [if_pos rfl,if_pos rfl]
    cases a.B7.find? (a4x k x) with
    | none => constructor
              · intro h;cases h
              · rintro⟨x,h,_⟩;cases h
    | some y => constructor
                · intro h;exact⟨y,rfl,(Prod.mk.inj h).1⟩
                · rintro⟨y,h,rfl⟩;cases h;rfl
  | false =>
    rw [if_neg (show ¬(false=true) by decide),if_neg (show ¬(false=true) by decide)]
    by_cases h:x.length < 40∨296 < x.length
    · rw [if_pos h];constructor
      · intro h;cases h
      · rintro⟨h2,_⟩;exact absurd h h2
    · rw [if_neg h]
      by_cases h2:(a3h k.l (a5o.l++x.take (x.length - 32))).l=x.drop (x.length - 32)
      · rw [if_pos h2];constructor
        · intro h3;exact⟨h,h2,(Prod.mk.inj h3).1⟩
        · rintro⟨_,_,rfl⟩;rfl
      · rw [if_neg h2];constructor
        · intro h;cases h
        · rintro⟨_,h3,_⟩;exact absurd h3 h2
theorem V3.opens {a b:F1}(h:V3 a b){k:Tag}{x p:List UInt8}(hl:O4 a k x=(p,0)):O4 b k x=(p,0):=by
 rw [c57] at hl ⊢
 rw [h.free]
 cases hf:a.P7 with
 | true =>
  rw [hf,if_pos rfl] at hl
  rw [if_pos rfl]
  obtain⟨y,h1,h2⟩:=hl
  obtain⟨l,e⟩:=h.boxes
  exact⟨y,by rw [e,List.find?_append,h1];rfl,h2⟩
 | false =>
  rw [hf,if_neg (by decide)] at hl
  rw [if_neg (by decide)];exact hl
theorem c3M (c:UInt8)(n:Int):(Y9 c n).l=a8f c n 8++List.replicate 17 0:=by
 unfold Y9
 have:(a8f c n 8).length=15:=a3r c n 8
 show(a8f c n 8).take 32++(default:Tag).l.drop (a8f c n 8).length=_
 rw [List.take_of_length_le (by omega),this];rfl
theorem b7G {c d:UInt8}{m n:Int}(h:Y9 c m=Y9 d n):c=d∧UInt64.ofInt m=UInt64.ofInt n:=by
 have h2:=congrArg (·.l) h
 simp only [c3M] at h2
 have h3:=List.append_inj_left h2 (by rw [a3r,a3r])
 unfold a8f at h3
 simp only [List.append_assoc] at h3
 have h4:=List.append_cancel_left h3
 simp only [List.singleton_append,List.cons.injEq] at h4
 exact⟨h4.1,b4Y h4.2⟩
theorem c0R {m n:Int}(hm0:0≤m)(hm:m < 18446744073709551616)(hn0:0≤n)(hn:n < 18446744073709551616)(h:UInt64.ofInt m=UInt64.ofInt n):m=n:=by
 have h2:=congrArg UInt64.toNat h
 simp [UInt64.ofInt] at h2
 omega
theorem c58 {c:UInt8}{i j:Nat}(hi:i < 1000000)(hj:j < 1000000)(h:Y9 c ((i+1:Nat):Int)=Y9 c ((j+1:Nat):Int)):i=j:=by
 have:=c0R (by omega) (by omega) (by omega) (by omega) (b7G h).2
 omega
structure c6a (a:F1)(n:Nat)(k:Tag)(m:List UInt8)(b:F1)(t:Tag):Prop where
 eq:P3 a k m=(b,t,0)
 ok:G2 b (n+1)
 le:V3 a b
 look:a4s b k m=(t,true)
 boxes:b.B7=a.B7
 fresh:b.K9=a.K9
 a6G:∀ x∈b.G4,x∈a.G4∨(x.Key=k∧x.Message=m)
theorem G2.step {a:F1}{n:Nat}(h:G2 a n)(hn:n < 60000)(k:Tag){m:List UInt8}(hm:m.length≤1000):∃ b t,c6a a n k m b t:=by
 have h1:=h.a6G
 have hok:=h.mac (by omega) (k:=k) hm
 cases hf:a2M a k m with
 | some x =>
  have e:P3 a k m=(a,x.Tag,0):=by unfold P3;rw [if_neg (by omega),hf]
  rw [e] at hok
  obtain⟨i,hi,rfl⟩:=List.getElem_of_mem (List.mem_of_find?_eq_some hf)
  have hx:=(c0J k m _).1 (List.find?_some hf)
  have hl:=h.c3y i hi
  rw [hx.1,hx.2] at hl
  exact⟨a,_,e,hok,V3.refl _,hl,j0,j0,fun x hx=>Or.inl hx⟩
 | none =>
  have e:=a4t (a:=a) (k:=k) (m:=m) (by omega) hf (by omega)
  rw [e] at hok
  have hi:a.G4.length < (a.G4 ++ [(⟨k,m,a3H a k m⟩:D8)]).length:=by simp
  have hl:=hok.c3y a.G4.length hi
  simp only [List.getElem_concat_length] at hl
  refine⟨_,_,e,hok,⟨rfl,Int.le_refl _,⟨_,rfl⟩,⟨[],by simp⟩⟩,hl,rfl,rfl,fun x hx => ?_⟩
  rcases List.mem_append.1 hx with h|h
  ·exact Or.inl h
  ·obtain rfl:=List.mem_singleton.1 h;exact Or.inr ⟨rfl,rfl⟩
structure c6b (a:F1)(n:Nat)(b:F1)(t:Tag):Prop where
 eq:K2 a=(b,t,0)
 ok:G2 b (n+1)
 le:V3 a b
 boxes:b.B7=a.B7
 a6G:b.G4=a.G4
 fresh:b.K9=a.K9+1
 sym:a.P7=true→t=Y9 107 b.K9
theorem G2.c6c {a:F1}{n:Nat}(h:G2 a n)(hn:n < 60000):∃ b t,c6b a n b t:=by
 have h1:=h.b0P
 have hok:=h.key (by omega)
 have e:K2 a=(⟨a.P7,a.a2L,a.K9+1,a.G4,a.B7⟩,(if a.P7 then Y9 107 (a.K9+1) else (derive a.a2L a5n (a.K9+1)).1),0):=by
  unfold K2;rw [if_neg (by omega)]
 rw [e] at hok
 exact⟨_,_,e,hok,⟨rfl,by show a.K9≤a.K9+1;omega,⟨[],by simp⟩,⟨[],by simp⟩⟩,rfl,rfl,rfl,fun hf=>by rw [hf];rfl⟩
theorem G2.b9h {b:F1}{m:Nat}(hb:G2 b m)(hm:m≤60000){i:Nat}(h:i < b.B7.length):O4 b b.B7[i].Key b.B7[i].O8=(b.B7[i].Plain,0)∧b.B7[i].O8.length=b.B7[i].Plain.length+40:=by
 have hl:=hb.boxes
 obtain⟨h1,h2,h3,h4⟩:=hb.box i h
 cases hf:b.P7 with
 | true =>
  rw [hf,if_pos rfl] at h4
  refine⟨?_,by rw [h4,List.length_append,M4.len,List.length_replicate];omega⟩
  cases hq:b.B7.find? (a4x b.B7[i].Key b.B7[i].O8) with
  | none =>
   have:=List.find?_eq_none.1 hq b.B7[i] (List.getElem_mem h)
   simp [a4x] at this
  | some y =>
   rw [a6g hf hq]
   have hy:=List.find?_some hq
   obtain⟨j,hj,rfl⟩:=List.getElem_of_mem (List.mem_of_find?_eq_some hq)
   obtain⟨_,_,_,g4⟩:=hb.box j hj
   rw [hf,if_pos rfl] at g4
   simp only [a4x,Bool.and_eq_true,decide_eq_true_eq] at hy
   have e:=hy.2
   rw [g4,h4] at e
   obtain rfl:=c58 (by omega) (by omega) (M4.ext (List.append_inj_left e (by rw [M4.len,M4.len])))
   rfl
 | false =>
  rw [hf,if_neg (by decide)] at h4
  have hlen:b.B7[i].O8.length=b.B7[i].Plain.length+40:=by rw [h4,a0y]
  refine⟨?_,hlen⟩
  rw [b0E hf (by omega)]
  ·rw [h4,c0M]
  ·rw [h4,b2g,c0L]
structure c3N (a:F1)(n:Nat)(k:Tag)(c:Int)(p:List UInt8)(b:F1)(x:List UInt8):Prop where
 eq:Z9 a k c p=(b,x,0)
 ok:G2 b (n+1)
 le:V3 a b
 opens:O4 b k x=(p,0)
 len:x.length=p.length+40
 a6G:b.G4=a.G4
 fresh:b.K9=a.K9
 at_:∃ i,∃ h:i < b.B7.length,b.B7[i]=⟨k,c,p,x⟩
 boxes:∀ y∈b.B7,y∈a.B7∨y=⟨k,c,p,x⟩
theorem G2.c3O {a:F1}{n:Nat}(ha:G2 a n)(hn:n < 50000)(k:Tag){c:Int}{p:List UInt8}(hc0:0≤c)(hc1:c≤281474976710656)(hp:p.length≤256):∃ b x,c3N a n k c p b x:=by
 have hok:=ha.boxed (by omega) (k:=k) hc0 hc1 hp
 have hr:(decide (c < 0)||decide (281474976710656 < c))=false:=by simp;omega
 have hl:=ha.boxes
 cases hf:a.B7.find? (Z0 k c p) with
 | some y =>
  have e:=a3I hr (by omega) hf
  rw [e] at hok
  obtain⟨i,hi,rfl⟩:=List.getElem_of_mem (List.mem_of_find?_eq_some hf)
  have hy:=List.find?_some hf
  simp only [Z0,Bool.and_eq_true,decide_eq_true_eq] at hy
  obtain⟨h1,h2⟩:=ha.b9h (by omega) hi
  obtain⟨⟨e1,e2⟩,e3⟩:=hy
  rw [e1,e3] at h1
  rw [e3] at h2
  refine⟨a,_,e,hok,V3.refl _,h1,h2,j0,j0,⟨i,hi,?_⟩,fun y hy=>Or.inl hy⟩
  rw [←e1,←e2,←e3]
 | none =>
  have e:=a5p hr (by omega) hf (by omega)
  rw [e] at hok
  have hi:a.B7.length < (a.B7 ++ [(⟨k,c,p,a8g a k c p⟩:y6)]).length:=by simp
  obtain⟨h1,h2⟩:=hok.b9h (by omega) hi
  simp only [List.getElem_concat_length] at h1 h2
  refine⟨_,_,e,hok,⟨rfl,Int.le_refl _,⟨[],by simp⟩,⟨_,rfl⟩⟩,h1,h2,rfl,rfl,⟨a.B7.length,hi,by simp⟩,fun y hy => ?_⟩
  rcases List.mem_append.1 hy with h|h
  ·exact Or.inl h
  ·exact Or.inr (List.mem_singleton.1 h)
structure c8u (a:F1)(n:Nat)(k:Tag)(x:Item)(b:F1)(y:Item):Prop where
 eq:L5 a k x=(b,y,0)
 ok:G2 b (n+1)
 le:V3 a b
 boxes:b.B7=a.B7
 item:∃ t,y = { x with Tag:=t }
theorem G2.c3P {a:F1}{n:Nat}(h:G2 a n)(hn:n < 60000)(k:Tag){x:Item}(hx:L8 x=0)(hb:x.O8.length≤200):∃ b y,c8u a n k x b y:=by
 have hm:(V6 x).length≤1000:=by
  have h1:=c3p hx
  have h2:=H4 (n:=x.Place.toNat) (by have:=h1.place;omega)
  have h3:=H4 (n:=x.Kind.toNat) (by have:=h1.kind;omega)
  have h4:=H4 (n:=x.Number.toNat) (by have:=h1.num;omega)
  have h5:=H4 (n:=x.O8.length) (by omega)
  simp [V6,b3q,M4.len];omega
 obtain⟨b,t,hs⟩:=h.step hn k hm
 exact⟨b,{ x with Tag:=t },by unfold L5;rw [hx,if_neg (by decide),hs.eq];rfl,hs.ok,hs.le,hs.boxes,t,rfl⟩
structure c8v (a:F1)(n:Nat)(k:Tag)(place:Int)(e:M6)(b:F1)(y:Item):Prop where
 eq:K3 a k place e=(b,y,0)
 ok:G2 b (n+2)
 le:V3 a b
 ep:M0 b k y=(e,0)
 item:∃ x t,x.length=72∧y = { a1j place e x with Tag:=t }
theorem G2.c8w {a:F1}{n:Nat}(h:G2 a n)(hn:n < 40000)(k:Tag){place:Int}{e:M6}(h1:1≤place)(h2:place≤4096)(h3:1≤e.Number)(h4:e.Number≤1000):∃ b y,c8v a n k place e b y:=by
 have hk:e.Key.l.length=32:=e.Key.len
 obtain⟨b1,x,hS⟩:=h.c3O (by omega) k (c:=place) (p:=e.Key.l) (by omega) (by omega) (by omega)
 have hx:x.length=72:=by rw [hS.len,hk]
 have hie:L8 (a1j place e x)=0:=by
  unfold L8 a1j
  simp only
  rw [if_neg (by omega),if_neg (by simp),if_neg (by omega),if_neg (by omega)]
 obtain⟨b,y,hG⟩:=hS.ok.c3P (by omega) k hie (by show x.length≤200;omega)
 obtain⟨t,rfl⟩:=hG.item
 have hbad:a4P place e=false:=by unfold a4P;simp;omega
 have e1:K3 a k place e=(b,{ a1j place e x with Tag:=t },0):=by
  unfold K3
  rw [hbad,if_neg (by decide),hS.eq]
  simp only [ne_eq,not_true,if_false]
  exact hG.eq
 have hop:O4 b k x=(e.Key.l,0):=hG.le.opens hS.opens
 refine⟨b,_,e1,hG.ok,hS.le.trans hG.le,?_,x,t,hx,j0⟩
 unfold M0
 rw [if_neg (by simp [a1j])]
 show(if (O4 b k x).2≠0 then _ else _)=_
 rw [show(O4 b k (({ a1j place e x with Tag:=t }:Item).O8))=O4 b k x from rfl,hop,if_neg (by simp),if_neg (by simp [hk]),b5w hk]
 rfl
theorem b3B {a b:F1}(h:V3 a b){k:Tag}{i:Item}{e:M6}(he:M0 a k i=(e,0)):M0 b k i=(e,0):=by
 unfold M0 at he ⊢
 split at he
 ·cases he
 ·next h1 =>
  split at he
  ·next h2=>simp only [Prod.mk.injEq] at he;exact absurd he.2 h2
  ·next h2 =>
   have h3:O4 a k i.O8=((O4 a k i.O8).1,0):=Prod.ext rfl (Classical.not_not.1 h2)
   have h4:=h.opens h3
   rw [if_neg h1,h4,if_neg (by simp)]
   exact he
theorem c8x {i:Item}:M9 (W6 i)=D5 4++(D5 i.Place.toNat++(D5 i.Kind.toNat++(D5 i.Number.toNat++(i.Node.l++((D5 i.O8.length++i.O8)++(i.Tag.l ++ [])))))):=rfl
theorem a84 {i:Item}(h1:1≤i.Place∧i.Place≤4096)(h2:1≤i.Kind∧i.Kind≤3)(h3:0≤i.Number∧i.Number≤1000)(h4:i.O8.length≤1024):K6 (W6 i)=0:=by
 have ex:a1G (W6 i)=false:=by
  unfold a1G
  have:({ a4A (W6 i) with Kind:=0 }:Rec)=default:=rfl
  rw [this];simp
 have hp:C9 (W6 i).Kind=Q6:=rfl
 have c0:∀ p∈Q6,p.chk (W6 i)=0:=by
  intro p hp
  unfold Q6 at hp
  rcases List.mem_cons.1 hp with rfl|hp
  ·exact if_neg (by show ¬(i.Place < 1∨4096 < i.Place);omega)
  rcases List.mem_cons.1 hp with rfl|hp
  ·exact if_neg (by show ¬(i.Kind < 1∨3 < i.Kind);omega)
  rcases List.mem_cons.1 hp with rfl|hp
  ·exact if_neg (by show ¬(i.Number < 0∨1000 < i.Number);omega)
  rcases List.mem_cons.1 hp with rfl|hp
  ·rfl
  rcases List.mem_cons.1 hp with rfl|hp
  ·exact if_neg (by show ¬1024 < i.O8.length;omega)
  rcases List.mem_cons.1 hp with rfl|hp
  ·rfl
  ·cases hp
 have hh:∀ e:Int,e≠0→a4V (W6 i) (W6 i).Kind e=false:=fun e he=>by
  unfold a4V;rw [hp,List.any_eq_false]
  intro p hpm
  rw [c0 p hpm];simpa using fun q=>he q.symm
 have hl:¬4096 < (M9 (W6 i)).length:=by
  have n1:=H4 (n:=i.Place.toNat) (by omega)
  have n2:=H4 (n:=i.Kind.toNat) (by omega)
  have n3:=H4 (n:=i.Number.toNat) (by omega)
  have n4:=H4 (n:=i.O8.length) (by omega)
  have n5:=H4 (n:=4) (by omega)
  have t1:i.Node.l.length=32:=i.Node.len
  have t2:i.Tag.l.length=32:=i.Tag.len
  rw [c8x]
  simp only [List.length_append,List.length_nil,t1,t2]
  omega
 unfold K6
 rw [ex,if_neg (by decide),hh 1 (by decide),if_neg (by decide),hh 2 (by decide),if_neg (by decide),hh 5 (by decide),if_neg (by decide),if_neg hl]
theorem c8y {m:u9}:M9 (W7 m)=D5 2++(D5 m.O0.toNat++(D5 m.M6.toNat++((D5 m.y5.length++(m.y5.map D9).flatten) ++ []))):=rfl
theorem c6d {l:List Cav}{k:Nat}(h:∀ c∈l,(D9 c).length≤k):((l.map D9).flatten).length≤k*l.length:=by
 induction l with
 | nil=>simp
 | cons c l ih =>
  have h1:=ih fun x hx=>h x (List.mem_cons_of_mem _ hx)
  have h2:=h c List.mem_cons_self
  rw [List.map_cons,List.flatten_cons,List.length_append,List.length_cons,Nat.mul_add];omega
theorem a86 {m:u9}(h1:1≤m.O0∧m.O0≤1073741824)(h2:1≤m.M6∧m.M6≤1000)(h3:m.y5.length≤64)(h4:∀ c∈m.y5,S5 c=true∧(D9 c).length≤50):K6 (W7 m)=0:=by
 have ex:a1G (W7 m)=false:=by
  unfold a1G
  have:({ a4A (W7 m) with Kind:=0 }:Rec)=default:=rfl
  rw [this];simp
 have hp:C9 (W7 m).Kind=Q5:=rfl
 have c0:∀ p∈Q5,p.chk (W7 m)=0:=by
  intro p hp
  unfold Q5 at hp
  rcases List.mem_cons.1 hp with rfl|hp
  ·exact if_neg (by show ¬(m.O0 < 1∨1073741824 < m.O0);omega)
  rcases List.mem_cons.1 hp with rfl|hp
  ·exact if_neg (by show ¬(m.M6 < 1∨1000 < m.M6);omega)
  rcases List.mem_cons.1 hp with rfl|hp
  ·show(if 64 < m.y5.length then (2:Int) else if m.y5.all S5 then 0 else 5)=0
   rw [if_neg (by omega),if_pos (List.all_eq_true.2 fun c hc=>(h4 c hc).1)]
  ·cases hp
 have hh:∀ e:Int,e≠0→a4V (W7 m) (W7 m).Kind e=false:=fun e he=>by
  unfold a4V;rw [hp,List.any_eq_false]
  intro p hpm
  rw [c0 p hpm];simpa using fun q=>he q.symm
 have hl:¬4096 < (M9 (W7 m)).length:=by
  have n1:=H4 (n:=m.O0.toNat) (by omega)
  have n2:=H4 (n:=m.M6.toNat) (by omega)
  have n4:=H4 (n:=m.y5.length) (by omega)
  have n5:=H4 (n:=2) (by omega)
  have n6:=c6d (l:=m.y5) (k:=50) fun c hc=>(h4 c hc).2
  rw [c8y]
  simp only [List.length_append,List.length_nil]
  omega
 unfold K6
 rw [ex,if_neg (by decide),hh 1 (by decide),if_neg (by decide),hh 2 (by decide),if_neg (by decide),hh 5 (by decide),if_neg (by decide),if_neg hl]
theorem b0W {r:Rec}(hk:r.Kind=2∨r.Kind=4)(h:K6 r=0):(r.Kind=2∧r=W7 r.M3∧V0 r.M3.y5)∨(r.Kind=4∧r=W6 r.Item∧r.Item.O8.length≤1024):=by
 have hx:a1G r=false:=by
  unfold K6 at h
  split at h
  ·cases h
  ·next h1=>simpa using h1
 have hf:=a9C h
 rcases hk with hk|hk
 ·refine .inl ⟨hk,b9e hk hx,?_⟩
  have hp:C9 r.Kind=Q5:=by unfold C9;rw [if_pos hk]
  have f3:r.M3.y5.length≤64∧∀ c∈r.M3.y5,S5 c=true:=hf (.cav (u4.l4.comp u9.l2)) (by rw [hp];exact List.mem_cons_of_mem _ (List.mem_cons_of_mem _ List.mem_cons_self))
  refine⟨by omega,fun c hc => ?_⟩
  have h1:=f3.2 c hc
  cases h3:c.a0l with
  | true=>obtain⟨_,_,_,_,h4,_,h5⟩:=a3v h1 h3;omega
  | false=>obtain⟨_,_,h4,h5⟩:=a3w h1 h3;rw [h4,h5];simp
 ·refine .inr ⟨hk,b9f hk hx,?_⟩
  have hp:C9 r.Kind=Q6:=by unfold C9;rw [if_neg (by omega)]
  exact hf (.box (u4.l5.comp o7.l4)) (by rw [hp];exact List.mem_cons_of_mem _ (List.mem_cons_of_mem _ (List.mem_cons_of_mem _ (List.mem_cons_of_mem _ List.mem_cons_self))))
theorem a7A {r:Rec}(hk:r.Kind=2∨r.Kind=4)(h:K6 r=0):b5H (M9 r)∧(O6 ⟨M9 r,0⟩).1=r.Kind:=by
 have h1:(O6 ⟨M9 r,0⟩).1=r.Kind:=by
  unfold M9;rw [a0B _ (by omega) (by omega)]
 refine⟨⟨?_,?_⟩,h1⟩
 ·unfold M9;rw [List.length_append];have:=b0C r.Kind.toNat;omega
 ·unfold K6 at h
  repeat' (split at h;· cases h)
  rename_i h5
  omega
theorem b5L {d:l9}{r:Rec}(hk:r.Kind=2∨r.Kind=4)(h:K6 r=0):a02 d r=L9 d d.B3 (F4 d).length (jFr (M9 r)):=by
 have h1:=a7A hk h
 have e1:U5 r=(M9 r,0):=by unfold U5;rw [if_neg (by rw [h];decide)]
 unfold a02
 rw [e1,if_neg e00]
 show a2N d (M9 r)=_
 unfold a2N
 rw [b2k h1.1,if_neg e00]
 rfl
theorem b0X:∀ {l:List Rec},(∀ r∈l,K6 r=0)→S8 l=(l.map M9,0)
 | [],_=>rfl
 | r::l,h=>by
  have e1:U5 r=(M9 r,0):=by unfold U5;rw [if_neg (by rw [h r List.mem_cons_self];decide)]
  rw [S8,e1,b0X fun x hx=>h x (List.mem_cons_of_mem _ hx)]
  rfl
theorem a88 {d:l9}{l:List Rec}(h:∀ r∈l,(r.Kind=2∨r.Kind=4)∧K6 r=0):T8 d l=L9 d (1 - d.B3) 0 (L6 (l.map M9)):=by
 unfold T8
 rw [b0X fun r hr=>(h r hr).2,if_neg e00]
 show a1E d (l.map M9)=_
 unfold a1E
 rw [b0V fun b hb=>by obtain⟨r,hr,rfl⟩:=List.mem_map.1 hb;exact(a7A (h r hr).1 (h r hr).2).1,if_neg e00]
theorem b0Y:∀ {l:List Rec},(∀ r∈l,(r.Kind=2∨r.Kind=4)∧K6 r=0)→S1 (l.map M9)=(l,0)
 | [],_=>rfl
 | r::l,h=>by
  rw [List.map_cons,S1,b5E (h r List.mem_cons_self).1 (h r List.mem_cons_self).2,b0Y fun x hx=>h x (List.mem_cons_of_mem _ hx)]
  rfl
theorem b9i {d:l9}{l:List Rec}{t:List UInt8}(h:∀ r∈l,(r.Kind=2∨r.Kind=4)∧K6 r=0)(ht:a2A t=none)(hd:F4 d=L6 (l.map M9)++t):a1f (F4 d)=(l.map M9,(L6 (l.map M9)).length)∧a0e d=(l,0):=by
 have h1:a1f (F4 d)=(l.map M9,(L6 (l.map M9)).length):=by
  rw [hd];exact b5K (fun b hb=>by obtain⟨r,hr,rfl⟩:=List.mem_map.1 hb;exact(a7A (h r hr).1 (h r hr).2).1) ht
 exact⟨h1,by unfold a0e;rw [h1];exact b0Y h⟩
theorem b5M (m M:UInt64)(k:Nat)(hk:k < 64)(hM:M.toNat=2^k - 1):(m &&& M) >>> UInt64.ofNat k=0:=by
 apply UInt64.toNat_inj.1
 rw [UInt64.toNat_shiftRight,UInt64.toNat_and,hM,Nat.and_two_pow_sub_one_eq_mod,Nat.shiftRight_eq_div_pow]
 have e:(UInt64.ofNat k).toNat=k:=by simp;omega
 rw [e,Nat.mod_eq_of_lt (show k < 64 by omega)]
 show m.toNat % 2^k/2^k=0
 exact Nat.div_eq_of_lt (Nat.mod_lt _ (Nat.two_pow_pos k))
theorem c6e (n:Nat)(hn:n < 64):((1:UInt64) <<< UInt64.ofNat n).toNat=2^n:=by
 rw [UInt64.toNat_shiftLeft]
 have e:(UInt64.ofNat n).toNat=n:=by simp;omega
 rw [e,Nat.mod_eq_of_lt (show n < 64 by omega)]
 show(1 <<< n) % 2^64=2^n
 rw [Nat.one_shiftLeft]
 exact Nat.mod_eq_of_lt (Nat.pow_lt_pow_right (by decide) hn)
theorem ofInt_ofNat {v:Int}(h0:0≤v):UInt64.ofInt v=UInt64.ofNat v.toNat:=by
 obtain⟨n,rfl⟩:=Int.eq_ofNat_of_zero_le h0
 apply UInt64.toNat_inj.1
 simp [UInt64.ofInt];omega
theorem c8z {x:UInt64}{b:Int}(hb:b=64∨b=32∨b=7)(h3:b < 64)(h:¬(x &&& ((1 <<< UInt64.ofInt b) - 1))=0):a3K (x &&& ((1 <<< UInt64.ofInt b) - 1)) b=true:=by
 have h2:(x &&& ((1 <<< UInt64.ofInt b) - 1)) >>> UInt64.ofNat b.toNat=0:=by
  rcases hb with rfl|rfl|rfl
  ·omega
  ·exact b5M x _ 32 (by decide) (by decide)
  ·exact b5M x _ 7 (by decide) (by decide)
 unfold a3K;rw [h2];simp [h]
theorem c8A {x:UInt64}{b:Int}(hb:b=64∨b=32∨b=7)(h3:¬b < 64)(h:¬x=0):a3K x b=true:=by
 obtain rfl:b=64:=by omega
 unfold a3K;simp [h]
theorem c8B {v b:Int}(hb:b=64∨b=32∨b=7)(h0:0≤v)(h1:v < b):a3K (1 <<< UInt64.ofInt v) b=true:=by
 have hv:v.toNat < 64:=by omega
 have h2:=c6e v.toNat hv
 rw [ofInt_ofNat h0]
 have hne:¬((1:UInt64) <<< UInt64.ofNat v.toNat)=0:=fun e=>by
  rw [e] at h2
  have:=Nat.two_pow_pos v.toNat
  simp at h2;omega
 unfold a3K
 by_cases h64:b=64
 ·simp [hne,h64]
 ·have h3:((1:UInt64) <<< UInt64.ofNat v.toNat) >>> UInt64.ofNat b.toNat=0:=by
   apply UInt64.toNat_inj.1
   rw [UInt64.toNat_shiftRight,h2,Nat.shiftRight_eq_div_pow]
   have e:(UInt64.ofNat b.toNat).toNat=b.toNat:=by simp;omega
   rw [e,Nat.mod_eq_of_lt (show b.toNat < 64 by omega)]
   exact Nat.div_eq_of_lt (Nat.pow_lt_pow_right (by decide) (by omega))
  rw [h3];simp [hne]
theorem b3C {k:Int}{m:UInt64}(hk:k=1∨k=2∨k=3)(h:a3K m (c2Y k)=true):I9 ⟨k,m,0,0,⟨[]⟩,0⟩=true:=by
 unfold I9;rw [if_pos hk];dsimp only;rw [h];simp
theorem c6f {a b:Int}(h0:0≤a)(h1:a≤b)(h2:b≤67108864):I9 ⟨4,0,a,b,⟨[]⟩,0⟩=true:=by
 unfold I9;simp [h0,h1,h2]
theorem b5N {a b:Int}(h0:0≤a)(h1:a < 1440)(h2:0≤b)(h3:b < 1440):I9 ⟨5,0,a,b,⟨[]⟩,0⟩=true:=by
 unfold I9;simp [h0,h1,h2,h3]
theorem c6g {s:Str}(h:a0n s=true):I9 ⟨6,0,0,0,s,0⟩=true:=by unfold I9;simp [h]
theorem c3Q {n:Int}(h0:0≤n)(h1:n≤1000000):I9 ⟨7,0,0,0,⟨[]⟩,n⟩=true:=by unfold I9;simp [h0,h1]
abbrev X9:=y8
theorem b5O (w:Value)(d:X9)(n:Int)(hd:I8 d)(h0:0 < n)(h1:n≤4611686018427387904):C6 gl prog 38 [dk w,.v n] [.ob w d] (fun r Hs=>r = .v (u6 d n).1∧Hs = [.ob w (u6 d n).2]):=c7V w d n hd h0 h1
instance (w:Value)(d:X9)(n:Int):CaM gl prog 38 [dk w,.v n] (.ob w d) [I8 d,0 < n,n≤4611686018427387904] (.v (u6 d n).1) (.ob w (u6 d n).2):=⟨fun hh=>b5O w d n hh.1 hh.2.1 hh.2.2.1⟩
def a6I (d:X9):Nat→Tag×X9
 | 0=>(default,d)
 | k+1=>(Q8 (a6I d k).1 (9*k) (UInt8.ofInt (u6 (a6I d k).2 256).1),(u6 (a6I d k).2 256).2)
theorem a8o {d:X9}(h:I8 d):∀ k,I8 (a6I d k).2
 | 0=>h
 | k+1=>B9 (a8o h k)
def a3z (d:X9):Tag×X9:=a6I d 4
theorem a7B {d:X9}(h:I8 d):I8 (a3z d).2:=a8o h 4
theorem c6h (w:Value)(d:X9)(hd:I8 d):C6 gl prog 39 [dk w] [.ob w d] (fun r Hs=>r = .v (a3z d).1∧Hs = [.ob w (a3z d).2]):=by
 refine .go func39 rfl 16 [.cell 2 28] rfl (by kernel_rfl) fun C hG=>(.z hG (by kernel_rfl) fun b1 b2=>(.lp hG (fun k:Nat => [(4,.v (k:Int))]) (fun k => [(ptr b2 0,.ob (ptr b2 0) (a6I d k).1),(w,.ob w (a6I d k).2)]) (fun k=>k≤4) (fun k=>4 - k) 0 (by kernel_rfl) ⟨rfl,rfl,rfl,by decide,fun k hk => ?_⟩))
 have hok:=a8o hd k
 have e9:((k:Int)*9).toNat=9*k:=by omega
 rw [e9]
 refine⟨fun h=>⟨by omega,by omega,hok,by omega,by omega,by omega,by omega,by omega,by omega,k+1,rfl,rfl,rfl,by omega,by omega⟩,fun h => ?_⟩
 obtain rfl:k=4:=by omega
 exact P6.of [w] ⟨rfl,rfl⟩
def Y6 (d:X9)(lo hi:Int):Int×X9:=(lo+(u6 d (hi - lo+1)).1,(u6 d (hi - lo+1)).2)
theorem c0S (w:Value)(d:X9)(lo up:Int)(hd:I8 d)(h:lo≤up)(h0 : -1000000000000000000≤lo)(h1:up≤1000000000000000000):C6 gl prog 123 [dk w,.v lo,.v up] [.ob w d] (fun r Hs=>r = .v (Y6 d lo up).1∧Hs = [.ob w (Y6 d lo up).2]):=by
 have:=F8 (d:=d) (n:=up - lo+1) (by omega)
 refine .go func123 j0 15 [.tmp 6] j0 (by kernel_rfl) fun C hG=>(.z hG (by kernel_rfl) ?_)
 refine⟨by omega,by omega,by omega,by omega,hd,by omega,by omega,by omega,by omega,P6.of [w] ⟨rfl,rfl⟩⟩
def a7C (m:Int)(s:Int×X9):Int×X9 :=
 if s.1=0 then (min (u6 s.2 4).1 m,(u6 s.2 4).2) else if s.1=1 then (min (u6 s.2 300).1 m,(u6 s.2 300).2) else
 if s.1=2 then (m - (u6 s.2 (min 3 (m+1))).1,(u6 s.2 (min 3 (m+1))).2) else u6 s.2 (m+1)
def a1k (d:X9)(m:Int):Int×X9:=a7C m (u6 d 4)
theorem c3R (w:Value)(d:X9)(m:Int)(hd:I8 d)(h0:0≤m)(h1:m≤281474976710657):C6 gl prog 127 [dk w,.v m] [.ob w d] (fun r Hs=>r = .v (a1k d m).1∧Hs = [.ob w (a1k d m).2]):=by
 have hok:=B9 (n:=4) hd
 have n2:=F8 (d:=(u6 d 4).2) (n:=300) (by decide)
 have n3:=F8 (d:=(u6 d 4).2) (n:=min 3 (m+1)) (by omega)
 have n4:=F8 (d:=(u6 d 4).2) (n:=m+1) (by omega)
 refine .go func127 j0 32 [.tmp 4] j0 (by kernel_rfl) fun C hG=>(.z hG (by kernel_rfl) ?_)
 repeat' (first|intro _|apply And.intro)
 all_goals first|assumption|omega|exact B9 (by assumption)|exact B9 (B9 (by assumption))|(refine P6.of [w] ?_;simp only [a1k,a7C, *,↓reduceIte];exact⟨rfl,rfl⟩)|(refine P6.of [w] ?_;simp [a1k,a7C, *])
def a39 (s:Int×X9):Int×X9 :=
 if s.1=0 then u6 s.2 4320 else if s.1=1 then (min ((u6 s.2 60).1*1440+(u6 (u6 s.2 60).2 3).1) 67108864,(u6 (u6 s.2 60).2 3).2) else
 if s.1=2 then (67108864 - (u6 s.2 4320).1,(u6 s.2 4320).2) else u6 s.2 67108865
def I5 (d:X9):Int×X9:=a39 (u6 d 4)
theorem b7H (w:Value)(d:X9)(hd:I8 d):C6 gl prog 125 [dk w] [.ob w d] (fun r Hs=>r = .v (I5 d).1∧Hs = [.ob w (I5 d).2]):=by
 have hok:=B9 (n:=4) hd
 have n1:=F8 (d:=(u6 d 4).2) (n:=4320) (by decide)
 have n2:=F8 (d:=(u6 d 4).2) (n:=60) (by decide)
 have n3:=F8 (d:=(u6 (u6 d 4).2 60).2) (n:=3) (by decide)
 refine .go func125 j0 25 [.tmp 2] j0 (by kernel_rfl) fun C hG=>(.z hG (by kernel_rfl) ?_)
 repeat' (first|intro _|apply And.intro)
 all_goals first|assumption|omega|exact B9 (by assumption)|exact B9 (B9 (by assumption))|(refine P6.of [w] ?_;simp only [I5,a39, *,↓reduceIte];exact⟨rfl,rfl⟩)|(refine P6.of [w] ?_;simp [I5,a39, *])
def c64:List Str := [⟨[97]⟩,⟨[98]⟩,⟨[97,110,110]⟩,⟨[98,111,98]⟩,⟨[99,105,100]⟩,⟨[122,111,101]⟩,⟨[97,97]⟩,⟨[97,98,99,100,101,102,103,104,105,106,107,108,109,110,111,112]⟩]
def a3R (d:X9):Str×X9:=(c64.getD (u6 d 8).1.toNat default,(u6 d 8).2)
theorem c3S (w:Value)(d:X9)(hd:I8 d):C6 gl prog 126 [dk w] [.ob w d] (fun r Hs=>r = .v (a3R d).1∧Hs = [.ob w (a3R d).2]):=by
 have:=F8 (d:=d) (n:=8) (by decide)
 refine .go func126 j0 8 [.tmp 2] j0 (by kernel_rfl) fun C hG=>(.z hG (by kernel_rfl) ?_)
 exact fun b=>⟨hd,by omega,by omega,by omega,by show _ < ((8:Nat):Int);omega,by show _ < 8;omega,P6.of [w] ⟨rfl,rfl⟩⟩
def a08 (s:Int×X9):UInt64×X9 :=
 if s.1=0 then (UInt64.ofInt (u6 s.2 16).1,(u6 s.2 16).2) else
 if s.1=1 then (UInt64.ofInt (u6 s.2 65536).1 ||| UInt64.ofInt (u6 (u6 s.2 65536).2 65536).1 <<< 48,(u6 (u6 s.2 65536).2 65536).2) else
 if s.1=2 then (~~~ UInt64.ofInt (u6 s.2 65536).1,(u6 s.2 65536).2) else (0,s.2)
def a4D (m:UInt64)(b:Int):UInt64:=if b < 64 then m &&& ((1 <<< UInt64.ofInt b) - 1) else m
def a09 (b:Int)(q:UInt64×X9):UInt64×X9:=if a4D q.1 b=0 then (1 <<< UInt64.ofInt (u6 q.2 b).1,(u6 q.2 b).2) else (a4D q.1 b,q.2)
def Y2 (d:X9)(b:Int):UInt64×X9:=a09 b (a08 (u6 d 3))
theorem c0T {s:Int×X9}(h:s.1=0):a08 s=(UInt64.ofInt (u6 s.2 16).1,(u6 s.2 16).2):=if_pos h
theorem c0U {s:Int×X9}(h:¬s.1=0)(h1:s.1=1):a08 s=(UInt64.ofInt (u6 s.2 65536).1 ||| UInt64.ofInt (u6 (u6 s.2 65536).2 65536).1 <<< 48,(u6 (u6 s.2 65536).2 65536).2):=by unfold a08;rw [if_neg h,if_pos h1]
theorem c0V {s:Int×X9}(h:¬s.1=0)(h1:¬s.1=1)(h2:s.1=2):a08 s=(~~~ UInt64.ofInt (u6 s.2 65536).1,(u6 s.2 65536).2):=by unfold a08;rw [if_neg h,if_neg h1,if_pos h2]
theorem c0W {s:Int×X9}(h:¬s.1=0)(h1:¬s.1=1)(h2:¬s.1=2):a08 s=(0,s.2):=by unfold a08;rw [if_neg h,if_neg h1,if_neg h2]
theorem c0X {b:Int}{m:UInt64}{d:X9}(h:b < 64)(h0:m &&& ((1 <<< UInt64.ofInt b) - 1)=0):a09 b (m,d)=(1 <<< UInt64.ofInt (u6 d b).1,(u6 d b).2):=by unfold a09 a4D;simp only [if_pos h,if_pos h0]
theorem c0Y {b:Int}{m:UInt64}{d:X9}(h:b < 64)(h0:¬m &&& ((1 <<< UInt64.ofInt b) - 1)=0):a09 b (m,d)=(m &&& ((1 <<< UInt64.ofInt b) - 1),d):=by unfold a09 a4D;simp only [if_pos h,if_neg h0]
theorem c0Z {b:Int}{m:UInt64}{d:X9}(h:¬b < 64)(h0:m=0):a09 b (m,d)=(1 <<< UInt64.ofInt (u6 d b).1,(u6 d b).2):=by unfold a09 a4D;simp only [if_neg h,if_pos h0]
theorem c00 {b:Int}{m:UInt64}{d:X9}(h:¬b < 64)(h0:¬m=0):a09 b (m,d)=(m,d):=by unfold a09 a4D;simp only [if_neg h,if_neg h0]
theorem c3T (w:Value)(d:X9)(b:Int)(hd:I8 d)(hb:b=64∨b=32∨b=7):C6 gl prog 124 [dk w,.v b] [.ob w d] (fun r Hs=>r = .v (Y2 d b).1∧Hs = [.ob w (Y2 d b).2]):=by
 have hok:=B9 (n:=3) hd
 have hb64:b < 64→(UInt64.ofInt b).toNat < 64:=fun h=>by rcases hb with rfl|rfl|rfl;omega;decide;decide
 have hnx:∀ d,(UInt64.ofInt (u6 d b).1).toNat < 64:=fun d=>by
  have:=F8 (d:=d) (n:=b) (by omega)
  rw [ofInt_ofNat this.1];simp;omega
 refine .go func124 j0 45 [.tmp 4] j0 (by kernel_rfl) fun C hG=>(.z hG (by kernel_rfl) ?_)
 repeat' (first|refine wpA.z hG (by kernel_rfl) ?_|refine And.intro ?_ ?_|intro _)
 all_goals first|with_reducible assumption|omega|with_reducible exact hnx _|with_reducible exact hb64 (by assumption)|with_reducible exact B9 hok|with_reducible exact B9 (B9 hok)|skip
 all_goals first|(refine P6.of [w] ?_;rw [show Y2 d b=a09 b (a08 (u6 d 3)) from rfl])|decide
 all_goals first|rw [c0T (by assumption)]|rw [c0U (by assumption) (by assumption)]|rw [c0V (by assumption) (by assumption) (by assumption)]|rw [c0W (by assumption) (by assumption) (by assumption)]
 all_goals first|rw [c0X (by assumption) (by assumption)]|rw [c0Y (by assumption) (by assumption)]|rw [c0Z (by assumption) (by assumption)]|rw [c00 (by assumption) (by assumption)]
 all_goals exact⟨rfl,rfl⟩
def a7D (s:Int×X9):Pred×X9 :=
  if (u6 (u6 (u6 s.2 1440).2 1440).2 3).1 = 0 then
      (⟨s.1,0,(u6 s.2 1440).1,((u6 s.2 1440).1+(u6 (u6 (u6 (u6 s.2 1440).2 1440).2 3).2 3).1+1440 - 1) % 1440,⟨[]⟩,0⟩,(u6 (u6 (u6 (u6 s.2 1440).2 1440).2 3).2 3).2)
    else (⟨s.1,0,(u6 s.2 1440).1,(u6 (u6 s.2 1440).2 1440).1,⟨[]⟩,0⟩,(u6 (u6 (u6 s.2 1440).2 1440).2 3).2)
def W2 (rides:Bool)(s:Int×X9):Pred×X9 :=
 if s.1=7∧¬rides=true∨s.1=4 then (⟨4,0,min (I5 s.2).1 (I5 (I5 s.2).2).1,max (I5 s.2).1 (I5 (I5 s.2).2).1,⟨[]⟩,0⟩,(I5 (I5 s.2).2).2) else
 if s.1=1 then (⟨s.1,(Y2 s.2 64).1,0,0,⟨[]⟩,0⟩,(Y2 s.2 64).2) else
 if s.1=2 then (⟨s.1,(Y2 s.2 32).1,0,0,⟨[]⟩,0⟩,(Y2 s.2 32).2) else
 if s.1=3 then (⟨s.1,(Y2 s.2 7).1,0,0,⟨[]⟩,0⟩,(Y2 s.2 7).2) else
 if s.1=5 then a7D s else
 if s.1=6 then (⟨s.1,0,0,0,(a3R s.2).1,0⟩,(a3R s.2).2) else (⟨s.1,0,0,0,⟨[]⟩,(a1k s.2 1000000).1⟩,(a1k s.2 1000000).2)
section
variable {rides:Bool}{s:Int×X9}
theorem b2l (h:s.1=7∧¬rides=true∨s.1=4):W2 rides s=(⟨4,0,min (I5 s.2).1 (I5 (I5 s.2).2).1,max (I5 s.2).1 (I5 (I5 s.2).2).1,⟨[]⟩,0⟩,(I5 (I5 s.2).2).2):=if_pos h
theorem b7I (h:s.1=4):W2 rides s=(⟨s.1,0,min (I5 s.2).1 (I5 (I5 s.2).2).1,max (I5 s.2).1 (I5 (I5 s.2).2).1,⟨[]⟩,0⟩,(I5 (I5 s.2).2).2):=by rw [h];exact b2l (.inr h)
theorem c01 (h:s.1=1):W2 rides s=(⟨s.1,(Y2 s.2 64).1,0,0,⟨[]⟩,0⟩,(Y2 s.2 64).2):=by unfold W2;rw [if_neg (by omega),if_pos h]
theorem c02 (h:s.1=2):W2 rides s=(⟨s.1,(Y2 s.2 32).1,0,0,⟨[]⟩,0⟩,(Y2 s.2 32).2):=by unfold W2;rw [if_neg (by omega),if_neg (by omega),if_pos h]
theorem c03 (h:s.1=3):W2 rides s=(⟨s.1,(Y2 s.2 7).1,0,0,⟨[]⟩,0⟩,(Y2 s.2 7).2):=by unfold W2;rw [if_neg (by omega),if_neg (by omega),if_neg (by omega),if_pos h]
theorem c04 (h:s.1=5):W2 rides s=a7D s:=by unfold W2;rw [if_neg (by omega),if_neg (by omega),if_neg (by omega),if_neg (by omega),if_pos h]
theorem c05 (h:s.1=6):W2 rides s=(⟨s.1,0,0,0,(a3R s.2).1,0⟩,(a3R s.2).2):=by unfold W2;rw [if_neg (by omega),if_neg (by omega),if_neg (by omega),if_neg (by omega),if_neg (by omega),if_pos h]
theorem c06 (hn:¬(s.1=7∧¬rides=true))(h:s.1=7):W2 rides s=(⟨s.1,0,0,0,⟨[]⟩,(a1k s.2 1000000).1⟩,(a1k s.2 1000000).2):=by unfold W2;rw [if_neg (fun q=>q.elim hn (by omega)),if_neg (by omega),if_neg (by omega),if_neg (by omega),if_neg (by omega),if_neg (by omega)]
end
def a2B (d:X9)(rides:Bool):Pred×X9:=W2 rides (Y6 d 1 7)
theorem a5D {d:X9}(h:I8 d):I8 (I5 d).2:=by
 unfold I5 a39;repeat' split
 all_goals first|with_reducible exact B9 (B9 h)|exact B9 (B9 (B9 h))
theorem c07 {d:X9}(h:I8 d)(b:Int):I8 (Y2 d b).2:=by
 unfold Y2 a09
 have:I8 (a08 (u6 d 3)).2:=by
  unfold a08;repeat' split
  all_goals first|exact B9 h|exact B9 (B9 h)|exact B9 (B9 (B9 h))
 split
 ·exact B9 this
 ·exact this
theorem c08 {d:X9}(h:I8 d)(m:Int):I8 (a1k d m).2:=by
 unfold a1k a7C;repeat' split
 all_goals exact B9 (B9 h)
instance (w:Value)(d:X9)(lo:Int)(up:Int):CaM gl prog 123 [dk w,.v lo,.v up] (.ob w d) [I8 d,lo≤up,-1000000000000000000≤lo,up≤1000000000000000000] (.v (Y6 d lo up).1) (.ob w (Y6 d lo up).2):=⟨fun hh=>c0S w d lo up hh.1 hh.2.1 hh.2.2.1 hh.2.2.2.1⟩
instance (w:Value)(d:X9)(m:Int):CaM gl prog 127 [dk w,.v m] (.ob w d) [I8 d,0≤m,m≤281474976710657] (.v (a1k d m).1) (.ob w (a1k d m).2):=⟨fun hh=>c3R w d m hh.1 hh.2.1 hh.2.2.1⟩
instance (w:Value)(d:X9):CaM gl prog 125 [dk w] (.ob w d) [I8 d] (.v (I5 d).1) (.ob w (I5 d).2):=⟨fun hh=>b7H w d hh.1⟩
instance (w:Value)(d:X9):CaM gl prog 126 [dk w] (.ob w d) [I8 d] (.v (a3R d).1) (.ob w (a3R d).2):=⟨fun hh=>c3S w d hh.1⟩
instance (w:Value)(d:X9)(b:Int):CaM gl prog 124 [dk w,.v b] (.ob w d) [I8 d,b=64∨b=32∨b=7] (.v (Y2 d b).1) (.ob w (Y2 d b).2):=⟨fun hh=>c3T w d b hh.1 hh.2.1⟩
theorem c3U (w:Value)(d:X9)(rides:Bool)(hd:I8 d):C6 gl prog 67 [dk w,.v rides] [.ob w d] (fun r Hs=>r = .v (a2B d rides).1∧Hs = [.ob w (a2B d rides).2]):=by
 have hok:I8 (Y6 d 1 7).2:=B9 hd
 have hs:1≤(Y6 d 1 7).1∧(Y6 d 1 7).1≤7:=by
  have:=F8 (d:=d) (n:=7 - 1+1) (by decide)
  unfold Y6;dsimp only;omega
 rw [show a2B d rides=W2 rides (Y6 d 1 7) from rfl]
 refine .go func67 j0 81 [.cell 4 131] j0 (by kernel_rfl) fun C hG=>(.z hG (by kernel_rfl) ?_)
 generalize Y6 d 1 7=s at *
 have hok1:=B9 (n:=1440) hok
 have hok2:=B9 (n:=1440) hok1
 have hok3:=B9 (n:=3) hok2
 have hokm:=a5D hok
 have n1:=F8 (d:=s.2) (n:=1440) (by decide)
 have n2:=F8 (d:=(u6 (u6 (u6 s.2 1440).2 1440).2 3).2) (n:=3) (by decide)
 repeat' (first|refine wpA.z hG (by kernel_rfl) ?_|refine And.intro ?_ ?_|(intro h;try dsimp only at h))
 all_goals (try dsimp only)
 all_goals first|with_reducible assumption|omega|(rename_i h;omega)|(exfalso;revert ‹(4:Int)=_›;decide)|(exfalso;revert ‹¬(4:Int)=_›;decide)|skip
 all_goals refine P6.of [w] ?_
 all_goals first|(rw [b2l (.inl (by assumption))];exact⟨rfl,rfl⟩)|(rw [b7I (by assumption)];exact⟨rfl,rfl⟩)|(rw [c01 (by assumption)];exact⟨rfl,rfl⟩)|(rw [c02 (by assumption)];exact⟨rfl,rfl⟩)|(rw [c03 (by assumption)];exact⟨rfl,rfl⟩)|(rw [c05 (by assumption)];exact⟨rfl,rfl⟩)|(rw [c06 (by assumption) (by assumption)];exact⟨rfl,rfl⟩)|skip
 all_goals rw [c04 (by assumption),a7D]
 ·rw [if_pos (by assumption)];exact⟨rfl,rfl⟩
 ·rw [if_neg (by assumption)];exact⟨rfl,rfl⟩
theorem b2m {d:X9}(h:I8 d)(rides:Bool):I8 (a2B d rides).2:=by
 have hok:I8 (Y6 d 1 7).2:=B9 h
 unfold a2B W2 a7D
 repeat' split
 all_goals first|with_reducible exact a5D (a5D hok)|with_reducible exact c07 hok _|with_reducible exact B9 (B9 (B9 (B9 hok)))|with_reducible exact B9 (B9 (B9 hok))|with_reducible exact c08 hok _|exact B9 hok
def a0p:Nat→X9→Bool→List Pred×X9
 | 0,d,_=>([],d)
 | k+1,d,r=>((a2B d r).1::(a0p k (a2B d r).2 r).1,(a0p k (a2B d r).2 r).2)
def Z4 (d:X9)(n:Int)(r:Bool):List Pred×X9:=a0p (u6 d (n+1)).1.toNat (u6 d (n+1)).2 r
theorem a6J:∀ (k:Nat) (d:X9) (r:Bool),I8 d→I8 (a0p k d r).2∧(a0p k d r).1.length=k
 | 0,_,_,h=>⟨h,rfl⟩
 | k+1,d,r,h=>by
  have:=a6J k _ r (b2m h r)
  exact⟨this.1,by rw [a0p,List.length_cons,this.2]⟩
instance (w:Value)(d:X9)(rides:Bool):CaM gl prog 67 [dk w,.v rides] (.ob w d) [I8 d] (.v (a2B d rides).1) (.ob w (a2B d rides).2):=⟨fun hh=>c3U w d rides hh.1⟩
theorem c09 (w:Value)(d:X9)(n:Int)(rides:Bool)(hd:I8 d)(h0:0≤n)(h1:n≤1000000):C6 gl prog 30 [dk w,.v n,.v rides] [.ob w d] (fun r Hs=>r = .v (Z4 d n rides).1∧Hs = [.ob w (Z4 d n rides).2]):=by
 have i6:a1Z 7:=⟨trivial⟩
 have i10:FzW 6 7:=⟨trivial⟩
 have hl:=F8 (d:=d) (n:=n+1) (by omega)
 refine .go func30 rfl 24 [.tmp 6] rfl (by kernel_rfl) fun C hG=>(.z hG (by kernel_rfl) ⟨by omega,by omega,hd,by omega,by omega,?_⟩)
 have hq:Z4 d n rides=a0p (u6 d (n+1)).1.toNat (u6 d (n+1)).2 rides:=rfl
 rw [hq]
 obtain⟨m,hm⟩:=Int.eq_ofNat_of_zero_le hl.1
 rw [hm,Int.toNat_natCast]
 have hok:=B9 (n:=n+1) hd
 generalize (u6 d (n+1)).2=d0 at hok ⊢
 refine .lp hG (fun x:Nat×List Pred×X9×Value => [(8,.v (x.1:Int)),(7,.raw x.2.2.2)]) (fun x => [(.slice none 0 0,.own 131 x.2.2.2 x.2.1),(w,.ob w x.2.2.1)]) (fun x=>x.1+x.2.1.length=m∧I8 x.2.2.1∧a0p m d0 rides=(x.2.1++(a0p x.1 x.2.2.1 rides).1,(a0p x.1 x.2.2.1 rides).2)) (fun x=>x.1) (m,[],d0,.slice none 0 0) (by kernel_rfl) ⟨rfl,rfl,⟨by simp,hok,rfl⟩,fun ⟨k,acc,d1,v⟩ ⟨h1,h2,h3⟩ => ?_⟩
 dsimp only at h1 h2 h3 ⊢
 refine⟨fun h4=>⟨h2,fun _=>⟨by simp only [List.length_singleton];omega,by simp only [List.length_singleton];omega,fun w2=>⟨by omega,by omega,(k - 1,_,_,w2),?_,rfl,rfl,rfl,⟨by simp only [List.length_append,List.length_singleton];omega,b2m h2 rides,?_⟩,by show k - 1 < k;omega⟩⟩⟩,fun h4 => ?_⟩
 ·exact congrArg AV.v (by show(k:Int) - 1=((k - 1:Nat):Int);omega)
 ·rw [h3]
  obtain⟨j,rfl⟩:∃ j,k=j+1:=⟨k - 1,by omega⟩
  rw [a0p,Nat.add_sub_cancel]
  simp
 ·obtain rfl:k=0:=by omega
  rw [h3,a0p]
  exact P6.of [w] ⟨by simp,rfl⟩
theorem a89 (d:X9):0≤(I5 d).1∧(I5 d).1≤67108864:=by
 have n1:=F8 (d:=(u6 d 4).2) (n:=4320) (by decide)
 have n2:=F8 (d:=(u6 d 4).2) (n:=60) (by decide)
 have n3:=F8 (d:=(u6 (u6 d 4).2 60).2) (n:=3) (by decide)
 have n4:=F8 (d:=(u6 d 4).2) (n:=67108865) (by decide)
 unfold I5 a39
 repeat' split
 all_goals (try dsimp only);omega
theorem c1a (d:X9){m:Int}(h:0≤m):0≤(a1k d m).1∧(a1k d m).1≤m:=by
 have n1:=F8 (d:=(u6 d 4).2) (n:=4) (by decide)
 have n2:=F8 (d:=(u6 d 4).2) (n:=300) (by decide)
 have n3:=F8 (d:=(u6 d 4).2) (n:=min 3 (m+1)) (by omega)
 have n4:=F8 (d:=(u6 d 4).2) (n:=m+1) (by omega)
 unfold a1k a7C
 repeat' split
 all_goals (try dsimp only);omega
theorem a6K (d:X9){b:Int}(hb:b=64∨b=32∨b=7):a3K (Y2 d b).1 b=true:=by
 unfold Y2
 generalize a08 (u6 d 3)=q
 have hn:=F8 (d:=q.2) (n:=b) (by omega)
 unfold a09
 split
 ·exact c8B hb hn.1 hn.2
 ·next h =>
  unfold a4D at h ⊢
  dsimp only
  split
  ·next h3=>rw [if_pos h3] at h;exact c8z hb h3 h
  ·next h3=>rw [if_neg h3] at h;exact c8A hb h3 h
theorem b7J (d:X9):a0n (a3R d).1=true:=by
 have hn:=F8 (d:=d) (n:=8) (by decide)
 unfold a3R
 dsimp only
 rw [List.getD_eq_getElem?_getD,List.getElem?_eq_getElem (by show _ < 8;omega)]
 exact(show ∀ s∈c64,a0n s=true by decide) _ (List.getElem_mem _)
theorem b7K (d:X9)(r:Bool):I9 (a2B d r).1=true:=by
 have hs:1≤(Y6 d 1 7).1∧(Y6 d 1 7).1≤7:=by
  have:=F8 (d:=d) (n:=7 - 1+1) (by decide)
  unfold Y6;dsimp only;omega
 unfold a2B
 generalize Y6 d 1 7=s at hs
 unfold W2
 split
 ·have h1:=a89 s.2
  have h2:=a89 (I5 s.2).2
  exact c6f (by omega) (by omega) (by omega)
 split
 ·next h=>rw [h];exact b3C (.inl rfl) (a6K s.2 (.inl rfl))
 split
 ·next h=>rw [h];exact b3C (.inr (.inl rfl)) (a6K s.2 (.inr (.inl rfl)))
 split
 ·next h=>rw [h];exact b3C (.inr (.inr rfl)) (a6K s.2 (.inr (.inr rfl)))
 split
 ·next h =>
  have n1:=F8 (d:=s.2) (n:=1440) (by decide)
  have n2:=F8 (d:=(u6 s.2 1440).2) (n:=1440) (by decide)
  unfold a7D
  rw [h]
  split
  ·exact b5N (by omega) (by omega) (by omega) (by omega)
  ·exact b5N (by omega) (by omega) (by omega) (by omega)
 split
 ·next h=>rw [h];exact c6g (b7J s.2)
 ·have h7:s.1=7:=by omega
  have h1:=c1a s.2 (m:=1000000) (by decide)
  rw [h7];exact c3Q h1.1 h1.2
theorem a9a:∀ (k:Nat) (d:X9) (r:Bool),∀ p∈(a0p k d r).1,I9 p=true
 | 0,_,_,_,h=>by cases h
 | k+1,d,r,p,h=>by
  rcases List.mem_cons.1 h with rfl|h
  ·exact b7K d r
  ·exact a9a k _ r p h
abbrev X8:=l8
def W3 (R:List Rec):List Item:=(R.filter fun r=>decide (r.Kind=4)).map (·.Item)
def V2 (R:List Rec):List u9:=(R.filter fun r=>decide (r.Kind=2)).map (·.M3)
theorem a5E (R S:List Rec):W3 (R++S)=W3 R++W3 S:=by unfold W3;rw [List.filter_append,List.map_append]
theorem a5F (R S:List Rec):V2 (R++S)=V2 R++V2 S:=by unfold V2;rw [List.filter_append,List.map_append]
theorem a8p {r:Rec}(h:r.Kind=4)(R:List Rec):W3 (r::R)=r.Item::W3 R:=by unfold W3;rw [List.filter_cons,if_pos (by simpa using h)];rfl
theorem a8q {r:Rec}(h:r.Kind=2)(R:List Rec):W3 (r::R)=W3 R:=by unfold W3;rw [List.filter_cons,if_neg (by simp [h])]
theorem a8r {r:Rec}(h:r.Kind=2)(R:List Rec):V2 (r::R)=r.M3::V2 R:=by unfold V2;rw [List.filter_cons,if_pos (by simpa using h)];rfl
theorem a8s {r:Rec}(h:r.Kind=4)(R:List Rec):V2 (r::R)=V2 R:=by unfold V2;rw [List.filter_cons,if_neg (by simp [h])]
def S9 (a:F1):X8×Int→List Item→X8×Int
 | x,[]=>x
 | x,i::l=>if x.2≠0 then x else S9 a (H6 a x.1 i) l
theorem a9b {a:F1}{x:X8×Int}(h:x.2≠0):∀ l,S9 a x l=x
 | []=>rfl
 | i::l=>by rw [S9,if_pos h]
theorem a6L {a:F1}{x:X8}{i:Item}{l:List Item}{y:X8}(h:S9 a (x,0) (i::l)=(y,0)):∃ z,H6 a x i=(z,0)∧S9 a (z,0) l=(y,0):=by
 rw [S9,if_neg e00] at h
 by_cases h2:(H6 a x i).2=0
 ·exact⟨(H6 a x i).1,Prod.ext rfl h2,by rw [←h];congr 1;exact Prod.ext rfl h2.symm⟩
 ·rw [a9b h2] at h
  rw [h] at h2;exact absurd rfl h2
theorem a9c (a:F1)(x:X8×Int):∀ l m,S9 a x (l++m)=S9 a (S9 a x l) m
 | [],m=>rfl
 | i::l,m=>by
  rw [List.cons_append,S9,S9]
  split
  ·next h=>rw [a9b h]
  ·exact a9c a _ l m
theorem a9d (a:F1)(x:X8)(M:List u9)(i:Item):H6 a { x with C0:=M } i=({ (H6 a x i).1 with C0:=M },(H6 a x i).2):=by
 unfold H6
 dsimp only
 split
 ·split
  ·rfl
  ·split<;>rfl
 ·rfl
theorem c1b (a:F1)(x:X8)(D:l9)(i:Item):H6 a { x with Device:=D } i=({ (H6 a x i).1 with Device:=D },(H6 a x i).2):=by
 unfold H6
 dsimp only
 split
 ·split
  ·rfl
  ·split<;>rfl
 ·rfl
theorem b0Z {a:F1}{x y:X8}{i:Item}(h:H6 a x i=(y,0)):y.C0=x.C0∧y.Device=x.Device∧y.D4=x.D4∧y.Up=x.Up∧y.E4=x.E4 ++ [i]:=by
 unfold H6 at h
 split at h
 ·split at h
  ·next h2=>simp only [Prod.mk.injEq] at h;exact absurd h.2 h2
  ·split at h
   ·next h2=>simp only [Prod.mk.injEq] at h;exact absurd h.2 h2
   ·simp only [Prod.mk.injEq] at h;rw [←h.1];exact⟨rfl,rfl,rfl,rfl,rfl⟩
 ·simp only [Prod.mk.injEq] at h;rw [←h.1];exact⟨rfl,rfl,rfl,rfl,rfl⟩
theorem c3V {a b:F1}(hl:V3 a b){x y:X8}{i:Item}(h:H6 a x i=(y,0)):H6 b x i=(y,0):=by
 unfold H6 at h ⊢
 split at h
 ·next h1 =>
  split at h
  ·next h2=>simp only [Prod.mk.injEq] at h;exact absurd h.2 h2
  ·next h2 =>
   have e:M0 a x.D4 i=((M0 a x.D4 i).1,0):=Prod.ext rfl (Classical.not_not.1 h2)
   have e2:=b3B hl e
   rw [if_pos h1,e2,if_neg e00]
   exact h
 ·next h1=>rw [if_neg h1];exact h
theorem a3e {a b:F1}(hl:V3 a b):∀ {l:List Item} {x y:X8},S9 a (x,0) l=(y,0)→S9 b (x,0) l=(y,0)
 | [],_,_,h=>h
 | i::l,x,y,h=>by
  obtain⟨z,h1,h2⟩:=a6L h
  rw [S9,if_neg e00,c3V hl h1]
  exact a3e hl h2
theorem a6i {a:F1}(M:List u9):∀ {l:List Item} {x y:X8},S9 a (x,0) l=(y,0)→S9 a ({ x with C0:=M },0) l=({ y with C0:=M },0)
 | [],x,y,h=>by
  have h:(x,(0:Int))=(y,0):=h
  cases h;rfl
 | i::l,x,y,h=>by
  obtain⟨z,h1,h2⟩:=a6L h
  rw [S9,if_neg e00,a9d,h1]
  exact a6i M h2
theorem a4E {a:F1}:∀ {R:List Rec} {x y:X8},(∀ r∈R,r.Kind=2∨r.Kind=4)→S9 a (x,0) (W3 R)=(y,0)→replay a (x,0) R=({ y with C0:=x.C0++V2 R },0)
 | [],x,y,_,h=>by
  have h:(x,(0:Int))=(y,0):=h
  cases h
  rw [replay,show V2 [] = [] from rfl,List.append_nil]
 | r::R,x,y,hk,h=>by
  have hR:∀ r∈R,r.Kind=2∨r.Kind=4:=fun q hq=>hk q (List.mem_cons_of_mem _ hq)
  rw [replay,if_neg e00]
  rcases hk r List.mem_cons_self with h2|h4
  ·rw [a8q h2] at h
   have e:a38 a x r=({ x with C0:=x.C0 ++ [r.M3] },0):=by unfold a38;rw [if_neg (by omega),if_pos h2]
   rw [e,a4E hR (a6i (x.C0 ++ [r.M3]) h),a8r h2]
   simp
  ·rw [a8p h4] at h
   obtain⟨z,h5,h6⟩:=a6L h
   have e:a38 a x r=(z,0):=by unfold a38;rw [if_pos h4,h5]
   rw [e,a4E hR h6,a8s h4,(b0Z h5).1]
theorem b2n {last:Int}{e:y3}(he:e.Number=last+1):∀ {l:List y3} {b:Int},b≤last→a7i last l b=true→a7i (last+1) (l ++ [e]) b=true
 | [],b,hb,_=>by simp [a7i];omega
 | x::l,b,hb,h=>by
  simp only [a7i,Bool.and_eq_true,decide_eq_true_eq,List.cons_append] at h ⊢
  exact⟨⟨h.1.1,by omega⟩,b2n he h.1.2 h.2⟩
theorem b7L {r:D6}{e:y3}(h:a16 r=true)(h1:e.Number=r.H7+1)(h2:1≤e.Number)(h3:e.Number≤1000):X4 r e=({ Live:=r.Live ++ [e],H7:=e.Number },0)∧a16 { Live:=r.Live ++ [e],H7:=e.Number }=true:=by
 refine⟨by unfold X4;rw [if_neg (by rw [h];decide),if_neg (by omega),if_neg (by simpa using h1)],?_⟩
 unfold a16 at h ⊢
 simp only [Bool.and_eq_true,decide_eq_true_eq] at h ⊢
 rw [h1]
 exact⟨⟨b2n h1 h.1.2 h.1.1,by omega⟩,by omega⟩
theorem a7E {r:D6}{n:Int}(h:(I4 r n).2=true):(I4 r n).1.Number=n:=by
 unfold I4 at h ⊢
 cases hf:r.Live.find? fun e=>decide (e.Number=n) with
 | none=>rw [hf] at h;cases h
 | some e=>have:=List.find?_some hf;simpa using this
theorem a6j (l:List y3)(e:y3):(I4 { Live:=l ++ [e],H7:=e.Number } e.Number).2=true:=by
 unfold I4
 cases hf:(l ++ [e]).find? fun x=>decide (x.Number=e.Number) with
 | none=>have:=List.find?_eq_none.1 hf e (List.mem_append_right _ List.mem_cons_self);simp at this
 | some x=>rfl
theorem G2.c3W {a:F1}{n:Nat}(h:G2 a n)(hn:n < 50000)(k:Tag){m:List UInt8}(hm:m.length≤1000):∃ t c,a2G a 0 k m=(t,c,0)∧G2 c (n+2)∧V3 a c:=by
 obtain⟨b,t,h1⟩:=h.step (by omega) k hm
 obtain⟨c,u,h2⟩:=h1.ok.step (by omega) t (m := [110,111,100,101]) (by decide)
 have e1:O2 a 0 k m=(t,b,0):=by rw [a1D rfl h1.eq];rfl
 have e2:O2 b 0 t [110,111,100,101]=(u,c,0):=by rw [a1D rfl h2.eq];rfl
 refine⟨t,c,?_,h2.ok,h1.le.trans h2.le⟩
 unfold a2G
 rw [e1];simp only [e2]
theorem b9j {q:Pred}(h:I9 q=true):S5 (a3P q)=true∧(D9 (a3P q)).length≤25:=by
 have h2:=a3L (a34 h)
 refine⟨?_,by show(1::E0 q).length≤25;rw [List.length_cons];omega⟩
 unfold S5
 rw [if_neg (by show ¬false=true;decide)]
 show(I9 q&&decide ((0:Int)=0)&&decide (([]:List UInt8).length=0)&&decide (([]:List UInt8).length=0))=true
 rw [h];rfl
theorem c3X {a:F1}{n:Nat}(h:G2 a n)(hn:n < 50000){p:B5}(hp:p.y5.length < 64){q:Pred}(hq:I9 q=true):∃ c p',a1i a p (a3P q)=(c,p',0)∧G2 c (n+2)∧V3 a c∧p'.y5=p.y5 ++ [a3P q]∧p'.O0=p.O0∧p'.M6=p.M6:=by
 obtain⟨hc,hl⟩:=b9j hq
 have he:V1 (a3P q)=(D9 (a3P q),0):=a5R hc
 obtain⟨t,c,h1,h2,h3⟩:=h.c3W hn p.Tag (m := [99,97,118,101,97,116]++D9 (a3P q)) (by rw [List.length_append];simp;omega)
 have ht:a7v p (a3P q)=false:=by
  unfold a7v
  rw [show(a3P q).a0l=false from rfl]
  simp;omega
 have hE:b0M 0 p (a3P q)=0:=by unfold b0M;rw [ht,if_neg (by decide),he];rfl
 have hN:a2u a 0 p (a3P q)=(t,c,0):=by unfold a2u;rw [hE,he];exact h1
 exact⟨c,{ p with y5:=p.y5 ++ [a3P q],Tag:=t },by unfold a1i;rw [hN,if_neg e00],h2,h3,rfl,rfl,rfl⟩
theorem c6i {a:F1}{n:Nat}(h:G2 a n):∀ (l:List Pred),(∀ q∈l,I9 q=true)→n+2*l.length < 50000→∀ (p:B5),p.y5.length+l.length≤64→∃ c p',X6 (a,p,0) l=(c,p',0)∧G2 c (n+2*l.length)∧V3 a c∧p'.y5=p.y5++l.map a3P∧p'.O0=p.O0∧p'.M6=p.M6:=by
 intro l
 induction l generalizing a n with
 | nil=>intro _ _ p _;exact⟨a,p,rfl,h,V3.refl a,by simp,rfl,rfl⟩
 | cons q l ih =>
  intro hq hn p hp
  rw [List.length_cons] at hn hp
  obtain⟨c,p1,e1,o1,l1,c1,s1,p2⟩:=c3X h (by omega) (p:=p) (by omega) (hq q List.mem_cons_self)
  obtain⟨c2,p3,e2,o2,l2,c3,s2,p4⟩:=ih o1 (fun x hx=>hq x (List.mem_cons_of_mem _ hx)) (by omega) p1 (by rw [c1,List.length_append,List.length_singleton];omega)
  refine⟨c2,p3,?_,?_,l1.trans l2,?_,s2.trans s1,p4.trans p2⟩
  ·unfold X6 at e2 ⊢
   rw [List.foldl_cons]
   rw [show(if (a,p,(0:Int)).2.2≠0 then (a,p,(0:Int)) else a1i (a,p,(0:Int)).1 (a,p,(0:Int)).2.1 { (default:Cav) with X3:=q })=(c,p1,0) from(if_neg e00).trans e1]
   exact e2
  ·rw [List.length_cons];exact o2.le (by omega)
  ·rw [c3,c1,List.map_cons,List.append_assoc];rfl
theorem b5P {a:F1}{n:Nat}(h:G2 a n){root:y3}{s:Int}(h1:1≤root.Number∧root.Number≤1000)(h2:1≤s∧s≤1073741824){l:List Pred}(hq:∀ q∈l,I9 q=true)(hl:l.length≤64)(hn:n < 40000) :
    ∃ c p,X6 (U8 a root s) l=(c,p,0)∧G2 c (n+130)∧V3 a c∧p.y5=l.map a3P∧p.O0=s∧p.M6=root.Number:=by
  have hm:(a1F s).length≤1000:=by
    have:=H4 (n:=s.toNat) (by omega)
    unfold a1F;rw [List.length_append];simp;omega
  obtain⟨t,c,e1,o1,l1⟩:=h.c3W (by omega) root.Key hm
  have hr:a35 root.Number s=true:=by unfold a35;simp;omega
  have e2:U8 a root s=(c,⟨root.Number,s,[],t⟩,0):=by
    unfold U8;rw [hr,if_neg (by decide),e1,if_neg e00]
  obtain⟨c2,p,e3,o2,l2,c3,s3,p3⟩:=c6i o1 l hq (by omega) ⟨root.Number,s,[],t⟩ (by show 0+l.length≤64;omega)
  exact⟨c2,p,by rw [e2];exact e3,o2.le (by omega),l1.trans l2,by rw [c3];rfl,s3,p3⟩
def a1l (key:Tag)(D:l9):X8 := { (default:X8) with D4:=key,Device:=D,Up:=true }
structure S7 (a:F1)(n k:Nat)(x:X8)(R:List Rec):Prop where
 alg:G2 a n
 up:x.Up=true
 ring:a16 x.Ring=true
 live:x.Ring.Live.length≤k
 last:0≤x.Ring.H7∧x.Ring.H7≤k
 items:x.E4.length≤k
 a0f:x.C0.length≤k
 a0c:∀ r∈R,(r.Kind=2∨r.Kind=4)∧K6 r=0∧r.Item.Kind≠2
 len:R.length≤k
 ri:W3 R=x.E4
 rm:V2 R=x.C0
 st:∀ D,S9 a (a1l x.D4 D,0) x.E4=({ x with C0 := [],Device:=D },0)
structure a1J (k:Nat)(D:l9)(R:List Rec):Prop where
 U1:F4 D=L6 (R.map M9)
 act:D.B3=0∨D.B3=1
 off:D.Off=false
 cut:D.a0O=0
 wr:0≤D.C7∧D.C7≤k
 dev:V5 D
 cap:((F4 D).length:Int)≤D.G8
 c3Y:D.G8≤1048576
theorem S7.dev {a:F1}{n k:Nat}{x:X8}{R:List Rec}(h:S7 a n k x R)(D:l9):S7 a n k { x with Device:=D } R :=
 ⟨h.alg,h.up,h.ring,h.live,h.last,h.items,h.a0f,h.a0c,h.len,h.ri,h.rm,h.st⟩
theorem S7.le {a:F1}{n k:Nat}{x:X8}{R:List Rec}(h:S7 a n k x R){b:F1}{m j:Nat}(hb:G2 b m)(hl:V3 a b)(hk:k≤j):S7 b m j x R :=
 ⟨hb,h.up,h.ring,Nat.le_trans h.live hk,⟨h.last.1,by have:=h.last.2;omega⟩,Nat.le_trans h.items hk,Nat.le_trans h.a0f hk,h.a0c,Nat.le_trans h.len hk,h.ri,h.rm,fun D=>a3e hl (h.st D)⟩
theorem S7.replay {a:F1}{n k:Nat}{x:X8}{R:List Rec}(h:S7 a n k x R){S:List Rec}(hS:∀ r∈S,r.Kind=2∨r.Kind=4)(h1:W3 S=x.E4)(h2:V2 S=x.C0){b:F1}(hl:V3 a b)(D:l9):replay b (a1l x.D4 D,0) S=({ x with Device:=D },0):=by
 have e:=a4E (a:=b) (x:=a1l x.D4 D) hS (by rw [h1];exact a3e hl (h.st D))
 rw [e,h2];rfl
theorem S7.ib {a:F1}{n k:Nat}{x:X8}{R:List Rec}(h:S7 a n k x R)(hk:k≤1000)(hd:V5 x.Device):IsB x:=by
 have h1:=h.live;have h2:=h.items;have h3:=h.a0f
 refine⟨by omega,by omega,fun m hm => ?_,by omega,fun i hi => ?_,hd⟩
 ·rw [←h.rm] at hm
  obtain⟨r,hr,rfl⟩:=List.mem_map.1 hm
  obtain⟨hr,hk2⟩:=List.mem_filter.1 hr
  have hk2:r.Kind=2:=by simpa using hk2
  rcases b0W (h.a0c r hr).1 (h.a0c r hr).2.1 with q|q
  ·exact q.2.2
  ·omega
 ·rw [←h.ri] at hi
  obtain⟨r,hr,rfl⟩:=List.mem_map.1 hi
  obtain⟨hr,hk2⟩:=List.mem_filter.1 hr
  have hk2:r.Kind=4:=by simpa using hk2
  rcases b0W (h.a0c r hr).1 (h.a0c r hr).2.1 with q|q
  ·omega
  ·have:=q.2.2;omega
theorem a1J.le {k j:Nat}{D:l9}{R:List Rec}(h:a1J k D R)(hk:k≤j):a1J j D R:=⟨h.U1,h.act,h.off,h.cut,⟨h.wr.1,by have:=h.wr.2;omega⟩,h.dev,h.cap,h.c3Y⟩
theorem b3D {a:F1}{n k:Nat}{x:X8}{R:List Rec}(h:S7 a n k x R)(hd:a1J k x.Device R)(hk:k≤1000):IsG x:=⟨h.ib hk hd.dev,hd.act,by have:=hd.wr;omega⟩
theorem S7.item {a:F1}{n k:Nat}{x:X8}{R:List Rec}(h:S7 a n k x R){b:F1}{m:Nat}(hb:G2 b m)(hl:V3 a b){i:Item}{y:X8}(ht:H6 b x i=(y,0))(hc:K6 (W6 i)=0)(hk:i.Kind≠2)
    (hr:a16 y.Ring=true)(hv:y.Ring.Live.length≤k+1)(hL:0≤y.Ring.H7∧y.Ring.H7≤(k+1:Nat)):S7 b m (k+1) y (R ++ [W6 i]):=by
  obtain⟨q1,q2,q3,q4,q5⟩:=b0Z ht
  have h2:=h.items;have h3:=h.a0f;have h4:=h.len
  refine⟨hb,q4.trans h.up,hr,hv,hL,by rw [q5,List.length_append,List.length_singleton];omega,by rw [q1];omega,fun r hr => ?_,by rw [List.length_append,List.length_singleton];omega,?_,?_,fun D => ?_⟩
  · rcases List.mem_append.1 hr with hr|hr
    · exact h.a0c r hr
    · rw [List.mem_singleton.1 hr];exact⟨.inr rfl,hc,hk⟩
  · rw [a5E,h.ri,q5];rfl
  · rw [a5F,h.rm,q1];exact List.append_nil _
  · have e:S9 b (a1l x.D4 D,0) (x.E4 ++ [i])=({ y with C0 := [],Device:=D },0):=by
      rw [a9c,a3e hl (h.st D)]
      show S9 b (H6 b { x with C0 := [],Device:=D } i) []=_
      rw [show({ x with C0 := [],Device:=D }:X8) = { ({ x with Device:=D }:X8) with C0 := [] } from rfl,a9d,c1b,ht]
      rfl
    conv=>lhs;rw [q5,q3]
    exact e
theorem a7F:(default:Item).Kind=0:=rfl
theorem S7.c5Y {a:F1}{n k:Nat}{x:X8}{R:List Rec}(h:S7 a n k x R){b:F1}{m:Nat}(hb:G2 b m)(hl:V3 a b){t:u9}(hc:K6 (W7 t)=0):S7 b m (k+1) { x with C0:=x.C0 ++ [t] } (R ++ [W7 t]):=by
 have h1:=h.live;have h2:=h.items;have h3:=h.a0f;have h4:=h.len;have h5:=h.last
 refine⟨hb,h.up,h.ring,by show x.Ring.Live.length≤_;omega,⟨h5.1,by show x.Ring.H7≤_;omega⟩,by show x.E4.length≤_;omega,by show(x.C0 ++ [t]).length≤_;rw [List.length_append,List.length_singleton];omega,fun r hr => ?_,by rw [List.length_append,List.length_singleton];omega,?_,?_,fun D => ?_⟩
 ·rcases List.mem_append.1 hr with hr|hr
  ·exact h.a0c r hr
  ·rw [List.mem_singleton.1 hr];exact⟨.inl rfl,hc,by show(default:Item).Kind≠2;rw [a7F];decide⟩
 ·rw [a5E,h.ri];exact List.append_nil _
 ·rw [a5F,h.rm];rfl
 ·exact a3e hl (h.st D)
structure b3E (a:F1)(n k:Nat)(x:X8)(R:List Rec)(op:X8→F1×X8×Int)(b:F1)(r:Rec)(ch:X8→X8):Prop where
 eq:∀ D,op { x with Device:=D }=a0A a b { x with Device:=D } r ch
 le:V3 a b
 rk:r.Kind=2∨r.Kind=4
 rc:K6 r=0
 d3l:∀ D,S7 b (n+130) (k+1) (ch { x with Device:=D }) (R ++ [r])∧(ch { x with Device:=D }).Device=D∧(ch { x with Device:=D }).D4=x.D4
 last:∀ D,x.Ring.H7≤(ch { x with Device:=D }).Ring.H7∧((I4 x.Ring x.Ring.H7).2=true→(I4 (ch { x with Device:=D }).Ring (ch { x with Device:=D }).Ring.H7).2=true)
theorem S7.rotate {a:F1}{n k:Nat}{x:X8}{R:List Rec}(h:S7 a n k x R)(hn:n < 30000)(hk:k≤500):∃ b r ch,b3E a n k x R (a1M a) b r ch∧∀ D,(I4 (ch { x with Device:=D }).Ring (ch { x with Device:=D }).Ring.H7).2=true∧1≤(ch { x with Device:=D }).Ring.H7∧(ch { x with Device:=D }).E4.length=x.E4.length+1∧(ch { x with Device:=D }).C0=x.C0∧(ch { x with Device:=D }).Ring.H7=x.Ring.H7+1:=by
 have h5:=h.last;have h6:=h.items
 obtain⟨b,t,hK⟩:=h.alg.c6c (by omega)
 obtain⟨c,y,hE⟩:=hK.ok.c8w (by omega) x.D4 (place:=x.E4.length+1) (e:=⟨x.Ring.H7+1,t⟩) (by omega) (by omega) (by show 1≤x.Ring.H7+1;omega) (by show x.Ring.H7+1≤1000;omega)
 obtain⟨bx,tg,hx,hy⟩:=hE.item
 have hle:=hK.le.trans hE.le
 have hyk:y.Kind=1:=by rw [hy];rfl
 obtain⟨hA,hO⟩:=b7L (r:=x.Ring) (e:=⟨x.Ring.H7+1,t⟩) h.ring rfl (by show 1≤x.Ring.H7+1;omega) (by show x.Ring.H7+1≤1000;omega)
 have hT:∀ D,H6 c { x with Device:=D } y=({ x with Device:=D,Ring := { Live:=x.Ring.Live ++ [⟨x.Ring.H7+1,t⟩],H7:=x.Ring.H7+1 },E4:=x.E4 ++ [y] },0):=fun D=>by
  unfold H6
  rw [if_pos hyk,hE.ep,if_neg e00]
  show(if (X4 x.Ring ⟨x.Ring.H7+1,t⟩).2≠0 then _ else _)=_
  rw [hA,if_neg e00]
 have hc:K6 (W6 y)=0:=by
  rw [hy]
  exact a84 ⟨by show 1≤(x.E4.length:Int)+1;omega,by show(x.E4.length:Int)+1≤4096;omega⟩ ⟨by show(1:Int)≤1;omega,by show(1:Int)≤3;omega⟩ ⟨by show 0≤x.Ring.H7+1;omega,by show x.Ring.H7+1≤1000;omega⟩ (by show bx.length≤1024;omega)
 refine⟨c,W6 y,fun z=>(H6 c z y).1,⟨fun D => ?_,hle,.inr j0,hc,fun D => ?_,fun D => ?_⟩,fun D => ?_⟩
 ·unfold a1M
  rw [if_neg (by show ¬¬x.Up=true;rw [h.up];decide),if_neg (by show ¬(1000≤x.Ring.H7∨4096≤(x.E4.length:Int));omega),hK.eq,if_neg e00]
  show(if (K3 b x.D4 (x.E4.length+1) ⟨x.Ring.H7+1,t⟩).2.2≠0 then _ else S3 a (K3 b x.D4 (x.E4.length+1) ⟨x.Ring.H7+1,t⟩).1 { x with Device:=D } (K3 b x.D4 (x.E4.length+1) ⟨x.Ring.H7+1,t⟩).2.1)=_
  rw [hE.eq,if_neg e00]
  rfl
 ·show S7 c (n+130) (k+1) (H6 c { x with Device:=D } y).1 _∧(H6 c { x with Device:=D } y).1.Device=D∧_
  rw [hT D]
  refine⟨(h.dev D).item (hE.ok.le (by omega)) hle (hT D) hc (by rw [hyk];decide) hO ?_ ⟨by show 0≤x.Ring.H7+1;omega,by show x.Ring.H7+1≤_;omega⟩,rfl,rfl⟩
  show(x.Ring.Live ++ [_]).length≤k+1
  have:=h.live
  rw [List.length_append,List.length_singleton];omega
 ·show x.Ring.H7≤(H6 c { x with Device:=D } y).1.Ring.H7∧((I4 x.Ring x.Ring.H7).2=true→(I4 (H6 c { x with Device:=D } y).1.Ring (H6 c { x with Device:=D } y).1.Ring.H7).2=true)
  rw [hT D]
  exact⟨by show x.Ring.H7≤x.Ring.H7+1;omega,fun _=>a6j x.Ring.Live ⟨x.Ring.H7+1,t⟩⟩
 ·show(I4 (H6 c { x with Device:=D } y).1.Ring (H6 c { x with Device:=D } y).1.Ring.H7).2=true∧1≤(H6 c { x with Device:=D } y).1.Ring.H7∧(H6 c { x with Device:=D } y).1.E4.length=x.E4.length+1∧(H6 c { x with Device:=D } y).1.C0=x.C0∧(H6 c { x with Device:=D } y).1.Ring.H7=x.Ring.H7+1
  rw [hT D]
  exact⟨a6j x.Ring.Live ⟨x.Ring.H7+1,t⟩,by show 1≤x.Ring.H7+1;omega,by show(x.E4 ++ [y]).length=_;rw [List.length_append];rfl,rfl,rfl⟩
theorem S7.c8C {a:F1}{n k:Nat}{x:X8}{R:List Rec}(h:S7 a n k x R)(hn:n < 30000)(hk:k≤500)(t:Tag):∃ b r ch,b3E a n k x R (fun z=>a52 a z t) b r ch:=by
 have h5:=h.last;have h6:=h.items
 have hit:a6H x { (default:Item) with Kind:=3,Node:=t }=⟨x.E4.length+1,3,0,t,[],default⟩:=rfl
 have hie:L8 (⟨x.E4.length+1,3,0,t,[],default⟩:Item)=0:=by
  unfold L8
  simp only
  rw [if_neg (by omega),if_neg (by simp),if_neg (by omega),if_neg (by omega)]
 obtain⟨c,y,hS⟩:=h.alg.c3P (by omega) x.D4 hie (by simp)
 obtain⟨tg,hy⟩:=hS.item
 have hyk:y.Kind=3:=by rw [hy]
 have hT:∀ z,H6 c z y=({ z with E4:=z.E4 ++ [y] },0):=fun z=>by unfold H6;rw [if_neg (by rw [hyk];decide)]
 have hc:K6 (W6 y)=0:=by
  rw [hy]
  exact a84 ⟨by show 1≤(x.E4.length:Int)+1;omega,by show(x.E4.length:Int)+1≤4096;omega⟩ ⟨by show(1:Int)≤3;omega,by show(3:Int)≤3;omega⟩ ⟨by show(0:Int)≤0;omega,by show(0:Int)≤1000;omega⟩ (by show 0≤1024;omega)
 refine⟨c,W6 y,fun z=>(H6 c z y).1,⟨fun D => ?_,hS.le,.inr j0,hc,fun D => ?_,fun D => ?_⟩⟩
 ·show a52 a { x with Device:=D } t=_
  unfold a52 a4Q
  rw [if_neg (by show ¬¬x.Up=true;rw [h.up];decide),if_neg (by show ¬4096≤(x.E4.length:Int);omega)]
  show(if (L5 a x.D4 (a6H x { (default:Item) with Kind:=3,Node:=t })).2.2≠0 then _ else S3 a (L5 a x.D4 (a6H x { (default:Item) with Kind:=3,Node:=t })).1 { x with Device:=D } (L5 a x.D4 (a6H x { (default:Item) with Kind:=3,Node:=t })).2.1)=_
  rw [hit,hS.eq,if_neg e00]
  rfl
 ·show S7 c (n+130) (k+1) (H6 c { x with Device:=D } y).1 _∧(H6 c { x with Device:=D } y).1.Device=D∧_
  rw [hT]
  exact⟨(h.dev D).item (hS.ok.le (by omega)) hS.le (hT _) hc (by rw [hyk];decide) h.ring (Nat.le_succ_of_le h.live) ⟨h5.1,by show x.Ring.H7≤_;omega⟩,rfl,rfl⟩
 ·show x.Ring.H7≤(H6 c { x with Device:=D } y).1.Ring.H7∧((I4 x.Ring x.Ring.H7).2=true→(I4 (H6 c { x with Device:=D } y).1.Ring (H6 c { x with Device:=D } y).1.Ring.H7).2=true)
  rw [hT]
  exact⟨Int.le_refl _,fun q=>q⟩
theorem S7.c8D {a:F1}{n k:Nat}{x:X8}{R:List Rec}(h:S7 a n k x R)(hn:n < 30000)(hk:k≤500)(hf:(I4 x.Ring x.Ring.H7).2=true)(h1:1≤x.Ring.H7){l:List Pred}(hq:∀ q∈l,I9 q=true)(hl:l.length≤64):∃ b r ch,b3E a n k x R (fun z=>((P8 a z l).1,(P8 a z l).2.1,(P8 a z l).2.2.2)) b r ch:=by
 have h5:=h.last;have h6:=h.a0f
 have hr:=a7E hf
 obtain⟨c,p,hP,hA,hle,hc,hs,he⟩:=b5P h.alg (root:=(I4 x.Ring x.Ring.H7).1) (s:=x.C0.length+1) (by rw [hr];omega) (by omega) hq hl (by omega)
 have hm:K6 (W7 (a5C x p))=0:=a86 ⟨by show 1≤(x.C0.length:Int)+1;omega,by show(x.C0.length:Int)+1≤_;omega⟩ ⟨by show 1≤(I4 x.Ring x.Ring.H7).1.Number;rw [hr];exact h1,by show(I4 x.Ring x.Ring.H7).1.Number≤1000;rw [hr];omega⟩ (by show p.y5.length≤64;rw [hc,List.length_map];exact hl) fun q hq2=>by
  have hq2:q∈p.y5:=hq2
  rw [hc] at hq2
  obtain⟨u,hu,rfl⟩:=List.mem_map.1 hq2
  have:=b9j (hq u hu)
  exact⟨this.1,by have:=this.2;omega⟩
 refine⟨c,W7 (a5C x p),fun z => { z with C0:=z.C0 ++ [a5C x p] },⟨fun D => ?_,hle,.inl j0,hm,fun D=>⟨(h.dev D).c5Y hA hle hm,j0,j0⟩,fun D=>⟨Int.le_refl _,fun q=>q⟩⟩⟩
 have hP2:a7y a { x with Device:=D } l=(c,p,0):=hP
 have e:P8 a { x with Device:=D } l=a81 a { x with Device:=D } (c,p,0):=by
  unfold P8
  rw [if_neg (by show ¬¬x.Up=true;rw [h.up];decide),if_neg (by show ¬¬(I4 x.Ring x.Ring.H7).2=true;rw [hf];decide),if_neg (by omega),if_neg (by show ¬1073741824 < (x.C0.length:Int)+1;omega),hP2]
 show((P8 a { x with Device:=D } l).1,(P8 a { x with Device:=D } l).2.1,(P8 a { x with Device:=D } l).2.2.2)=_
 rw [e]
 unfold a81
 rw [if_neg e00]
 show _=a1I a { x with Device:=D } (c,p,0)
 split
 ·rfl
 ·next h7=>exact Prod.ext rfl (Prod.ext rfl (Classical.not_not.1 h7).symm)
theorem b3F (D:l9)(A:List UInt8)(n:Int)(hn:n=0∨n=1):(Q8 D.F3 n.toNat A).l.getD n.toNat default=A:=by
 have h:=b9V D.F3 A
 rcases hn with rfl|rfl
 ·exact h.1
 ·exact h.2.2.2
theorem c1c (D:l9)(A:List UInt8)(n:Int)(hn:n=0∨n=1):(Q8 D.F3 (1 - n).toNat A).l.getD n.toNat default=D.F3.l.getD n.toNat default:=by
 have h:=b9V D.F3 A
 rcases hn with rfl|rfl
 ·exact h.2.2.1
 ·exact h.2.1
theorem a7G {D:l9}(h:V5 D){A:List UInt8}(hA:A.length≤100000000)(n:Nat):∀ a∈(Q8 D.F3 n A).l,a.length≤100000000:=fun a ha=>by
 rcases List.mem_or_eq_of_mem_set ha with h1|h1
 ·exact h a h1
 ·rw [h1];exact hA
theorem b1a {D:l9}{k:Nat}{R:List Rec}(h:a1J k D R):(F4 D).length≤1048576:=by
 have:=h.cap;have:=h.c3Y;omega
theorem a1J.save {D:l9}{k:Nat}{R:List Rec}(h:a1J k D R){r:Rec}(hk:r.Kind=2∨r.Kind=4)(hc:K6 r=0)(hr:((F4 D).length:Int)+(jFr (M9 r)).length≤D.G8) :
    ∃ E,a02 D r=(E,0)∧a1J (k+1) E (R ++ [r])∧E.G8=D.G8∧F4 E=F4 D++jFr (M9 r):=by
  have hl:=b1a h
  have hw:=h.wr
  have hcp:=h.c3Y
  have e1:(F4 D).take ((F4 D).length:Int).toNat=F4 D:=by rw [Int.toNat_natCast,List.take_length]
  have ha:F4 { D with C7:=D.C7+1,F3:=Q8 D.F3 D.B3.toNat ((F4 D).take ((F4 D).length:Int).toNat++jFr (M9 r)),B3:=D.B3 }=F4 D++jFr (M9 r):=by
    show(Q8 D.F3 D.B3.toNat _).l.getD D.B3.toNat default=_
    rw [b3F D _ _ h.act,e1]
  refine⟨_,(b5L hk hc).trans (a4v (by rw [h.off];decide) (by omega) (by rw [h.cut];omega)),⟨?_,h.act,h.off,h.cut,⟨by show 0≤D.C7+1;omega,by show D.C7+1≤((k+1:Nat):Int);omega⟩,?_,?_,h.c3Y⟩,rfl,ha⟩
  · refine ha.trans ?_
    rw [h.U1,List.map_append,a83]
    show _=_++(jFr (M9 r) ++ [])
    rw [List.append_nil]
  · refine a7G h.dev ?_ _
    show((F4 D).take ((F4 D).length:Int).toNat++jFr (M9 r)).length≤_
    rw [e1,List.length_append];omega
  · show((F4 { D with C7:=D.C7+1,F3:=Q8 D.F3 D.B3.toNat ((F4 D).take ((F4 D).length:Int).toNat++jFr (M9 r)),B3:=D.B3 }).length:Int)≤D.G8
    rw [ha,List.length_append];omega
theorem a1J.full {D:l9}{k:Nat}{R:List Rec}(h:a1J k D R){r:Rec}(hk:r.Kind=2∨r.Kind=4)(hc:K6 r=0)(hr:D.G8 < ((F4 D).length:Int)+(jFr (M9 r)).length):a02 D r=(D,26):=by
 rw [b5L hk hc];unfold L9
 rw [if_neg (by rw [h.off];decide),if_pos hr]
theorem b3E.ok {a:F1}{n k:Nat}{x:X8}{R:List Rec}{op:X8→F1×X8×Int}{b:F1}{r:Rec}{ch:X8→X8}(p:b3E a n k x R op b r ch)(hd:a1J k x.Device R)(hr:((F4 x.Device).length:Int)+(jFr (M9 r)).length≤x.Device.G8) :
    ∃ y,op x=(b,y,0)∧S7 b (n+130) (k+1) y (R ++ [r])∧a1J (k+1) y.Device (R ++ [r])∧y.Device.G8=x.Device.G8∧F4 y.Device=F4 x.Device++jFr (M9 r)∧y.D4=x.D4∧x.Ring.H7≤y.Ring.H7∧((I4 x.Ring x.Ring.H7).2=true→(I4 y.Ring y.Ring.H7).2=true)∧∃ D,y=ch { x with Device:=D }:=by
  obtain⟨E,h1,h2,h3,h4⟩:=hd.save p.rk p.rc hr
  obtain⟨g1,g2,g3⟩:=p.d3l E
  obtain⟨l1,l2⟩:=p.last E
  refine⟨ch { x with Device:=E },?_,g1,by rw [g2];exact h2,by rw [g2];exact h3,by rw [g2];exact h4,g3,l1,l2,E,rfl⟩
  have:=p.eq x.Device
  rw [show({ x with Device:=x.Device }:X8)=x from rfl] at this
  rw [this];unfold a0A;rw [h1,if_pos rfl]
theorem b3E.full {a:F1}{n k:Nat}{x:X8}{R:List Rec}{op:X8→F1×X8×Int}{b:F1}{r:Rec}{ch:X8→X8}(p:b3E a n k x R op b r ch)(hd:a1J k x.Device R)(hr:x.Device.G8 < ((F4 x.Device).length:Int)+(jFr (M9 r)).length):(op x).2.2=26:=by
 have h1:=hd.full p.rk p.rc hr
 have:=p.eq x.Device
 rw [show({ x with Device:=x.Device }:X8)=x from rfl] at this
 rw [this];unfold a0A;rw [h1,if_neg (show ¬(26:Int)=0 by decide),if_neg (show ¬(26:Int)=27 by decide)]
structure d3m (a b:F1)(x:X8)(D:l9)(S:List Rec):Prop where
 eq:V9 b (a0z x D)=({ x with Device:=F5 D },0)
 U1:F4 (F5 D)=L6 (S.map M9)
 jl:(a1f (F4 (F5 D))).1.length≤100000
 jr:∀ r∈(a1f (F4 (F5 D))).1,r.length≤1000000∧((O6 ⟨r,0⟩).1=2∨(O6 ⟨r,0⟩).1=4)
 jk:∀ r∈(a0e (F5 D)).1,r.Item.Kind≠2∧r.Item.O8.length≤1000000
 dev:V5 (F5 D)
theorem b7N {a:F1}{n k:Nat}{x:X8}{R:List Rec}(h:S7 a n k x R)(hk:k≤1000){b:F1}(hl:V3 a b){S:List Rec}(hS:∀ r∈S,(r.Kind=2∨r.Kind=4)∧K6 r=0∧r.Item.Kind≠2)(hSl:S.length≤1000)(h1:W3 S=x.E4)(h2:V2 S=x.C0){D:l9}{t:List UInt8}(ht:a2A t=none)(hD:F4 D=L6 (S.map M9)++t)(ha:D.B3=0∨D.B3=1)(hd:V5 D):d3m a b x D S:=by
 have hS2:∀ r∈S,(r.Kind=2∨r.Kind=4)∧K6 r=0:=fun r hr=>⟨(hS r hr).1,(hS r hr).2.1⟩
 have hj:=(b9i hS2 ht hD).1
 have hA:F4 (F5 D)=L6 (S.map M9):=by
  show(Q8 D.F3 D.B3.toNat ((F4 D).take (a1f (F4 D)).2)).l.getD D.B3.toNat default=_
  rw [b3F D _ _ ha,hj,hD]
  exact List.take_left
 have hJ:=b9i (d:=F5 D) (t := []) hS2 b5J (by rw [hA,List.append_nil])
 have hR:=h.replay (fun r hr=>(hS r hr).1) h1 h2 hl (F5 D)
 refine⟨?_,hA,by rw [hJ.1,List.length_map];omega,fun r hr => ?_,fun r hr => ?_,?_⟩
 ·unfold V9
  rw [if_neg (by show ¬false=true;decide),show a0e (F5 (a0z x D).Device)=(S,0) from hJ.2,if_neg e00]
  show(if (replay b (a1l x.D4 (F5 D),0) S).2≠0 then _ else ((replay b (a1l x.D4 (F5 D),0) S).1,(0:Int)))=_
  rw [hR,if_neg e00]
 ·rw [hJ.1] at hr
  obtain⟨q,hq,rfl⟩:=List.mem_map.1 hr
  have:=a7A (hS2 q hq).1 (hS2 q hq).2
  exact⟨by have:=this.1.2;omega,by rw [this.2];exact(hS2 q hq).1⟩
 ·rw [hJ.2] at hr
  have q:=hS r hr
  refine⟨q.2.2,?_⟩
  rcases b0W q.1 q.2.1 with w|w
  ·rw [w.2.1];show(default:Item).O8.length≤_;exact Nat.zero_le _
  ·have:=w.2.2;omega
 ·refine a7G hd ?_ _
  rw [List.length_take]
  have:=hd.at D.B3.toNat
  exact Nat.le_trans (Nat.min_le_right _ _) this
theorem a6k:∀ {R:List Rec},(∀ r∈R,r.Kind=2∨r.Kind=4)→(L6 ((R.filter fun r=>decide (r.Kind=4)).map M9)).length+(L6 ((R.filter fun r=>decide (r.Kind=2)).map M9)).length=(L6 (R.map M9)).length
 | [],_=>rfl
 | r::R,h=>by
  have ih:=a6k fun q hq=>h q (List.mem_cons_of_mem _ hq)
  rcases h r List.mem_cons_self with h2|h4
  ·rw [List.filter_cons,List.filter_cons,if_neg (by simp [h2]),if_pos (by simpa using h2),List.map_cons,List.map_cons,X7,X7,List.length_append,List.length_append];omega
  ·rw [List.filter_cons,List.filter_cons,if_pos (by simpa using h4),if_neg (by simp [h4]),List.map_cons,List.map_cons,X7,X7,List.length_append,List.length_append];omega
theorem c3Z:∀ {R:List Rec},(∀ r∈R,(r.Kind=2∨r.Kind=4)∧K6 r=0)→(W3 R).map W6=R.filter fun r=>decide (r.Kind=4)
 | [],_=>rfl
 | r::R,h=>by
  have ih:=c3Z fun q hq=>h q (List.mem_cons_of_mem _ hq)
  have hr:=h r List.mem_cons_self
  rcases b0W hr.1 hr.2 with q|q
  ·rw [a8q q.1,List.filter_cons,if_neg (by simp [q.1]),ih]
  ·rw [a8p q.1,List.filter_cons,if_pos (by simpa using q.1),List.map_cons,ih,←q.2.1]
theorem c30:∀ {R:List Rec},(∀ r∈R,(r.Kind=2∨r.Kind=4)∧K6 r=0)→(V2 R).map W7=R.filter fun r=>decide (r.Kind=2)
 | [],_=>rfl
 | r::R,h=>by
  have ih:=c30 fun q hq=>h q (List.mem_cons_of_mem _ hq)
  have hr:=h r List.mem_cons_self
  rcases b0W hr.1 hr.2 with q|q
  ·rw [a8r q.1,List.filter_cons,if_pos (by simpa using q.1),List.map_cons,ih,←q.2.1]
  ·rw [a8s q.1,List.filter_cons,if_neg (by simp [q.1]),ih]
structure d3n (x:X8)(R:List Rec):Prop where
 a0c:∀ r∈U6 x,(r.Kind=2∨r.Kind=4)∧K6 r=0∧r.Item.Kind≠2
 items:W3 (U6 x)=x.E4
 a0f:V2 (U6 x)=x.C0
 len:(L6 ((U6 x).map M9)).length=(L6 (R.map M9)).length
 num:(U6 x).length=R.length
theorem b2o:∀ l:List Item,W3 (l.map W6)=l
 | []=>rfl
 | i::l=>by rw [List.map_cons,a8p rfl,b2o l];rfl
theorem b2p:∀ l:List u9,W3 (l.map W7) = []
 | []=>rfl
 | i::l=>by rw [List.map_cons,a8q rfl,b2p l]
theorem b2q:∀ l:List u9,V2 (l.map W7)=l
 | []=>rfl
 | i::l=>by rw [List.map_cons,a8r rfl,b2q l];rfl
theorem b2r:∀ l:List Item,V2 (l.map W6) = []
 | []=>rfl
 | i::l=>by rw [List.map_cons,a8s rfl,b2r l]
theorem b1b:∀ {R:List Rec},(∀ r∈R,r.Kind=2∨r.Kind=4)→(R.filter fun r=>decide (r.Kind=4)).length+(R.filter fun r=>decide (r.Kind=2)).length=R.length
 | [],_=>rfl
 | r::R,h=>by
  have ih:=b1b fun q hq=>h q (List.mem_cons_of_mem _ hq)
  rcases h r List.mem_cons_self with h2|h4
  ·rw [List.filter_cons,List.filter_cons,if_neg (by simp [h2]),if_pos (by simpa using h2),List.length_cons,List.length_cons];omega
  ·rw [List.filter_cons,List.filter_cons,if_pos (by simpa using h4),if_neg (by simp [h4]),List.length_cons,List.length_cons];omega
theorem S7.snap {a:F1}{n k:Nat}{x:X8}{R:List Rec}(h:S7 a n k x R):d3n x R:=by
 have hr:∀ r∈R,(r.Kind=2∨r.Kind=4)∧K6 r=0:=fun r hr=>⟨(h.a0c r hr).1,(h.a0c r hr).2.1⟩
 have e4:x.E4.map W6=R.filter fun r=>decide (r.Kind=4):=by rw [←h.ri];exact c3Z hr
 have e2:x.C0.map W7=R.filter fun r=>decide (r.Kind=2):=by rw [←h.rm];exact c30 hr
 refine⟨fun r hr2 => ?_,?_,?_,?_,?_⟩
 ·rcases List.mem_append.1 hr2 with q|q
  ·rw [e4] at q;exact h.a0c r (List.mem_filter.1 q).1
  ·rw [e2] at q;exact h.a0c r (List.mem_filter.1 q).1
 ·unfold U6;rw [a5E,b2o,b2p,List.append_nil]
 ·unfold U6;rw [a5F,b2r,b2q,List.nil_append]
 ·unfold U6;rw [List.map_append,a83,List.length_append,e4,e2]
  exact a6k fun r hr=>(h.a0c r hr).1
 ·unfold U6;rw [List.length_append,e4,e2]
  exact b1b fun r hr=>(h.a0c r hr).1
theorem b7O {a:F1}{n k:Nat}{x:X8}{R:List Rec}(h:S7 a n k x R)(hd:a1J k x.Device R) :
    ∃ E,U7 x=({ x with Device:=E },0)∧a1J (k+1) E (U6 x)∧E.G8=x.Device.G8:=by
  have hs:=h.snap
  have hl:=b1a hd
  have hw:=hd.wr
  have hcp:=hd.cap
  have hL:(L6 ((U6 x).map M9)).length=(F4 x.Device).length:=by rw [hs.len,hd.U1]
  have ha1:1 - x.Device.B3=0∨1 - x.Device.B3=1:=by have:=hd.act;omega
  have e:=a88 (d:=x.Device) fun r hr=>⟨(hs.a0c r hr).1,(hs.a0c r hr).2.1⟩
  rw [a4v (by rw [hd.off];decide) (by rw [hL];omega) (by rw [hd.cut];omega)] at e
  have hA:F4 { x.Device with C7:=x.Device.C7+1,F3:=Q8 x.Device.F3 (1 - x.Device.B3).toNat ((x.Device.F3.l.getD (1 - x.Device.B3).toNat default).take (0:Int).toNat++L6 ((U6 x).map M9)),B3:=1 - x.Device.B3 }=L6 ((U6 x).map M9):=by
    show(Q8 x.Device.F3 (1 - x.Device.B3).toNat _).l.getD (1 - x.Device.B3).toNat default=_
    rw [b3F _ _ _ ha1];rfl
  refine⟨_,?_,⟨hA,ha1,hd.off,hd.cut,⟨by show 0≤x.Device.C7+1;omega,by show x.Device.C7+1≤((k+1:Nat):Int);omega⟩,?_,?_,hd.c3Y⟩,rfl⟩
  · unfold U7
    rw [if_neg (by rw [h.up];decide),e,if_neg (show ¬(0:Int)=27 by decide),if_pos rfl]
  · refine a7G hd.dev ?_ _
    show([]++L6 ((U6 x).map M9)).length≤_
    rw [List.nil_append,hL];omega
  · rw [hA,hL];exact hcp
theorem b3G {a:F1}{n k:Nat}{x:X8}{R:List Rec}(h:S7 a n k x R){D:l9}{S:List Rec}(hd:a1J k D S)(hL:(L6 ((U6 x).map M9)).length=(F4 D).length)(t:Nat) :
    ∃ E,U7 { x with Device:=a4O D t }=(a0z x E,27)∧F4 E=F4 D∧V5 E∧E.B3=D.B3 ∧ -1000000000≤E.C7∧E.C7≤(k+1:Nat):=by
  have hs:=h.snap
  have hl:=b1a hd
  have hw:=hd.wr
  have hcp:=hd.cap
  have e:=a88 (d:=a4O D t) fun r hr=>⟨(hs.a0c r hr).1,(hs.a0c r hr).2.1⟩
  rw [a5s (by show ¬D.Off=true;rw [hd.off];decide) (by show ¬D.G8 < 0+_;rw [hL];omega) rfl] at e
  refine⟨(T8 (a4O D t) (U6 x)).1,?_,?_,?_,by rw [e];rfl,by rw [e];show -1000000000≤D.C7+1;omega,by rw [e];show D.C7+1≤((k+1:Nat):Int);omega⟩
  · unfold U7
    rw [if_neg (by show ¬x.Up=false;rw [h.up];decide)]
    show(if (T8 (a4O D t) (U6 x)).2=27 then (a0z x (T8 (a4O D t) (U6 x)).1,(27:Int)) else _)=_
    rw [show(T8 (a4O D t) (U6 x)).2=27 by rw [e],if_pos rfl]
  · rw [e]
    show(Q8 D.F3 (1 - D.B3).toNat _).l.getD D.B3.toNat default=_
    exact c1c D _ _ hd.act
  · rw [e]
    refine a7G (D:=D) hd.dev ?_ _
    show([]++(L6 ((U6 x).map M9)).take _).length≤_
    rw [List.nil_append,List.length_take];omega
def a1K (s:Int×X9)(a:F1)(x:X8):F1×X8×Int :=
 if s.1=0 then a1M a x else if s.1=1 then a52 a x (a3z s.2).1 else ((P8 a x (Z4 s.2 3 true).1).1,(P8 a x (Z4 s.2 3 true).1).2.1,(P8 a x (Z4 s.2 3 true).1).2.2.2)
def a7H (s:Int×X9):X9:=if s.1=0 then s.2 else if s.1=1 then (a3z s.2).2 else (Z4 s.2 3 true).2
def a7I (a:F1)(x:X8)(d:X9):F1×X8×Int:=a1K (u6 d 3) a x
theorem b5Q {d:X9}(h:I8 d):I8 (a7H (u6 d 3)):=by
 have h1:=B9 (n:=3) h
 unfold a7H;split
 ·exact h1
 split
 ·exact a7B h1
 ·exact(a6J _ _ _ (B9 h1)).1
structure b5R (x:X8):Prop where
 find:(I4 x.Ring x.Ring.H7).2=true
 one:1≤x.Ring.H7
theorem S7.done {a:F1}{n k:Nat}{x:X8}{R:List Rec}(h:S7 a n k x R)(hn:n < 30000)(hk:k≤500)(hr:b5R x){d:X9}(hd:I8 d):∃ b r ch,b3E a n k x R (fun z=>a7I a z d) b r ch:=by
 show ∃ b r ch,b3E a n k x R (fun z=>a1K (u6 d 3) a z) b r ch
 have hs:=B9 (n:=3) hd
 generalize u6 d 3=s at *
 by_cases h0:s.1=0
 ·obtain⟨b,r,ch,hp,_⟩:=h.rotate hn hk
  refine⟨b,r,ch,?_⟩
  rw [show(fun z=>a1K s a z)=a1M a from funext fun z=>by unfold a1K;rw [if_pos h0]]
  exact hp
 by_cases h1:s.1=1
 ·obtain⟨b,r,ch,hp⟩:=h.c8C hn hk (a3z s.2).1
  refine⟨b,r,ch,?_⟩
  rw [show(fun z=>a1K s a z)=(fun z=>a52 a z (a3z s.2).1) from funext fun z=>by unfold a1K;rw [if_neg h0,if_pos h1]]
  exact hp
 ·have hl:=F8 (d:=s.2) (n:=3+1) (by decide)
  have hk2:=a6J (u6 s.2 (3+1)).1.toNat (u6 s.2 (3+1)).2 true (B9 hs)
  obtain⟨b,r,ch,hp⟩:=h.c8D hn hk hr.find hr.one (l:=(Z4 s.2 3 true).1) (a9a _ _ _) (by show(a0p _ _ _).1.length≤64;rw [hk2.2];omega)
  refine⟨b,r,ch,?_⟩
  rw [show(fun z=>a1K s a z)=(fun z=>((P8 a z (Z4 s.2 3 true).1).1,(P8 a z (Z4 s.2 3 true).1).2.1,(P8 a z (Z4 s.2 3 true).1).2.2.2)) from funext fun z=>by unfold a1K;rw [if_neg h0,if_neg h1]]
  exact hp
structure c6j (a:F1)(x:X8):Prop where
 g:IsG x
 alg:G2 a 60000
 last : -1000000≤x.Ring.H7
 a0f:x.C0.length≤999999
structure St (a:F1)(n k:Nat)(x:X8)(R:List Rec):Prop where
 c:S7 a n k x R
 d:a1J k x.Device R
 r:b5R x
theorem b5R.step {x y:X8}(h:b5R x)(h1:x.Ring.H7≤y.Ring.H7)(h2:(I4 x.Ring x.Ring.H7).2=true→(I4 y.Ring y.Ring.H7).2=true):b5R y:=⟨h2 h.find,Int.le_trans h.one h1⟩
theorem b7P {r:Rec}(hk:r.Kind=2∨r.Kind=4)(hc:K6 r=0):(jFr (M9 r)).length≤4102:=by
 have:=(a7A hk hc).1.2
 rw [a9F];omega
theorem St.le {a:F1}{n k:Nat}{x:X8}{R:List Rec}(h:St a n k x R){m j:Nat}(hm:n≤m)(hj:k≤j):St a m j x R:=⟨h.c.le (h.c.alg.le hm) (V3.refl a) hj,h.d.le hj,h.r⟩
theorem St.done {a:F1}{n k:Nat}{x:X8}{R:List Rec}(h:St a n k x R)(hn:n < 30000)(hk:k≤500){d:X9}(hd:I8 d) :
    (∃ b y r,a7I a x d=(b,y,0)∧St b (n+130) (k+1) y (R ++ [r])∧y.Device.G8=x.Device.G8∧(F4 y.Device).length≤(F4 x.Device).length+4102)∨((a7I a x d).2.2=26∧x.Device.G8 < ((F4 x.Device).length:Int)+4102):=by
  obtain⟨b,r,ch,hp⟩:=h.c.done hn hk h.r hd
  have hf:=b7P hp.rk hp.rc
  by_cases hr:((F4 x.Device).length:Int)+(jFr (M9 r)).length≤x.Device.G8
  · obtain⟨y,h1,h2,h3,h4,h5,_,h7,h8,_⟩:=hp.ok h.d hr
    exact .inl ⟨b,y,r,h1,⟨h2,h3,h.r.step h7 h8⟩,h4,by rw [h5,List.length_append];omega⟩
  · exact .inr ⟨hp.full h.d (by omega),by omega⟩
theorem c6k {x:X8}{D:l9}(ha:D.B3=0∨D.B3=1)(hd:V5 D)(hw : -1000000000≤D.C7∧D.C7≤1000000000):IsG (a0z x D):=by
 refine⟨⟨?_,?_,fun m hm => ?_,?_,fun i hi => ?_,hd⟩,ha,hw⟩
 ·exact Nat.zero_le _
 ·exact Nat.zero_le _
 ·cases hm
 ·exact Nat.zero_le _
 ·cases hi
structure d3o (a:F1)(x:X8)(t:Nat)(y:X8)(E:l9):Prop where
 ok:U7 x=(y,0)
 items:y.E4=x.E4
 a0f:y.C0=x.C0
 len:(F4 y.Device).length=(F4 x.Device).length
 d1k:y.Device.B3=0∨y.Device.B3=1
 ywr : -1000000000≤y.Device.C7∧y.Device.C7≤1000000000
 ib:IsB { y with Device:=a4O y.Device t }
 cut:U7 { y with Device:=a4O y.Device t }=(a0z x E,27)
 g:IsG (a0z x E)
 rs:V9 a (a0z x E)=({ x with Device:=F5 E },0)
 jl:(a1f (F4 (F5 E))).1.length≤100000
 jr:∀ r∈(a1f (F4 (F5 E))).1,r.length≤1000000∧((O6 ⟨r,0⟩).1=2∨(O6 ⟨r,0⟩).1=4)
 jk:∀ r∈(a0e (F5 E)).1,r.Item.Kind≠2∧r.Item.O8.length≤1000000
 dev:V5 (F5 E)
theorem St.cmp {a:F1}{n k:Nat}{x:X8}{R:List Rec}(h:St a n k x R)(hk:k≤400)(t:Nat):∃ y E,d3o a x t y E:=by
 obtain⟨D,h1,h2,h3⟩:=b7O h.c h.d
 have hs:=h.c.snap
 have hl:(L6 ((U6 x).map M9)).length=(F4 x.Device).length:=by rw [hs.len,h.d.U1]
 have hl2:(F4 D).length=(F4 x.Device).length:=by rw [h2.U1,hl]
 have hx:∀ D,U6 ({ x with Device:=D }:X8)=U6 x:=fun _=>rfl
 obtain⟨E,q1,q2,q3,q4,q5,q6⟩:=b3G ((h.c.le h.c.alg (V3.refl a) (Nat.le_succ k)).dev D) h2 (by rw [hx,hl,hl2]) t
 have hE:E.B3=0∨E.B3=1:=by rw [q4];exact h2.act
 have hn:=hs.num
 have hw:=h.c.len
 have q:=b7N h.c (by omega) (V3.refl a) (S:=U6 x) hs.a0c (by omega) hs.items hs.a0f b5J (D:=E) (by rw [q2,List.append_nil,h2.U1]) hE q3
 have hwr:=h2.wr
 have hb:=(h.c.dev D).ib (by omega) h2.dev
 exact⟨_,E,h1,rfl,rfl,hl2,h2.act,⟨by show -1000000000≤D.C7;omega,by show D.C7≤1000000000;omega⟩,⟨hb.live,hb.a0f,hb.c0I,hb.items,hb.boxes,hb.dev⟩,q1,c6k hE q3 ⟨q5,by omega⟩,q.eq,q.jl,q.jr,q.jk,q.dev⟩
def D0 (c:Int):l9 := { (default:l9) with G8:=c }
theorem b5S (key:Tag){c:Int}(h0:0≤c)(h1:c≤1048576):a1r key c=(a1l key (D0 c),0):=by
 have e:a2t c=(D0 c,0):=by unfold a2t;rw [if_neg (by omega)];rfl
 unfold a1r;rw [e,if_neg e00];rfl
theorem b3H {a:F1}{n:Nat}(hA:G2 a n)(key:Tag)(D:l9):S7 a n 0 (a1l key D) [] :=
 ⟨hA,rfl,show a16 default=true by decide,Nat.le_refl _,⟨Int.le_refl _,Int.le_refl _⟩,Nat.le_refl _,Nat.le_refl _,(fun r hr=>(by cases hr)),Nat.le_refl _,rfl,rfl,fun _=>rfl⟩
theorem b3I {c:Int}(h0:0≤c)(h1:c≤1048576):a1J 0 (D0 c) [] :=
 ⟨rfl,.inl rfl,rfl,rfl,⟨Int.le_refl _,Int.le_refl _⟩,fun a ha=>by
  have:a = []:=by
   have ha:a ∈ [([]:List UInt8),[]]:=ha
   simpa using ha
  rw [this];exact Nat.zero_le _,h0,h1⟩
theorem c32 {a:F1}{n:Nat}(hA:G2 a n)(hn:n < 30000)(key:Tag){c:Int}(h0:0≤c)(h1:c≤1048576) :
    (∃ b y r,a1M a (a1l key (D0 c))=(b,y,0)∧St b (n+130) 1 y [r]∧y.E4.length=1∧y.C0 = []∧y.Ring.H7=1∧y.Device.G8=c∧(F4 y.Device).length≤4102)∨((a1M a (a1l key (D0 c))).2.2=26∧c < 4102):=by
  have hg:=b3H hA key (D0 c)
  have hd:a1J 0 (a1l key (D0 c)).Device []:=b3I h0 h1
  have hl:(F4 (D0 c)).length=0:=rfl
  obtain⟨b,r,ch,hp,hx⟩:=hg.rotate hn (by omega)
  have hf:=b7P hp.rk hp.rc
  by_cases hr:((F4 (a1l key (D0 c)).Device).length:Int)+(jFr (M9 r)).length≤(a1l key (D0 c)).Device.G8
  · obtain⟨y,q1,q2,q3,q4,q5,_,q7,q8,D,q9⟩:=hp.ok hd hr
    obtain⟨w1,w2,w3,w4,w5⟩:=hx D
    rw [←q9] at w1 w2 w3 w4 w5
    refine .inl ⟨b,y,r,q1,⟨q2,q3,⟨w1,w2⟩⟩,w3,w4,w5,q4,?_⟩
    rw [q5,List.length_append]
    show(F4 (D0 c)).length+_≤_
    omega
  · refine .inr ⟨hp.full hd (by omega),?_⟩
    have hr:¬((F4 (D0 c)).length:Int)+(jFr (M9 r)).length≤c:=hr
    omega
theorem c33 {a:F1}(hA:G2 a 0)(key:Tag):∃ (b:F1) (y:X8) (p:B5) (z:F1×X8),a1M a (a1l key (D0 10000))=(b,y,0)∧c6j b y∧P8 b y []=(z.1,z.2,p,0)∧z.2.E4.length=1∧z.2.C0.length=1∧p.O0=1∧p.M6=1:=by
 obtain⟨b,y,r,h1,h2,h3,h4,h5,h6,h7⟩:=(c32 hA (by decide) key (c:=10000) (by decide) (by decide)).resolve_right fun h=>absurd h.2 (by decide)
 have hf:=h2.r.find
 have hr:=a7E hf
 have hm:y.C0.length=0:=by rw [h4];rfl
 obtain⟨c,p,hP,hAc,hle,hc,hs,he⟩:=b5P h2.c.alg (root:=(I4 y.Ring y.Ring.H7).1) (s:=y.C0.length+1) (by rw [hr];omega) (by omega) (l := []) (fun q hq=>by cases hq) (by decide) (by omega)
 have hck:K6 (W7 (a5C y p))=0:=a86 ⟨by show 1≤(y.C0.length:Int)+1;omega,by show(y.C0.length:Int)+1≤_;omega⟩ ⟨by show 1≤(I4 y.Ring y.Ring.H7).1.Number;rw [hr];omega,by show(I4 y.Ring y.Ring.H7).1.Number≤1000;rw [hr];omega⟩ (by show p.y5.length≤64;rw [hc];decide) fun q hq2=>by
  have hq2:q∈p.y5:=hq2
  rw [hc] at hq2;cases hq2
 have hfl:=b7P (r:=W7 (a5C y p)) (.inl rfl) hck
 obtain⟨E,k1,k2,k3,k4⟩:=h2.d.save (.inl rfl) hck (by omega)
 have hM:a1I b y (c,p,0)=(c,{ y with Device:=E,C0:=y.C0 ++ [a5C y p] },0):=by
  unfold a1I a0A;rw [k1,if_pos rfl]
 have hF:P8 b y []=(c,{ y with Device:=E,C0:=y.C0 ++ [a5C y p] },p,0):=by
  unfold P8
  rw [if_neg (by rw [h2.c.up];decide),if_neg (by rw [hf];decide),if_neg (by decide),if_neg (by omega),show a7y b y []=(c,p,0) from hP]
  unfold a81
  rw [if_neg e00,hM,if_neg e00]
 refine⟨b,y,p,(c,{ y with Device:=E,C0:=y.C0 ++ [a5C y p] }),h1,⟨b3D h2.c h2.d (by decide),h2.c.alg.le (by decide),by omega,by omega⟩,hF,h3,?_,?_,?_⟩
 ·show(y.C0 ++ [a5C y p]).length=1
  rw [List.length_append,hm];rfl
 ·rw [hs,hm];rfl
 ·rw [he,hr,h5]
end Go.Proofs.YtfdifhfnpbphaaaGreatDoor
namespace Go.Ab
open Go.Fl
class CaP (G:Gl)(P:Program)(f:FuncId)(ag:List AV)(D:outParam (List Prop))(R:outParam (Value→AV))(B':outParam (Value→C3)):Prop where h:Z8 D→C6 G P f ag [] (fun x Hs=>∃ u,x=R u∧Hs = [B' u])
instance {G:Gl}{P:Program}{f:FuncId}{ag:List AV}{D:List Prop}{R:Value→AV}{B':Value→C3}[k:CaP G P f ag D R B']:CaX G P f ag Value D (fun _=>True) R (fun u => [B' u]):=⟨fun hD=>(k.h hD).mono fun x Hs h=>by
 obtain⟨u,h1,h2⟩:=h
 exact⟨u,trivial,h1,h2⟩⟩
section
variable {P:Program}{C:Ctx}{N:Nat}
theorem wpA.lpO {G:Gl}{Q:Exit→o8→j8→Prop}{c:Code}{σ:o8}{H:j8}{α:Type}{R:o8}{Hf:α→j8}{S:α→o8}{EX:α→List Bool}{AX:α→(Exit→o8→j8→Prop)→Prop}{E:List Bool}{p q r:List Prop}{A:Prop}(hG:GC G C)(V:α→o8)(U:α→List (Value×C3))(F:α→Prop)(μ:α→Nat)(x0:α)
    [fi:FiQ (V x0) σ σ R][up:∀ x,UpQ H (U x) (Hf x)][v:EqQ (V x0) σ p][u:HeQ H (Hf x0) q][cj:Cj p q r][ap:∀ x,ApE (V x) R (S x)][k:∀ x (Q':Exit→o8→j8→Prop),Rw 1 G P C N 1000 (.a c (a1m (a69 R V Hf F μ x) Q')) (S x) (Hf x) (EX x) (AX x Q')][cE:CoQ EX E][a:PrQ r (F x0∧∀ x,F x→AX x Q) A](e:a0K E=true)(h:A):wpA P C N (.loop c) Q σ H:=by
  obtain⟨h1,h2,h3⟩:=a.h h
  obtain⟨h4,h5⟩:=cj.of h1
  exact .c2x V Hf F μ x0 h2 (v.h h4 fi.h) (u.h h5) fun x hF=>(ap x).h▸(k x Q).h hG (cast (congrArg (fun z=>a0K z=true) (cE.h x)).symm e) (h3 x hF)
end
end Go.Ab
namespace Go.Proofs.YtfdifhfnpbphaaaGreatDoor
open Go.Proofs.Tryz
open Go.Fl Go.Ab Go.Mac Go.Sha
theorem a8t (a:F1)(x:X8)(h:IsG x)(hA:G2 a 60000)(hr : -1000000≤x.Ring.H7):C4 gl prog 10 [.v a,.v x] (fun r=>r = .t3 (.v (a1M a x).1) (.v (a1M a x).2.1) (.v (a1M a x).2.2)):=c3H a x 60000 h hA (Nat.le_refl _) hr
theorem c1d (a:F1)(x:X8)(t:Tag)(h:IsG x)(hA:G2 a 60000):C4 gl prog 46 [.v a,.v x,.v t] (fun r=>r = .t3 (.v (a52 a x t).1) (.v (a52 a x t).2.1) (.v (a52 a x t).2.2)):=c3I a x t 60000 h hA (Nat.le_refl _)
theorem b5T (a:F1)(x:X8)(l:List Pred)(h:IsG x)(hA:G2 a 60000)(hm:x.C0.length≤999999):C4 gl prog 31 [.v a,.v x,.v l] (fun r=>r = .t4 (.v (P8 a x l).1) (.v (P8 a x l).2.1) (.v (P8 a x l).2.2.1) (.v (P8 a x l).2.2.2)):=c8t a x l 60000 h hA (Nat.le_refl _) hm
instance (w:Value)(d:X9)(n:Int):CaM gl prog 38 [dk w,.v n] (.ob w d) [I8 d,0 < n,n≤4611686018427387904] (.v (u6 d n).1) (.ob w (u6 d n).2):=⟨fun hh=>b5O w d n hh.1 hh.2.1 hh.2.2.1⟩
instance (w:Value)(d:X9):CaM gl prog 39 [dk w] (.ob w d) [I8 d] (.v (a3z d).1) (.ob w (a3z d).2):=⟨fun hh=>c6h w d hh.1⟩
instance (w:Value)(d:X9)(n:Int)(rides:Bool):CaM gl prog 30 [dk w,.v n,.v rides] (.ob w d) [I8 d,0≤n,n≤1000000] (.v (Z4 d n rides).1) (.ob w (Z4 d n rides).2):=⟨fun hh=>c09 w d n rides hh.1 hh.2.1 hh.2.2.1⟩
instance (a:F1)(x:X8):P9 gl prog 10 [.v a,.v x] [IsG x,G2 a 60000,-1000000≤x.Ring.H7] (.t3 (.v (a1M a x).1) (.v (a1M a x).2.1) (.v (a1M a x).2.2)):=⟨fun hh=>a8t a x hh.1 hh.2.1 hh.2.2.1⟩
instance (a:F1)(x:X8)(t:Tag):P9 gl prog 46 [.v a,.v x,.v t] [IsG x,G2 a 60000] (.t3 (.v (a52 a x t).1) (.v (a52 a x t).2.1) (.v (a52 a x t).2.2)):=⟨fun hh=>c1d a x t hh.1 hh.2.1⟩
instance (a:F1)(x:X8)(l:List Pred):P9 gl prog 31 [.v a,.v x,.v l] [IsG x,G2 a 60000,x.C0.length≤999999] (.t4 (.v (P8 a x l).1) (.v (P8 a x l).2.1) (.v (P8 a x l).2.2.1) (.v (P8 a x l).2.2.2)):=⟨fun hh=>b5T a x l hh.1 hh.2.1 hh.2.2.1⟩
theorem c8E (a:F1)(x:X8)(w:Value)(d:X9)(h:c6j a x)(hd:I8 d):C6 gl prog 11 [.v a,.v x,dk w] [.ob w d] (fun r Hs=>r = .t3 (.v (a7I a x d).1) (.v (a7I a x d).2.1) (.v (a7I a x d).2.2)∧Hs = [.ob w (a7H (u6 d 3))]):=by
 have hok:=B9 (n:=3) hd
 have h1:=h.g
 have h2:=h.alg
 have h4:=h.last
 have h5:=h.a0f
 show C6 _ _ _ _ _ (fun r Hs=>r = .t3 (.v (a1K (u6 d 3) a x).1) (.v (a1K (u6 d 3) a x).2.1) (.v (a1K (u6 d 3) a x).2.2)∧_)
 refine .go func11 rfl 46 [.cell 6 46,.cell 7 39,.tmp 8] rfl (by kernel_rfl) fun C hG=>(.z hG (by kernel_rfl) fun b b1 b2 b3=>⟨hd,by decide,by decide,fun q=>⟨h1,h2,h4,P6.of [w] ⟨?_,?_⟩⟩,fun q=>⟨fun q1=>⟨hok,h1,h2,P6.of [w] ⟨?_,?_⟩⟩,fun q1=>⟨hok,by decide,by decide,h1,h2,h5,by repeat' first|exact trivial|refine⟨fun _ _=>by kernel_rfl,?_⟩,fun nm=>P6.of [w] ⟨?_,?_⟩⟩⟩⟩)
 ·unfold a1K;rw [if_pos q]
 ·unfold a7H;rw [if_pos q]
 ·unfold a1K;rw [if_neg q,if_pos q1]
 ·unfold a7H;rw [if_neg q,if_pos q1]
 ·unfold a1K;rw [if_neg q,if_neg q1]
 ·unfold a7H;rw [if_neg q,if_neg q1]
instance (free:Bool)(seed:Tag):P9 gl prog 37 [.v free,.v seed] [] (.v (⟨free,seed,0,[],[]⟩:B8)):=⟨fun hh=>c7X free seed⟩
instance (key:Tag)(n:Int):P9 gl prog 22 [.v key,.v n] [] (.t2 (.v (a1r key n).1) (.v (a1r key n).2)):=⟨fun hh=>c5T key n⟩
instance (key:Tag)(n:Int):P9 gl prog 9 [.v key,.v n] [] (.t2 (.v (a1r key n).1) (.v (a1r key n).2)):=⟨fun hh=>b9c key n⟩
theorem c6l (w:Value)(d:X9)(hd:I8 d):C6 gl prog 8 [dk w] [.ob w d] (fun r Hs=>∃ x:Value×F1×X8×X9,(∃ free seed key n,x.2.1=⟨free,seed,0,[],[]⟩∧x.2.2.1=(a1r key n).1∧0≤n∧n≤5000∧I8 x.2.2.2)∧r = .ln x.1 (j9.id (α:=y7))∧Hs = [.ob w x.2.2.2] ++ [.ob x.1 (⟨x.2.1,x.2.1,x.2.2.1,x.2.2.1⟩:y7)]):=by
 refine .go func8 j0 41 [.tmp 2] j0 (by kernel_rfl) fun C hG => ?_
 have o1:=B9 (n:=2) hd
 have o2:=a7B o1
 have o3:=B9 (n:=3) o2
 have o4:=B9 (n:=600) o3
 have l4:=F8 (d:=(u6 (a3z (u6 d 2).2).2 3).2) (n:=600) (by decide)
 refine .z hG (by kernel_rfl) ⟨hd,by decide,by decide,o1,fun b=>⟨o2,by decide,by decide,?_⟩⟩
 generalize (a3z (u6 d 2).2).1=sd
 generalize decide ((u6 d 2).1=0)=fr
 generalize u6 (a3z (u6 d 2).2).2 3=s at o3 o4 l4 ⊢
 refine⟨fun q => .z hG (by kernel_rfl) ?_,fun q => .z hG (by kernel_rfl) ?_⟩
 ·generalize u6 s.2 600=u at o4 l4 ⊢
  have o5:=a7B o4
  generalize a3z u.2=v at o5 ⊢
  refine⟨o3,by decide,by decide,o4,fun b1 b2 b3 b4=>P6.of [w,ptr b4 0] ⟨(ptr b4 0,⟨fr,sd,0,[],[]⟩,(a1r v.1 u.1).1,v.2),⟨_,_,_,_,rfl,rfl,l4.1,by omega,o5⟩,rfl,rfl⟩⟩
 ·have o5:=a7B o3
  generalize a3z s.2=v at o5 ⊢
  refine⟨o3,fun b1 b2 b3 b4=>P6.of [w,ptr b4 0] ⟨(ptr b4 0,⟨fr,sd,0,[],[]⟩,(a1r v.1 5000).1,v.2),⟨_,_,_,_,rfl,rfl,by decide,by decide,o5⟩,rfl,rfl⟩⟩
theorem c1e (a:F1)(x:X8)(h:IsG x)(hA:G2 a 60000)(hm:x.C0.length≤999999):C4 gl prog 31 [.v a,.v x,.raw (.slice none 0 0)] (fun r=>r = .t4 (.v (P8 a x []).1) (.v (P8 a x []).2.1) (.v (P8 a x []).2.2.1) (.v (P8 a x []).2.2.2)):=fun I vs hG hvs=>b5T a x [] h hA hm I vs hG (by
 obtain⟨v1,r1,h0,h1,v2,r2,h2,h3,v3,r3,h4,h5,h6⟩:=hvs
 exact⟨v1,r1,h0,h1,v2,r2,h2,h3,v3,r3,h4,⟨_,⟨_,j0,[],Sl.nil I _,j0⟩,h5⟩,h6⟩)
instance (key:Tag)(n:Int):P9 gl prog 9 [.v key,.v n] [] (.t2 (.v (a1r key n).1) (.v (a1r key n).2)):=⟨fun hh=>b9c key n⟩
instance (a:F1)(x:X8):P9 gl prog 10 [.v a,.v x] [IsG x,G2 a 60000,-1000000≤x.Ring.H7] (.t3 (.v (a1M a x).1) (.v (a1M a x).2.1) (.v (a1M a x).2.2)):=⟨fun hh=>a8t a x hh.1 hh.2.1 hh.2.2.1⟩
instance (a:F1)(x:X8):P9 gl prog 31 [.v a,.v x,.raw (.slice none 0 0)] [IsG x,G2 a 60000,x.C0.length≤999999] (.t4 (.v (P8 a x []).1) (.v (P8 a x []).2.1) (.v (P8 a x []).2.2.1) (.v (P8 a x []).2.2.2)):=⟨fun hh=>c1e a x hh.1 hh.2.1 hh.2.2.1⟩
theorem c6m:C4 gl prog 20 [] (fun r=>r = .v true):=by
 refine .go func20 j0 60 [.tmp 0] j0 (by kernel_rfl) fun C hG => ?_
 have hA:G2 (⟨true,(default:F1).a2L,(default:F1).K9,(default:F1).G4,(default:F1).B7⟩:F1) 0:=G2.new true _ 0
 obtain⟨b,y,p,z,h1,h2,h3,h4,h5,h6,h7⟩:=c33 hA (Q8 default 0 1)
 have h8:=b3D (b3H hA (Q8 default 0 1) (D0 10000)) (b3I (by decide) (by decide)) (by decide)
 refine .z hG (by kernel_rfl) ?_
 simp only [b5S (Q8 default 0 1) (c:=10000) (by decide) (by decide)]
 refine fun _=>⟨h8,hA.le (by decide),by decide,?_⟩
 simp only [h1]
 refine fun _=>⟨h2.g,h2.alg,h2.a0f,?_⟩
 simp only [h3,h4,h5,h6,h7]
 exact fun _ _=>rfl
structure d1l (a:F1)(x:X8):Prop where
 g:IsG x
 alg:G2 a 60000
 jl:(a1f (F4 (F5 x.Device))).1.length≤100000
 jr:∀ r∈(a1f (F4 (F5 x.Device))).1,r.length≤1000000∧((O6 ⟨r,0⟩).1=2∨(O6 ⟨r,0⟩).1=4)
 jk:∀ r∈(a0e (F5 x.Device)).1,r.Item.Kind≠2∧r.Item.O8.length≤1000000
 dev:V5 (F5 x.Device)
theorem b7Q (a:F1)(x:X8)(h:d1l a x):C4 gl prog 14 [.v a,.v x] (fun r=>r = .t2 (.v (V9 a x).1) (.v (V9 a x).2)):=c0Q a x 60000 h.g h.alg h.jl h.jr h.jk h.dev
instance c8V (l:List Int):CaP gl prog 7 [.v l] [] (fun u=>dk u) (fun u => .ob u (⟨l,0⟩:y8)):=⟨fun _=>(b9Q l).mono fun r Hs h=>by
 obtain⟨b,h1,h2⟩:=h
 exact⟨_,h1,h2⟩⟩
instance d1O (w:Value) (d:X9):CaG gl prog 8 [dk w] [.ob w d] (Value×F1×X8×X9) [I8 d] (fun x=>∃ free seed key n,x.2.1=⟨free,seed,0,[],[]⟩∧x.2.2.1=(a1r key n).1∧0≤n∧n≤5000∧I8 x.2.2.2) (fun x => .ln x.1 (j9.id (α:=y7))) (fun x => [.ob w x.2.2.2]) (fun x => [.ob x.1 (⟨x.2.1,x.2.1,x.2.2.1,x.2.2.1⟩:y7)]):=⟨fun h=>c6l w d h.1⟩
structure CmB (x:X8):Prop where
 b:IsB x
 le:x.E4.length+x.C0.length≤10000
 act:x.Device.B3=0∨x.Device.B3=1
 wr : -1000000000≤x.Device.C7∧x.Device.C7≤1000000000
theorem a7J (x:X8)(h:CmB x):C4 gl prog 21 [.v x] (fun r=>r = .t2 (.v (U7 x).1) (.v (U7 x).2)):=b5v x h.b h.le h.act h.wr
instance (a:F1)(x:X8):P9 gl prog 10 [.v a,.v x] [IsG x,G2 a 60000,-1000000≤x.Ring.H7] (.t3 (.v (a1M a x).1) (.v (a1M a x).2.1) (.v (a1M a x).2.2)):=⟨fun hh=>a8t a x hh.1 hh.2.1 hh.2.2.1⟩
instance (a:F1)(x:X8)(w:Value)(d:X9):CaM gl prog 11 [.v a,.v x,dk w] (.ob w d) [c6j a x,I8 d] (.t3 (.v (a7I a x d).1) (.v (a7I a x d).2.1) (.v (a7I a x d).2.2)) (.ob w (a7H (u6 d 3))):=⟨fun hh=>c8E a x w d hh.1 hh.2.1⟩
instance (d:l9)(n:Int):P9 gl prog 12 [.v d,.v n] [-9000000000≤d.C7∧d.C7≤9000000000] (.v (a4O d n)):=⟨fun hh=>c5R d n hh.1⟩
instance (d:l9):P9 gl prog 15 [.v d] [d.B3=0∨d.B3=1] (.v (F4 d)):=⟨fun hh=>c3q d hh.1⟩
instance (a:List o7)(b:List o7):P9 gl prog 16 [.v a,.v b] [a.length≤1000000] (.v (decide (a=b))):=⟨fun hh=>b1s a b hh.1⟩
instance (a:List u9)(b:List u9):P9 gl prog 17 [.v a,.v b] [a.length≤1000000,∀ m∈a,m.y5.length≤1000000] (.v (decide (a=b))):=⟨fun hh=>b1t a b hh.1 hh.2.1⟩
instance (a:D6)(b:D6):P9 gl prog 18 [.v a,.v b] [a.Live.length≤1000000] (.v (decide (a=b))):=⟨fun hh=>b3t a b hh.1⟩
instance  : P9 gl prog 20 [] [] (.v true):=⟨fun hh=>c6m ⟩
set_option maxHeartbeats 4000000 in
theorem b7R (deck:List Int)(c0E:UInt8):C4 gl prog 4 [.v deck,.v c0E] (fun r=>r = .v true):=by
 refine .go func4 j0 129 [.tmp 4] j0 (by kernel_rfl) fun C hG=>(.z hG (by kernel_rfl) fun u _=>⟨Int.le_refl _,fun ⟨v,a,x0,d⟩ ⟨free,seed,key,n,ha,hx,hn0,hn1,hd⟩ => ?_⟩)
 dsimp only at ha hx hd ⊢
 have hA:G2 a 0:=by rw [ha];exact G2.new _ _ 0
 have hx:x0=a1l key (D0 n):=by rw [hx,b5S key hn0 (by omega)]
 have hgc:=b3H hA key (D0 n)
 have h8:=b3D hgc (b3I hn0 (by omega)) (by decide)
 rw [←hx] at h8
 refine⟨h8,hA.le (by decide),by rw [hx];exact(show(-1000000:Int)≤0 by decide),by repeat' first|exact trivial|refine⟨fun _ _=>by kernel_rfl,?_⟩,fun nm=>⟨fun h => ?_,fun h => ?_⟩⟩
 ·rfl
 obtain⟨b0,y0,r0,e0,st0,-,-,-,hcap,har⟩:=(c32 hA (by decide) key hn0 (by omega)).resolve_right fun q=>h (by rw [hx,q.1];decide)
 rw [←hx] at e0
 rw [e0]
 generalize (nm (0+1+1+1+1+1+1+1+1+1+1+1+1+1+1)).2=p8
 generalize (nm (0+1+1+1+1+1+1+1+1+1+1+1+1+1)).2=p7
 refine .lpO hG (fun q:Nat×F1×X8×X9 => [(10,.v (q.1:Int))]) (fun q => [(ptr p7 0,.ob (ptr p7 0) q.2.1),(ptr p8 0,.ob (ptr p8 0) q.2.2.1),(u,.ob u q.2.2.2)]) (fun q=>q.1≤6∧(∃ R,St q.2.1 (130*(q.1+1)) (q.1+1) q.2.2.1 R)∧I8 q.2.2.2) (fun q=>6 - q.1) (0,b0,y0,d) (by kernel_rfl) ⟨j0,⟨Nat.zero_le _,⟨_,st0⟩,hd⟩,fun ⟨k,b,x,d⟩ ⟨h1,⟨R,h2⟩,h3⟩ => ?_⟩
 dsimp only at h1 h2 h3 ⊢
 have hB:c6j b x:=⟨b3D h2.c h2.d (by omega),h2.c.alg.le (by omega),by have:=h2.c.last;omega,by have:=h2.c.a0f;omega⟩
 refine⟨fun hk=>⟨hB,h3,fun b1 b2=>⟨fun hd => ?_,fun hd => ?_⟩⟩,fun hk => ?_⟩
 ·obtain⟨c,y,r,q1,q2,q3,q4⟩:=(h2.done (by omega) (by omega) h3).resolve_right fun h=>by have:=h.1;omega
  rw [q1]
  exact .z hG (by kernel_rfl) ⟨by omega,by omega,(k+1,c,y,a7H (u6 d 3)),rfl,rfl,rfl,rfl,⟨by show k+1≤6;omega,⟨_,q2.le (by omega) (by omega)⟩,b5Q h3⟩,by show 6 - (k+1) < 6 - k;omega⟩
 ·exact .z hG (by kernel_rfl) ⟨by omega,by omega,(k+1,b,x,a7H (u6 d 3)),rfl,rfl,rfl,rfl,⟨by show k+1≤6;omega,⟨R,h2.le (by omega) (by omega)⟩,b5Q h3⟩,by show 6 - (k+1) < 6 - k;omega⟩
 have hk6:k=6:=by omega
 subst hk6
 clear hk h1 hx ha hA hgc h8 e0 st0 hcap har
 obtain⟨y,E,o⟩:=h2.cmp (by decide) c0E.toNat
 have hxg:=h2.d.act
 have hcx:CmB x:=⟨hB.g.b,by have:=h2.c.items;have:=h2.c.a0f;omega,hB.g.act,hB.g.wr⟩
 have hcy:CmB { y with Device:=a4O y.Device (c0E.toNat:Int) }:=⟨o.ib,by show y.E4.length+y.C0.length≤_;rw [o.items,o.a0f];exact hcx.le,o.d1k,o.ywr⟩
 have j1:P9 gl prog 21 [.v { y with Device:=a4O y.Device (c0E.toNat:Int) }] [] (.t2 (.v (a0z x E)) (.v (27:Int))):=⟨fun _=>C4.mono (a7J _ hcy) fun r hr=>by rw [o.cut] at hr;exact hr⟩
 have j2:P9 gl prog 21 [.v x] [] (.t2 (.v y) (.v (0:Int))):=⟨fun _=>C4.mono (a7J _ hcx) fun r hr=>by rw [o.ok] at hr;exact hr⟩
 have h9:d1l b (a0z x E):=⟨o.g,hB.alg,o.jl,o.jr,o.jk,o.dev⟩
 have j3:P9 gl prog 14 [.v b,.v (a0z x E)] [] (.t2 (.v { x with Device:=F5 E }) (.v (0:Int))):=⟨fun _=>C4.mono (b7Q b (a0z x E) h9) fun r hr=>by rw [o.rs] at hr;exact hr⟩
 show wpA _ _ _ _ _ _ _
 have hwb:=hB.g.b
 have hyw:=o.ywr
 refine .z hG (by kernel_rfl) fun _=>⟨fun _=>o.d1k,fun _=>hxg,fun h => ?_,fun _ _=>⟨by omega,fun _=>⟨fun _=>hwb.items,fun _=>hwb.a0f,fun _ m hm=>(hwb.c0I m hm).1,fun _=>hwb.live,fun _=>by rw [o.items];exact hwb.items,?_⟩⟩⟩
 ·rcases h with h|h
  ·exact absurd rfl h
  ·have:=o.len;omega
 ·simp only [o.items,decide_true,Bool.and_true]
end Go.Proofs.YtfdifhfnpbphaaaGreatDoor
namespace Go.Fl
open Go.ChangeShapes Go.WideShapes Go.ChangeAt Go.RowKit
def b1c (W:World):Im:=fun b=>W.heap[b]?
theorem c34 (W:World):Mem (b1c W) [] W:=⟨fun b o h=>h,by simp,by simp,by simp⟩
theorem Fun.calls {P : Program}{f : FuncId}{args : Array Value}{W : World}{r : Value}(h : Fun P f args (b1c W) (fun v _ => v = r)) :
    Calls P f args W (fun e W'=>e = .returned r∧Below W.heap.size W W') :=
  (h.run W (c34 W)).mono fun e w' ⟨v,J,he,hc,_,_,_,hv⟩=>⟨by rw [he,hv],⟨hc.os,hc.tape,hc.output,hc.size,fun k hk=>hc.block k hk (by simp)⟩⟩
theorem a2d {W:World}{x:Addr}{v:Value}(h:W.cell? x=some v):x.spot=none∧∃ cs e fr,W.heap[x.block]?=some (.cells cs e fr)∧cs[x.off]?=some v:=by
 unfold World.cell? at h
 split at h
 ·rename_i c e fr heq
  split at h
  ·cases h
  ·rename_i hs
   exact⟨by simpa using hs,c,e,fr,heq,h⟩
 ·cases h
theorem b7S {P:Program}{W:World}{n:String}{d:DataW Unit}{l:List UInt32}{g:Nat}{T E:TypeId}(hg:P.globalNamed n=some g)(ht:(P.globals[g]?).map (·.type)=some T)(hT:P.underlying T=some (.array l.length E))
    (hE:P.underlying E=some (.int .u32))(hone:P.cellsOf E=1)(hl:0 < l.length)(hd:d = .agg (l.map fun k => .lit (.int .u32 (k.toNat:Int))))(h:laidMet P [(n,d)] W):Cells (b1c W) g 0 (l.map u32):=by
  obtain⟨ps,⟨g2,t,cs,fuel,p,q,hg2,ht2,hvar,htr,_,_⟩,_⟩:=h
  obtain rfl:=Option.some.inj (hg.symm.trans hg2)
  obtain rfl:=Option.some.inj (ht.symm.trans ht2)
  obtain⟨xs,m,_,hx,hlen,hxl,hel⟩:=DataW.trod_array hT htr
  have hxd:xs.map (·.1)=l.map fun k=>DataW.lit (.int .u32 (k.toNat:Int)):=by
    have:=(Prod.mk.inj hx).1
    rw [hd] at this
    injection this with h2
    exact h2.symm
  have hcell:∀ (i:Nat) (v:Value),(l.map u32)[i]?=some v→cs[i]?=some v:=by
    intro i v hv
    have hi:i < l.length:=by simpa using (List.getElem?_eq_some_iff.1 hv).1
    have h1:=hel i hi
    rw [hone] at h1
    have hxi:xs[i]?=some (xs[i]'(by omega)):=List.getElem?_eq_getElem (by omega)
    rw [hxi] at h1
    obtain⟨k,hk1,hk2,_⟩:=DataW.trod_int hE h1
    have hfst:(xs.map (·.1))[i]?=some (DataW.lit (.int .u32 k)):=by rw [List.getElem?_map,hxi,Option.map_some,hk2]
    rw [hxd,List.getElem?_map,List.getElem?_eq_getElem hi] at hfst
    simp at hfst
    have hci:cs.toList[i]?=some (.int .u32 k):=by
      have:((cs.toList.drop (i*1)).take 1)[0]?=some (.int .u32 k):=by rw [hk1];rfl
      simpa [List.getElem?_take,List.getElem?_drop] using this
    rw [List.getElem?_map,List.getElem?_eq_getElem hi,Option.map_some] at hv
    have hv:=Option.some.inj hv
    rw [←hv,u32,hfst]
    simpa using hci
  have h0:∃ v,(l.map u32)[0]?=some v:=⟨_,List.getElem?_eq_getElem (by simpa using hl)⟩
  obtain⟨v0,hv0⟩:=h0
  have hc0:=World.var?_cell hg hvar 0
  rw [hcell 0 v0 hv0] at hc0
  obtain⟨_,cs2,e,fr,hob,_⟩:=a2d hc0
  refine⟨cs2,e,fr,hob,fun i v hv => ?_⟩
  have h3:=World.var?_cell hg hvar i
  rw [hcell i v hv] at h3
  obtain⟨_,cs3,e3,fr3,hob3,hv3⟩:=a2d h3
  have:Obj.cells cs2 e fr=Obj.cells cs3 e3 fr3:=Option.some.inj (hob.symm.trans hob3)
  cases this
  simpa using hv3
end Go.Fl
namespace Go.Ab
open Go.Fl Go.RowKit Go.ChangeShapes Go.WideShapes Go.ChangeAt
open u3 (rep)
def a4R (P:Program)(T:TypeId)(α:Type)[u3 α]:Prop:=P.cellsOf T=u3.size α ∧
 ∀ (H:Type) (enc:TypeId×Value→H) (W:World) (base:Nat) (spare:Nat→Bool) (held:Bool) (fuel:Nat) (cs:List Value) (x:DataW H×List MemPlace),DataW.trod enc P W base spare held fuel T cs=some x→∃ a:α,rep (b1c W) a cs
variable {P:Program}{T E:TypeId}
theorem a4R.i64 (hT:P.underlying T=some (.int .i64))(hc:P.cellsOf T=1):a4R P T Int:=⟨hc,fun H enc W base spare held fuel cs x h=>by
 obtain⟨n,rfl,_,hw⟩:=DataW.trod_int hT h
 simp [Lit.wf,IntKind.min,IntKind.max,IntKind.signed,IntKind.bits] at hw
 exact⟨n,rfl,by omega,by omega⟩⟩
theorem a4R.u8 (hT:P.underlying T=some (.int .u8))(hc:P.cellsOf T=1):a4R P T UInt8:=⟨hc,fun H enc W base spare held fuel cs x h=>by
 obtain⟨n,rfl,_,hw⟩:=DataW.trod_int hT h
 simp [Lit.wf,IntKind.min,IntKind.max,IntKind.signed,IntKind.bits] at hw
 refine⟨UInt8.ofNat n.toNat,?_⟩
 show [Value.int .u8 n] = [Fl.u8 _]
 unfold Fl.u8
 congr 2;simp;omega⟩
theorem add_add (a:Addr)(i j:Nat):(a.add i).add j=a.add (i+j):=by
 unfold Addr.add
 rcases a with ⟨b,o,_|s⟩<;>by_cases hi:i=0<;>by_cases hj:j=0<;>simp [hi,hj,Nat.add_assoc]
theorem a4R.slice {α:Type}{r:u3 α}(hT:P.underlying T=some (.slice E))(hc:P.cellsOf T=1)(hE:a4R P E α)(hp:0 < u3.size α):a4R P T (List α):=⟨hc,fun H enc W base spare held fuel cs x h=>by
 rcases DataW.trod_slice hT h with ⟨rfl,_⟩|⟨a,len,cap,elems,rest,n,_,rfl,_,hb,hl,hm,hel,hget,_⟩
 ·exact⟨[],_,j0,[],Sl.nil _ _,j0⟩
 ·have key:∀ k,k≤len→∃ (l:List α) (xs:List Value),l.length=k∧P2 (b1c W) l xs∧∀ i v,xs[i]?=some v→W.cell? (a.add i)=some v:=by
   intro k
   induction k with
   | zero=>exact fun _=>⟨[],[],rfl,rfl,fun i v hv=>by simp at hv⟩
   | succ k ih =>
    intro hk
    obtain⟨l,xs,h1,h2,h3⟩:=ih (by omega)
    have hg:=hget k (by omega)
    rw [List.getElem?_eq_getElem (by omega)] at hg
    obtain⟨c,hc1,hc2⟩:=Option.bind_eq_some_iff.1 hg
    obtain⟨_,hcl,hcell⟩:=World.cells?_some hc1
    obtain⟨y,hy⟩:=hE.2 H enc W base spare held n c _ hc2
    refine⟨l ++ [y],xs++c,by simp [h1],h2.append (.one hy),fun i v hv => ?_⟩
    have hxl:xs.length=k*u3.size α:=by rw [h2.len,h1]
    by_cases hi:i < xs.length
    ·rw [List.getElem?_append_left hi] at hv;exact h3 i v hv
    ·rw [List.getElem?_append_right (by omega)] at hv
     have hj:=(List.getElem?_eq_some_iff.1 hv).1
     have:=hcell (i - xs.length) (by omega)
     rw [hv,hE.1,add_add,←hxl,show xs.length+(i - xs.length)=i by omega] at this
     exact this
  obtain⟨l,xs,h1,h2,h3⟩:=key len (Nat.le_refl _)
  have hxl:=h2.len
  refine⟨l,_,rfl,xs,⟨_,_,by rw [h1],h2.len,by omega,hm,(fun h=>by cases h),fun hne => ?_⟩,h2⟩
  rcases a with ⟨ab,ao,ags⟩
  obtain⟨v0,hv0⟩:∃ v,xs[0]?=some v:=⟨_,List.getElem?_eq_getElem (List.length_pos_iff.2 hne)⟩
  have hc0:=h3 0 v0 hv0
  obtain⟨hsp,cs,e,fr,hob,_⟩:=a2d hc0
  have hsp2:ags=none:=by
   cases ags with
   | none=>rfl
   | some q =>
    unfold Addr.add at hsp
    simp at hsp
  subst hsp2
  rw [Addr.add_plain] at hob
  have hob:W.heap[ab]?=some (Obj.cells cs e fr):=hob
  refine⟨ab,ao,j0,cs,e,fr,hob,fun i v hv => ?_⟩
  have hcv:=h3 i v hv
  rw [Addr.add_plain] at hcv
  obtain⟨_,cs2,e2,fr2,hob2,hv2⟩:=a2d hcv
  have:Obj.cells cs e fr=Obj.cells cs2 e2 fr2:=Option.some.inj (hob.symm.trans hob2)
  cases this
  exact hv2⟩
theorem a4R.val {α:Type}{r:u3 α}(h:a4R P T α){H:Type}{enc:TypeId×Value→H}{W:World}{base:Nat}{spare:Nat→Bool}{held:Bool}{v:Value}{d:DataW H}{p:List MemPlace}(ht:DataW.Trod enc P W base spare held T v d p)
    (hv:∀ cs:List Value,v.cells.toList=cs→v=asV (u3.agg α) cs):∃ a:α,F9 (b1c W) (.v a) v:=by
  obtain⟨fuel,hf⟩:=ht
  obtain⟨a,ha⟩:=h.2 H enc W base spare held fuel _ _ hf
  exact⟨a,_,ha,hv _ j0⟩
theorem C4.calls {G : Gl}{f : FuncId}{ags : List AV}{vs : List Value}{W : World}(h : C4 G P f ags (fun r => r = .v true))(hG : G.p (b1c W))(hv : T5 (b1c W) ags vs) :
    Calls P f vs.toArray W (fun e W'=>e = .returned (.bool true)∧Below W.heap.size W W') :=
  Fun.calls ((h (b1c W) vs hG hv).mono fun v J _ ⟨r,h1,h2⟩=>by
    subst h2
    obtain⟨cs,rfl,rfl⟩:=h1
    rfl)
theorem b5U {v:Value}(h:v.cells = #[v]):∀ cs:List Value,v.cells.toList=cs→v=asV false cs:=fun cs hc=>by
 rw [h] at hc;subst hc;rfl
end Go.Ab
namespace Go.Fl
open Go.RowKit
theorem c1f {P:Program}{W:World}{n:String}{d:DataW Unit}{l:List Int}{g:Nat}{T E:TypeId}(hg:P.globalNamed n=some g)(ht:(P.globals[g]?).map (·.type)=some T)(hT:P.underlying T=some (.array l.length E))
    (hE:P.underlying E=some (.int .i64))(hone:P.cellsOf E=1)(hl:0 < l.length)(hd:d = .agg (l.map fun k => .lit (.int .i64 k)))(h:laidMet P [(n,d)] W):Cells (b1c W) g 0 (l.map i64):=by
  obtain⟨ps,⟨g2,t,cs,fuel,p,q,hg2,ht2,hvar,htr,_,_⟩,_⟩:=h
  obtain rfl:=Option.some.inj (hg.symm.trans hg2)
  obtain rfl:=Option.some.inj (ht.symm.trans ht2)
  obtain⟨xs,m,_,hx,hlen,hxl,hel⟩:=DataW.trod_array hT htr
  have hxd:xs.map (·.1)=l.map fun k=>DataW.lit (.int .i64 k):=by
    have:=(Prod.mk.inj hx).1
    rw [hd] at this
    injection this with h2
    exact h2.symm
  have hcell:∀ (i:Nat) (v:Value),(l.map i64)[i]?=some v→cs[i]?=some v:=by
    intro i v hv
    have hi:i < l.length:=by simpa using (List.getElem?_eq_some_iff.1 hv).1
    have h1:=hel i hi
    rw [hone] at h1
    have hxi:xs[i]?=some (xs[i]'(by omega)):=List.getElem?_eq_getElem (by omega)
    rw [hxi] at h1
    obtain⟨k,hk1,hk2,_⟩:=DataW.trod_int hE h1
    have hfst:(xs.map (·.1))[i]?=some (DataW.lit (.int .i64 k)):=by rw [List.getElem?_map,hxi,Option.map_some,hk2]
    rw [hxd,List.getElem?_map,List.getElem?_eq_getElem hi] at hfst
    simp at hfst
    have hci:cs.toList[i]?=some (.int .i64 k):=by
      have:((cs.toList.drop (i*1)).take 1)[0]?=some (.int .i64 k):=by rw [hk1];rfl
      simpa [List.getElem?_take,List.getElem?_drop] using this
    rw [List.getElem?_map,List.getElem?_eq_getElem hi,Option.map_some] at hv
    have hv:=Option.some.inj hv
    rw [←hv,i64,hfst]
    simpa using hci
  have h0:∃ v,(l.map i64)[0]?=some v:=⟨_,List.getElem?_eq_getElem (by simpa using hl)⟩
  obtain⟨v0,hv0⟩:=h0
  have hc0:=World.var?_cell hg hvar 0
  rw [hcell 0 v0 hv0] at hc0
  obtain⟨_,cs2,e,fr,hob,_⟩:=a2d hc0
  refine⟨cs2,e,fr,hob,fun i v hv => ?_⟩
  have h3:=World.var?_cell hg hvar i
  rw [hcell i v hv] at h3
  obtain⟨_,cs3,e3,fr3,hob3,hv3⟩:=a2d h3
  have:Obj.cells cs2 e fr=Obj.cells cs3 e3 fr3:=Option.some.inj (hob.symm.trans hob3)
  cases this
  simpa using hv3
end Go.Fl
namespace Go.Proofs.YtfdifhfnpbphaaaGreatDoor
open Go.Proofs.Tryz
open Go.Fl Go.Ab Go.Mac Go.Sha
open Go.ChangeShapes Go.WideShapes Go.ChangeAt Go.RowKit
theorem d3q:ownKnob prog.godebug=none:=by kernel_rfl
theorem b5V:laidOutB prog=true:=by kernel_rfl
noncomputable def c35 (os:Os):World :=
  let w0:=World.holding prog os ⟨#[],#[],[]⟩
  { w0 with heap := (w0.heap.modify 1 fun
      | .cells _ t frozen => .cells (kk.map Fl.u32).toArray t frozen
      | o=>o).modify 2 fun
      | .cells _ t frozen => .cells (a7f.l.map i64).toArray t frozen
      | o=>o }
def b9k:List (String×DataW Unit) := [("macaroon/sha.k", Rows.laid_macaroon_sha_k),("macaroon/predicate.bits", Rows.laid_macaroon_predicate_bits)]
set_option maxRecDepth 100000 in
theorem d1m (os:Os)(args:Array Value):laidMet prog b9k ((c35 os).forCall (fun _ _=>0) ⟨#[],args,[]⟩).memory :=
 laidMet_of_run' 8 (by kernel_rfl) (by kernel_rfl)
set_option maxRecDepth 100000 in
theorem d1n:b9k.filter (fun x=>x.1 == "macaroon/sha.k") = [("macaroon/sha.k", Rows.laid_macaroon_sha_k)]:=by kernel_rfl
set_option maxRecDepth 100000 in
theorem d1o:b9k.filter (fun x=>x.1 == "macaroon/predicate.bits") = [("macaroon/predicate.bits", Rows.laid_macaroon_predicate_bits)]:=by kernel_rfl
set_option maxRecDepth 100000 in
theorem c6n {W:World}(h:laidMet prog b9k W):gl.p (b1c W):=by
 have h1:=h.filter fun x=>x.1 == "macaroon/sha.k"
 have h2:=h.filter fun x=>x.1 == "macaroon/predicate.bits"
 rw [d1n] at h1
 rw [d1o] at h2
 exact⟨b7S (l:=kk) (T:=309) (E:=257) (by kernel_rfl) (by kernel_rfl) underlying309 underlying257 (by kernel_rfl) (by decide) j0 h1,
  c1f (l:=a7f.l) (T:=323) (E:=3) (by kernel_rfl) (by kernel_rfl) underlying323 underlying3 (by kernel_rfl) (by decide) rfl h2⟩
theorem op3:a4R prog 3 Int := .i64 underlying3 (by kernel_rfl)
theorem d3r:a4R prog 22 (List Int) := .slice underlying22 (by kernel_rfl) op3 (by decide)
theorem op5:a4R prog 5 UInt8 := .u8 underlying5 (by kernel_rfl)
end Go.Proofs.YtfdifhfnpbphaaaGreatDoor
