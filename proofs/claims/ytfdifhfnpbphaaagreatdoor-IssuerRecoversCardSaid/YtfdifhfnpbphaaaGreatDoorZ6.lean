/- Plain Lean over any program, and walks of this seat's functions: contracts, each proved once (part 6). -/
import Derived.Test.YtfdifhfnpbphaaaGreatDoorZ5
import Derived.ProofKit
import Derived.OpenShut
import Derived.ShutString
import Derived.ChangeOld
import Derived.Below
import Derived.LaidLaws
import Derived.Handed
import Derived.DataReads
import Derived.LaidSub
import Derived.Test.YtfdifhfnpbphaaaGreatDoorRows
import Derived.Test.YtfdifhfnpbphaaaGreatDoorTie
import Derived.Test.YtfdifhfnpbphaaaGreatDoorCards
import Derived.SevenTiedAt
set_option maxRecDepth 1000000
set_option synthInstance.maxSize 1000000
set_option synthInstance.maxHeartbeats 10000000
set_option linter.unusedVariables false
set_option linter.unusedSimpArgs false
namespace Go.Proofs.YtfdifhfnpbphaaaGreatDoor
open Go.Proofs.Tryz
open Go.Fl Go.Ab Go.Mac Go.Sha
theorem G4.b3d {a:E7}{n:Nat}(h:G4 a n):∀ x∈a.B5,x.Plain.length≤1000000:=fun x hx=>by
 obtain⟨i,hi,rfl⟩:=List.getElem_of_mem hx
 have:=(h.box i hi).1
 omega
theorem b3e (k:Tag)(n:UInt64)(p:List UInt8):a1t k n (a1t k n p p.length) (a1t k n p p.length).length=p:=by
 rw [a8w,a8w]
 apply List.ext_getElem (by simp)
 intro i h1 h2
 simp [UInt8.xor_assoc]
theorem b5e (k:Tag)(n:Int)(p:List UInt8):(Z1 k n p).length=p.length+8:=by simp [Z1,K8,a23];omega
theorem b1R (k:Tag)(n:Int)(p:List UInt8):(M3 k n p).take ((M3 k n p).length - 32)=Z1 k n p:=by
 rw [a0o]
 unfold M3
 rw [List.take_left' (by rw [b5e];omega)]
theorem c0i (k:Tag)(n:Int)(p:List UInt8):(M3 k n p).drop ((M3 k n p).length - 32)=(a3c k.l (a5j.l++Z1 k n p)).l:=by
 rw [a0o]
 unfold M3
 rw [List.drop_left' (by rw [b5e];omega)]
theorem c0j (k:Tag)(n:Int)(p:List UInt8):a5r k (M3 k n p)=p:=by
 unfold a5r
 rw [b1R]
 have h1:(Z1 k n p).take 8=V6 (UInt64.ofInt n) 8:=by unfold Z1;rw [List.take_left' (K8 _ _)]
 have h2:(Z1 k n p).drop 8=a1t k (UInt64.ofInt n) p p.length:=by unfold Z1;rw [List.drop_left' (K8 _ _)]
 rw [h1,h2,a8B,b3e]
theorem b5f {a:E7}{k:Tag}{m:List UInt8}(h:(P0 a k m).2.2=0):(P0 a k m).1.P6=a.P6∧(P0 a k m).1.B5=a.B5:=by
 unfold P0 at *
 split
 ·next h1=>rw [if_pos h1] at h;cases h
 ·next h1 =>
  rw [if_neg h1] at h
  cases hf:a2F a k m with
  | some x=>exact⟨rfl,rfl⟩
  | none =>
   rw [hf] at h
   simp only at h ⊢
   split
   ·next h2=>rw [if_pos h2] at h;cases h
   ·exact⟨j0,j0⟩
theorem b3f {a b:E7}{k:Tag}{x y:Item}(h:K9 a k x=(b,y,0)):y.Kind=x.Kind∧y.Number=x.Number∧y.O6=x.O6∧b.P6=a.P6∧b.B5=a.B5:=by
 unfold K9 at h
 split at h
 ·next h1=>simp only [Prod.mk.injEq] at h;exact absurd h.2.2 h1
 ·split at h
  ·next h2=>simp only [Prod.mk.injEq] at h;exact absurd h.2.2 h2
  ·next h2 =>
   simp only [Prod.mk.injEq] at h
   obtain⟨rfl,rfl,_⟩:=h
   have:=b5f (a:=a) (k:=k) (m:=U6 x) (by omega)
   exact⟨j0,j0,j0,this.1,this.2⟩
open Go.Fl Go.Ab Go.Mac
structure IsG (x:l8):Prop where
 b:IsB x
 act:x.Device.B9=0∨x.Device.B9=1
 wr : -1000000000≤x.Device.D9∧x.Device.D9≤1000000000
def S1 (a0 a1:E7)(x:l8)(i:Item):E7×l8×Int:=a0f a0 a1 x (a0V i) fun y=>(H6 a1 y i).1
theorem b1S (a0 a1:E7)(x:l8)(i:Item)(h:IsG x)(hk:i.Kind≠2)(hpl:∀ y∈a1.B5,y.Plain.length≤1000000)(hb:i.O6.length≤1000000):C3 gl prog 45 [.v a0,.v a1,.v x,.v i] (fun r=>r = .t3 (.v (S1 a0 a1 x i).1) (.v (S1 a0 a1 x i).2.1) (.v (S1 a0 a1 x i).2.2)):=by
 have e1:ExF 91:=⟨trivial⟩
 have i1:∀ (r:Rec) (a0 a1:E7) (x:l8) (i:Item),Q5 gl prog 92 [.v (G1.mk r (a3U.mk' 91 a1 i)),.v a0,.v a1,.v x,.v (FnV.mk (some 93))] [r=a0V i,IsG x,i.Kind≠2,∀ y∈a1.B5,y.Plain.length≤1000000,i.O6.length≤1000000] (.t3 (.v (S1 a0 a1 x i).1) (.v (S1 a0 a1 x i).2.1) (.v (S1 a0 a1 x i).2.2)):=fun r a0 a1 x i=>⟨fun q=>q.1▸c7W a0 a1 x i q.2.1.b q.2.1.act q.2.1.wr q.2.2.1 q.2.2.2.1 q.2.2.2.2.1⟩
 refine .go func45 j0 24 [.cell 8 46,.cell 9 39,.tmp 10] j0 (by kernel_rfl) fun C hG=>(.f hG j0 fun b b1 b2 b3 b4 b5 => .fz hG [5,7] ?_)
 exact .z hG (by kernel_rfl) fun b6=>⟨j0,h,hk,hpl,hb,j0⟩
def a6C (x:l8)(i:Item):Item := { i with Place:=x.G3.length+1 }
def a4J (a:E7)(x:l8)(i:Item):E7×l8×Int :=
 if 4096≤(x.G3.length:Int) then (a,x,2) else
 if (K9 a x.C9 (a6C x i)).2.2≠0 then (a,x,(K9 a x.C9 (a6C x i)).2.2) else S1 a (K9 a x.C9 (a6C x i)).1 x (K9 a x.C9 (a6C x i)).2.1
theorem b1T {a:E7}{k:Tag}{x:Item}(h:(K9 a k x).2.2=0):(K9 a k x).2.1.Kind=x.Kind∧(K9 a k x).2.1.O6=x.O6∧(K9 a k x).1.B5=a.B5:=by
 have e:K9 a k x=((K9 a k x).1,(K9 a k x).2.1,0):=by rw [←h]
 have:=b3f e
 exact⟨this.1,this.2.2.1,this.2.2.2.2⟩
theorem c3l (a:E7)(x:l8)(i:Item)(n:Nat)(h:IsG x)(hA:G4 a n)(hn:n≤60000)(hk:i.Kind≠2)(hb:i.O6.length≤1000000):C3 gl prog 94 [.v a,.v x,.v i] (fun r=>r = .t3 (.v (a4J a x i).1) (.v (a4J a x i).2.1) (.v (a4J a x i).2.2)):=by
 have hl:=h.b.items
 have hm:=hA.a5U
 have i2:∀ (x:l8),Q5 gl prog 42 [.v x] [] (.v (decide (4096≤(x.G3.length:Int)))):=fun x=>⟨fun _=>b4Y x⟩
 have i_sign_c:∀ (a:E7) (k:Tag) (x:Item),Q5 gl prog 149 [.v a,.v k,.v x] [x.O6.length≤1000000,a.F7.length≤1000000] (.t3 (.v (K9 a k x).1) (.v (K9 a k x).2.1) (.v (K9 a k x).2.2)):=fun a k x=>⟨fun hh=>c7S a k x hh.1 hh.2.1⟩
 have i_publish_c:∀ (a0:E7) (a1:E7) (x:l8) (i:Item),Q5 gl prog 45 [.v a0,.v a1,.v x,.v i] [IsG x,i.Kind≠2,∀ y∈a1.B5,y.Plain.length≤1000000,i.O6.length≤1000000] (.t3 (.v (S1 a0 a1 x i).1) (.v (S1 a0 a1 x i).2.1) (.v (S1 a0 a1 x i).2.2)):=fun a0 a1 x i=>⟨fun hh=>b1S a0 a1 x i hh.1 hh.2.1 hh.2.2.1 hh.2.2.2.1⟩
 have i1:∀ (x:l8),Q5 gl prog 41 [.v x] [IsB x] (.v x):=fun x=>⟨fun hh=>a16 x hh.1⟩
 refine .go func94 rfl 44 [.cell 6 46,.cell 7 39,.tmp 8] rfl (by kernel_rfl) fun C hG=>(.z hG (by kernel_rfl) fun _ _ _ _ _=>⟨fun h1=>⟨h.b,?_⟩,fun h1=>⟨by omega,by omega,hb,by omega,fun _=>⟨fun h2=>⟨h.b,?_⟩,fun h2 => ?_⟩⟩⟩)
 ·unfold a4J;rw [if_pos h1]
 ·unfold a4J;rw [if_neg h1];exact((if_pos (c:=(K9 a x.C9 (a6C x i)).2.2≠0) h2)▸rfl)
 ·have h3:(K9 a x.C9 (a6C x i)).2.2=0:=Classical.not_not.1 h2
  obtain⟨q1,q2,q3⟩:=b1T h3
  refine⟨h,?_,?_,?_,?_⟩
  ·show(K9 a x.C9 (a6C x i)).2.1.Kind≠2
   rw [q1];exact hk
  ·show ∀ y∈(K9 a x.C9 (a6C x i)).1.B5,_
   rw [q3];exact hA.b3d
  ·show(K9 a x.C9 (a6C x i)).2.1.O6.length≤_
   rw [q2];exact hb
  ·have e:a4J a x i=S1 a (K9 a x.C9 (a6C x i)).1 x (K9 a x.C9 (a6C x i)).2.1:=by unfold a4J;rw [if_neg h1,if_neg (by rw [h3];decide)]
   rw [e];rfl
theorem G4.c5F {a:E7}{m:Nat}(ha:G4 a m)(hm:m≤64000){k:Tag}{n:Int}{p:List UInt8}(hn0:0≤n)(hn1:n≤281474976710656)(hp:p.length≤256) :
    ∃ b x,Y6 a k n p=(b,x,0)∧G4 b (m+1)∧∃ i,∃ h:i < b.B5.length,b.B5[i]=⟨k,n,p,x⟩:=by
  have hok:=ha.boxed (by omega) (k:=k) hn0 hn1 hp
  have hr:(decide (n < 0)||decide (281474976710656 < n))=false:=by simp;omega
  have hl:=ha.boxes
  cases hf:a.B5.find? (X9 k n p) with
  | some y =>
    have e:=a3D hr (by omega) hf
    rw [e] at hok
    refine⟨a,y.O6,e,hok,?_⟩
    obtain⟨i,hi,rfl⟩:=List.getElem_of_mem (List.mem_of_find?_eq_some hf)
    have hy:=List.find?_some hf
    simp only [X9,Bool.and_eq_true,decide_eq_true_eq] at hy
    refine⟨i,hi,?_⟩
    obtain⟨⟨rfl,rfl⟩,rfl⟩:=hy
    rfl
  | none =>
    have e:=a5k hr (by omega) hf (by omega)
    rw [e] at hok
    exact⟨_,_,e,hok,a.B5.length,by simp,by simp⟩
theorem b7d {a:E7}{n:Nat}(hA:G4 a n)(hn:n≤64000){k:Tag}{place:Int}{e:M5}(h:(K3 a k place e).2.2=0):(K3 a k place e).2.1.Kind=1∧(K3 a k place e).2.1.O6.length≤1000000∧∀ y∈(K3 a k place e).1.B5,y.Plain.length≤1000000:=by
 have hb:a4I place e=false:=by
  cases hb:a4I place e with
  | false=>rfl
  | true=>unfold K3 at h;rw [if_pos hb] at h;cases h
 have hb0:1≤place∧place≤4096:=by unfold a4I at hb;simp at hb;omega
 have hk:e.Key.l.length=32:=e.Key.len
 have hS:=hA.boxed (by omega) (k:=k) (c:=place) (p:=e.Key.l) (by omega) (by omega) (by omega)
 have e1:K3 a k place e=K9 (Y6 a k place e.Key.l).1 k (a1c place e (Y6 a k place e.Key.l).2.1):=by
  unfold K3 at h ⊢
  rw [hb,if_neg (by decide)] at h ⊢
  split
  ·next h2=>rw [if_pos h2] at h;exact absurd h h2
  ·rfl
 rw [e1] at h ⊢
 obtain⟨q1,q2,q3⟩:=b1T h
 refine⟨q1,?_,?_⟩
 ·rw [q2]
  obtain⟨b,x,e2,ok,i,hi,e3⟩:=hA.c5F (by omega) (k:=k) (n:=place) (p:=e.Key.l) (by omega) (by omega) (by omega)
  have:=ok.c6C _ (List.getElem_mem hi)
  rw [e3] at this
  rw [e2];exact this
 ·rw [q3];exact hS.b3d
def a1F (a:E7)(x:l8):E7×l8×Int :=
 if ¬x.Up=true then (a,x,13) else
 if 1000≤x.Ring.H7∨4096≤(x.G3.length:Int) then (a,x,2) else
 if (K2 a).2.2≠0 then (a,x,(K2 a).2.2) else
 if (K3 (K2 a).1 x.C9 (x.G3.length+1) ⟨x.Ring.H7+1,(K2 a).2.1⟩).2.2≠0 then (a,x,(K3 (K2 a).1 x.C9 (x.G3.length+1) ⟨x.Ring.H7+1,(K2 a).2.1⟩).2.2) else
 S1 a (K3 (K2 a).1 x.C9 (x.G3.length+1) ⟨x.Ring.H7+1,(K2 a).2.1⟩).1 x (K3 (K2 a).1 x.C9 (x.G3.length+1) ⟨x.Ring.H7+1,(K2 a).2.1⟩).2.1
theorem c3m (a:E7)(x:l8)(n:Nat)(h:IsG x)(hA:G4 a n)(hn:n≤60000)(hr : -1000000≤x.Ring.H7):C3 gl prog 10 [.v a,.v x] (fun r=>r = .t3 (.v (a1F a x).1) (.v (a1F a x).2.1) (.v (a1F a x).2.2)):=by
 have hl:=h.b.items
 have hm:=hA.a5U
 have i2:∀ (x:l8),Q5 gl prog 42 [.v x] [] (.v (decide (4096≤(x.G3.length:Int)))):=fun x=>⟨fun _=>b4Y x⟩
 have i_algKey_c:∀ (a:E7),Q5 gl prog 43 [.v a] [0≤a.K4] (.t3 (.v (K2 a).1) (.v (K2 a).2.1) (.v (K2 a).2.2)):=fun a=>⟨fun hh=>c2Z a hh.1⟩
 have i_epochItem_c:∀ (a:E7) (k:Tag) (place:Int) (e:M5),Q5 gl prog 44 [.v a,.v k,.v place,.v e] [a.F7.length≤1000000,a.B5.length≤1000000,∀ x∈a.B5,x.O6.length≤1000000] (.t3 (.v (K3 a k place e).1) (.v (K3 a k place e).2.1) (.v (K3 a k place e).2.2)):=fun a k place e=>⟨fun hh=>b5b a k place e hh.1 hh.2.1 hh.2.2.1⟩
 have i_publish_c:∀ (a0:E7) (a1:E7) (x:l8) (i:Item),Q5 gl prog 45 [.v a0,.v a1,.v x,.v i] [IsG x,i.Kind≠2,∀ y∈a1.B5,y.Plain.length≤1000000,i.O6.length≤1000000] (.t3 (.v (S1 a0 a1 x i).1) (.v (S1 a0 a1 x i).2.1) (.v (S1 a0 a1 x i).2.2)):=fun a0 a1 x i=>⟨fun hh=>b1S a0 a1 x i hh.1 hh.2.1 hh.2.2.1 hh.2.2.2.1⟩
 have i1:∀ (x:l8),Q5 gl prog 41 [.v x] [IsB x] (.v x):=fun x=>⟨fun hh=>a16 x hh.1⟩
 have hf:=hA.b0y
 have hk:=hA.key (by omega)
 have hkm:=hk.a5U
 have hkb:=hk.boxes
 refine .go func10 rfl 72 [.cell 4 46,.cell 5 39,.tmp 6] rfl (by kernel_rfl) fun C hG=>(.z hG (by kernel_rfl) fun _ _ _ _=>⟨fun h1=>⟨h.b,?_⟩,fun h1=>⟨fun h2=>⟨h.b,?_⟩,fun h2=>⟨hf,fun _ _=>⟨fun h3=>⟨h.b,?_⟩,fun h3=>⟨by omega,by omega,by omega,by omega,by omega,by omega,hk.c6C,fun _=>⟨fun h4=>⟨h.b,?_⟩,fun h4 => ?_⟩⟩⟩⟩⟩⟩)
 ·unfold a1F;rw [if_pos h1]
 ·unfold a1F;rw [if_neg h1,if_pos h2]
 ·unfold a1F;rw [if_neg h1,if_neg h2,if_pos h3]
 ·unfold a1F;rw [if_neg h1,if_neg h2,if_neg h3];exact((if_pos (c:=(K3 (K2 a).1 x.C9 (x.G3.length+1) ⟨x.Ring.H7+1,(K2 a).2.1⟩).2.2≠0) h4)▸rfl)
 ·have h5:(K3 (K2 a).1 x.C9 (x.G3.length+1) ⟨x.Ring.H7+1,(K2 a).2.1⟩).2.2=0:=Classical.not_not.1 h4
  obtain⟨q1,q2,q3⟩:=b7d hk (by omega) h5
  refine⟨h,?_,q3,q2,?_⟩
  ·rw [show(K3 (K2 a).1 x.C9 (x.G3.length+1) ⟨x.Ring.H7+1,(K2 a).2.1⟩).2.1.Kind=1 from q1];decide
  ·have e:a1F a x=S1 a (K3 (K2 a).1 x.C9 (x.G3.length+1) ⟨x.Ring.H7+1,(K2 a).2.1⟩).1 x (K3 (K2 a).1 x.C9 (x.G3.length+1) ⟨x.Ring.H7+1,(K2 a).2.1⟩).2.1:=by unfold a1F;rw [if_neg h1,if_neg h2,if_neg h3,if_neg (by rw [h5];decide)]
   rw [e]
def a5V (a:E7)(x:l8)(t:Tag):E7×l8×Int:=if ¬x.Up=true then (a,x,13) else a4J a x { (default:Item) with Kind:=3,Node:=t }
theorem c3n (a:E7)(x:l8)(t:Tag)(n:Nat)(h:IsG x)(hA:G4 a n)(hn:n≤60000):C3 gl prog 46 [.v a,.v x,.v t] (fun r=>r = .t3 (.v (a5V a x t).1) (.v (a5V a x t).2.1) (.v (a5V a x t).2.2)):=by
 have i0:∀ (a:E7) (x:l8) (i:Item),Q5 gl prog 94 [.v a,.v x,.v i] [IsG x,G4 a n,i.Kind≠2,i.O6.length≤1000000] (.t3 (.v (a4J a x i).1) (.v (a4J a x i).2.1) (.v (a4J a x i).2.2)):=fun a x i=>⟨fun q=>c3l a x i n q.1 q.2.1 hn q.2.2.1 q.2.2.2.1⟩
 have i1:∀ (x:l8),Q5 gl prog 41 [.v x] [IsB x] (.v x):=fun x=>⟨fun hh=>a16 x hh.1⟩
 refine .go func46 rfl 23 [.cell 6 46,.cell 7 39,.tmp 8] rfl (by kernel_rfl) fun C hG=>(.z hG (by kernel_rfl) fun _ _ _ _ _=>⟨fun h1=>⟨h.b,?_⟩,fun h1=>⟨h,hA,show(3:Int)≠2 by decide,Nat.zero_le _,?_⟩⟩)
 ·unfold a5V;rw [if_pos h1]
 ·unfold a5V;rw [if_neg h1]
theorem e00:¬((0:Int)≠0):=by decide
theorem b1U {n:Nat}(t:List UInt8)(h:n≤281474976710656):O3 ⟨D4 n++t,0⟩=((n:Int),⟨t,0⟩):=by
 unfold O3;rw [if_neg e00,a5K t h]
 simp
theorem a0q {n:Int}(t:List UInt8)(h0:0≤n)(h:n≤281474976710656):O3 ⟨D4 n.toNat++t,0⟩=(n,⟨t,0⟩):=by
 rw [b1U t (by omega)]
 rw [Int.toNat_of_nonneg h0]
theorem c0k (x:Tag)(t:List UInt8):a2y ⟨x.l++t,0⟩=(x,⟨t,0⟩):=by
 have hx:x.l.length=32:=x.h
 unfold a2y
 rw [if_neg e00,if_neg (by show ¬(x.l++t).length < 32;rw [List.length_append];omega)]
 have e:a0y (default:Tag) (x.l++t)=x:=by
  apply M1.ext
  show(x.l++t).take 32++(default:Tag).l.drop (x.l++t).length=x.l
  rw [List.take_append_of_le_length (by omega),List.take_of_length_le (by omega),List.drop_eq_nil_of_le (by rw [List.length_append,M1.len,hx];omega),List.append_nil]
 rw [e]
 exact congrArg (fun q=>(x,E6.mk q 0)) (List.drop_left' hx)
theorem b5g {x:List UInt8}(t:List UInt8)(h:x.length≤1024):Y8 ⟨D4 x.length++x++t,0⟩=(x,⟨t,0⟩):=by
 unfold Y8;rw [if_neg e00,a6z t h]
 show(x,E6.mk ((D4 x.length++x++t).drop (((D4 x.length++x).length:Int)).toNat) 0)=_
 rw [Int.toNat_natCast,List.drop_left]
theorem a8e {b t:List UInt8}{u:Int}{n:Nat}(h:b.drop u.toNat=D4 n++t)(hn:n≤281474976710656):M6 ⟨⟨b,u⟩,0⟩=((n:Int),⟨⟨b,u+((D4 n).length:Int)⟩,0⟩):=by
 unfold M6 a1Y a5t;rw [if_neg e00]
 simp only [h,a5K t hn]
theorem a8K {b t x:List UInt8}{u:Int}(h:b.drop u.toNat=D4 x.length++x++t)(hx:x.length≤1024):R8 ⟨⟨b,u⟩,0⟩=(x,⟨⟨b,u+((D4 x.length++x).length:Int)⟩,0⟩):=by
 unfold R8 a1Y a5t;rw [if_neg e00]
 simp only [h,a6z t hx]
theorem b7e {b t:List UInt8}{u:Int}{p:Pred}(h:b.drop u.toNat=E3 p++t)(hp:I9 p=true):a3I ⟨⟨b,u⟩,0⟩=(p,⟨⟨b,u+((E3 p).length:Int)⟩,0⟩):=by
 unfold a3I a1Y a5t
 simp only [h,c2I t hp]
theorem b7f {c:Cav}(t:List UInt8)(h:S3 c=true):Y0 (E0 c++t)=(c,((E0 c).length:Int),0):=by
 have n1:D4 1 = [1]:=a3o (by decide)
 have n2:D4 2 = [2]:=a3o (by decide)
 cases h3:c.Z9 with
 | false =>
  obtain⟨h4,h5,h6,h7⟩:=a3q h h3
  have eb:E0 c++t=D4 1++(E3 c.V9++t):=by unfold E0;rw [if_neg (by rw [h3];decide),n1];rfl
  have e1:=a8e (b:=E0 c++t) (t:=E3 c.V9++t) (u:=0) (n:=1) eb (by decide)
  have ed:(E0 c++t).drop ((0:Int)+((D4 1).length:Int)).toNat=E3 c.V9++t:=by rw [eb,n1];rfl
  have e2:=b7e (b:=E0 c++t) (t:=t) (u:=0+((D4 1).length:Int)) ed h4
  have e3:W2 (E0 c++t)=({ (default:Cav) with V9:=c.V9 },⟨⟨E0 c++t,0+((D4 1).length:Int)+((E3 c.V9).length:Int)⟩,0⟩):=by
   rw [b1L (by rw [e1];exact e00) (by rw [e1];rfl),e1]
   simp only [e2]
  have ec:({ (default:Cav) with V9:=c.V9 }:Cav)=c:=by
   cases c;simp only at h3 h5 h6 h7 ⊢;subst h3;subst h5;subst h6;subst h7;rfl
  rw [ec] at e3
  unfold Y0 a2L
  rw [e3,if_neg e00,if_pos h]
  refine congrArg (fun q=>(c,q,(0:Int))) ?_
  have:(E0 c).length=1+(E3 c.V9).length:=by unfold E0;rw [if_neg (by rw [h3];decide)];simp;omega
  rw [this,n1];show(0:Int)+((1:Nat):Int)+_=_;omega
 | true =>
  obtain⟨h4,h5,h6,h7,h8,h9,h10⟩:=a3p h h3
  have eb:E0 c++t=D4 2++(D4 c.T8.toNat++(D4 c.L5.length++c.L5++(D4 c.O6.length++c.O6++t))):=by unfold E0 a3H;rw [if_pos h3,n2];simp
  have e1:=a8e (b:=E0 c++t) (u:=0) (n:=2) eb (by decide)
  have d1:(E0 c++t).drop ((0:Int)+((D4 2).length:Int)).toNat=D4 c.T8.toNat++(D4 c.L5.length++c.L5++(D4 c.O6.length++c.O6++t)):=by rw [eb,n2];rfl
  have e2:=a8e (b:=E0 c++t) (u:=0+((D4 2).length:Int)) (n:=c.T8.toNat) d1 (by omega)
  have d2:(E0 c++t).drop ((0:Int)+((D4 2).length:Int)+((D4 c.T8.toNat).length:Int)).toNat=D4 c.L5.length++c.L5++(D4 c.O6.length++c.O6++t):=by
   rw [show((0:Int)+((D4 2).length:Int)+((D4 c.T8.toNat).length:Int)).toNat=((0:Int)+((D4 2).length:Int)).toNat+(D4 c.T8.toNat).length by omega,←List.drop_drop,d1,List.drop_left]
  have e3:=a8K (b:=E0 c++t) (u:=0+((D4 2).length:Int)+((D4 c.T8.toNat).length:Int)) d2 h8
  have d3:(E0 c++t).drop ((0:Int)+((D4 2).length:Int)+((D4 c.T8.toNat).length:Int)+((D4 c.L5.length++c.L5).length:Int)).toNat=D4 c.O6.length++c.O6++t:=by
   rw [show((0:Int)+((D4 2).length:Int)+((D4 c.T8.toNat).length:Int)+((D4 c.L5.length++c.L5).length:Int)).toNat=((0:Int)+((D4 2).length:Int)+((D4 c.T8.toNat).length:Int)).toNat+(D4 c.L5.length++c.L5).length by omega,←List.drop_drop,d2,List.drop_left]
  have e4:=a8K (b:=E0 c++t) (u:=0+((D4 2).length:Int)+((D4 c.T8.toNat).length:Int)+((D4 c.L5.length++c.L5).length:Int)) d3 h10
  have e5:W2 (E0 c++t)=(c,⟨⟨E0 c++t,0+((D4 2).length:Int)+((D4 c.T8.toNat).length:Int)+((D4 c.L5.length++c.L5).length:Int)+((D4 c.O6.length++c.O6).length:Int)⟩,0⟩):=by
   rw [b1M (by rw [e1];exact e00) (by rw [e1];show ¬((2:Nat):Int)=1;decide) (by rw [e1];rfl),e1]
   simp only [e2,e3,e4]
   refine congrArg (fun q:Cav=>(q,_)) ?_
   cases c;simp only at h3 h4 h5 ⊢;subst h3;subst h4
   rw [Int.toNat_of_nonneg h5];rfl
  unfold Y0 a2L
  rw [e5,if_neg e00,if_pos h]
  refine congrArg (fun q=>(c,q,(0:Int))) ?_
  have:(E0 c).length=1+(D4 c.T8.toNat).length+(D4 c.L5.length++c.L5).length+(D4 c.O6.length++c.O6).length:=by unfold E0 a3H;rw [if_pos h3];simp only [List.length_cons,List.length_append];omega
  rw [this,n2];show(0:Int)+((1:Nat):Int)+_+_+_=_;omega
theorem c0l {c:Cav}(t:List UInt8)(h:S3 c=true):a1y ⟨E0 c++t,0⟩=(c,⟨t,0⟩):=by
 unfold a1y;rw [if_neg e00,b7f t h]
 simp
theorem b0D (t:List UInt8):∀ (l:List Cav),(∀ c∈l,S3 c=true)→a1Z l.length ⟨(l.map E0).flatten++t,0⟩=(l,⟨t,0⟩)
 | [],_=>rfl
 | c::l,h=>by
  have e:((c::l).map E0).flatten++t=E0 c++((l.map E0).flatten++t):=by simp
  rw [e,List.length_cons,a1Z,c0l _ (h c List.mem_cons_self),b0D t l fun x hx=>h x (List.mem_cons_of_mem _ hx)]
theorem c0m {l:List Cav}(t:List UInt8)(hl:l.length≤64)(h:∀ c∈l,S3 c=true):a3s ⟨D4 l.length++(l.map E0).flatten++t,0⟩=(l,⟨t,0⟩):=by
 unfold a3s
 have e:R7 ⟨D4 l.length++(l.map E0).flatten++t,0⟩=((l.length:Int),⟨(l.map E0).flatten++t,0⟩):=by
  unfold R7
  rw [List.append_assoc,b1U _ (by omega)]
  simp;omega
 rw [e]
 exact b0D t l h
theorem c7Y {r:Rec}(hk:r.Kind=2)(hf:Fits r)(hx:r = { (default:Rec) with Kind:=2,M0:=r.M0 }):a4Q (M4 r)=(r,⟨[],0⟩):=by
 have hp:C7 r.Kind=Q2:=by unfold C7;rw [if_pos hk]
 have f1:0≤r.M0.M8∧r.M0.M8≤281474976710656:=hf (.num (u4.l4.comp y2.l0) 1 1073741824) (by rw [hp];exact List.mem_cons_self)
 have f2:0≤r.M0.M5∧r.M0.M5≤281474976710656:=hf (.num (u4.l4.comp y2.l1) 1 1000) (by rw [hp];exact List.mem_cons_of_mem _ (List.mem_cons_self))
 have f3:r.M0.y7.length≤64∧∀ c∈r.M0.y7,S3 c=true:=hf (.cav (u4.l4.comp y2.l2)) (by rw [hp];exact List.mem_cons_of_mem _ (List.mem_cons_of_mem _ (List.mem_cons_self)))
 have eb:M4 r=D4 (2:Int).toNat++(D4 r.M0.M8.toNat++(D4 r.M0.M5.toNat++(D4 r.M0.y7.length++(r.M0.y7.map E0).flatten ++ []))):=by
  unfold M4;rw [hp,hk]
  show _++(D4 r.M0.M8.toNat++(D4 r.M0.M5.toNat++((D4 r.M0.y7.length++(r.M0.y7.map E0).flatten) ++ [])))=_
  simp
 have e0:a0L (M4 r)=({ (default:Rec) with Kind:=2 },⟨D4 r.M0.M8.toNat++(D4 r.M0.M5.toNat++(D4 r.M0.y7.length++(r.M0.y7.map E0).flatten ++ [])),0⟩):=by
  unfold a0L;rw [eb,a0q _ (by decide) (by decide)]
 have e1:a4Q (M4 r)=Q2.foldl (fun q p=>p.rd q.1 q.2) (a0L (M4 r)):=by
  unfold a4Q rdK
  rw [show(a0L (M4 r)).1.Kind=2 by rw [e0],List.take_length];rfl
 rw [e1,e0]
 unfold Q2
 simp only [List.foldl_cons,List.foldl_nil,Part.rd,a0q _ f1.1 f1.2,a0q _ f2.1 f2.2,c0m _ f3.1 f3.2]
 rw [hx];rfl
theorem c7Z {r:Rec}(hk:r.Kind=4)(hf:Fits r)(hx:r = { (default:Rec) with Kind:=4,Item:=r.Item }):a4Q (M4 r)=(r,⟨[],0⟩):=by
 have hp:C7 r.Kind=Q3:=by unfold C7;rw [if_neg (by omega)]
 have f1:0≤r.Item.Place∧r.Item.Place≤281474976710656:=hf (.num (u4.l5.comp o8.l0) 1 4096) (by rw [hp];exact List.mem_cons_self)
 have f2:0≤r.Item.Kind∧r.Item.Kind≤281474976710656:=hf (.num (u4.l5.comp o8.l1) 1 3) (by rw [hp];exact List.mem_cons_of_mem _ (List.mem_cons_self))
 have f3:0≤r.Item.Number∧r.Item.Number≤281474976710656:=hf (.num (u4.l5.comp o8.l2) 0 1000) (by rw [hp];exact List.mem_cons_of_mem _ (List.mem_cons_of_mem _ (List.mem_cons_self)))
 have f5:r.Item.O6.length≤1024:=hf (.box (u4.l5.comp o8.l4)) (by rw [hp];exact List.mem_cons_of_mem _ (List.mem_cons_of_mem _ (List.mem_cons_of_mem _ (List.mem_cons_of_mem _ (List.mem_cons_self)))))
 have eb:M4 r=D4 (4:Int).toNat++(D4 r.Item.Place.toNat++(D4 r.Item.Kind.toNat++(D4 r.Item.Number.toNat++(r.Item.Node.l++(D4 r.Item.O6.length++r.Item.O6++(r.Item.Tag.l ++ [])))))):=by
  unfold M4;rw [hp,hk]
  show _++(D4 r.Item.Place.toNat++(D4 r.Item.Kind.toNat++(D4 r.Item.Number.toNat++(r.Item.Node.l++((D4 r.Item.O6.length++r.Item.O6)++(r.Item.Tag.l ++ []))))))=_
  rfl
 have e0:a0L (M4 r)=({ (default:Rec) with Kind:=4 },⟨D4 r.Item.Place.toNat++(D4 r.Item.Kind.toNat++(D4 r.Item.Number.toNat++(r.Item.Node.l++(D4 r.Item.O6.length++r.Item.O6++(r.Item.Tag.l ++ []))))),0⟩):=by
  unfold a0L;rw [eb,a0q _ (by decide) (by decide)]
 have e1:a4Q (M4 r)=Q3.foldl (fun q p=>p.rd q.1 q.2) (a0L (M4 r)):=by
  unfold a4Q rdK
  rw [show(a0L (M4 r)).1.Kind=4 by rw [e0],List.take_length];rfl
 rw [e1,e0]
 unfold Q3
 simp only [List.foldl_cons,List.foldl_nil,Part.rd,a0q _ f1.1 f1.2,a0q _ f2.1 f2.2,a0q _ f3.1 f3.2,c0k,b5g _ f5]
 rw [hx];rfl
theorem b8D {r:Rec}(hk:r.Kind=2)(h:a1x r=false):r = { (default:Rec) with Kind:=2,M0:=r.M0 }:=by
 have hp:C7 r.Kind=Q2:=by unfold C7;rw [if_pos hk]
 unfold a1x at h
 simp only [Bool.not_eq_false',decide_eq_true_eq] at h
 unfold a4u at h
 rw [hp] at h
 obtain⟨k,n,ke,no,m,i,ns⟩:=r
 have h2:=congrArg u4.Number h
 have h3:=congrArg u4.Key h
 have h4:=congrArg u4.Node h
 have h5:=congrArg u4.Item h
 have h6:=congrArg u4.a2v h
 have h2:n=(default:Rec).Number:=h2
 have h3:ke=(default:Rec).Key:=h3
 have h4:no=(default:Rec).Node:=h4
 have h5:i=(default:Rec).Item:=h5
 have h6:ns=(default:Rec).a2v:=h6
 have hk:k=2:=hk
 subst h2;subst h3;subst h4;subst h5;subst h6;subst hk;rfl
theorem b8E {r:Rec}(hk:r.Kind=4)(h:a1x r=false):r = { (default:Rec) with Kind:=4,Item:=r.Item }:=by
 have hp:C7 r.Kind=Q3:=by unfold C7;rw [if_neg (by omega)]
 unfold a1x at h
 simp only [Bool.not_eq_false',decide_eq_true_eq] at h
 unfold a4u at h
 rw [hp] at h
 obtain⟨k,n,ke,no,m,i,ns⟩:=r
 have h2:=congrArg u4.Number h
 have h3:=congrArg u4.Key h
 have h4:=congrArg u4.Node h
 have h5:=congrArg u4.M0 h
 have h6:=congrArg u4.a2v h
 have h2:n=(default:Rec).Number:=h2
 have h3:ke=(default:Rec).Key:=h3
 have h4:no=(default:Rec).Node:=h4
 have h5:m=(default:Rec).M0:=h5
 have h6:ns=(default:Rec).a2v:=h6
 have hk:k=4:=hk
 subst h2;subst h3;subst h4;subst h5;subst h6;subst hk;rfl
theorem c3o {r:Rec}(hk:r.Kind=2∨r.Kind=4)(hf:Fits r)(hx:a1x r=false):a4Q (M4 r)=(r,⟨[],0⟩) :=
 hk.elim (fun h=>c7Y h hf (b8D h hx)) (fun h=>c7Z h hf (b8E h hx))
theorem b5h {r:Rec}(hk:r.Kind=2∨r.Kind=4)(h:L7 r=0):a0E (M4 r)=(r,0):=by
 have hx:a1x r=false:=by
  unfold L7 at h
  split at h
  ·cases h
  ·next h1=>simpa using h1
 have e:=c3o hk (a9o h) hx
 have he:a3J (M4 r)=0:=by
  unfold a3J;rw [e];simp [h]
 unfold a0E;rw [he,e];rfl
def a5v (x:l8)(p:B6):y2:=⟨x.C8.length+1,(I5 x.Ring x.Ring.H7).1.Number,p.y7⟩
def a1z (a:E7)(x:l8)(p:E7×B6×Int):E7×l8×Int:=a0f a p.1 x (a0p (a5v x p.2.1)) fun y => { y with C8:=y.C8 ++ [a5v x p.2.1] }
def a7r (a:E7)(x:l8)(l:List Pred):E7×B6×Int:=W3 (U0 a (I5 x.Ring x.Ring.H7).1 (x.C8.length+1)) l
def a8L (a:E7)(x:l8)(p:E7×B6×Int):E7×l8×B6×Int :=
 if p.2.2≠0 then (a,x,default,p.2.2) else
 if (a1z a x p).2.2≠0 then ((a1z a x p).1,(a1z a x p).2.1,default,(a1z a x p).2.2) else ((a1z a x p).1,(a1z a x p).2.1,p.2.1,0)
def P8 (a:E7)(x:l8)(l:List Pred):E7×l8×B6×Int :=
 if ¬x.Up=true then (a,x,default,13) else
 if ¬(I5 x.Ring x.Ring.H7).2=true then (a,x,default,16) else
 if 64 < (l.length:Int) then (a,x,default,2) else
 if 1073741824 < (x.C8.length:Int)+1 then (a,x,default,1) else a8L a x (a7r a x l)
theorem c71 (a:E7)(x:l8)(l:List Pred)(n:Nat)(h:IsG x)(hA:G4 a n)(hn:n≤60000)(hm:x.C8.length≤999999):C3 gl prog 31 [.v a,.v x,.v l] (fun r=>r = .t4 (.v (P8 a x l).1) (.v (P8 a x l).2.1) (.v (P8 a x l).2.2.1) (.v (P8 a x l).2.2.2)):=by
 have e1:ExF 70:=⟨trivial⟩
 have hM:=hA.a5U
 have i1:∀ (x:l8),Q5 gl prog 41 [.v x] [IsB x] (.v x):=fun x=>⟨fun hh=>a16 x hh.1⟩
 have i2:∀ (r:Rec) (a0 a1:E7) (x:l8) (m:y2),Q5 gl prog 71 [.v (J8.mk r (FnC.mk' 70 m)),.v a0,.v a1,.v x,.v (FnV.mk (some 72))] [r=a0p m,IsG x,x.C8.length≤999999,U3 m.y7] (.t3 (.v (a0f a0 a1 x (a0p m) fun y => { y with C8:=y.C8 ++ [m] }).1) (.v (a0f a0 a1 x (a0p m) fun y => { y with C8:=y.C8 ++ [m] }).2.1) (.v (a0f a0 a1 x (a0p m) fun y => { y with C8:=y.C8 ++ [m] }).2.2)):=fun r a0 a1 x m=>⟨fun q=>q.1▸c7X a0 a1 x m q.2.1.b q.2.1.act q.2.1.wr q.2.2.1 q.2.2.2.1⟩
 have fz:FzR 15 16:=⟨trivial⟩
 have i_ringFind_c:∀ (r:D5) (n:Int),Q5 gl prog 68 [.v r,.v n] [] (.t2 (.v (I5 r n).1) (.v (I5 r n).2)):=fun r n=>⟨fun hh=>b6q r n⟩
 have i_isPass_c:∀ (a:E7) (root:y3) (n:Int) (l:List Pred),Q5 gl prog 69 [.v a,.v root,.v n,.v l] [0≤n,n≤281474976710656,a.F7.length≤700000,l.length≤1000] (.t3 (.v (W3 (U0 a root n) l).1) (.v (W3 (U0 a root n) l).2.1) (.v (W3 (U0 a root n) l).2.2)):=fun a root n l=>⟨fun hh=>c3c a root n l hh.1 hh.2.1 hh.2.2.1 hh.2.2.2.1⟩
 refine .go func31 rfl 106 [.cell 6 46,.cell 7 39,.cell 8 77,.tmp 9] rfl (by kernel_rfl) fun C hG=>(.z hG (by kernel_rfl) fun _ _ _ _ _=>⟨fun h1=>⟨h.b,?_⟩,fun h1 _=>⟨by omega,by omega,fun h2=>⟨h.b,?_⟩,fun h2=>⟨fun h3=>⟨h.b,?_⟩,fun h3=>⟨fun h4=>⟨h.b,?_⟩,fun h4=>⟨by omega,by omega,by omega,by omega,fun _ _=>⟨fun h5=>⟨h.b,?_⟩,fun h5 _ _=>⟨rfl,h,hm,?_,fun _ _=>⟨fun h6 => ?_,fun h6 => ?_⟩⟩⟩⟩⟩⟩⟩⟩)
 ·unfold P8;rw [if_pos h1]
 ·unfold P8;rw [if_neg h1,if_pos h2]
 ·unfold P8;rw [if_neg h1,if_neg h2,if_pos h3]
 ·unfold P8;rw [if_neg h1,if_neg h2,if_neg h3,if_pos h4]
 all_goals have hE:P8 a x l=a8L a x (a7r a x l):=by unfold P8;rw [if_neg h1,if_neg h2,if_neg h3,if_neg h4]
 ·have h5:(a7r a x l).2.2≠0:=h5
  rw [hE];unfold a8L;rw [if_pos h5];rfl
 ·have hB:=a2A.all (a2A.c5A (a:=a) (root:=(I5 x.Ring x.Ring.H7).1) (n:=x.C8.length+1) (M:=a.F7.length+2) (Nat.le_refl _)) l (by omega) l.length (Nat.le_refl _)
  rw [List.take_length] at hB
  exact hB.2.1
 ·have h5:¬(a7r a x l).2.2≠0:=h5
  have h6:(a1z a x (a7r a x l)).2.2≠0:=h6
  rw [hE];unfold a8L;rw [if_neg h5,if_pos h6];rfl
 ·have h5:¬(a7r a x l).2.2≠0:=h5
  have h6:¬(a1z a x (a7r a x l)).2.2≠0:=h6
  rw [hE];unfold a8L;rw [if_neg h5,if_neg h6];rfl
def a32 (a:E7)(x:l8)(r:Rec):l8×Int :=
 if r.Kind=4 then H6 a x r.Item else if r.Kind=2 then ({ x with C8:=x.C8 ++ [r.M0] },0) else (x,6)
def replay (a:E7):l8×Int→List Rec→l8×Int
 | x,[]=>x
 | x,r::l=>if x.2≠0 then x else replay a (a32 a x.1 r) l
def a3L (x:l8):l8 := { (default:l8) with C9:=x.C9,Device:=F3 x.Device,Up:=true }
def V1 (a:E7)(x:l8):l8×Int :=
 if x.Up=true then (x,13) else
 if (Z2 (F3 x.Device)).2≠0 then (x,(Z2 (F3 x.Device)).2) else
 if (replay a (a3L x,0) (Z2 (F3 x.Device)).1).2≠0 then (x,(replay a (a3L x,0) (Z2 (F3 x.Device)).1).2) else ((replay a (a3L x,0) (Z2 (F3 x.Device)).1).1,0)
theorem c5G (y:l8)(w:Value)(h1:y.C8 = [])(h2:y.G3 = [])(I:Fl.Im)(X:List (Nat×Obj))(h:(C0.ob w (mx y (.slice none 0 0) (.slice none 0 0))).a0w I X):(C0.P2 w (IsV.mk y)).a0w I X:=by
 refine⟨(.slice none 0 0,.slice none 0 0),[X,[],[]],by simp,⟨X,_,rfl,h,[],_,rfl,?_,[],_,rfl,?_,rfl⟩⟩
 ·rw [h1];exact⟨[],a0I.nil _ _,rfl⟩
 ·rw [h2];exact⟨[],a0I.nil _ _,rfl⟩
theorem b5i (r:D5)(e:y3):(W0 r e).1.Live.length≤r.Live.length+1:=by
 have:(default:D5).Live.length=0:=rfl
 unfold W0;repeat' split
 all_goals simp_all
structure RpB (k:Nat)(x:l8):Prop where
 live:x.Ring.Live.length≤k
 items:x.G3.length≤k
 a1i:x.C8.length≤k
theorem b8F {a:E7}{x:l8}{k:Nat}(h:RpB k x)(r:Rec):RpB (k+1) (a32 a x r).1:=by
 have h1:=h.live
 have h2:=h.items
 have h3:=h.a1i
 have h4:=b5i x.Ring (L8 a x.C9 r.Item).1
 unfold a32 H6
 repeat' split
 all_goals first|(exact⟨by dsimp only;omega,by dsimp only;omega,by dsimp only;omega⟩)|exact⟨by dsimp only;omega,by dsimp only;rw [List.length_append,List.length_singleton];omega,by dsimp only;omega⟩|exact⟨by dsimp only;omega,by dsimp only;omega,by dsimp only;rw [List.length_append,List.length_singleton];omega⟩
def c3p (Y:l8)(E:Int)(r:AV)(Hs:List C0):Prop :=
 (∃ u:Value×Value,r = .t2 (.v (mx Y u.1 u.2)) (.v E)∧Hs = [.own 114 u.1 Y.C8,.own 101 u.2 Y.G3])∨(r = .t2 (.v Y) (.v E)∧Hs = [])
theorem c3p.frz {Y:l8}{E:Int}(x:AV)(Hs:List C0)(I:Fl.Im)(L:Lh)(v:Value)(hp:c3p Y E x Hs)(hv:G0 I x v)(hL:Q7 I Hs L)(J:Fl.Im)(hle:Le I J)(hj:∀ p∈L.flatten,J p.1=some p.2):G0 J (.t2 (.v Y) (.v E)) v:=by
 rcases hp with ⟨u,rfl,rfl⟩|⟨rfl,rfl⟩
 ·obtain⟨X,R,rfl,h1,Z,R2,rfl,h2,h3⟩:=hL
  obtain⟨b,c,rfl,⟨cs,h5,rfl⟩,h6⟩:=hv
  exact⟨_,c,j0,⟨cs,c6F (u3.mono hle h5) (O5 h1 hle fun p hp=>hj p (by simp [hp])) (O5 h2 hle fun p hp=>hj p (by simp [hp])),j0⟩,h6.mono hle⟩
 ·exact hv.mono hle
theorem a8M:∀ l,(R9 l).1.length≤l.length
 | []=>Nat.le_refl _
 | b::l=>by
  have:=a8M l
  rw [R9];repeat' split
  all_goals simp_all
theorem b5j (a:E7)(x:l8)(n:Nat)(h:IsG x)(hA:G4 a n)(hl:(a08 (D8 (F3 x.Device))).1.length≤100000)(hr:∀ r∈(a08 (D8 (F3 x.Device))).1,r.length≤1000000∧((O3 ⟨r,0⟩).1=2∨(O3 ⟨r,0⟩).1=4))(hk:∀ r∈(Z2 (F3 x.Device)).1,r.Item.Kind≠2∧r.Item.O6.length≤1000000)(hd:W9 (F3 x.Device)) :
    C5 gl prog 14 [.v a,.v x] [] (c3p (V1 a x).1 (V1 a x).2):=by
  have a6:AlR 6 IsM inferInstance:=⟨trivial⟩
  have a20:AlR 20 IsM inferInstance:=⟨trivial⟩
  have i1:∀ (x:l8),Q5 gl prog 41 [.v x] [IsB x] (.v x):=fun x=>⟨fun hh=>a16 x hh.1⟩
  have it:∀ (b:Nat) (a:E7) (x:l8) (i:Item),CaM gl prog 49 [.v a,.ln (ptr b 0) (j9.id (α:=IsM)),.v i] (.P2 (ptr b 0) (IsV.mk x)) [i.Kind≠2,∀ y∈a.B5,y.Plain.length≤1000000,x.Ring.Live.length≤1000000,x.G3.length≤1000000,i.O6.length≤1000000] (.v (H6 a x i).2) (.P2 (ptr b 0) (IsV.mk (H6 a x i).1)):=fun b a x i=>⟨fun h=>c3h b a x i h.1 h.2.1 h.2.2.1 h.2.2.2.1 h.2.2.2.2.1⟩
  have i_jRestart_c:∀ (d:l9),Q5 gl prog 47 [.v d] [W9 d,d.B9=0∨d.B9=1] (.v (F3 d)):=fun d=>⟨fun hh=>b6u d hh.1 hh.2.1⟩
  have i_load_c:∀ (d:l9),Q5 gl prog 48 [.v d] [W9 d,d.B9=0∨d.B9=1,(a08 (D8 d)).1.length≤100000,∀ r∈(a08 (D8 d)).1,r.length≤1000000∧((O3 ⟨r,0⟩).1=2∨(O3 ⟨r,0⟩).1=4)] (.t2 (.v (Z2 d).1) (.v (Z2 d).2)):=fun d=>⟨fun hh=>c7P d hh.1 hh.2.1 hh.2.2.1 hh.2.2.2.1⟩
  have hln:(Z2 (F3 x.Device)).1.length≤100000:=Nat.le_trans (a8M _) hl
  have ha2:(F3 x.Device).B9=0∨(F3 x.Device).B9=1:=h.act
  generalize hP:c3p (V1 a x).1 (V1 a x).2=P
  refine .go func14 rfl 62 [.cell 4 39,.tmp 5] rfl (by kernel_rfl) fun C hG=>(.z hG (by kernel_rfl) fun b b1 b2=>⟨fun h1=>⟨h.b,[],.nil,?_⟩,fun h1=>⟨h.b.dev,h.act,⟨fun _ _=>by kernel_rfl,trivial⟩,fun nm => ?_⟩⟩)
  · subst hP;unfold V1;rw [if_pos h1];exact .inr ⟨rfl,rfl⟩
  · dsimp only
    generalize (nm (0+1+1+1+1+1+1)).2=b6
    refine⟨hd,ha2,hl,hr,fun h2=>⟨h.b,[],.nil,?_⟩,fun h2 => ?_⟩
    · subst hP;unfold V1;rw [if_neg h1,if_pos h2];exact .inr ⟨rfl,rfl⟩
    · have h2':(Z2 (F3 x.Device)).2=0:=Classical.not_not.1 h2
      have hF:V1 a x=if (replay a (a3L x,0) (Z2 (F3 x.Device)).1).2≠0 then (x,(replay a (a3L x,0) (Z2 (F3 x.Device)).1).2) else ((replay a (a3L x,0) (Z2 (F3 x.Device)).1).1,0):=by unfold V1;rw [if_neg h1,if_neg h2]
      rw [hF] at hP
      refine .c7V (ptr b6 0) (.P2 (ptr b6 0) (IsV.mk (a3L x))) (c5G (a3L x) (ptr b6 0) j0 j0) ?_
      generalize (Z2 (F3 x.Device)).1=L at hk hln hP ⊢
      refine .lp hG (fun y:Nat×l8 => [(34,.v (y.1:Int)),(8,.v (0:Int))]) (fun y => [(ptr b6 0,.P2 (ptr b6 0) (IsV.mk y.2))]) (fun y=>y.1≤L.length∧RpB y.1 y.2∧replay a (a3L x,0) L=replay a (y.2,0) (L.drop y.1)) (fun y=>L.length - y.1) (0,a3L x) (by kernel_rfl)
        ⟨rfl,by rw [h2'],⟨Nat.zero_le _,⟨Nat.le_refl _,Nat.le_refl _,Nat.le_refl _⟩,rfl⟩,fun ⟨k,st⟩ ⟨hk1,hB,hR⟩=>⟨fun h4=>⟨by omega,h4,fun b10=>⟨fun h5 => ?_,fun h5 => ?_⟩⟩,fun h4 => ?_⟩⟩
      all_goals dsimp only at *
      · have hL:=a3W (l:=L) (k:=k) (by omega)
        rw [hL,replay,if_neg e00] at hR
        rw [Int.toNat_natCast] at h5 ⊢
        have hm:=hk _ (V0 (l:=L) (k:=k) (by omega))
        have hpl:=hA.b3d
        have hB1:=hB.live
        have hB2:=hB.items
        have e:a32 a st (L.getD k default)=H6 a st (L.getD k default).Item:=by unfold a32;rw [if_pos h5]
        have hS:=b8F (a:=a) hB (L.getD k default)
        rw [e] at hR hS
        refine .z hG (by kernel_rfl) ⟨hm.1,hpl,by omega,by omega,hm.2,fun h6=>⟨h.b,[],.nil,?_⟩,fun h6=>⟨by omega,by omega,(k+1,_),rfl,by rw [Classical.not_not.1 h6],rfl,⟨by show k+1≤_;omega,hS,?_⟩,by show _ - (k+1) < _;omega⟩⟩
        · subst hP
          have hE:∀ l,replay a (H6 a st (L.getD k default).Item) l=H6 a st (L.getD k default).Item:=fun l=>by cases l with
            | nil=>rfl
            | cons r l=>rw [replay,if_pos h6]
          rw [hR,hE,if_pos h6];exact .inr ⟨rfl,rfl⟩
        · rw [hR];dsimp only
          congr 1
          exact Prod.ext rfl (Classical.not_not.1 h6)
      · have hL:=a3W (l:=L) (k:=k) (by omega)
        rw [hL,replay,if_neg e00] at hR
        rw [Int.toNat_natCast] at h5 ⊢
        refine .z hG (by kernel_rfl) ⟨fun h6 => ?_,fun h6 => .z hG (by kernel_rfl) ⟨fun _=>⟨h.b,[],.nil,?_⟩,fun q=>absurd (show(6:Int)≠0 by decide) q⟩⟩
        · refine .b0B (ptr b6 0) (a7q st (ptr b6 0)) (b3c st (ptr b6 0)) fun v => ?_
          have hB3:=hB.a1i
          have e1 : [(L.getD k default).M0].length=1:=rfl
          refine .w 10 hG (by kernel_rfl) fun _=>⟨by omega,by omega,fun w' => ?_⟩
          have e:a32 a st (L.getD k default)=({ st with C8:=st.C8 ++ [(L.getD k default).M0] },0):=by unfold a32;rw [if_neg h5,if_pos h6]
          have hS:=b8F (a:=a) hB (L.getD k default)
          rw [e] at hR hS
          show wpA prog C 62 _ _ _ _
          refine .d0E [ptr b6 0,w',v.2] (.P2 (ptr b6 0) (IsV.mk { st with C8:=st.C8 ++ [(L.getD k default).M0] })) (fun I Xs h=>⟨(w',v.2),Xs,j0,h⟩) ?_
          exact .z hG (by kernel_rfl) ⟨fun q=>absurd rfl q,fun _=>⟨by omega,by omega,(k+1,_),rfl,rfl,rfl,⟨by show k+1≤_;omega,hS,hR⟩,by show _ - (k+1) < _;omega⟩⟩
        · subst hP
          have e:a32 a st (L.getD k default)=(st,6):=by unfold a32;rw [if_neg h5,if_neg h6]
          have hE:replay a (st,6) (L.drop (k+1))=(st,6):=by cases L.drop (k+1)<;>simp [replay]
          rw [hR,e,hE];exact .inr ⟨rfl,rfl⟩
      · obtain rfl:k=L.length:=by omega
        rw [List.drop_of_length_le (Nat.le_refl _),replay] at hR
        refine .b0B (ptr b6 0) (a7q st (ptr b6 0)) (b3c st (ptr b6 0)) fun v=>(.ob1 4 (b0C default) (a5u default) (.z hG (by kernel_rfl) (P5.of [v.1,v.2] ?_)))
        subst hP
        rw [hR];exact .inl ⟨v,rfl,rfl⟩
theorem c0n (a:E7)(x:l8)(n:Nat)(h:IsG x)(hA:G4 a n)(hl:(a08 (D8 (F3 x.Device))).1.length≤100000)(hr:∀ r∈(a08 (D8 (F3 x.Device))).1,r.length≤1000000∧((O3 ⟨r,0⟩).1=2∨(O3 ⟨r,0⟩).1=4))(hk:∀ r∈(Z2 (F3 x.Device)).1,r.Item.Kind≠2∧r.Item.O6.length≤1000000)(hd:W9 (F3 x.Device)) :
    C3 gl prog 14 [.v a,.v x] (fun r=>r = .t2 (.v (V1 a x).1) (.v (V1 a x).2)) :=
  (b5j a x n h hA hl hr hk hd).c4Z _ fun x Hs I L v hp hv hL J hle hj=>c3p.frz x Hs I L v hp hv hL J hle hj
def jFr (r:List UInt8):List UInt8 := [UInt8.ofNat (r.length/256),UInt8.ofNat (r.length % 256)]++(sha r).l.take 4++r
def b5k (r:List UInt8):Prop:=1≤r.length∧r.length≤4096
theorem c0o {r:List UInt8}(h:b5k r):a1v r=(jFr r,0):=by
 unfold b5k at h
 unfold a1v;rw [if_neg (by omega),if_neg (by omega)];rfl
theorem b5l (r:List UInt8):((sha r).l.take 4).length=4:=by rw [List.length_take,M1.len];rfl
theorem a5N (r:List UInt8):(jFr r).length=6+r.length:=by
 unfold jFr
 simp only [List.length_append,b5l,List.length_cons,List.length_nil]
theorem b5m {r:List UInt8}(h:b5k r)(t:List UInt8):a1J (jFr r++t)=r.length:=by
 obtain⟨h0,h1⟩:=h
 unfold a1J jFr
 simp only [List.cons_append,List.getD_cons_zero,List.getD_cons_succ]
 have e1:(UInt8.ofNat (r.length/256)).toNat=r.length/256:=by simp;omega
 have e2:(UInt8.ofNat (r.length % 256)).toNat=r.length % 256:=by simp
 rw [e1,e2];omega
theorem b7g {r:List UInt8}(h:b5k r)(t:List UInt8):a1V (jFr r++t)=some r:=by
 have hl:=a5N r
 have h1:=h.1
 have h2:=h.2
 unfold a1V
 rw [if_neg (by rw [List.length_append];omega),b5m h,if_neg (by rw [List.length_append];omega)]
 have hs:((sha r).l.take 4).length=4:=b5l r
 have e1:((jFr r++t).drop 6).take r.length=r:=by
  unfold jFr
  rw [List.append_assoc,List.drop_append_of_le_length (by simp only [List.length_append,hs];simp)]
  rw [List.drop_of_length_le (by simp only [List.length_append,hs];simp),List.nil_append]
  simp
 have e2:((jFr r++t).drop 2).take 4=(sha r).l.take 4:=by
  unfold jFr
  show(((sha r).l.take 4++r)++t).take 4=_
  rw [List.append_assoc,List.take_append_of_le_length (by omega),List.take_of_length_le (by omega)]
 rw [e1,e2,if_pos rfl]
theorem c0p {r:List UInt8}(h:b5k r){k:Nat}(hk:k < 6+r.length):a1V ((jFr r).take k)=none:=by
 have hl:=a5N r
 have h1:=h.1
 have hkl:((jFr r).take k).length=k:=by rw [List.length_take];omega
 unfold a1V
 by_cases h6:k < 6
 ·rw [if_pos (by omega)]
 ·rw [if_neg (by omega)]
  have e:a1J ((jFr r).take k)=r.length:=by
   have:=b5m h []
   rw [List.append_nil] at this
   rw [←this]
   unfold a1J
   rw [List.getD_eq_getElem?_getD,List.getD_eq_getElem?_getD,List.getElem?_take,List.getElem?_take,if_pos (by omega),if_pos (by omega),List.getD_eq_getElem?_getD,List.getD_eq_getElem?_getD]
  rw [e,if_pos (by omega)]
theorem b5n:a1V []=none:=by unfold a1V;rw [if_pos (by decide)]
def S6 (R:List (List UInt8)):List UInt8:=(R.map jFr).flatten
theorem a2M (r:List UInt8)(R:List (List UInt8)):S6 (r::R)=jFr r++S6 R:=rfl
theorem a8N (R S:List (List UInt8)):S6 (R++S)=S6 R++S6 S:=by unfold S6;rw [List.map_append,List.flatten_append]
theorem b0E:∀ R:List (List UInt8),R.length≤(S6 R).length
 | []=>Nat.zero_le _
 | r::R=>by have:=b0E R;have:=a5N r;rw [a2M,List.length_append,List.length_cons];omega
theorem a7s (t:List UInt8)(ht:a1V t=none):∀ (R:List (List UInt8)) (f:Nat) (data pre:List UInt8),(∀ r∈R,b5k r)→data=pre++(S6 R++t)→R.length < f→a1K data f pre.length=(R,pre.length+(S6 R).length)
 | [],0,_,_,_,_,h=>by simp at h
 | [],f+1,data,pre,_,hd,_=>by
  rw [a1K]
  have e:data.drop pre.length=t:=by rw [hd,List.drop_left];rfl
  rw [e,ht];rfl
 | r::R,0,_,_,_,_,h=>by simp at h
 | r::R,f+1,data,pre,hr,hd,hf=>by
  rw [a1K]
  have e:data.drop pre.length=jFr r++(S6 R++t):=by rw [hd,List.drop_left,a2M,List.append_assoc]
  rw [e,b7g (hr r List.mem_cons_self)]
  have hl:=a5N r
  have h1:=a7s t ht R f data (pre++jFr r) (fun x hx=>hr x (List.mem_cons_of_mem _ hx)) (by rw [hd,a2M];simp) (by simp at hf;omega)
  rw [List.length_append,hl] at h1
  simp only [h1,a2M,List.length_append,hl]
  congr 1;omega
theorem b5o {R:List (List UInt8)}{t:List UInt8}(hR:∀ r∈R,b5k r)(ht:a1V t=none):a08 (S6 R++t)=(R,(S6 R).length):=by
 have h1:=b0E R
 have:=a7s t ht R ((S6 R++t).length+1) (S6 R++t) [] hR rfl (by rw [List.length_append];omega)
 simpa [a08] using this
structure V2 (a b:E7):Prop where
 free:b.P6=a.P6
 fresh:a.K4≤b.K4
 a5U:∃ l,b.F7=a.F7++l
 boxes:∃ l,b.B5=a.B5++l
theorem V2.refl (a:E7):V2 a a:=⟨rfl,Int.le_refl _,⟨[],(List.append_nil _).symm⟩,⟨[],(List.append_nil _).symm⟩⟩
theorem V2.trans {a b c:E7}(h:V2 a b)(g:V2 b c):V2 a c:=by
 obtain⟨l,hl⟩:=h.a5U
 obtain⟨m,hm⟩:=g.a5U
 obtain⟨p,hp⟩:=h.boxes
 obtain⟨q,hq⟩:=g.boxes
 exact⟨g.free.trans h.free,Int.le_trans h.fresh g.fresh,⟨l++m,by rw [hm,hl,List.append_assoc]⟩,⟨p++q,by rw [hq,hp,List.append_assoc]⟩⟩
theorem c5H {a:E7}{k:Tag}{x p:List UInt8}:O1 a k x=(p,0)↔(if a.P6 then (∃ y,a.B5.find? (a4r k x)=some y∧y.Plain=p) else (¬(x.length < 40∨296 < x.length)∧(a3c k.l (a5j.l++x.take (x.length - 32))).l=x.drop (x.length - 32)∧a5r k x=p)):=by
  unfold O1
  cases a.P6 with
  | true =>
    rw [if_pos rfl,if_pos rfl]
    cases a.B5.find? (a4r k x) with
    | none => constructor
              · intro h;cases h
              · rintro⟨x,h,_⟩;cases h
    | some y => constructor
                · intro h;exact⟨y,rfl,(Prod.mk.inj h).1⟩
                · rintro⟨y,h,rfl⟩;cases h;rfl
  | false =>
    rw [if_neg (show ¬(false=true) by decide),if_neg (show ¬(false=true) by decide)]
    by_cases h:x.length < 40∨296 < x.length
    · rw [if_pos h];constructor
      · intro h;cases h
      · rintro⟨h2,_⟩;exact absurd h h2
    · rw [if_neg h]
      by_cases h2:(a3c k.l (a5j.l++x.take (x.length - 32))).l=x.drop (x.length - 32)
      · rw [if_pos h2];constructor
        · intro h3;exact⟨h,h2,(Prod.mk.inj h3).1⟩
        · rintro⟨_,_,rfl⟩;rfl
      · rw [if_neg h2];constructor
        · intro h;cases h
        · rintro⟨_,h3,_⟩;exact absurd h3 h2
theorem V2.opens {a b:E7}(h:V2 a b){k:Tag}{x p:List UInt8}(hl:O1 a k x=(p,0)):O1 b k x=(p,0):=by
 rw [c5H] at hl ⊢
 rw [h.free]
 cases hf:a.P6 with
 | true =>
  rw [hf,if_pos rfl] at hl
  rw [if_pos rfl]
  obtain⟨y,h1,h2⟩:=hl
  obtain⟨l,e⟩:=h.boxes
  exact⟨y,by rw [e,List.find?_append,h1];rfl,h2⟩
 | false =>
  rw [hf,if_neg (by decide)] at hl
  rw [if_neg (by decide)];exact hl
theorem c3q (c:UInt8)(n:Int):(X8 c n).l=a77 c n 8++List.replicate 17 0:=by
 unfold X8
 have:(a77 c n 8).length=15:=a3l c n 8
 show(a77 c n 8).take 32++(default:Tag).l.drop (a77 c n 8).length=_
 rw [List.take_of_length_le (by omega),this];rfl
theorem b7h {c d:UInt8}{m n:Int}(h:X8 c m=X8 d n):c=d∧UInt64.ofInt m=UInt64.ofInt n:=by
 have h2:=congrArg (·.l) h
 simp only [c3q] at h2
 have h3:=List.append_inj_left h2 (by rw [a3l,a3l])
 unfold a77 at h3
 simp only [List.append_assoc] at h3
 have h4:=List.append_cancel_left h3
 simp only [List.singleton_append,List.cons.injEq] at h4
 exact⟨h4.1,b4C h4.2⟩
theorem c0q {m n:Int}(hm0:0≤m)(hm:m < 18446744073709551616)(hn0:0≤n)(hn:n < 18446744073709551616)(h:UInt64.ofInt m=UInt64.ofInt n):m=n:=by
 have h2:=congrArg UInt64.toNat h
 simp [UInt64.ofInt] at h2
 omega
theorem c5I {c:UInt8}{i j:Nat}(hi:i < 1000000)(hj:j < 1000000)(h:X8 c ((i+1:Nat):Int)=X8 c ((j+1:Nat):Int)):i=j:=by
 have:=c0q (by omega) (by omega) (by omega) (by omega) (b7h h).2
 omega
structure c5J (a:E7)(n:Nat)(k:Tag)(m:List UInt8)(b:E7)(t:Tag):Prop where
 eq:P0 a k m=(b,t,0)
 ok:G4 b (n+1)
 le:V2 a b
 look:a4n b k m=(t,true)
 boxes:b.B5=a.B5
 fresh:b.K4=a.K4
 a5U:∀ x∈b.F7,x∈a.F7∨(x.Key=k∧x.Message=m)
theorem G4.step {a:E7}{n:Nat}(h:G4 a n)(hn:n < 60000)(k:Tag){m:List UInt8}(hm:m.length≤1000):∃ b t,c5J a n k m b t:=by
 have h1:=h.a5U
 have hok:=h.mac (by omega) (k:=k) hm
 cases hf:a2F a k m with
 | some x =>
  have e:P0 a k m=(a,x.Tag,0):=by unfold P0;rw [if_neg (by omega),hf]
  rw [e] at hok
  obtain⟨i,hi,rfl⟩:=List.getElem_of_mem (List.mem_of_find?_eq_some hf)
  have hx:=(c0g k m _).1 (List.find?_some hf)
  have hl:=h.c3d i hi
  rw [hx.1,hx.2] at hl
  exact⟨a,_,e,hok,V2.refl _,hl,j0,j0,fun x hx=>Or.inl hx⟩
 | none =>
  have e:=a4o (a:=a) (k:=k) (m:=m) (by omega) hf (by omega)
  rw [e] at hok
  have hi:a.F7.length < (a.F7 ++ [(⟨k,m,a3C a k m⟩:D7)]).length:=by simp
  have hl:=hok.c3d a.F7.length hi
  simp only [List.getElem_concat_length] at hl
  refine⟨_,_,e,hok,⟨rfl,Int.le_refl _,⟨_,rfl⟩,⟨[],by simp⟩⟩,hl,rfl,rfl,fun x hx => ?_⟩
  rcases List.mem_append.1 hx with h|h
  ·exact Or.inl h
  ·obtain rfl:=List.mem_singleton.1 h;exact Or.inr ⟨rfl,rfl⟩
structure c5K (a:E7)(n:Nat)(b:E7)(t:Tag):Prop where
 eq:K2 a=(b,t,0)
 ok:G4 b (n+1)
 le:V2 a b
 boxes:b.B5=a.B5
 a5U:b.F7=a.F7
 fresh:b.K4=a.K4+1
 sym:a.P6=true→t=X8 107 b.K4
theorem G4.c5L {a:E7}{n:Nat}(h:G4 a n)(hn:n < 60000):∃ b t,c5K a n b t:=by
 have h1:=h.b0z
 have hok:=h.key (by omega)
 have e:K2 a=(⟨a.P6,a.a1R,a.K4+1,a.F7,a.B5⟩,(if a.P6 then X8 107 (a.K4+1) else (derive a.a1R a5i (a.K4+1)).1),0):=by
  unfold K2;rw [if_neg (by omega)]
 rw [e] at hok
 exact⟨_,_,e,hok,⟨rfl,by show a.K4≤a.K4+1;omega,⟨[],by simp⟩,⟨[],by simp⟩⟩,rfl,rfl,rfl,fun hf=>by rw [hf];rfl⟩
theorem G4.b8G {b:E7}{m:Nat}(hb:G4 b m)(hm:m≤60000){i:Nat}(h:i < b.B5.length):O1 b b.B5[i].Key b.B5[i].O6=(b.B5[i].Plain,0)∧b.B5[i].O6.length=b.B5[i].Plain.length+40:=by
 have hl:=hb.boxes
 obtain⟨h1,h2,h3,h4⟩:=hb.box i h
 cases hf:b.P6 with
 | true =>
  rw [hf,if_pos rfl] at h4
  refine⟨?_,by rw [h4,List.length_append,M1.len,List.length_replicate];omega⟩
  cases hq:b.B5.find? (a4r b.B5[i].Key b.B5[i].O6) with
  | none =>
   have:=List.find?_eq_none.1 hq b.B5[i] (List.getElem_mem h)
   simp [a4r] at this
  | some y =>
   rw [a6c hf hq]
   have hy:=List.find?_some hq
   obtain⟨j,hj,rfl⟩:=List.getElem_of_mem (List.mem_of_find?_eq_some hq)
   obtain⟨_,_,_,g4⟩:=hb.box j hj
   rw [hf,if_pos rfl] at g4
   simp only [a4r,Bool.and_eq_true,decide_eq_true_eq] at hy
   have e:=hy.2
   rw [g4,h4] at e
   obtain rfl:=c5I (by omega) (by omega) (M1.ext (List.append_inj_left e (by rw [M1.len,M1.len])))
   rfl
 | false =>
  rw [hf,if_neg (by decide)] at h4
  have hlen:b.B5[i].O6.length=b.B5[i].Plain.length+40:=by rw [h4,a0o]
  refine⟨?_,hlen⟩
  rw [b0o hf (by omega)]
  ·rw [h4,c0j]
  ·rw [h4,b1R,c0i]
structure c3r (a:E7)(n:Nat)(k:Tag)(c:Int)(p:List UInt8)(b:E7)(x:List UInt8):Prop where
 eq:Y6 a k c p=(b,x,0)
 ok:G4 b (n+1)
 le:V2 a b
 opens:O1 b k x=(p,0)
 len:x.length=p.length+40
 a5U:b.F7=a.F7
 fresh:b.K4=a.K4
 at_:∃ i,∃ h:i < b.B5.length,b.B5[i]=⟨k,c,p,x⟩
 boxes:∀ y∈b.B5,y∈a.B5∨y=⟨k,c,p,x⟩
theorem G4.c3s {a:E7}{n:Nat}(ha:G4 a n)(hn:n < 50000)(k:Tag){c:Int}{p:List UInt8}(hc0:0≤c)(hc1:c≤281474976710656)(hp:p.length≤256):∃ b x,c3r a n k c p b x:=by
 have hok:=ha.boxed (by omega) (k:=k) hc0 hc1 hp
 have hr:(decide (c < 0)||decide (281474976710656 < c))=false:=by simp;omega
 have hl:=ha.boxes
 cases hf:a.B5.find? (X9 k c p) with
 | some y =>
  have e:=a3D hr (by omega) hf
  rw [e] at hok
  obtain⟨i,hi,rfl⟩:=List.getElem_of_mem (List.mem_of_find?_eq_some hf)
  have hy:=List.find?_some hf
  simp only [X9,Bool.and_eq_true,decide_eq_true_eq] at hy
  obtain⟨h1,h2⟩:=ha.b8G (by omega) hi
  obtain⟨⟨e1,e2⟩,e3⟩:=hy
  rw [e1,e3] at h1
  rw [e3] at h2
  refine⟨a,_,e,hok,V2.refl _,h1,h2,j0,j0,⟨i,hi,?_⟩,fun y hy=>Or.inl hy⟩
  rw [←e1,←e2,←e3]
 | none =>
  have e:=a5k hr (by omega) hf (by omega)
  rw [e] at hok
  have hi:a.B5.length < (a.B5 ++ [(⟨k,c,p,a78 a k c p⟩:y5)]).length:=by simp
  obtain⟨h1,h2⟩:=hok.b8G (by omega) hi
  simp only [List.getElem_concat_length] at h1 h2
  refine⟨_,_,e,hok,⟨rfl,Int.le_refl _,⟨[],by simp⟩,⟨_,rfl⟩⟩,h1,h2,rfl,rfl,⟨a.B5.length,hi,by simp⟩,fun y hy => ?_⟩
  rcases List.mem_append.1 hy with h|h
  ·exact Or.inl h
  ·exact Or.inr (List.mem_singleton.1 h)
structure c73 (a:E7)(n:Nat)(k:Tag)(x:Item)(b:E7)(y:Item):Prop where
 eq:K9 a k x=(b,y,0)
 ok:G4 b (n+1)
 le:V2 a b
 boxes:b.B5=a.B5
 item:∃ t,y = { x with Tag:=t }
theorem G4.c3t {a:E7}{n:Nat}(h:G4 a n)(hn:n < 60000)(k:Tag){x:Item}(hx:L6 x=0)(hb:x.O6.length≤200):∃ b y,c73 a n k x b y:=by
 have hm:(U6 x).length≤1000:=by
  have h1:=c22 hx
  have h2:=H4 (n:=x.Place.toNat) (by have:=h1.place;omega)
  have h3:=H4 (n:=x.Kind.toNat) (by have:=h1.kind;omega)
  have h4:=H4 (n:=x.Number.toNat) (by have:=h1.num;omega)
  have h5:=H4 (n:=x.O6.length) (by omega)
  simp [U6,b2U,M1.len];omega
 obtain⟨b,t,hs⟩:=h.step hn k hm
 exact⟨b,{ x with Tag:=t },by unfold K9;rw [hx,if_neg (by decide),hs.eq];rfl,hs.ok,hs.le,hs.boxes,t,rfl⟩
structure c74 (a:E7)(n:Nat)(k:Tag)(place:Int)(e:M5)(b:E7)(y:Item):Prop where
 eq:K3 a k place e=(b,y,0)
 ok:G4 b (n+2)
 le:V2 a b
 ep:L8 b k y=(e,0)
 item:∃ x t,x.length=72∧y = { a1c place e x with Tag:=t }
theorem G4.c77 {a:E7}{n:Nat}(h:G4 a n)(hn:n < 40000)(k:Tag){place:Int}{e:M5}(h1:1≤place)(h2:place≤4096)(h3:1≤e.Number)(h4:e.Number≤1000):∃ b y,c74 a n k place e b y:=by
 have hk:e.Key.l.length=32:=e.Key.len
 obtain⟨b1,x,hS⟩:=h.c3s (by omega) k (c:=place) (p:=e.Key.l) (by omega) (by omega) (by omega)
 have hx:x.length=72:=by rw [hS.len,hk]
 have hie:L6 (a1c place e x)=0:=by
  unfold L6 a1c
  simp only
  rw [if_neg (by omega),if_neg (by simp),if_neg (by omega),if_neg (by omega)]
 obtain⟨b,y,hG⟩:=hS.ok.c3t (by omega) k hie (by show x.length≤200;omega)
 obtain⟨t,rfl⟩:=hG.item
 have hbad:a4I place e=false:=by unfold a4I;simp;omega
 have e1:K3 a k place e=(b,{ a1c place e x with Tag:=t },0):=by
  unfold K3
  rw [hbad,if_neg (by decide),hS.eq]
  simp only [ne_eq,not_true,if_false]
  exact hG.eq
 have hop:O1 b k x=(e.Key.l,0):=hG.le.opens hS.opens
 refine⟨b,_,e1,hG.ok,hS.le.trans hG.le,?_,x,t,hx,j0⟩
 unfold L8
 rw [if_neg (by simp [a1c])]
 show(if (O1 b k x).2≠0 then _ else _)=_
 rw [show(O1 b k (({ a1c place e x with Tag:=t }:Item).O6))=O1 b k x from rfl,hop,if_neg (by simp),if_neg (by simp [hk]),b4Z hk]
 rfl
theorem b3g {a b:E7}(h:V2 a b){k:Tag}{i:Item}{e:M5}(he:L8 a k i=(e,0)):L8 b k i=(e,0):=by
 unfold L8 at he ⊢
 split at he
 ·cases he
 ·next h1 =>
  split at he
  ·next h2=>simp only [Prod.mk.injEq] at he;exact absurd he.2 h2
  ·next h2 =>
   have h3:O1 a k i.O6=((O1 a k i.O6).1,0):=Prod.ext rfl (Classical.not_not.1 h2)
   have h4:=h.opens h3
   rw [if_neg h1,h4,if_neg (by simp)]
   exact he
theorem c78 {i:Item}:M4 (a0V i)=D4 4++(D4 i.Place.toNat++(D4 i.Kind.toNat++(D4 i.Number.toNat++(i.Node.l++((D4 i.O6.length++i.O6)++(i.Tag.l ++ [])))))):=rfl
theorem a8O {i:Item}(h1:1≤i.Place∧i.Place≤4096)(h2:1≤i.Kind∧i.Kind≤3)(h3:0≤i.Number∧i.Number≤1000)(h4:i.O6.length≤1024):L7 (a0V i)=0:=by
 have ex:a1x (a0V i)=false:=by
  unfold a1x
  have:({ a4u (a0V i) with Kind:=0 }:Rec)=default:=rfl
  rw [this];simp
 have hp:C7 (a0V i).Kind=Q3:=rfl
 have c0:∀ p∈Q3,p.chk (a0V i)=0:=by
  intro p hp
  unfold Q3 at hp
  rcases List.mem_cons.1 hp with rfl|hp
  ·exact if_neg (by show ¬(i.Place < 1∨4096 < i.Place);omega)
  rcases List.mem_cons.1 hp with rfl|hp
  ·exact if_neg (by show ¬(i.Kind < 1∨3 < i.Kind);omega)
  rcases List.mem_cons.1 hp with rfl|hp
  ·exact if_neg (by show ¬(i.Number < 0∨1000 < i.Number);omega)
  rcases List.mem_cons.1 hp with rfl|hp
  ·rfl
  rcases List.mem_cons.1 hp with rfl|hp
  ·exact if_neg (by show ¬1024 < i.O6.length;omega)
  rcases List.mem_cons.1 hp with rfl|hp
  ·rfl
  ·cases hp
 have hh:∀ e:Int,e≠0→a4P (a0V i) (a0V i).Kind e=false:=fun e he=>by
  unfold a4P;rw [hp,List.any_eq_false]
  intro p hpm
  rw [c0 p hpm];simpa using fun q=>he q.symm
 have hl:¬4096 < (M4 (a0V i)).length:=by
  have n1:=H4 (n:=i.Place.toNat) (by omega)
  have n2:=H4 (n:=i.Kind.toNat) (by omega)
  have n3:=H4 (n:=i.Number.toNat) (by omega)
  have n4:=H4 (n:=i.O6.length) (by omega)
  have n5:=H4 (n:=4) (by omega)
  have t1:i.Node.l.length=32:=i.Node.len
  have t2:i.Tag.l.length=32:=i.Tag.len
  rw [c78]
  simp only [List.length_append,List.length_nil,t1,t2]
  omega
 unfold L7
 rw [ex,if_neg (by decide),hh 1 (by decide),if_neg (by decide),hh 2 (by decide),if_neg (by decide),hh 5 (by decide),if_neg (by decide),if_neg hl]
theorem c79 {m:y2}:M4 (a0p m)=D4 2++(D4 m.M8.toNat++(D4 m.M5.toNat++((D4 m.y7.length++(m.y7.map E0).flatten) ++ []))):=rfl
theorem c5M {l:List Cav}{k:Nat}(h:∀ c∈l,(E0 c).length≤k):((l.map E0).flatten).length≤k*l.length:=by
 induction l with
 | nil=>simp
 | cons c l ih =>
  have h1:=ih fun x hx=>h x (List.mem_cons_of_mem _ hx)
  have h2:=h c List.mem_cons_self
  rw [List.map_cons,List.flatten_cons,List.length_append,List.length_cons,Nat.mul_add];omega
theorem a8P {m:y2}(h1:1≤m.M8∧m.M8≤1073741824)(h2:1≤m.M5∧m.M5≤1000)(h3:m.y7.length≤64)(h4:∀ c∈m.y7,S3 c=true∧(E0 c).length≤50):L7 (a0p m)=0:=by
 have ex:a1x (a0p m)=false:=by
  unfold a1x
  have:({ a4u (a0p m) with Kind:=0 }:Rec)=default:=rfl
  rw [this];simp
 have hp:C7 (a0p m).Kind=Q2:=rfl
 have c0:∀ p∈Q2,p.chk (a0p m)=0:=by
  intro p hp
  unfold Q2 at hp
  rcases List.mem_cons.1 hp with rfl|hp
  ·exact if_neg (by show ¬(m.M8 < 1∨1073741824 < m.M8);omega)
  rcases List.mem_cons.1 hp with rfl|hp
  ·exact if_neg (by show ¬(m.M5 < 1∨1000 < m.M5);omega)
  rcases List.mem_cons.1 hp with rfl|hp
  ·show(if 64 < m.y7.length then (2:Int) else if m.y7.all S3 then 0 else 5)=0
   rw [if_neg (by omega),if_pos (List.all_eq_true.2 fun c hc=>(h4 c hc).1)]
  ·cases hp
 have hh:∀ e:Int,e≠0→a4P (a0p m) (a0p m).Kind e=false:=fun e he=>by
  unfold a4P;rw [hp,List.any_eq_false]
  intro p hpm
  rw [c0 p hpm];simpa using fun q=>he q.symm
 have hl:¬4096 < (M4 (a0p m)).length:=by
  have n1:=H4 (n:=m.M8.toNat) (by omega)
  have n2:=H4 (n:=m.M5.toNat) (by omega)
  have n4:=H4 (n:=m.y7.length) (by omega)
  have n5:=H4 (n:=2) (by omega)
  have n6:=c5M (l:=m.y7) (k:=50) fun c hc=>(h4 c hc).2
  rw [c79]
  simp only [List.length_append,List.length_nil]
  omega
 unfold L7
 rw [ex,if_neg (by decide),hh 1 (by decide),if_neg (by decide),hh 2 (by decide),if_neg (by decide),hh 5 (by decide),if_neg (by decide),if_neg hl]
theorem b7i {r:Rec}(hk:r.Kind=2∨r.Kind=4)(h:L7 r=0):(r.Kind=2∧r=a0p r.M0∧U3 r.M0.y7)∨(r.Kind=4∧r=a0V r.Item∧r.Item.O6.length≤1024):=by
 have hx:a1x r=false:=by
  unfold L7 at h
  split at h
  ·cases h
  ·next h1=>simpa using h1
 have hf:=a9o h
 rcases hk with hk|hk
 ·refine .inl ⟨hk,b8D hk hx,?_⟩
  have hp:C7 r.Kind=Q2:=by unfold C7;rw [if_pos hk]
  have f3:r.M0.y7.length≤64∧∀ c∈r.M0.y7,S3 c=true:=hf (.cav (u4.l4.comp y2.l2)) (by rw [hp];exact List.mem_cons_of_mem _ (List.mem_cons_of_mem _ List.mem_cons_self))
  refine⟨by omega,fun c hc => ?_⟩
  have h1:=f3.2 c hc
  cases h3:c.Z9 with
  | true=>obtain⟨_,_,_,_,h4,_,h5⟩:=a3p h1 h3;omega
  | false=>obtain⟨_,_,h4,h5⟩:=a3q h1 h3;rw [h4,h5];simp
 ·refine .inr ⟨hk,b8E hk hx,?_⟩
  have hp:C7 r.Kind=Q3:=by unfold C7;rw [if_neg (by omega)]
  exact hf (.box (u4.l5.comp o8.l4)) (by rw [hp];exact List.mem_cons_of_mem _ (List.mem_cons_of_mem _ (List.mem_cons_of_mem _ (List.mem_cons_of_mem _ List.mem_cons_self))))
theorem a7t {r:Rec}(hk:r.Kind=2∨r.Kind=4)(h:L7 r=0):b5k (M4 r)∧(O3 ⟨M4 r,0⟩).1=r.Kind:=by
 have h1:(O3 ⟨M4 r,0⟩).1=r.Kind:=by
  unfold M4;rw [a0q _ (by omega) (by omega)]
 refine⟨⟨?_,?_⟩,h1⟩
 ·unfold M4;rw [List.length_append];have:=b0m r.Kind.toNat;omega
 ·unfold L7 at h
  repeat' (split at h;· cases h)
  rename_i h5
  omega
theorem b0F {d:l9}{r:Rec}(hk:r.Kind=2∨r.Kind=4)(h:L7 r=0):a0G d r=P1 d d.B9 (D8 d).length (jFr (M4 r)):=by
 have h1:=a7t hk h
 have e1:a0D r=(M4 r,0):=by unfold a0D;rw [if_neg (by rw [h];decide)]
 unfold a0G
 rw [e1,if_neg e00]
 show a2G d (M4 r)=_
 unfold a2G
 rw [c0o h1.1,if_neg e00]
 rfl
theorem b0G:∀ {l:List Rec},(∀ r∈l,(r.Kind=2∨r.Kind=4)∧L7 r=0)→R9 (l.map M4)=(l,0)
 | [],_=>rfl
 | r::l,h=>by
  rw [List.map_cons,R9,b5h (h r List.mem_cons_self).1 (h r List.mem_cons_self).2,b0G fun x hx=>h x (List.mem_cons_of_mem _ hx)]
  rfl
theorem b8H {d:l9}{l:List Rec}{t:List UInt8}(h:∀ r∈l,(r.Kind=2∨r.Kind=4)∧L7 r=0)(ht:a1V t=none)(hd:D8 d=S6 (l.map M4)++t):a08 (D8 d)=(l.map M4,(S6 (l.map M4)).length)∧Z2 d=(l,0):=by
 have h1:a08 (D8 d)=(l.map M4,(S6 (l.map M4)).length):=by
  rw [hd];exact b5o (fun b hb=>by obtain⟨r,hr,rfl⟩:=List.mem_map.1 hb;exact(a7t (h r hr).1 (h r hr).2).1) ht
 exact⟨h1,by unfold Z2;rw [h1];exact b0G h⟩
theorem b5p (m M:UInt64)(k:Nat)(hk:k < 64)(hM:M.toNat=2^k - 1):(m &&& M) >>> UInt64.ofNat k=0:=by
 apply UInt64.toNat_inj.1
 rw [UInt64.toNat_shiftRight,UInt64.toNat_and,hM,Nat.and_two_pow_sub_one_eq_mod,Nat.shiftRight_eq_div_pow]
 have e:(UInt64.ofNat k).toNat=k:=by simp;omega
 rw [e,Nat.mod_eq_of_lt (show k < 64 by omega)]
 show m.toNat % 2^k/2^k=0
 exact Nat.div_eq_of_lt (Nat.mod_lt _ (Nat.two_pow_pos k))
theorem c5N (n:Nat)(hn:n < 64):((1:UInt64) <<< UInt64.ofNat n).toNat=2^n:=by
 rw [UInt64.toNat_shiftLeft]
 have e:(UInt64.ofNat n).toNat=n:=by simp;omega
 rw [e,Nat.mod_eq_of_lt (show n < 64 by omega)]
 show(1 <<< n) % 2^64=2^n
 rw [Nat.one_shiftLeft]
 exact Nat.mod_eq_of_lt (Nat.pow_lt_pow_right (by decide) hn)
theorem ofInt_ofNat {v:Int}(h0:0≤v):UInt64.ofInt v=UInt64.ofNat v.toNat:=by
 obtain⟨n,rfl⟩:=Int.eq_ofNat_of_zero_le h0
 apply UInt64.toNat_inj.1
 simp [UInt64.ofInt];omega
theorem c8a {x:UInt64}{b:Int}(hb:b=64∨b=32∨b=7)(h3:b < 64)(h:¬(x &&& ((1 <<< UInt64.ofInt b) - 1))=0):a3F (x &&& ((1 <<< UInt64.ofInt b) - 1)) b=true:=by
 have h2:(x &&& ((1 <<< UInt64.ofInt b) - 1)) >>> UInt64.ofNat b.toNat=0:=by
  rcases hb with rfl|rfl|rfl
  ·omega
  ·exact b5p x _ 32 (by decide) (by decide)
  ·exact b5p x _ 7 (by decide) (by decide)
 unfold a3F;rw [h2];simp [h]
theorem c8b {x:UInt64}{b:Int}(hb:b=64∨b=32∨b=7)(h3:¬b < 64)(h:¬x=0):a3F x b=true:=by
 obtain rfl:b=64:=by omega
 unfold a3F;simp [h]
theorem c8c {v b:Int}(hb:b=64∨b=32∨b=7)(h0:0≤v)(h1:v < b):a3F (1 <<< UInt64.ofInt v) b=true:=by
 have hv:v.toNat < 64:=by omega
 have h2:=c5N v.toNat hv
 rw [ofInt_ofNat h0]
 have hne:¬((1:UInt64) <<< UInt64.ofNat v.toNat)=0:=fun e=>by
  rw [e] at h2
  have:=Nat.two_pow_pos v.toNat
  simp at h2;omega
 unfold a3F
 by_cases h64:b=64
 ·simp [hne,h64]
 ·have h3:((1:UInt64) <<< UInt64.ofNat v.toNat) >>> UInt64.ofNat b.toNat=0:=by
   apply UInt64.toNat_inj.1
   rw [UInt64.toNat_shiftRight,h2,Nat.shiftRight_eq_div_pow]
   have e:(UInt64.ofNat b.toNat).toNat=b.toNat:=by simp;omega
   rw [e,Nat.mod_eq_of_lt (show b.toNat < 64 by omega)]
   exact Nat.div_eq_of_lt (Nat.pow_lt_pow_right (by decide) (by omega))
  rw [h3];simp [hne]
theorem b3h {k:Int}{m:UInt64}(hk:k=1∨k=2∨k=3)(h:a3F m (c2C k)=true):I9 ⟨k,m,0,0,⟨[]⟩,0⟩=true:=by
 unfold I9;rw [if_pos hk];dsimp only;rw [h];simp
theorem c5O {a b:Int}(h0:0≤a)(h1:a≤b)(h2:b≤67108864):I9 ⟨4,0,a,b,⟨[]⟩,0⟩=true:=by
 unfold I9;simp [h0,h1,h2]
theorem b5q {a b:Int}(h0:0≤a)(h1:a < 1440)(h2:0≤b)(h3:b < 1440):I9 ⟨5,0,a,b,⟨[]⟩,0⟩=true:=by
 unfold I9;simp [h0,h1,h2,h3]
theorem c5P {s:Str}(h:a0b s=true):I9 ⟨6,0,0,0,s,0⟩=true:=by unfold I9;simp [h]
theorem c3u {n:Int}(h0:0≤n)(h1:n≤1000000):I9 ⟨7,0,0,0,⟨[]⟩,n⟩=true:=by unfold I9;simp [h0,h1]
abbrev U7:=y6
theorem b5r (w:Value)(d:U7)(n:Int)(hd:I4 d)(h0:0 < n)(h1:n≤4611686018427387904):C5 gl prog 38 [dk w,.v n] [.ob w d] (fun r Hs=>r = .v (u6 d n).1∧Hs = [.ob w (u6 d n).2]):=c7w w d n hd h0 h1
instance (w:Value)(d:U7)(n:Int):CaM gl prog 38 [dk w,.v n] (.ob w d) [I4 d,0 < n,n≤4611686018427387904] (.v (u6 d n).1) (.ob w (u6 d n).2):=⟨fun hh=>b5r w d n hh.1 hh.2.1 hh.2.2.1⟩
def a6D (d:U7):Nat→Tag×U7
 | 0=>(default,d)
 | k+1=>(Q6 (a6D d k).1 (9*k) (UInt8.ofInt (u6 (a6D d k).2 256).1),(u6 (a6D d k).2 256).2)
theorem a8f {d:U7}(h:I4 d):∀ k,I4 (a6D d k).2
 | 0=>h
 | k+1=>B8 (a8f h k)
def a3t (d:U7):Tag×U7:=a6D d 4
theorem a7u {d:U7}(h:I4 d):I4 (a3t d).2:=a8f h 4
theorem c5Q (w:Value)(d:U7)(hd:I4 d):C5 gl prog 39 [dk w] [.ob w d] (fun r Hs=>r = .v (a3t d).1∧Hs = [.ob w (a3t d).2]):=by
 refine .go func39 rfl 16 [.cell 2 28] rfl (by kernel_rfl) fun C hG=>(.z hG (by kernel_rfl) fun b1 b2=>(.lp hG (fun k:Nat => [(4,.v (k:Int))]) (fun k => [(ptr b2 0,.ob (ptr b2 0) (a6D d k).1),(w,.ob w (a6D d k).2)]) (fun k=>k≤4) (fun k=>4 - k) 0 (by kernel_rfl) ⟨rfl,rfl,rfl,by decide,fun k hk => ?_⟩))
 have hok:=a8f hd k
 have e9:((k:Int)*9).toNat=9*k:=by omega
 rw [e9]
 refine⟨fun h=>⟨by omega,by omega,hok,by omega,by omega,by omega,by omega,by omega,by omega,k+1,rfl,rfl,rfl,by omega,by omega⟩,fun h => ?_⟩
 obtain rfl:k=4:=by omega
 exact P5.of [w] ⟨rfl,rfl⟩
def X5 (d:U7)(lo hi:Int):Int×U7:=(lo+(u6 d (hi - lo+1)).1,(u6 d (hi - lo+1)).2)
theorem c0r (w:Value)(d:U7)(lo up:Int)(hd:I4 d)(h:lo≤up)(h0 : -1000000000000000000≤lo)(h1:up≤1000000000000000000):C5 gl prog 123 [dk w,.v lo,.v up] [.ob w d] (fun r Hs=>r = .v (X5 d lo up).1∧Hs = [.ob w (X5 d lo up).2]):=by
 have:=F8 (d:=d) (n:=up - lo+1) (by omega)
 refine .go func123 j0 15 [.tmp 6] j0 (by kernel_rfl) fun C hG=>(.z hG (by kernel_rfl) ?_)
 refine⟨by omega,by omega,by omega,by omega,hd,by omega,by omega,by omega,by omega,P5.of [w] ⟨rfl,rfl⟩⟩
def a7v (m:Int)(s:Int×U7):Int×U7 :=
 if s.1=0 then (min (u6 s.2 4).1 m,(u6 s.2 4).2) else if s.1=1 then (min (u6 s.2 300).1 m,(u6 s.2 300).2) else
 if s.1=2 then (m - (u6 s.2 (min 3 (m+1))).1,(u6 s.2 (min 3 (m+1))).2) else u6 s.2 (m+1)
def a1d (d:U7)(m:Int):Int×U7:=a7v m (u6 d 4)
theorem c3v (w:Value)(d:U7)(m:Int)(hd:I4 d)(h0:0≤m)(h1:m≤281474976710657):C5 gl prog 127 [dk w,.v m] [.ob w d] (fun r Hs=>r = .v (a1d d m).1∧Hs = [.ob w (a1d d m).2]):=by
 have hok:=B8 (n:=4) hd
 have n2:=F8 (d:=(u6 d 4).2) (n:=300) (by decide)
 have n3:=F8 (d:=(u6 d 4).2) (n:=min 3 (m+1)) (by omega)
 have n4:=F8 (d:=(u6 d 4).2) (n:=m+1) (by omega)
 refine .go func127 j0 32 [.tmp 4] j0 (by kernel_rfl) fun C hG=>(.z hG (by kernel_rfl) ?_)
 repeat' (first|intro _|apply And.intro)
 all_goals first|assumption|omega|exact B8 (by assumption)|exact B8 (B8 (by assumption))|(refine P5.of [w] ?_;simp only [a1d,a7v, *,↓reduceIte];exact⟨rfl,rfl⟩)|(refine P5.of [w] ?_;simp [a1d,a7v, *])
def a33 (s:Int×U7):Int×U7 :=
 if s.1=0 then u6 s.2 4320 else if s.1=1 then (min ((u6 s.2 60).1*1440+(u6 (u6 s.2 60).2 3).1) 67108864,(u6 (u6 s.2 60).2 3).2) else
 if s.1=2 then (67108864 - (u6 s.2 4320).1,(u6 s.2 4320).2) else u6 s.2 67108865
def I6 (d:U7):Int×U7:=a33 (u6 d 4)
theorem b7j (w:Value)(d:U7)(hd:I4 d):C5 gl prog 125 [dk w] [.ob w d] (fun r Hs=>r = .v (I6 d).1∧Hs = [.ob w (I6 d).2]):=by
 have hok:=B8 (n:=4) hd
 have n1:=F8 (d:=(u6 d 4).2) (n:=4320) (by decide)
 have n2:=F8 (d:=(u6 d 4).2) (n:=60) (by decide)
 have n3:=F8 (d:=(u6 (u6 d 4).2 60).2) (n:=3) (by decide)
 refine .go func125 j0 25 [.tmp 2] j0 (by kernel_rfl) fun C hG=>(.z hG (by kernel_rfl) ?_)
 repeat' (first|intro _|apply And.intro)
 all_goals first|assumption|omega|exact B8 (by assumption)|exact B8 (B8 (by assumption))|(refine P5.of [w] ?_;simp only [I6,a33, *,↓reduceIte];exact⟨rfl,rfl⟩)|(refine P5.of [w] ?_;simp [I6,a33, *])
def c6G:List Str := [⟨[97]⟩,⟨[98]⟩,⟨[97,110,110]⟩,⟨[98,111,98]⟩,⟨[99,105,100]⟩,⟨[122,111,101]⟩,⟨[97,97]⟩,⟨[97,98,99,100,101,102,103,104,105,106,107,108,109,110,111,112]⟩]
def a3M (d:U7):Str×U7:=(c6G.getD (u6 d 8).1.toNat default,(u6 d 8).2)
theorem c3w (w:Value)(d:U7)(hd:I4 d):C5 gl prog 126 [dk w] [.ob w d] (fun r Hs=>r = .v (a3M d).1∧Hs = [.ob w (a3M d).2]):=by
 have:=F8 (d:=d) (n:=8) (by decide)
 refine .go func126 j0 8 [.tmp 2] j0 (by kernel_rfl) fun C hG=>(.z hG (by kernel_rfl) ?_)
 exact fun b=>⟨hd,by omega,by omega,by omega,by show _ < ((8:Nat):Int);omega,by show _ < 8;omega,P5.of [w] ⟨rfl,rfl⟩⟩
def a01 (s:Int×U7):UInt64×U7 :=
 if s.1=0 then (UInt64.ofInt (u6 s.2 16).1,(u6 s.2 16).2) else
 if s.1=1 then (UInt64.ofInt (u6 s.2 65536).1 ||| UInt64.ofInt (u6 (u6 s.2 65536).2 65536).1 <<< 48,(u6 (u6 s.2 65536).2 65536).2) else
 if s.1=2 then (~~~ UInt64.ofInt (u6 s.2 65536).1,(u6 s.2 65536).2) else (0,s.2)
def a4x (m:UInt64)(b:Int):UInt64:=if b < 64 then m &&& ((1 <<< UInt64.ofInt b) - 1) else m
def a02 (b:Int)(q:UInt64×U7):UInt64×U7:=if a4x q.1 b=0 then (1 <<< UInt64.ofInt (u6 q.2 b).1,(u6 q.2 b).2) else (a4x q.1 b,q.2)
def W8 (d:U7)(b:Int):UInt64×U7:=a02 b (a01 (u6 d 3))
theorem c0s {s:Int×U7}(h:s.1=0):a01 s=(UInt64.ofInt (u6 s.2 16).1,(u6 s.2 16).2):=if_pos h
theorem c0t {s:Int×U7}(h:¬s.1=0)(h1:s.1=1):a01 s=(UInt64.ofInt (u6 s.2 65536).1 ||| UInt64.ofInt (u6 (u6 s.2 65536).2 65536).1 <<< 48,(u6 (u6 s.2 65536).2 65536).2):=by unfold a01;rw [if_neg h,if_pos h1]
theorem c0u {s:Int×U7}(h:¬s.1=0)(h1:¬s.1=1)(h2:s.1=2):a01 s=(~~~ UInt64.ofInt (u6 s.2 65536).1,(u6 s.2 65536).2):=by unfold a01;rw [if_neg h,if_neg h1,if_pos h2]
theorem c0v {s:Int×U7}(h:¬s.1=0)(h1:¬s.1=1)(h2:¬s.1=2):a01 s=(0,s.2):=by unfold a01;rw [if_neg h,if_neg h1,if_neg h2]
theorem c0w {b:Int}{m:UInt64}{d:U7}(h:b < 64)(h0:m &&& ((1 <<< UInt64.ofInt b) - 1)=0):a02 b (m,d)=(1 <<< UInt64.ofInt (u6 d b).1,(u6 d b).2):=by unfold a02 a4x;simp only [if_pos h,if_pos h0]
theorem c0x {b:Int}{m:UInt64}{d:U7}(h:b < 64)(h0:¬m &&& ((1 <<< UInt64.ofInt b) - 1)=0):a02 b (m,d)=(m &&& ((1 <<< UInt64.ofInt b) - 1),d):=by unfold a02 a4x;simp only [if_pos h,if_neg h0]
theorem c0y {b:Int}{m:UInt64}{d:U7}(h:¬b < 64)(h0:m=0):a02 b (m,d)=(1 <<< UInt64.ofInt (u6 d b).1,(u6 d b).2):=by unfold a02 a4x;simp only [if_neg h,if_pos h0]
theorem c0z {b:Int}{m:UInt64}{d:U7}(h:¬b < 64)(h0:¬m=0):a02 b (m,d)=(m,d):=by unfold a02 a4x;simp only [if_neg h,if_neg h0]
theorem c3x (w:Value)(d:U7)(b:Int)(hd:I4 d)(hb:b=64∨b=32∨b=7):C5 gl prog 124 [dk w,.v b] [.ob w d] (fun r Hs=>r = .v (W8 d b).1∧Hs = [.ob w (W8 d b).2]):=by
 have hok:=B8 (n:=3) hd
 have hb64:b < 64→(UInt64.ofInt b).toNat < 64:=fun h=>by rcases hb with rfl|rfl|rfl;omega;decide;decide
 have hnx:∀ d,(UInt64.ofInt (u6 d b).1).toNat < 64:=fun d=>by
  have:=F8 (d:=d) (n:=b) (by omega)
  rw [ofInt_ofNat this.1];simp;omega
 refine .go func124 j0 45 [.tmp 4] j0 (by kernel_rfl) fun C hG=>(.z hG (by kernel_rfl) ?_)
 repeat' (first|refine wpA.z hG (by kernel_rfl) ?_|refine And.intro ?_ ?_|intro _)
 all_goals first|with_reducible assumption|omega|with_reducible exact hnx _|with_reducible exact hb64 (by assumption)|with_reducible exact B8 hok|with_reducible exact B8 (B8 hok)|skip
 all_goals first|(refine P5.of [w] ?_;rw [show W8 d b=a02 b (a01 (u6 d 3)) from rfl])|decide
 all_goals first|rw [c0s (by assumption)]|rw [c0t (by assumption) (by assumption)]|rw [c0u (by assumption) (by assumption) (by assumption)]|rw [c0v (by assumption) (by assumption) (by assumption)]
 all_goals first|rw [c0w (by assumption) (by assumption)]|rw [c0x (by assumption) (by assumption)]|rw [c0y (by assumption) (by assumption)]|rw [c0z (by assumption) (by assumption)]
 all_goals exact⟨rfl,rfl⟩
def a7w (s:Int×U7):Pred×U7 :=
  if (u6 (u6 (u6 s.2 1440).2 1440).2 3).1 = 0 then
      (⟨s.1,0,(u6 s.2 1440).1,((u6 s.2 1440).1+(u6 (u6 (u6 (u6 s.2 1440).2 1440).2 3).2 3).1+1440 - 1) % 1440,⟨[]⟩,0⟩,(u6 (u6 (u6 (u6 s.2 1440).2 1440).2 3).2 3).2)
    else (⟨s.1,0,(u6 s.2 1440).1,(u6 (u6 s.2 1440).2 1440).1,⟨[]⟩,0⟩,(u6 (u6 (u6 s.2 1440).2 1440).2 3).2)
def V4 (rides:Bool)(s:Int×U7):Pred×U7 :=
 if s.1=7∧¬rides=true∨s.1=4 then (⟨4,0,min (I6 s.2).1 (I6 (I6 s.2).2).1,max (I6 s.2).1 (I6 (I6 s.2).2).1,⟨[]⟩,0⟩,(I6 (I6 s.2).2).2) else
 if s.1=1 then (⟨s.1,(W8 s.2 64).1,0,0,⟨[]⟩,0⟩,(W8 s.2 64).2) else
 if s.1=2 then (⟨s.1,(W8 s.2 32).1,0,0,⟨[]⟩,0⟩,(W8 s.2 32).2) else
 if s.1=3 then (⟨s.1,(W8 s.2 7).1,0,0,⟨[]⟩,0⟩,(W8 s.2 7).2) else
 if s.1=5 then a7w s else
 if s.1=6 then (⟨s.1,0,0,0,(a3M s.2).1,0⟩,(a3M s.2).2) else (⟨s.1,0,0,0,⟨[]⟩,(a1d s.2 1000000).1⟩,(a1d s.2 1000000).2)
section
variable {rides:Bool}{s:Int×U7}
theorem b1V (h:s.1=7∧¬rides=true∨s.1=4):V4 rides s=(⟨4,0,min (I6 s.2).1 (I6 (I6 s.2).2).1,max (I6 s.2).1 (I6 (I6 s.2).2).1,⟨[]⟩,0⟩,(I6 (I6 s.2).2).2):=if_pos h
theorem b7k (h:s.1=4):V4 rides s=(⟨s.1,0,min (I6 s.2).1 (I6 (I6 s.2).2).1,max (I6 s.2).1 (I6 (I6 s.2).2).1,⟨[]⟩,0⟩,(I6 (I6 s.2).2).2):=by rw [h];exact b1V (.inr h)
theorem c0A (h:s.1=1):V4 rides s=(⟨s.1,(W8 s.2 64).1,0,0,⟨[]⟩,0⟩,(W8 s.2 64).2):=by unfold V4;rw [if_neg (by omega),if_pos h]
theorem c0B (h:s.1=2):V4 rides s=(⟨s.1,(W8 s.2 32).1,0,0,⟨[]⟩,0⟩,(W8 s.2 32).2):=by unfold V4;rw [if_neg (by omega),if_neg (by omega),if_pos h]
theorem c0C (h:s.1=3):V4 rides s=(⟨s.1,(W8 s.2 7).1,0,0,⟨[]⟩,0⟩,(W8 s.2 7).2):=by unfold V4;rw [if_neg (by omega),if_neg (by omega),if_neg (by omega),if_pos h]
theorem c0D (h:s.1=5):V4 rides s=a7w s:=by unfold V4;rw [if_neg (by omega),if_neg (by omega),if_neg (by omega),if_neg (by omega),if_pos h]
theorem c0E (h:s.1=6):V4 rides s=(⟨s.1,0,0,0,(a3M s.2).1,0⟩,(a3M s.2).2):=by unfold V4;rw [if_neg (by omega),if_neg (by omega),if_neg (by omega),if_neg (by omega),if_neg (by omega),if_pos h]
theorem c0F (hn:¬(s.1=7∧¬rides=true))(h:s.1=7):V4 rides s=(⟨s.1,0,0,0,⟨[]⟩,(a1d s.2 1000000).1⟩,(a1d s.2 1000000).2):=by unfold V4;rw [if_neg (fun q=>q.elim hn (by omega)),if_neg (by omega),if_neg (by omega),if_neg (by omega),if_neg (by omega),if_neg (by omega)]
end
def a2u (d:U7)(rides:Bool):Pred×U7:=V4 rides (X5 d 1 7)
theorem a5w {d:U7}(h:I4 d):I4 (I6 d).2:=by
 unfold I6 a33;repeat' split
 all_goals first|with_reducible exact B8 (B8 h)|exact B8 (B8 (B8 h))
theorem c0G {d:U7}(h:I4 d)(b:Int):I4 (W8 d b).2:=by
 unfold W8 a02
 have:I4 (a01 (u6 d 3)).2:=by
  unfold a01;repeat' split
  all_goals first|exact B8 h|exact B8 (B8 h)|exact B8 (B8 (B8 h))
 split
 ·exact B8 this
 ·exact this
theorem c0H {d:U7}(h:I4 d)(m:Int):I4 (a1d d m).2:=by
 unfold a1d a7v;repeat' split
 all_goals exact B8 (B8 h)
instance (w:Value)(d:U7)(lo:Int)(up:Int):CaM gl prog 123 [dk w,.v lo,.v up] (.ob w d) [I4 d,lo≤up,-1000000000000000000≤lo,up≤1000000000000000000] (.v (X5 d lo up).1) (.ob w (X5 d lo up).2):=⟨fun hh=>c0r w d lo up hh.1 hh.2.1 hh.2.2.1 hh.2.2.2.1⟩
instance (w:Value)(d:U7)(m:Int):CaM gl prog 127 [dk w,.v m] (.ob w d) [I4 d,0≤m,m≤281474976710657] (.v (a1d d m).1) (.ob w (a1d d m).2):=⟨fun hh=>c3v w d m hh.1 hh.2.1 hh.2.2.1⟩
instance (w:Value)(d:U7):CaM gl prog 125 [dk w] (.ob w d) [I4 d] (.v (I6 d).1) (.ob w (I6 d).2):=⟨fun hh=>b7j w d hh.1⟩
instance (w:Value)(d:U7):CaM gl prog 126 [dk w] (.ob w d) [I4 d] (.v (a3M d).1) (.ob w (a3M d).2):=⟨fun hh=>c3w w d hh.1⟩
instance (w:Value)(d:U7)(b:Int):CaM gl prog 124 [dk w,.v b] (.ob w d) [I4 d,b=64∨b=32∨b=7] (.v (W8 d b).1) (.ob w (W8 d b).2):=⟨fun hh=>c3x w d b hh.1 hh.2.1⟩
theorem c3y (w:Value)(d:U7)(rides:Bool)(hd:I4 d):C5 gl prog 67 [dk w,.v rides] [.ob w d] (fun r Hs=>r = .v (a2u d rides).1∧Hs = [.ob w (a2u d rides).2]):=by
 have hok:I4 (X5 d 1 7).2:=B8 hd
 have hs:1≤(X5 d 1 7).1∧(X5 d 1 7).1≤7:=by
  have:=F8 (d:=d) (n:=7 - 1+1) (by decide)
  unfold X5;dsimp only;omega
 rw [show a2u d rides=V4 rides (X5 d 1 7) from rfl]
 refine .go func67 j0 81 [.cell 4 131] j0 (by kernel_rfl) fun C hG=>(.z hG (by kernel_rfl) ?_)
 generalize X5 d 1 7=s at *
 have hok1:=B8 (n:=1440) hok
 have hok2:=B8 (n:=1440) hok1
 have hok3:=B8 (n:=3) hok2
 have hokm:=a5w hok
 have n1:=F8 (d:=s.2) (n:=1440) (by decide)
 have n2:=F8 (d:=(u6 (u6 (u6 s.2 1440).2 1440).2 3).2) (n:=3) (by decide)
 repeat' (first|refine wpA.z hG (by kernel_rfl) ?_|refine And.intro ?_ ?_|(intro h;try dsimp only at h))
 all_goals (try dsimp only)
 all_goals first|with_reducible assumption|omega|(rename_i h;omega)|(exfalso;revert ‹(4:Int)=_›;decide)|(exfalso;revert ‹¬(4:Int)=_›;decide)|skip
 all_goals refine P5.of [w] ?_
 all_goals first|(rw [b1V (.inl (by assumption))];exact⟨rfl,rfl⟩)|(rw [b7k (by assumption)];exact⟨rfl,rfl⟩)|(rw [c0A (by assumption)];exact⟨rfl,rfl⟩)|(rw [c0B (by assumption)];exact⟨rfl,rfl⟩)|(rw [c0C (by assumption)];exact⟨rfl,rfl⟩)|(rw [c0E (by assumption)];exact⟨rfl,rfl⟩)|(rw [c0F (by assumption) (by assumption)];exact⟨rfl,rfl⟩)|skip
 all_goals rw [c0D (by assumption),a7w]
 ·rw [if_pos (by assumption)];exact⟨rfl,rfl⟩
 ·rw [if_neg (by assumption)];exact⟨rfl,rfl⟩
theorem b1W {d:U7}(h:I4 d)(rides:Bool):I4 (a2u d rides).2:=by
 have hok:I4 (X5 d 1 7).2:=B8 h
 unfold a2u V4 a7w
 repeat' split
 all_goals first|with_reducible exact a5w (a5w hok)|with_reducible exact c0G hok _|with_reducible exact B8 (B8 (B8 (B8 hok)))|with_reducible exact B8 (B8 (B8 hok))|with_reducible exact c0H hok _|exact B8 hok
def a0d:Nat→U7→Bool→List Pred×U7
 | 0,d,_=>([],d)
 | k+1,d,r=>((a2u d r).1::(a0d k (a2u d r).2 r).1,(a0d k (a2u d r).2 r).2)
def Y1 (d:U7)(n:Int)(r:Bool):List Pred×U7:=a0d (u6 d (n+1)).1.toNat (u6 d (n+1)).2 r
theorem a6E:∀ (k:Nat) (d:U7) (r:Bool),I4 d→I4 (a0d k d r).2∧(a0d k d r).1.length=k
 | 0,_,_,h=>⟨h,rfl⟩
 | k+1,d,r,h=>by
  have:=a6E k _ r (b1W h r)
  exact⟨this.1,by rw [a0d,List.length_cons,this.2]⟩
instance (w:Value)(d:U7)(rides:Bool):CaM gl prog 67 [dk w,.v rides] (.ob w d) [I4 d] (.v (a2u d rides).1) (.ob w (a2u d rides).2):=⟨fun hh=>c3y w d rides hh.1⟩
theorem c0I (w:Value)(d:U7)(n:Int)(rides:Bool)(hd:I4 d)(h0:0≤n)(h1:n≤1000000):C5 gl prog 30 [dk w,.v n,.v rides] [.ob w d] (fun r Hs=>r = .v (Y1 d n rides).1∧Hs = [.ob w (Y1 d n rides).2]):=by
 have i6:a3B 7:=⟨trivial⟩
 have i10:FzW 6 7:=⟨trivial⟩
 have hl:=F8 (d:=d) (n:=n+1) (by omega)
 refine .go func30 rfl 24 [.tmp 6] rfl (by kernel_rfl) fun C hG=>(.z hG (by kernel_rfl) ⟨by omega,by omega,hd,by omega,by omega,?_⟩)
 have hq:Y1 d n rides=a0d (u6 d (n+1)).1.toNat (u6 d (n+1)).2 rides:=rfl
 rw [hq]
 obtain⟨m,hm⟩:=Int.eq_ofNat_of_zero_le hl.1
 rw [hm,Int.toNat_natCast]
 have hok:=B8 (n:=n+1) hd
 generalize (u6 d (n+1)).2=d0 at hok ⊢
 refine .lp hG (fun x:Nat×List Pred×U7×Value => [(8,.v (x.1:Int)),(7,.raw x.2.2.2)]) (fun x => [(.slice none 0 0,.own 131 x.2.2.2 x.2.1),(w,.ob w x.2.2.1)]) (fun x=>x.1+x.2.1.length=m∧I4 x.2.2.1∧a0d m d0 rides=(x.2.1++(a0d x.1 x.2.2.1 rides).1,(a0d x.1 x.2.2.1 rides).2)) (fun x=>x.1) (m,[],d0,.slice none 0 0) (by kernel_rfl) ⟨rfl,rfl,⟨by simp,hok,rfl⟩,fun ⟨k,acc,d1,v⟩ ⟨h1,h2,h3⟩ => ?_⟩
 dsimp only at h1 h2 h3 ⊢
 refine⟨fun h4=>⟨h2,fun _=>⟨by simp only [List.length_singleton];omega,by simp only [List.length_singleton];omega,fun w2=>⟨by omega,by omega,(k - 1,_,_,w2),?_,rfl,rfl,rfl,⟨by simp only [List.length_append,List.length_singleton];omega,b1W h2 rides,?_⟩,by show k - 1 < k;omega⟩⟩⟩,fun h4 => ?_⟩
 ·exact congrArg AV.v (by show(k:Int) - 1=((k - 1:Nat):Int);omega)
 ·rw [h3]
  obtain⟨j,rfl⟩:∃ j,k=j+1:=⟨k - 1,by omega⟩
  rw [a0d,Nat.add_sub_cancel]
  simp
 ·obtain rfl:k=0:=by omega
  rw [h3,a0d]
  exact P5.of [w] ⟨by simp,rfl⟩
theorem a8Q (d:U7):0≤(I6 d).1∧(I6 d).1≤67108864:=by
 have n1:=F8 (d:=(u6 d 4).2) (n:=4320) (by decide)
 have n2:=F8 (d:=(u6 d 4).2) (n:=60) (by decide)
 have n3:=F8 (d:=(u6 (u6 d 4).2 60).2) (n:=3) (by decide)
 have n4:=F8 (d:=(u6 d 4).2) (n:=67108865) (by decide)
 unfold I6 a33
 repeat' split
 all_goals (try dsimp only);omega
theorem c0J (d:U7){m:Int}(h:0≤m):0≤(a1d d m).1∧(a1d d m).1≤m:=by
 have n1:=F8 (d:=(u6 d 4).2) (n:=4) (by decide)
 have n2:=F8 (d:=(u6 d 4).2) (n:=300) (by decide)
 have n3:=F8 (d:=(u6 d 4).2) (n:=min 3 (m+1)) (by omega)
 have n4:=F8 (d:=(u6 d 4).2) (n:=m+1) (by omega)
 unfold a1d a7v
 repeat' split
 all_goals (try dsimp only);omega
theorem a6F (d:U7){b:Int}(hb:b=64∨b=32∨b=7):a3F (W8 d b).1 b=true:=by
 unfold W8
 generalize a01 (u6 d 3)=q
 have hn:=F8 (d:=q.2) (n:=b) (by omega)
 unfold a02
 split
 ·exact c8c hb hn.1 hn.2
 ·next h =>
  unfold a4x at h ⊢
  dsimp only
  split
  ·next h3=>rw [if_pos h3] at h;exact c8a hb h3 h
  ·next h3=>rw [if_neg h3] at h;exact c8b hb h3 h
theorem b7l (d:U7):a0b (a3M d).1=true:=by
 have hn:=F8 (d:=d) (n:=8) (by decide)
 unfold a3M
 dsimp only
 rw [List.getD_eq_getElem?_getD,List.getElem?_eq_getElem (by show _ < 8;omega)]
 exact(show ∀ s∈c6G,a0b s=true by decide) _ (List.getElem_mem _)
theorem b7m (d:U7)(r:Bool):I9 (a2u d r).1=true:=by
 have hs:1≤(X5 d 1 7).1∧(X5 d 1 7).1≤7:=by
  have:=F8 (d:=d) (n:=7 - 1+1) (by decide)
  unfold X5;dsimp only;omega
 unfold a2u
 generalize X5 d 1 7=s at hs
 unfold V4
 split
 ·have h1:=a8Q s.2
  have h2:=a8Q (I6 s.2).2
  exact c5O (by omega) (by omega) (by omega)
 split
 ·next h=>rw [h];exact b3h (.inl rfl) (a6F s.2 (.inl rfl))
 split
 ·next h=>rw [h];exact b3h (.inr (.inl rfl)) (a6F s.2 (.inr (.inl rfl)))
 split
 ·next h=>rw [h];exact b3h (.inr (.inr rfl)) (a6F s.2 (.inr (.inr rfl)))
 split
 ·next h =>
  have n1:=F8 (d:=s.2) (n:=1440) (by decide)
  have n2:=F8 (d:=(u6 s.2 1440).2) (n:=1440) (by decide)
  unfold a7w
  rw [h]
  split
  ·exact b5q (by omega) (by omega) (by omega) (by omega)
  ·exact b5q (by omega) (by omega) (by omega) (by omega)
 split
 ·next h=>rw [h];exact c5P (b7l s.2)
 ·have h7:s.1=7:=by omega
  have h1:=c0J s.2 (m:=1000000) (by decide)
  rw [h7];exact c3u h1.1 h1.2
theorem a8R:∀ (k:Nat) (d:U7) (r:Bool),∀ p∈(a0d k d r).1,I9 p=true
 | 0,_,_,_,h=>by cases h
 | k+1,d,r,p,h=>by
  rcases List.mem_cons.1 h with rfl|h
  ·exact b7m d r
  ·exact a8R k _ r p h
abbrev W4:=l8
def a0e (R:List Rec):List Item:=(R.filter fun r=>decide (r.Kind=4)).map (·.Item)
def Z0 (R:List Rec):List y2:=(R.filter fun r=>decide (r.Kind=2)).map (·.M0)
theorem a8S (R S:List Rec):a0e (R++S)=a0e R++a0e S:=by unfold a0e;rw [List.filter_append,List.map_append]
theorem a8T (R S:List Rec):Z0 (R++S)=Z0 R++Z0 S:=by unfold Z0;rw [List.filter_append,List.map_append]
theorem c0K {r:Rec}(h:r.Kind=4)(R:List Rec):a0e (r::R)=r.Item::a0e R:=by unfold a0e;rw [List.filter_cons,if_pos (by simpa using h)];rfl
theorem c0L {r:Rec}(h:r.Kind=2)(R:List Rec):a0e (r::R)=a0e R:=by unfold a0e;rw [List.filter_cons,if_neg (by simp [h])]
theorem c0M {r:Rec}(h:r.Kind=2)(R:List Rec):Z0 (r::R)=r.M0::Z0 R:=by unfold Z0;rw [List.filter_cons,if_pos (by simpa using h)];rfl
theorem c0N {r:Rec}(h:r.Kind=4)(R:List Rec):Z0 (r::R)=Z0 R:=by unfold Z0;rw [List.filter_cons,if_neg (by simp [h])]
def S7 (a:E7):W4×Int→List Item→W4×Int
 | x,[]=>x
 | x,i::l=>if x.2≠0 then x else S7 a (H6 a x.1 i) l
theorem a8U {a:E7}{x:W4×Int}(h:x.2≠0):∀ l,S7 a x l=x
 | []=>rfl
 | i::l=>by rw [S7,if_pos h]
theorem a6G {a:E7}{x:W4}{i:Item}{l:List Item}{y:W4}(h:S7 a (x,0) (i::l)=(y,0)):∃ z,H6 a x i=(z,0)∧S7 a (z,0) l=(y,0):=by
 rw [S7,if_neg e00] at h
 by_cases h2:(H6 a x i).2=0
 ·exact⟨(H6 a x i).1,Prod.ext rfl h2,by rw [←h];congr 1;exact Prod.ext rfl h2.symm⟩
 ·rw [a8U h2] at h
  rw [h] at h2;exact absurd rfl h2
theorem a8V (a:E7)(x:W4×Int):∀ l m,S7 a x (l++m)=S7 a (S7 a x l) m
 | [],m=>rfl
 | i::l,m=>by
  rw [List.cons_append,S7,S7]
  split
  ·next h=>rw [a8U h]
  ·exact a8V a _ l m
theorem a8W (a:E7)(x:W4)(M:List y2)(i:Item):H6 a { x with C8:=M } i=({ (H6 a x i).1 with C8:=M },(H6 a x i).2):=by
 unfold H6
 dsimp only
 split
 ·split
  ·rfl
  ·split<;>rfl
 ·rfl
theorem c0O (a:E7)(x:W4)(D:l9)(i:Item):H6 a { x with Device:=D } i=({ (H6 a x i).1 with Device:=D },(H6 a x i).2):=by
 unfold H6
 dsimp only
 split
 ·split
  ·rfl
  ·split<;>rfl
 ·rfl
theorem b0H {a:E7}{x y:W4}{i:Item}(h:H6 a x i=(y,0)):y.C8=x.C8∧y.Device=x.Device∧y.C9=x.C9∧y.Up=x.Up∧y.G3=x.G3 ++ [i]:=by
 unfold H6 at h
 split at h
 ·split at h
  ·next h2=>simp only [Prod.mk.injEq] at h;exact absurd h.2 h2
  ·split at h
   ·next h2=>simp only [Prod.mk.injEq] at h;exact absurd h.2 h2
   ·simp only [Prod.mk.injEq] at h;rw [←h.1];exact⟨rfl,rfl,rfl,rfl,rfl⟩
 ·simp only [Prod.mk.injEq] at h;rw [←h.1];exact⟨rfl,rfl,rfl,rfl,rfl⟩
theorem c3z {a b:E7}(hl:V2 a b){x y:W4}{i:Item}(h:H6 a x i=(y,0)):H6 b x i=(y,0):=by
 unfold H6 at h ⊢
 split at h
 ·next h1 =>
  split at h
  ·next h2=>simp only [Prod.mk.injEq] at h;exact absurd h.2 h2
  ·next h2 =>
   have e:L8 a x.C9 i=((L8 a x.C9 i).1,0):=Prod.ext rfl (Classical.not_not.1 h2)
   have e2:=b3g hl e
   rw [if_pos h1,e2,if_neg e00]
   exact h
 ·next h1=>rw [if_neg h1];exact h
theorem a27 {a b:E7}(hl:V2 a b):∀ {l:List Item} {x y:W4},S7 a (x,0) l=(y,0)→S7 b (x,0) l=(y,0)
 | [],_,_,h=>h
 | i::l,x,y,h=>by
  obtain⟨z,h1,h2⟩:=a6G h
  rw [S7,if_neg e00,c3z hl h1]
  exact a27 hl h2
theorem a6e {a:E7}(M:List y2):∀ {l:List Item} {x y:W4},S7 a (x,0) l=(y,0)→S7 a ({ x with C8:=M },0) l=({ y with C8:=M },0)
 | [],x,y,h=>by
  have h:(x,(0:Int))=(y,0):=h
  cases h;rfl
 | i::l,x,y,h=>by
  obtain⟨z,h1,h2⟩:=a6G h
  rw [S7,if_neg e00,a8W,h1]
  exact a6e M h2
theorem a4y {a:E7}:∀ {R:List Rec} {x y:W4},(∀ r∈R,r.Kind=2∨r.Kind=4)→S7 a (x,0) (a0e R)=(y,0)→replay a (x,0) R=({ y with C8:=x.C8++Z0 R },0)
 | [],x,y,_,h=>by
  have h:(x,(0:Int))=(y,0):=h
  cases h
  rw [replay,show Z0 [] = [] from rfl,List.append_nil]
 | r::R,x,y,hk,h=>by
  have hR:∀ r∈R,r.Kind=2∨r.Kind=4:=fun q hq=>hk q (List.mem_cons_of_mem _ hq)
  rw [replay,if_neg e00]
  rcases hk r List.mem_cons_self with h2|h4
  ·rw [c0L h2] at h
   have e:a32 a x r=({ x with C8:=x.C8 ++ [r.M0] },0):=by unfold a32;rw [if_neg (by omega),if_pos h2]
   rw [e,a4y hR (a6e (x.C8 ++ [r.M0]) h),c0M h2]
   simp
  ·rw [c0K h4] at h
   obtain⟨z,h5,h6⟩:=a6G h
   have e:a32 a x r=(z,0):=by unfold a32;rw [if_pos h4,h5]
   rw [e,a4y hR h6,c0N h4,(b0H h5).1]
theorem b1X {last:Int}{e:y3}(he:e.Number=last+1):∀ {l:List y3} {b:Int},b≤last→a7b last l b=true→a7b (last+1) (l ++ [e]) b=true
 | [],b,hb,_=>by simp [a7b];omega
 | x::l,b,hb,h=>by
  simp only [a7b,Bool.and_eq_true,decide_eq_true_eq,List.cons_append] at h ⊢
  exact⟨⟨h.1.1,by omega⟩,b1X he h.1.2 h.2⟩
theorem b7n {r:D5}{e:y3}(h:a1U r=true)(h1:e.Number=r.H7+1)(h2:1≤e.Number)(h3:e.Number≤1000):W0 r e=({ Live:=r.Live ++ [e],H7:=e.Number },0)∧a1U { Live:=r.Live ++ [e],H7:=e.Number }=true:=by
 refine⟨by unfold W0;rw [if_neg (by rw [h];decide),if_neg (by omega),if_neg (by simpa using h1)],?_⟩
 unfold a1U at h ⊢
 simp only [Bool.and_eq_true,decide_eq_true_eq] at h ⊢
 rw [h1]
 exact⟨⟨b1X h1 h.1.2 h.1.1,by omega⟩,by omega⟩
theorem a7x {r:D5}{n:Int}(h:(I5 r n).2=true):(I5 r n).1.Number=n:=by
 unfold I5 at h ⊢
 cases hf:r.Live.find? fun e=>decide (e.Number=n) with
 | none=>rw [hf] at h;cases h
 | some e=>have:=List.find?_some hf;simpa using this
theorem a6f (l:List y3)(e:y3):(I5 { Live:=l ++ [e],H7:=e.Number } e.Number).2=true:=by
 unfold I5
 cases hf:(l ++ [e]).find? fun x=>decide (x.Number=e.Number) with
 | none=>have:=List.find?_eq_none.1 hf e (List.mem_append_right _ List.mem_cons_self);simp at this
 | some x=>rfl
theorem G4.c3A {a:E7}{n:Nat}(h:G4 a n)(hn:n < 50000)(k:Tag){m:List UInt8}(hm:m.length≤1000):∃ t c,a2z a 0 k m=(t,c,0)∧G4 c (n+2)∧V2 a c:=by
 obtain⟨b,t,h1⟩:=h.step (by omega) k hm
 obtain⟨c,u,h2⟩:=h1.ok.step (by omega) t (m := [110,111,100,101]) (by decide)
 have e1:M9 a 0 k m=(t,b,0):=by rw [a1u rfl h1.eq];rfl
 have e2:M9 b 0 t [110,111,100,101]=(u,c,0):=by rw [a1u rfl h2.eq];rfl
 refine⟨t,c,?_,h2.ok,h1.le.trans h2.le⟩
 unfold a2z
 rw [e1];simp only [e2]
theorem b8I {q:Pred}(h:I9 q=true):S3 (a3K q)=true∧(E0 (a3K q)).length≤25:=by
 have h2:=a3G (a3Y h)
 refine⟨?_,by show(1::E3 q).length≤25;rw [List.length_cons];omega⟩
 unfold S3
 rw [if_neg (by show ¬false=true;decide)]
 show(I9 q&&decide ((0:Int)=0)&&decide (([]:List UInt8).length=0)&&decide (([]:List UInt8).length=0))=true
 rw [h];rfl
theorem c3B {a:E7}{n:Nat}(h:G4 a n)(hn:n < 50000){p:B6}(hp:p.y7.length < 64){q:Pred}(hq:I9 q=true):∃ c p',a1b a p (a3K q)=(c,p',0)∧G4 c (n+2)∧V2 a c∧p'.y7=p.y7 ++ [a3K q]∧p'.M8=p.M8∧p'.M5=p.M5:=by
 obtain⟨hc,hl⟩:=b8I hq
 have he:U2 (a3K q)=(E0 (a3K q),0):=a5J hc
 obtain⟨t,c,h1,h2,h3⟩:=h.c3A hn p.Tag (m := [99,97,118,101,97,116]++E0 (a3K q)) (by rw [List.length_append];simp;omega)
 have ht:a7o p (a3K q)=false:=by
  unfold a7o
  rw [show(a3K q).Z9=false from rfl]
  simp;omega
 have hE:b0w 0 p (a3K q)=0:=by unfold b0w;rw [ht,if_neg (by decide),he];rfl
 have hN:a2o a 0 p (a3K q)=(t,c,0):=by unfold a2o;rw [hE,he];exact h1
 exact⟨c,{ p with y7:=p.y7 ++ [a3K q],Tag:=t },by unfold a1b;rw [hN,if_neg e00],h2,h3,rfl,rfl,rfl⟩
theorem c5R {a:E7}{n:Nat}(h:G4 a n):∀ (l:List Pred),(∀ q∈l,I9 q=true)→n+2*l.length < 50000→∀ (p:B6),p.y7.length+l.length≤64→∃ c p',W3 (a,p,0) l=(c,p',0)∧G4 c (n+2*l.length)∧V2 a c∧p'.y7=p.y7++l.map a3K∧p'.M8=p.M8∧p'.M5=p.M5:=by
 intro l
 induction l generalizing a n with
 | nil=>intro _ _ p _;exact⟨a,p,rfl,h,V2.refl a,by simp,rfl,rfl⟩
 | cons q l ih =>
  intro hq hn p hp
  rw [List.length_cons] at hn hp
  obtain⟨c,p1,e1,o1,l1,c1,s1,p2⟩:=c3B h (by omega) (p:=p) (by omega) (hq q List.mem_cons_self)
  obtain⟨c2,p3,e2,o2,l2,c3,s2,p4⟩:=ih o1 (fun x hx=>hq x (List.mem_cons_of_mem _ hx)) (by omega) p1 (by rw [c1,List.length_append,List.length_singleton];omega)
  refine⟨c2,p3,?_,?_,l1.trans l2,?_,s2.trans s1,p4.trans p2⟩
  ·unfold W3 at e2 ⊢
   rw [List.foldl_cons]
   rw [show(if (a,p,(0:Int)).2.2≠0 then (a,p,(0:Int)) else a1b (a,p,(0:Int)).1 (a,p,(0:Int)).2.1 { (default:Cav) with V9:=q })=(c,p1,0) from(if_neg e00).trans e1]
   exact e2
  ·rw [List.length_cons];exact o2.le (by omega)
  ·rw [c3,c1,List.map_cons,List.append_assoc];rfl
theorem b5s {a:E7}{n:Nat}(h:G4 a n){root:y3}{s:Int}(h1:1≤root.Number∧root.Number≤1000)(h2:1≤s∧s≤1073741824){l:List Pred}(hq:∀ q∈l,I9 q=true)(hl:l.length≤64)(hn:n < 40000) :
    ∃ c p,W3 (U0 a root s) l=(c,p,0)∧G4 c (n+130)∧V2 a c∧p.y7=l.map a3K∧p.M8=s∧p.M5=root.Number:=by
  have hm:(a1w s).length≤1000:=by
    have:=H4 (n:=s.toNat) (by omega)
    unfold a1w;rw [List.length_append];simp;omega
  obtain⟨t,c,e1,o1,l1⟩:=h.c3A (by omega) root.Key hm
  have hr:a3Z root.Number s=true:=by unfold a3Z;simp;omega
  have e2:U0 a root s=(c,⟨root.Number,s,[],t⟩,0):=by
    unfold U0;rw [hr,if_neg (by decide),e1,if_neg e00]
  obtain⟨c2,p,e3,o2,l2,c3,s3,p3⟩:=c5R o1 l hq (by omega) ⟨root.Number,s,[],t⟩ (by show 0+l.length≤64;omega)
  exact⟨c2,p,by rw [e2];exact e3,o2.le (by omega),l1.trans l2,by rw [c3];rfl,s3,p3⟩
def a1A (key:Tag)(D:l9):W4 := { (default:W4) with C9:=key,Device:=D,Up:=true }
structure U4 (a:E7)(n k:Nat)(x:W4)(R:List Rec):Prop where
 alg:G4 a n
 up:x.Up=true
 ring:a1U x.Ring=true
 live:x.Ring.Live.length≤k
 last:0≤x.Ring.H7∧x.Ring.H7≤k
 items:x.G3.length≤k
 a1i:x.C8.length≤k
 a1D:∀ r∈R,(r.Kind=2∨r.Kind=4)∧L7 r=0∧r.Item.Kind≠2
 len:R.length≤k
 ri:a0e R=x.G3
 rm:Z0 R=x.C8
 st:∀ D,S7 a (a1A x.C9 D,0) x.G3=({ x with C8 := [],Device:=D },0)
structure a1B (k:Nat)(D:l9)(R:List Rec):Prop where
 S5:D8 D=S6 (R.map M4)
 act:D.B9=0∨D.B9=1
 off:D.Off=false
 cut:D.a0F=0
 wr:0≤D.D9∧D.D9≤k
 dev:W9 D
 cap:((D8 D).length:Int)≤D.F9
 c3C:D.F9≤1048576
theorem U4.dev {a:E7}{n k:Nat}{x:W4}{R:List Rec}(h:U4 a n k x R)(D:l9):U4 a n k { x with Device:=D } R :=
 ⟨h.alg,h.up,h.ring,h.live,h.last,h.items,h.a1i,h.a1D,h.len,h.ri,h.rm,h.st⟩
theorem U4.le {a:E7}{n k:Nat}{x:W4}{R:List Rec}(h:U4 a n k x R){b:E7}{m j:Nat}(hb:G4 b m)(hl:V2 a b)(hk:k≤j):U4 b m j x R :=
 ⟨hb,h.up,h.ring,Nat.le_trans h.live hk,⟨h.last.1,by have:=h.last.2;omega⟩,Nat.le_trans h.items hk,Nat.le_trans h.a1i hk,h.a1D,Nat.le_trans h.len hk,h.ri,h.rm,fun D=>a27 hl (h.st D)⟩
theorem U4.replay {a:E7}{n k:Nat}{x:W4}{R:List Rec}(h:U4 a n k x R){S:List Rec}(hS:∀ r∈S,r.Kind=2∨r.Kind=4)(h1:a0e S=x.G3)(h2:Z0 S=x.C8){b:E7}(hl:V2 a b)(D:l9):replay b (a1A x.C9 D,0) S=({ x with Device:=D },0):=by
 have e:=a4y (a:=b) (x:=a1A x.C9 D) hS (by rw [h1];exact a27 hl (h.st D))
 rw [e,h2];rfl
theorem U4.ib {a:E7}{n k:Nat}{x:W4}{R:List Rec}(h:U4 a n k x R)(hk:k≤1000)(hd:W9 x.Device):IsB x:=by
 have h1:=h.live;have h2:=h.items;have h3:=h.a1i
 refine⟨by omega,by omega,fun m hm => ?_,by omega,fun i hi => ?_,hd⟩
 ·rw [←h.rm] at hm
  obtain⟨r,hr,rfl⟩:=List.mem_map.1 hm
  obtain⟨hr,hk2⟩:=List.mem_filter.1 hr
  have hk2:r.Kind=2:=by simpa using hk2
  rcases b7i (h.a1D r hr).1 (h.a1D r hr).2.1 with q|q
  ·exact q.2.2
  ·omega
 ·rw [←h.ri] at hi
  obtain⟨r,hr,rfl⟩:=List.mem_map.1 hi
  obtain⟨hr,hk2⟩:=List.mem_filter.1 hr
  have hk2:r.Kind=4:=by simpa using hk2
  rcases b7i (h.a1D r hr).1 (h.a1D r hr).2.1 with q|q
  ·omega
  ·have:=q.2.2;omega
theorem a1B.le {k j:Nat}{D:l9}{R:List Rec}(h:a1B k D R)(hk:k≤j):a1B j D R:=⟨h.S5,h.act,h.off,h.cut,⟨h.wr.1,by have:=h.wr.2;omega⟩,h.dev,h.cap,h.c3C⟩
theorem b3i {a:E7}{n k:Nat}{x:W4}{R:List Rec}(h:U4 a n k x R)(hd:a1B k x.Device R)(hk:k≤1000):IsG x:=⟨h.ib hk hd.dev,hd.act,by have:=hd.wr;omega⟩
theorem U4.item {a:E7}{n k:Nat}{x:W4}{R:List Rec}(h:U4 a n k x R){b:E7}{m:Nat}(hb:G4 b m)(hl:V2 a b){i:Item}{y:W4}(ht:H6 b x i=(y,0))(hc:L7 (a0V i)=0)(hk:i.Kind≠2)
    (hr:a1U y.Ring=true)(hv:y.Ring.Live.length≤k+1)(hL:0≤y.Ring.H7∧y.Ring.H7≤(k+1:Nat)):U4 b m (k+1) y (R ++ [a0V i]):=by
  obtain⟨q1,q2,q3,q4,q5⟩:=b0H ht
  have h2:=h.items;have h3:=h.a1i;have h4:=h.len
  refine⟨hb,q4.trans h.up,hr,hv,hL,by rw [q5,List.length_append,List.length_singleton];omega,by rw [q1];omega,fun r hr => ?_,by rw [List.length_append,List.length_singleton];omega,?_,?_,fun D => ?_⟩
  · rcases List.mem_append.1 hr with hr|hr
    · exact h.a1D r hr
    · rw [List.mem_singleton.1 hr];exact⟨.inr rfl,hc,hk⟩
  · rw [a8S,h.ri,q5];rfl
  · rw [a8T,h.rm,q1];exact List.append_nil _
  · have e:S7 b (a1A x.C9 D,0) (x.G3 ++ [i])=({ y with C8 := [],Device:=D },0):=by
      rw [a8V,a27 hl (h.st D)]
      show S7 b (H6 b { x with C8 := [],Device:=D } i) []=_
      rw [show({ x with C8 := [],Device:=D }:W4) = { ({ x with Device:=D }:W4) with C8 := [] } from rfl,a8W,c0O,ht]
      rfl
    conv=>lhs;rw [q5,q3]
    exact e
theorem a7y:(default:Item).Kind=0:=rfl
theorem U4.c5A {a:E7}{n k:Nat}{x:W4}{R:List Rec}(h:U4 a n k x R){b:E7}{m:Nat}(hb:G4 b m)(hl:V2 a b){t:y2}(hc:L7 (a0p t)=0):U4 b m (k+1) { x with C8:=x.C8 ++ [t] } (R ++ [a0p t]):=by
 have h1:=h.live;have h2:=h.items;have h3:=h.a1i;have h4:=h.len;have h5:=h.last
 refine⟨hb,h.up,h.ring,by show x.Ring.Live.length≤_;omega,⟨h5.1,by show x.Ring.H7≤_;omega⟩,by show x.G3.length≤_;omega,by show(x.C8 ++ [t]).length≤_;rw [List.length_append,List.length_singleton];omega,fun r hr => ?_,by rw [List.length_append,List.length_singleton];omega,?_,?_,fun D => ?_⟩
 ·rcases List.mem_append.1 hr with hr|hr
  ·exact h.a1D r hr
  ·rw [List.mem_singleton.1 hr];exact⟨.inl rfl,hc,by show(default:Item).Kind≠2;rw [a7y];decide⟩
 ·rw [a8S,h.ri];exact List.append_nil _
 ·rw [a8T,h.rm];rfl
 ·exact a27 hl (h.st D)
structure b0I (a:E7)(n k:Nat)(x:W4)(R:List Rec)(op:W4→E7×W4×Int)(b:E7)(r:Rec)(ch:W4→W4):Prop where
 eq:∀ D,op { x with Device:=D }=a0f a b { x with Device:=D } r ch
 le:V2 a b
 rk:r.Kind=2∨r.Kind=4
 rc:L7 r=0
 d2M:∀ D,U4 b (n+130) (k+1) (ch { x with Device:=D }) (R ++ [r])∧(ch { x with Device:=D }).Device=D∧(ch { x with Device:=D }).C9=x.C9
 last:∀ D,x.Ring.H7≤(ch { x with Device:=D }).Ring.H7∧((I5 x.Ring x.Ring.H7).2=true→(I5 (ch { x with Device:=D }).Ring (ch { x with Device:=D }).Ring.H7).2=true)
theorem U4.rotate {a:E7}{n k:Nat}{x:W4}{R:List Rec}(h:U4 a n k x R)(hn:n < 30000)(hk:k≤500):∃ b r ch,b0I a n k x R (a1F a) b r ch∧∀ D,(I5 (ch { x with Device:=D }).Ring (ch { x with Device:=D }).Ring.H7).2=true∧1≤(ch { x with Device:=D }).Ring.H7∧(ch { x with Device:=D }).G3.length=x.G3.length+1∧(ch { x with Device:=D }).C8=x.C8∧(ch { x with Device:=D }).Ring.H7=x.Ring.H7+1:=by
 have h5:=h.last;have h6:=h.items
 obtain⟨b,t,hK⟩:=h.alg.c5L (by omega)
 obtain⟨c,y,hE⟩:=hK.ok.c77 (by omega) x.C9 (place:=x.G3.length+1) (e:=⟨x.Ring.H7+1,t⟩) (by omega) (by omega) (by show 1≤x.Ring.H7+1;omega) (by show x.Ring.H7+1≤1000;omega)
 obtain⟨bx,tg,hx,hy⟩:=hE.item
 have hle:=hK.le.trans hE.le
 have hyk:y.Kind=1:=by rw [hy];rfl
 obtain⟨hA,hO⟩:=b7n (r:=x.Ring) (e:=⟨x.Ring.H7+1,t⟩) h.ring rfl (by show 1≤x.Ring.H7+1;omega) (by show x.Ring.H7+1≤1000;omega)
 have hT:∀ D,H6 c { x with Device:=D } y=({ x with Device:=D,Ring := { Live:=x.Ring.Live ++ [⟨x.Ring.H7+1,t⟩],H7:=x.Ring.H7+1 },G3:=x.G3 ++ [y] },0):=fun D=>by
  unfold H6
  rw [if_pos hyk,hE.ep,if_neg e00]
  show(if (W0 x.Ring ⟨x.Ring.H7+1,t⟩).2≠0 then _ else _)=_
  rw [hA,if_neg e00]
 have hc:L7 (a0V y)=0:=by
  rw [hy]
  exact a8O ⟨by show 1≤(x.G3.length:Int)+1;omega,by show(x.G3.length:Int)+1≤4096;omega⟩ ⟨by show(1:Int)≤1;omega,by show(1:Int)≤3;omega⟩ ⟨by show 0≤x.Ring.H7+1;omega,by show x.Ring.H7+1≤1000;omega⟩ (by show bx.length≤1024;omega)
 refine⟨c,a0V y,fun z=>(H6 c z y).1,⟨fun D => ?_,hle,.inr j0,hc,fun D => ?_,fun D => ?_⟩,fun D => ?_⟩
 ·unfold a1F
  rw [if_neg (by show ¬¬x.Up=true;rw [h.up];decide),if_neg (by show ¬(1000≤x.Ring.H7∨4096≤(x.G3.length:Int));omega),hK.eq,if_neg e00]
  show(if (K3 b x.C9 (x.G3.length+1) ⟨x.Ring.H7+1,t⟩).2.2≠0 then _ else S1 a (K3 b x.C9 (x.G3.length+1) ⟨x.Ring.H7+1,t⟩).1 { x with Device:=D } (K3 b x.C9 (x.G3.length+1) ⟨x.Ring.H7+1,t⟩).2.1)=_
  rw [hE.eq,if_neg e00]
  rfl
 ·show U4 c (n+130) (k+1) (H6 c { x with Device:=D } y).1 _∧(H6 c { x with Device:=D } y).1.Device=D∧_
  rw [hT D]
  refine⟨(h.dev D).item (hE.ok.le (by omega)) hle (hT D) hc (by rw [hyk];decide) hO ?_ ⟨by show 0≤x.Ring.H7+1;omega,by show x.Ring.H7+1≤_;omega⟩,rfl,rfl⟩
  show(x.Ring.Live ++ [_]).length≤k+1
  have:=h.live
  rw [List.length_append,List.length_singleton];omega
 ·show x.Ring.H7≤(H6 c { x with Device:=D } y).1.Ring.H7∧((I5 x.Ring x.Ring.H7).2=true→(I5 (H6 c { x with Device:=D } y).1.Ring (H6 c { x with Device:=D } y).1.Ring.H7).2=true)
  rw [hT D]
  exact⟨by show x.Ring.H7≤x.Ring.H7+1;omega,fun _=>a6f x.Ring.Live ⟨x.Ring.H7+1,t⟩⟩
 ·show(I5 (H6 c { x with Device:=D } y).1.Ring (H6 c { x with Device:=D } y).1.Ring.H7).2=true∧1≤(H6 c { x with Device:=D } y).1.Ring.H7∧(H6 c { x with Device:=D } y).1.G3.length=x.G3.length+1∧(H6 c { x with Device:=D } y).1.C8=x.C8∧(H6 c { x with Device:=D } y).1.Ring.H7=x.Ring.H7+1
  rw [hT D]
  exact⟨a6f x.Ring.Live ⟨x.Ring.H7+1,t⟩,by show 1≤x.Ring.H7+1;omega,by show(x.G3 ++ [y]).length=_;rw [List.length_append];rfl,rfl,rfl⟩
theorem U4.c8d {a:E7}{n k:Nat}{x:W4}{R:List Rec}(h:U4 a n k x R)(hn:n < 30000)(hk:k≤500)(t:Tag):∃ b r ch,b0I a n k x R (fun z=>a5V a z t) b r ch:=by
 have h5:=h.last;have h6:=h.items
 have hit:a6C x { (default:Item) with Kind:=3,Node:=t }=⟨x.G3.length+1,3,0,t,[],default⟩:=rfl
 have hie:L6 (⟨x.G3.length+1,3,0,t,[],default⟩:Item)=0:=by
  unfold L6
  simp only
  rw [if_neg (by omega),if_neg (by simp),if_neg (by omega),if_neg (by omega)]
 obtain⟨c,y,hS⟩:=h.alg.c3t (by omega) x.C9 hie (by simp)
 obtain⟨tg,hy⟩:=hS.item
 have hyk:y.Kind=3:=by rw [hy]
 have hT:∀ z,H6 c z y=({ z with G3:=z.G3 ++ [y] },0):=fun z=>by unfold H6;rw [if_neg (by rw [hyk];decide)]
 have hc:L7 (a0V y)=0:=by
  rw [hy]
  exact a8O ⟨by show 1≤(x.G3.length:Int)+1;omega,by show(x.G3.length:Int)+1≤4096;omega⟩ ⟨by show(1:Int)≤3;omega,by show(3:Int)≤3;omega⟩ ⟨by show(0:Int)≤0;omega,by show(0:Int)≤1000;omega⟩ (by show 0≤1024;omega)
 refine⟨c,a0V y,fun z=>(H6 c z y).1,⟨fun D => ?_,hS.le,.inr j0,hc,fun D => ?_,fun D => ?_⟩⟩
 ·show a5V a { x with Device:=D } t=_
  unfold a5V a4J
  rw [if_neg (by show ¬¬x.Up=true;rw [h.up];decide),if_neg (by show ¬4096≤(x.G3.length:Int);omega)]
  show(if (K9 a x.C9 (a6C x { (default:Item) with Kind:=3,Node:=t })).2.2≠0 then _ else S1 a (K9 a x.C9 (a6C x { (default:Item) with Kind:=3,Node:=t })).1 { x with Device:=D } (K9 a x.C9 (a6C x { (default:Item) with Kind:=3,Node:=t })).2.1)=_
  rw [hit,hS.eq,if_neg e00]
  rfl
 ·show U4 c (n+130) (k+1) (H6 c { x with Device:=D } y).1 _∧(H6 c { x with Device:=D } y).1.Device=D∧_
  rw [hT]
  exact⟨(h.dev D).item (hS.ok.le (by omega)) hS.le (hT _) hc (by rw [hyk];decide) h.ring (Nat.le_succ_of_le h.live) ⟨h5.1,by show x.Ring.H7≤_;omega⟩,rfl,rfl⟩
 ·show x.Ring.H7≤(H6 c { x with Device:=D } y).1.Ring.H7∧((I5 x.Ring x.Ring.H7).2=true→(I5 (H6 c { x with Device:=D } y).1.Ring (H6 c { x with Device:=D } y).1.Ring.H7).2=true)
  rw [hT]
  exact⟨Int.le_refl _,fun q=>q⟩
theorem U4.c8e {a:E7}{n k:Nat}{x:W4}{R:List Rec}(h:U4 a n k x R)(hn:n < 30000)(hk:k≤500)(hf:(I5 x.Ring x.Ring.H7).2=true)(h1:1≤x.Ring.H7){l:List Pred}(hq:∀ q∈l,I9 q=true)(hl:l.length≤64):∃ b r ch,b0I a n k x R (fun z=>((P8 a z l).1,(P8 a z l).2.1,(P8 a z l).2.2.2)) b r ch:=by
 have h5:=h.last;have h6:=h.a1i
 have hr:=a7x hf
 obtain⟨c,p,hP,hA,hle,hc,hs,he⟩:=b5s h.alg (root:=(I5 x.Ring x.Ring.H7).1) (s:=x.C8.length+1) (by rw [hr];omega) (by omega) hq hl (by omega)
 have hm:L7 (a0p (a5v x p))=0:=a8P ⟨by show 1≤(x.C8.length:Int)+1;omega,by show(x.C8.length:Int)+1≤_;omega⟩ ⟨by show 1≤(I5 x.Ring x.Ring.H7).1.Number;rw [hr];exact h1,by show(I5 x.Ring x.Ring.H7).1.Number≤1000;rw [hr];omega⟩ (by show p.y7.length≤64;rw [hc,List.length_map];exact hl) fun q hq2=>by
  have hq2:q∈p.y7:=hq2
  rw [hc] at hq2
  obtain⟨u,hu,rfl⟩:=List.mem_map.1 hq2
  have:=b8I (hq u hu)
  exact⟨this.1,by have:=this.2;omega⟩
 refine⟨c,a0p (a5v x p),fun z => { z with C8:=z.C8 ++ [a5v x p] },⟨fun D => ?_,hle,.inl j0,hm,fun D=>⟨(h.dev D).c5A hA hle hm,j0,j0⟩,fun D=>⟨Int.le_refl _,fun q=>q⟩⟩⟩
 have hP2:a7r a { x with Device:=D } l=(c,p,0):=hP
 have e:P8 a { x with Device:=D } l=a8L a { x with Device:=D } (c,p,0):=by
  unfold P8
  rw [if_neg (by show ¬¬x.Up=true;rw [h.up];decide),if_neg (by show ¬¬(I5 x.Ring x.Ring.H7).2=true;rw [hf];decide),if_neg (by omega),if_neg (by show ¬1073741824 < (x.C8.length:Int)+1;omega),hP2]
 show((P8 a { x with Device:=D } l).1,(P8 a { x with Device:=D } l).2.1,(P8 a { x with Device:=D } l).2.2.2)=_
 rw [e]
 unfold a8L
 rw [if_neg e00]
 show _=a1z a { x with Device:=D } (c,p,0)
 split
 ·rfl
 ·next h7=>exact Prod.ext rfl (Prod.ext rfl (Classical.not_not.1 h7).symm)
theorem b3j (D:l9)(A:List UInt8)(n:Int)(hn:n=0∨n=1):(Q6 D.F6 n.toNat A).l.getD n.toNat default=A:=by
 have h:=c2w D.F6 A
 rcases hn with rfl|rfl
 ·exact h.1
 ·exact h.2.2.2
theorem b0J {D:l9}(h:W9 D){A:List UInt8}(hA:A.length≤100000000)(n:Nat):∀ a∈(Q6 D.F6 n A).l,a.length≤100000000:=fun a ha=>by
 rcases List.mem_or_eq_of_mem_set ha with h1|h1
 ·exact h a h1
 ·rw [h1];exact hA
theorem a5x {D:l9}{k:Nat}{R:List Rec}(h:a1B k D R):(D8 D).length≤1048576:=by
 have:=h.cap;have:=h.c3C;omega
theorem a1B.save {D:l9}{k:Nat}{R:List Rec}(h:a1B k D R){r:Rec}(hk:r.Kind=2∨r.Kind=4)(hc:L7 r=0)(hr:((D8 D).length:Int)+(jFr (M4 r)).length≤D.F9) :
    ∃ E,a0G D r=(E,0)∧a1B (k+1) E (R ++ [r])∧E.F9=D.F9∧D8 E=D8 D++jFr (M4 r):=by
  have hl:=a5x h
  have hw:=h.wr
  have hcp:=h.c3C
  have e1:(D8 D).take ((D8 D).length:Int).toNat=D8 D:=by rw [Int.toNat_natCast,List.take_length]
  have ha:D8 { D with D9:=D.D9+1,F6:=Q6 D.F6 D.B9.toNat ((D8 D).take ((D8 D).length:Int).toNat++jFr (M4 r)),B9:=D.B9 }=D8 D++jFr (M4 r):=by
    show(Q6 D.F6 D.B9.toNat _).l.getD D.B9.toNat default=_
    rw [b3j D _ _ h.act,e1]
  refine⟨_,(b0F hk hc).trans (a6t (by rw [h.off];decide) (by omega) (by rw [h.cut];omega)),⟨?_,h.act,h.off,h.cut,⟨by show 0≤D.D9+1;omega,by show D.D9+1≤((k+1:Nat):Int);omega⟩,?_,?_,h.c3C⟩,rfl,ha⟩
  · refine ha.trans ?_
    rw [h.S5,List.map_append,a8N]
    show _=_++(jFr (M4 r) ++ [])
    rw [List.append_nil]
  · refine b0J h.dev ?_ _
    show((D8 D).take ((D8 D).length:Int).toNat++jFr (M4 r)).length≤_
    rw [e1,List.length_append];omega
  · show((D8 { D with D9:=D.D9+1,F6:=Q6 D.F6 D.B9.toNat ((D8 D).take ((D8 D).length:Int).toNat++jFr (M4 r)),B9:=D.B9 }).length:Int)≤D.F9
    rw [ha,List.length_append];omega
theorem a1B.full {D:l9}{k:Nat}{R:List Rec}(h:a1B k D R){r:Rec}(hk:r.Kind=2∨r.Kind=4)(hc:L7 r=0)(hr:D.F9 < ((D8 D).length:Int)+(jFr (M4 r)).length):a0G D r=(D,26):=by
 rw [b0F hk hc];unfold P1
 rw [if_neg (by rw [h.off];decide),if_pos hr]
theorem a1B.a4R {D:l9}{k:Nat}{R:List Rec}(h:a1B k D R){r:Rec}(hk:r.Kind=2∨r.Kind=4)(hc:L7 r=0)(hr:((D8 D).length:Int)+(jFr (M4 r)).length≤D.F9)(t:Nat) :
    ∃ E,a0G (a6d D t) r=(E,27)∧D8 E=D8 D++(jFr (M4 r)).take (min t (jFr (M4 r)).length)∧W9 E∧E.B9=D.B9 ∧ -1000000000≤E.D9∧E.D9≤(k+1:Nat):=by
  have hl:=a5x h
  have hw:=h.wr
  have hcp:=h.c3C
  have e1:(D8 D).take ((D8 D).length:Int).toNat=D8 D:=by rw [Int.toNat_natCast,List.take_length]
  have em:(min (max (t:Int) 0) ((jFr (M4 r)).length:Int)).toNat=min t (jFr (M4 r)).length:=by omega
  refine⟨_,(b0F (d:=a6d D t) hk hc).trans (a5n (by show ¬D.Off=true;rw [h.off];decide) (by show ¬D.F9 < ((D8 D).length:Int)+_;omega) rfl),?_,?_,rfl,by show -1000000000≤D.D9+1;omega,by show D.D9+1≤((k+1:Nat):Int);omega⟩
  · show(Q6 D.F6 D.B9.toNat ((D8 D).take ((D8 D).length:Int).toNat++(jFr (M4 r)).take (min (max (t:Int) 0) ((jFr (M4 r)).length:Int)).toNat)).l.getD D.B9.toNat default=_
    rw [b3j D _ _ h.act,e1,em]
  · refine b0J (D:=D) h.dev ?_ _
    show((D8 D).take ((D8 D).length:Int).toNat++(jFr (M4 r)).take (min (max (t:Int) 0) ((jFr (M4 r)).length:Int)).toNat).length≤_
    rw [e1,List.length_append,List.length_take];omega
theorem b0I.ok {a:E7}{n k:Nat}{x:W4}{R:List Rec}{op:W4→E7×W4×Int}{b:E7}{r:Rec}{ch:W4→W4}(p:b0I a n k x R op b r ch)(hd:a1B k x.Device R)(hr:((D8 x.Device).length:Int)+(jFr (M4 r)).length≤x.Device.F9) :
    ∃ y,op x=(b,y,0)∧U4 b (n+130) (k+1) y (R ++ [r])∧a1B (k+1) y.Device (R ++ [r])∧y.Device.F9=x.Device.F9∧D8 y.Device=D8 x.Device++jFr (M4 r)∧y.C9=x.C9∧x.Ring.H7≤y.Ring.H7∧((I5 x.Ring x.Ring.H7).2=true→(I5 y.Ring y.Ring.H7).2=true)∧∃ D,y=ch { x with Device:=D }:=by
  obtain⟨E,h1,h2,h3,h4⟩:=hd.save p.rk p.rc hr
  obtain⟨g1,g2,g3⟩:=p.d2M E
  obtain⟨l1,l2⟩:=p.last E
  refine⟨ch { x with Device:=E },?_,g1,by rw [g2];exact h2,by rw [g2];exact h3,by rw [g2];exact h4,g3,l1,l2,E,rfl⟩
  have:=p.eq x.Device
  rw [show({ x with Device:=x.Device }:W4)=x from rfl] at this
  rw [this];unfold a0f;rw [h1,if_pos rfl]
theorem b0I.full {a:E7}{n k:Nat}{x:W4}{R:List Rec}{op:W4→E7×W4×Int}{b:E7}{r:Rec}{ch:W4→W4}(p:b0I a n k x R op b r ch)(hd:a1B k x.Device R)(hr:x.Device.F9 < ((D8 x.Device).length:Int)+(jFr (M4 r)).length):(op x).2.2=26:=by
 have h1:=hd.full p.rk p.rc hr
 have:=p.eq x.Device
 rw [show({ x with Device:=x.Device }:W4)=x from rfl] at this
 rw [this];unfold a0f;rw [h1,if_neg (show ¬(26:Int)=0 by decide),if_neg (show ¬(26:Int)=27 by decide)]
theorem b0I.a4R {a:E7}{n k:Nat}{x:W4}{R:List Rec}{op:W4→E7×W4×Int}{b:E7}{r:Rec}{ch:W4→W4}(p:b0I a n k x R op b r ch)(hd:a1B k x.Device R)(hr:((D8 x.Device).length:Int)+(jFr (M4 r)).length≤x.Device.F9)(t:Nat) :
    ∃ E,op { x with Device:=a6d x.Device t }=(b,Y9 x E,27)∧D8 E=D8 x.Device++(jFr (M4 r)).take (min t (jFr (M4 r)).length)∧W9 E∧E.B9=x.Device.B9 ∧ -1000000000≤E.D9∧E.D9≤(k+1:Nat):=by
  obtain⟨E,h1,h2,h3,h4,h5,h6⟩:=hd.a4R p.rk p.rc hr t
  refine⟨E,?_,h2,h3,h4,h5,h6⟩
  rw [p.eq];unfold a0f;rw [h1,if_neg (show ¬(27:Int)=0 by decide),if_pos rfl]
  rfl
structure d2N (a b:E7)(x:W4)(D:l9)(S:List Rec):Prop where
 eq:V1 b (Y9 x D)=({ x with Device:=F3 D },0)
 S5:D8 (F3 D)=S6 (S.map M4)
 jl:(a08 (D8 (F3 D))).1.length≤100000
 jr:∀ r∈(a08 (D8 (F3 D))).1,r.length≤1000000∧((O3 ⟨r,0⟩).1=2∨(O3 ⟨r,0⟩).1=4)
 jk:∀ r∈(Z2 (F3 D)).1,r.Item.Kind≠2∧r.Item.O6.length≤1000000
 dev:W9 (F3 D)
theorem b0K {a:E7}{n k:Nat}{x:W4}{R:List Rec}(h:U4 a n k x R)(hk:k≤1000){b:E7}(hl:V2 a b){S:List Rec}(hS:∀ r∈S,(r.Kind=2∨r.Kind=4)∧L7 r=0∧r.Item.Kind≠2)(hSl:S.length≤1000)(h1:a0e S=x.G3)(h2:Z0 S=x.C8){D:l9}{t:List UInt8}(ht:a1V t=none)(hD:D8 D=S6 (S.map M4)++t)(ha:D.B9=0∨D.B9=1)(hd:W9 D):d2N a b x D S:=by
 have hS2:∀ r∈S,(r.Kind=2∨r.Kind=4)∧L7 r=0:=fun r hr=>⟨(hS r hr).1,(hS r hr).2.1⟩
 have hj:=(b8H hS2 ht hD).1
 have hA:D8 (F3 D)=S6 (S.map M4):=by
  show(Q6 D.F6 D.B9.toNat ((D8 D).take (a08 (D8 D)).2)).l.getD D.B9.toNat default=_
  rw [b3j D _ _ ha,hj,hD]
  exact List.take_left
 have hJ:=b8H (d:=F3 D) (t := []) hS2 b5n (by rw [hA,List.append_nil])
 have hR:=h.replay (fun r hr=>(hS r hr).1) h1 h2 hl (F3 D)
 refine⟨?_,hA,by rw [hJ.1,List.length_map];omega,fun r hr => ?_,fun r hr => ?_,?_⟩
 ·unfold V1
  rw [if_neg (by show ¬false=true;decide),show Z2 (F3 (Y9 x D).Device)=(S,0) from hJ.2,if_neg e00]
  show(if (replay b (a1A x.C9 (F3 D),0) S).2≠0 then _ else ((replay b (a1A x.C9 (F3 D),0) S).1,(0:Int)))=_
  rw [hR,if_neg e00]
 ·rw [hJ.1] at hr
  obtain⟨q,hq,rfl⟩:=List.mem_map.1 hr
  have:=a7t (hS2 q hq).1 (hS2 q hq).2
  exact⟨by have:=this.1.2;omega,by rw [this.2];exact(hS2 q hq).1⟩
 ·rw [hJ.2] at hr
  have q:=hS r hr
  refine⟨q.2.2,?_⟩
  rcases b7i q.1 q.2.1 with w|w
  ·rw [w.2.1];show(default:Item).O6.length≤_;exact Nat.zero_le _
  ·have:=w.2.2;omega
 ·refine b0J hd ?_ _
  rw [List.length_take]
  have:=hd.at D.B9.toNat
  exact Nat.le_trans (Nat.min_le_right _ _) this
def a1C (s:Int×U7)(a:E7)(x:W4):E7×W4×Int :=
 if s.1=0 then a1F a x else if s.1=1 then a5V a x (a3t s.2).1 else ((P8 a x (Y1 s.2 3 true).1).1,(P8 a x (Y1 s.2 3 true).1).2.1,(P8 a x (Y1 s.2 3 true).1).2.2.2)
def a6g (s:Int×U7):U7:=if s.1=0 then s.2 else if s.1=1 then (a3t s.2).2 else (Y1 s.2 3 true).2
def a4K (a:E7)(x:W4)(d:U7):E7×W4×Int:=a1C (u6 d 3) a x
theorem c3D {d:U7}(h:I4 d):I4 (a6g (u6 d 3)):=by
 have h1:=B8 (n:=3) h
 unfold a6g;split
 ·exact h1
 split
 ·exact a7u h1
 ·exact(a6E _ _ _ (B8 h1)).1
structure b5t (x:W4):Prop where
 find:(I5 x.Ring x.Ring.H7).2=true
 one:1≤x.Ring.H7
theorem U4.done {a:E7}{n k:Nat}{x:W4}{R:List Rec}(h:U4 a n k x R)(hn:n < 30000)(hk:k≤500)(hr:b5t x){d:U7}(hd:I4 d):∃ b r ch,b0I a n k x R (fun z=>a4K a z d) b r ch:=by
 show ∃ b r ch,b0I a n k x R (fun z=>a1C (u6 d 3) a z) b r ch
 have hs:=B8 (n:=3) hd
 generalize u6 d 3=s at *
 by_cases h0:s.1=0
 ·obtain⟨b,r,ch,hp,_⟩:=h.rotate hn hk
  refine⟨b,r,ch,?_⟩
  rw [show(fun z=>a1C s a z)=a1F a from funext fun z=>by unfold a1C;rw [if_pos h0]]
  exact hp
 by_cases h1:s.1=1
 ·obtain⟨b,r,ch,hp⟩:=h.c8d hn hk (a3t s.2).1
  refine⟨b,r,ch,?_⟩
  rw [show(fun z=>a1C s a z)=(fun z=>a5V a z (a3t s.2).1) from funext fun z=>by unfold a1C;rw [if_neg h0,if_pos h1]]
  exact hp
 ·have hl:=F8 (d:=s.2) (n:=3+1) (by decide)
  have hk2:=a6E (u6 s.2 (3+1)).1.toNat (u6 s.2 (3+1)).2 true (B8 hs)
  obtain⟨b,r,ch,hp⟩:=h.c8e hn hk hr.find hr.one (l:=(Y1 s.2 3 true).1) (a8R _ _ _) (by show(a0d _ _ _).1.length≤64;rw [hk2.2];omega)
  refine⟨b,r,ch,?_⟩
  rw [show(fun z=>a1C s a z)=(fun z=>((P8 a z (Y1 s.2 3 true).1).1,(P8 a z (Y1 s.2 3 true).1).2.1,(P8 a z (Y1 s.2 3 true).1).2.2.2)) from funext fun z=>by unfold a1C;rw [if_neg h0,if_neg h1]]
  exact hp
structure c5S (a:E7)(x:W4):Prop where
 g:IsG x
 alg:G4 a 60000
 last : -1000000≤x.Ring.H7
 a1i:x.C8.length≤999999
structure St (a:E7)(n k:Nat)(x:W4)(R:List Rec):Prop where
 c:U4 a n k x R
 d:a1B k x.Device R
 r:b5t x
theorem b5t.step {x y:W4}(h:b5t x)(h1:x.Ring.H7≤y.Ring.H7)(h2:(I5 x.Ring x.Ring.H7).2=true→(I5 y.Ring y.Ring.H7).2=true):b5t y:=⟨h2 h.find,Int.le_trans h.one h1⟩
theorem b3k {r:Rec}(hk:r.Kind=2∨r.Kind=4)(hc:L7 r=0):(jFr (M4 r)).length≤4102:=by
 have:=(a7t hk hc).1.2
 rw [a5N];omega
theorem St.le {a:E7}{n k:Nat}{x:W4}{R:List Rec}(h:St a n k x R){m j:Nat}(hm:n≤m)(hj:k≤j):St a m j x R:=⟨h.c.le (h.c.alg.le hm) (V2.refl a) hj,h.d.le hj,h.r⟩
theorem St.done {a:E7}{n k:Nat}{x:W4}{R:List Rec}(h:St a n k x R)(hn:n < 30000)(hk:k≤500){d:U7}(hd:I4 d) :
    (∃ b y r,a4K a x d=(b,y,0)∧St b (n+130) (k+1) y (R ++ [r])∧y.Device.F9=x.Device.F9∧(D8 y.Device).length≤(D8 x.Device).length+4102)∨((a4K a x d).2.2=26∧x.Device.F9 < ((D8 x.Device).length:Int)+4102):=by
  obtain⟨b,r,ch,hp⟩:=h.c.done hn hk h.r hd
  have hf:=b3k hp.rk hp.rc
  by_cases hr:((D8 x.Device).length:Int)+(jFr (M4 r)).length≤x.Device.F9
  · obtain⟨y,h1,h2,h3,h4,h5,_,h7,h8,_⟩:=hp.ok h.d hr
    exact .inl ⟨b,y,r,h1,⟨h2,h3,h.r.step h7 h8⟩,h4,by rw [h5,List.length_append];omega⟩
  · exact .inr ⟨hp.full h.d (by omega),by omega⟩
theorem b8J {x:W4}{D:l9}(ha:D.B9=0∨D.B9=1)(hd:W9 D)(hw : -1000000000≤D.D9∧D.D9≤1000000000):IsG (Y9 x D):=by
 refine⟨⟨?_,?_,fun m hm => ?_,?_,fun i hi => ?_,hd⟩,ha,hw⟩
 ·exact Nat.zero_le _
 ·exact Nat.zero_le _
 ·cases hm
 ·exact Nat.zero_le _
 ·cases hi
structure d2O (a:E7)(n k:Nat)(x:W4)(d:U7)(t:Nat)(b:E7)(y:W4)(E:l9)(want:W4)(S:List Rec):Prop where
 ok:a4K a x d=(b,y,0)
 cut:a4K a { x with Device:=a6d x.Device t } d=(b,Y9 x E,27)
 wanted:want=if ((D8 y.Device).length:Int) - (D8 x.Device).length≤t then y else x
 alg:G4 b (n+130)
 g:IsG (Y9 x E)
 rs:V1 b (Y9 x E)=({ want with Device:=F3 E },0)
 jl:(a08 (D8 (F3 E))).1.length≤100000
 jr:∀ r∈(a08 (D8 (F3 E))).1,r.length≤1000000∧((O3 ⟨r,0⟩).1=2∨(O3 ⟨r,0⟩).1=4)
 jk:∀ r∈(Z2 (F3 E)).1,r.Item.Kind≠2∧r.Item.O6.length≤1000000
 dev:W9 (F3 E)
 data:D8 (F3 E)=D8 want.Device
 wb:IsB want
 d0I:y.Device.B9=0∨y.Device.B9=1
 yl:(D8 y.Device).length≤1048576
theorem St.d0J {a:E7}{n k:Nat}{x:W4}{R:List Rec}(h:St a n k x R)(hn:n < 30000)(hk:k≤400){d:U7}(hd:I4 d)(hroom:((D8 x.Device).length:Int)+4102≤x.Device.F9)(t:Nat):∃ b y E want S,d2O a n k x d t b y E want S:=by
 obtain⟨b,r,ch,hp⟩:=h.c.done hn (by omega) h.r hd
 have hf:=b3k hp.rk hp.rc
 have hr:((D8 x.Device).length:Int)+(jFr (M4 r)).length≤x.Device.F9:=by omega
 obtain⟨y,h1,h2,h3,h4,h5,h6,h7,h8,_⟩:=hp.ok h.d hr
 obtain⟨E,q1,q2,q3,q4,q5,q6⟩:=hp.a4R h.d hr t
 have hE:E.B9=0∨E.B9=1:=by rw [q4];exact h.d.act
 have hrl:=(a7t hp.rk hp.rc).1
 have hl:=a5N (M4 r)
 have hc:∀ D,Y9 y D=Y9 x D:=fun D=>by unfold Y9;rw [h6]
 have hw:=h.c.len
 have hw2:=h2.len
 have hlen:((D8 y.Device).length:Int) - (D8 x.Device).length=(jFr (M4 r)).length:=by rw [h5,List.length_append];omega
 have hx2:x.Device.B9=0∨x.Device.B9=1:=h.d.act
 by_cases ht:(jFr (M4 r)).length≤t
 ·have q:=b0K h2 (by omega) (V2.refl b) (S:=R ++ [r]) h2.a1D (by omega) h2.ri h2.rm b5n (D:=E) (by rw [q2,List.append_nil,List.map_append,a8N,h.d.S5,Nat.min_eq_right ht,List.take_length];show _=_++(_ ++ []);rw [List.append_nil]) hE q3
  have e:=q.eq
  rw [hc] at e
  exact⟨b,y,E,y,R ++ [r],h1,q1,by rw [if_pos (by omega)],h2.alg,b8J hE q3 ⟨q5,by omega⟩,e,q.jl,q.jr,q.jk,q.dev,by rw [q.S5,h3.S5],h2.ib (by omega) h3.dev,h3.act,a5x h3⟩
 ·have q:=b0K h.c (by omega) hp.le (S:=R) h.c.a1D (by omega) h.c.ri h.c.rm (t:=(jFr (M4 r)).take (min t (jFr (M4 r)).length)) (c0p hrl (by omega)) (D:=E) (by rw [q2,h.d.S5]) hE q3
  exact⟨b,y,E,x,R,h1,q1,by rw [if_neg (by omega)],h2.alg,b8J hE q3 ⟨q5,by omega⟩,q.eq,q.jl,q.jr,q.jk,q.dev,by rw [q.S5,h.d.S5],h.c.ib (by omega) h.d.dev,h3.act,a5x h3⟩
def D0 (c:Int):l9 := { (default:l9) with F9:=c }
theorem b5u (key:Tag){c:Int}(h0:0≤c)(h1:c≤1048576):a0H key c=(a1A key (D0 c),0):=by
 have e:a2n c=(D0 c,0):=by unfold a2n;rw [if_neg (by omega)];rfl
 unfold a0H;rw [e,if_neg e00];rfl
theorem b3l {a:E7}{n:Nat}(hA:G4 a n)(key:Tag)(D:l9):U4 a n 0 (a1A key D) [] :=
 ⟨hA,rfl,show a1U default=true by decide,Nat.le_refl _,⟨Int.le_refl _,Int.le_refl _⟩,Nat.le_refl _,Nat.le_refl _,(fun r hr=>(by cases hr)),Nat.le_refl _,rfl,rfl,fun _=>rfl⟩
theorem b3m {c:Int}(h0:0≤c)(h1:c≤1048576):a1B 0 (D0 c) [] :=
 ⟨rfl,.inl rfl,rfl,rfl,⟨Int.le_refl _,Int.le_refl _⟩,fun a ha=>by
  have:a = []:=by
   have ha:a ∈ [([]:List UInt8),[]]:=ha
   simpa using ha
  rw [this];exact Nat.zero_le _,h0,h1⟩
theorem c3E {a:E7}{n:Nat}(hA:G4 a n)(hn:n < 30000)(key:Tag){c:Int}(h0:0≤c)(h1:c≤1048576) :
    (∃ b y r,a1F a (a1A key (D0 c))=(b,y,0)∧St b (n+130) 1 y [r]∧y.G3.length=1∧y.C8 = []∧y.Ring.H7=1∧y.Device.F9=c∧(D8 y.Device).length≤4102)∨((a1F a (a1A key (D0 c))).2.2=26∧c < 4102):=by
  have hg:=b3l hA key (D0 c)
  have hd:a1B 0 (a1A key (D0 c)).Device []:=b3m h0 h1
  have hl:(D8 (D0 c)).length=0:=rfl
  obtain⟨b,r,ch,hp,hx⟩:=hg.rotate hn (by omega)
  have hf:=b3k hp.rk hp.rc
  by_cases hr:((D8 (a1A key (D0 c)).Device).length:Int)+(jFr (M4 r)).length≤(a1A key (D0 c)).Device.F9
  · obtain⟨y,q1,q2,q3,q4,q5,_,q7,q8,D,q9⟩:=hp.ok hd hr
    obtain⟨w1,w2,w3,w4,w5⟩:=hx D
    rw [←q9] at w1 w2 w3 w4 w5
    refine .inl ⟨b,y,r,q1,⟨q2,q3,⟨w1,w2⟩⟩,w3,w4,w5,q4,?_⟩
    rw [q5,List.length_append]
    show(D8 (D0 c)).length+_≤_
    omega
  · refine .inr ⟨hp.full hd (by omega),?_⟩
    have hr:¬((D8 (D0 c)).length:Int)+(jFr (M4 r)).length≤c:=hr
    omega
theorem c3F {a:E7}(hA:G4 a 0)(key:Tag):∃ (b:E7) (y:W4) (p:B6) (z:E7×W4),a1F a (a1A key (D0 10000))=(b,y,0)∧c5S b y∧P8 b y []=(z.1,z.2,p,0)∧z.2.G3.length=1∧z.2.C8.length=1∧p.M8=1∧p.M5=1:=by
 obtain⟨b,y,r,h1,h2,h3,h4,h5,h6,h7⟩:=(c3E hA (by decide) key (c:=10000) (by decide) (by decide)).resolve_right fun h=>absurd h.2 (by decide)
 have hf:=h2.r.find
 have hr:=a7x hf
 have hm:y.C8.length=0:=by rw [h4];rfl
 obtain⟨c,p,hP,hAc,hle,hc,hs,he⟩:=b5s h2.c.alg (root:=(I5 y.Ring y.Ring.H7).1) (s:=y.C8.length+1) (by rw [hr];omega) (by omega) (l := []) (fun q hq=>by cases hq) (by decide) (by omega)
 have hck:L7 (a0p (a5v y p))=0:=a8P ⟨by show 1≤(y.C8.length:Int)+1;omega,by show(y.C8.length:Int)+1≤_;omega⟩ ⟨by show 1≤(I5 y.Ring y.Ring.H7).1.Number;rw [hr];omega,by show(I5 y.Ring y.Ring.H7).1.Number≤1000;rw [hr];omega⟩ (by show p.y7.length≤64;rw [hc];decide) fun q hq2=>by
  have hq2:q∈p.y7:=hq2
  rw [hc] at hq2;cases hq2
 have hfl:=b3k (r:=a0p (a5v y p)) (.inl rfl) hck
 obtain⟨E,k1,k2,k3,k4⟩:=h2.d.save (.inl rfl) hck (by omega)
 have hM:a1z b y (c,p,0)=(c,{ y with Device:=E,C8:=y.C8 ++ [a5v y p] },0):=by
  unfold a1z a0f;rw [k1,if_pos rfl]
 have hF:P8 b y []=(c,{ y with Device:=E,C8:=y.C8 ++ [a5v y p] },p,0):=by
  unfold P8
  rw [if_neg (by rw [h2.c.up];decide),if_neg (by rw [hf];decide),if_neg (by decide),if_neg (by omega),show a7r b y []=(c,p,0) from hP]
  unfold a8L
  rw [if_neg e00,hM,if_neg e00]
 refine⟨b,y,p,(c,{ y with Device:=E,C8:=y.C8 ++ [a5v y p] }),h1,⟨b3i h2.c h2.d (by decide),h2.c.alg.le (by decide),by omega,by omega⟩,hF,h3,?_,?_,?_⟩
 ·show(y.C8 ++ [a5v y p]).length=1
  rw [List.length_append,hm];rfl
 ·rw [hs,hm];rfl
 ·rw [he,hr,h5]
end Go.Proofs.YtfdifhfnpbphaaaGreatDoor
namespace Go.Ab
open Go.Fl
class CaP (G:Gl)(P:Program)(f:FuncId)(ag:List AV)(D:outParam (List Prop))(R:outParam (Value→AV))(B':outParam (Value→C0)):Prop where h:Y5 D→C5 G P f ag [] (fun x Hs=>∃ u,x=R u∧Hs = [B' u])
instance {G:Gl}{P:Program}{f:FuncId}{ag:List AV}{D:List Prop}{R:Value→AV}{B':Value→C0}[k:CaP G P f ag D R B']:CaX G P f ag Value D (fun _=>True) R (fun u => [B' u]):=⟨fun hD=>(k.h hD).mono fun x Hs h=>by
 obtain⟨u,h1,h2⟩:=h
 exact⟨u,trivial,h1,h2⟩⟩
instance (priority:=3000){G:Gl}{P:Program}{l os:List Oper}{nm:Nat→Nm}{k:Nat}{σ σ':o7}{H H':j8}{T:List (Nm→R5)}{ts:List (Option (Nat×Nat))}{D D1 D2:List Prop}{d:Nat}{ty:TypeId}{ps:String}{af:Array Edge}{f:FuncId}{args:Array Operand}{tys:Array TypeId}{ag:List AV}{p:Nat}{F0:Bool×C0→j8}
    {R:Value→AV}{B':Value→C0}[hv:AsQ true (P7 σ ⟨some d,.call ⟨.value (.func f),args,tys⟩,ty,ps,af,none⟩) args.toList ag][c:CaP G P f ag D1 R B'][ho:HlQ H p F0]
    [q:ChQ G P l nm (k+1) os ((d,R (nm k).1)::σ) (F0 (true,B' (nm k).1)) T ts σ' H' D2][cj:Cj D1 D2 D] :
    ChQ G P l nm k (⟨some d,.call ⟨.value (.func f),args,tys⟩,ty,ps,af,none⟩::os) σ H ((fun v=>⟨some (p,2),R v.1,(true,B' v.1)⟩)::T) (some (p,2)::ts) σ' H' D :=
  ⟨fun N C F hG hD hF=>⟨⟨a0S,ho.get,fun H' F' hh=>OpH.c1T hh (.a52 hG.2 (c.h (cj.of hD).1) (hv.h C H' rfl) fun r Hs e=>by
    obtain⟨u,rfl,rfl⟩:=e
    exact⟨_,rfl,(u,0),rfl,rfl,rfl⟩)⟩,by
    show chU P C N l nm F (k+1) os T _ (H.set p _)
    rw [ho.set];exact q.h N C F hG (cj.of hD).2 hF⟩,by rw [evT,List.map_cons,q.t]⟩
section
variable {P:Program}{C:Ctx}{N:Nat}
theorem wpA.lpO {G:Gl}{Q:Exit→o7→j8→Prop}{c:Code}{σ:o7}{H:j8}{α:Type}{R:o7}{Hf:α→j8}{S:α→o7}{EX:α→List Bool}{AX:α→(Exit→o7→j8→Prop)→Prop}{E:List Bool}{p q r:List Prop}{A:Prop}(hG:GC G C)(V:α→o7)(U:α→List (Value×C0))(F:α→Prop)(μ:α→Nat)(x0:α)
    [fi:FiQ (V x0) σ σ R][up:∀ x,UpQ H (U x) (Hf x)][v:EqQ (V x0) σ p][u:HeQ H (Hf x0) q][cj:Cj p q r][ap:∀ x,ApE (V x) R (S x)][k:∀ x (Q':Exit→o7→j8→Prop),Rw 1 G P C N 1000 (.a c (a1e (a62 R V Hf F μ x) Q')) (S x) (Hf x) (EX x) (AX x Q')][cE:CoQ EX E][a:PrQ r (F x0∧∀ x,F x→AX x Q) A](e:a0A E=true)(h:A):wpA P C N (.loop c) Q σ H:=by
  obtain⟨h1,h2,h3⟩:=a.h h
  obtain⟨h4,h5⟩:=cj.of h1
  exact .c2b V Hf F μ x0 h2 (v.h h4 fi.h) (u.h h5) fun x hF=>(ap x).h▸(k x Q).h hG (cast (congrArg (fun z=>a0A z=true) (cE.h x)).symm e) (h3 x hF)
end
end Go.Ab
namespace Go.Proofs.YtfdifhfnpbphaaaGreatDoor
open Go.Proofs.Tryz
open Go.Fl Go.Ab Go.Mac Go.Sha
theorem a8g (a:E7)(x:W4)(h:IsG x)(hA:G4 a 60000)(hr : -1000000≤x.Ring.H7):C3 gl prog 10 [.v a,.v x] (fun r=>r = .t3 (.v (a1F a x).1) (.v (a1F a x).2.1) (.v (a1F a x).2.2)):=c3m a x 60000 h hA (Nat.le_refl _) hr
theorem c0P (a:E7)(x:W4)(t:Tag)(h:IsG x)(hA:G4 a 60000):C3 gl prog 46 [.v a,.v x,.v t] (fun r=>r = .t3 (.v (a5V a x t).1) (.v (a5V a x t).2.1) (.v (a5V a x t).2.2)):=c3n a x t 60000 h hA (Nat.le_refl _)
theorem b5v (a:E7)(x:W4)(l:List Pred)(h:IsG x)(hA:G4 a 60000)(hm:x.C8.length≤999999):C3 gl prog 31 [.v a,.v x,.v l] (fun r=>r = .t4 (.v (P8 a x l).1) (.v (P8 a x l).2.1) (.v (P8 a x l).2.2.1) (.v (P8 a x l).2.2.2)):=c71 a x l 60000 h hA (Nat.le_refl _) hm
instance (w:Value)(d:U7)(n:Int):CaM gl prog 38 [dk w,.v n] (.ob w d) [I4 d,0 < n,n≤4611686018427387904] (.v (u6 d n).1) (.ob w (u6 d n).2):=⟨fun hh=>b5r w d n hh.1 hh.2.1 hh.2.2.1⟩
instance (w:Value)(d:U7):CaM gl prog 39 [dk w] (.ob w d) [I4 d] (.v (a3t d).1) (.ob w (a3t d).2):=⟨fun hh=>c5Q w d hh.1⟩
instance (w:Value)(d:U7)(n:Int)(rides:Bool):CaM gl prog 30 [dk w,.v n,.v rides] (.ob w d) [I4 d,0≤n,n≤1000000] (.v (Y1 d n rides).1) (.ob w (Y1 d n rides).2):=⟨fun hh=>c0I w d n rides hh.1 hh.2.1 hh.2.2.1⟩
instance (a:E7)(x:W4):Q5 gl prog 10 [.v a,.v x] [IsG x,G4 a 60000,-1000000≤x.Ring.H7] (.t3 (.v (a1F a x).1) (.v (a1F a x).2.1) (.v (a1F a x).2.2)):=⟨fun hh=>a8g a x hh.1 hh.2.1 hh.2.2.1⟩
instance (a:E7)(x:W4)(t:Tag):Q5 gl prog 46 [.v a,.v x,.v t] [IsG x,G4 a 60000] (.t3 (.v (a5V a x t).1) (.v (a5V a x t).2.1) (.v (a5V a x t).2.2)):=⟨fun hh=>c0P a x t hh.1 hh.2.1⟩
instance (a:E7)(x:W4)(l:List Pred):Q5 gl prog 31 [.v a,.v x,.v l] [IsG x,G4 a 60000,x.C8.length≤999999] (.t4 (.v (P8 a x l).1) (.v (P8 a x l).2.1) (.v (P8 a x l).2.2.1) (.v (P8 a x l).2.2.2)):=⟨fun hh=>b5v a x l hh.1 hh.2.1 hh.2.2.1⟩
theorem b7o (a:E7)(x:W4)(w:Value)(d:U7)(h:c5S a x)(hd:I4 d):C5 gl prog 11 [.v a,.v x,dk w] [.ob w d] (fun r Hs=>r = .t3 (.v (a4K a x d).1) (.v (a4K a x d).2.1) (.v (a4K a x d).2.2)∧Hs = [.ob w (a6g (u6 d 3))]):=by
 have hok:=B8 (n:=3) hd
 have h1:=h.g
 have h2:=h.alg
 have h4:=h.last
 have h5:=h.a1i
 show C5 _ _ _ _ _ (fun r Hs=>r = .t3 (.v (a1C (u6 d 3) a x).1) (.v (a1C (u6 d 3) a x).2.1) (.v (a1C (u6 d 3) a x).2.2)∧_)
 refine .go func11 rfl 46 [.cell 6 46,.cell 7 39,.tmp 8] rfl (by kernel_rfl) fun C hG=>(.z hG (by kernel_rfl) fun b b1 b2 b3=>⟨hd,by decide,by decide,fun q=>⟨h1,h2,h4,P5.of [w] ⟨?_,?_⟩⟩,fun q=>⟨fun q1=>⟨hok,h1,h2,P5.of [w] ⟨?_,?_⟩⟩,fun q1=>⟨hok,by decide,by decide,h1,h2,h5,by repeat' first|exact trivial|refine⟨fun _ _=>by kernel_rfl,?_⟩,fun nm=>P5.of [w] ⟨?_,?_⟩⟩⟩⟩)
 ·unfold a1C;rw [if_pos q]
 ·unfold a6g;rw [if_pos q]
 ·unfold a1C;rw [if_neg q,if_pos q1]
 ·unfold a6g;rw [if_neg q,if_pos q1]
 ·unfold a1C;rw [if_neg q,if_neg q1]
 ·unfold a6g;rw [if_neg q,if_neg q1]
instance (free:Bool)(seed:Tag):Q5 gl prog 37 [.v free,.v seed] [] (.v (⟨free,seed,0,[],[]⟩:y9)):=⟨fun hh=>c7y free seed⟩
instance (key:Tag)(n:Int):Q5 gl prog 22 [.v key,.v n] [] (.t2 (.v (a0H key n).1) (.v (a0H key n).2)):=⟨fun hh=>c5v key n⟩
instance (key:Tag)(n:Int):Q5 gl prog 9 [.v key,.v n] [] (.t2 (.v (a0H key n).1) (.v (a0H key n).2)):=⟨fun hh=>b3a key n⟩
theorem c5T (w:Value)(d:U7)(hd:I4 d):C5 gl prog 8 [dk w] [.ob w d] (fun r Hs=>∃ x:Value×E7×W4×U7,(∃ free seed key n,x.2.1=⟨free,seed,0,[],[]⟩∧x.2.2.1=(a0H key n).1∧0≤n∧n≤5000∧I4 x.2.2.2)∧r = .ln x.1 (j9.id (α:=y8))∧Hs = [.ob w x.2.2.2] ++ [.ob x.1 (⟨x.2.1,x.2.1,x.2.2.1,x.2.2.1⟩:y8)]):=by
 refine .go func8 j0 41 [.tmp 2] j0 (by kernel_rfl) fun C hG => ?_
 have o1:=B8 (n:=2) hd
 have o2:=a7u o1
 have o3:=B8 (n:=3) o2
 have o4:=B8 (n:=600) o3
 have l4:=F8 (d:=(u6 (a3t (u6 d 2).2).2 3).2) (n:=600) (by decide)
 refine .z hG (by kernel_rfl) ⟨hd,by decide,by decide,o1,fun b=>⟨o2,by decide,by decide,?_⟩⟩
 generalize (a3t (u6 d 2).2).1=sd
 generalize decide ((u6 d 2).1=0)=fr
 generalize u6 (a3t (u6 d 2).2).2 3=s at o3 o4 l4 ⊢
 refine⟨fun q => .z hG (by kernel_rfl) ?_,fun q => .z hG (by kernel_rfl) ?_⟩
 ·generalize u6 s.2 600=u at o4 l4 ⊢
  have o5:=a7u o4
  generalize a3t u.2=v at o5 ⊢
  refine⟨o3,by decide,by decide,o4,fun b1 b2 b3 b4=>P5.of [w,ptr b4 0] ⟨(ptr b4 0,⟨fr,sd,0,[],[]⟩,(a0H v.1 u.1).1,v.2),⟨_,_,_,_,rfl,rfl,l4.1,by omega,o5⟩,rfl,rfl⟩⟩
 ·have o5:=a7u o3
  generalize a3t s.2=v at o5 ⊢
  refine⟨o3,fun b1 b2 b3 b4=>P5.of [w,ptr b4 0] ⟨(ptr b4 0,⟨fr,sd,0,[],[]⟩,(a0H v.1 5000).1,v.2),⟨_,_,_,_,rfl,rfl,by decide,by decide,o5⟩,rfl,rfl⟩⟩
theorem c0Q (a:E7)(x:W4)(h:IsG x)(hA:G4 a 60000)(hm:x.C8.length≤999999):C3 gl prog 31 [.v a,.v x,.raw (.slice none 0 0)] (fun r=>r = .t4 (.v (P8 a x []).1) (.v (P8 a x []).2.1) (.v (P8 a x []).2.2.1) (.v (P8 a x []).2.2.2)):=fun I vs hG hvs=>b5v a x [] h hA hm I vs hG (by
 obtain⟨v1,r1,h0,h1,v2,r2,h2,h3,v3,r3,h4,h5,h6⟩:=hvs
 exact⟨v1,r1,h0,h1,v2,r2,h2,h3,v3,r3,h4,⟨_,⟨_,j0,[],Sl.nil I _,j0⟩,h5⟩,h6⟩)
instance (key:Tag)(n:Int):Q5 gl prog 9 [.v key,.v n] [] (.t2 (.v (a0H key n).1) (.v (a0H key n).2)):=⟨fun hh=>b3a key n⟩
instance (a:E7)(x:W4):Q5 gl prog 10 [.v a,.v x] [IsG x,G4 a 60000,-1000000≤x.Ring.H7] (.t3 (.v (a1F a x).1) (.v (a1F a x).2.1) (.v (a1F a x).2.2)):=⟨fun hh=>a8g a x hh.1 hh.2.1 hh.2.2.1⟩
instance (a:E7)(x:W4):Q5 gl prog 31 [.v a,.v x,.raw (.slice none 0 0)] [IsG x,G4 a 60000,x.C8.length≤999999] (.t4 (.v (P8 a x []).1) (.v (P8 a x []).2.1) (.v (P8 a x []).2.2.1) (.v (P8 a x []).2.2.2)):=⟨fun hh=>c0Q a x hh.1 hh.2.1 hh.2.2.1⟩
theorem c5U:C3 gl prog 20 [] (fun r=>r = .v true):=by
 refine .go func20 j0 60 [.tmp 0] j0 (by kernel_rfl) fun C hG => ?_
 have hA:G4 (⟨true,(default:E7).a1R,(default:E7).K4,(default:E7).F7,(default:E7).B5⟩:E7) 0:=G4.new true _ 0
 obtain⟨b,y,p,z,h1,h2,h3,h4,h5,h6,h7⟩:=c3F hA (Q6 default 0 1)
 have h8:=b3i (b3l hA (Q6 default 0 1) (D0 10000)) (b3m (by decide) (by decide)) (by decide)
 refine .z hG (by kernel_rfl) ?_
 simp only [b5u (Q6 default 0 1) (c:=10000) (by decide) (by decide)]
 refine fun _=>⟨h8,hA.le (by decide),by decide,?_⟩
 simp only [h1]
 refine fun _=>⟨h2.g,h2.alg,h2.a1i,?_⟩
 simp only [h3,h4,h5,h6,h7]
 exact fun _ _=>rfl
set_option maxHeartbeats 4000000 in
theorem sameAlg3_c (a:E7)(hm:a.F7.length≤1000000)(hb:a.B5.length≤1000000):C3 gl prog 13 [.v a,.v a] (fun r=>r = .v true):=by
 have i_Same_c:∀ (a:List UInt8) (b:List UInt8),Q5 gl prog 19 [.v a,.v b] [] (.v (decide (a=b))):=fun a b=>⟨fun hh=>b2D a b⟩
 refine .go func13 j0 142 [.tmp 4] j0 (by kernel_rfl) fun C hG=>(.z hG (by kernel_rfl) fun b2 b3=>⟨fun h => ?_,fun h => ?_⟩)
 ·simp at h
 refine .lp hG (fun k:Nat => [(5,.v (k:Int))]) (fun k => []) (fun k=>k≤a.F7.length) (fun k=>a.F7.length - k) 0 (by kernel_rfl) ⟨j0,Nat.zero_le _,fun k hk=>⟨fun h => ?_,fun h => ?_⟩⟩
 ·refine⟨by omega,h,by omega,h,fun _=>by omega,fun _=>h,fun _=>by omega,fun _=>h,fun _=>by omega,fun _=>h,fun _=>by omega,fun _=>h,fun q => ?_,fun _=>⟨by omega,by omega,k+1,rfl,by omega,by omega⟩⟩
  simp at q
 refine .lp hG (fun k:Nat => [(6,.v (k:Int))]) (fun k => []) (fun k=>k≤a.B5.length) (fun k=>a.B5.length - k) 0 (by kernel_rfl) ⟨j0,Nat.zero_le _,fun k hk=>⟨fun h => ?_,fun h=>j0⟩⟩
 refine⟨by omega,h,by omega,h,by repeat' first|exact trivial|refine⟨fun _ _=>by kernel_rfl,?_⟩,fun nm=>⟨fun q => ?_,fun _=>⟨by omega,by omega,k+1,rfl,by omega,by omega⟩⟩⟩
 simp at q
structure d0K (a:E7)(x:W4):Prop where
 g:IsG x
 alg:G4 a 60000
 jl:(a08 (D8 (F3 x.Device))).1.length≤100000
 jr:∀ r∈(a08 (D8 (F3 x.Device))).1,r.length≤1000000∧((O3 ⟨r,0⟩).1=2∨(O3 ⟨r,0⟩).1=4)
 jk:∀ r∈(Z2 (F3 x.Device)).1,r.Item.Kind≠2∧r.Item.O6.length≤1000000
 dev:W9 (F3 x.Device)
theorem b7p (a:E7)(x:W4)(h:d0K a x):C3 gl prog 14 [.v a,.v x] (fun r=>r = .t2 (.v (V1 a x).1) (.v (V1 a x).2)):=c0n a x 60000 h.g h.alg h.jl h.jr h.jk h.dev
theorem b7q (a b:E7)(h:a=b)(hm:a.F7.length≤1000000)(hb:a.B5.length≤1000000):C3 gl prog 13 [.v a,.v b] (fun r=>r = .v true):=h▸sameAlg3_c a hm hb
theorem c0R (a b:List UInt8):C3 gl prog 19 [.v a,.v b] (fun r=>r = .v (decide (a=b))):=b2D a b
instance c8u (l:List Int):CaP gl prog 7 [.v l] [] (fun u=>dk u) (fun u => .ob u (⟨l,0⟩:y6)):=⟨fun _=>(b9q l).mono fun r Hs h=>by
 obtain⟨b,h1,h2⟩:=h
 exact⟨_,h1,h2⟩⟩
instance d1n (w:Value) (d:U7):CaG gl prog 8 [dk w] [.ob w d] (Value×E7×W4×U7) [I4 d] (fun x=>∃ free seed key n,x.2.1=⟨free,seed,0,[],[]⟩∧x.2.2.1=(a0H key n).1∧0≤n∧n≤5000∧I4 x.2.2.2) (fun x => .ln x.1 (j9.id (α:=y8))) (fun x => [.ob w x.2.2.2]) (fun x => [.ob x.1 (⟨x.2.1,x.2.1,x.2.2.1,x.2.2.1⟩:y8)]):=⟨fun h=>c5T w d h.1⟩
instance (key:Tag)(n:Int):Q5 gl prog 9 [.v key,.v n] [] (.t2 (.v (a0H key n).1) (.v (a0H key n).2)):=⟨fun hh=>b3a key n⟩
instance (a:E7)(x:W4):Q5 gl prog 10 [.v a,.v x] [IsG x,G4 a 60000,-1000000≤x.Ring.H7] (.t3 (.v (a1F a x).1) (.v (a1F a x).2.1) (.v (a1F a x).2.2)):=⟨fun hh=>a8g a x hh.1 hh.2.1 hh.2.2.1⟩
instance (a:E7)(x:W4)(w:Value)(d:U7):CaM gl prog 11 [.v a,.v x,dk w] (.ob w d) [c5S a x,I4 d] (.t3 (.v (a4K a x d).1) (.v (a4K a x d).2.1) (.v (a4K a x d).2.2)) (.ob w (a6g (u6 d 3))):=⟨fun hh=>b7o a x w d hh.1 hh.2.1⟩
instance (a:E7)(b:E7):Q5 gl prog 13 [.v a,.v b] [a=b,a.F7.length≤1000000,a.B5.length≤1000000] (.v true):=⟨fun hh=>b7q a b hh.1 hh.2.1 hh.2.2.1⟩
instance (d:l9)(n:Int):Q5 gl prog 12 [.v d,.v n] [-9000000000≤d.D9∧d.D9≤9000000000] (.v (a6d d n)):=⟨fun hh=>c5t d n hh.1⟩
instance (d:l9):Q5 gl prog 15 [.v d] [d.B9=0∨d.B9=1] (.v (D8 d)):=⟨fun hh=>c23 d hh.1⟩
instance (a:List o8)(b:List o8):Q5 gl prog 16 [.v a,.v b] [a.length≤1000000] (.v (decide (a=b))):=⟨fun hh=>b1d a b hh.1⟩
instance (a:List y2)(b:List y2):Q5 gl prog 17 [.v a,.v b] [a.length≤1000000,∀ m∈a,m.y7.length≤1000000] (.v (decide (a=b))):=⟨fun hh=>b1e a b hh.1 hh.2.1⟩
instance (a:D5)(b:D5):Q5 gl prog 18 [.v a,.v b] [a.Live.length≤1000000] (.v (decide (a=b))):=⟨fun hh=>b2X a b hh.1⟩
instance (a:List UInt8)(b:List UInt8):Q5 gl prog 19 [.v a,.v b] [] (.v (decide (a=b))):=⟨fun hh=>c0R a b⟩
instance  : Q5 gl prog 20 [] [] (.v true):=⟨fun hh=>c5U ⟩
set_option maxHeartbeats 4000000 in
theorem b7r (deck:List Int)(a4R how:UInt8):C3 gl prog 3 [.v deck,.v a4R,.v how] (fun r=>r = .v true):=by
 refine .go func3 j0 186 [.tmp 6] j0 (by kernel_rfl) fun C hG=>(.z hG (by kernel_rfl) fun u _=>⟨Int.le_refl _,fun ⟨v,a,x0,d⟩ ⟨free,seed,key,n,ha,hx,hn0,hn1,hd⟩ => ?_⟩)
 dsimp only at ha hx hd ⊢
 have hA:G4 a 0:=by rw [ha];exact G4.new _ _ 0
 have hgc:=b3l hA (Q6 default 0 1) (D0 1048576)
 have h8:=b3i hgc (b3m (by decide) (by decide)) (by decide)
 simp only [b5u (Q6 default 0 1) (c:=1048576) (by decide) (by decide)]
 obtain⟨b0,y0,r0,e0,st0,-,-,-,hcap,har⟩:=(c3E hA (by decide) (Q6 default 0 1) (c:=1048576) (by decide) (by decide)).resolve_right fun h=>absurd h.2 (by decide)
 simp only [e0]
 refine⟨h8,hA.le (by decide),by decide,by repeat' first|exact trivial|refine⟨fun _ _=>by kernel_rfl,?_⟩,fun nm => ?_⟩
 generalize (nm (0+1+1+1+1+1+1+1+1+1+1+1+1+1+1)).2=p10
 generalize (nm (0+1+1+1+1+1+1+1+1+1+1+1+1+1)).2=p9
 refine .lpO hG (fun q:Nat×E7×W4×U7 => [(12,.v (q.1:Int)),(11,.v (0:Int))]) (fun q => [(ptr p9 0,.ob (ptr p9 0) q.2.1),(ptr p10 0,.ob (ptr p10 0) q.2.2.1),(u,.ob u q.2.2.2)]) (fun q=>q.1≤8∧(∃ R,St q.2.1 (130*(q.1+1)) (q.1+1) q.2.2.1 R)∧I4 q.2.2.2∧q.2.2.1.Device.F9=1048576∧(D8 q.2.2.1.Device).length≤4102*(q.1+1)) (fun q=>8 - q.1) (0,b0,y0,d) (by kernel_rfl) ⟨j0,j0,⟨Nat.zero_le _,⟨_,st0⟩,hd,hcap,har⟩,fun ⟨k,b,x,d⟩ ⟨h1,⟨R,h2⟩,h3,h4,h5⟩ => ?_⟩
 dsimp only at h1 h2 h3 h4 h5 ⊢
 have hB:c5S b x:=⟨b3i h2.c h2.d (by omega),h2.c.alg.le (by omega),by have:=h2.c.last;omega,by have:=h2.c.a1i;omega⟩
 refine⟨fun hk=>⟨hB,h3,by omega,by omega,?_⟩,fun hk => ?_⟩
 ·obtain⟨c,y,r,q1,q2,q3,q4⟩:=(h2.done (by omega) (by omega) h3).resolve_right fun h=>by have:=h.2;omega
  rw [q1]
  exact⟨(k+1,c,y,a6g (u6 d 3)),rfl,rfl,rfl,rfl,rfl,⟨by show k+1≤8;omega,⟨_,q2.le (by omega) (by omega)⟩,c3D h3,q3.trans h4,by show(D8 y.Device).length≤4102*(k+1+1);omega⟩,by show 8 - (k+1) < 8 - k;omega⟩
 have hk8:k=8:=by omega
 subst hk8
 clear hk h1 hx ha hA hgc h8 e0 st0 hcap har
 have hD2:I4 (⟨List.drop (min d.At (d.L.length:Int)).toNat (List.take (d.L.length:Int).toNat d.L),0⟩:U7):=Int.le_refl 0
 obtain⟨c,y,E,want,S,o⟩:=h2.d0J (by decide) (by decide) hD2 (by omega) (a4R.toNat*2)
 have hxg:=h2.d.act
 have hxw:=h2.d.wr
 have hxg2:IsG { x with Device:=a6d x.Device ((a4R.toNat:Int)*2) }:=by
  have:=hB.g
  exact⟨⟨this.b.live,this.b.a1i,this.b.c0f,this.b.items,this.b.boxes,this.b.dev⟩,this.act,this.wr⟩
 have ecut:a4K b { x with Device:=a6d x.Device ((a4R.toNat:Int)*2) } (⟨List.drop (min d.At (d.L.length:Int)).toNat (List.take (d.L.length:Int).toNat d.L),0⟩:U7)=(c,Y9 x E,27):=by
  have:=o.cut
  rwa [show((a4R.toNat*2:Nat):Int)=(a4R.toNat:Int)*2 by omega] at this
 have j1:∀ w,CaM gl prog 11 [.v b,.v { x with Device:=a6d x.Device ((a4R.toNat:Int)*2) },dk w] (.ob w (⟨List.drop (min d.At (d.L.length:Int)).toNat (List.take (d.L.length:Int).toNat d.L),0⟩:U7)) [] (.t3 (.v c) (.v (Y9 x E)) (.v (27:Int))) (.ob w (a6g (u6 (⟨List.drop (min d.At (d.L.length:Int)).toNat (List.take (d.L.length:Int).toNat d.L),0⟩:U7) 3))):=fun w=>⟨fun _=>(b7o b { x with Device:=a6d x.Device ((a4R.toNat:Int)*2) } w _ ⟨hxg2,hB.alg,hB.last,hB.a1i⟩ hD2).mono fun r Hs hr=>by rw [ecut] at hr;exact hr⟩
 have j2:∀ w,CaM gl prog 11 [.v b,.v x,dk w] (.ob w (⟨List.drop (min d.At (d.L.length:Int)).toNat (List.take (d.L.length:Int).toNat d.L),0⟩:U7)) [] (.t3 (.v c) (.v y) (.v (0:Int))) (.ob w (a6g (u6 (⟨List.drop (min d.At (d.L.length:Int)).toNat (List.take (d.L.length:Int).toNat d.L),0⟩:U7) 3))):=fun w=>⟨fun _=>(b7o b x w _ hB hD2).mono fun r Hs hr=>by rw [o.ok] at hr;exact hr⟩
 have h9:d0K c (Y9 x E):=⟨o.g,o.alg.le (by decide),o.jl,o.jr,o.jk,o.dev⟩
 have j3:Q5 gl prog 14 [.v c,.v (Y9 x E)] [] (.t2 (.v { want with Device:=F3 E }) (.v (0:Int))):=⟨fun _=>C3.mono (b7p c (Y9 x E) h9) fun r hr=>by rw [o.rs] at hr;exact hr⟩
 show wpA _ _ _ _ _ _ _
 have hU:¬(((0:Int)≠0∨(27:Int)≠27)∨(Y9 x E).Up=true):=by rintro ((h|h)|h);exact h rfl;exact h rfl;cases h
 have hyl:=o.yl
 have hcm:=o.alg.a5U
 have hcb:=o.alg.boxes
 have hxl:=a5x h2.d
 have ht:a4R.toNat < 256:=a4R.toNat_lt
 have ab:∀ {p:Prop},(0:Int)≠0→p:=fun h=>absurd rfl h
 have hwb:=o.wb
 refine .z hG (by kernel_rfl) ⟨ab,fun _=>⟨by have h3:0≤d.At:=h3;omega,by omega,by omega,by repeat' first|exact trivial|refine⟨fun _ _=>by kernel_rfl,?_⟩,fun nm _=>⟨by omega,by omega,by omega,by repeat' first|exact trivial|refine⟨fun _ _=>by kernel_rfl,?_⟩,fun nm1=>⟨fun _=>rfl,fun _=>by omega,fun _=>by omega,fun h => ?_,fun _ _=>⟨by omega,by omega,o.d0I,hxg,by omega,by omega,fun hw => ?_,fun hw => ?_⟩⟩⟩⟩⟩
 ·rcases h with h|h
  ·exact absurd h hU
  ·exact absurd rfl h
 all_goals
  have ew:=o.wanted
  rw [show((a4R.toNat*2:Nat):Int)=(a4R.toNat:Int)*2 by omega] at ew
 ·rw [if_pos hw] at ew
  obtain rfl:=ew
  refine .z hG (by kernel_rfl) ⟨fun _=>hwb.items,fun _=>hwb.a1i,fun _ m hm=>(hwb.c0f m hm).1,fun _=>hwb.live,fun _=>o.g.act,fun _=>o.d0I,?_⟩
  simp only [o.data,decide_true,Bool.and_true]
 ·rw [if_neg hw] at ew
  obtain rfl:=ew
  refine .z hG (by kernel_rfl) ⟨fun _=>hwb.items,fun _=>hwb.a1i,fun _ m hm=>(hwb.c0f m hm).1,fun _=>hwb.live,fun _=>o.g.act,fun _=>hxg,?_⟩
  simp only [o.data,decide_true,Bool.and_true]
end Go.Proofs.YtfdifhfnpbphaaaGreatDoor
namespace Go.Fl
open Go.ChangeShapes Go.WideShapes Go.ChangeAt Go.RowKit
def b0L (W:World):Im:=fun b=>W.heap[b]?
theorem c3G (W:World):Mem (b0L W) [] W:=⟨fun b o h=>h,by simp,by simp,by simp⟩
theorem Fun.calls {P : Program}{f : FuncId}{args : Array Value}{W : World}{r : Value}(h : Fun P f args (b0L W) (fun v _ => v = r)) :
    Calls P f args W (fun e W'=>e = .returned r∧Below W.heap.size W W') :=
  (h.run W (c3G W)).mono fun e w' ⟨v,J,he,hc,_,_,_,hv⟩=>⟨by rw [he,hv],⟨hc.os,hc.tape,hc.output,hc.size,fun k hk=>hc.block k hk (by simp)⟩⟩
theorem a17 {W:World}{x:Addr}{v:Value}(h:W.cell? x=some v):x.spot=none∧∃ cs e fr,W.heap[x.block]?=some (.cells cs e fr)∧cs[x.off]?=some v:=by
 unfold World.cell? at h
 split at h
 ·rename_i c e fr heq
  split at h
  ·cases h
  ·rename_i hs
   exact⟨by simpa using hs,c,e,fr,heq,h⟩
 ·cases h
theorem b7s {P:Program}{W:World}{n:String}{d:DataW Unit}{l:List UInt32}{g:Nat}{T E:TypeId}(hg:P.globalNamed n=some g)(ht:(P.globals[g]?).map (·.type)=some T)(hT:P.underlying T=some (.array l.length E))
    (hE:P.underlying E=some (.int .u32))(hone:P.cellsOf E=1)(hl:0 < l.length)(hd:d = .agg (l.map fun k => .lit (.int .u32 (k.toNat:Int))))(h:laidMet P [(n,d)] W):Cells (b0L W) g 0 (l.map u32):=by
  obtain⟨ps,⟨g2,t,cs,fuel,p,q,hg2,ht2,hvar,htr,_,_⟩,_⟩:=h
  obtain rfl:=Option.some.inj (hg.symm.trans hg2)
  obtain rfl:=Option.some.inj (ht.symm.trans ht2)
  obtain⟨xs,m,_,hx,hlen,hxl,hel⟩:=DataW.trod_array hT htr
  have hxd:xs.map (·.1)=l.map fun k=>DataW.lit (.int .u32 (k.toNat:Int)):=by
    have:=(Prod.mk.inj hx).1
    rw [hd] at this
    injection this with h2
    exact h2.symm
  have hcell:∀ (i:Nat) (v:Value),(l.map u32)[i]?=some v→cs[i]?=some v:=by
    intro i v hv
    have hi:i < l.length:=by simpa using (List.getElem?_eq_some_iff.1 hv).1
    have h1:=hel i hi
    rw [hone] at h1
    have hxi:xs[i]?=some (xs[i]'(by omega)):=List.getElem?_eq_getElem (by omega)
    rw [hxi] at h1
    obtain⟨k,hk1,hk2,_⟩:=DataW.trod_int hE h1
    have hfst:(xs.map (·.1))[i]?=some (DataW.lit (.int .u32 k)):=by rw [List.getElem?_map,hxi,Option.map_some,hk2]
    rw [hxd,List.getElem?_map,List.getElem?_eq_getElem hi] at hfst
    simp at hfst
    have hci:cs.toList[i]?=some (.int .u32 k):=by
      have:((cs.toList.drop (i*1)).take 1)[0]?=some (.int .u32 k):=by rw [hk1];rfl
      simpa [List.getElem?_take,List.getElem?_drop] using this
    rw [List.getElem?_map,List.getElem?_eq_getElem hi,Option.map_some] at hv
    have hv:=Option.some.inj hv
    rw [←hv,u32,hfst]
    simpa using hci
  have h0:∃ v,(l.map u32)[0]?=some v:=⟨_,List.getElem?_eq_getElem (by simpa using hl)⟩
  obtain⟨v0,hv0⟩:=h0
  have hc0:=World.var?_cell hg hvar 0
  rw [hcell 0 v0 hv0] at hc0
  obtain⟨_,cs2,e,fr,hob,_⟩:=a17 hc0
  refine⟨cs2,e,fr,hob,fun i v hv => ?_⟩
  have h3:=World.var?_cell hg hvar i
  rw [hcell i v hv] at h3
  obtain⟨_,cs3,e3,fr3,hob3,hv3⟩:=a17 h3
  have:Obj.cells cs2 e fr=Obj.cells cs3 e3 fr3:=Option.some.inj (hob.symm.trans hob3)
  cases this
  simpa using hv3
end Go.Fl
namespace Go.Ab
open Go.Fl Go.RowKit Go.ChangeShapes Go.WideShapes Go.ChangeAt
open u3 (rep)
def a4L (P:Program)(T:TypeId)(α:Type)[u3 α]:Prop:=P.cellsOf T=u3.size α ∧
 ∀ (H:Type) (enc:TypeId×Value→H) (W:World) (base:Nat) (spare:Nat→Bool) (held:Bool) (fuel:Nat) (cs:List Value) (x:DataW H×List MemPlace),DataW.trod enc P W base spare held fuel T cs=some x→∃ a:α,rep (b0L W) a cs
variable {P:Program}{T E:TypeId}
theorem a4L.i64 (hT:P.underlying T=some (.int .i64))(hc:P.cellsOf T=1):a4L P T Int:=⟨hc,fun H enc W base spare held fuel cs x h=>by
 obtain⟨n,rfl,_,hw⟩:=DataW.trod_int hT h
 simp [Lit.wf,IntKind.min,IntKind.max,IntKind.signed,IntKind.bits] at hw
 exact⟨n,rfl,by omega,by omega⟩⟩
theorem a4L.u8 (hT:P.underlying T=some (.int .u8))(hc:P.cellsOf T=1):a4L P T UInt8:=⟨hc,fun H enc W base spare held fuel cs x h=>by
 obtain⟨n,rfl,_,hw⟩:=DataW.trod_int hT h
 simp [Lit.wf,IntKind.min,IntKind.max,IntKind.signed,IntKind.bits] at hw
 refine⟨UInt8.ofNat n.toNat,?_⟩
 show [Value.int .u8 n] = [Fl.u8 _]
 unfold Fl.u8
 congr 2;simp;omega⟩
theorem add_add (a:Addr)(i j:Nat):(a.add i).add j=a.add (i+j):=by
 unfold Addr.add
 rcases a with ⟨b,o,_|s⟩<;>by_cases hi:i=0<;>by_cases hj:j=0<;>simp [hi,hj,Nat.add_assoc]
theorem a4L.slice {α:Type}{r:u3 α}(hT:P.underlying T=some (.slice E))(hc:P.cellsOf T=1)(hE:a4L P E α)(hp:0 < u3.size α):a4L P T (List α):=⟨hc,fun H enc W base spare held fuel cs x h=>by
 rcases DataW.trod_slice hT h with ⟨rfl,_⟩|⟨a,len,cap,elems,rest,n,_,rfl,_,hb,hl,hm,hel,hget,_⟩
 ·exact⟨[],_,j0,[],Sl.nil _ _,j0⟩
 ·have key:∀ k,k≤len→∃ (l:List α) (xs:List Value),l.length=k∧O9 (b0L W) l xs∧∀ i v,xs[i]?=some v→W.cell? (a.add i)=some v:=by
   intro k
   induction k with
   | zero=>exact fun _=>⟨[],[],rfl,rfl,fun i v hv=>by simp at hv⟩
   | succ k ih =>
    intro hk
    obtain⟨l,xs,h1,h2,h3⟩:=ih (by omega)
    have hg:=hget k (by omega)
    rw [List.getElem?_eq_getElem (by omega)] at hg
    obtain⟨c,hc1,hc2⟩:=Option.bind_eq_some_iff.1 hg
    obtain⟨_,hcl,hcell⟩:=World.cells?_some hc1
    obtain⟨y,hy⟩:=hE.2 H enc W base spare held n c _ hc2
    refine⟨l ++ [y],xs++c,by simp [h1],h2.append (.one hy),fun i v hv => ?_⟩
    have hxl:xs.length=k*u3.size α:=by rw [h2.len,h1]
    by_cases hi:i < xs.length
    ·rw [List.getElem?_append_left hi] at hv;exact h3 i v hv
    ·rw [List.getElem?_append_right (by omega)] at hv
     have hj:=(List.getElem?_eq_some_iff.1 hv).1
     have:=hcell (i - xs.length) (by omega)
     rw [hv,hE.1,add_add,←hxl,show xs.length+(i - xs.length)=i by omega] at this
     exact this
  obtain⟨l,xs,h1,h2,h3⟩:=key len (Nat.le_refl _)
  have hxl:=h2.len
  refine⟨l,_,rfl,xs,⟨_,_,by rw [h1],h2.len,by omega,hm,(fun h=>by cases h),fun hne => ?_⟩,h2⟩
  rcases a with ⟨ab,ao,ags⟩
  obtain⟨v0,hv0⟩:∃ v,xs[0]?=some v:=⟨_,List.getElem?_eq_getElem (List.length_pos_iff.2 hne)⟩
  have hc0:=h3 0 v0 hv0
  obtain⟨hsp,cs,e,fr,hob,_⟩:=a17 hc0
  have hsp2:ags=none:=by
   cases ags with
   | none=>rfl
   | some q =>
    unfold Addr.add at hsp
    simp at hsp
  subst hsp2
  rw [Addr.add_plain] at hob
  have hob:W.heap[ab]?=some (Obj.cells cs e fr):=hob
  refine⟨ab,ao,j0,cs,e,fr,hob,fun i v hv => ?_⟩
  have hcv:=h3 i v hv
  rw [Addr.add_plain] at hcv
  obtain⟨_,cs2,e2,fr2,hob2,hv2⟩:=a17 hcv
  have:Obj.cells cs e fr=Obj.cells cs2 e2 fr2:=Option.some.inj (hob.symm.trans hob2)
  cases this
  exact hv2⟩
theorem a4L.val {α:Type}{r:u3 α}(h:a4L P T α){H:Type}{enc:TypeId×Value→H}{W:World}{base:Nat}{spare:Nat→Bool}{held:Bool}{v:Value}{d:DataW H}{p:List MemPlace}(ht:DataW.Trod enc P W base spare held T v d p)
    (hv:∀ cs:List Value,v.cells.toList=cs→v=asV (u3.agg α) cs):∃ a:α,G0 (b0L W) (.v a) v:=by
  obtain⟨fuel,hf⟩:=ht
  obtain⟨a,ha⟩:=h.2 H enc W base spare held fuel _ _ hf
  exact⟨a,_,ha,hv _ j0⟩
theorem C3.calls {G : Gl}{f : FuncId}{ags : List AV}{vs : List Value}{W : World}(h : C3 G P f ags (fun r => r = .v true))(hG : G.p (b0L W))(hv : T3 (b0L W) ags vs) :
    Calls P f vs.toArray W (fun e W'=>e = .returned (.bool true)∧Below W.heap.size W W') :=
  Fun.calls ((h (b0L W) vs hG hv).mono fun v J _ ⟨r,h1,h2⟩=>by
    subst h2
    obtain⟨cs,rfl,rfl⟩:=h1
    rfl)
theorem b0M {v:Value}(h:v.cells = #[v]):∀ cs:List Value,v.cells.toList=cs→v=asV false cs:=fun cs hc=>by
 rw [h] at hc;subst hc;rfl
end Go.Ab
namespace Go.Fl
open Go.RowKit
theorem c0S {P:Program}{W:World}{n:String}{d:DataW Unit}{l:List Int}{g:Nat}{T E:TypeId}(hg:P.globalNamed n=some g)(ht:(P.globals[g]?).map (·.type)=some T)(hT:P.underlying T=some (.array l.length E))
    (hE:P.underlying E=some (.int .i64))(hone:P.cellsOf E=1)(hl:0 < l.length)(hd:d = .agg (l.map fun k => .lit (.int .i64 k)))(h:laidMet P [(n,d)] W):Cells (b0L W) g 0 (l.map i64):=by
  obtain⟨ps,⟨g2,t,cs,fuel,p,q,hg2,ht2,hvar,htr,_,_⟩,_⟩:=h
  obtain rfl:=Option.some.inj (hg.symm.trans hg2)
  obtain rfl:=Option.some.inj (ht.symm.trans ht2)
  obtain⟨xs,m,_,hx,hlen,hxl,hel⟩:=DataW.trod_array hT htr
  have hxd:xs.map (·.1)=l.map fun k=>DataW.lit (.int .i64 k):=by
    have:=(Prod.mk.inj hx).1
    rw [hd] at this
    injection this with h2
    exact h2.symm
  have hcell:∀ (i:Nat) (v:Value),(l.map i64)[i]?=some v→cs[i]?=some v:=by
    intro i v hv
    have hi:i < l.length:=by simpa using (List.getElem?_eq_some_iff.1 hv).1
    have h1:=hel i hi
    rw [hone] at h1
    have hxi:xs[i]?=some (xs[i]'(by omega)):=List.getElem?_eq_getElem (by omega)
    rw [hxi] at h1
    obtain⟨k,hk1,hk2,_⟩:=DataW.trod_int hE h1
    have hfst:(xs.map (·.1))[i]?=some (DataW.lit (.int .i64 k)):=by rw [List.getElem?_map,hxi,Option.map_some,hk2]
    rw [hxd,List.getElem?_map,List.getElem?_eq_getElem hi] at hfst
    simp at hfst
    have hci:cs.toList[i]?=some (.int .i64 k):=by
      have:((cs.toList.drop (i*1)).take 1)[0]?=some (.int .i64 k):=by rw [hk1];rfl
      simpa [List.getElem?_take,List.getElem?_drop] using this
    rw [List.getElem?_map,List.getElem?_eq_getElem hi,Option.map_some] at hv
    have hv:=Option.some.inj hv
    rw [←hv,i64,hfst]
    simpa using hci
  have h0:∃ v,(l.map i64)[0]?=some v:=⟨_,List.getElem?_eq_getElem (by simpa using hl)⟩
  obtain⟨v0,hv0⟩:=h0
  have hc0:=World.var?_cell hg hvar 0
  rw [hcell 0 v0 hv0] at hc0
  obtain⟨_,cs2,e,fr,hob,_⟩:=a17 hc0
  refine⟨cs2,e,fr,hob,fun i v hv => ?_⟩
  have h3:=World.var?_cell hg hvar i
  rw [hcell i v hv] at h3
  obtain⟨_,cs3,e3,fr3,hob3,hv3⟩:=a17 h3
  have:Obj.cells cs2 e fr=Obj.cells cs3 e3 fr3:=Option.some.inj (hob.symm.trans hob3)
  cases this
  simpa using hv3
end Go.Fl
namespace Go.Proofs.YtfdifhfnpbphaaaGreatDoor
open Go.Proofs.Tryz
open Go.Fl Go.Ab Go.Mac Go.Sha
open Go.ChangeShapes Go.WideShapes Go.ChangeAt Go.RowKit
theorem d2Q:ownKnob prog.godebug=none:=by kernel_rfl
theorem b0N:laidOutB prog=true:=by kernel_rfl
noncomputable def c3H (os:Os):World :=
  let w0:=World.holding prog os ⟨#[],#[],[]⟩
  { w0 with heap := (w0.heap.modify 1 fun
      | .cells _ t frozen => .cells (kk.map Fl.u32).toArray t frozen
      | o=>o).modify 2 fun
      | .cells _ t frozen => .cells (a68.l.map i64).toArray t frozen
      | o=>o }
def b8K:List (String×DataW Unit) := [("macaroon/sha.k", Rows.laid_macaroon_sha_k),("macaroon/predicate.bits", Rows.laid_macaroon_predicate_bits)]
set_option maxRecDepth 100000 in
theorem d0L (os:Os)(args:Array Value):laidMet prog b8K ((c3H os).forCall (fun _ _=>0) ⟨#[],args,[]⟩).memory :=
 laidMet_of_run' 8 (by kernel_rfl) (by kernel_rfl)
set_option maxRecDepth 100000 in
theorem d0M:b8K.filter (fun x=>x.1 == "macaroon/sha.k") = [("macaroon/sha.k", Rows.laid_macaroon_sha_k)]:=by kernel_rfl
set_option maxRecDepth 100000 in
theorem d0N:b8K.filter (fun x=>x.1 == "macaroon/predicate.bits") = [("macaroon/predicate.bits", Rows.laid_macaroon_predicate_bits)]:=by kernel_rfl
set_option maxRecDepth 100000 in
theorem c5V {W:World}(h:laidMet prog b8K W):gl.p (b0L W):=by
 have h1:=h.filter fun x=>x.1 == "macaroon/sha.k"
 have h2:=h.filter fun x=>x.1 == "macaroon/predicate.bits"
 rw [d0M] at h1
 rw [d0N] at h2
 exact⟨b7s (l:=kk) (T:=309) (E:=257) (by kernel_rfl) (by kernel_rfl) underlying309 underlying257 (by kernel_rfl) (by decide) j0 h1,
  c0S (l:=a68.l) (T:=323) (E:=3) (by kernel_rfl) (by kernel_rfl) underlying323 underlying3 (by kernel_rfl) (by decide) rfl h2⟩
theorem op3:a4L prog 3 Int := .i64 underlying3 (by kernel_rfl)
theorem d2R:a4L prog 22 (List Int) := .slice underlying22 (by kernel_rfl) op3 (by decide)
theorem op5:a4L prog 5 UInt8 := .u8 underlying5 (by kernel_rfl)
end Go.Proofs.YtfdifhfnpbphaaaGreatDoor
