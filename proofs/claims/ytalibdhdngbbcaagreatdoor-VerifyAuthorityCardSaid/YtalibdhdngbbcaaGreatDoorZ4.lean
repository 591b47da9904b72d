/- Plain Lean over any program, and walks of this seat's functions: contracts, each proved once (part 4). -/
import Derived.Test.YtalibdhdngbbcaaGreatDoorZ3
set_option maxRecDepth 1000000
set_option synthInstance.maxSize 1000000
set_option synthInstance.maxHeartbeats 10000000
set_option linter.unusedVariables false
set_option linter.unusedSimpArgs false
namespace Go.Proofs.YtalibdhdngbbcaaGreatDoor
open Go.Proofs.Tryz
open Go.Fl Go.Ab Go.Mac Go.Sha
theorem a0w {l:List Pred} {p:Pred} (h:∀ q∈l,y8 q=true) (hp:y8 p=true):∀ q∈l ++ [p],y8 q=true:=fun q hq=>by
 rcases List.mem_append.1 hq with h'|h'
 ·exact h q h'
 ·rw [List.mem_singleton.1 h'];exact hp
theorem b1A (w:Value) (d:o0) (n:Int) (s:T5) (hd:H9 d) (h0:0≤n) (h1:n≤1000) (hs:I7 s=true):G0 gl prog 38 [dk w,.v n,.v s] [.ob w d] (fun r Hs=>∃ l:List Pred,(l.length:Int)≤n∧(∀ p∈l,y8 p=true)∧∃ d',H9 d'∧r = .v l∧Hs = [.ob w d']):=by
 refine G0.a6n func38 rfl (by kernel_rfl) 58 rfl rfl _ rfl _ rfl fun C hC hG => ?_
 refine .q 6 hG ?_
 refine .p (.assign .raw ?_)
 refine .q 3 hG ?_
 refine .a0Q 79 Pred ?_
 refine .q 3 hG ?_
 refine .ad (by first|omega|(simp;done)|(simp;omega)|(simp at *;omega)) (by first|omega|(simp;done)|(simp;omega)|(simp at *;omega)) ?_
 refine .km hG (F6 _ _ _ (by first|assumption|exact y3 _) (by first|omega|(simp;done)|(simp;omega)|(simp at *;omega)) (by first|omega|(simp;done)|(simp;omega)|(simp at *;omega))) .z1 (by rintro _ _ ⟨_,_,_,_,_,_,rfl⟩;exact⟨_,rfl⟩) fun r12 B12 hr12 => ?_
 obtain⟨v12,d12,h012,h112,hd12,rfl,hB⟩:=hr12
 cases hB
 refine .q 3 hG ?_
 refine .E1 (α:=Nat×Value×List Pred×o0) [(0,_),(2,_)] (fun x R=>(7,.raw x.2.1)::(8,.v (x.1:Int))::R) (fun x => [(true,.own 79 x.2.1 x.2.2.1),(false,.ob w x.2.2.2)]) (fun x=>(x.1:Int)+x.2.2.1.length≤n∧H9 x.2.2.2∧∀ p∈x.2.2.1,y8 p=true) (fun x=>x.1) ((v12.toNat,.slice none 0 0,[],d12)) (.c2 a8 a8 (.nil _)) ?_ (.cons a8 (.cons (congrArg (fun q=>some (AV.v q)) (by dsimp only;omega)) (.c2 a8 a8 (.nil _)))) (a8) fun x hF => ?_
 ·exact⟨by dsimp only;simp;omega,by assumption,by simp⟩
 obtain⟨k,v,b,e⟩:=x
 obtain⟨h2,h3,h4⟩:=hF
 dsimp only at h2 h3 h4 ⊢
 refine .q 7 hG ⟨fun hc14 => ?_,fun hc14 => ?_⟩
 ·refine .q 6 hG ?_
  refine .km hG (F6 _ _ _ (by first|assumption|exact y3 _) (by first|omega|(simp;done)|(simp;omega)|(simp at *;omega)) (by first|omega|(simp;done)|(simp;omega)|(simp at *;omega))) .z1 (by rintro _ _ ⟨_,_,_,_,_,_,rfl⟩;exact⟨_,rfl⟩) fun r18 B18 hr18 => ?_
  obtain⟨v18,d18,h018,h118,hd18,rfl,hB⟩:=hr18
  cases hB
  refine .q 8 hG ⟨fun hc19 => ?_,fun hc19 => ?_⟩
  ·refine .q 2 hG ?_
   refine .p (.bS2 j2.l0 j2.l1 a8 R3 a5z (fun c0 c1=>(⟨c0,c1,0,0,⟨[]⟩,0⟩:j2)) (fun _ _=>a8) a8 a8 a8 (.i a8) (.u64 7 a8) ?_)
   refine .bs a8 (by decide) fun b23 => ?_
   refine .ap (by first|omega|(simp;done)|(simp;omega)|(simp at *;omega)) (by first|omega|(simp;done)|(simp;omega)|(simp at *;omega)) fun w24 => ?_
   refine .q 1 hG ?_
   refine .drop ?_
   refine .q 3 hG ?_
   refine .sb (by first|omega|(simp;done)|(simp;omega)|(simp at *;omega)) (by first|omega|(simp;done)|(simp;omega)|(simp at *;omega)) ?_
   refine .q 2 hG ?_
   refine⟨(k - 1,_,_,_),.cons rfl (.cons (congrArg (fun q=>some (AV.v q)) (by dsimp only;omega)) (.c2 rfl rfl (.nil _))),rfl,?_,by dsimp only;omega⟩
   first|(exfalso;omega)|(exfalso;simp_all;done)|(exfalso;simp at *;omega)|exact⟨by dsimp only;simp;omega,by assumption,a0w h4 (by first|assumption|exact O5 hs|exact H4 (by omega) (by omega) (by omega)|exact K7 (by omega) (by omega)|exact D9 (Or.inl rfl) (by decide))⟩
  ·refine .q 6 hG ⟨fun hc25 => ?_,fun hc25 => ?_⟩
   ·refine .q 3 hG ?_
    refine .km hG (F6 _ _ _ (by first|assumption|exact y3 _) (by first|omega|(simp;done)|(simp;omega)|(simp at *;omega)) (by first|omega|(simp;done)|(simp;omega)|(simp at *;omega))) .z1 (by rintro _ _ ⟨_,_,_,_,_,_,rfl⟩;exact⟨_,rfl⟩) fun r29 B29 hr29 => ?_
    obtain⟨v29,d29,h029,h129,hd29,rfl,hB⟩:=hr29
    cases hB
    refine .ad (by first|omega|(simp;done)|(simp;omega)|(simp at *;omega)) (by first|omega|(simp;done)|(simp;omega)|(simp at *;omega)) (.p (.bS3 j2.l0 j2.l2 j2.l3 a8 R3 a5z (fun c0 c2 c3=>(⟨c0,0,c2,c3,⟨[]⟩,0⟩:j2)) (fun _ _ _=>a8) a8 a8 a8 a8 (.i a8) (.i a8) (.t a8) ?_))
    refine .bs a8 (by decide) fun b32 => ?_
    refine .ap (by first|omega|(simp;done)|(simp;omega)|(simp at *;omega)) (by first|omega|(simp;done)|(simp;omega)|(simp at *;omega)) fun w33 => ?_
    refine .q 1 hG ?_
    refine .drop ?_
    refine .q 3 hG ?_
    refine .sb (by first|omega|(simp;done)|(simp;omega)|(simp at *;omega)) (by first|omega|(simp;done)|(simp;omega)|(simp at *;omega)) ?_
    refine .q 2 hG ?_
    refine⟨(k - 1,_,_,_),.cons rfl (.cons (congrArg (fun q=>some (AV.v q)) (by dsimp only;omega)) (.c2 rfl rfl (.nil _))),rfl,?_,by dsimp only;omega⟩
    first|(exfalso;omega)|(exfalso;simp_all;done)|(exfalso;simp at *;omega)|exact⟨by dsimp only;simp;omega,by assumption,a0w h4 (by first|assumption|exact O5 hs|exact H4 (by omega) (by omega) (by omega)|exact K7 (by omega) (by omega)|exact D9 (Or.inl rfl) (by decide))⟩
   ·refine .q 6 hG ⟨fun hc34 => ?_,fun hc34 => ?_⟩
    ·refine .q 3 hG ?_
     refine .p (.bS2 j2.l0 j2.l4 a8 R3 a5z (fun c0 c4=>(⟨c0,0,0,0,c4,0⟩:j2)) (fun _ _=>a8) a8 a8 a8 (.i a8) (.t a8) ?_)
     refine .bs a8 (by decide) fun b39 => ?_
     refine .ap (by first|omega|(simp;done)|(simp;omega)|(simp at *;omega)) (by first|omega|(simp;done)|(simp;omega)|(simp at *;omega)) fun w40 => ?_
     refine .q 1 hG ?_
     refine .drop ?_
     refine .q 3 hG ?_
     refine .sb (by first|omega|(simp;done)|(simp;omega)|(simp at *;omega)) (by first|omega|(simp;done)|(simp;omega)|(simp at *;omega)) ?_
     refine .q 2 hG ?_
     refine⟨(k - 1,_,_,_),.cons rfl (.cons (congrArg (fun q=>some (AV.v q)) (by dsimp only;omega)) (.c2 rfl rfl (.nil _))),rfl,?_,by dsimp only;omega⟩
     first|(exfalso;omega)|(exfalso;simp_all;done)|(exfalso;simp at *;omega)|exact⟨by dsimp only;simp;omega,by assumption,a0w h4 (by first|assumption|exact O5 hs|exact H4 (by omega) (by omega) (by omega)|exact K7 (by omega) (by omega)|exact D9 (Or.inl rfl) (by decide))⟩
    ·refine .q 6 hG ?_
     refine .cond (.t a8) (fun hc41 => ?_) (fun hc41 => ?_)
     ·refine .q 1 hG ?_
      refine .cond (.t a8) (fun hc41 => ?_) (fun hc41 => ?_)
      ·refine .q 3 hG ?_
       refine .km hG (F6 _ _ _ (by first|assumption|exact y3 _) (by first|omega|(simp;done)|(simp;omega)|(simp at *;omega)) (by first|omega|(simp;done)|(simp;omega)|(simp at *;omega))) .z1 (by rintro _ _ ⟨_,_,_,_,_,_,rfl⟩;exact⟨_,rfl⟩) fun r46 B46 hr46 => ?_
       obtain⟨v46,d46,h046,h146,hd46,rfl,hB⟩:=hr46
       cases hB
       refine .p (.bS2 j2.l0 j2.l5 a8 R3 a5z (fun c0 c5=>(⟨c0,0,0,0,⟨[]⟩,c5⟩:j2)) (fun _ _=>a8) a8 a8 a8 (.i a8) (.t a8) ?_)
       refine .bs a8 (by decide) fun b48 => ?_
       refine .ap (by first|omega|(simp;done)|(simp;omega)|(simp at *;omega)) (by first|omega|(simp;done)|(simp;omega)|(simp at *;omega)) fun w49 => ?_
       refine .q 1 hG ?_
       refine .drop ?_
       refine .q 3 hG ?_
       refine .sb (by first|omega|(simp;done)|(simp;omega)|(simp at *;omega)) (by first|omega|(simp;done)|(simp;omega)|(simp at *;omega)) ?_
       refine .q 2 hG ?_
       refine⟨(k - 1,_,_,_),.cons rfl (.cons (congrArg (fun q=>some (AV.v q)) (by dsimp only;omega)) (.c2 rfl rfl (.nil _))),rfl,?_,by dsimp only;omega⟩
       first|(exfalso;omega)|(exfalso;simp_all;done)|(exfalso;simp at *;omega)|exact⟨by dsimp only;simp;omega,by assumption,a0w h4 (by first|assumption|exact O5 hs|exact H4 (by omega) (by omega) (by omega)|exact K7 (by omega) (by omega)|exact D9 (Or.inl rfl) (by decide))⟩
      ·refine .q 6 hG ⟨fun hc50 => ?_,fun hc50 => ?_⟩
       ·refine .q 3 hG ?_
        refine .km hG (W8 _ _ _ (by assumption)) .z1 (by rintro _ _ ⟨_,_,_,_,_,_,rfl⟩;exact⟨_,rfl⟩) fun r54 B54 hr54 => ?_
        obtain⟨p54,hp54,hk54,d54,hd54,rfl,hB⟩:=hr54
        cases hB
        refine .bs a8 (by decide) fun b55 => ?_
        refine .ap (by first|omega|(simp;done)|(simp;omega)|(simp at *;omega)) (by first|omega|(simp;done)|(simp;omega)|(simp at *;omega)) fun w56 => ?_
        refine .q 1 hG ?_
        refine .drop ?_
        refine .q 3 hG ?_
        refine .sb (by first|omega|(simp;done)|(simp;omega)|(simp at *;omega)) (by first|omega|(simp;done)|(simp;omega)|(simp at *;omega)) ?_
        refine .q 2 hG ?_
        refine⟨(k - 1,_,_,_),.cons rfl (.cons (congrArg (fun q=>some (AV.v q)) (by dsimp only;omega)) (.c2 rfl rfl (.nil _))),rfl,?_,by dsimp only;omega⟩
        first|(exfalso;omega)|(exfalso;simp_all;done)|(exfalso;simp at *;omega)|exact⟨by dsimp only;simp;omega,by assumption,a0w h4 (by first|assumption|exact O5 hs|exact H4 (by omega) (by omega) (by omega)|exact K7 (by omega) (by omega)|exact D9 (Or.inl rfl) (by decide))⟩
       ·refine .q 3 hG ?_
        refine .sb (by first|omega|(simp;done)|(simp;omega)|(simp at *;omega)) (by first|omega|(simp;done)|(simp;omega)|(simp at *;omega)) ?_
        refine .q 2 hG ?_
        refine⟨(k - 1,_,_,_),.cons rfl (.cons (congrArg (fun q=>some (AV.v q)) (by dsimp only;omega)) (.c2 rfl rfl (.nil _))),rfl,?_,by dsimp only;omega⟩
        first|(exfalso;omega)|(exfalso;simp_all;done)|(exfalso;simp at *;omega)|exact⟨by dsimp only;simp;omega,by assumption,a0w h4 (by first|assumption|exact O5 hs|exact H4 (by omega) (by omega) (by omega)|exact K7 (by omega) (by omega)|exact D9 (Or.inl rfl) (by decide))⟩
     ·refine .q 4 hG ?_
      refine .cond (.t a8) (fun hc41 => ?_) (fun hc41 => ?_)
      ·refine .q 3 hG ?_
       refine .km hG (F6 _ _ _ (by first|assumption|exact y3 _) (by first|omega|(simp;done)|(simp;omega)|(simp at *;omega)) (by first|omega|(simp;done)|(simp;omega)|(simp at *;omega))) .z1 (by rintro _ _ ⟨_,_,_,_,_,_,rfl⟩;exact⟨_,rfl⟩) fun r46 B46 hr46 => ?_
       obtain⟨v46,d46,h046,h146,hd46,rfl,hB⟩:=hr46
       cases hB
       refine .p (.bS2 j2.l0 j2.l5 a8 R3 a5z (fun c0 c5=>(⟨c0,0,0,0,⟨[]⟩,c5⟩:j2)) (fun _ _=>a8) a8 a8 a8 (.i a8) (.t a8) ?_)
       refine .bs a8 (by decide) fun b48 => ?_
       refine .ap (by first|omega|(simp;done)|(simp;omega)|(simp at *;omega)) (by first|omega|(simp;done)|(simp;omega)|(simp at *;omega)) fun w49 => ?_
       refine .q 1 hG ?_
       refine .drop ?_
       refine .q 3 hG ?_
       refine .sb (by first|omega|(simp;done)|(simp;omega)|(simp at *;omega)) (by first|omega|(simp;done)|(simp;omega)|(simp at *;omega)) ?_
       refine .q 2 hG ?_
       refine⟨(k - 1,_,_,_),.cons rfl (.cons (congrArg (fun q=>some (AV.v q)) (by dsimp only;omega)) (.c2 rfl rfl (.nil _))),rfl,?_,by dsimp only;omega⟩
       first|(exfalso;omega)|(exfalso;simp_all;done)|(exfalso;simp at *;omega)|exact⟨by dsimp only;simp;omega,by assumption,a0w h4 (by first|assumption|exact O5 hs|exact H4 (by omega) (by omega) (by omega)|exact K7 (by omega) (by omega)|exact D9 (Or.inl rfl) (by decide))⟩
      ·refine .q 6 hG ⟨fun hc50 => ?_,fun hc50 => ?_⟩
       ·refine .q 3 hG ?_
        refine .km hG (W8 _ _ _ (by assumption)) .z1 (by rintro _ _ ⟨_,_,_,_,_,_,rfl⟩;exact⟨_,rfl⟩) fun r54 B54 hr54 => ?_
        obtain⟨p54,hp54,hk54,d54,hd54,rfl,hB⟩:=hr54
        cases hB
        refine .bs a8 (by decide) fun b55 => ?_
        refine .ap (by first|omega|(simp;done)|(simp;omega)|(simp at *;omega)) (by first|omega|(simp;done)|(simp;omega)|(simp at *;omega)) fun w56 => ?_
        refine .q 1 hG ?_
        refine .drop ?_
        refine .q 3 hG ?_
        refine .sb (by first|omega|(simp;done)|(simp;omega)|(simp at *;omega)) (by first|omega|(simp;done)|(simp;omega)|(simp at *;omega)) ?_
        refine .q 2 hG ?_
        refine⟨(k - 1,_,_,_),.cons rfl (.cons (congrArg (fun q=>some (AV.v q)) (by dsimp only;omega)) (.c2 rfl rfl (.nil _))),rfl,?_,by dsimp only;omega⟩
        first|(exfalso;omega)|(exfalso;simp_all;done)|(exfalso;simp at *;omega)|exact⟨by dsimp only;simp;omega,by assumption,a0w h4 (by first|assumption|exact O5 hs|exact H4 (by omega) (by omega) (by omega)|exact K7 (by omega) (by omega)|exact D9 (Or.inl rfl) (by decide))⟩
       ·refine .q 3 hG ?_
        refine .sb (by first|omega|(simp;done)|(simp;omega)|(simp at *;omega)) (by first|omega|(simp;done)|(simp;omega)|(simp at *;omega)) ?_
        refine .q 2 hG ?_
        refine⟨(k - 1,_,_,_),.cons rfl (.cons (congrArg (fun q=>some (AV.v q)) (by dsimp only;omega)) (.c2 rfl rfl (.nil _))),rfl,?_,by dsimp only;omega⟩
        first|(exfalso;omega)|(exfalso;simp_all;done)|(exfalso;simp at *;omega)|exact⟨by dsimp only;simp;omega,by assumption,a0w h4 (by first|assumption|exact O5 hs|exact H4 (by omega) (by omega) (by omega)|exact K7 (by omega) (by omega)|exact D9 (Or.inl rfl) (by decide))⟩
 ·refine .q 2 hG ?_
  refine .y0 hC .z (.as 7 a8 .z ?_)
  refine .q 5 hG ?_
  refine .e1 a8 a8 ?_
  exact⟨1,_,by omega,h4,_,h3,rfl,rfl⟩
abbrev Pass:=x4
abbrev Dis:=p5
abbrev c2m:=C3
abbrev a99:=u6
def a0h {α β:Type} [Inhabited β] (r:D6×α×Int) (f:D6→α→D6×β×Int):D6×β×Int:=if r.2.2=0 then f r.1 r.2.1 else (default,default,r.2.2)
theorem E9 {α β:Type} [Inhabited β] {r:D6×α×Int} (h:r.2.2=0) (f:D6→α→D6×β×Int):a0h r f=f r.1 r.2.1:=if_pos h
theorem O1 {α β:Type} [Inhabited β] {r:D6×α×Int} (h:¬r.2.2=0) (f:D6→α→D6×β×Int):a0h r f=(default,default,r.2.2):=if_neg h
def a4S (a:D6) (k:Tag) (m:List UInt8):D6×Tag×Int:=a0h (G6 a k m) fun b t=>a0h (G6 b t F5) fun c _=>(c,t,0)
def a6S (a:D6) (root:u4) (n:Int):D6×Pass×Int :=
 if K6 root.Number n=false then (default,default,1) else a0h (a4S a root.Key (a0r n)) fun b t=>(b,⟨root.Number,n,[],t⟩,0)
def a5P (p:Pass) (c:Cav):Bool:=decide (64≤p.l9.length)||(c.X4&&decide (8≤a0q p.l9))
def a3K (a:D6) (p:Pass) (c:Cav):D6×Pass×Int :=
 if H6 c=false then (default,default,5) else if a5P p c then (default,default,2) else
 a0h (a4S a p.Tag (a14 c)) fun b t=>(b,⟨p.D4,p.C2,p.l9 ++ [c],t⟩,0)
def Z2 (t:B0):Bool:=decide (0≤t.a2P)&&decide (t.a2P≤t.a6j)&&decide (t.a6j≤150)
def W0 (k:Tag) (t:B0):List UInt8:=k.l++I4 t.a2P.toNat++I4 t.a6j.toNat
def a3w (a:D6) (c:a99) (t:B0):D6×c2m×Int :=
 if (Z2 t&&decide (0≤c.G5)&&decide (c.G5≤7))=false then (default,default,1) else
 a0h (O3 a) fun b k=>a0h (O4 b c.Key b.F4 (W0 k t)) fun d x=>(d,⟨c.G5,k,x⟩,0)
def b1B (a:D6) (p:Pass) (b:c2m):D6×Pass×Int :=
 a0h (G6 a p.Tag (a05 b.p7)) fun a t=>a0h (O4 a t 0 b.Key.l) fun a x=>a3K a p ⟨true,default,b.G5,b.p7,x⟩
def Q3 (a:D6) (d:Dis) (p:Pred):D6×Dis×Int :=
 if y8 p=false then (default,default,5) else if p.Kind=7 then (default,default,6) else if 8≤d.j9.length then (default,default,2) else
 a0h (G6 a d.Tag (a06 p)) fun b t=>(b,⟨d.p7,d.j9 ++ [p],t⟩,0)
def a2n (s:T5):Pred:=⟨6,0,0,0,s,0⟩
def a5l (a:D6) (k:Tag) (t:List UInt8) (s:T5):D6×Dis×Int:=a0h (G6 a k (a15 t)) fun b x=>Q3 b ⟨t,[],x⟩ (a2n s)
def a0x (a:D6) (p:Pass):List Pred→D6×Pass×Int
 | []=>(a,p,0)
 | x::l=>a0h (a3K a p ⟨false,x,0,[],[]⟩) fun b q=>a0x b q l
def a2a (a:D6) (d:Dis) (leaf:Tag) (r:Rq):D6×Bnd×Int :=
 if U8 r=false then (default,default,1) else a0h (G6 a d.Tag (Z1 leaf r)) fun b t=>(b,⟨d.p7,d.j9,t⟩,0)
def a2b (leaf:Tag) (r:Rq) (a:D6):List Dis→D6×List Bnd×Int
 | []=>(a,[],0)
 | d::l=>a0h (a2a a d leaf r) fun b x=>a0h (a2b leaf r b l) fun c y=>(c,x::y,0)
def b7N (p:Pass) (l:List Dis) (r:Rq):Z7:=⟨r,p.D4,p.C2,p.l9,default,l.map fun d=>⟨d.p7,d.j9,default⟩⟩
theorem b4y (b:List UInt8):p6 gl prog 145 [.v b] (fun r=>r = .v (decide (1≤b.length)&&decide (b.length≤1024))):=by
 refine p6.jn func145 (by kernel_rfl) 11 rfl fun C hC hG => ?_
 refine .q 17 hG ?_
 refine .e1 a8 a8 ?_
 refine congrArg AV.v ?_;congr 1<;>(rw [decide_eq_decide];omega)
theorem a7W (c:Cav):p6 gl prog 93 [.v c] (fun r=>r = .v (H6 c)):=by
 refine p6.jn func93 (by kernel_rfl) 50 rfl fun C hC hG => ?_
 refine .q 3 hG fun b1 => ?_
 refine .q 4 hG ?_
 refine .C1 hC .z (.O9 1 a8 .z ?_)
 refine .q 5 hG ?_
 refine .cond (.t a8) (fun hc5 => ?_) (fun hc5 => ?_)
 ·refine .q 4 hG ?_
  refine .k hG (V6 _) ?_
  refine .q 20 hG ?_
  refine .e1 a8 a8 ?_
  refine congrArg AV.v ?_
  unfold H6
  simp_all
 ·refine .q 5 hG ?_
  refine .p (.bS0 (α:=j2) a8 R3 a5z (.p (.a1s T9 (by decide) a8 (by kernel_rfl) (.t a8) (.t a8) ?_)))
  refine .q 13 hG ?_
  refine .kg hG (b4y _) ?_
  refine .q 4 hG ?_
  refine .kg hG (b4y _) ?_
  refine .q 4 hG ?_
  refine .e1 a8 a8 ?_
  refine congrArg AV.v ?_
  unfold H6
  simp_all
theorem c3E (n:Nat):decide ((1:Int)≤(n:Int))=decide (1≤n):=decide_eq_decide.2 (by omega)
theorem b4z (n:Nat):decide ((n:Int)≤1024)=decide (n≤1024):=decide_eq_decide.2 (by omega)
theorem a0W {c:Cav} (h:H6 c=true):S8 c=(E0 c,0):=by unfold S8;rw [if_pos h]
theorem a4y {c:Cav} (h:¬H6 c=true):S8 c=([],5):=by unfold S8;rw [if_neg h]
theorem a4f (c:Cav):p6 gl prog 134 [.v c] (fun r=>r = .v (H6 c)):=by
 refine p6.jn func134 (by kernel_rfl) 64 rfl fun C hC hG => ?_
 refine .q 3 hG fun b1 => ?_
 refine .q 4 hG ?_
 refine .C1 hC .z (.O9 1 a8 .z ?_)
 refine .q 5 hG ?_
 refine .cond (.t a8) (fun hc5 => ?_) (fun hc5 => ?_)
 ·refine .q 4 hG ?_
  refine .k hG (a1z _) ?_
  refine .q 20 hG ?_
  refine .e1 a8 a8 ?_
  refine congrArg AV.v ?_
  unfold H6
  (try simp only [c3E,b4z])
  simp_all [Bool.and_assoc]
 ·refine .q 5 hG ?_
  refine .p (.bS0 (α:=j2) a8 R3 a5z (.p (.a1s T9 (by decide) a8 (by kernel_rfl) (.t a8) (.t a8) ?_)))
  refine .q 37 hG ?_
  refine .e1 a8 a8 ?_
  refine congrArg AV.v ?_
  unfold H6
  (try simp only [c3E,b4z])
  simp_all [Bool.and_assoc]
theorem a6T (l:List Cav) (hl:l.length≤1000000):p6 gl prog 30 [.v l] (fun r=>r = .v (P5 l)):=by
 refine p6.jn func30 (by kernel_rfl) 22 rfl fun C hC hG => ?_
 refine .q 6 hG ?_
 refine .p (.assign .raw ?_)
 refine .q 3 hG ?_
 refine .a0Q 79 Pred ?_
 refine .q 6 hG ?_
 refine .E1 (α:=Nat×Value) [(6,_),(7,_)] (fun x R=>(3,.raw x.2)::(8,.v (x.1:Int))::R) (fun x => [(true,.own 79 x.2 (P5 (l.take x.1)))]) (fun x=>x.1≤l.length) (fun x=>l.length - x.1) ((0,.slice none 0 0)) (.c2 a8 a8 (.nil _)) ?_ (.c2 a8 a8 (.c2 a8 a8 (.nil _))) (a8) fun x hF => ?_
 ·simp
 obtain⟨k,w⟩:=x
 dsimp only at hF ⊢
 have hfl:(P5 (l.take k)).length≤1000000:=Nat.le_trans (V7 _) (by simp;omega)
 refine .q 6 hG ⟨fun hc9 => ?_,fun hc9 => ?_⟩
 ·refine .q 5 hG ?_
  refine .ix (by first|omega|(simp;done)|(simp;omega)|(simp at *;omega)) (by first|omega|(simp;done)|(simp;omega)|(simp at *;omega)) ?_
  refine .q 2 hG fun b5 => ?_
  refine .q 3 hG ?_
  refine .C1 hC .z (.O9 5 a8 .z (.drop ?_))
  refine .q 5 hG ?_
  refine .cond (.t a8) (fun hc14 => ?_) (fun hc14 => ?_)
  ·refine .q 4 hG ?_
   refine .bs a8 (by decide) fun b18 => ?_
   refine .ap (by first|omega|(simp;done)|(simp;omega)|(simp at *;omega)) (by first|omega|(simp;done)|(simp;omega)|(simp at *;omega)) fun w19 => ?_
   refine .q 1 hG ?_
   refine .drop ?_
   refine .q 2 hG ?_
   refine .ad (by first|omega|(simp;done)|(simp;omega)|(simp at *;omega)) (by first|omega|(simp;done)|(simp;omega)|(simp at *;omega)) ?_
   refine .q 2 hG ?_
   refine⟨(k+1,_),.c2 rfl rfl (.c2 rfl rfl (.nil _)),congrArg (fun q => [(true,D8.own _ _ q)]) (by dsimp only;rw [a1B l k (by omega)];simp_all),?_,by dsimp only;omega⟩
   dsimp only;omega
  ·refine .q 2 hG ?_
   refine .ad (by first|omega|(simp;done)|(simp;omega)|(simp at *;omega)) (by first|omega|(simp;done)|(simp;omega)|(simp at *;omega)) ?_
   refine .q 2 hG ?_
   refine⟨(k+1,_),.c2 rfl rfl (.c2 rfl rfl (.nil _)),congrArg (fun q => [(true,D8.own _ _ q)]) (by dsimp only;rw [a1B l k (by omega)];simp_all),?_,by dsimp only;omega⟩
   dsimp only;omega
 ·refine .q 2 hG ?_
  refine .y0 hC .z (.as 3 a8 .z ?_)
  refine .q 5 hG ?_
  refine .e1 a8 a8 ?_
  refine congrArg AV.v ?_
  rw [List.take_of_length_le (by omega)]
theorem a6u (l:List Cav) (hl:l.length≤1000000):p6 gl prog 9 [.v l] (fun r=>r = .v (P5 l)):=by
 refine p6.jn func9 (by kernel_rfl) 26 rfl fun C hC hG => ?_
 refine .q 6 hG ?_
 refine .p (.assign .raw ?_)
 refine .q 3 hG ?_
 refine .a0Q 79 Pred ?_
 refine .q 4 hG ?_
 refine .E1 (α:=Nat×Value) [(0,_)] (fun x R=>(3,.raw x.2)::(4,.v (x.1:Int))::R) (fun x => [(true,.own 79 x.2 (P5 (l.take x.1)))]) (fun x=>x.1≤l.length) (fun x=>l.length - x.1) ((0,.slice none 0 0)) (.cons a8 (.nil _)) ?_ (.c2 a8 a8 (.cons a8 (.nil _))) (a8) fun x hF => ?_
 ·simp
 obtain⟨k,w⟩:=x
 dsimp only at hF ⊢
 have hfl:(P5 (l.take k)).length≤1000000:=Nat.le_trans (V7 _) (by simp;omega)
 refine .q 9 hG ⟨fun hc8 => ?_,fun hc8 => ?_⟩
 ·refine .q 7 hG ?_
  refine .ix (by first|omega|(simp;done)|(simp;omega)|(simp at *;omega)) (by first|omega|(simp;done)|(simp;omega)|(simp at *;omega)) ?_
  refine .q 4 hG ?_
  refine .cond (.t a8) (fun hc16 => ?_) (fun hc16 => ?_)
  ·refine .q 4 hG ?_
   refine .ix (by first|omega|(simp;done)|(simp;omega)|(simp at *;omega)) (by first|omega|(simp;done)|(simp;omega)|(simp at *;omega)) ?_
   refine .q 2 hG ?_
   refine .bs a8 (by decide) fun b23 => ?_
   refine .ap (by first|omega|(simp;done)|(simp;omega)|(simp at *;omega)) (by first|omega|(simp;done)|(simp;omega)|(simp at *;omega)) fun w24 => ?_
   refine .q 1 hG ?_
   refine .drop ?_
   refine .q 3 hG ?_
   refine .ad (by first|omega|(simp;done)|(simp;omega)|(simp at *;omega)) (by first|omega|(simp;done)|(simp;omega)|(simp at *;omega)) ?_
   refine .q 2 hG ?_
   refine⟨(k+1,_),.c2 rfl rfl (.cons rfl (.nil _)),congrArg (fun q => [(true,D8.own _ _ q)]) (by dsimp only;rw [a1B l k (by omega)];simp_all),?_,by dsimp only;omega⟩
   dsimp only;omega
  ·refine .q 3 hG ?_
   refine .ad (by first|omega|(simp;done)|(simp;omega)|(simp at *;omega)) (by first|omega|(simp;done)|(simp;omega)|(simp at *;omega)) ?_
   refine .q 2 hG ?_
   refine⟨(k+1,_),.c2 rfl rfl (.cons rfl (.nil _)),congrArg (fun q => [(true,D8.own _ _ q)]) (by dsimp only;rw [a1B l k (by omega)];simp_all),?_,by dsimp only;omega⟩
   dsimp only;omega
 ·refine .q 2 hG ?_
  refine .y0 hC .z (.as 3 a8 .z ?_)
  refine .q 5 hG ?_
  refine .e1 a8 a8 ?_
  refine congrArg AV.v ?_
  rw [List.take_of_length_le (by omega)]
theorem a8V (l:List Cav) (hl:l.length≤1000000):p6 gl prog 111 [.v l] (fun r=>r = .v (a0q l)):=by
 refine p6.jn func111 (by kernel_rfl) 9 rfl fun C hC hG => ?_
 refine .q 5 hG ?_
 have hfl:=V7 l
 refine .q 4 hG ?_
 refine .k hG (a6u _ hl) ?_
 refine .q 1 hG ?_
 refine .sb (by first|omega|(simp;done)|(simp;omega)|(simp at *;omega)) (by first|omega|(simp;done)|(simp;omega)|(simp at *;omega)) ?_
 refine .q 3 hG ?_
 refine .e1 a8 a8 ?_
 rfl
theorem b1C (l:List Cav):p6 gl prog 112 [.v l] (fun r=>r = .v (l.all H6)):=by
 refine p6.jn func112 (by kernel_rfl) 16 rfl fun C hC hG => ?_
 refine .q 6 hG ?_
 refine .X3 0 a8 fun hl => ?_
 refine .q 4 hG ?_
 refine .E1 (α:=Nat) [(0,_)] (fun k R=>(3,.v (k:Int))::R) (fun k => []) (fun k=>k≤l.length∧(l.take k).all H6=true) (fun k=>l.length - k) (0) (.cons a8 (.nil _)) ?_ (.c2 a8 a8 (.nil _)) (a8) fun k hF => ?_
 ·simp
 obtain⟨h1,h2⟩:=hF
 refine .q 9 hG ⟨fun hc7 => ?_,fun hc7 => ?_⟩
 ·refine .q 7 hG ?_
  refine .ix (by first|omega|(simp;done)|(simp;omega)|(simp at *;omega)) (by first|omega|(simp;done)|(simp;omega)|(simp at *;omega)) ?_
  refine .q 1 hG ?_
  refine .k hG (a4f _) ?_
  refine .q 2 hG ?_
  refine .cond (.t a8) (fun hc15 => ?_) (fun hc15 => ?_)
  ·refine .q 5 hG ?_
   refine .e1 a8 a8 ?_
   refine congrArg AV.v (Eq.symm ?_)
   rw [a9X H6 l k (by omega)]
   simp_all
  ·refine .q 3 hG ?_
   refine .ad (by first|omega|(simp;done)|(simp;omega)|(simp at *;omega)) (by first|omega|(simp;done)|(simp;omega)|(simp at *;omega)) ?_
   refine .q 2 hG ?_
   refine⟨k+1,.c2 rfl rfl (.nil _),rfl,?_,by omega⟩
   refine⟨by omega,?_⟩;rw [all_succ _ _ _ (by omega),h2];simpa using hc15
 ·refine .q 6 hG ?_
  refine .e1 a8 a8 ?_
  refine congrArg AV.v (Eq.symm ?_)
  rw [List.take_of_length_le (by omega)] at h2
  exact h2
theorem b1D (c:Cav):p6 gl prog 121 [.v c] (fun r=>r = .t2 (.v (S8 c).1) (.v (S8 c).2)):=by
 refine p6.jn func121 (by kernel_rfl) 52 rfl fun C hC hG => ?_
 refine .q 3 hG fun b1 => ?_
 refine .q 5 hG ?_
 refine .C1 hC .z (.O9 1 a8 .z ?_)
 refine .q 2 hG ?_
 refine .k hG (a7W _) ?_
 refine .q 2 hG ?_
 refine .cond (.t a8) (fun hc12 => ?_) (fun hc12 => ?_)
 ·refine .q 6 hG ?_
  refine .e2 a8 a8 a8 ?_
  rw [a4y (by simpa using hc12)]
 ·refine .q 3 hG ?_
  have hco:H6 c=true:=by simpa using hc12
  refine .q 5 hG ?_
  refine .cond (.t a8) (fun hc15 => ?_) (fun hc15 => ?_)
  ·refine .q 4 hG ?_
   refine .k hG (a8T _) ?_
   refine .q 7 hG ?_
   have h15:c.X4=false:=by simpa using hc15
   obtain⟨hpo,-⟩:=a4c hco h15
   have hpl:=G9 (L5 hpo)
   rw [x8 hpo]
   refine .q 1 hG ?_
   refine .bs a8 (by decide) fun b22 => ?_
   refine .q 1 hG ?_
   refine .ap (by first|omega|(simp;done)|(simp;omega)|(simp at *;omega)) (by first|omega|(simp;done)|(simp;omega)|(simp at *;omega)) fun w24 => ?_
   refine .q 4 hG ?_
   refine .y0 hC .z (.as 2 a8 .z ?_)
   refine .q 1 hG ?_
   refine .e2 a8 a8 a8 ?_
   rw [a0W hco]
   unfold E0
   rw [h15]
   rfl
  ·refine .q 2 hG ?_
   obtain⟨g1,g2,g3,g4,g5,g6,g7⟩:=a4b hco (by simpa using hc15)
   have hn:=B1 (n:=c.G5.toNat) (by omega)
   refine .q 1 hG ?_
   refine .bs a8 (by decide) fun b27=>(.y0 hC .z (.as 27 a8 .z ?_))
   refine .q 2 hG ?_
   refine .p (.p8 hG ((a0R _ _ (by first|omega|(simp;done)|(simp;omega)|(simp at *;omega)) (by omega) (by omega)).b7B) (.cons (.t a8) (.cons (.t a8) .nil)) ?_)
   refine .q 13 hG ?_
   refine .p (.U1 (⟨[_,_],a8⟩:(K5 2 (List UInt8))) c3u c00 (.cons (j6.idx 0 (by decide)) _ a8 (.t a8) (.cons (j6.idx 1 (by decide)) _ a8 (.t a8) .nil)) a8 ?_)
   refine .q 3 hG ?_
   refine .E1 (α:=Nat×List UInt8) [(37,_)] (fun x R=>(6,.v x.2)::(7,.v (0:Int))::(38,.v (x.1:Int))::R) (Function.const _ _) (fun x=>x.1≤2∧x.2 = [2]++I4 c.G5.toNat++Q1 Z8 ([c.p7,c.Box].take x.1)) (fun x=>2 - x.1) ((0,[2]++I4 c.G5.toNat)) (.cons a8 (.nil _)) ?_ (.c2 a8 a8 (.c2 a8 a8 (.nil _))) (a8) fun x hF => ?_
   ·exact⟨Nat.zero_le _,by simp [Q1]⟩
   obtain⟨k,y⟩:=x
   obtain⟨h1,h2⟩:=hF
   dsimp only at h1 h2 ⊢
   have hy:y.length≤3000:=(by have h5:=a0V g5;have h7:=a0V g7;have h8:k=0∨k=1∨k=2:=(by omega);rw [h2];rcases h8 with rfl|rfl|rfl<;>simp [Q1]<;>omega)
   have hxk:∀ (h:k < [c.p7,c.Box].length),([c.p7,c.Box][k]).length≤1024:=(by intro h;have h8:k=0∨k=1:=(by simp at h;omega);rcases h8 with rfl|rfl;exact g5;exact g7)
   refine .q 6 hG ⟨fun hc39 => ?_,fun hc39 => ?_⟩
   ·refine .q 5 hG ?_
    refine .p (.ix c00 a8 (.t a8) (.t a8) (by first|omega|(simp;done)|(simp;omega)|(simp at *;omega)) (by first|omega|(simp;done)|(simp;omega)|(simp at *;omega)) ?_)
    refine .q 7 hG ?_
    refine .R4 (.t a8) (fun hc42 => ?_) (fun hc42=>(by exfalso;exact hc42 rfl))
    refine .q 3 hG ?_
    refine .p (.p8 hG (a95 _ _ (by first|omega|(simp;done)|(simp;omega)|(simp at *;omega)) (hxk (by simp;omega))) (.cons (.t a8) (.cons (.t a8) .nil)) ?_)
    refine .q 7 hG ?_
    refine .ad (by first|omega|(simp;done)|(simp;omega)|(simp at *;omega)) (by first|omega|(simp;done)|(simp;omega)|(simp at *;omega)) ?_
    refine .q 2 hG ?_
    refine⟨(k+1,_),.c2 rfl rfl (.c2 rfl rfl (.nil _)),rfl,?_,by dsimp only;omega⟩
    refine⟨by omega,?_⟩;rw [a0U Z8 _ k (by simp;omega),←List.append_assoc,←h2];simp [Z8]
   ·refine .q 2 hG ?_
    skip
    refine .q 7 hG ?_
    refine .e2 a8 a8 a8 ?_
    obtain rfl:k=2:=(by omega)
    rw [a0W hco]
    unfold E0
    rw [if_pos (by simpa using hc15),h2]
    simp [Q1,Z8]
theorem a8W (c:Cav):p6 gl prog 152 [.v c] (fun r=>r = .t2 (.v (S8 c).1) (.v (S8 c).2)):=by
 refine p6.jn func152 (by kernel_rfl) 34 rfl fun C hC hG => ?_
 refine .q 3 hG fun b1 => ?_
 refine .q 5 hG ?_
 refine .C1 hC .z (.O9 1 a8 .z ?_)
 refine .q 2 hG ?_
 refine .k hG (a4f _) ?_
 refine .q 2 hG ?_
 refine .cond (.t a8) (fun hc8 => ?_) (fun hc8 => ?_)
 ·refine .q 6 hG ?_
  refine .e2 a8 a8 a8 ?_
  rw [a4y (by simpa using hc8)]
 ·refine .q 3 hG ?_
  have hco:H6 c=true:=by simpa using hc8
  refine .q 5 hG ?_
  refine .cond (.t a8) (fun hc11 => ?_) (fun hc11 => ?_)
  ·refine .q 4 hG ?_
   refine .k hG (a5i _) ?_
   refine .q 7 hG ?_
   have h11:c.X4=false:=by simpa using hc11
   obtain⟨hpo,-⟩:=a4c hco h11
   have hpl:=G9 (L5 hpo)
   rw [x8 hpo]
   refine .q 1 hG ?_
   refine .bs a8 (by decide) fun b18 => ?_
   refine .q 1 hG ?_
   refine .ap (by first|omega|(simp;done)|(simp;omega)|(simp at *;omega)) (by first|omega|(simp;done)|(simp;omega)|(simp at *;omega)) fun w20 => ?_
   refine .q 3 hG ?_
   refine .y0 hC .z (.as 2 a8 .z ?_)
   refine .q 1 hG ?_
   refine .e2 a8 a8 a8 ?_
   rw [a0W hco]
   unfold E0
   rw [h11]
   rfl
  ·refine .q 2 hG ?_
   obtain⟨g1,g2,g3,g4,g5,g6,g7⟩:=a4b hco (by simpa using hc11)
   have hn:=B1 (n:=c.G5.toNat) (by omega)
   have hn2:=B1 (n:=c.p7.length) (by omega)
   have hn3:=B1 (n:=c.Box.length) (by omega)
   refine .a7H (by kernel_rfl) 15 [[],[],[(22,1)],[(23,2)],[(21,0),(24,3)],[],[(26,5)],[(27,6)],[(25,4),(28,7)],[],[(30,9)],[(31,10)],[(29,8),(32,11)],[(33,12)],[]] [0,4,8,12,13] a8 (by kernel_rfl) a8 (by kernel_rfl) (by decide) (.inl ?_)
   refine⟨_,fun H=>j5.y9 p9.l2 (fun x=>x.G5) b6M a8 (fun _=>a8) (.t a8) a8,?_⟩
   refine⟨_,fun H=>j5.G8 I6 (.t a8) a8,?_⟩
   refine⟨_,fun H=>j5.p8 hG (E6 _ (by omega) (by omega)) (.cons (.t a8) .nil) a8,?_⟩
   refine .inl ?_
   refine⟨_,fun H=>j5.y9 p9.l3 (fun x=>x.p7) b6N a8 (fun _=>a8) (.t a8) a8,?_⟩
   refine⟨_,fun H=>j5.G8 a3J (.t a8) a8,?_⟩
   refine⟨_,fun H=>j5.p8 hG (a0o _ (by omega)) (.cons (.t a8) .nil) a8,?_⟩
   refine .inl ?_
   refine⟨_,fun H=>j5.y9 p9.l4 (fun x=>x.Box) b6O a8 (fun _=>a8) (.t a8) a8,?_⟩
   refine⟨_,fun H=>j5.G8 a3J (.t a8) a8,?_⟩
   refine⟨_,fun H=>j5.p8 hG (a0o _ (by omega)) (.cons (.t a8) .nil) a8,?_⟩
   refine .inl (.inl ?_)
   refine⟨_,fun H=>j5.assign (.i a8) a8,?_⟩
   refine B3.buildSlice (α:=UInt8) ty5 underlying64 (.cons (.u8 2 rfl) .nil) rfl (by decide) fun b21 => ?_
   refine B3.append O2 (.inl ⟨_,underlying64⟩) rfl .z (.v (.t rfl)) (by first|omega|(simp;done)|(simp;omega)|(simp at *;omega)) (by first|omega|(simp;done)|(simp;omega)|(simp at *;omega)) (fun w25 => ?_) rfl
   refine B3.append O2 (.inl ⟨_,underlying64⟩) rfl .z (.v (.t rfl)) (by first|omega|(simp;done)|(simp;omega)|(simp at *;omega)) (by first|omega|(simp;done)|(simp;omega)|(simp at *;omega)) (fun w29 => ?_) rfl
   refine B3.append O2 (.inl ⟨_,underlying64⟩) rfl .z (.v (.t rfl)) (by first|omega|(simp;done)|(simp;omega)|(simp at *;omega)) (by first|omega|(simp;done)|(simp;omega)|(simp at *;omega)) (fun w33 => ?_) rfl
   refine B3.ofP (j5.assign (.t rfl) ?_)
   show D1 _ _ _ _ _ [] ((3,_)::(2,_)::(33,_)::(32,_)::(31,_)::(30,_)::(29,_)::(28,_)::(27,_)::(26,_)::(25,_)::(24,_)::(23,_)::(22,_)::(21,_)::_) _
   refine .q 1 hG ?_
   refine .y0 hC .z (.as 2 a8 .z ?_)
   refine .q 1 hG ?_
   refine .e2 a8 a8 a8 ?_
   rw [a0W hco]
   unfold E0
   rw [if_pos (by simpa using hc11)]
   simp [Z8]
theorem b7O (s:T5) (b:List UInt8) (hs:s.l.length≤1000) (hb:b.length≤1000000):p6 gl prog 122 [.v s,.v b] (fun r=>r = .v (s.l++b)):=by
 refine p6.jn func122 (by kernel_rfl) 9 rfl fun C hC hG => ?_
 refine .q 7 hG ?_
 refine .h (.T6 underlying9 underlying64 underlying5 (.t a8) fun w6 => ?_)
 refine .q 1 hG ?_
 refine .ap (by first|omega|(simp;done)|(simp;omega)|(simp at *;omega)) (by first|omega|(simp;done)|(simp;omega)|(simp at *;omega)) fun w8 => ?_
 refine .q 2 hG ?_
 refine .y0 hC .z (.as 4 a8 .z ?_)
 refine .q 1 hG ?_
 refine .e1 a8 a8 ?_
 rfl
theorem b7P (e n:Int):p6 gl prog 119 [.v e,.v n] (fun r=>r = .v (K6 e n)):=by
 refine p6.jn func119 (by kernel_rfl) 19 rfl fun C hC hG => ?_
 refine .q 23 hG ?_
 refine .e1 a8 a8 ?_
 rfl
theorem b5A (n:Int) (h0:0≤n) (h1:n≤281474976710656):p6 gl prog 120 [.v n] (fun r=>r = .v (a0r n)):=by
 have hlen:=B1 (n:=n.toNat) (by omega)
 refine p6.jn func120 (by kernel_rfl) 12 rfl fun C hC hG => ?_
 refine .q 7 hG ?_
 refine .p (.p8 hG ((a0R _ _ (by decide) (by omega) (by omega)).b7B) (.cons .b5k (.cons (.t a8) .nil)) ?_)
 refine .q 9 hG ?_
 refine .p (.p8 hG (b7O _ _ (by decide) (by simp;omega)) (.cons (.s [109,105,110,116] (by decide) (by decide)) (.cons (.t a8) .nil)) ?_)
 refine .q 3 hG ?_
 refine .e1 a8 a8 ?_
 rfl
theorem b3l (n:Int) (h0:0≤n) (h1:n≤281474976710656):p6 gl prog 57 [.v n] (fun r=>r = .v (a0r n)):=by
 have hlen:=B1 (n:=n.toNat) (by omega)
 refine p6.jn func57 (by kernel_rfl) 6 rfl fun C hC hG => ?_
 refine .q 7 hG ?_
 refine .k hG (E6 _ (by omega) (by omega)) (.p (.p8 hG (a34 _ _ (by decide) (by omega)) (.cons (.s [109,105,110,116] (by decide) (by decide)) (.cons (.t a8) .nil)) ?_))
 refine .q 3 hG ?_
 refine .e1 a8 a8 ?_
 rfl
theorem a3x (c:Cav):(S8 c).1.length≤2100:=by
 unfold S8;split
 ·next h=>exact a1A h
 ·simp
theorem a4g (p:Pred):(U6 p).1.length≤24:=by
 unfold U6;split
 ·next h=>exact G9 (L5 h)
 ·simp
theorem b5B (c:Cav):p6 gl prog 135 [.v c] (fun r=>r = .v (a14 c)):=by
 have hlen:=a3x c
 refine p6.jn func135 (by kernel_rfl) 12 rfl fun C hC hG => ?_
 refine .q 3 hG fun b1 => ?_
 refine .q 5 hG ?_
 refine .k hG (a8W _) ?_
 refine .q 9 hG ?_
 refine .p (.p8 hG (a34 _ _ (by decide) (by omega)) (.cons (.s [99,97,118,101,97,116] (by decide) (by decide)) (.cons (.t a8) .nil)) ?_)
 refine .q 3 hG ?_
 refine .e1 a8 a8 ?_
 rfl
theorem b3m (t:List UInt8) (h:t.length≤1000000):p6 gl prog 78 [.v t] (fun r=>r = .v (a05 t)):=by
 refine p6.jn func78 (by kernel_rfl) 5 rfl fun C hC hG => ?_
 refine .q 7 hG ?_
 refine .p (.p8 hG (a34 _ _ (by decide) (by omega)) (.cons (.s [115,101,97,108] (by decide) (by decide)) (.cons (.t a8) .nil)) ?_)
 refine .q 3 hG ?_
 refine .e1 a8 a8 ?_
 rfl
theorem b1E (t:List UInt8) (h:t.length≤1000000):p6 gl prog 83 [.v t] (fun r=>r = .v (a15 t)):=by
 refine p6.jn func83 (by kernel_rfl) 5 rfl fun C hC hG => ?_
 refine .q 7 hG ?_
 refine .p (.p8 hG (a34 _ _ (by decide) (by omega)) (.cons (.s [103,114,97,110,116] (by decide) (by decide)) (.cons (.t a8) .nil)) ?_)
 refine .q 3 hG ?_
 refine .e1 a8 a8 ?_
 rfl
theorem b3n (p:Pred):p6 gl prog 85 [.v p] (fun r=>r = .v (a06 p)):=by
 have hlen:=a4g p
 refine p6.jn func85 (by kernel_rfl) 12 rfl fun C hC hG => ?_
 refine .q 3 hG fun b1 => ?_
 refine .q 5 hG ?_
 refine .k hG (a5i _) ?_
 refine .q 9 hG ?_
 refine .p (.p8 hG (a34 _ _ (by decide) (by omega)) (.cons (.s [99,111,110,100,105,116,105,111,110] (by decide) (by decide)) (.cons (.t a8) .nil)) ?_)
 refine .q 3 hG ?_
 refine .e1 a8 a8 ?_
 rfl
theorem b4A (r:Rq):p6 gl prog 110 [.v r] (fun x=>x = .v (U8 r)):=by
 refine p6.jn func110 (by kernel_rfl) 21 rfl fun C hC hG => ?_
 refine .q 3 hG fun b1 => ?_
 refine .q 25 hG ?_
 refine .e1 a8 a8 ?_
 rfl
theorem b7Q (r:Rq):p6 gl prog 89 [.v r] (fun x=>x = .v (U8 r)):=by
 refine p6.jn func89 (by kernel_rfl) 21 rfl fun C hC hG => ?_
 refine .q 3 hG fun b1 => ?_
 refine .q 25 hG ?_
 refine .e1 a8 a8 ?_
 rfl
theorem b1F {r:Rq} (h:U8 r=true):(a0s r).length≤14:=by
 obtain⟨g0,g1,n0,n1⟩:=a07 h
 have l1:=B1 (n:=r.Gate.toNat) (by omega)
 have l2:=B1 (n:=r.E7.toNat) (by omega)
 unfold a0s;rw [List.length_append];omega
theorem a4h (r:Rq) (h:U8 r=true):G0 gl prog 117 [.v r] [] (fun x Hs=>∃ u,x = .raw u∧Hs = [.own 5 u (a0s r)]):=by
 obtain⟨g0,g1,n0,n1⟩:=a07 h
 have l1:=B1 (n:=r.Gate.toNat) (by omega)
 have l2:=B1 (n:=r.E7.toNat) (by omega)
 refine G0.R1 func117 rfl (by kernel_rfl) 10 rfl rfl _ rfl _ rfl fun C hC hG => ?_
 refine .q 3 hG fun b1 => ?_
 refine .q 3 hG ?_
 refine .C1 hC .z (.O9 1 a8 .z (.a7H (by kernel_rfl) 8 [[],[(3,0)],[(4,1)],[],[(6,3)],[(7,4)],[(5,2),(8,5)],[(9,6)]] [2,6,7] a8 (by kernel_rfl) a8 (by kernel_rfl) (by decide) ?_))
 refine⟨_,fun H=>j5.y9 u7.l0 (fun x=>x.Gate) b2B a8 (fun _=>a8) (.t a8) a8,?_⟩
 refine⟨_,fun H=>j5.G8 I6 (.t a8) a8,?_⟩
 refine .inl ?_
 refine⟨_,fun H=>j5.y9 u7.l1 (fun x=>x.E7) b6C a8 (fun _=>a8) (.t a8) a8,?_⟩
 refine⟨_,fun H=>j5.G8 I6 (.t a8) a8,?_⟩
 refine⟨_,fun H=>j5.p8 hG (E6 _ (by omega) (by omega)) (.cons (.t a8) .nil) a8,?_⟩
 refine .inl (.inl ?_)
 refine B3.a7D hG (a2m _ (by omega) (by omega)) (.cons (.t rfl) .nil) fun r5 Hs5 hr5 => ?_
 obtain⟨u5,rfl,rfl⟩:=hr5
 refine B3.append O2 (.inl ⟨_,underlying64⟩) rfl .z (.v (.t rfl)) (by first|omega|(simp;done)|(simp;omega)|(simp at *;omega)) (by first|omega|(simp;done)|(simp;omega)|(simp at *;omega)) (fun w9 => ?_) rfl
 refine B3.ofP (j5.assign (.t rfl) ?_)
 show D1 _ _ _ _ _ [] ((2,_)::(9,_)::(8,_)::(7,_)::(6,_)::(5,_)::(4,_)::(3,_)::_) _
 refine .q 2 hG ?_
 refine .e1 a8 a8 ?_
 refine⟨_,.cons .z (.nil),?_⟩
 exact⟨_,a8,a8⟩
theorem b3o (leaf:Tag) (r:Rq) (h:U8 r=true):p6 gl prog 118 [.v leaf,.v r] (fun x=>x = .v (Z1 leaf r)):=by
 obtain⟨g0,g1,n0,n1⟩:=a07 h
 have l1:=B1 (n:=r.Gate.toNat) (by omega)
 have l2:=B1 (n:=r.E7.toNat) (by omega)
 have hlb:=b1F h
 refine p6.jn func118 (by kernel_rfl) 12 rfl fun C hC hG => ?_
 refine .q 3 hG fun b2 => ?_
 refine .q 1 hG fun b3 => ?_
 refine .q 3 hG ?_
 refine .C1 hC .z1 (.O9 2 a8 .z1 (.C1 hC .z (.O9 3 a8 .z (.a7H (by kernel_rfl) 8 [[],[],[(5,0),(6,1)],[],[(8,3)],[(7,2),(9,4)],[(10,5)],[(11,6)]] [0,2,5,6,7] a8 (by kernel_rfl) a8 (by kernel_rfl) (by decide) (.inl ?_)))))
 refine⟨_,fun H=>j5.V3 (by decide) V2 (.t a8) a8,?_⟩
 refine .inl ?_
 refine⟨_,fun H=>j5.G8 a8r (.t a8) a8,?_⟩
 refine⟨_,fun H=>j5.p8 hG ((a4h _ h).a9Q) (.cons (.t a8) .nil) a8,?_⟩
 refine .inl (.inl (.inl ?_))
 refine B3.buildSlice (α:=UInt8) ty5 underlying64 .nil rfl (by decide) fun b5 => ?_
 refine B3.append O2 (.inl ⟨_,underlying64⟩) rfl .z (.v (.t rfl)) (by first|omega|(simp;done)|(simp;omega)|(simp at *;omega)) (by first|omega|(simp;done)|(simp;omega)|(simp at *;omega)) (fun w7 => ?_) rfl
 refine B3.append O2 (.inl ⟨_,underlying64⟩) rfl .z (.v (.t rfl)) (by first|omega|(simp;done)|(simp;omega)|(simp at *;omega)) (by first|omega|(simp;done)|(simp;omega)|(simp at *;omega)) (fun w10 => ?_) rfl
 refine B3.c1b hG (a8O _ _ (by decide) (by simp [K5.len];omega)) (.cons (.e (.s [98,105,110,100] (by decide) (by decide))) (.cons (.own rfl .z) .nil)) (by rintro _ _ ⟨u,rfl,rfl⟩;exact .own) fun r11 Hs11 hr11 => ?_
 obtain⟨u11,rfl,rfl⟩:=hr11
 refine B3.ofP (j5.assign (.t rfl) ?_)
 show D1 _ _ _ _ _ [] ((4,_)::(11,_)::(10,_)::(9,_)::(8,_)::(7,_)::(6,_)::(5,_)::_) _
 refine .y0 hC .z (.as 4 a8 .z ?_)
 refine .q 2 hG ?_
 refine .e1 a8 a8 ?_
 rfl
theorem b7R (r:Rq) (h:U8 r=true):p6 gl prog 60 [.v r] (fun x=>x = .v (a2W r)):=by
 obtain⟨g0,g1,n0,n1⟩:=a07 h
 have l1:=B1 (n:=r.Gate.toNat) (by omega)
 have l2:=B1 (n:=r.E7.toNat) (by omega)
 refine p6.jn func60 (by kernel_rfl) 6 rfl fun C hC hG => ?_
 refine .q 3 hG fun b1 => ?_
 refine .q 5 hG ?_
 refine .k hG ((a4h _ h).a9Q) (.p (.p8 hG (a34 _ _ (by decide) (by simp [a0s];omega)) (.cons (.s [114,101,113,117,101,115,116] (by decide) (by decide)) (.cons (.t a8) .nil)) ?_))
 refine .q 3 hG ?_
 refine .e1 a8 a8 ?_
 rfl
theorem c2n (s:T5) (b:List UInt8) (r:Rq) (hs:s.l.length≤1000) (hb:b.length≤1000) (h:U8 r=true):p6 gl prog 126 [.v s,.v b,.v r] (fun x=>x = .v (s.l++(b++a0s r))):=by
 obtain⟨g0,g1,n0,n1⟩:=a07 h
 have l1:=B1 (n:=r.Gate.toNat) (by omega)
 have l2:=B1 (n:=r.E7.toNat) (by omega)
 refine p6.jn func126 (by kernel_rfl) 26 rfl fun C hC hG => ?_
 refine .q 3 hG fun b5 => ?_
 refine .q 3 hG ?_
 refine .draw (by kernel_rfl) 11 [[],[],[(10,0),(11,1)],[],[(13,3)],[(12,2),(14,4)],[(15,5)],[(9,6)],[(9,6)],[(16,7)],[(17,8)]] a8 (by kernel_rfl) a8 ?_
 refine⟨_,j5.move (.t a8) a8,?_⟩
 refine⟨_,j5.move (.t a8) a8,?_⟩
 refine⟨_,j5.p8 hG (b7O _ _ (by first|omega|(simp;done)|(simp;omega)|(simp at *;omega)) (by first|omega|(simp;done)|(simp;omega)|(simp at *;omega))) (.cons (.t a8) (.cons (.t a8) .nil)) a8,?_⟩
 refine⟨_,j5.A9 u7.l0 b2B a8 (.t a8) a8,?_⟩
 refine⟨_,j5.S1 (fun x=>x.Gate) I6 (.t a8) .z (fun _=>a8) a8,?_⟩
 refine⟨_,j5.p8 hG ((a0R _ _ (by first|omega|(simp;done)|(simp;omega)|(simp at *;omega)) (by omega) (by omega)).b7B) (.cons (.t a8) (.cons (.t a8) .nil)) a8,?_⟩
 refine⟨_,j5.move (.t a8) a8,?_⟩
 refine⟨_,j5.a7E (.t a8) a8,?_⟩
 refine⟨_,j5.a7F (.t a8) a8,?_⟩
 refine⟨_,j5.assign (.t a8) a8,?_⟩
 refine⟨_,j5.assign (.t a8) a8,?_⟩
 show D1 _ _ _ _ _ [] ((8,_)::(7,_)::(17,_)::(16,_)::(9,_)::(15,_)::(14,_)::(13,_)::(12,_)::(11,_)::(10,_)::_) _
 refine .q 6 hG ?_
 refine .p (.p8 hG ((a0R _ _ (by first|omega|(simp;done)|(simp;omega)|(simp at *;omega)) (by omega) (by omega)).b7B) (.cons (.t a8) (.cons (.t a8) .nil)) ?_)
 refine .q 11 hG ?_
 refine .e1 a8 a8 ?_
 unfold a0s;simp only [List.append_assoc]
theorem b3p {a:D6} {leaf:Tag} {r:Rq} (h:U8 r=false):a0u a leaf r=(default,false):=by unfold a0u;rw [if_neg (by rw [h];decide)]
theorem b3q {a:D6} {leaf:Tag} {r:Rq} (h:U8 r=true):a0u a leaf r=u2 a leaf (a2W r):=by unfold a0u;rw [if_pos h]
theorem b5C (a:D6) (hL:b1r a) (leaf:Tag) (r:Rq):p6 gl prog 65 [.v a,.v leaf,.v r] (fun x=>x = .t2 (.v (a0u a leaf r).1) (.v (a0u a leaf r).2)):=by
 refine p6.jn func65 (by kernel_rfl) 19 rfl fun C hC hG => ?_
 refine .q 3 hG fun b3 => ?_
 refine .q 1 hG fun b4 => ?_
 refine .q 1 hG fun b5 => ?_
 refine .q 1 hG fun b6 => ?_
 refine .q 6 hG ?_
 refine .k hG (b7Q _) ?_
 refine .q 2 hG ?_
 refine .cond (.t a8) (fun hc10 => ?_) (fun hc10 => ?_)
 ·refine .q 2 hG ?_
  refine .p (.U1 (default:(K5 32 UInt8)) D0 V2 .nil a8 ?_)
  refine .q 4 hG ?_
  refine⟨_,.r2 a8 (.cell D0 a8 .z) (.tmp a8),?_⟩
  rw [b3p (by simpa using hc10)]
 ·refine .q 2 hG ?_
  have hro:U8 r=true:=by simpa using hc10
  refine .draw (by kernel_rfl) 7 [[],[],[],[(14,2)],[(12,0),(13,1),(15,3)],[(16,4)],[(16,4)]] a8 (by kernel_rfl) a8 ?_
  refine⟨_,j5.Q6 A6 (.t a8) .z3 a8,?_⟩
  refine⟨_,j5.Q6 D0 (.t a8) .z2 a8,?_⟩
  refine⟨_,j5.Q6 a8r (.t a8) .z1 a8,?_⟩
  refine⟨_,j5.p8 hG (c2n _ _ _ (by decide) (by decide) (by simpa using ‹(!U8 r)=false›)) (.cons (.s [114,101,113,117,101,115,116] (by decide) (by decide)) (.cons .b5k (.cons (.t a8) .nil))) a8,?_⟩
  refine⟨_,j5.p8 hG (hL _ _) (.cons (.t a8) (.cons (.t a8) (.cons (.t a8) .nil))) a8,?_⟩
  refine⟨_,j5.a7E (.t a8) a8,?_⟩
  refine⟨_,j5.a7F (.t a8) a8,?_⟩
  show D1 _ _ _ _ _ [_,_] ((18,_)::(17,_)::(16,_)::(15,_)::(14,_)::(13,_)::(12,_)::_) _
  refine .q 4 hG ?_
  refine⟨_,.r2 a8 (.cell D0 a8 .z) (.tmp a8),?_⟩
  rw [b3q hro]
  rfl
theorem c2o (k:Tag) (l:List (List UInt8)) (hl:l.length≤1000000) (p:Tag→List UInt8→Tag×Bool):p6 gl prog 123 [.v k,.v l,.b7C prog p] (fun x=>x = .t2 (.v ((P3 p k l).getD [])) (.v (P3 p k l).isSome)):=by
 refine p6.jn func123 (by kernel_rfl) 41 rfl fun C hC hG => ?_
 refine .q 3 hG fun b3 => ?_
 refine .q 4 hG ?_
 refine .C1 hC .z (.O9 3 a8 .z (.drop ?_))
 refine .q 2 hG ?_
 refine .bs a8 (by decide) fun b14 => ?_
 refine .q 10 hG ?_
 refine .E1 (α:=Nat×Value×List Tag) [(2,_),(15,_),(16,_)] (fun x R=>(8,.raw x.2.1)::(17,.v (x.1:Int))::R) (fun x => [(true,.own 24 x.2.1 x.2.2)]) (fun x=>x.1≤l.length∧P3 p k (l.take x.1)=some x.2.2∧x.2.2.length=x.1+1) (fun x=>l.length - x.1) ((0,slc b14 0 1 1,[k])) (.c2 a8 a8 (.cons a8 (.nil _))) ?_ (.c2 a8 a8 (.c2 a8 a8 (.cons a8 (.nil _)))) (a8) fun x hF => ?_
 ·exact⟨Nat.zero_le _,a8,a8⟩
 obtain⟨i,w,s⟩:=x
 obtain⟨h1,h2,h3⟩:=hF
 dsimp only at h1 h2 h3 ⊢
 refine .q 6 hG ⟨fun hc18 => ?_,fun hc18 => ?_⟩
 ·refine .q 5 hG ?_
  refine .ix (by first|omega|(simp;done)|(simp;omega)|(simp at *;omega)) (by first|omega|(simp;done)|(simp;omega)|(simp at *;omega)) ?_
  refine .q 8 hG ?_
  refine .p (.b2N underlying101 a8 .z ?_)
  refine .sb (by first|omega|(simp;done)|(simp;omega)|(simp at *;omega)) (by first|omega|(simp;done)|(simp;omega)|(simp at *;omega)) (.p (.a2w D0 underlying101 a8 .z (.t a8) (by first|omega|(simp;done)|(simp;omega)|(simp at *;omega)) (by first|omega|(simp;done)|(simp;omega)|(simp at *;omega)) (.p (.b9A D0 (.t a8) .z (by first|omega|(simp;done)|(simp;omega)|(simp at *;omega)) ?_))))
  refine .q 1 hG ?_
  refine .p (.b5w a8 (.t a8) (.t a8) ?_)
  refine .q 4 hG fun b11 => ?_
  refine .q 2 hG ?_
  refine .C1 hC .z (.O9 11 a8 .z (.drop ?_))
  refine .q 3 hG ?_
  rw [b1y (by omega)] at *
  refine .q 4 hG ?_
  refine .cond (.t a8) (fun hc34 => ?_) (fun hc34 => ?_)
  ·refine .q 6 hG ?_
   refine .e2 a8 a8 a8 ?_
   have e:P3 p k l=none:=b7K (by omega) h2 (by simpa using hc34)
   rw [e];rfl
  ·refine .q 4 hG ?_
   refine .bs a8 (by decide) fun b37 => ?_
   refine .ap (by first|omega|(simp;done)|(simp;omega)|(simp at *;omega)) (by first|omega|(simp;done)|(simp;omega)|(simp at *;omega)) fun w38 => ?_
   refine .q 1 hG ?_
   refine .drop ?_
   refine .q 2 hG ?_
   refine .ad (by first|omega|(simp;done)|(simp;omega)|(simp at *;omega)) (by first|omega|(simp;done)|(simp;omega)|(simp at *;omega)) ?_
   refine .q 2 hG ?_
   refine⟨(i+1,_,_),.c2 rfl rfl (.c2 rfl rfl (.cons rfl (.nil _))),rfl,?_,by dsimp only;omega⟩
   exact⟨by dsimp only;omega,b5x (by omega) h2 (by simpa using hc34),by simp;omega⟩
 ·refine .q 2 hG ?_
  refine .y0 hC .z (.as 8 a8 .z ?_)
  refine .q 6 hG ?_
  refine .e2 a8 a8 a8 ?_
  rw [List.take_of_length_le (by omega)] at h2
  rw [h2];rfl
theorem b9S (a:D6) (hL:b1r a) (k:Tag) (m:List UInt8):p6 gl prog 124 [.v k,.v m,.p a] (fun r=>r = .t2 (.v (u2 a k m).1) (.v (u2 a k m).2)):=by
 refine p6.jn func124 (by kernel_rfl) 13 rfl fun C hC hG => ?_
 refine .q 3 hG fun b3 => ?_
 refine .q 1 hG fun b5 => ?_
 refine .q 7 hG ?_
 refine .p (.p8 hG (hL _ _) (.cons (.t a8) (.cons (.t a8) (.cons (.t a8) .nil))) ?_)
 refine .q 6 hG ?_
 refine⟨_,.r2 a8 (.cell D0 a8 .z) (.tmp a8),?_⟩
 rfl
theorem c2p (a:D6) (hL:b1r a) (root:u4) (n:Int) (l:List Cav) (hl:l.length≤100000):p6 gl prog 64 [.v a,.v root,.v n,.v l] (fun x=>x = .t2 (.v (a16 a root n l).1) (.v (a16 a root n l).2)):=by
 refine p6.jn func64 (by kernel_rfl) 57 rfl fun C hC hG => ?_
 refine .q 3 hG fun b4 => ?_
 refine .q 1 hG fun b5 => ?_
 refine .q 5 hG ?_
 refine .C1 hC .z1 (.O9 4 a8 .z1 (.C1 hC .z (.O9 5 a8 .z ?_)))
 refine .q 4 hG ?_
 refine .p (.p8 hG (b7P _ _) (.cons (.t a8) (.cons (.t a8) .nil)) ?_)
 refine .q 2 hG ?_
 refine .cond (.t a8) (fun hc21 => ?_) (fun hc21 => ?_)
 ·refine .q 6 hG ?_
  refine .e2 a8 a8 a8 ?_
  rw [b9O (by simpa using hc21)]
 ·refine .q 2 hG ?_
  have hro:K6 root.Number n=true:=by simpa using hc21
  have hr:=a6R hro
  refine .q 2 hG ?_
  refine .k hG (b5A _ (by omega) (by omega)) ?_
  refine .bs a8 (by decide) fun b24 => ?_
  refine .q 10 hG ?_
  refine .E1 (α:=Nat×Value) [(4,_),(5,_),(25,_),(26,_)] (fun x R=>(10,.raw x.2)::(27,.v (x.1:Int))::R) (fun x => [(true,.own 64 x.2 (I2 n (l.take x.1))),(true,.fz (ptr b5 0) (.p root)),(true,.fz (ptr b4 0) (.p a))]) (fun x=>x.1≤l.length∧(l.take x.1).all H6=true) (fun x=>l.length - x.1) ((0,slc b24 0 1 1)) (.c2 a8 a8 (.c2 a8 a8 (.nil _))) ?_ (.c2 a8 a8 (.c2 a8 a8 (.c2 a8 a8 (.nil _)))) (a8) fun x hF => ?_
  ·exact⟨Nat.zero_le _,a8⟩
  obtain⟨i,w⟩:=x
  obtain⟨h1,h2⟩:=hF
  dsimp only at h1 h2 ⊢
  refine .q 6 hG ⟨fun hc28 => ?_,fun hc28 => ?_⟩
  ·refine .q 5 hG ?_
   refine .ix (by first|omega|(simp;done)|(simp;omega)|(simp at *;omega)) (by first|omega|(simp;done)|(simp;omega)|(simp at *;omega)) ?_
   refine .q 2 hG fun b12 => ?_
   refine .q 3 hG ?_
   refine .C1 hC .z (.O9 12 a8 .z (.drop ?_))
   refine .q 2 hG ?_
   refine .k hG (b1D _) ?_
   refine .q 13 hG ⟨fun hc37 => ?_,fun hc37 => ?_⟩
   ·refine .q 7 hG ?_
    refine .e2 a8 a8 a8 ?_
    have hco:H6 l[i]=false:=by cases hc:H6 l[i];rfl;(exact absurd (by rw [show S8 l[(i:Int).toNat]=S8 l[i] from rfl,a0W hc]) hc37)
    rw [show S8 l[(i:Int).toNat]=([],5) from a4y (by rw [show H6 l[(i:Int).toNat]=false from hco];decide),b9P hro (a9X H6 l i (by omega) hco)]
   ·refine .q 1 hG ?_
    have hco:H6 l[i]=true:=by cases hc:H6 l[i];(exact absurd (by rw [show S8 l[(i:Int).toNat]=S8 l[i] from rfl,a4y (by rw [hc];decide)];decide) hc37);rfl
    have hcl:=a4R n (l.take i)
    have htl:(l.take i).length≤l.length:=by simp;omega
    refine .q 3 hG ?_
    refine .p (.p8 hG (b7O _ _ (by decide) (Nat.le_trans (a3x _) (by decide))) (.cons (.s [99,97,118,101,97,116] (by decide) (by decide)) (.cons (.t a8) .nil)) ?_)
    refine .bs a8 (by decide) fun b42 => ?_
    refine .ap (by first|omega|(simp;done)|(simp;omega)|(simp at *;omega)) (by first|omega|(simp;done)|(simp;omega)|(simp at *;omega)) fun w43 => ?_
    refine .q 1 hG ?_
    refine .drop ?_
    refine .q 2 hG ?_
    refine .ad (by first|omega|(simp;done)|(simp;omega)|(simp at *;omega)) (by first|omega|(simp;done)|(simp;omega)|(simp at *;omega)) ?_
    refine .q 2 hG ?_
    refine⟨(i+1,_),.c2 rfl rfl (.c2 rfl rfl (.c2 rfl rfl (.nil _))),congrArg (fun q => [(true,D8.own _ _ q),_,_]) (a7U n l i (by omega)).symm,?_,by dsimp only;omega⟩
    exact⟨by dsimp only;omega,by rw [all_succ H6 l i (by omega),h2,hco];rfl⟩
  ·refine .q 2 hG ?_
   have ht:=List.take_of_length_le (show l.length≤i by omega)
   rw [ht] at h2 ⊢
   have hcl:=a4R n l
   refine .y0 hC .z (.as 10 a8 .z ?_)
   refine .q 4 hG ?_
   refine .p (.b9M hG (fun x y=>b9S a hL x y) (.cons (.t a8) .nil) (.p (.p8 hG (c2o _ _ (by first|omega|(simp;done)|(simp;omega)|(simp at *;omega)) _) (.cons (.t a8) (.cons (.t a8) (.cons (.t a8) .nil))) ?_)))
   refine .q 12 hG ?_
   refine .cond (.t a8) (fun hc54 => ?_) (fun hc54 => ?_)
   ·refine .q 6 hG ?_
    refine .e2 a8 a8 a8 ?_
    rw [b7L hro h2 (by simpa using hc54)]
   ·refine .q 2 hG ?_
    obtain⟨T0,hT⟩:=Option.isSome_iff_exists.1 (show(P3 (u2 a) root.Key (I2 n l)).isSome=true by simpa using hc54)
    obtain⟨T,hT2,hT3⟩:=a7V (k:=root.Key) hT
    subst hT2
    rw [hT]
    refine .q 2 hG ?_
    refine .p (.c1U D0 underlying101 (.t a8) (.i a8) (by first|omega|(simp;done)|(simp;omega)|(simp at *;omega)) (by first|omega|(simp;done)|(simp;omega)|(simp at *;omega)) ?_)
    refine .q 4 hG ?_
    refine .e2 a8 a8 a8 ?_
    rw [b9Q hro h2 hT];rfl
theorem b9T (a:D6) (hL:b1r a) (l:List Tag) (hl:l.length≤100000):p6 gl prog 66 [.v a,.v l] (fun x=>x = .t2 (.v (a18 a l).1) (.v (a18 a l).2)):=by
 refine p6.jn func66 (by kernel_rfl) 33 rfl fun C hC hG => ?_
 refine .q 3 hG fun b2 => ?_
 refine .q 4 hG ?_
 refine .C1 hC .z (.O9 2 a8 .z ?_)
 refine .q 1 hG ?_
 refine .p (.assign .raw ?_)
 refine .q 3 hG ?_
 refine .a0Q 24 Tag ?_
 refine .q 6 hG ?_
 refine .E1 (α:=Nat×Value×List Tag) [(2,_),(11,_),(12,_)] (fun x R=>(6,.raw x.2.1)::(13,.v (x.1:Int))::R) (fun x => [(true,.own 24 x.2.1 x.2.2),(true,.fz (ptr b2 0) (.p a))]) (fun x=>x.1≤l.length∧Z9 a (l.take x.1)=some x.2.2∧x.2.2.length=x.1) (fun x=>l.length - x.1) ((0,.slice none 0 0,[])) (.c2 a8 a8 (.cons a8 (.nil _))) ?_ (.c2 a8 a8 (.c2 a8 a8 (.cons a8 (.nil _)))) (a8) fun x hF => ?_
 ·exact⟨Nat.zero_le _,a8,a8⟩
 obtain⟨i,w,s⟩:=x
 obtain⟨h1,h2,h3⟩:=hF
 dsimp only at h1 h2 h3 ⊢
 refine .q 6 hG ⟨fun hc14 => ?_,fun hc14 => ?_⟩
 ·refine .q 5 hG ?_
  refine .ix (by first|omega|(simp;done)|(simp;omega)|(simp at *;omega)) (by first|omega|(simp;done)|(simp;omega)|(simp at *;omega)) ?_
  refine .q 2 hG fun b8 => ?_
  refine .q 3 hG ?_
  refine .C1 hC .z (.O9 8 a8 .z (.drop ?_))
  refine .q 3 hG ?_
  refine .bs a8 (by decide) fun b20 => .h (.same underlying64 underlying5 a8 .z (by simp) (.y0 hC .z (.as 21 a8 .z (.p (.p8 hG (hL _ _) (.cons (.t a8) (.cons (.t a8) (.cons (.t a8) .nil))) ?_)))))
  refine .q 4 hG fun b9 => ?_
  refine .q 5 hG ?_
  refine .C1 hC .z (.O9 9 a8 .z (.drop (.drop ?_)))
  refine .q 4 hG ?_
  refine .cond (.t a8) (fun hc26 => ?_) (fun hc26 => ?_)
  ·refine .q 6 hG ?_
   refine .e2 a8 a8 a8 ?_
   have e:Z9 a l=none:=b5z (i:=i) (by omega) (by simpa [F5] using hc26)
   unfold a18
   rw [e]
  ·refine .q 4 hG ?_
   refine .bs a8 (by decide) fun b29 => ?_
   refine .ap (by first|omega|(simp;done)|(simp;omega)|(simp at *;omega)) (by first|omega|(simp;done)|(simp;omega)|(simp at *;omega)) fun w30 => ?_
   refine .q 1 hG ?_
   refine .drop ?_
   refine .q 2 hG ?_
   refine .ad (by first|omega|(simp;done)|(simp;omega)|(simp at *;omega)) (by first|omega|(simp;done)|(simp;omega)|(simp at *;omega)) ?_
   refine .q 2 hG ?_
   refine⟨(i+1,_,_),.c2 rfl rfl (.c2 rfl rfl (.cons rfl (.nil _))),rfl,?_,by dsimp only;omega⟩
   exact⟨by dsimp only;omega,b3j (i:=i) (by omega) h2 (by simpa [F5] using hc26),by simp;omega⟩
 ·refine .q 2 hG ?_
  refine .y0 hC .z (.as 6 a8 .z ?_)
  refine .q 6 hG ?_
  refine .e2 a8 a8 a8 ?_
  rw [List.take_of_length_le (by omega)] at h2
  unfold a18
  rw [h2]
theorem b7S (a:D6) (k:Tag) (m:List UInt8):p6 gl prog 56 [.v a,.v k,.v m] (fun r=>r = .t3 (.v (a4S a k m).1) (.v (a4S a k m).2.1) (.v (a4S a k m).2.2)):=by
 refine p6.jn func56 (by kernel_rfl) 40 rfl fun C hC hG => ?_
 refine .q 3 hG fun b3 => ?_
 refine .q 1 hG fun b4 => ?_
 refine .q 1 hG fun b6 => ?_
 refine .q 1 hG fun b7 => ?_
 refine .q 7 hG ?_
 refine .p (.p8 hG (a5e _ _ _) (.cons (.t a8) (.cons (.t a8) (.cons (.t a8) .nil))) ?_)
 refine .q 5 hG fun b9 => ?_
 refine .q 11 hG ⟨fun hc20 => ?_,fun hc20 => ?_⟩
 ·refine .q 2 hG ?_
  refine .p (.bS0 (α:=j8) a8 A6 a0B (.p (.U1 (default:(K5 32 UInt8)) D0 V2 .nil a8 ?_)))
  refine .q 6 hG ?_
  refine⟨_,.r3 a8 (.cell A6 a8 .z2) (.cell D0 a8 .z1) (.tmp a8),?_⟩
  unfold a4S
  rw [O1 hc20]
 ·refine .q 5 hG ?_
  refine .bs a8 (by decide) fun b27 => .h (.same underlying64 underlying5 a8 .z (by simp) (.y0 hC .z (.as 28 a8 .z (.p (.p8 hG (a5e _ _ _) (.cons (.t a8) (.cons (.t a8) (.cons (.t a8) .nil))) ?_)))))
  refine .q 14 hG ⟨fun hc34 => ?_,fun hc34 => ?_⟩
  ·refine .q 2 hG ?_
   refine .p (.bS0 (α:=j8) a8 A6 a0B (.p (.U1 (default:(K5 32 UInt8)) D0 V2 .nil a8 ?_)))
   refine .q 6 hG ?_
   refine⟨_,.r3 a8 (.cell A6 a8 .z3) (.cell D0 a8 .z2) (.tmp a8),?_⟩
   unfold a4S
   rw [E9 (Decidable.not_not.1 hc20),O1 (r:=G6 (G6 a k m).1 (G6 a k m).2.1 F5) hc34];rfl
  ·refine .q 2 hG ?_
   refine .F3 [j0,j0,c9,c9,j0,j0] (by kernel_rfl) 5 [[],[],[(38,0)],[(39,1)],[]] [2,3] a8 (by kernel_rfl) a8 (by kernel_rfl) (by decide) ?_
   refine⟨_,fun H=>j5.Q6 A6 (.t a8) (y4.app .z5) a8,?_⟩
   refine⟨_,fun H=>j5.Q6 D0 (.t a8) (y4.app .z1) a8,?_⟩
   refine .inl (.inl ?_)
   refine⟨_,fun H=>j5.assign (.i a8) a8,?_⟩
   refine⟨⟨([],j1 [c8,c8,_,_,c8,c8]),a8⟩,?_⟩
   refine B3.P7 A6 (.t rfl) (.t rfl) .z3 ?_
   refine⟨⟨([],j1 [c8,c8,_,_,c8,c8]),a8⟩,?_⟩
   refine B3.P7 D0 (.t rfl) (.t rfl) .z2 ?_
   refine⟨⟨([],j1 [c8,c8,_,_,c8,c8]),a8⟩,?_⟩
   show D1 _ _ _ _ _ [] ((8,_)::(39,_)::(38,_)::_) _
   refine .q 2 hG ?_
   refine⟨_,.r3 a8 (.cell A6 a8 .z3) (.cell D0 a8 .z2) (.tmp a8),?_⟩
   unfold a4S
   rw [E9 (Decidable.not_not.1 hc20),E9 (r:=G6 (G6 a k m).1 (G6 a k m).2.1 F5) (Decidable.not_not.1 hc34)];rfl
theorem b7T (a:D6) (root:u4) (n:Int):p6 gl prog 31 [.v a,.v root,.v n] (fun r=>r = .t3 (.v (a6S a root n).1) (.v (a6S a root n).2.1) (.v (a6S a root n).2.2)):=by
 refine p6.jn func31 (by kernel_rfl) 50 rfl fun C hC hG => ?_
 refine .q 3 hG fun b3 => ?_
 refine .q 1 hG fun b4 => ?_
 refine .q 1 hG fun b6 => ?_
 refine .q 1 hG fun b7 => ?_
 refine .q 22 hG ?_
 refine .cond (.t a8) (fun hc26 => ?_) (fun hc26 => ?_)
 ·refine .q 2 hG ?_
  refine .p (.bS0 (α:=j8) a8 A6 a0B (.p (.bS0 (α:=x4) a8 R2 a9u ?_)))
  refine .q 5 hG ?_
  refine⟨_,.r3 a8 (.cell A6 a8 .z1) (.cell R2 a8 .z) (.tmp a8),?_⟩
  unfold a6S
  rw [if_pos (b5y hc26)]
 ·refine .q 2 hG ?_
  have hr:=a6R (a5j hc26)
  refine .a1f [[j0,j0,j0,j0],[j0,j0,j0,j0],[j0,j0,j0,c9],[j0,j0,j0,c9]] [[j0,j0,j0,j0],[j0,j0,j0,j0],[j0,j0,j0,j0],[j0,j0,j0,j0],[j0,j0,j0,j0],[j0,j0,j0,j0],[j0,j0,j0,j0],[j0,j0,j0,j0],[j0,j0,j0,c9],[j0,j0,j0,c9],[],[],[],[j0,j0,j0,c9]] [] [] 3 (by kernel_rfl) 14 [[],[],[(31,1)],[],[(33,3)],[(30,0),(32,2),(34,4)],[(35,5)],[(29,6)],[(29,6)],[(29,6)],[],[(36,7)],[(9,10),(37,8)],[(38,9)]] [10,11,12] rfl (by kernel_rfl) rfl (by kernel_rfl) rfl (by decide) (by simp) (fun p hp=>by cases hp) (by kernel_rfl) rfl ?_
  refine⟨_,fun H=>j5.Q6 A6 (.t a8) (y4.app .z3) a8,?_⟩
  refine⟨_,fun H=>j5.A9 u4.l1 b6Q a8 (.t a8) a8,?_⟩
  refine⟨_,fun H=>j5.S1 (fun x=>x.Key) D0 (.t a8) (y4.app .z2) (fun _=>a8) a8,?_⟩
  refine⟨_,fun H=>j5.move (.t a8) a8,?_⟩
  refine⟨_,fun H=>j5.p8 hG (b3l _ (by omega) (by omega)) (.cons (.t a8) .nil) a8,?_⟩
  refine⟨_,fun H=>j5.p8 hG (b7S _ _ _) (.cons (.t a8) (.cons (.t a8) (.cons (.t a8) .nil))) a8,?_⟩
  refine⟨_,fun H=>j5.move (.t a8) a8,?_⟩
  refine⟨_,fun H=>j5.L7 (.t a8) a8,?_⟩
  refine⟨_,fun H=>j5.L8 (.t a8) a8,?_⟩
  refine⟨_,fun H=>j5.L9 (.t a8) a8,?_⟩
  refine .inl (.inl (.inl ?_))
  refine⟨_,fun H=>j5.assign (.t a8) a8,?_⟩
  refine⟨a8,?_⟩
  refine⟨⟨j1 [c8,c8,c8,c8],a8⟩,fun Ys3 => ?_⟩
  refine B3.alloc D0 fun b9 => ?_
  refine⟨[_],_,a8,?_⟩
  refine⟨⟨j1 [c8,c8,c8,c8],a8⟩,fun Ys3 => ?_⟩
  refine B3.P7 A6 (.t rfl) (.t rfl) (.s (y4.app (y4.app .z3))) ?_
  refine⟨[_],_,a8,?_⟩
  refine⟨⟨j1 [c8,c8,c8,_],a8⟩,fun Ys3 => ?_⟩
  refine B3.P7 D0 (.t rfl) (.t rfl) .z ?_
  refine⟨[_],_,a8,?_⟩
  refine⟨⟨j1 [c8,c8,c8,_],a8⟩,fun ws3 => ?_⟩
  refine⟨⟨j1 [c8,c8,c8,_],a8⟩,fun _ => ?_⟩
  show D1 _ _ _ _ _ [] ((10,_)::(9,_)::(38,_)::(37,_)::(36,_)::(29,_)::(35,_)::(34,_)::(33,_)::(32,_)::(31,_)::(30,_)::_) _
  refine .q 8 hG ⟨fun hc40 => ?_,fun hc40 => ?_⟩
  ·refine .q 2 hG ?_
   refine .p (.bS0 (α:=j8) a8 A6 a0B (.p (.bS0 (α:=x4) a8 R2 a9u (.mv a8 (.n (.P7 A6 (.t a8) (.t a8) .z2 (.n (.P7 R2 (.t a8) (.t a8) .z1 (.ag a8 ?_)))))))))
   refine .q 2 hG ?_
   refine⟨_,.r3 a8 (.cell A6 a8 .z2) (.cell R2 a8 .z1) (.tmp a8),?_⟩
   unfold a6S
   rw [if_neg (by rw [a5j hc26];decide),O1 hc40]
  ·refine .q 2 hG ?_
   refine .F3 [j0,c9,c9,j0,j0] (by kernel_rfl) 9 [[],[],[(45,1)],[],[],[(46,2),(47,3),(48,4)],[(44,0)],[(49,5)],[]] [6,7] a8 (by kernel_rfl) a8 (by kernel_rfl) (by decide) ?_
   refine⟨_,fun H=>j5.Q6 A6 (.t a8) (y4.app .z4) a8,?_⟩
   refine⟨_,fun H=>j5.A9 u4.l0 b6P a8 (.t a8) a8,?_⟩
   refine⟨_,fun H=>j5.S1 (fun x=>x.Number) I6 (.t a8) (y4.app .z3) (fun _=>a8) a8,?_⟩
   refine⟨_,fun H=>j5.move (.t a8) a8,?_⟩
   refine⟨_,fun H=>j5.Q6 D0 (.t a8) (y4.app .z) a8,?_⟩
   refine⟨_,fun H=>j5.bS3 x4.l0 x4.l1 x4.l3 a8 R2 a9u (fun c0 c1 c3=>(⟨c0,c1,[],c3⟩:x4)) (fun _ _ _=>a8) a8 a8 a8 a8 (.t a8) (.t a8) (.t a8) a8,?_⟩
   refine .inl (.inl ?_)
   refine⟨_,fun H=>j5.assign (.i a8) a8,?_⟩
   refine⟨⟨([],j1 [c8,_,_,c8,c8]),a8⟩,?_⟩
   refine B3.P7 A6 (.t rfl) (.t rfl) .z2 ?_
   refine⟨⟨([],j1 [c8,_,_,c8,c8]),a8⟩,?_⟩
   refine B3.P7 R2 (.t rfl) (.t rfl) .z1 ?_
   refine⟨⟨([],j1 [c8,_,_,c8,c8]),a8⟩,?_⟩
   show D1 _ _ _ _ _ [] ((8,_)::(49,_)::(48,_)::(47,_)::(46,_)::(45,_)::(44,_)::_) _
   refine .q 2 hG ?_
   refine⟨_,.r3 a8 (.cell A6 a8 .z2) (.cell R2 a8 .z1) (.tmp a8),?_⟩
   unfold a6S
   rw [if_neg (by rw [a5j hc26];decide),E9 (Decidable.not_not.1 hc40)]
theorem a8X (t:B0):p6 gl prog 75 [.v t] (fun r=>r = .v (Z2 t)):=by
 refine p6.jn func75 (by kernel_rfl) 18 rfl fun C hC hG => ?_
 refine .q 3 hG fun b1 => ?_
 refine .q 22 hG ?_
 refine .e1 a8 a8 ?_
 rfl
theorem a5m (a:D6) (d:Dis) (p:Pred) (hd:d.j9.length≤1000000):p6 gl prog 43 [.v a,.v d,.v p] (fun r=>r = .t3 (.v (Q3 a d p).1) (.v (Q3 a d p).2.1) (.v (Q3 a d p).2.2)):=by
 refine p6.jn func43 (by kernel_rfl) 54 rfl fun C hC hG => ?_
 refine .q 3 hG fun b3 => ?_
 refine .q 1 hG fun b4 => ?_
 refine .q 1 hG fun b5 => ?_
 refine .q 1 hG fun b6 => ?_
 refine .q 1 hG fun b7 => ?_
 refine .q 4 hG ?_
 refine .C1 hC .z2 (.O9 5 a8 .z2 ?_)
 refine .q 2 hG ?_
 refine .k hG (a1z _) ?_
 refine .q 2 hG ?_
 refine .cond (.t a8) (fun hc13 => ?_) (fun hc13 => ?_)
 ·refine .q 2 hG ?_
  refine .p (.bS0 (α:=j8) a8 A6 a0B (.p (.bS0 (α:=p5) a8 P9 a8z ?_)))
  refine .q 5 hG ?_
  refine⟨_,.r3 a8 (.cell A6 a8 .z1) (.cell P9 a8 .z) (.tmp a8),?_⟩
  unfold Q3
  rw [if_pos (by simpa using hc13)]
 ·refine .q 9 hG ⟨fun hc18 => ?_,fun hc18 => ?_⟩
  ·refine .q 2 hG ?_
   refine .p (.bS0 (α:=j8) a8 A6 a0B (.p (.bS0 (α:=p5) a8 P9 a8z ?_)))
   refine .q 5 hG ?_
   refine⟨_,.r3 a8 (.cell A6 a8 .z1) (.cell P9 a8 .z) (.tmp a8),?_⟩
   unfold Q3
   rw [if_neg (by simpa using hc13),if_pos hc18]
  ·refine .q 10 hG ⟨fun hc24 => ?_,fun hc24 => ?_⟩
   ·refine .q 2 hG ?_
    refine .p (.bS0 (α:=j8) a8 A6 a0B (.p (.bS0 (α:=p5) a8 P9 a8z ?_)))
    refine .q 5 hG ?_
    refine⟨_,.r3 a8 (.cell A6 a8 .z1) (.cell P9 a8 .z) (.tmp a8),?_⟩
    unfold Q3
    rw [if_neg (by simpa using hc13),if_neg hc18,if_pos (by omega)]
   ·refine .q 2 hG ?_
    refine .a1f [[j0,j0,j0,j0,j0],[j0,j0,j0,j0,j0],[j0,j0,j0,j0,c9],[j0,j0,j0,j0,c9]] [[j0,j0,j0,j0,j0],[j0,j0,j0,j0,j0],[j0,j0,j0,j0,j0],[j0,j0,j0,j0,j0],[j0,j0,j0,j0,j0],[j0,j0,j0,j0,j0],[j0,j0,j0,j0,j0],[j0,j0,j0,j0,j0],[j0,j0,j0,j0,c9],[j0,j0,j0,j0,c9],[],[],[],[j0,j0,j0,j0,c9]] [] [] 3 (by kernel_rfl) 14 [[],[],[(29,1)],[],[(31,3)],[(28,0),(30,2),(32,4)],[(33,5)],[(27,6)],[(27,6)],[(27,6)],[],[(34,7)],[(9,10),(35,8)],[(36,9)]] [10,11,12] rfl (by kernel_rfl) rfl (by kernel_rfl) rfl (by decide) (by simp) (fun p hp=>by cases hp) (by kernel_rfl) rfl ?_
    refine⟨_,fun H=>j5.Q6 A6 (.t a8) (y4.app .z4) a8,?_⟩
    refine⟨_,fun H=>j5.A9 p5.l2 a9B a8 (.t a8) a8,?_⟩
    refine⟨_,fun H=>j5.S1 (fun x=>x.Tag) D0 (.t a8) (y4.app .z3) (fun _=>a8) a8,?_⟩
    refine⟨_,fun H=>j5.G8 R3 (.t a8) a8,?_⟩
    refine⟨_,fun H=>j5.p8 hG (b3n _) (.cons (.t a8) .nil) a8,?_⟩
    refine⟨_,fun H=>j5.p8 hG (a5e _ _ _) (.cons (.t a8) (.cons (.t a8) (.cons (.t a8) .nil))) a8,?_⟩
    refine⟨_,fun H=>j5.move (.t a8) a8,?_⟩
    refine⟨_,fun H=>j5.L7 (.t a8) a8,?_⟩
    refine⟨_,fun H=>j5.L8 (.t a8) a8,?_⟩
    refine⟨_,fun H=>j5.L9 (.t a8) a8,?_⟩
    refine .inl (.inl (.inl ?_))
    refine⟨_,fun H=>j5.assign (.t a8) a8,?_⟩
    refine⟨a8,?_⟩
    refine⟨⟨j1 [c8,c8,c8,c8,c8],a8⟩,fun Ys7 => ?_⟩
    refine B3.alloc D0 fun b9 => ?_
    refine⟨[_],_,a8,?_⟩
    refine⟨⟨j1 [c8,c8,c8,c8,c8],a8⟩,fun Ys7 => ?_⟩
    refine B3.P7 A6 (.t rfl) (.t rfl) (.s (y4.app (y4.app .z4))) ?_
    refine⟨[_],_,a8,?_⟩
    refine⟨⟨j1 [c8,c8,c8,c8,_],a8⟩,fun Ys7 => ?_⟩
    refine B3.P7 D0 (.t rfl) (.t rfl) .z ?_
    refine⟨[_],_,a8,?_⟩
    refine⟨⟨j1 [c8,c8,c8,c8,_],a8⟩,fun ws7 => ?_⟩
    refine⟨⟨j1 [c8,c8,c8,c8,_],a8⟩,fun _ => ?_⟩
    show D1 _ _ _ _ _ [] ((10,_)::(9,_)::(36,_)::(35,_)::(34,_)::(27,_)::(33,_)::(32,_)::(31,_)::(30,_)::(29,_)::(28,_)::_) _
    refine .q 8 hG ⟨fun hc38 => ?_,fun hc38 => ?_⟩
    ·refine .q 2 hG ?_
     refine .p (.bS0 (α:=j8) a8 A6 a0B (.p (.bS0 (α:=p5) a8 P9 a8z (.mv a8 (.n (.P7 A6 (.t a8) (.t a8) .z2 (.n (.P7 P9 (.t a8) (.t a8) .z1 (.ag a8 ?_)))))))))
     refine .q 2 hG ?_
     refine⟨_,.r3 a8 (.cell A6 a8 .z2) (.cell P9 a8 .z1) (.tmp a8),?_⟩
     unfold Q3
     rw [if_neg (by simpa using hc13),if_neg hc18,if_neg (by omega),O1 hc38]
    ·refine .q 2 hG ?_
     refine .a1f [[j0,j0,j0,j0,j0,j0],[j0,j0,j0,j0,j0,j0],[j0,j0,j0,j0,j0,j0],[j0,j0,j0,j0,j0,j0],[j0,j0,j0,j0,c9,j0],[j0,j0,j0,j0,c9,j0]] [[],[j0,j0,j0,j0,j0,j0],[j0,j0,j0,j0,j0,j0],[],[j0,j0,j0,j0,j0,j0],[j0,j0,j0,j0,j0,j0],[],[j0,j0,j0,j0,c9,j0],[j0,j0,j0,j0,j0,j0],[],[j0,j0,j0,j0,c9,j0],[]] [] [] 5 (by kernel_rfl) 12 [[],[],[(43,1)],[(42,0),(44,2)],[],[(46,4)],[(45,3),(47,5)],[],[],[(50,8),(48,6)],[],[(51,10),(49,7)]] [0,3,6,9,11] rfl (by kernel_rfl) rfl (by kernel_rfl) rfl (by decide) (by simp) (fun p hp=>by cases hp) (by kernel_rfl) rfl (.inl ?_)
     refine⟨_,fun H=>j5.A9 p5.l1 a5A a8 (.t a8) a8,?_⟩
     refine⟨_,fun H=>j5.S1 (fun x=>x.j9) b1c (.t a8) (y4.app .z4) (fun _=>a8) a8,?_⟩
     refine .inl ?_
     refine⟨_,fun H=>j5.G8 R3 (.t a8) a8,?_⟩
     refine⟨_,fun H=>j5.G1 (α:=j2) R3 underlying61 (.cons (.t a8) .nil) a8 (by decide) a8,?_⟩
     refine .inl ?_
     refine⟨_,fun H=>j5.Q6 D0 (.t a8) (y4.app .z) a8,?_⟩
     refine⟨_,fun H=>j5.A9 p5.l1 a5A a8 (.t a8) a8,?_⟩
     refine .inl ?_
     refine⟨_,fun H=>j5.A9 p5.l2 a9B a8 (.t a8) a8,?_⟩
     refine .inl ?_
     refine⟨a8,?_⟩
     refine⟨⟨j1 [c8,c8,c8,c8,c8,c8],a8⟩,fun Ys10 => ?_⟩
     refine B3.buildSlice (α:=j2) R3 underlying61 .nil rfl (by decide) fun b42 => ?_
     refine⟨[_],_,a8,?_⟩
     refine⟨⟨j1 [c8,c8,c8,c8,c8,c8],a8⟩,fun Ys10 => ?_⟩
     refine B3.append c18 (.inl ⟨_,underlying61⟩) rfl .z (.v (.t rfl)) (by first|omega|(simp;done)|(simp;omega)|(simp at *;omega)) (by first|omega|(simp;done)|(simp;omega)|(simp at *;omega)) (fun w45 => ?_) rfl
     refine⟨[_],_,a8,?_⟩
     refine⟨⟨j1 [c8,c8,c8,c8,c8,c8],a8⟩,fun Ys10 => ?_⟩
     refine B3.append c18 (.inl ⟨_,underlying61⟩) rfl .z (.v (.c rfl)) (by first|omega|(simp;done)|(simp;omega)|(simp at *;omega)) (by first|omega|(simp;done)|(simp;omega)|(simp at *;omega)) (fun w48 => ?_) rfl
     refine⟨[_],_,a8,?_⟩
     refine⟨⟨j1 [c8,c8,c8,c8,c8,c8],a8⟩,fun Ys10 => ?_⟩
     refine B3.y0 hC .z (B3.as 48 rfl .z (B3.Z0 (fun y x => { x with j9:=y }) b1c (.t rfl) (.t rfl) (.s (y4.app (y4.app .z4))) (fun _ _=>rfl) ?_))
     refine⟨[_],_,a8,?_⟩
     refine⟨⟨j1 [c8,c8,c8,c8,_,c8],a8⟩,fun Ys10 => ?_⟩
     refine B3.Z0 (fun y x => { x with Tag:=y }) D0 (.t rfl) (.t rfl) (.s (y4.app (y4.app .z4))) (fun _ _=>rfl) ?_
     refine⟨[_],_,a8,?_⟩
     refine⟨⟨j1 [c8,c8,c8,c8,_,c8],a8⟩,fun ws10 => ?_⟩
     refine⟨⟨j1 [c8,c8,c8,c8,_,c8],a8⟩,fun _ => ?_⟩
     show D1 _ _ _ _ _ [] ((51,_)::(50,_)::(49,_)::(48,_)::(47,_)::(46,_)::(45,_)::(44,_)::(43,_)::(42,_)::_) _
     refine .q 2 hG ?_
     refine .F3 [j0,j0,c9,c9,j0,j0,j0] (by kernel_rfl) 5 [[],[],[(52,0)],[(53,1)],[]] [2,3] a8 (by kernel_rfl) a8 (by kernel_rfl) (by decide) ?_
     refine⟨_,fun H=>j5.Q6 A6 (.t a8) (y4.app .z6) a8,?_⟩
     refine⟨_,fun H=>j5.Q6 P9 (.t a8) (y4.app .z5) a8,?_⟩
     refine .inl (.inl ?_)
     refine⟨_,fun H=>j5.assign (.i a8) a8,?_⟩
     refine⟨⟨([],j1 [c8,c8,_,_,c8,c8,c8]),a8⟩,?_⟩
     refine B3.P7 A6 (.t rfl) (.t rfl) .z3 ?_
     refine⟨⟨([],j1 [c8,c8,_,_,c8,c8,c8]),a8⟩,?_⟩
     refine B3.P7 P9 (.t rfl) (.t rfl) .z2 ?_
     refine⟨⟨([],j1 [c8,c8,_,_,c8,c8,c8]),a8⟩,?_⟩
     show D1 _ _ _ _ _ [] ((8,_)::(53,_)::(52,_)::_) _
     refine .q 2 hG ?_
     refine⟨_,.r3 a8 (.cell A6 a8 .z3) (.cell P9 a8 .z2) (.tmp a8),?_⟩
     unfold Q3
     rw [if_neg (by simpa using hc13),if_neg hc18,if_neg (by omega),E9 (Decidable.not_not.1 hc38)];rfl
theorem c2q (a:D6) (d:Dis) (leaf:Tag) (r:Rq):p6 gl prog 61 [.v a,.v d,.v leaf,.v r] (fun x=>x = .t3 (.v (a2a a d leaf r).1) (.v (a2a a d leaf r).2.1) (.v (a2a a d leaf r).2.2)):=by
 refine p6.jn func61 (by kernel_rfl) 41 rfl fun C hC hG => ?_
 refine .q 3 hG fun b4 => ?_
 refine .q 1 hG fun b5 => ?_
 refine .q 1 hG fun b6 => ?_
 refine .q 1 hG fun b7 => ?_
 refine .q 1 hG fun b8 => ?_
 refine .q 1 hG fun b9 => ?_
 refine .q 6 hG ?_
 refine .k hG (b4A _) ?_
 refine .q 2 hG ?_
 refine .cond (.t a8) (fun hc15 => ?_) (fun hc15 => ?_)
 ·refine .q 2 hG ?_
  refine .p (.bS0 (α:=j8) a8 A6 a0B (.p (.bS0 (α:=x6) a8 a4D b9a ?_)))
  refine .q 5 hG ?_
  refine⟨_,.r3 a8 (.cell A6 a8 .z1) (.cell a4D a8 .z) (.tmp a8),?_⟩
  unfold a2a
  rw [if_pos (by simpa using hc15)]
 ·refine .q 2 hG ?_
  refine .a1f [[j0,j0,j0,j0,j0,j0],[j0,j0,j0,j0,j0,j0],[j0,j0,j0,j0,j0,c9],[j0,j0,j0,j0,j0,c9]] [[j0,j0,j0,j0,j0,j0],[j0,j0,j0,j0,j0,j0],[j0,j0,j0,j0,j0,j0],[j0,j0,j0,j0,j0,j0],[j0,j0,j0,j0,j0,j0],[j0,j0,j0,j0,j0,j0],[j0,j0,j0,j0,j0,j0],[j0,j0,j0,j0,j0,j0],[j0,j0,j0,j0,j0,j0],[j0,j0,j0,j0,j0,c9],[j0,j0,j0,j0,j0,c9],[],[],[],[j0,j0,j0,j0,j0,c9]] [] [] 3 (by kernel_rfl) 15 [[],[],[(20,1)],[],[],[(22,3),(23,4)],[(19,0),(21,2),(24,5)],[(25,6)],[(18,7)],[(18,7)],[(18,7)],[],[(26,8)],[(11,11),(27,9)],[(28,10)]] [11,12,13] rfl (by kernel_rfl) rfl (by kernel_rfl) rfl (by decide) (by simp) (fun p hp=>by cases hp) (by kernel_rfl) rfl ?_
  refine⟨_,fun H=>j5.Q6 A6 (.t a8) (y4.app .z5) a8,?_⟩
  refine⟨_,fun H=>j5.A9 p5.l2 a9B a8 (.t a8) a8,?_⟩
  refine⟨_,fun H=>j5.S1 (fun x=>x.Tag) D0 (.t a8) (y4.app .z4) (fun _=>a8) a8,?_⟩
  refine⟨_,fun H=>j5.Q6 D0 (.t a8) (y4.app .z3) a8,?_⟩
  refine⟨_,fun H=>j5.Q6 a8r (.t a8) (y4.app .z2) a8,?_⟩
  refine⟨_,fun H=>j5.p8 hG (b3o _ _ (by simpa using ‹(!U8 r)=false›)) (.cons (.t a8) (.cons (.t a8) .nil)) a8,?_⟩
  refine⟨_,fun H=>j5.p8 hG (a5e _ _ _) (.cons (.t a8) (.cons (.t a8) (.cons (.t a8) .nil))) a8,?_⟩
  refine⟨_,fun H=>j5.move (.t a8) a8,?_⟩
  refine⟨_,fun H=>j5.L7 (.t a8) a8,?_⟩
  refine⟨_,fun H=>j5.L8 (.t a8) a8,?_⟩
  refine⟨_,fun H=>j5.L9 (.t a8) a8,?_⟩
  refine .inl (.inl (.inl ?_))
  refine⟨_,fun H=>j5.assign (.t a8) a8,?_⟩
  refine⟨a8,?_⟩
  refine⟨⟨j1 [c8,c8,c8,c8,c8,c8],a8⟩,fun Ys3 => ?_⟩
  refine B3.alloc D0 fun b11 => ?_
  refine⟨[_],_,a8,?_⟩
  refine⟨⟨j1 [c8,c8,c8,c8,c8,c8],a8⟩,fun Ys3 => ?_⟩
  refine B3.P7 A6 (.t rfl) (.t rfl) (.s (y4.app (y4.app .z5))) ?_
  refine⟨[_],_,a8,?_⟩
  refine⟨⟨j1 [c8,c8,c8,c8,c8,_],a8⟩,fun Ys3 => ?_⟩
  refine B3.P7 D0 (.t rfl) (.t rfl) .z ?_
  refine⟨[_],_,a8,?_⟩
  refine⟨⟨j1 [c8,c8,c8,c8,c8,_],a8⟩,fun ws3 => ?_⟩
  refine⟨⟨j1 [c8,c8,c8,c8,c8,_],a8⟩,fun _ => ?_⟩
  show D1 _ _ _ _ _ [] ((12,_)::(11,_)::(28,_)::(27,_)::(26,_)::(18,_)::(25,_)::(24,_)::(23,_)::(22,_)::(21,_)::(20,_)::(19,_)::_) _
  refine .q 8 hG ⟨fun hc30 => ?_,fun hc30 => ?_⟩
  ·refine .q 2 hG ?_
   refine .p (.bS0 (α:=j8) a8 A6 a0B (.p (.bS0 (α:=x6) a8 a4D b9a (.mv a8 (.n (.P7 A6 (.t a8) (.t a8) .z2 (.n (.P7 a4D (.t a8) (.t a8) .z1 (.ag a8 ?_)))))))))
   refine .q 2 hG ?_
   refine⟨_,.r3 a8 (.cell A6 a8 .z2) (.cell a4D a8 .z1) (.tmp a8),?_⟩
   unfold a2a
   rw [if_neg (by simpa using hc15),O1 hc30]
  ·refine .q 2 hG ?_
   refine .F3 [j0,c9,c9,j0,j0,j0,j0] (by kernel_rfl) 10 [[],[],[(35,1)],[],[(37,3)],[],[(36,2),(38,4),(39,5)],[(34,0)],[(40,6)],[]] [7,8] a8 (by kernel_rfl) a8 (by kernel_rfl) (by decide) ?_
   refine⟨_,fun H=>j5.Q6 A6 (.t a8) (y4.app .z6) a8,?_⟩
   refine⟨_,fun H=>j5.A9 p5.l0 b3Z a8 (.t a8) a8,?_⟩
   refine⟨_,fun H=>j5.S1 (fun x=>x.p7) a3J (.t a8) (y4.app .z5) (fun _=>a8) a8,?_⟩
   refine⟨_,fun H=>j5.A9 p5.l1 a5A a8 (.t a8) a8,?_⟩
   refine⟨_,fun H=>j5.S1 (fun x=>x.j9) b1c (.t a8) (y4.app .z5) (fun _=>a8) a8,?_⟩
   refine⟨_,fun H=>j5.Q6 D0 (.t a8) (y4.app .z) a8,?_⟩
   refine⟨_,fun H=>j5.bS3 x6.l0 x6.l1 x6.l2 a8 a4D b9a (fun c0 c1 c2=>(⟨c0,c1,c2⟩:x6)) (fun _ _ _=>a8) a8 a8 a8 a8 (.t a8) (.t a8) (.t a8) a8,?_⟩
   refine .inl (.inl ?_)
   refine⟨_,fun H=>j5.assign (.i a8) a8,?_⟩
   refine⟨⟨([],j1 [c8,_,_,c8,c8,c8,c8]),a8⟩,?_⟩
   refine B3.P7 A6 (.t rfl) (.t rfl) .z2 ?_
   refine⟨⟨([],j1 [c8,_,_,c8,c8,c8,c8]),a8⟩,?_⟩
   refine B3.P7 a4D (.t rfl) (.t rfl) .z1 ?_
   refine⟨⟨([],j1 [c8,_,_,c8,c8,c8,c8]),a8⟩,?_⟩
   show D1 _ _ _ _ _ [] ((10,_)::(40,_)::(39,_)::(38,_)::(37,_)::(36,_)::(35,_)::(34,_)::_) _
   refine .q 2 hG ?_
   refine⟨_,.r3 a8 (.cell A6 a8 .z2) (.cell a4D a8 .z1) (.tmp a8),?_⟩
   unfold a2a
   rw [if_neg (by simpa using hc15),E9 (Decidable.not_not.1 hc30)]
theorem b3r {p:Pass} {c:Cav} {b:Bool} (h:(decide ((64:Int)≤(p.l9.length:Int))||(c.X4&&decide (8≤a0q p.l9)))=b):a5P p c=b:=by
 rw [←h];unfold a5P;congr 1;exact decide_eq_decide.2 (by omega)
theorem c1i (a:D6) (p:Pass) (c:Cav) (hp:p.l9.length≤1000000):p6 gl prog 74 [.v a,.v p,.v c] (fun r=>r = .t3 (.v (a3K a p c).1) (.v (a3K a p c).2.1) (.v (a3K a p c).2.2)):=by
 refine p6.jn func74 (by kernel_rfl) 59 rfl fun C hC hG => ?_
 refine .q 3 hG fun b3 => ?_
 refine .q 1 hG fun b4 => ?_
 refine .q 1 hG fun b5 => ?_
 refine .q 1 hG fun b6 => ?_
 refine .q 1 hG fun b7 => ?_
 refine .q 4 hG ?_
 refine .C1 hC .z2 (.O9 5 a8 .z2 ?_)
 refine .q 2 hG ?_
 refine .k hG (a4f _) ?_
 refine .q 2 hG ?_
 refine .cond (.t a8) (fun hc13 => ?_) (fun hc13 => ?_)
 ·refine .q 2 hG ?_
  refine .p (.bS0 (α:=j8) a8 A6 a0B (.p (.bS0 (α:=x4) a8 R2 a9u ?_)))
  refine .q 5 hG ?_
  refine⟨_,.r3 a8 (.cell A6 a8 .z1) (.cell R2 a8 .z) (.tmp a8),?_⟩
  unfold a3K
  rw [if_pos (by simpa using hc13)]
 ·refine .q 11 hG ?_
  refine .goU 20 a8 (.t a8) (fun hg23 => .move (.q a8 hg23) a8) (.gn 23 a8 a8 (fun hc24 hg24 => .A9 x4.l2 a9t a8 (.t a8) a8) (.gn 23 a8 a8 (fun hc25 hg25 => .S1 (fun x=>x.l9) a9T (.ou a8 (Bool.and_eq_true_iff.2 ⟨hc25,beq_iff_eq.2 hg25⟩)) .z3 (fun _=>a8) a8) (.gn 23 a8 a8 (fun hc26 hg26 => .p8 hG (a8V _ hp) (.cons (.ou a8 (Bool.and_eq_true_iff.2 ⟨hc26,beq_iff_eq.2 hg26⟩)) .nil) a8) (.gn 23 a8 a8 (fun hc27 hg27 => .geq (.ou a8 (Bool.and_eq_true_iff.2 ⟨hc27,beq_iff_eq.2 hg27⟩)) (.i a8) a8) (.go 20 a8 (.t a8) (fun hg28 => .M5 (.ou a8 (beq_iff_eq.2 hg28)) (fun hp=>(.ou a8 (Bool.and_eq_true_iff.2 ⟨(beq_iff_eq.2 hg28),beq_iff_eq.2 hp⟩))) a8) ?_)))))
  refine .q 2 hG ?_
  refine .cond (.t a8) (fun hc29 => ?_) (fun hc29 => ?_)
  ·refine .q 2 hG ?_
   refine .p (.bS0 (α:=j8) a8 A6 a0B (.p (.bS0 (α:=x4) a8 R2 a9u ?_)))
   refine .q 5 hG ?_
   refine⟨_,.r3 a8 (.cell A6 a8 .z1) (.cell R2 a8 .z) (.tmp a8),?_⟩
   unfold a3K
   rw [if_neg (by simpa using hc13),if_pos (b3r hc29)]
  ·refine .q 2 hG ?_
   refine .a1f [[j0,j0,j0,j0,j0],[j0,j0,j0,j0,j0],[j0,j0,j0,j0,c9],[j0,j0,j0,j0,c9]] [[j0,j0,j0,j0,j0],[j0,j0,j0,j0,j0],[j0,j0,j0,j0,j0],[j0,j0,j0,j0,j0],[j0,j0,j0,j0,j0],[j0,j0,j0,j0,j0],[j0,j0,j0,j0,j0],[j0,j0,j0,j0,j0],[j0,j0,j0,j0,c9],[j0,j0,j0,j0,c9],[],[],[],[j0,j0,j0,j0,c9]] [] [] 3 (by kernel_rfl) 14 [[],[],[(34,1)],[],[(36,3)],[(33,0),(35,2),(37,4)],[(38,5)],[(32,6)],[(32,6)],[(32,6)],[],[(39,7)],[(9,10),(40,8)],[(41,9)]] [10,11,12] rfl (by kernel_rfl) rfl (by kernel_rfl) rfl (by decide) (by simp) (fun p hp=>by cases hp) (by kernel_rfl) rfl ?_
   refine⟨_,fun H=>j5.Q6 A6 (.t a8) (y4.app .z4) a8,?_⟩
   refine⟨_,fun H=>j5.A9 x4.l3 a6a a8 (.t a8) a8,?_⟩
   refine⟨_,fun H=>j5.S1 (fun x=>x.Tag) D0 (.t a8) (y4.app .z3) (fun _=>a8) a8,?_⟩
   refine⟨_,fun H=>j5.G8 b1d (.t a8) a8,?_⟩
   refine⟨_,fun H=>j5.p8 hG (b5B _) (.cons (.t a8) .nil) a8,?_⟩
   refine⟨_,fun H=>j5.p8 hG (b7S _ _ _) (.cons (.t a8) (.cons (.t a8) (.cons (.t a8) .nil))) a8,?_⟩
   refine⟨_,fun H=>j5.move (.t a8) a8,?_⟩
   refine⟨_,fun H=>j5.L7 (.t a8) a8,?_⟩
   refine⟨_,fun H=>j5.L8 (.t a8) a8,?_⟩
   refine⟨_,fun H=>j5.L9 (.t a8) a8,?_⟩
   refine .inl (.inl (.inl ?_))
   refine⟨_,fun H=>j5.assign (.t a8) a8,?_⟩
   refine⟨a8,?_⟩
   refine⟨⟨j1 [c8,c8,c8,c8,c8],a8⟩,fun Ys5 => ?_⟩
   refine B3.alloc D0 fun b9 => ?_
   refine⟨[_],_,a8,?_⟩
   refine⟨⟨j1 [c8,c8,c8,c8,c8],a8⟩,fun Ys5 => ?_⟩
   refine B3.P7 A6 (.t rfl) (.t rfl) (.s (y4.app (y4.app .z4))) ?_
   refine⟨[_],_,a8,?_⟩
   refine⟨⟨j1 [c8,c8,c8,c8,_],a8⟩,fun Ys5 => ?_⟩
   refine B3.P7 D0 (.t rfl) (.t rfl) .z ?_
   refine⟨[_],_,a8,?_⟩
   refine⟨⟨j1 [c8,c8,c8,c8,_],a8⟩,fun ws5 => ?_⟩
   refine⟨⟨j1 [c8,c8,c8,c8,_],a8⟩,fun _ => ?_⟩
   show D1 _ _ _ _ _ [] ((10,_)::(9,_)::(41,_)::(40,_)::(39,_)::(32,_)::(38,_)::(37,_)::(36,_)::(35,_)::(34,_)::(33,_)::_) _
   refine .q 8 hG ⟨fun hc43 => ?_,fun hc43 => ?_⟩
   ·refine .q 2 hG ?_
    refine .p (.bS0 (α:=j8) a8 A6 a0B (.p (.bS0 (α:=x4) a8 R2 a9u (.mv a8 (.n (.P7 A6 (.t a8) (.t a8) .z2 (.n (.P7 R2 (.t a8) (.t a8) .z1 (.ag a8 ?_)))))))))
    refine .q 2 hG ?_
    refine⟨_,.r3 a8 (.cell A6 a8 .z2) (.cell R2 a8 .z1) (.tmp a8),?_⟩
    unfold a3K
    rw [if_neg (by simpa using hc13),if_neg (by rw [b3r hc29];decide),O1 hc43]
   ·refine .q 2 hG ?_
    refine .a1f [[j0,j0,j0,j0,j0,j0],[j0,j0,j0,j0,j0,j0],[j0,j0,j0,j0,j0,j0],[j0,j0,j0,j0,j0,j0],[j0,j0,j0,j0,c9,j0],[j0,j0,j0,j0,c9,j0]] [[],[j0,j0,j0,j0,j0,j0],[j0,j0,j0,j0,j0,j0],[],[j0,j0,j0,j0,j0,j0],[j0,j0,j0,j0,j0,j0],[],[j0,j0,j0,j0,c9,j0],[j0,j0,j0,j0,j0,j0],[],[j0,j0,j0,j0,c9,j0],[]] [] [] 5 (by kernel_rfl) 12 [[],[],[(48,1)],[(47,0),(49,2)],[],[(51,4)],[(50,3),(52,5)],[],[],[(55,8),(53,6)],[],[(56,10),(54,7)]] [0,3,6,9,11] rfl (by kernel_rfl) rfl (by kernel_rfl) rfl (by decide) (by simp) (fun p hp=>by cases hp) (by kernel_rfl) rfl (.inl ?_)
    refine⟨_,fun H=>j5.A9 x4.l2 a9t a8 (.t a8) a8,?_⟩
    refine⟨_,fun H=>j5.S1 (fun x=>x.l9) a9T (.t a8) (y4.app .z4) (fun _=>a8) a8,?_⟩
    refine .inl ?_
    refine⟨_,fun H=>j5.G8 b1d (.t a8) a8,?_⟩
    refine⟨_,fun H=>j5.G1 (α:=p9) b1d underlying35 (.cons (.t a8) .nil) a8 (by decide) a8,?_⟩
    refine .inl ?_
    refine⟨_,fun H=>j5.Q6 D0 (.t a8) (y4.app .z) a8,?_⟩
    refine⟨_,fun H=>j5.A9 x4.l2 a9t a8 (.t a8) a8,?_⟩
    refine .inl ?_
    refine⟨_,fun H=>j5.A9 x4.l3 a6a a8 (.t a8) a8,?_⟩
    refine .inl ?_
    refine⟨a8,?_⟩
    refine⟨⟨j1 [c8,c8,c8,c8,c8,c8],a8⟩,fun Ys8 => ?_⟩
    refine B3.buildSlice (α:=p9) b1d underlying35 .nil rfl (by decide) fun b47 => ?_
    refine⟨[_],_,a8,?_⟩
    refine⟨⟨j1 [c8,c8,c8,c8,c8,c8],a8⟩,fun Ys8 => ?_⟩
    refine B3.append c3v (.inl ⟨_,underlying35⟩) rfl .z (.v (.t rfl)) (by first|omega|(simp;done)|(simp;omega)|(simp at *;omega)) (by first|omega|(simp;done)|(simp;omega)|(simp at *;omega)) (fun w50 => ?_) rfl
    refine⟨[_],_,a8,?_⟩
    refine⟨⟨j1 [c8,c8,c8,c8,c8,c8],a8⟩,fun Ys8 => ?_⟩
    refine B3.append c3v (.inl ⟨_,underlying35⟩) rfl .z (.v (.c rfl)) (by first|omega|(simp;done)|(simp;omega)|(simp at *;omega)) (by first|omega|(simp;done)|(simp;omega)|(simp at *;omega)) (fun w53 => ?_) rfl
    refine⟨[_],_,a8,?_⟩
    refine⟨⟨j1 [c8,c8,c8,c8,c8,c8],a8⟩,fun Ys8 => ?_⟩
    refine B3.y0 hC .z (B3.as 53 rfl .z (B3.Z0 (fun y x => { x with l9:=y }) a9T (.t rfl) (.t rfl) (.s (y4.app (y4.app .z4))) (fun _ _=>rfl) ?_))
    refine⟨[_],_,a8,?_⟩
    refine⟨⟨j1 [c8,c8,c8,c8,_,c8],a8⟩,fun Ys8 => ?_⟩
    refine B3.Z0 (fun y x => { x with Tag:=y }) D0 (.t rfl) (.t rfl) (.s (y4.app (y4.app .z4))) (fun _ _=>rfl) ?_
    refine⟨[_],_,a8,?_⟩
    refine⟨⟨j1 [c8,c8,c8,c8,_,c8],a8⟩,fun ws8 => ?_⟩
    refine⟨⟨j1 [c8,c8,c8,c8,_,c8],a8⟩,fun _ => ?_⟩
    show D1 _ _ _ _ _ [] ((56,_)::(55,_)::(54,_)::(53,_)::(52,_)::(51,_)::(50,_)::(49,_)::(48,_)::(47,_)::_) _
    refine .q 2 hG ?_
    refine .F3 [j0,j0,c9,c9,j0,j0,j0] (by kernel_rfl) 5 [[],[],[(57,0)],[(58,1)],[]] [2,3] a8 (by kernel_rfl) a8 (by kernel_rfl) (by decide) ?_
    refine⟨_,fun H=>j5.Q6 A6 (.t a8) (y4.app .z6) a8,?_⟩
    refine⟨_,fun H=>j5.Q6 R2 (.t a8) (y4.app .z5) a8,?_⟩
    refine .inl (.inl ?_)
    refine⟨_,fun H=>j5.assign (.i a8) a8,?_⟩
    refine⟨⟨([],j1 [c8,c8,_,_,c8,c8,c8]),a8⟩,?_⟩
    refine B3.P7 A6 (.t rfl) (.t rfl) .z3 ?_
    refine⟨⟨([],j1 [c8,c8,_,_,c8,c8,c8]),a8⟩,?_⟩
    refine B3.P7 R2 (.t rfl) (.t rfl) .z2 ?_
    refine⟨⟨([],j1 [c8,c8,_,_,c8,c8,c8]),a8⟩,?_⟩
    show D1 _ _ _ _ _ [] ((8,_)::(58,_)::(57,_)::_) _
    refine .q 2 hG ?_
    refine⟨_,.r3 a8 (.cell A6 a8 .z3) (.cell R2 a8 .z2) (.tmp a8),?_⟩
    unfold a3K
    rw [if_neg (by simpa using hc13),if_neg (by rw [b3r hc29];decide),E9 (Decidable.not_not.1 hc43)];rfl
theorem b7U (a:D6) (p:Pass) (c:Cav):(a3K a p c).2.1.l9.length≤p.l9.length+1:=by
 unfold a3K a0h
 split
 ·exact Nat.zero_le _
 ·split
  ·exact Nat.zero_le _
  ·split
   ·simp
   ·exact Nat.zero_le _
theorem a6U {a:D6} {p:Pass} {l:List Pred} {i:Nat} (h:i < l.length):a0x a p (l.drop i)=a0h (a3K a p ⟨false,l[i],0,[],[]⟩) fun b q=>a0x b q (l.drop (i+1)):=by
 rw [List.drop_eq_getElem_cons h];rfl
theorem b0a {a:D6} {k:Tag} {m:List UInt8} {x:o8} (h:x∈(G6 a k m).1.y7):x∈a.y7:=by
 unfold G6 at h
 split at h
 ·cases h
 ·split at h
  ·exact h
  ·split at h
   ·cases h
   ·exact h
theorem b1G (a:D6) (p:Pass) (l:List Pred) (hp:p.l9.length+l.length≤1000000):p6 gl prog 39 [.v a,.v p,.v l] (fun r=>r = .t3 (.v (a0x a p l).1) (.v (a0x a p l).2.1) (.v (a0x a p l).2.2)):=by
 refine p6.jn func39 (by kernel_rfl) 40 rfl fun C hC hG => ?_
 refine .q 3 hG fun b3 => ?_
 refine .q 1 hG fun b4 => ?_
 refine .q 1 hG fun b6 => ?_
 refine .q 1 hG fun b7 => ?_
 refine .q 3 hG ?_
 refine .X3 2 a8 fun hl2 => ?_
 refine .q 9 hG ?_
 refine .E1 (α:=Nat×D6×Pass×Int) [(2,_),(3,_),(4,_),(6,_),(7,_)] (fun x R=>(9,.v x.2.2.2)::(10,.v (x.1:Int))::R) (fun x => [(true,.ob (ptr b7 0) (default:Pass)),(true,.ob (ptr b6 0) (default:D6)),(true,.ob (ptr b4 0) x.2.2.1),(true,.ob (ptr b3 0) x.2.1)]) (fun x=>x.1≤l.length∧(x.2.2.2=0→a0x a p l=a0x x.2.1 x.2.2.1 (l.drop x.1))∧(x.2.2.2≠0→a0x a p l=(default,default,x.2.2.2))∧x.2.2.1.l9.length≤p.l9.length+x.1) (fun x=>l.length - x.1) ((0,a,p,0)) (.c2 a8 a8 (.c2 a8 a8 (.cons a8 (.nil _)))) ?_ (.c2 a8 a8 (.c2 a8 a8 (.c2 a8 a8 (.cons a8 (.nil _))))) (a8) fun x hF => ?_
 ·exact⟨Nat.zero_le _,fun _=>a8,fun h=>absurd a8 h,Nat.le_refl _⟩
 obtain⟨i,b,q,e⟩:=x
 obtain⟨h1,h2,h3,h4⟩:=hF
 dsimp only at h1 h2 h3 h4 ⊢
 refine .q 12 hG ?_
 refine .cond (.t a8) (fun hc18 => ?_) (fun hc18 => ?_)
 ·refine .q 3 hG ?_
  have hlt:i < l.length∧e=0:=by simpa using hc18
  refine .a1f [[j0,j0,j0,j0],[j0,j0,j0,c9],[j0,j0,c9,c9]] [[j0,j0,j0,j0],[j0,j0,j0,j0],[j0,j0,j0,j0],[j0,j0,j0,j0],[j0,j0,j0,j0],[j0,j0,j0,j0],[j0,j0,j0,j0],[j0,j0,j0,j0],[j0,j0,j0,j0],[j0,j0,j0,j0],[j0,j0,j0,c9],[j0,j0,c9,c9],[],[],[j0,j0,c9,c9]] [] [] 2 (by kernel_rfl) 15 [[],[],[],[],[(24,2),(25,3)],[(26,4)],[(27,5)],[(22,0),(23,1),(28,6)],[(29,7)],[(21,8)],[(21,8)],[(21,8)],[(30,9)],[(31,10)],[(32,11)]] [12,13] rfl (by kernel_rfl) rfl (by kernel_rfl) rfl (by decide) (by simp) (fun p hp=>by cases hp) (by kernel_rfl) rfl ?_
  refine⟨_,fun H=>j5.Q6 A6 (.t a8) (y4.app .z3) a8,?_⟩
  refine⟨_,fun H=>j5.Q6 R2 (.t a8) (y4.app .z2) a8,?_⟩
  refine⟨_,fun H=>j5.move (.t a8) a8,?_⟩
  refine⟨_,fun H=>j5.move (.t a8) a8,?_⟩
  refine⟨_,fun H=>j5.idx R3 underlying61 (.t a8) (.t a8) (by first|omega|(simp;done)|(simp;omega)|(simp at *;omega)) (by first|omega|(simp;done)|(simp;omega)|(simp at *;omega)) a8,?_⟩
  refine⟨_,fun H=>j5.G8 R3 (.t a8) a8,?_⟩
  refine⟨_,fun H=>j5.bS1 p9.l1 a8 b1d c23 (fun c1=>(⟨false,c1,0,[],[]⟩:p9)) (fun _=>a8) a8 a8 (.t a8) a8,?_⟩
  refine⟨_,fun H=>j5.p8 hG (c1i _ _ _ (by first|omega|(simp;done)|(simp;omega)|(simp at *;omega))) (.cons (.t a8) (.cons (.t a8) (.cons (.t a8) .nil))) a8,?_⟩
  refine⟨_,fun H=>j5.move (.t a8) a8,?_⟩
  refine⟨_,fun H=>j5.L7 (.t a8) a8,?_⟩
  refine⟨_,fun H=>j5.L8 (.t a8) a8,?_⟩
  refine⟨_,fun H=>j5.L9 (.t a8) a8,?_⟩
  refine .inl (.inl ?_)
  refine⟨_,fun H=>j5.assign (.t a8) a8,?_⟩
  refine⟨a8,?_⟩
  refine⟨⟨j1 [c8,c8,c8,c8],a8⟩,fun Ys5 => ?_⟩
  refine B3.P7 A6 (.t rfl) (.t rfl) (y4.app (y4.app .z3)) ?_
  refine⟨[],_,a8,?_⟩
  refine⟨⟨j1 [c8,c8,c8,_],a8⟩,fun Ys5 => ?_⟩
  refine B3.P7 R2 (.t rfl) (.t rfl) (y4.app (y4.app .z2)) ?_
  refine⟨[],_,a8,?_⟩
  refine⟨⟨j1 [c8,c8,_,_],a8⟩,fun ws5 => ?_⟩
  refine⟨⟨j1 [c8,c8,_,_],a8⟩,fun _ => ?_⟩
  show D1 _ _ _ _ _ [] ((9,_)::(32,_)::(31,_)::(30,_)::(21,_)::(29,_)::(28,_)::(27,_)::(26,_)::(25,_)::(24,_)::(23,_)::(22,_)::_) _
  refine .q 3 hG ?_
  refine .ad (by first|omega|(simp;done)|(simp;omega)|(simp at *;omega)) (by first|omega|(simp;done)|(simp;omega)|(simp at *;omega)) ?_
  refine .q 2 hG ?_
  refine⟨(i+1,(a3K b q ⟨false,l[i],0,[],[]⟩).1,(a3K b q ⟨false,l[i],0,[],[]⟩).2.1,(a3K b q ⟨false,l[i],0,[],[]⟩).2.2),.c2 rfl rfl (.c2 rfl rfl (.c2 rfl rfl (.cons rfl (.nil _)))),rfl,?_,by dsimp only;omega⟩
  exact⟨by dsimp only;omega,fun h=>by dsimp only at h ⊢;rw [h2 hlt.2,a6U hlt.1,E9 h],fun h=>by dsimp only at h ⊢;rw [h2 hlt.2,a6U hlt.1,O1 h],by have:=b7U b q ⟨false,l[i],0,[],[]⟩;dsimp only;omega⟩
 ·refine .q 8 hG ⟨fun hc34 => ?_,fun hc34 => ?_⟩
  ·refine .q 2 hG ?_
   refine .p (.bS0 (α:=j8) a8 A6 a0B (.p (.bS0 (α:=x4) a8 R2 a9u ?_)))
   refine .q 6 hG ?_
   refine⟨_,.r3 a8 (.cell A6 a8 .z1) (.cell R2 a8 .z) (.tmp a8),?_⟩
   rw [h3 hc34]
  ·refine .q 2 hG ?_
   refine .F3 [c9,c9,j0,j0] (by kernel_rfl) 5 [[],[],[(38,0)],[(39,1)],[]] [2,3] a8 (by kernel_rfl) a8 (by kernel_rfl) (by decide) ?_
   refine⟨_,fun H=>j5.Q6 A6 (.t a8) (y4.app .z3) a8,?_⟩
   refine⟨_,fun H=>j5.Q6 R2 (.t a8) (y4.app .z2) a8,?_⟩
   refine .inl (.inl ?_)
   refine⟨_,fun H=>j5.assign (.i a8) a8,?_⟩
   refine⟨⟨([],j1 [_,_,c8,c8]),a8⟩,?_⟩
   refine B3.P7 A6 (.t rfl) (.t rfl) .z1 ?_
   refine⟨⟨([],j1 [_,_,c8,c8]),a8⟩,?_⟩
   refine B3.P7 R2 (.t rfl) (.t rfl) .z ?_
   refine⟨⟨([],j1 [_,_,c8,c8]),a8⟩,?_⟩
   show D1 _ _ _ _ _ [] ((8,_)::(39,_)::(38,_)::_) _
   refine .q 2 hG ?_
   refine⟨_,.r3 a8 (.cell A6 a8 .z1) (.cell R2 a8 .z) (.tmp a8),?_⟩
   obtain rfl:e=0:=Decidable.not_not.1 hc34
   have hx:l.length≤i:=by simpa using hc18
   rw [h2 rfl,List.drop_of_length_le hx];rfl
theorem c3F (a:D6) (p:Pass) (b:c2m) (hp:p.l9.length≤1000000) (hb:∀ x∈a.y7,x.Box.length≤1000000) (ht:b.p7.length≤1000000):p6 gl prog 41 [.v a,.v p,.v b] (fun r=>r = .t3 (.v (b1B a p b).1) (.v (b1B a p b).2.1) (.v (b1B a p b).2.2)):=by
 refine p6.jn func41 (by kernel_rfl) 54 rfl fun C hC hG => ?_
 refine .q 3 hG fun b3 => ?_
 refine .q 1 hG fun b4 => ?_
 refine .q 1 hG fun b5 => ?_
 refine .q 1 hG fun b6 => ?_
 refine .q 1 hG fun b7 => ?_
 refine .q 3 hG ?_
 refine .C1 hC .z2 (.O9 5 rfl .z2 (.a1f [[j0,j0,j0,j0,j0],[j0,j0,j0,j0,j0],[j0,j0,j0,j0,c9],[j0,j0,j0,j0,c9]] [[j0,j0,j0,j0,j0],[j0,j0,j0,j0,j0],[j0,j0,j0,j0,j0],[j0,j0,j0,j0,j0],[j0,j0,j0,j0,j0],[j0,j0,j0,j0,j0],[j0,j0,j0,j0,j0],[j0,j0,j0,j0,j0],[j0,j0,j0,j0,j0],[j0,j0,j0,j0,c9],[j0,j0,j0,j0,c9],[],[],[],[j0,j0,j0,j0,c9]] [] [] 3 (by kernel_rfl) 15 [[],[],[(14,1)],[],[(16,3)],[(17,4)],[(13,0),(15,2),(18,5)],[(19,6)],[(12,7)],[(12,7)],[(12,7)],[],[(20,8)],[(9,11),(21,9)],[(22,10)]] [11,12,13] rfl (by kernel_rfl) rfl (by kernel_rfl) rfl (by decide) (by simp) (fun p hp=>by cases hp) (by kernel_rfl) rfl ?_))
 refine⟨_,fun H=>j5.Q6 A6 (.t a8) (y4.app .z4) a8,?_⟩
 refine⟨_,fun H=>j5.A9 x4.l3 a6a a8 (.t a8) a8,?_⟩
 refine⟨_,fun H=>j5.S1 (fun x=>x.Tag) D0 (.t a8) (y4.app .z3) (fun _=>a8) a8,?_⟩
 refine⟨_,fun H=>j5.y9 C3.l2 (fun x=>x.p7) a9A a8 (fun _=>a8) (.t a8) a8,?_⟩
 refine⟨_,fun H=>j5.G8 a3J (.t a8) a8,?_⟩
 refine⟨_,fun H=>j5.p8 hG (b3m _ ht) (.cons (.t a8) .nil) a8,?_⟩
 refine⟨_,fun H=>j5.p8 hG (a5e _ _ _) (.cons (.t a8) (.cons (.t a8) (.cons (.t a8) .nil))) a8,?_⟩
 refine⟨_,fun H=>j5.move (.t a8) a8,?_⟩
 refine⟨_,fun H=>j5.L7 (.t a8) a8,?_⟩
 refine⟨_,fun H=>j5.L8 (.t a8) a8,?_⟩
 refine⟨_,fun H=>j5.L9 (.t a8) a8,?_⟩
 refine .inl (.inl (.inl ?_))
 refine⟨_,fun H=>j5.assign (.t a8) a8,?_⟩
 refine⟨a8,?_⟩
 refine⟨⟨j1 [c8,c8,c8,c8,c8],a8⟩,fun Ys1 => ?_⟩
 refine B3.alloc D0 fun b9 => ?_
 refine⟨[_],_,a8,?_⟩
 refine⟨⟨j1 [c8,c8,c8,c8,c8],a8⟩,fun Ys1 => ?_⟩
 refine B3.P7 A6 (.t rfl) (.t rfl) (.s (y4.app (y4.app .z4))) ?_
 refine⟨[_],_,a8,?_⟩
 refine⟨⟨j1 [c8,c8,c8,c8,_],a8⟩,fun Ys1 => ?_⟩
 refine B3.P7 D0 (.t rfl) (.t rfl) .z ?_
 refine⟨[_],_,a8,?_⟩
 refine⟨⟨j1 [c8,c8,c8,c8,_],a8⟩,fun ws1 => ?_⟩
 refine⟨⟨j1 [c8,c8,c8,c8,_],a8⟩,fun _ => ?_⟩
 show D1 _ _ _ _ _ [] ((10,_)::(9,_)::(22,_)::(21,_)::(20,_)::(12,_)::(19,_)::(18,_)::(17,_)::(16,_)::(15,_)::(14,_)::(13,_)::_) _
 refine .q 8 hG ⟨fun hc24 => ?_,fun hc24 => ?_⟩
 ·refine .q 2 hG ?_
  refine .p (.bS0 (α:=j8) a8 A6 a0B (.p (.bS0 (α:=x4) a8 R2 a9u (.mv a8 (.n (.P7 A6 (.t a8) (.t a8) .z2 (.n (.P7 R2 (.t a8) (.t a8) .z1 (.ag a8 ?_)))))))))
  refine .q 2 hG ?_
  refine⟨_,.r3 a8 (.cell A6 a8 .z2) (.cell R2 a8 .z1) (.tmp a8),?_⟩
  unfold b1B
  rw [O1 (r:=G6 a p.Tag (a05 b.p7)) hc24]
 ·refine .q 2 hG ?_
  have hb1:∀ x∈(G6 a p.Tag (a05 b.p7)).1.y7,x.Box.length≤1000000:=fun x hx=>hb x (b0a hx)
  refine .a1f [[j0,j0,j0,j0,j0,j0],[j0,j0,j0,j0,j0,c9]] [[j0,j0,j0,j0,j0,j0],[j0,j0,j0,j0,j0,j0],[j0,j0,j0,j0,j0,j0],[j0,j0,j0,j0,j0,j0],[j0,j0,j0,j0,j0,j0],[j0,j0,j0,j0,j0,j0],[j0,j0,j0,j0,j0,j0],[j0,j0,j0,j0,j0,c9],[j0,j0,j0,j0,j0,c9],[],[j0,j0,j0,j0,j0,c9],[j0,j0,j0,j0,j0,c9]] [] [] 1 (by kernel_rfl) 12 [[],[],[],[(31,2)],[(29,0),(30,1),(32,3)],[(33,4)],[(28,5)],[(28,5)],[(28,5)],[(34,6)],[(35,7)],[(36,8)]] [9] rfl (by kernel_rfl) rfl (by kernel_rfl) rfl (by decide) (by simp) (fun p hp=>by cases hp) (by kernel_rfl) rfl ?_
  refine⟨_,fun H=>j5.Q6 A6 (.t a8) (y4.app .z5) a8,?_⟩
  refine⟨_,fun H=>j5.Q6 D0 (.t a8) (y4.app .z) a8,?_⟩
  refine⟨_,fun H=>j5.y9 C3.l1 (fun x=>x.Key) b9f a8 (fun _=>a8) (.t a8) a8,?_⟩
  refine⟨_,fun H=>j5.V3 (by decide) V2 (.t a8) a8,?_⟩
  refine⟨_,fun H=>j5.p8 hG (b4t _ _ _ _ hb1) (.cons (.t a8) (.cons (.t a8) (.cons (.i a8) (.cons (.t a8) .nil)))) a8,?_⟩
  refine⟨_,fun H=>j5.move (.t a8) a8,?_⟩
  refine⟨_,fun H=>j5.L7 (.t a8) a8,?_⟩
  refine⟨_,fun H=>j5.L8 (.t a8) a8,?_⟩
  refine⟨_,fun H=>j5.L9 (.t a8) a8,?_⟩
  refine .inl ?_
  refine⟨_,fun H=>j5.assign (.t a8) a8,?_⟩
  refine⟨_,fun H=>j5.assign (.t a8) a8,?_⟩
  refine⟨a8,?_⟩
  refine⟨⟨j1 [c8,c8,c8,c8,c8,c8],a8⟩,fun Ys4 => ?_⟩
  refine B3.P7 A6 (.t rfl) (.t rfl) (y4.app (y4.app .z5)) ?_
  refine⟨[],_,a8,?_⟩
  refine⟨⟨j1 [c8,c8,c8,c8,c8,_],a8⟩,fun ws4 => ?_⟩
  refine⟨⟨j1 [c8,c8,c8,c8,c8,_],a8⟩,fun _ => ?_⟩
  show D1 _ _ _ _ _ [] ((10,_)::(11,_)::(36,_)::(35,_)::(34,_)::(28,_)::(33,_)::(32,_)::(31,_)::(30,_)::(29,_)::_) _
  refine .q 8 hG ⟨fun hc38 => ?_,fun hc38 => ?_⟩
  ·refine .q 2 hG ?_
   refine .p (.bS0 (α:=j8) a8 A6 a0B (.p (.bS0 (α:=x4) a8 R2 a9u (.mv a8 (.n (.P7 A6 (.t a8) (.t a8) .z2 (.n (.P7 R2 (.t a8) (.t a8) .z1 (.ag a8 ?_)))))))))
   refine .q 2 hG ?_
   refine⟨_,.r3 a8 (.cell A6 a8 .z2) (.cell R2 a8 .z1) (.tmp a8),?_⟩
   unfold b1B
   rw [E9 (r:=G6 a p.Tag (a05 b.p7)) (Decidable.not_not.1 hc24),O1 hc38]
  ·refine .q 3 hG ?_
   refine .p (.Q6 A6 (.t a8) .z5 (.p (.Q6 R2 (.t a8) .z4 (.p (.y9 C3.l0 (fun x=>x.G5) b9e a8 (fun _=>a8) (.t a8) (.p (.G8 I6 (.t a8) (.p (.y9 C3.l2 (fun x=>x.p7) a9A a8 (fun _=>a8) (.t a8) (.p (.G8 a3J (.t a8) (.mv a8 (.p (.bS4 p9.l0 p9.l2 p9.l3 p9.l4 a8 b1d c23 (fun c0 c2 c3 c4=>(⟨c0,default,c2,c3,c4⟩:p9)) (fun _ _ _ _=>a8) a8 a8 a8 a8 a8 .b (.t a8) (.t a8) (.t a8) (.p (.p8 hG (c1i _ _ _ hp) (.cons (.t a8) (.cons (.t a8) (.cons (.t a8) .nil))) (.p (.L7 (.t a8) (.p (.L8 (.t a8) (.p (.L9 (.t a8) (.n (.P7 A6 (.t a8) (.t a8) .z2 (.n (.P7 R2 (.t a8) (.t a8) .z1 (.ag a8 ?_)))))))))))))))))))))))))))
   refine .q 2 hG ?_
   refine⟨_,.r3 a8 (.cell A6 a8 .z2) (.cell R2 a8 .z1) (.tmp a8),?_⟩
   unfold b1B
   rw [E9 (r:=G6 a p.Tag (a05 b.p7)) (Decidable.not_not.1 hc24),E9 (Decidable.not_not.1 hc38)]
structure Made (a:D6) (n:Nat) (k:Tag) (m:List UInt8) (b:D6) (t:Tag):Prop where
 mac:G6 a k m=(b,t,0)
 again:G6 b k m=(b,t,0)
 look:u2 b k m=(t,true)
 len:b.G2.length≤a.G2.length+1
 c5m:a.G2.length≤b.G2.length
 old:∀ i (h:i < a.G2.length),u2 b a.G2[i].Key a.G2[i].Message=(a.G2[i].Tag,true)
 ok:H3 b (n+1)
theorem H3.b7V {a:D6} {n:Nat} (h:H3 a n) (i:Nat) (hi:i < a.G2.length):u2 a a.G2[i].Key a.G2[i].Message=(a.G2[i].Tag,true):=by
 obtain⟨h1,h2⟩:=h.tag i hi
 unfold u2
 cases hf:a.J6 with
 | true =>
  rw [if_pos rfl]
  unfold M9 Q8
  rw [h.uniq i hi]
 | false =>
  rw [if_neg (by decide),if_neg (by omega),h2,hf];rfl
theorem H3.b9U {a:D6} {n:Nat} (h:H3 a n):∀ x∈a.y7,x.Plain.length≤1000000:=fun x hx=>by
 obtain⟨i,hi,rfl⟩:=List.getElem_of_mem hx
 have:=(h.box i hi).1
 omega
theorem b0b (k:Tag) (n:UInt64) (p:List UInt8):J9 k n (J9 k n p p.length) (J9 k n p p.length).length=p:=by
 rw [a6O,a6O]
 apply List.ext_getElem (by simp)
 intro i h1 h2
 simp [UInt8.xor_assoc]
theorem b1H (k:Tag) (n:Int) (p:List UInt8):(R8 k n p).length=p.length+8:=by simp [R8,E4,M0];omega
theorem a8Y (k:Tag) (n:Int) (p:List UInt8):(U5 k n p).take ((U5 k n p).length - 32)=R8 k n p:=by
 rw [a13]
 unfold U5
 rw [List.take_left' (by rw [b1H];omega)]
theorem b5D (k:Tag) (n:Int) (p:List UInt8):(U5 k n p).drop ((U5 k n p).length - 32)=(a1g k.l (a3o.l++R8 k n p)).l:=by
 rw [a13]
 unfold U5
 rw [List.drop_left' (by rw [b1H];omega)]
theorem b5E (k:Tag) (n:Int) (p:List UInt8):a2V k (U5 k n p)=p:=by
 unfold a2V
 rw [a8Y]
 have h1:(R8 k n p).take 8=S0 (UInt64.ofInt n) 8:=by unfold R8;rw [List.take_left' (E4 _ _)]
 have h2:(R8 k n p).drop 8=J9 k (UInt64.ofInt n) p p.length:=by unfold R8;rw [List.drop_left' (E4 _ _)]
 rw [h1,h2,a6P,b0b]
structure M6 (a b:D6):Prop where
 free:b.J6=a.J6
 fresh:a.F4≤b.F4
 X5:∃ l,b.G2=a.G2++l
 boxes:∃ l,b.y7=a.y7++l
theorem M6.refl (a:D6):M6 a a:=⟨rfl,Int.le_refl _,⟨[],(List.append_nil _).symm⟩,⟨[],(List.append_nil _).symm⟩⟩
theorem M6.trans {a b c:D6} (h:M6 a b) (g:M6 b c):M6 a c:=by
 obtain⟨l,hl⟩:=h.X5
 obtain⟨m,hm⟩:=g.X5
 obtain⟨p,hp⟩:=h.boxes
 obtain⟨q,hq⟩:=g.boxes
 exact⟨g.free.trans h.free,Int.le_trans h.fresh g.fresh,⟨l++m,by rw [hm,hl,List.append_assoc]⟩,⟨p++q,by rw [hq,hp,List.append_assoc]⟩⟩
theorem M6.b9V {a b:D6} (h:M6 a b) {x:o8} (hx:x∈a.y7):x∈b.y7:=by
 obtain⟨l,hl⟩:=h.boxes;rw [hl];exact List.mem_append_left _ hx
theorem look_eq {a:D6} {k t:Tag} {m:List UInt8}:u2 a k m=(t,true)↔(if a.J6 then (∃ x,Q8 a k m=some x∧x.Tag=t) else (m.length≤4096∧a1g k.l m=t)):=by
  unfold u2 M9
  cases a.J6 with
  | true =>
    rw [if_pos rfl,if_pos rfl]
    cases Q8 a k m with
    | none => constructor
              · intro h;cases h
              · rintro⟨x,h,_⟩;cases h
    | some x => constructor
                · intro h;exact⟨x,rfl,(Prod.mk.inj h).1⟩
                · rintro⟨y,h,rfl⟩;cases h;rfl
  | false =>
    rw [if_neg (show ¬(false=true) by decide),if_neg (show ¬(false=true) by decide)]
    by_cases h:4096 < m.length
    · rw [if_pos h];constructor
      · intro h;cases h
      · rintro⟨h,_⟩;omega
    · rw [if_neg h];constructor
      · intro h;exact⟨by omega,(Prod.mk.inj h).1⟩
      · rintro⟨_,rfl⟩;rfl
theorem M6.look {a b:D6} (h:M6 a b) {k t:Tag} {m:List UInt8} (hl:u2 a k m=(t,true)):u2 b k m=(t,true):=by
 rw [look_eq] at hl ⊢
 rw [h.free]
 cases hf:a.J6 with
 | true =>
  rw [hf,if_pos rfl] at hl
  rw [if_pos rfl]
  obtain⟨x,h1,h2⟩:=hl
  obtain⟨l,e⟩:=h.X5
  refine⟨x,?_,h2⟩
  unfold Q8 at *
  rw [e,List.find?_append,h1];rfl
 | false =>
  rw [hf,if_neg (by decide)] at hl
  rw [if_neg (by decide)];exact hl
theorem M6.looks {a b:D6} (h:M6 a b) {k:Tag} {m:List UInt8} (hl:(u2 a k m).2=true):(u2 b k m).2=true:=by
 rw [h.look (Prod.ext rfl hl)]
theorem b9W {a:D6} {k:Tag} {x p:List UInt8}:K0 a k x=(p,0)↔(if a.J6 then (∃ y,a.y7.find? (a3u k x)=some y∧y.Plain=p) else (¬(x.length < 40∨296 < x.length)∧(a1g k.l (a3o.l++x.take (x.length - 32))).l=x.drop (x.length - 32)∧a2V k x=p)):=by
  unfold K0
  cases a.J6 with
  | true =>
    rw [if_pos rfl,if_pos rfl]
    cases a.y7.find? (a3u k x) with
    | none => constructor
              · intro h;cases h
              · rintro⟨x,h,_⟩;cases h
    | some y => constructor
                · intro h;exact⟨y,rfl,(Prod.mk.inj h).1⟩
                · rintro⟨y,h,rfl⟩;cases h;rfl
  | false =>
    rw [if_neg (show ¬(false=true) by decide),if_neg (show ¬(false=true) by decide)]
    by_cases h:x.length < 40∨296 < x.length
    · rw [if_pos h];constructor
      · intro h;cases h
      · rintro⟨h2,_⟩;exact absurd h h2
    · rw [if_neg h]
      by_cases h2:(a1g k.l (a3o.l++x.take (x.length - 32))).l=x.drop (x.length - 32)
      · rw [if_pos h2];constructor
        · intro h3;exact⟨h,h2,(Prod.mk.inj h3).1⟩
        · rintro⟨_,_,rfl⟩;rfl
      · rw [if_neg h2];constructor
        · intro h;cases h
        · rintro⟨_,h3,_⟩;exact absurd h3 h2
theorem M6.opens {a b:D6} (h:M6 a b) {k:Tag} {x p:List UInt8} (hl:K0 a k x=(p,0)):K0 b k x=(p,0):=by
 rw [b9W] at hl ⊢
 rw [h.free]
 cases hf:a.J6 with
 | true =>
  rw [hf,if_pos rfl] at hl
  rw [if_pos rfl]
  obtain⟨y,h1,h2⟩:=hl
  obtain⟨l,e⟩:=h.boxes
  exact⟨y,by rw [e,List.find?_append,h1];rfl,h2⟩
 | false =>
  rw [hf,if_neg (by decide)] at hl
  rw [if_neg (by decide)];exact hl
theorem b7W (c:UInt8) (n:Int):(R7 c n).l=b1i c n 8++List.replicate 17 0:=by
 unfold R7
 have:(b1i c n 8).length=15:=a30 c n 8
 show(b1i c n 8).take 32++(default:Tag).l.drop (b1i c n 8).length=_
 rw [List.take_of_length_le (by omega),this];rfl
theorem b3s {c d:UInt8} {m n:Int} (h:R7 c m=R7 d n):c=d∧UInt64.ofInt m=UInt64.ofInt n:=by
 have h2:=congrArg (·.l) h
 simp only [b7W] at h2
 have h3:=List.append_inj_left h2 (by rw [a30,a30])
 unfold b1i at h3
 simp only [List.append_assoc] at h3
 have h4:=List.append_cancel_left h3
 simp only [List.singleton_append,List.cons.injEq] at h4
 exact⟨h4.1,b1w h4.2⟩
theorem a8Z {m n:Int} (hm0:0≤m) (hm:m < 18446744073709551616) (hn0:0≤n) (hn:n < 18446744073709551616) (h:UInt64.ofInt m=UInt64.ofInt n):m=n:=by
 have h2:=congrArg UInt64.toNat h
 simp [UInt64.ofInt] at h2
 omega
theorem b4B {c:UInt8} {i j:Nat} (hi:i < 1000000) (hj:j < 1000000) (h:R7 c ((i+1:Nat):Int)=R7 c ((j+1:Nat):Int)):i=j:=by
 have:=a8Z (by omega) (by omega) (by omega) (by omega) (b3s h).2
 omega
structure b9X (a:D6) (n:Nat) (k:Tag) (m:List UInt8) (b:D6) (t:Tag):Prop where
 eq:G6 a k m=(b,t,0)
 ok:H3 b (n+1)
 le:M6 a b
 look:u2 b k m=(t,true)
 boxes:b.y7=a.y7
 fresh:b.F4=a.F4
 X5:∀ x∈b.G2,x∈a.G2∨(x.Key=k∧x.Message=m)
theorem H3.step {a:D6} {n:Nat} (h:H3 a n) (hn:n < 60000) (k:Tag) {m:List UInt8} (hm:m.length≤1000):∃ b t,b9X a n k m b t:=by
 have h1:=h.X5
 have hok:=h.mac (by omega) (k:=k) hm
 cases hf:Q8 a k m with
 | some x =>
  have e:G6 a k m=(a,x.Tag,0):=by unfold G6;rw [if_neg (by omega),hf]
  rw [e] at hok
  obtain⟨i,hi,rfl⟩:=List.getElem_of_mem (List.mem_of_find?_eq_some hf)
  have hx:=(a8P k m _).1 (List.find?_some hf)
  have hl:=h.b7V i hi
  rw [hx.1,hx.2] at hl
  exact⟨a,_,e,hok,M6.refl _,hl,a8,a8,fun x hx=>Or.inl hx⟩
 | none =>
  have e:=a3n (a:=a) (k:=k) (m:=m) (by omega) hf (by omega)
  rw [e] at hok
  have hi:a.G2.length < (a.G2 ++ [(⟨k,m,a2A a k m⟩:y6)]).length:=by simp
  have hl:=hok.b7V a.G2.length hi
  simp only [List.getElem_concat_length] at hl
  refine⟨_,_,e,hok,⟨rfl,Int.le_refl _,⟨_,rfl⟩,⟨[],by simp⟩⟩,hl,rfl,rfl,fun x hx => ?_⟩
  rcases List.mem_append.1 hx with h|h
  ·exact Or.inl h
  ·obtain rfl:=List.mem_singleton.1 h;exact Or.inr ⟨rfl,rfl⟩
structure b7X (a:D6) (n:Nat) (k:Tag) (m:List UInt8) (b:D6) (t:Tag):Prop where
 eq:a4S a k m=(b,t,0)
 ok:H3 b (n+2)
 le:M6 a b
 look:u2 b k m=(t,true)
 node:(u2 b t F5).2=true
 boxes:b.y7=a.y7
 fresh:b.F4=a.F4
 X5:∀ x∈b.G2,x∈a.G2∨x.Message=m∨x.Message=F5
theorem H3.V9 {a:D6} {n:Nat} (h:H3 a n) (hn:n < 50000) (k:Tag) {m:List UInt8} (hm:m.length≤1000):∃ b t,b7X a n k m b t:=by
 obtain⟨b,t,s⟩:=h.step (by omega) k hm
 obtain⟨c,u,s2⟩:=s.ok.step (by omega) t (m:=F5) (by decide)
 refine⟨c,t,?_,s2.ok,s.le.trans s2.le,s2.le.look s.look,by rw [s2.look],s2.boxes.trans s.boxes,s2.fresh.trans s.fresh,fun x hx => ?_⟩
 ·unfold a4S;rw [s.eq,E9 rfl];dsimp only;rw [s2.eq,E9 rfl]
 ·rcases s2.X5 x hx with h|⟨_,h⟩
  ·rcases s.X5 x h with h|⟨_,h⟩
   ·exact Or.inl h
   ·exact Or.inr (Or.inl h)
  ·exact Or.inr (Or.inr h)
structure b9Y (a:D6) (n:Nat) (b:D6) (t:Tag):Prop where
 eq:O3 a=(b,t,0)
 ok:H3 b (n+1)
 le:M6 a b
 boxes:b.y7=a.y7
 X5:b.G2=a.G2
 fresh:b.F4=a.F4+1
 sym:a.J6=true→t=R7 107 b.F4
theorem H3.b0c {a:D6} {n:Nat} (h:H3 a n) (hn:n < 60000):∃ b t,b9Y a n b t:=by
 have h1:=h.a6q
 have hok:=h.key (by omega)
 have e:O3 a=(⟨a.J6,a.a3I,a.F4+1,a.G2,a.y7⟩,(if a.J6 then R7 107 (a.F4+1) else (derive a.a3I a7N (a.F4+1)).1),0):=by
  unfold O3;rw [if_neg (by omega)]
 rw [e] at hok
 exact⟨_,_,e,hok,⟨rfl,by show a.F4≤a.F4+1;omega,⟨[],by simp⟩,⟨[],by simp⟩⟩,rfl,rfl,rfl,fun hf=>by rw [hf];rfl⟩
theorem H3.b4C {b:D6} {m:Nat} (hb:H3 b m) (hm:m≤60000) {i:Nat} (h:i < b.y7.length):K0 b b.y7[i].Key b.y7[i].Box=(b.y7[i].Plain,0)∧b.y7[i].Box.length=b.y7[i].Plain.length+40:=by
 have hl:=hb.boxes
 obtain⟨h1,h2,h3,h4⟩:=hb.box i h
 cases hf:b.J6 with
 | true =>
  rw [hf,if_pos rfl] at h4
  refine⟨?_,by rw [h4,List.length_append,K5.len,List.length_replicate];omega⟩
  cases hq:b.y7.find? (a3u b.y7[i].Key b.y7[i].Box) with
  | none =>
   have:=List.find?_eq_none.1 hq b.y7[i] (List.getElem_mem h)
   simp [a3u] at this
  | some y =>
   rw [a4Q hf hq]
   have hy:=List.find?_some hq
   obtain⟨j,hj,rfl⟩:=List.getElem_of_mem (List.mem_of_find?_eq_some hq)
   obtain⟨_,_,_,g4⟩:=hb.box j hj
   rw [hf,if_pos rfl] at g4
   simp only [a3u,Bool.and_eq_true,decide_eq_true_eq] at hy
   have e:=hy.2
   rw [g4,h4] at e
   obtain rfl:=b4B (by omega) (by omega) (K5.ext (List.append_inj_left e (by rw [K5.len,K5.len])))
   rfl
 | false =>
  rw [hf,if_neg (by decide)] at h4
  have hlen:b.y7[i].Box.length=b.y7[i].Plain.length+40:=by rw [h4,a13]
  refine⟨?_,hlen⟩
  rw [a7Q hf (by omega)]
  ·rw [h4,b5E]
  ·rw [h4,a8Y,b5D]
structure b7Y (a:D6) (n:Nat) (k:Tag) (c:Int) (p:List UInt8) (b:D6) (x:List UInt8):Prop where
 eq:O4 a k c p=(b,x,0)
 ok:H3 b (n+1)
 le:M6 a b
 opens:K0 b k x=(p,0)
 len:x.length=p.length+40
 X5:b.G2=a.G2
 fresh:b.F4=a.F4
 at_:∃ i,∃ h:i < b.y7.length,b.y7[i]=⟨k,c,p,x⟩
 boxes:∀ y∈b.y7,y∈a.y7∨y=⟨k,c,p,x⟩
theorem H3.b1I {a:D6} {n:Nat} (ha:H3 a n) (hn:n < 50000) (k:Tag) {c:Int} {p:List UInt8} (hc0:0≤c) (hc1:c≤281474976710656) (hp:p.length≤256):∃ b x,b7Y a n k c p b x:=by
 have hok:=ha.boxed (by omega) (k:=k) hc0 hc1 hp
 have hr:(decide (c < 0)||decide (281474976710656 < c))=false:=by simp;omega
 have hl:=ha.boxes
 cases hf:a.y7.find? (a36 k c p) with
 | some y =>
  have e:=a2C hr (by omega) hf
  rw [e] at hok
  obtain⟨i,hi,rfl⟩:=List.getElem_of_mem (List.mem_of_find?_eq_some hf)
  have hy:=List.find?_some hf
  simp only [a36,Bool.and_eq_true,decide_eq_true_eq] at hy
  obtain⟨h1,h2⟩:=ha.b4C (by omega) hi
  obtain⟨⟨e1,e2⟩,e3⟩:=hy
  rw [e1,e3] at h1
  rw [e3] at h2
  refine⟨a,_,e,hok,M6.refl _,h1,h2,a8,a8,⟨i,hi,?_⟩,fun y hy=>Or.inl hy⟩
  rw [←e1,←e2,←e3]
 | none =>
  have e:=a2l hr (by omega) hf (by omega)
  rw [e] at hok
  have hi:a.y7.length < (a.y7 ++ [(⟨k,c,p,a2B a k c p⟩:o8)]).length:=by simp
  obtain⟨h1,h2⟩:=hok.b4C (by omega) hi
  simp only [List.getElem_concat_length] at h1 h2
  refine⟨_,_,e,hok,⟨rfl,Int.le_refl _,⟨[],by simp⟩,⟨_,rfl⟩⟩,h1,h2,rfl,rfl,⟨a.y7.length,hi,by simp⟩,fun y hy => ?_⟩
  rcases List.mem_append.1 hy with h|h
  ·exact Or.inl h
  ·exact Or.inr (List.mem_singleton.1 h)
theorem M6.walk {a b:D6} (h:M6 a b) {k:Tag} {l:List (List UInt8)} {r:List Tag} (hl:P3 (u2 a) k l=some r):P3 (u2 b) k l=some r:=by
 unfold P3 at *
 generalize (some [k]:Option (List Tag))=o at hl ⊢
 induction l generalizing o with
 | nil=>exact hl
 | cons m l ih =>
  rw [List.foldl_cons] at hl ⊢
  cases o with
  | none =>
   have:V8 (u2 a) none m=none:=rfl
   rw [this,a4x] at hl;cases hl
  | some s =>
   have e:V8 (u2 a) (some s) m=V8 (u2 b) (some s) m:=by
    show(if (u2 a (s.getLastD default) m).2 then some (s ++ [(u2 a (s.getLastD default) m).1]) else none)=if (u2 b (s.getLastD default) m).2 then some (s ++ [(u2 b (s.getLastD default) m).1]) else none
    cases h2:(u2 a (s.getLastD default) m).2 with
    | false =>
     have:V8 (u2 a) (some s) m=none:=by
      show(if (u2 a (s.getLastD default) m).2 then some (s ++ [(u2 a (s.getLastD default) m).1]) else none)=none
      rw [h2];rfl
     rw [this,a4x] at hl;cases hl
    | true=>rw [h.look (Prod.ext rfl h2)]
   rw [←e];exact ih _ hl
theorem M6.dis {a b:D6} (h:M6 a b) {k t:Tag} {x:List UInt8} {l:List Pred} (hl:a6s a k x l=some t):a6s b k x l=some t:=by
 unfold a6s at *
 have hg:∀ u,a6r a k x=some u→a6r b k x=some u:=fun u hu=>by
  unfold a6r at *
  cases h2:(u2 a k (a15 x)).2 with
  | false=>rw [h2] at hu;cases hu
  | true=>rw [h2] at hu;rw [h.look (Prod.ext rfl h2)];exact hu
 cases h0:a6r a k x with
 | none=>rw [h0,a7T] at hl;cases hl
 | some u =>
  rw [hg u h0];rw [h0] at hl
  clear h0
  induction l generalizing u with
  | nil=>exact hl
  | cons p l ih =>
   rw [List.foldl_cons] at hl ⊢
   have e:∀ v,a0t a (some u) p=some v→a0t b (some u) p=some v:=fun v hv=>by
    unfold a0t at *
    simp only [Option.bind_some] at hv ⊢
    split at hv
    ·next h3=>rw [h.look (Prod.ext rfl h3.2.2)];rw [if_pos ⟨h3.1,h3.2.1,rfl⟩];exact hv
    ·cases hv
   cases h4:a0t a (some u) p with
   | none=>rw [h4,a7T] at hl;cases hl
   | some v=>rw [e v h4];rw [h4] at hl;exact ih v hl
theorem b0d (p:Tag→List UInt8→Tag×Bool) (k:Tag) (l:List (List UInt8)) (m:List UInt8):P3 p k (l ++ [m])=V8 p (P3 p k l) m:=by
 unfold P3;rw [List.foldl_append];rfl
structure b9Z (A:D6) (P:Pass) (g:Dis):Prop where
 tick:1≤g.p7.length∧g.p7.length≤100
 con:∀ p∈g.j9,y8 p=true∧p.Kind≠7
 a6t:g.j9.length≤8
 cav:∃ c∈P.l9,c.X4=true∧c.p7=g.p7
 key:∃ bk:Tag,a6s A bk g.p7 g.j9=some g.Tag∧(A.J6=true→∃ n,bk=R7 107 n)
 box:∃ x∈A.y7,x.Box=g.p7∧1≤x.E7
structure c0a (A:D6) (G:List Dis) (t:Tag) (c:Cav):Prop where
 th:∃ key bk g,g∈G∧u2 A t (a05 c.p7)=(key,true)∧K0 A key c.Box=(bk.l,0)∧g.p7=c.p7∧a6s A bk g.p7 g.j9=some g.Tag
structure Y6 (A:D6) (root:u4) (P:Pass) (G:List Dis) (T:List Tag) (n k:Nat):Prop where
 ok:H3 A n
 a4T:P.D4=root.Number∧1≤root.Number∧root.Number≤2
 a5n:1≤P.C2∧P.C2≤50
 a5k:P.l9.length≤k
 ngr:G.length≤k
 cav:∀ c∈P.l9,H6 c=true∧(E0 c).length≤200
 walk:P3 (u2 A) root.Key (I2 P.C2 P.l9)=some (root.Key::T)
 leaf:(root.Key::T).getLastD default=P.Tag
 a7X:T.length=P.l9.length+1
 nodes:∀ t∈T,(u2 A t F5).2=true
 a81:∀ i (h:i < P.l9.length),P.l9[i].X4=true→c0a A G (T.getD i default) P.l9[i]
 a4i:∀ g∈G,b9Z A P g
 nodup:(G.map (·.p7)).Nodup
 F9:∀ x∈A.y7,x.E7≤A.F4
 a6v:A.J6=true→∀ x∈A.y7,x.Plain.length=32→∃ n:Int,x.Plain=(R7 107 n).l
def a2Y (A:D6):Prop:=∀ x∈A.G2,∃ c,x.Message.head?=some c∧c≠114∧c≠98
theorem b9Z.le {A B:D6} {P Q:Pass} {g:Dis} (h:b9Z A P g) (hl:M6 A B) (hp:∀ c∈P.l9,c∈Q.l9):b9Z B Q g:=by
 obtain⟨c,hc,hc2⟩:=h.cav
 obtain⟨bk,hb,hb2⟩:=h.key
 obtain⟨x,hx,hx2⟩:=h.box
 exact⟨h.tick,h.con,h.a6t,⟨c,hp c hc,hc2⟩,⟨bk,hl.dis hb,fun hf=>hb2 (hl.free▸hf)⟩,⟨x,hl.b9V hx,hx2⟩⟩
theorem c0a.le {A B:D6} {G H:List Dis} {t:Tag} {c:Cav} (h:c0a A G t c) (hl:M6 A B) (hg:∀ g∈G,g∈H):c0a B H t c:=by
 obtain⟨key,bk,g,h1,h2,h3,h4,h5⟩:=h.th
 exact⟨key,bk,g,hg g h1,hl.look h2,hl.opens h3,h4,hl.dis h5⟩
theorem Y6.le {A B : D6} {root : u4} {P : Pass} {G : List Dis} {T : List Tag} {n m k : Nat} (h : Y6 A root P G T n k) (hl : M6 A B) (hb : H3 B m) (hn : ∀ x ∈ B.y7, x.E7 ≤ B.F4)
    (hp:A.J6=true→∀ x∈B.y7,x.Plain.length=32→∃ n:Int,x.Plain=(R7 107 n).l):Y6 B root P G T m k :=
  ⟨hb,h.a4T,h.a5n,h.a5k,h.ngr,h.cav,hl.walk h.walk,h.leaf,h.a7X,fun t ht=>hl.looks (h.nodes t ht),fun i hi h3=>(h.a81 i hi h3).le hl fun _ hg=>hg,
    fun g hg=>(h.a4i g hg).le hl fun _ hc=>hc,h.nodup,hn,fun hf=>hp (hl.free▸hf)⟩
theorem Y6.mac {A B:D6} {root:u4} {P:Pass} {G:List Dis} {T:List Tag} {n m k:Nat} (h:Y6 A root P G T n k) (hl:M6 A B) (hb:H3 B m) (e:B.y7=A.y7):Y6 B root P G T m k :=
 h.le hl hb (fun x hx=>Int.le_trans (h.F9 x (e▸hx)) hl.fresh) fun hf x hx=>h.a6v hf x (e▸hx)
theorem Y6.wide {A:D6} {root:u4} {P:Pass} {G:List Dis} {T:List Tag} {n k m j:Nat} (h:Y6 A root P G T n k) (hm:n≤m) (hj:k≤j):Y6 A root P G T m j :=
 ⟨h.ok.le hm,h.a4T,h.a5n,Nat.le_trans h.a5k hj,Nat.le_trans h.ngr hj,h.cav,h.walk,h.leaf,h.a7X,h.nodes,h.a81,h.a4i,h.nodup,h.F9,h.a6v⟩
theorem b1J {n:Int} (h:n≤50):(a0r n).length≤20:=by
 have:=B1 (n:=n.toNat) (by omega)
 unfold a0r;simp;omega
theorem a83 {c:Cav} (h:H6 c=true):a14 c = [99,97,118,101,97,116]++E0 c:=by unfold a14 S8;rw [if_pos h]
theorem Y6.start (free : Bool) (seed : Tag) {A : D6} {root : u4} (he : 1 ≤ root.Number ∧ root.Number ≤ 2) {n : Int} (hA : H3 A 2) (hm : A.G2 = []) (hb : A.y7 = []) (h0 : 1 ≤ n) (h1 : n ≤ 50) :
    ∃ B P T,a6S A root n=(B,P,0)∧Y6 B root P [] T 4 0∧a2Y B∧B.J6=A.J6∧P.C2=n:=by
  obtain⟨b,t,s⟩:=hA.V9 (by omega) root.Key (m:=a0r n) (by have:=b1J h1;omega)
  have hbx:b.y7 = []:=s.boxes.trans hb
  refine⟨b,⟨root.Number,n,[],t⟩,[t],?_,⟨s.ok,⟨a8,he⟩,⟨h0,h1⟩,Nat.le_refl _,Nat.le_refl _,fun c hc=>(by cases hc),?_,a8,a8,fun u hu => ?_,fun i hi=>(by cases hi),fun g hg=>(by cases hg),List.nodup_nil,fun x hx=>(by rw [hbx] at hx;cases hx),fun _ x hx=>(by rw [hbx] at hx;cases hx)⟩,fun x hx => ?_,s.le.free,a8⟩
  · unfold a6S
    have hr:K6 root.Number n=true:=by unfold K6;simp;omega
    rw [if_neg (by rw [hr];decide),s.eq,E9 rfl]
  · show P3 (u2 b) root.Key [a0r n]=some [root.Key,t]
    show V8 (u2 b) (some [root.Key]) (a0r n)=_
    show(if (u2 b root.Key (a0r n)).2 then some ([root.Key] ++ [(u2 b root.Key (a0r n)).1]) else none)=_
    rw [s.look];rfl
  · obtain rfl:=List.mem_singleton.1 hu;exact s.node
  · rcases s.X5 x hx with h|h|h
    · rw [hm] at h;cases h
    · exact⟨109,by rw [h];rfl,by decide,by decide⟩
    · exact⟨110,by rw [h];rfl,by decide,by decide⟩
theorem b5F {A : D6} {root t u : Tag} {n : Int} {l : List Cav} {c : Cav} {T : List Tag} (h : P3 (u2 A) root (I2 n l) = some (root :: T)) (h2 : (root :: T).getLastD default = t) (h3 : u2 A t (a14 c) = (u, true)) :
    P3 (u2 A) root (I2 n (l ++ [c]))=some (root::(T ++ [u])):=by
  have e:I2 n (l ++ [c])=I2 n l ++ [a14 c]:=by unfold I2;rw [List.map_append];rfl
  rw [e,b0d,h]
  show(if (u2 A ((root::T).getLastD default) (a14 c)).2 then some ((root::T) ++ [(u2 A ((root::T).getLastD default) (a14 c)).1]) else none)=_
  rw [h2,h3];rfl
theorem a7Y {T:List Tag} {u:Tag} {i:Nat} (h:i < T.length):(T ++ [u]).getD i default=T.getD i default:=by
 rw [List.getD_eq_getElem?_getD,List.getD_eq_getElem?_getD,List.getElem?_append_left h]
theorem Y6.att {A : D6} {root : u4} {P : Pass} {G H : List Dis} {T : List Tag} {n k : Nat} (h : Y6 A root P G T n k) (hn : n < 1000) (hk : k < 8) {c : Cav} (hc : H6 c = true) (hcl : (E0 c).length ≤ 200) (hh : a2Y A) :
    ∃ B Q u,a3K A P c=(B,Q,0)∧H3 B (n+2)∧M6 A B∧B.y7=A.y7∧B.F4=A.F4∧a2Y B∧Q.D4=P.D4∧Q.C2=P.C2∧Q.l9=P.l9 ++ [c]∧Q.Tag=u ∧
      P3 (u2 B) root.Key (I2 Q.C2 Q.l9)=some (root.Key::(T ++ [u]))∧(u2 B u F5).2=true:=by
  obtain⟨b,t,s⟩:=h.ok.V9 (by omega) P.Tag (m:=a14 c) (by rw [a83 hc,List.length_append];show 6+_≤_;omega)
  refine⟨b,⟨P.D4,P.C2,P.l9 ++ [c],t⟩,t,?_,s.ok,s.le,s.boxes,s.fresh,fun x hx => ?_,a8,a8,a8,a8,b5F (s.le.walk h.walk) h.leaf s.look,s.node⟩
  · unfold a3K
    have hm:a5P P c=false:=by
      have h1:=h.a5k
      have h2:=V7 P.l9
      unfold a5P a0q
      rw [decide_eq_false (by omega),decide_eq_false (by omega)];simp
    rw [if_neg (by rw [hc];decide),if_neg (by rw [hm];decide),s.eq,E9 rfl]
  · rcases s.X5 x hx with h|h|h
    · exact hh x h
    · exact⟨99,by rw [h,a83 hc];rfl,by decide,by decide⟩
    · exact⟨110,by rw [h];rfl,by decide,by decide⟩
theorem Y6.first {A : D6} {root : u4} {P : Pass} {G : List Dis} {T : List Tag} {n k : Nat} (h : Y6 A root P G T n k) (hn : n < 1000) (hk : k < 8) {p : Pred} (hp : y8 p = true) (hh : a2Y A) :
    ∃ B Q U,a3K A P ⟨false,p,0,[],[]⟩=(B,Q,0)∧Y6 B root Q G U (n+2) (k+1)∧a2Y B∧B.J6=A.J6:=by
  have hc:H6 ⟨false,p,0,[],[]⟩=true:=by unfold H6;simp [hp]
  obtain⟨B,Q,u,h1,h2,h3,h4,h5,h6,h7,h8,h9,h10,h11,h12⟩:=h.att (H:=G) hn hk (c:=⟨false,p,0,[],[]⟩) hc (by unfold E0;have:=G9 (L5 hp);simp;omega) hh
  refine⟨B,Q,T ++ [u],h1,⟨h2,⟨h7.trans h.a4T.1,h.a4T.2⟩,by rw [h8];exact h.a5n,by rw [h9,List.length_append];have:=h.a5k;simp;omega,Nat.le_succ_of_le h.ngr,fun c hc => ?_,h11,?_,?_,fun t ht => ?_,fun i hi h3' => ?_,fun g hg => ?_,h.nodup,?_,?_⟩,h6,h3.free⟩
  · rw [h9] at hc
    rcases List.mem_append.1 hc with h|h
    · exact Y6.cav ‹_› c h
    · obtain rfl:=List.mem_singleton.1 h
      exact⟨‹_›,by unfold E0;have:=G9 (L5 hp);simp;omega⟩
  · rw [h10,←List.cons_append,List.getLastD_eq_getLast?,List.getLast?_append];rfl
  · rw [h9,List.length_append,List.length_append,h.a7X];rfl
  · rcases List.mem_append.1 ht with h'|h'
    · exact h3.looks (h.nodes t h')
    · obtain rfl:=List.mem_singleton.1 h';exact h12
  · by_cases e:i < P.l9.length
    · have e2:Q.l9[i]=P.l9[i]:=by simp only [h9];exact List.getElem_append_left e
      rw [e2] at h3' ⊢
      rw [a7Y (by rw [h.a7X];omega)]
      exact(h.a81 i e h3').le h3 fun _ hg=>hg
    · have hi2:=hi
      rw [h9,List.length_append] at hi2
      have e3:i=P.l9.length:=by simp at hi2;omega
      have e2:Q.l9[i]=⟨false,p,0,[],[]⟩:=by simp only [h9];rw [List.getElem_append_right (by omega)];simp
      rw [e2] at h3';cases h3'
  · exact(h.a4i g hg).le h3 fun c hc=>by rw [h9];exact List.mem_append_left _ hc
  · intro x hx;rw [h5];exact h.F9 x (h4▸hx)
  · intro hf x hx;exact h.a6v (h3.free▸hf) x (h4▸hx)
theorem H3.b7Z {a:D6} {n:Nat} (h:H3 a n) (hn:n < 60000) {y z:o8} (hy:y∈a.y7) (hz:z∈a.y7) (e:y.Box=z.Box):y.E7=z.E7:=by
 obtain⟨i,hi,rfl⟩:=List.getElem_of_mem hy
 obtain⟨j,hj,rfl⟩:=List.getElem_of_mem hz
 obtain⟨_,a0,a1,h1⟩:=h.box i hi
 obtain⟨_,b0,b1,h2⟩:=h.box j hj
 have hl:=h.boxes
 cases hf:a.J6 with
 | true =>
  rw [hf,if_pos rfl] at h1 h2
  rw [h1,h2] at e
  obtain rfl:=b4B (by omega) (by omega) (K5.ext (List.append_inj_left e (by rw [K5.len,K5.len])))
  rfl
 | false =>
  rw [hf,if_neg (by decide)] at h1 h2
  rw [h1,h2] at e
  have e2:=congrArg (List.take 8) e
  unfold U5 R8 at e2
  simp only [List.append_assoc] at e2
  rw [List.take_left' (E4 _ _),List.take_left' (E4 _ _)] at e2
  exact a8Z a0 (by omega) b0 (by omega) (b1w e2)
theorem b1K (a:D6) (k:Tag) (t:List UInt8) (l:List Pred) (p:Pred):a6s a k t (l ++ [p])=a0t a (a6s a k t l) p:=by
 unfold a6s;rw [List.foldl_append];rfl
theorem a6V {a:D6} {t u:Tag} {p:Pred} (hp:y8 p=true) (h7:p.Kind≠7) (h:u2 a t (a06 p)=(u,true)):a0t a (some t) p=some u:=by
 unfold a0t;simp only [Option.bind_some];rw [h,if_pos ⟨hp,h7,rfl⟩]
theorem a5o {p:Pred} (h:y8 p=true):a06 p = [99,111,110,100,105,116,105,111,110]++u3 p:=by unfold a06 U6;rw [if_pos h]
theorem a6W {p:Pred} (h:y8 p=true):(a06 p).length≤40:=by
 rw [a5o h,List.length_append];have:=G9 (L5 h);show 9+_≤_;omega
theorem Y6.restrict {A : D6} {root : u4} {P : Pass} {G : List Dis} {g : Dis} {T : List Tag} {n k : Nat} (h : Y6 A root P (G ++ [g]) T n k) (hn : n < 1000) (hh : a2Y A) {p : Pred} (hp : y8 p = true) (h7 : p.Kind ≠ 7) (hc : g.j9.length < 8) :
    ∃ B d,Q3 A g p=(B,d,0)∧Y6 B root P (G ++ [d]) T (n+1) k∧a2Y B∧B.J6=A.J6∧d.j9.length=g.j9.length+1:=by
  obtain⟨B,t,s⟩:=h.ok.step (by omega) g.Tag (m:=a06 p) (by have:=a6W hp;omega)
  have hB:=h.mac s.le s.ok s.boxes
  have hstep:∀ bk:Tag,a6s A bk g.p7 g.j9=some g.Tag→a6s B bk g.p7 (g.j9 ++ [p])=some t:=fun bk hb=>by
    rw [b1K,s.le.dis hb,a6V hp h7 s.look]
  refine⟨B,⟨g.p7,g.j9 ++ [p],t⟩,?_,⟨hB.ok,hB.a4T,hB.a5n,hB.a5k,?_,hB.cav,hB.walk,hB.leaf,hB.a7X,hB.nodes,fun i hi h3 => ?_,fun d hd => ?_,?_,hB.F9,hB.a6v⟩,fun x hx => ?_,s.le.free,by simp⟩
  · unfold Q3
    rw [if_neg (by rw [hp];decide),if_neg h7,if_neg (by omega),s.eq,E9 rfl]
  · have:=hB.ngr;simpa using this
  · obtain⟨key,bk,d,h1,h2,h4,h5,h6⟩:=(h.a81 i hi h3).th
    rcases List.mem_append.1 h1 with hg|hg
    · exact⟨key,bk,d,List.mem_append_left _ hg,s.le.look h2,s.le.opens h4,h5,s.le.dis h6⟩
    · obtain rfl:=List.mem_singleton.1 hg
      exact⟨key,bk,_,List.mem_append_right _ (List.mem_singleton.2 a8),s.le.look h2,s.le.opens h4,h5,hstep bk h6⟩
  · rcases List.mem_append.1 hd with hg|hg
    · exact hB.a4i d (List.mem_append_left _ hg)
    · obtain rfl:=List.mem_singleton.1 hg
      have hg0:=h.a4i g (List.mem_append_right _ (List.mem_singleton.2 rfl))
      obtain⟨bk,hb,hb2⟩:=hg0.key
      obtain⟨x,hx,hx2⟩:=hg0.box
      refine⟨hg0.tick,fun q hq => ?_,by dsimp only;rw [List.length_append];simp;omega,hg0.cav,⟨bk,hstep bk hb,fun hf=>hb2 (s.le.free▸hf)⟩,⟨x,s.le.b9V hx,hx2⟩⟩
      rcases List.mem_append.1 hq with h'|h'
      · exact hg0.con q h'
      · obtain rfl:=List.mem_singleton.1 h';exact⟨hp,h7⟩
  · have:=hB.nodup;simpa using this
  · rcases s.X5 x hx with h'|⟨_,h'⟩
    · exact hh x h'
    · exact⟨99,by rw [h',a5o hp];rfl,by decide,by decide⟩
theorem a2o (k:Tag):W0 k ⟨0,150⟩=k.l ++ [0,150,1]:=by
 unfold W0;rw [List.append_assoc];congr 1
 show I4 0++I4 150 = [0,150,1]
 simp [I4]
theorem Y6.c4O {A : D6} {root : u4} {P : Pass} {G : List Dis} {T : List Tag} {n k : Nat} (h : Y6 A root P G T n k) (hn : n < 900) (hk : k < 8) (hh : a2Y A) {c : a99} (hp0 : 0 ≤ c.G5) (hp7 : c.G5 ≤ 7) (s : T5) (hs : I7 s = true) :
    ∃ A1 b,a3w A c ⟨0,150⟩=(A1,b,0)∧H3 A1 (n+2)∧∃ A2 P2,b1B A1 P b=(A2,P2,0)∧K0 A2 c.Key b.p7=(b.Key.l ++ [0,150,1],0)∧H3 A2 (n+6)∧b.p7.length≤100 ∧
      ∃ A3 g U,a5l A2 b.Key b.p7 s=(A3,g,0)∧Y6 A3 root P2 (G ++ [g]) U (n+8) (k+1)∧a2Y A3∧A3.J6=A.J6∧g.j9.length=1:=by
  obtain⟨b1,kt,s1⟩:=h.ok.b0c (by omega)
  have hf0:=h.ok.a5f
  have hf1:=h.ok.a6q
  have hfr:=s1.fresh
  obtain⟨A1,x,s2⟩:=s1.ok.b1I (by omega) c.Key (c:=b1.F4) (p:=W0 kt ⟨0,150⟩) (by omega) (by omega) (by rw [a2o,List.length_append,K5.len];decide)
  have hx:x.length=75:=by rw [s2.len,a2o,List.length_append,K5.len];rfl
  obtain⟨a2,kt2,s3⟩:=s2.ok.step (by omega) P.Tag (m:=a05 x) (by unfold a05;rw [List.length_append];simp;omega)
  obtain⟨a3,bx,s4⟩:=s3.ok.b1I (by omega) kt2 (c:=0) (p:=kt.l) (by omega) (by omega) (by rw [K5.len];decide)
  have hbx:bx.length=72:=by rw [s4.len,K5.len]
  have le13:=s1.le.trans (s2.le.trans (s3.le.trans s4.le))
  have hfr3:a3.F4=A.F4+1:=by rw [s4.fresh,s3.fresh,s2.fresh,s1.fresh]
  have hbox:∀ y∈a3.y7,y∈A.y7∨y=⟨c.Key,b1.F4,W0 kt ⟨0,150⟩,x⟩∨y=⟨kt2,0,kt.l,bx⟩:=fun y hy=>by
    rcases s4.boxes y hy with h'|h'
    · rw [s3.boxes] at h'
      rcases s2.boxes y h' with h'|h'
      · rw [s1.boxes] at h';exact Or.inl h'
      · exact Or.inr (Or.inl h')
    · exact Or.inr (Or.inr h')
  have h3:Y6 a3 root P G T (n+4) k:=by
    refine h.le le13 s4.ok (fun y hy => ?_) fun hf y hy hl => ?_
    · rcases hbox y hy with h'|rfl|rfl
      · have:=h.F9 y h';omega
      · dsimp only;omega
      · dsimp only;omega
    · rcases hbox y hy with h'|rfl|rfl
      · exact h.a6v hf y h' hl
      · rw [a2o,List.length_append,K5.len] at hl;simp at hl
      · exact⟨_,congrArg (·.l) (s1.sym hf)⟩
  have hh3:a2Y a3:=fun y hy=>by
    rw [s4.X5] at hy
    rcases s3.X5 y hy with h'|⟨_,h'⟩
    · rw [s2.X5,s1.X5] at h';exact hh y h'
    · exact⟨115,by rw [h'];rfl,by decide,by decide⟩
  have hc:H6 ⟨true,default,c.G5,x,bx⟩=true:=by unfold H6;simp;omega
  have hcl:(E0 ⟨true,default,c.G5,x,bx⟩).length≤200:=by
    have l1:=B1 (n:=c.G5.toNat) (by omega)
    have l2:=B1 (n:=x.length) (by omega)
    have l3:=B1 (n:=bx.length) (by omega)
    unfold E0 Z8;simp;omega
  obtain⟨A2,Q,u,e1,ok2,le2,bx2,fr2,hh2,q1,q2,q3,q4,w2,nd2⟩:=h3.att (H:=G) (by omega) hk hc hcl hh3
  obtain⟨a5,gt,s5⟩:=ok2.step (by omega) kt (m:=a15 x) (by unfold a15;rw [List.length_append];simp;omega)
  have hpo:y8 (a2n s)=true:=by unfold y8 a2n;simp [hs]
  obtain⟨A3,t,s6⟩:=s5.ok.step (by omega) gt (m:=a06 (a2n s)) (by have:=a6W hpo;omega)
  have le36:M6 a3 A3:=le2.trans (s5.le.trans s6.le)
  have le16:M6 A A3:=le13.trans le36
  have hopen:K0 A2 c.Key x=(kt.l ++ [0,150,1],0):=by rw [←a2o];exact(s3.le.trans (s4.le.trans le2)).opens s2.opens
  have hdis:a6s A3 kt x [a2n s]=some t:=by
    unfold a6s a6r
    rw [s6.le.look s5.look]
    exact a6V hpo (show(6:Int)≠7 by decide) s6.look
  have hbx6:A3.y7=a3.y7:=s6.boxes.trans (s5.boxes.trans bx2)
  have hfr6:A3.F4=a3.F4:=s6.fresh.trans (s5.fresh.trans fr2)
  obtain⟨i2,hi2,at2⟩:=s2.at_
  have hmem:(⟨c.Key,b1.F4,W0 kt ⟨0,150⟩,x⟩:o8)∈A3.y7:=by
    rw [hbx6];exact(s3.le.trans s4.le).b9V (at2▸List.getElem_mem hi2)
  have hlast:T.getD P.l9.length default=P.Tag:=by
    have h1:=h.leaf
    have h2:=h.a7X
    have hne:T ≠ []:=by intro e;rw [e] at h2;simp at h2
    rw [List.getLastD_eq_getLast?,List.getLast?_cons,] at h1
    rw [List.getD_eq_getElem?_getD,show P.l9.length=T.length - 1 by omega,←List.getLast?_eq_getElem?]
    rw [←h1]
    cases hq:T.getLast? with
    | none=>exact absurd (List.getLast?_eq_none_iff.1 hq) hne
    | some z=>rfl
  refine⟨A1,⟨c.G5,kt,x⟩,?_,s2.ok,A2,Q,?_,hopen,ok2,by dsimp only;omega,A3,⟨x,[a2n s],t⟩,T ++ [u],?_,⟨s6.ok,⟨q1.trans h.a4T.1,h.a4T.2⟩,by rw [q2];exact h.a5n,by rw [q3,List.length_append];have:=h.a5k;simp;omega,by rw [List.length_append];have:=h.ngr;simp;omega,?_,(s5.le.trans s6.le).walk w2,?_,?_,fun v hv => ?_,fun i hi ht => ?_,fun g hg => ?_,?_,?_,?_⟩,?_,?_,rfl⟩
  · unfold a3w
    have ht:(Z2 ⟨0,150⟩&&decide (0≤c.G5)&&decide (c.G5≤7))=true:=by unfold Z2;simp;omega
    rw [if_neg (by rw [ht];decide),s1.eq,E9 rfl]
    dsimp only
    rw [s2.eq,E9 rfl]
  · unfold b1B
    dsimp only
    rw [s3.eq,E9 rfl]
    dsimp only
    rw [s4.eq,E9 rfl]
    exact e1
  · unfold a5l
    dsimp only
    rw [s5.eq,E9 rfl]
    unfold Q3
    rw [if_neg (by rw [hpo];decide),if_neg (show ¬(a2n s).Kind=7 from(by show ¬(6:Int)=7;decide)),if_neg (by simp)]
    dsimp only
    rw [s6.eq,E9 rfl]
    rfl
  · intro d hd
    rw [q3] at hd
    rcases List.mem_append.1 hd with h'|h'
    · exact h.cav d h'
    · obtain rfl:=List.mem_singleton.1 h';exact⟨hc,hcl⟩
  · rw [q4,←List.cons_append,List.getLastD_eq_getLast?,List.getLast?_append];rfl
  · rw [q3,List.length_append,List.length_append,h.a7X];rfl
  · rcases List.mem_append.1 hv with h'|h'
    · exact le16.looks (h.nodes v h')
    · obtain rfl:=List.mem_singleton.1 h';exact(s5.le.trans s6.le).looks nd2
  · by_cases e:i < P.l9.length
    · have e2:Q.l9[i]=P.l9[i]:=by simp only [q3];exact List.getElem_append_left e
      rw [e2] at ht ⊢
      rw [a7Y (by rw [h.a7X];omega)]
      exact(h.a81 i e ht).le le16 fun _ hg=>List.mem_append_left _ hg
    · have hi2:=hi
      rw [q3,List.length_append] at hi2
      obtain rfl:i=P.l9.length:=by simp at hi2;omega
      have e2:Q.l9[P.l9.length]=⟨true,default,c.G5,x,bx⟩:=by simp only [q3];rw [List.getElem_append_right (by omega)];simp
      rw [e2,a7Y (by rw [h.a7X];omega),hlast]
      exact⟨kt2,kt,⟨x,[a2n s],t⟩,List.mem_append_right _ (List.mem_singleton.2 a8),(s4.le.trans le36).look s3.look,le36.opens s4.opens,a8,hdis⟩
  · rcases List.mem_append.1 hg with h'|h'
    · exact(h.a4i g h').le le16 fun d hd=>by rw [q3];exact List.mem_append_left _ hd
    · obtain rfl:=List.mem_singleton.1 h'
      refine⟨by dsimp only;omega,fun q hq => ?_,(show 1≤8 by decide),⟨⟨true,default,c.G5,x,bx⟩,by rw [q3];exact List.mem_append_right _ (List.mem_singleton.2 rfl),rfl,rfl⟩,⟨kt,hdis,fun hf=>⟨_,s1.sym (le16.free▸hf)⟩⟩,⟨_,hmem,rfl,by dsimp only;omega⟩⟩
      obtain rfl:=List.mem_singleton.1 hq;exact⟨hpo,show(6:Int)≠7 by decide⟩
  · rw [List.map_append,List.nodup_append]
    refine⟨h.nodup,by simp,fun a ha b hb e => ?_⟩
    simp only [List.map_cons,List.map_nil,List.mem_singleton] at hb
    obtain⟨g,hg,rfl⟩:=List.mem_map.1 ha
    obtain⟨y,hy,hy1,hy2⟩:=(h.a4i g hg).box
    have:=s6.ok.b7Z (by omega) (le16.b9V hy) hmem (by rw [hy1,e,hb])
    have:=h.F9 y hy
    dsimp only at *
    omega
  · intro y hy;rw [hbx6] at hy;rw [hfr6];exact h3.F9 y hy
  · intro hf y hy;rw [hbx6] at hy;exact h3.a6v (le36.free▸hf) y hy
  · intro y hy
    rcases s6.X5 y hy with h'|⟨_,h'⟩
    · rcases s5.X5 y h' with h'|⟨_,h'⟩
      · exact hh2 y h'
      · exact⟨103,by rw [h'];rfl,by decide,by decide⟩
    · exact⟨99,by rw [h',a5o hpo];rfl,by decide,by decide⟩
  · exact le16.free
abbrev Ring:=C7
abbrev Epo:=u4
def a7Z (r:Ring) (n:Int):Option Epo:=r.Live.find? fun e=>decide (e.Number=n)
def c3G (l:List Bnd) (t:List UInt8):Option Bnd:=l.find? fun d=>decide (d.p7=t)
def a5p (b:Z7) (d:Bnd):Bool := !(b.l9.any fun c=>c.X4&&decide (c.p7=d.p7))
def a6w (b:Z7):Bool:=b.j3.any (a5p b)
structure c3H (a:D6) (b:Z7) (c:Cav) (t leaf:Tag):Prop where
 th:∃ key plain d u,u2 a t (a05 c.p7)=(key,true)∧K0 a key c.Box=(plain.l,0)∧c3G b.j3 c.p7=some d∧a6s a plain c.p7 d.j9=some u∧u2 a u (Z1 leaf b.Request)=(d.Proof,true)
theorem b5G {l:List UInt8} (h:l.length=32):(a02 (default:Tag) l).l=l:=by
 show l.take 32++(default:Tag).l.drop l.length=l
 rw [List.take_of_length_le (by omega),List.drop_of_length_le (by rw [K5.len];omega),List.append_nil]
theorem b0e (t:Tag):a02 (default:Tag) t.l=t:=K5.ext (b5G t.len)
structure c49 (a:D6) (k:Tag) (b:Z7) (T:List Tag):Prop where
 chk:M1 b=0
 walk:P3 (u2 a) k (I2 b.C2 b.l9)=some (k::T)
 a7X:T.length=b.l9.length+1
 nodes:∀ t∈T,(u2 a t F5).2=true
 proof:u2 a (T.getLastD default) (a2W b.Request)=(b.Proof,true)
 a81:∀ i (h:i < b.l9.length),b.l9[i].X4=true→c3H a b b.l9[i] (T.getD i default) (T.getLastD default)
 extra:a6w b=false
theorem b5H {b:Z7} (h:M1 b=0):a5O b:=by
 unfold M1 at h
 split at h
 ·next h1=>exact absurd h h1
 ·next h1=>exact a4d (by simpa using h1)
theorem a5q {a:D6}:∀ {l:List Tag} {s:List Tag},(∀ t∈l,(u2 a t F5).2=true)→∃ r,l.foldl (V9 a) (some s)=some (s++r)∧r.length=l.length
 | [],s,_=>⟨[],by simp,rfl⟩
 | t::l,s,h=>by
  rw [List.foldl_cons]
  have:V9 a (some s) t=some (s ++ [(u2 a t F5).1]):=by
   show(if (u2 a t F5).2 then some (s ++ [(u2 a t F5).1]) else none)=_
   rw [if_pos (h t (by simp))]
  rw [this]
  obtain⟨r,h1,h2⟩:=a5q (a:=a) (l:=l) (s:=s ++ [(u2 a t F5).1]) fun u hu=>h u (by simp [hu])
  exact⟨(u2 a t F5).1::r,by rw [h1,List.append_assoc];rfl,by simp [h2]⟩
theorem a71 {a:D6}:∀ {l:List Tag} {s r:List Tag},l.foldl (V9 a) (some s)=some r→∀ t∈l,(u2 a t F5).2=true
 | [],_,_,_=>fun t ht=>(by cases ht)
 | t::l,s,r,h=>by
  rw [List.foldl_cons] at h
  cases h2:(u2 a t F5).2 with
  | false =>
   have:V9 a (some s) t=none:=by
    show(if (u2 a t F5).2 then some (s ++ [(u2 a t F5).1]) else none)=_
    rw [h2];rfl
   rw [this,a7S] at h;cases h
  | true =>
   have:V9 a (some s) t=some (s ++ [(u2 a t F5).1]):=by
    show(if (u2 a t F5).2 then some (s ++ [(u2 a t F5).1]) else none)=_
    rw [h2];rfl
   rw [this] at h
   intro u hu
   rcases List.mem_cons.1 hu with rfl|hu
   ·exact h2
   ·exact a71 h u hu
theorem b5I {a:D6} {l:List Tag}:(a18 a l).2=0↔∀ t∈l,(u2 a t F5).2=true:=by
 unfold a18 Z9
 constructor
 ·intro h
  split at h
  ·next r hr=>exact a71 hr
  ·cases h
 ·intro h
  obtain⟨r,h1,_⟩:=a5q (s := []) h
  rw [h1]
theorem b3t {a:D6} {l:List Tag} (h:∀ t∈l,(u2 a t F5).2=true):(a18 a l).1.length=l.length:=by
 obtain⟨r,h1,h2⟩:=a5q (s := []) h
 unfold a18 Z9
 rw [h1];simpa using h2
theorem b8a {a:D6} {root:Epo} {n:Int} {l:List Cav} {T:List Tag} (h1:K6 root.Number n=true) (h2:l.all H6=true) (h:P3 (u2 a) root.Key (I2 n l)=some (root.Key::T)):a16 a root n l=(T,0):=by
 unfold a16;rw [if_neg (by rw [h1];decide),if_neg (by rw [h2];decide),h];rfl
theorem b4D {α:Type} [Inhabited α] {l:List α} {i:Nat} (h:i < l.length):l.getD i default=l[i]:=by
 rw [List.getD_eq_getElem?_getD,List.getElem?_eq_getElem h];rfl
theorem a7l {α:Type} (l:List α) (p:α→Bool):decide (0≤idx l p)=l.any p:=by
 rcases Bool.eq_false_or_eq_true (l.any p) with h|h
 ·rw [h]
  rw [List.any_eq_true] at h
  obtain⟨x,hx,hp⟩:=h
  have h2:=List.findIdx_lt_length_of_exists ⟨x,hx,hp⟩
  unfold idx;rw [if_pos h2];simp
 ·rw [h]
  rw [List.any_eq_false] at h
  rw [a10 fun j hj=>by simpa using h _ (List.getElem_mem hj)];rfl
theorem b3u (l:List Bnd) (p:Bnd→Bool):p6 gl prog 128 [.v l,.a6k prog p] (fun r=>r = .v (idx l p)):=by
 refine p6.jn func128 (by kernel_rfl) 19 rfl fun C hC hG => ?_
 refine .q 6 hG ?_
 refine .X3 0 a8 fun hl0 => ?_
 refine .q 6 hG ?_
 refine .E1 (α:=Nat) [(0,_),(1,_),(7,_)] (fun k R=>(8,.v (k:Int))::R) (fun k => []) (fun k=>k≤l.length∧∀ j (hj:j < l.length),j < k→p l[j]=false) (fun k=>l.length - k) (0) (.c2 a8 a8 (.cons a8 (.nil _))) ?_ (.c2 a8 a8 (.c2 a8 a8 (.nil _))) (a8) fun k hF => ?_
 ·simp
 obtain⟨h1,h2⟩:=hF
 refine .q 6 hG ⟨fun hc9 => ?_,fun hc9 => ?_⟩
 ·refine .q 13 hG ?_
  refine .ix (by first|omega|(simp;done)|(simp;omega)|(simp at *;omega)) (by first|omega|(simp;done)|(simp;omega)|(simp at *;omega)) ?_
  refine .q 1 hG ?_
  refine .p (.a2Q a8 (.t a8) ?_)
  refine .q 1 hG ?_
  refine .cond (.t a8) (fun hc16 => ?_) (fun hc16 => ?_)
  ·refine .q 6 hG ?_
   refine .e1 a8 a8 ?_
   rw [a6o (by omega) (by simpa using hc16) h2]
  ·refine .q 2 hG ?_
   refine .ad (by first|omega|(simp;done)|(simp;omega)|(simp at *;omega)) (by first|omega|(simp;done)|(simp;omega)|(simp at *;omega)) ?_
   refine .q 2 hG ?_
   refine⟨k+1,.c2 rfl rfl (.c2 rfl rfl (.nil _)),rfl,?_,by omega⟩
   refine⟨by omega,fun j hj hjk => ?_⟩;rcases Nat.lt_or_ge j k with h|h;exact h2 j hj h;(obtain rfl:j=k:=by omega);simpa using hc16
 ·refine .q 3 hG ?_
  refine .p (.assign (.i a8) ?_)
  refine .q 2 hG ?_
  refine .e1 a8 a8 ?_
  rw [a10 fun j hj=>h2 j hj (by omega)]
theorem a09 (l:List Bnd) (p:Bnd→Bool):p6 gl prog 94 [.v l,.a6k prog p] (fun r=>r = .v (l.any p)):=by
 refine p6.jn func94 (by kernel_rfl) 9 rfl fun C hC hG => ?_
 refine .q 8 hG ?_
 refine .p (.p8 hG (b3u _ _) (.cons (.t a8) (.cons (.t a8) .nil)) ?_)
 refine .q 4 hG ?_
 refine .e1 a8 a8 ?_
 rw [a7l]
theorem b1M (l:List Pred) (p:Pred→Bool):p6 gl prog 175 [.v l,.a6k prog p] (fun r=>r = .v (idx l p)):=by
 refine p6.jn func175 (by kernel_rfl) 19 rfl fun C hC hG => ?_
 refine .q 6 hG ?_
 refine .X3 0 a8 fun hl0 => ?_
 refine .q 6 hG ?_
 refine .E1 (α:=Nat) [(0,_),(1,_),(7,_)] (fun k R=>(8,.v (k:Int))::R) (fun k => []) (fun k=>k≤l.length∧∀ j (hj:j < l.length),j < k→p l[j]=false) (fun k=>l.length - k) (0) (.c2 a8 a8 (.cons a8 (.nil _))) ?_ (.c2 a8 a8 (.c2 a8 a8 (.nil _))) (a8) fun k hF => ?_
 ·simp
 obtain⟨h1,h2⟩:=hF
 refine .q 6 hG ⟨fun hc9 => ?_,fun hc9 => ?_⟩
 ·refine .q 13 hG ?_
  refine .ix (by first|omega|(simp;done)|(simp;omega)|(simp at *;omega)) (by first|omega|(simp;done)|(simp;omega)|(simp at *;omega)) ?_
  refine .q 1 hG ?_
  refine .p (.a2Q a8 (.t a8) ?_)
  refine .q 1 hG ?_
  refine .cond (.t a8) (fun hc16 => ?_) (fun hc16 => ?_)
  ·refine .q 6 hG ?_
   refine .e1 a8 a8 ?_
   rw [a6o (by omega) (by simpa using hc16) h2]
  ·refine .q 2 hG ?_
   refine .ad (by first|omega|(simp;done)|(simp;omega)|(simp at *;omega)) (by first|omega|(simp;done)|(simp;omega)|(simp at *;omega)) ?_
   refine .q 2 hG ?_
   refine⟨k+1,.c2 rfl rfl (.c2 rfl rfl (.nil _)),rfl,?_,by omega⟩
   refine⟨by omega,fun j hj hjk => ?_⟩;rcases Nat.lt_or_ge j k with h|h;exact h2 j hj h;(obtain rfl:j=k:=by omega);simpa using hc16
 ·refine .q 3 hG ?_
  refine .p (.assign (.i a8) ?_)
  refine .q 2 hG ?_
  refine .e1 a8 a8 ?_
  rw [a10 fun j hj=>h2 j hj (by omega)]
theorem a4j (l:List Pred) (p:Pred→Bool):p6 gl prog 146 [.v l,.a6k prog p] (fun r=>r = .v (l.any p)):=by
 refine p6.jn func146 (by kernel_rfl) 9 rfl fun C hC hG => ?_
 refine .q 8 hG ?_
 refine .p (.p8 hG (b1M _ _) (.cons (.t a8) (.cons (.t a8) .nil)) ?_)
 refine .q 4 hG ?_
 refine .e1 a8 a8 ?_
 rw [a7l]
theorem b3v (l:List Cav) (p:Cav→Bool):p6 gl prog 144 [.v l,.a6k prog p] (fun r=>r = .v (idx l p)):=by
 refine p6.jn func144 (by kernel_rfl) 19 rfl fun C hC hG => ?_
 refine .q 6 hG ?_
 refine .X3 0 a8 fun hl0 => ?_
 refine .q 6 hG ?_
 refine .E1 (α:=Nat) [(0,_),(1,_),(7,_)] (fun k R=>(8,.v (k:Int))::R) (fun k => []) (fun k=>k≤l.length∧∀ j (hj:j < l.length),j < k→p l[j]=false) (fun k=>l.length - k) (0) (.c2 a8 a8 (.cons a8 (.nil _))) ?_ (.c2 a8 a8 (.c2 a8 a8 (.nil _))) (a8) fun k hF => ?_
 ·simp
 obtain⟨h1,h2⟩:=hF
 refine .q 6 hG ⟨fun hc9 => ?_,fun hc9 => ?_⟩
 ·refine .q 13 hG ?_
  refine .ix (by first|omega|(simp;done)|(simp;omega)|(simp at *;omega)) (by first|omega|(simp;done)|(simp;omega)|(simp at *;omega)) ?_
  refine .q 1 hG ?_
  refine .p (.a2Q a8 (.t a8) ?_)
  refine .q 1 hG ?_
  refine .cond (.t a8) (fun hc16 => ?_) (fun hc16 => ?_)
  ·refine .q 6 hG ?_
   refine .e1 a8 a8 ?_
   rw [a6o (by omega) (by simpa using hc16) h2]
  ·refine .q 2 hG ?_
   refine .ad (by first|omega|(simp;done)|(simp;omega)|(simp at *;omega)) (by first|omega|(simp;done)|(simp;omega)|(simp at *;omega)) ?_
   refine .q 2 hG ?_
   refine⟨k+1,.c2 rfl rfl (.c2 rfl rfl (.nil _)),rfl,?_,by omega⟩
   refine⟨by omega,fun j hj hjk => ?_⟩;rcases Nat.lt_or_ge j k with h|h;exact h2 j hj h;(obtain rfl:j=k:=by omega);simpa using hc16
 ·refine .q 3 hG ?_
  refine .p (.assign (.i a8) ?_)
  refine .q 2 hG ?_
  refine .e1 a8 a8 ?_
  rw [a10 fun j hj=>h2 j hj (by omega)]
theorem a8v (l:List Cav) (p:Cav→Bool):p6 gl prog 91 [.v l,.a6k prog p] (fun r=>r = .v (l.any p)):=by
 refine p6.jn func91 (by kernel_rfl) 9 rfl fun C hC hG => ?_
 refine .q 8 hG ?_
 refine .p (.p8 hG (b3v _ _) (.cons (.t a8) (.cons (.t a8) .nil)) ?_)
 refine .q 4 hG ?_
 refine .e1 a8 a8 ?_
 rw [a7l]
theorem c0c (n:Nat):decide ((8:Int) < (n:Int))=decide (8 < n):=decide_eq_decide.2 (by omega)
theorem b8b (n:Nat):decide ((64:Int) < (n:Int))=decide (64 < n):=decide_eq_decide.2 (by omega)
theorem c1j (n:Nat):decide ((n:Int) < 1)=decide (n < 1):=decide_eq_decide.2 (by omega)
theorem b1N (n:Nat):decide ((1024:Int) < (n:Int))=decide (1024 < n):=decide_eq_decide.2 (by omega)
theorem c2s (d:Bnd):p6 gl prog 143 [.v d] (fun r=>r = .v (a08 d)):=by
 refine p6.jn func143 (by kernel_rfl) 7 rfl fun C hC hG => ?_
 refine .q 3 hG fun b1 => ?_
 refine .q 11 hG ?_
 refine .e1 a8 a8 ?_
 exact congrArg AV.v (c0c _)
theorem b8c (b:Z7) (hl:b.l9.length≤1000000):p6 gl prog 90 [.v b] (fun r=>r = .v (P6 b)):=by
 refine p6.jn func90 (by kernel_rfl) 31 rfl fun C hC hG => ?_
 refine .q 3 hG fun b1 => ?_
 refine .q 3 hG ?_
 refine .C1 hC .z (.O9 1 a8 .z ?_)
 have hfl:=V7 b.l9
 refine .draw (by kernel_rfl) 9 [[],[(4,0)],[(5,1)],[],[(7,3)],[(8,4)],[(9,5)],[(6,2),(10,6)],[(11,7)]] a8 (by kernel_rfl) a8 ?_
 refine⟨_,j5.y9 u9.l3 (fun x=>x.l9) a6b a8 (fun _=>a8) (.t a8) a8,?_⟩
 refine⟨_,j5.G8 a9T (.t a8) a8,?_⟩
 refine⟨_,j5.len underlying35 (.t a8) a8,?_⟩
 refine⟨_,j5.y9 u9.l3 (fun x=>x.l9) a6b a8 (fun _=>a8) (.t a8) a8,?_⟩
 refine⟨_,j5.G8 a9T (.t a8) a8,?_⟩
 refine⟨_,j5.p8 hG (a6T _ hl) (.cons (.t a8) .nil) a8,?_⟩
 refine⟨_,j5.len underlying61 (.t a8) a8,?_⟩
 refine⟨_,j5.sub (.t a8) (.t a8) (by first|omega|(simp;done)|(simp;omega)|(simp at *;omega)) (by first|omega|(simp;done)|(simp;omega)|(simp at *;omega)) a8,?_⟩
 refine⟨_,j5.assign (.t a8) a8,?_⟩
 show D1 _ _ _ _ _ [] ((3,_)::(11,_)::(10,_)::(9,_)::(8,_)::(7,_)::(6,_)::(5,_)::(4,_)::_) _
 refine .q 20 hG ?_
 refine .go 26 a8 (.t a8) (fun hg29 => .p8 hG (a09 _ _) (.cons (.q a8 hg29) (.cons (.a8R hG (fun x=>c2s x)) .nil)) a8) ?_
 refine .q 4 hG ?_
 refine .e1 a8 a8 ?_
 refine congrArg AV.v ?_
 unfold P6 a0q
 rw [b8b,c0c]
theorem c2t (p:Pred):p6 gl prog 147 [.v p] (fun r=>r = .v (!y8 p)):=by
 refine p6.jn func147 (by kernel_rfl) 6 rfl fun C hC hG => ?_
 refine .q 3 hG fun b1 => ?_
 refine .q 5 hG ?_
 refine .k hG (V6 _) ?_
 refine .q 4 hG ?_
 refine .e1 a8 a8 ?_
 rfl
theorem b1O (d:Bnd):p6 gl prog 95 [.v d] (fun r=>r = .v (a2D d)):=by
 refine p6.jn func95 (by kernel_rfl) 18 rfl fun C hC hG => ?_
 refine .q 3 hG fun b1 => ?_
 refine .q 17 hG ?_
 refine .go 13 a8 (.t a8) (fun hg16 => .p8 hG (a4j _ _) (.cons (.q a8 hg16) (.cons (.a8R hG (fun x=>c2t x)) .nil)) a8) ?_
 refine .q 4 hG ?_
 refine .e1 a8 a8 ?_
 refine congrArg AV.v ?_
 unfold a2D
 rw [c1j,b1N]
theorem b8d (p:Pred):p6 gl prog 148 [.v p] (fun r=>r = .v (decide (p.Kind=7))):=by
 refine p6.jn func148 (by kernel_rfl) 6 rfl fun C hC hG => ?_
 refine .q 3 hG fun b1 => ?_
 refine .q 10 hG ?_
 refine .e1 a8 a8 ?_
 rfl
theorem c0d (d:Bnd):p6 gl prog 96 [.v d] (fun r=>r = .v (a2X d)):=by
 refine p6.jn func96 (by kernel_rfl) 6 rfl fun C hC hG => ?_
 refine .q 3 hG fun b1 => ?_
 refine .q 6 hG ?_
 refine .p (.p8 hG (a4j _ _) (.cons (.t a8) (.cons (.a8R hG (fun x=>b8d x)) .nil)) ?_)
 refine .q 3 hG ?_
 refine .e1 a8 a8 ?_
 rfl
theorem b8e (x d:Bnd):p6 gl prog 149 [.v x,.p d] (fun r=>r = .v (decide (x.p7=d.p7))):=by
 refine p6.jn func149 (by kernel_rfl) 9 rfl fun C hC hG => ?_
 refine .q 3 hG fun b2 => ?_
 refine .q 8 hG ?_
 refine .p (.p8 hG (a3m _ _) (.cons (.t a8) (.cons (.t a8) .nil)) ?_)
 refine .q 3 hG ?_
 refine .e1 a8 a8 ?_
 rfl
theorem b0f {l:List Bnd} {k:Nat} (h:k≤l.length) (h2:R6 l k=true):a2E l=true:=by
 unfold a2E R6 at *
 rw [List.any_eq_true] at h2 ⊢
 obtain⟨i,hi,h3⟩:=h2
 exact⟨i,List.mem_range.2 (by have:=List.mem_range.1 hi;omega),h3⟩
theorem c0e (l:List Bnd):p6 gl prog 97 [.v l] (fun r=>r = .v (a2E l)):=by
 refine p6.jn func97 (by kernel_rfl) 18 rfl fun C hC hG => ?_
 refine .q 6 hG ?_
 refine .X3 0 a8 fun hl0 => ?_
 refine .q 6 hG ?_
 refine .E1 (α:=Nat) [(0,_),(5,_),(6,_)] (fun k R=>(7,.v (k:Int))::R) (fun k => []) (fun k=>k≤l.length∧R6 l k=false) (fun k=>l.length - k) (0) (.c2 a8 a8 (.cons a8 (.nil _))) ?_ (.c2 a8 a8 (.c2 a8 a8 (.nil _))) (a8) fun k hF => ?_
 ·exact⟨Nat.zero_le _,a8⟩
 obtain⟨h1,h2⟩:=hF
 refine .q 6 hG ⟨fun hc8 => ?_,fun hc8 => ?_⟩
 ·refine .q 6 hG ?_
  refine .ix (by first|omega|(simp;done)|(simp;omega)|(simp at *;omega)) (by first|omega|(simp;done)|(simp;omega)|(simp at *;omega)) ?_
  refine .q 2 hG fun b4 => ?_
  refine .q 4 hG ?_
  refine .C1 hC .z (.O9 4 a8 .z (.drop ?_))
  refine .q 3 hG ?_
  refine .p (.c3d a4D underlying43 (.t a8) (.t a8) (by first|omega|(simp;done)|(simp;omega)|(simp at *;omega)) (by first|omega|(simp;done)|(simp;omega)|(simp at *;omega)) (.p (.a9N hG (fun x=>b8e x _) (.cons (.t a8) .nil) (.p (.p8 hG (a09 _ _) (.cons (.t a8) (.cons (.t a8) .nil)) ?_)))))
  refine .q 1 hG ?_
  refine .cond (.t a8) (fun hc16 => ?_) (fun hc16 => ?_)
  ·refine .q 5 hG ?_
   refine .e1 a8 a8 ?_
   rw [b0f (k:=k+1) (by omega) (by rw [a3v l k (by omega)];exact Bool.or_eq_true_iff.2 (Or.inr hc16))]
  ·refine .q 2 hG ?_
   refine .ad (by first|omega|(simp;done)|(simp;omega)|(simp at *;omega)) (by first|omega|(simp;done)|(simp;omega)|(simp at *;omega)) ?_
   refine .q 2 hG ?_
   refine⟨k+1,.c2 rfl rfl (.c2 rfl rfl (.nil _)),rfl,?_,by omega⟩
   exact⟨by omega,by rw [a3v l k (by omega),h2];exact hc16⟩
 ·refine .q 6 hG ?_
  refine .e1 a8 a8 ?_
  obtain rfl:k=l.length:=by omega
  exact congrArg AV.v h2.symm
theorem b8f (c:Cav):p6 gl prog 92 [.v c] (fun r=>r = .v (!H6 c)):=by
 refine p6.jn func92 (by kernel_rfl) 6 rfl fun C hC hG => ?_
 refine .q 3 hG fun b1 => ?_
 refine .q 5 hG ?_
 refine .k hG (a7W _) ?_
 refine .q 4 hG ?_
 refine .e1 a8 a8 ?_
 rfl
theorem b1P {b:Z7} (h:(!U8 b.Request||decide (b.D4 < 1)||decide (1000 < b.D4)||decide (b.C2 < 1)||decide (1073741824 < b.C2))=true):O0 b=false:=by
 simp only [Bool.or_eq_true,Bool.not_eq_true',decide_eq_true_eq] at h
 unfold O0
 rcases h with (((h|h)|h)|h)|h
 ·rw [h];rfl
 all_goals (cases U8 b.Request<;>simp<;>omega)
theorem a0f {b:Z7} (h:(!U8 b.Request||decide (b.D4 < 1)||decide (1000 < b.D4)||decide (b.C2 < 1)||decide (1073741824 < b.C2))=false):O0 b=true:=by
 simp only [Bool.or_eq_false_iff,Bool.not_eq_false',decide_eq_false_iff_not] at h
 unfold O0
 rw [h.1.1.1.1];simp;omega
theorem c0f (b:Z7) (hl:b.l9.length≤1000000):p6 gl prog 53 [.v b] (fun r=>r = .v (E8 b)):=by
 refine p6.jn func53 (by kernel_rfl) 48 rfl fun C hC hG => ?_
 refine .q 3 hG fun b1 => ?_
 refine .q 5 hG ?_
 refine .C1 hC .z (.O9 1 a8 .z ?_)
 refine .q 3 hG ?_
 refine .k hG (b7Q _) ?_
 refine .q 23 hG ?_
 refine .cond (.t a8) (fun hc3 => ?_) (fun hc3 => ?_)
 ·refine .q 5 hG ?_
  refine .e1 a8 a8 ?_
  unfold E8
  rw [if_pos (b1P hc3)]
 ·refine .q 3 hG ?_
  refine .k hG (b8c _ hl) ?_
  refine .q 2 hG ?_
  refine .cond (.t a8) (fun hc28 => ?_) (fun hc28 => ?_)
  ·refine .q 5 hG ?_
   refine .e1 a8 a8 ?_
   unfold E8
   rw [if_neg (by rw [a0f hc3];decide),if_pos hc28]
  ·refine .q 4 hG ?_
   refine .p (.p8 hG (a8v _ _) (.cons (.t a8) (.cons (.a8R hG (fun x=>b8f x)) .nil)) ?_)
   refine .q 3 hG ?_
   refine .go 35 a8 (.t a8) (fun hg38 => .p8 hG (a09 _ _) (.cons (.q a8 hg38) (.cons (.a8R hG (fun x=>b1O x)) .nil)) a8) ?_
   refine .q 3 hG ?_
   refine .cond (.t a8) (fun hc31 => ?_) (fun hc31 => ?_)
   ·refine .q 5 hG ?_
    refine .e1 a8 a8 ?_
    unfold E8
    rw [if_neg (by rw [a0f hc3];decide),if_neg (by rw [hc28];decide),if_pos hc31]
   ·refine .q 4 hG ?_
    refine .p (.p8 hG (a09 _ _) (.cons (.t a8) (.cons (.a8R hG (fun x=>c0d x)) .nil)) ?_)
    refine .q 2 hG ?_
    refine .cond (.t a8) (fun hc40 => ?_) (fun hc40 => ?_)
    ·refine .q 5 hG ?_
     refine .e1 a8 a8 ?_
     unfold E8
     rw [if_neg (by rw [a0f hc3];decide),if_neg (by rw [hc28];decide),if_neg (by rw [hc31];decide),if_pos hc40]
    ·refine .q 4 hG ?_
     refine .k hG (c0e _) ?_
     refine .q 2 hG ?_
     refine .cond (.t a8) (fun hc44 => ?_) (fun hc44 => ?_)
     ·refine .q 5 hG ?_
      refine .e1 a8 a8 ?_
      unfold E8
      rw [if_neg (by rw [a0f hc3];decide),if_neg (by rw [hc28];decide),if_neg (by rw [hc31];decide),if_neg (by rw [hc40];decide),if_pos hc44]
     ·refine .q 6 hG ?_
      refine .e1 a8 a8 ?_
      unfold E8
      rw [if_neg (by rw [a0f hc3];decide),if_neg (by rw [hc28];decide),if_neg (by rw [hc31];decide),if_neg (by rw [hc40];decide),if_neg (by rw [hc44];decide)]
theorem a6x (b:List UInt8) (l:List Int) (hb:b.length≤600000) (hl:0 < l.length) (hl2:l.length≤1000) (h:∀ n∈l,0≤n∧n≤281474976710656):G0 gl prog 98 [.v b,.v l] [] (fun r Hs=>∃ u,r = .raw u∧Hs = [.own 5 u (b++numsL l)]):=by
 refine G0.R1 func98 rfl (by kernel_rfl) 21 rfl rfl _ rfl _ rfl fun C hC hG => ?_
 refine .q 6 hG ?_
 refine .name 0 a8 fun w0=>(.H5 5 .z ?_)
 refine .q 6 hG ?_
 refine .E1 (α:=Nat×Value×List UInt8×Bool) [(7,_),(8,_)] (fun x R=>(0,.raw x.2.1)::(9,.v (x.1:Int))::R) (fun x => [(true,.usr x.2.1 (OF.mk 5 x.2.2.1 x.2.2.2))]) (fun x=>x.1≤l.length∧x.2.2.1=b++numsL (l.take x.1)∧(0 < x.1→x.2.2.2=true)) (fun x=>l.length - x.1) ((0,w0,b,false)) (.c2 a8 a8 (.nil _)) ?_ (.c2 a8 a8 (.c2 a8 a8 (.nil _))) (a8) fun x hF => ?_
 ·exact⟨Nat.zero_le _,by simp [numsL],by simp⟩
 obtain⟨k,w,c,o⟩:=x
 obtain⟨h1,h2,h3⟩:=hF
 dsimp only at h1 h2 h3 ⊢
 have hlen9:=a0T (l.take k) (fun n hn=>h n (List.mem_of_mem_take hn))
 have hc9:c.length≤607000:=(by rw [h2,List.length_append];have:(l.take k).length≤l.length:=(by simp;omega);omega)
 refine .q 6 hG ⟨fun hc10 => ?_,fun hc10 => ?_⟩
 ·refine .q 5 hG ?_
  refine .ix (by first|omega|(simp;done)|(simp;omega)|(simp at *;omega)) (by first|omega|(simp;done)|(simp;omega)|(simp at *;omega)) ?_
  refine .q 3 hG ?_
  refine .c1g hC .z (.as 0 a8 .z (.drop ?_))
  refine .q 3 hG ?_
  refine .k0 hG (a0R _ _ (by first|omega|(simp;done)|(simp;omega)|(simp at *;omega)) (h _ (List.getElem_mem _)).1 (h _ (List.getElem_mem _)).2) fun r16 Hs16 hr16 => ?_
  obtain⟨u16,rfl,rfl⟩:=hr16
  show D1 _ _ _ _ _ _ _ ((true,_)::_)
  refine .q 5 hG ?_
  refine .c1e .z ?_
  refine .q 1 hG ?_
  refine .ad (by first|omega|(simp;done)|(simp;omega)|(simp at *;omega)) (by first|omega|(simp;done)|(simp;omega)|(simp at *;omega)) ?_
  refine .q 2 hG ?_
  refine⟨(k+1,u16,_,true),.c2 rfl rfl (.c2 rfl rfl (.nil _)),rfl,?_,by dsimp only;omega⟩
  exact⟨by dsimp only;omega,by dsimp only;rw [a5h l k (by omega),←List.append_assoc,←h2];rfl,fun _=>rfl⟩
 ·refine .q 2 hG ?_
  refine .c1f (h3 (by omega)) .z ?_
  refine .q 5 hG ?_
  refine .e1 a8 a8 ?_
  refine⟨_,.cons .z (.nil),?_⟩
  exact⟨_,rfl,by rw [h2,List.take_of_length_le (by omega)]⟩
theorem b3w (u:Value) (b:List UInt8) (l:List Pred) (hb:b.length≤600000) (hl:l.length≤8) (h:∀ p∈l,y8 p=true):G0 gl prog 101 [.raw u,.v l] [.own 5 u b] (fun r Hs=>∃ w,r = .raw w∧Hs = [.own 5 w (b++Q1 u3 l)]):=by
 refine G0.R1 func101 rfl (by kernel_rfl) 25 rfl rfl _ rfl _ rfl fun C hC hG => ?_
 refine .q 12 hG ?_
 refine .E1 (α:=Nat×Value) [(9,_),(10,_)] (fun x R=>(0,.raw x.2)::(11,.v (x.1:Int))::R) (fun x => [(false,.own 5 x.2 (b++Q1 u3 (l.take x.1)))]) (fun x=>x.1≤l.length) (fun x=>l.length - x.1) ((0,u)) (.c2 a8 a8 (.nil _)) ?_ (.c2 a8 a8 (.c2 a8 a8 (.nil _))) (congrArg (fun q => [(false,D8.own _ _ q)]) (by simp [Q1])) fun x hF => ?_
 ·simp
 obtain⟨k,w⟩:=x
 dsimp only at hF ⊢
 have hcl:=a1H u3 l 24 k (fun p hp=>G9 (L5 (h p hp)))
 refine .q 6 hG ⟨fun hc12 => ?_,fun hc12 => ?_⟩
 ·refine .q 5 hG ?_
  refine .ix (by first|omega|(simp;done)|(simp;omega)|(simp at *;omega)) (by first|omega|(simp;done)|(simp;omega)|(simp at *;omega)) ?_
  refine .q 2 hG fun b6 => ?_
  refine .q 3 hG ?_
  refine .C1 hC .z (.O9 6 a8 .z (.drop ?_))
  refine .q 2 hG ?_
  refine .k hG (a8T _) ?_
  refine .q 6 hG ?_
  have hpo:=h l[k] (List.getElem_mem _)
  have hpl:=a4g l[k]
  refine .q 3 hG ?_
  refine .h (.b4x O2 (.inl ⟨_,underlying64⟩) a8 .z (.v (.t a8)) (by first|omega|(simp;done)|(simp;omega)|(simp at *;omega)) (by first|omega|(simp;done)|(simp;omega)|(simp at *;omega)) fun w22 => ?_)
  refine .q 3 hG ?_
  refine .ad (by first|omega|(simp;done)|(simp;omega)|(simp at *;omega)) (by first|omega|(simp;done)|(simp;omega)|(simp at *;omega)) ?_
  refine .q 2 hG ?_
  refine⟨(k+1,_),.c2 rfl rfl (.c2 rfl rfl (.nil _)),congrArg (fun q => [(false,D8.own _ _ q)]) (by show b++Q1 u3 (l.take k)++(U6 l[k]).1=b++Q1 u3 (l.take (k+1));rw [a0U u3 l k (by omega),x8 hpo];simp),?_,by dsimp only;omega⟩
  omega
 ·refine .q 7 hG ?_
  refine .e1 a8 a8 ?_
  refine⟨_,.cons .z (.nil),?_⟩
  exact⟨_,rfl,by rw [List.take_of_length_le (by omega)]⟩
theorem b5J (u:Value) (b:List UInt8) (l:List Cav) (hb:b.length≤600000) (hl:l.length≤64) (h:∀ c∈l,H6 c=true):G0 gl prog 99 [.raw u,.v l] [.own 5 u b] (fun r Hs=>∃ w,r = .raw w∧Hs = [.own 5 w (b++Q1 E0 l)]):=by
 refine G0.R1 func99 rfl (by kernel_rfl) 25 rfl rfl _ rfl _ rfl fun C hC hG => ?_
 refine .q 12 hG ?_
 refine .E1 (α:=Nat×Value) [(9,_),(10,_)] (fun x R=>(0,.raw x.2)::(11,.v (x.1:Int))::R) (fun x => [(false,.own 5 x.2 (b++Q1 E0 (l.take x.1)))]) (fun x=>x.1≤l.length) (fun x=>l.length - x.1) ((0,u)) (.c2 a8 a8 (.nil _)) ?_ (.c2 a8 a8 (.c2 a8 a8 (.nil _))) (congrArg (fun q => [(false,D8.own _ _ q)]) (by simp [Q1])) fun x hF => ?_
 ·simp
 obtain⟨k,w⟩:=x
 dsimp only at hF ⊢
 have hcl:=a1H E0 l 2100 k (fun p hp=>a1A (h p hp))
 refine .q 6 hG ⟨fun hc12 => ?_,fun hc12 => ?_⟩
 ·refine .q 5 hG ?_
  refine .ix (by first|omega|(simp;done)|(simp;omega)|(simp at *;omega)) (by first|omega|(simp;done)|(simp;omega)|(simp at *;omega)) ?_
  refine .q 2 hG fun b6 => ?_
  refine .q 3 hG ?_
  refine .C1 hC .z (.O9 6 a8 .z (.drop ?_))
  refine .q 2 hG ?_
  refine .k hG (b1D _) ?_
  refine .q 6 hG ?_
  have hco:=h l[k] (List.getElem_mem _)
  have hcl2:=a3x l[k]
  refine .q 3 hG ?_
  refine .h (.b4x O2 (.inl ⟨_,underlying64⟩) a8 .z (.v (.t a8)) (by first|omega|(simp;done)|(simp;omega)|(simp at *;omega)) (by first|omega|(simp;done)|(simp;omega)|(simp at *;omega)) fun w22 => ?_)
  refine .q 3 hG ?_
  refine .ad (by first|omega|(simp;done)|(simp;omega)|(simp at *;omega)) (by first|omega|(simp;done)|(simp;omega)|(simp at *;omega)) ?_
  refine .q 2 hG ?_
  refine⟨(k+1,_),.c2 rfl rfl (.c2 rfl rfl (.nil _)),congrArg (fun q => [(false,D8.own _ _ q)]) (by show b++Q1 E0 (l.take k)++(S8 l[k]).1=b++Q1 E0 (l.take (k+1));rw [a0U E0 l k (by omega),a0W hco];simp),?_,by dsimp only;omega⟩
  omega
 ·refine .q 7 hG ?_
  refine .e1 a8 a8 ?_
  refine⟨_,.cons .z (.nil),?_⟩
  exact⟨_,rfl,by rw [List.take_of_length_le (by omega)]⟩
def a2p (b:Z7):List UInt8:=numsL [1,b.Request.Gate,b.Request.E7,b.D4,b.C2,b.l9.length]++Q1 E0 b.l9++b.Proof.l
structure c2u (b:Z7):Prop where
 nums:∀ n ∈ [1,b.Request.Gate,b.Request.E7,b.D4,b.C2,(b.l9.length:Int)],0≤n∧n≤281474976710656
 l0:(numsL [1,b.Request.Gate,b.Request.E7,b.D4,b.C2,b.l9.length]).length≤42
 l1:(Q1 E0 b.l9).length≤134400
 l2:(a2p b).length≤134474
theorem b8g {b:Z7} (h:a5O b):c2u b:=by
 have h1:=h.rq
 have h2:=h.num
 have h3:=h.a5k
 have hn:∀ n ∈ [1,b.Request.Gate,b.Request.E7,b.D4,b.C2,(b.l9.length:Int)],0≤n∧n≤281474976710656:=by simp;omega
 have l0:=a0T _ hn
 have l1:=a1l E0 b.l9 2100 fun c hc=>a1A (h.cav c hc)
 have l1':(Q1 E0 b.l9).length≤134400:=by omega
 exact⟨hn,l0,l1',by unfold a2p;rw [List.length_append,List.length_append,K5.len];simp only [List.length_cons,List.length_nil] at l0;omega⟩
structure c3I (d:Bnd):Prop where
 a6t:d.j9.length≤8
 tick:1≤d.p7.length∧d.p7.length≤1024
 con:∀ p∈d.j9,y8 p=true
 len:(J7 d).length≤1400
 lf:(Z8 d.p7).length≤1031
 ln:(I4 d.j9.length).length≤7
 lt:(I4 d.p7.length).length≤7
theorem b4E {b:Z7} (h:a5O b) {d:Bnd} (hd:d∈b.j3):c3I d :=
 ⟨h.a6t d hd,h.tick d hd,h.con d hd,a98 (h.a6t d hd) (h.tick d hd).2 (h.con d hd),a0V (h.tick d hd).2,B1 (by have:=h.a6t d hd;omega),B1 (by have:=h.tick d hd;omega)⟩
theorem b5K (b:Z7) (h:a5O b):p6 gl prog 54 [.v b] (fun r=>r = .v (a0v b)):=by
 have hh:=b8g h
 have hnd:=h.c2l
 refine p6.jn func54 (by kernel_rfl) 63 rfl fun C hC hG => ?_
 refine .q 3 hG fun b1 => ?_
 refine .q 3 hG ?_
 refine .C1 hC .z (.O9 1 a8 .z ?_)
 refine .q 14 hG ?_
 refine .bs a8 (by decide) fun b19=>(.y0 hC .z (.as 19 a8 .z (.h (.a7D hG (a6x _ _ (by decide) (by simp) (by simp) hh.nums) (.cons .b5k (.cons (.t a8) .nil)) fun r20 Hs20 hr20 => ?_))))
 obtain⟨u20,rfl,rfl⟩:=hr20
 show D1 _ _ _ _ _ _ _ ((true,_)::_)
 refine .q 3 hG ?_
 have hq0:=hh.l0
 have hq1:=hh.l1
 refine .F3 [c9,j0,j0] (by kernel_rfl) 8 [[],[],[(22,1)],[(21,0),(23,2)],[],[(25,4)],[(24,3),(26,5)],[(27,6)]] [3,6,7] a8 (by kernel_rfl) a8 (by kernel_rfl) (by decide) ?_
 refine⟨_,fun H=>j5.move (.t a8) a8,?_⟩
 refine⟨_,fun H=>j5.y9 u9.l3 (fun x=>x.l9) a6b a8 (fun _=>a8) (.t a8) a8,?_⟩
 refine⟨_,fun H=>j5.G8 a9T (.t a8) a8,?_⟩
 refine .inl ?_
 refine⟨_,fun H=>j5.y9 u9.l4 (fun x=>x.Proof) a9v a8 (fun _=>a8) (.t a8) a8,?_⟩
 refine⟨_,fun H=>j5.V3 (by decide) V2 (.t a8) a8,?_⟩
 refine .inl (.inl ?_)
 refine⟨⟨([],j1 [_,c8,c8]),a8⟩,?_⟩
 refine B3.a4I hG (b5J _ _ _ (by simp;have:=hh.l0;simp at *;omega) h.a5k h.cav) .z (.cons (.t rfl) (.cons (.t rfl) .nil)) (by rintro _ _ ⟨_,_,rfl⟩;exact⟨_,rfl⟩) fun r24 B24 hr24 => ?_
 obtain⟨u24,rfl,hB⟩:=hr24
 cases hB
 refine⟨⟨([],j1 [_,c8,c8]),a8⟩,?_⟩
 refine B3.append O2 (.inl ⟨_,underlying64⟩) rfl .z (.v (.t rfl)) (by first|omega|(simp;done)|(simp;omega)|(simp at *;omega)) (by first|omega|(simp;done)|(simp;omega)|(simp at *;omega)) (fun w27 => ?_) rfl
 refine⟨⟨([],j1 [_,c8,c8]),a8⟩,?_⟩
 refine B3.ofP (j5.assign (.t rfl) ?_)
 refine⟨⟨([],j1 [_,c8,c8]),a8⟩,?_⟩
 show D1 _ _ _ _ _ [] ((3,_)::(27,_)::(26,_)::(25,_)::(24,_)::(23,_)::(22,_)::(21,_)::_) _
 refine .q 2 hG ?_
 refine .y0 hC .z (.as 3 a8 .z ?_)
 refine .q 5 hG ?_
 refine .bs a8 (by decide) fun b32=>(.y0 hC .z (.as 32 a8 .z ?_))
 refine .k0 hG (a6x _ _ (by first|omega|(simp;done)|(simp;omega)|(simp at *;omega)) (by simp) (by simp) (by simp;omega)) fun r33 Hs33 hr33 => ?_
 obtain⟨u33,rfl,rfl⟩:=hr33
 show D1 _ _ _ _ _ _ _ ((true,_)::_)
 refine .q 4 hG ?_
 refine .del (.s .z) (.del (.s .z) (.del (.s .z) (.del (.s .z) ?_)))
 refine .q 7 hG ?_
 refine .E1 (α:=Nat×Value) [(35,_),(36,_)] (fun x R=>(3,.raw x.2)::(37,.v (x.1:Int))::R) (fun x => [(true,.own 5 x.2 (a2p b++I4 b.j3.length++Q1 J7 (b.j3.take x.1)))]) (fun x=>x.1≤b.j3.length) (fun x=>b.j3.length - x.1) ((0,u33)) (.c2 a8 a8 (.nil _)) ?_ (.c2 a8 a8 (.c2 a8 a8 (.nil _))) (congrArg (fun q => [(true,D8.own _ _ q)]) (by simp [a2p,numsL,Q1])) fun x hF => ?_
 ·simp
 obtain⟨k,w⟩:=x
 dsimp only at hF ⊢
 have hcl:=a1H J7 b.j3 1400 k (fun d hd=>(b4E h hd).len)
 refine .q 6 hG ⟨fun hc38 => ?_,fun hc38 => ?_⟩
 ·refine .q 5 hG ?_
  refine .ix (by first|omega|(simp;done)|(simp;omega)|(simp at *;omega)) (by first|omega|(simp;done)|(simp;omega)|(simp at *;omega)) ?_
  refine .q 2 hG fun b5 => ?_
  refine .q 3 hG ?_
  have hdd:=b4E h (List.getElem_mem (show k < b.j3.length by omega))
  have hh2:=hh.l2
  have q1:=hdd.a6t
  have q2:=hdd.tick
  have q3:=hdd.lt
  have q4:=hdd.ln
  have q6:(numsL [(b.j3[k].j9.length:Int)]).length≤7:=a0T [_] (by simp;omega)
  have q5:=a1l u3 b.j3[k].j9 24 (fun p hp=>G9 (L5 (hdd.con p hp)))
  have hnl:=B1 (n:=b.j3.length) (by omega)
  refine .C1 hC .z (.O9 5 a8 .z (.y0 hC .z1 (.as 3 a8 .z1 (.del .z (.del .z ?_)))))
  refine .q 4 hG ?_
  refine .k0 hG (a8Q _ _ (by first|omega|(simp;done)|(simp;omega)|(simp at *;omega)) hdd.tick.2) fun r45 Hs45 hr45 => ?_
  obtain⟨u45,rfl,rfl⟩:=hr45
  show D1 _ _ _ _ _ _ _ ((true,_)::_)
  refine .q 6 hG ?_
  refine .y0 hC .z (.as 3 a8 .z (.del .z (.a7H (by kernel_rfl) 10 [[],[],[(49,1)],[(50,2)],[(51,3)],[(48,0),(52,4)],[],[(54,6)],[(53,5),(55,7)],[(56,8)]] [4,5,8,9] a8 (by kernel_rfl) a8 (by kernel_rfl) (by decide) ?_)))
  refine⟨_,fun H=>j5.move (.t a8) a8,?_⟩
  refine⟨_,fun H=>j5.y9 x6.l1 (fun x=>x.j9) a9x a8 (fun _=>a8) (.t a8) a8,?_⟩
  refine⟨_,fun H=>j5.G8 b1c (.t a8) a8,?_⟩
  refine⟨_,fun H=>j5.len underlying61 (.t a8) a8,?_⟩
  refine .inl (.inl ?_)
  refine⟨_,fun H=>j5.y9 x6.l1 (fun x=>x.j9) a9x a8 (fun _=>a8) (.t a8) a8,?_⟩
  refine⟨_,fun H=>j5.G8 b1c (.t a8) a8,?_⟩
  refine .inl (.inl ?_)
  refine B3.buildSlice (α:=Int) I6 underlying22 (.cons (.t rfl) .nil) rfl (by decide) fun b52 => ?_
  refine B3.y0 hC .z (B3.as 52 rfl .z (B3.a7D hG (a6x _ _ (by first|omega|(simp;done)|(simp;omega)|(simp at *;omega)) (by simp) (by simp) (by simp;omega)) (.cons (.t rfl) (.cons (.t rfl) .nil)) fun r53 Hs53 hr53 => ?_))
  obtain⟨u53,rfl,rfl⟩:=hr53
  refine B3.a4I hG (b3w _ _ _ (by first|omega|(simp;done)|(simp;omega)|(simp at *;omega)) hdd.a6t hdd.con) .z (.cons (.t rfl) (.cons (.t rfl) .nil)) (by rintro _ _ ⟨_,_,rfl⟩;exact⟨_,rfl⟩) fun r56 B56 hr56 => ?_
  obtain⟨u56,rfl,hB⟩:=hr56
  cases hB
  refine B3.ofP (j5.assign (.t rfl) ?_)
  show D1 _ _ _ _ _ [] ((3,_)::(56,_)::(55,_)::(54,_)::(53,_)::(52,_)::(51,_)::(50,_)::(49,_)::(48,_)::_) _
  refine .q 1 hG ?_
  refine .del (.s .z) ?_
  refine .q 3 hG ?_
  refine .p (.V3 (by decide) V2 (.t a8) ?_)
  refine .ap (by first|omega|(simp;done)|(simp;omega)|(simp at *;omega)) (by first|omega|(simp;done)|(simp;omega)|(simp at *;omega)) fun w60 => ?_
  refine .q 3 hG ?_
  refine .ad (by first|omega|(simp;done)|(simp;omega)|(simp at *;omega)) (by first|omega|(simp;done)|(simp;omega)|(simp at *;omega)) ?_
  refine .q 2 hG ?_
  refine⟨(k+1,_),.c2 rfl rfl (.c2 rfl rfl (.nil _)),congrArg (fun q => [(true,D8.own _ _ q)]) (by show _=a2p b++I4 b.j3.length++Q1 J7 (b.j3.take (k+1));rw [a0U J7 b.j3 k (by omega)];simp [J7,Z8,numsL]),?_,by dsimp only;omega⟩
  omega
 ·refine .q 2 hG ?_
  refine .y0 hC .z (.as 3 a8 .z ?_)
  refine .q 5 hG ?_
  refine .e1 a8 a8 ?_
  refine congrArg AV.v ?_
  rw [List.take_of_length_le (by omega)];unfold a0v a2p;simp
theorem W9 {b:Z7} (h:E8 b≠0):M1 b=E8 b:=by unfold M1;rw [if_pos h]
theorem a6X {b:Z7} (h:E8 b=0) (h2:4096 < (a0v b).length):M1 b=2:=by unfold M1;rw [if_neg (by simpa using h),if_pos h2]
theorem a6Y {b:Z7} (h:E8 b=0) (h2:¬4096 < (a0v b).length):M1 b=0:=by unfold M1;rw [if_neg (by simpa using h),if_neg h2]
theorem b4F (b:Z7) (hl:b.l9.length≤1000000):p6 gl prog 28 [.v b] (fun r=>r = .v (M1 b)):=by
 refine p6.jn func28 (by kernel_rfl) 13 rfl fun C hC hG => ?_
 refine .q 3 hG fun b1 => ?_
 refine .q 4 hG ?_
 refine .C1 hC .z (.O9 1 a8 .z ?_)
 refine .q 2 hG ?_
 refine .k hG (c0f _ hl) ?_
 refine .q 8 hG ⟨fun hc7 => ?_,fun hc7 => ?_⟩
 ·refine .q 6 hG ?_
  refine .e1 a8 a8 ?_
  rw [W9 hc7]
 ·refine .q 3 hG ?_
  have h0:E8 b=0:=Decidable.not_not.1 hc7
  refine .q 2 hG ?_
  refine .k hG (b5K _ (a4d h0)) ?_
  refine .q 4 hG ⟨fun hc12 => ?_,fun hc12 => ?_⟩
  ·refine .q 5 hG ?_
   refine .e1 a8 a8 ?_
   rw [a6X h0 (by omega)]
  ·refine .q 6 hG ?_
   refine .e1 a8 a8 ?_
   rw [a6Y h0 (by omega)]
theorem b8h (l:List Int) : [1]++numsL l=numsL (1::l):=by
 show [1]++numsL l=(I4 1::l.map fun n=>I4 n.toNat).flatten
 rw [List.flatten_cons,a1y (by decide)];rfl
theorem b8i (b:Z7) (h:a5O b):p6 gl prog 114 [.v b] (fun r=>r = .v (a0v b)):=by
 have hh:=b8g h
 have hnd:=h.c2l
 have hnc:=h.a5k
 have hq0:=hh.l0
 have hq1:=hh.l1
 have hh2:=hh.l2
 have hnl:=B1 (n:=b.j3.length) (by omega)
 have hb5:∀ n ∈ [b.Request.Gate,b.Request.E7,b.D4,b.C2,(b.l9.length:Int)],0≤n∧n≤281474976710656:=fun n hn=>hh.nums n (List.mem_cons_of_mem _ hn)
 have hl5 : [b.Request.Gate,b.Request.E7,b.D4,b.C2,(b.l9.length:Int)].length=5:=rfl
 refine p6.jn func114 (by kernel_rfl) 116 rfl fun C hC hG => ?_
 refine .q 3 hG fun b1 => ?_
 refine .q 3 hG ?_
 refine .C1 hC .z (.O9 1 a8 .z ?_)
 refine .q 1 hG ?_
 refine .bs a8 (by decide) fun b14 => ?_
 refine .q 17 hG ?_
 refine .bs a8 (by decide) fun b28 => ?_
 refine .q 4 hG ?_
 refine .y0 hC .z (.as 4 a8 .z (.del .z (.del (.s .z) ?_)))
 refine .q 4 hG ?_
 refine .E1 (α:=Nat×Value) [(1,_),(4,_)] (fun x R=>(3,.raw x.2)::(5,.v (x.1:Int))::R) (fun x => [(true,.own 5 x.2 ([1]++numsL ([b.Request.Gate,b.Request.E7,b.D4,b.C2,(b.l9.length:Int)].take x.1)))]) (fun x=>x.1≤5) (fun x=>5 - x.1) ((0,slc b14 0 1 1)) (.c2 a8 a8 (.nil _)) ?_ (.c2 a8 a8 (.c2 a8 a8 (.nil _))) (congrArg (fun q => [(true,D8.own _ _ q)]) (by simp [numsL])) fun x hF => ?_
 ·simp
 obtain⟨k,w⟩:=x
 dsimp only at hF ⊢
 have hcl:=a0T ([b.Request.Gate,b.Request.E7,b.D4,b.C2,(b.l9.length:Int)].take k) (fun n hn=>hb5 n (List.mem_of_mem_take hn))
 have hcl2:([b.Request.Gate,b.Request.E7,b.D4,b.C2,(b.l9.length:Int)].take k).length≤5:=(by simp;omega)
 refine .q 9 hG ⟨fun hc32 => ?_,fun hc32 => ?_⟩
 ·refine .q 3 hG ?_
  have hn7:=B1 (n:=([b.Request.Gate,b.Request.E7,b.D4,b.C2,(b.l9.length:Int)][k]).toNat) (by have:=hb5 _ (List.getElem_mem (show k < [b.Request.Gate,b.Request.E7,b.D4,b.C2,(b.l9.length:Int)].length by simp;omega));omega)
  refine .q 4 hG ?_
  refine .ix (by first|omega|(simp;done)|(simp;omega)|(simp at *;omega)) (by first|omega|(simp;done)|(simp;omega)|(simp at *;omega)) ?_
  refine .q 1 hG ?_
  refine .k hG (E6 _ (hb5 _ (List.getElem_mem _)).1 (hb5 _ (List.getElem_mem _)).2) ?_
  refine .ap (by first|omega|(simp;done)|(simp;omega)|(simp at *;omega)) (by first|omega|(simp;done)|(simp;omega)|(simp at *;omega)) fun w41 => ?_
  refine .q 4 hG ?_
  refine .ad (by first|omega|(simp;done)|(simp;omega)|(simp at *;omega)) (by first|omega|(simp;done)|(simp;omega)|(simp at *;omega)) ?_
  refine .q 2 hG ?_
  refine⟨(k+1,_),.c2 rfl rfl (.c2 rfl rfl (.nil _)),congrArg (fun q => [(true,D8.own _ _ q)]) (by show _ = [1]++numsL ([b.Request.Gate,b.Request.E7,b.D4,b.C2,(b.l9.length:Int)].take (k+1));rw [a5h [b.Request.Gate,b.Request.E7,b.D4,b.C2,(b.l9.length:Int)] k (by simp;omega),←List.append_assoc];rfl),?_,by dsimp only;omega⟩
  dsimp only;omega
 ·refine .q 3 hG ?_
  obtain rfl:k=5:=by simp only [List.length_cons,List.length_nil] at hc32;omega
  refine .q 4 hG ?_
  refine .E1 (α:=Nat×Value) [(1,_)] (fun x R=>(3,.raw x.2)::(6,.v (x.1:Int))::R) (fun x => [(true,.own 5 x.2 (numsL (1 :: [b.Request.Gate,b.Request.E7,b.D4,b.C2,(b.l9.length:Int)])++Q1 E0 (b.l9.take x.1)))]) (fun x=>x.1≤b.l9.length) (fun x=>b.l9.length - x.1) ((0,w)) (.cons rfl (.nil _)) ?_ (.c2 rfl rfl (.cons rfl (.nil _))) (congrArg (fun q => [(true,D8.own _ _ q)]) (by show [1]++numsL ([b.Request.Gate,b.Request.E7,b.D4,b.C2,(b.l9.length:Int)].take 5)=numsL (1 :: [b.Request.Gate,b.Request.E7,b.D4,b.C2,(b.l9.length:Int)])++Q1 E0 (b.l9.take 0);rw [b8h];simp [Q1])) fun x hF => ?_
  ·simp
  obtain⟨k1,w1⟩:=x
  dsimp only at hF ⊢
  have hcl:=a1H E0 b.l9 2100 k1 (fun c hc=>a1A (h.cav c hc))
  refine .q 10 hG ⟨fun hc46 => ?_,fun hc46 => ?_⟩
  ·refine .q 4 hG ?_
   have hpl2:=a3x b.l9[k1]
   have hco:=h.cav _ (List.getElem_mem (show k1 < b.l9.length by omega))
   refine .q 4 hG ?_
   refine .ix (by first|omega|(simp;done)|(simp;omega)|(simp at *;omega)) (by first|omega|(simp;done)|(simp;omega)|(simp at *;omega)) ?_
   refine .q 1 hG ?_
   refine .k hG (a8W _) ?_
   refine .q 9 hG ?_
   refine .ap (by first|omega|(simp;done)|(simp;omega)|(simp at *;omega)) (by first|omega|(simp;done)|(simp;omega)|(simp at *;omega)) fun w60 => ?_
   refine .q 4 hG ?_
   refine .ad (by first|omega|(simp;done)|(simp;omega)|(simp at *;omega)) (by first|omega|(simp;done)|(simp;omega)|(simp at *;omega)) ?_
   refine .q 2 hG ?_
   refine⟨(k1+1,_),.c2 rfl rfl (.cons rfl (.nil _)),congrArg (fun q => [(true,D8.own _ _ q)]) (by show _++(S8 b.l9[k1]).1=numsL (1 :: [b.Request.Gate,b.Request.E7,b.D4,b.C2,(b.l9.length:Int)])++Q1 E0 (b.l9.take (k1+1));rw [a0U E0 b.l9 k1 (by omega),a0W hco];simp),?_,by dsimp only;omega⟩
   omega
  ·refine .q 2 hG ?_
   obtain rfl:k1=b.l9.length:=by omega
   refine .F3 [c9] (by kernel_rfl) 10 [[],[],[(62,1)],[(61,0),(63,2)],[],[(65,4)],[(66,5)],[(67,6)],[(64,3),(68,7)],[(69,8)]] [0,3,8,9] a8 (by kernel_rfl) a8 (by kernel_rfl) (by decide) (.inl ?_)
   refine⟨_,fun H=>j5.y9 u9.l4 (fun x=>x.Proof) a9v a8 (fun _=>a8) (.t a8) a8,?_⟩
   refine⟨_,fun H=>j5.V3 (by decide) V2 (.t a8) a8,?_⟩
   refine .inl ?_
   refine⟨_,fun H=>j5.y9 u9.l5 (fun x=>x.j3) a6c a8 (fun _=>a8) (.t a8) a8,?_⟩
   refine⟨_,fun H=>j5.G8 c16 (.t a8) a8,?_⟩
   refine⟨_,fun H=>j5.len underlying43 (.t a8) a8,?_⟩
   refine⟨_,fun H=>j5.p8 hG (E6 _ (by first|omega|(simp;done)|(simp;omega)|(simp at *;omega)) (by first|omega|(simp;done)|(simp;omega)|(simp at *;omega))) (.cons (.t a8) .nil) a8,?_⟩
   refine .inl (.inl ?_)
   refine⟨⟨([],j1 [_]),a8⟩,?_⟩
   refine B3.ofP (j5.move (.t rfl) ?_)
   refine⟨⟨([],j1 [_]),a8⟩,?_⟩
   refine B3.append O2 (.inl ⟨_,underlying64⟩) rfl .z (.v (.t rfl)) (by first|omega|(simp;done)|(simp;omega)|(simp at *;omega)) (by first|omega|(simp;done)|(simp;omega)|(simp at *;omega)) (fun w64 => ?_) rfl
   refine⟨⟨([],j1 [_]),a8⟩,?_⟩
   refine B3.append O2 (.inl ⟨_,underlying64⟩) rfl .z (.v (.t rfl)) (by first|omega|(simp;done)|(simp;omega)|(simp at *;omega)) (by first|omega|(simp;done)|(simp;omega)|(simp at *;omega)) (fun w69 => ?_) rfl
   refine⟨⟨([],j1 [_]),a8⟩,?_⟩
   refine B3.ofP (j5.assign (.t rfl) ?_)
   refine⟨⟨([],j1 [_]),a8⟩,?_⟩
   show D1 _ _ _ _ _ [] ((3,_)::(69,_)::(68,_)::(67,_)::(66,_)::(65,_)::(64,_)::(63,_)::(62,_)::(61,_)::_) _
   refine .q 7 hG ?_
   refine .E1 (α:=Nat×Value) [(1,_)] (fun x R=>(3,.raw x.2)::(9,.v (x.1:Int))::R) (fun x => [(true,.own 5 x.2 (a2p b++I4 b.j3.length++Q1 J7 (b.j3.take x.1)))]) (fun x=>x.1≤b.j3.length) (fun x=>b.j3.length - x.1) ((0,_)) (.cons rfl (.nil _)) ?_ (.c2 rfl rfl (.cons rfl (.nil _))) (congrArg (fun q => [(true,D8.own _ _ q)]) (by show _=a2p b++I4 b.j3.length++Q1 J7 (b.j3.take 0);unfold a2p;simp [Q1])) fun x hF => ?_
   ·simp
   obtain⟨k2,w2⟩:=x
   dsimp only at hF ⊢
   have hcl:=a1H J7 b.j3 1400 k2 (fun d hd=>(b4E h hd).len)
   refine .q 10 hG ⟨fun hc74 => ?_,fun hc74 => ?_⟩
   ·refine .q 8 hG ?_
    refine .ix (by first|omega|(simp;done)|(simp;omega)|(simp at *;omega)) (by first|omega|(simp;done)|(simp;omega)|(simp at *;omega)) ?_
    refine .q 2 hG fun b10 => ?_
    refine .q 3 hG ?_
    have hdd:=b4E h (List.getElem_mem (show k2 < b.j3.length by omega))
    have q1:=hdd.a6t
    have q2:=hdd.tick
    have q3:=hdd.lt
    have q4:=hdd.ln
    refine .C1 hC .z (.O9 10 a8 .z (.del .z (.F3 [c9] (by kernel_rfl) 11 [[],[],[(83,1)],[(84,2)],[(82,0),(85,3)],[],[(87,5)],[(88,6)],[(89,7)],[(86,4),(90,8)],[(91,9)]] [0,4,9,10] a8 (by kernel_rfl) a8 (by kernel_rfl) (by decide) (.inl ?_))))
    refine⟨_,fun H=>j5.y9 x6.l0 (fun x=>x.p7) a9w a8 (fun _=>a8) (.t a8) a8,?_⟩
    refine⟨_,fun H=>j5.G8 a3J (.t a8) a8,?_⟩
    refine⟨_,fun H=>j5.p8 hG (a0o _ (by first|omega|(simp;done)|(simp;omega)|(simp at *;omega))) (.cons (.t a8) .nil) a8,?_⟩
    refine .inl ?_
    refine⟨_,fun H=>j5.y9 x6.l1 (fun x=>x.j9) a9x a8 (fun _=>a8) (.t a8) a8,?_⟩
    refine⟨_,fun H=>j5.G8 b1c (.t a8) a8,?_⟩
    refine⟨_,fun H=>j5.len underlying61 (.t a8) a8,?_⟩
    refine⟨_,fun H=>j5.p8 hG (E6 _ (by first|omega|(simp;done)|(simp;omega)|(simp at *;omega)) (by first|omega|(simp;done)|(simp;omega)|(simp at *;omega))) (.cons (.t a8) .nil) a8,?_⟩
    refine .inl (.inl ?_)
    refine⟨⟨([],j1 [_]),a8⟩,?_⟩
    refine B3.ofP (j5.move (.t rfl) ?_)
    refine⟨⟨([],j1 [_]),a8⟩,?_⟩
    refine B3.append O2 (.inl ⟨_,underlying64⟩) rfl .z (.v (.t rfl)) (by first|omega|(simp;done)|(simp;omega)|(simp at *;omega)) (by first|omega|(simp;done)|(simp;omega)|(simp at *;omega)) (fun w86 => ?_) rfl
    refine⟨⟨([],j1 [_]),a8⟩,?_⟩
    refine B3.append O2 (.inl ⟨_,underlying64⟩) rfl .z (.v (.t rfl)) (by first|omega|(simp;done)|(simp;omega)|(simp at *;omega)) (by first|omega|(simp;done)|(simp;omega)|(simp at *;omega)) (fun w91 => ?_) rfl
    refine⟨⟨([],j1 [_]),a8⟩,?_⟩
    refine B3.ofP (j5.assign (.t rfl) ?_)
    refine⟨⟨([],j1 [_]),a8⟩,?_⟩
    show D1 _ _ _ _ _ [] ((3,_)::(91,_)::(90,_)::(89,_)::(88,_)::(87,_)::(86,_)::(85,_)::(84,_)::(83,_)::(82,_)::_) _
    refine .q 7 hG ?_
    refine .E1 (α:=Nat×Value) [(1,_),(9,_),(10,_)] (fun x R=>(3,.raw x.2)::(11,.v (x.1:Int))::R) (fun x => [(true,.own 5 x.2 (a2p b++I4 b.j3.length++Q1 J7 (b.j3.take k2)++(I4 b.j3[k2].p7.length++b.j3[k2].p7)++I4 b.j3[k2].j9.length++Q1 u3 (b.j3[k2].j9.take x.1)))]) (fun x=>x.1≤b.j3[k2].j9.length) (fun x=>b.j3[k2].j9.length - x.1) ((0,_)) (.c2 rfl rfl (.cons rfl (.nil _))) ?_ (.c2 rfl rfl (.c2 rfl rfl (.cons rfl (.nil _)))) (congrArg (fun q => [(true,D8.own _ _ q)]) (by show _=a2p b++I4 b.j3.length++Q1 J7 (b.j3.take k2)++(I4 b.j3[k2].p7.length++b.j3[k2].p7)++I4 b.j3[k2].j9.length++Q1 u3 (b.j3[k2].j9.take 0);simp [Q1])) fun x hF => ?_
    ·simp
    obtain⟨k3,w3⟩:=x
    dsimp only at hF ⊢
    have hcl3:=a1H u3 b.j3[k2].j9 24 k3 (fun p hp=>G9 (L5 (hdd.con p hp)))
    refine .q 10 hG ⟨fun hc96 => ?_,fun hc96 => ?_⟩
    ·refine .q 4 hG ?_
     have hx3:(k3:Int) < (b.j3[k2].j9.length:Int):=hc96
     have hpo:=hdd.con _ (List.getElem_mem (show k3 < b.j3[k2].j9.length by omega))
     have hpl3:=a4g b.j3[k2].j9[k3]
     refine .q 4 hG ?_
     refine .ix (by first|omega|(simp;done)|(simp;omega)|(simp at *;omega)) (by first|omega|(simp;done)|(simp;omega)|(simp at *;omega)) ?_
     refine .q 1 hG ?_
     refine .k hG (a5i _) ?_
     refine .q 9 hG ?_
     refine .ap (by first|omega|(simp;done)|(simp;omega)|(simp at *;omega)) (by first|omega|(simp;done)|(simp;omega)|(simp at *;omega)) fun w110 => ?_
     refine .q 4 hG ?_
     refine .ad (by first|omega|(simp;done)|(simp;omega)|(simp at *;omega)) (by first|omega|(simp;done)|(simp;omega)|(simp at *;omega)) ?_
     refine .q 2 hG ?_
     refine⟨(k3+1,_),.c2 rfl rfl (.c2 rfl rfl (.cons rfl (.nil _))),congrArg (fun q => [(true,D8.own _ _ q)]) (by show _++(U6 b.j3[k2].j9[k3]).1=a2p b++I4 b.j3.length++Q1 J7 (b.j3.take k2)++(I4 b.j3[k2].p7.length++b.j3[k2].p7)++I4 b.j3[k2].j9.length++Q1 u3 (b.j3[k2].j9.take (k3+1));rw [a0U u3 b.j3[k2].j9 k3 (by omega),x8 hpo];simp),?_,by dsimp only;omega⟩
     omega
    ·refine .q 1 hG ?_
     have hx3:¬((k3:Int) < (b.j3[k2].j9.length:Int)):=hc96
     rw [List.take_of_length_le (show b.j3[k2].j9.length≤k3 by omega)]
     have q5:=a1l u3 b.j3[k2].j9 24 (fun p hp=>G9 (L5 (hdd.con p hp)))
     refine .q 3 hG ?_
     refine .p (.V3 (by decide) V2 (.t a8) ?_)
     refine .ap (by first|omega|(simp;done)|(simp;omega)|(simp at *;omega)) (by first|omega|(simp;done)|(simp;omega)|(simp at *;omega)) fun w114 => ?_
     refine .q 4 hG ?_
     refine .ad (by first|omega|(simp;done)|(simp;omega)|(simp at *;omega)) (by first|omega|(simp;done)|(simp;omega)|(simp at *;omega)) ?_
     refine .q 2 hG ?_
     refine⟨(k2+1,_),.c2 rfl rfl (.cons rfl (.nil _)),congrArg (fun q => [(true,D8.own _ _ q)]) (by show _=a2p b++I4 b.j3.length++Q1 J7 (b.j3.take (k2+1));rw [a0U J7 b.j3 k2 (by omega)];simp [J7,Z8]),?_,by dsimp only;omega⟩
     omega
   ·refine .q 2 hG ?_
    refine .y0 hC .z (.as 3 a8 .z ?_)
    refine .q 5 hG ?_
    refine .e1 a8 a8 ?_
    refine congrArg AV.v ?_
    rw [List.take_of_length_le (by omega)];unfold a0v a2p;simp
theorem any_succ {α:Type} (p:α→Bool) (l:List α) (k:Nat) (h:k < l.length):(l.take (k+1)).any p=((l.take k).any p||p l[k]):=by
 rw [List.take_succ_eq_append_getElem h,List.any_append];simp
def Y0 (b:Z7) (i:Nat):Bool:=(!b.l9.all H6)||(b.j3.take i).any a2D
def S9 (b:Z7) (i:Nat):Bool:=(b.j3.take i).any a2X
def a3y (p:Pred):Bool := !y8 p
def a2Z (p:Pred):Bool:=decide (p.Kind=7)
theorem b1Q (b:Z7) (i:Nat) (h:i < b.j3.length):Y0 b (i+1)=(Y0 b i||decide ((b.j3[i].p7.length:Int) < 1)||decide ((1024:Int) < (b.j3[i].p7.length:Int))||b.j3[i].j9.any a3y):=by
 unfold Y0;rw [any_succ _ _ _ h,c1j,b1N];unfold a2D a3y;simp only [Bool.or_assoc]
theorem b0g (b:Z7) (i:Nat) (h:i < b.j3.length):S9 b (i+1)=(S9 b i||b.j3[i].j9.any a2Z):=by
 unfold S9;rw [any_succ _ _ _ h];rfl
theorem c0g {b:Z7} (h1:(decide ((64:Int) < (b.l9.length:Int))||decide (8 < a0q b.l9)||decide ((8:Int) < (b.j3.length:Int)))=false) (h2:b.j3.any a08=false):P6 b=false:=by
 rw [b8b,c0c] at h1;unfold P6;rw [h1,h2];rfl
theorem c2v {b:Z7} (h1:(decide ((64:Int) < (b.l9.length:Int))||decide (8 < a0q b.l9)||decide ((8:Int) < (b.j3.length:Int)))=true):P6 b=true:=by
 rw [b8b,c0c] at h1;unfold P6;rw [h1];rfl
theorem c2w {b:Z7} {i:Nat} (h:i < b.j3.length) (h2:(8:Int) < (b.j3[i].j9.length:Int)):P6 b=true:=by
 have:b.j3.any a08=true:=List.any_eq_true.2 ⟨_,List.getElem_mem h,by unfold a08;rw [decide_eq_true_eq];omega⟩
 unfold P6;rw [this,Bool.or_true]
theorem a5Q (b:Z7):Y0 b b.j3.length=((b.l9.any fun c => !H6 c)||b.j3.any a2D):=by
 unfold Y0;rw [List.take_length];congr 1
 induction b.l9 with
 | nil=>rfl
 | cons c l ih=>rw [List.all_cons,List.any_cons,Bool.not_and,ih]
theorem c0h {b:Z7} (h:O0 b=false):M1 b=1:=by
 have:E8 b=1:=by unfold E8;rw [if_pos h]
 rw [W9 (by rw [this];decide),this]
theorem b4G {b:Z7} (h:O0 b=true) (h2:P6 b=true):M1 b=2:=by
 have:E8 b=2:=by unfold E8;rw [if_neg (by rw [h];decide),if_pos h2]
 rw [W9 (by rw [this];decide),this]
theorem c0i {b:Z7} (h:O0 b=true) (h2:P6 b=false) (h3:Y0 b b.j3.length=true):M1 b=5:=by
 rw [a5Q] at h3
 have:E8 b=5:=by unfold E8;rw [if_neg (by rw [h];decide),if_neg (by rw [h2];decide),if_pos h3]
 rw [W9 (by rw [this];decide),this]
theorem c0j {b:Z7} (h:O0 b=true) (h2:P6 b=false) (h3:Y0 b b.j3.length=false) (h4:S9 b b.j3.length=true):M1 b=6:=by
 rw [a5Q] at h3;unfold S9 at h4;rw [List.take_length] at h4
 have:E8 b=6:=by unfold E8;rw [if_neg (by rw [h];decide),if_neg (by rw [h2];decide),if_neg (by rw [h3];decide),if_pos h4]
 rw [W9 (by rw [this];decide),this]
theorem b8j {b:Z7} (h:O0 b=true) (h2:P6 b=false) (h3:Y0 b b.j3.length=false) (h4:S9 b b.j3.length=false) (h5:R6 b.j3 b.j3.length=true):M1 b=10:=by
 rw [a5Q] at h3;unfold S9 at h4;rw [List.take_length] at h4
 have:E8 b=10:=by unfold E8;rw [if_neg (by rw [h];decide),if_neg (by rw [h2];decide),if_neg (by rw [h3];decide),if_neg (by rw [h4];decide),if_pos (show a2E b.j3=true from h5)]
 rw [W9 (by rw [this];decide),this]
theorem c0k {b:Z7} (h:O0 b=true) (h2:P6 b=false) (h3:Y0 b b.j3.length=false) (h4:S9 b b.j3.length=false) (h5:R6 b.j3 b.j3.length=false):E8 b=0:=by
 rw [a5Q] at h3;unfold S9 at h4;rw [List.take_length] at h4
 unfold E8;rw [if_neg (by rw [h];decide),if_neg (by rw [h2];decide),if_neg (by rw [h3];decide),if_neg (by rw [h4];decide),if_neg (by unfold a2E;rw [h5];decide)]
theorem b8k (b:Z7) (hl:b.l9.length≤1000000):p6 gl prog 58 [.v b] (fun r=>r = .v (M1 b)):=by
 refine p6.jn func58 (by kernel_rfl) 138 rfl fun C hC hG => ?_
 refine .q 3 hG fun b1 => ?_
 refine .q 4 hG ?_
 refine .C1 hC .z (.O9 1 a8 .z (.del .z ?_))
 refine .q 3 hG ?_
 refine .k hG (b4A _) ?_
 refine .q 22 hG ?_
 refine .cond (.t a8) (fun hc33 => ?_) (fun hc33 => ?_)
 ·refine .q 5 hG ?_
  refine .e1 a8 a8 ?_
  rw [c0h (b1P hc33)]
 ·refine .q 11 hG ?_
  refine .kg hG (a8V _ hl) ?_
  refine .q 9 hG ?_
  refine .cond (.t a8) (fun hc49 => ?_) (fun hc49 => ?_)
  ·refine .q 5 hG ?_
   refine .e1 a8 a8 ?_
   rw [b4G (a0f hc33) (c2v hc49)]
  ·refine .q 2 hG ?_
   have hD:b.j3.length≤8:=by simp only [Bool.or_eq_false_iff,decide_eq_false_iff_not] at hc49;omega
   refine .q 3 hG ?_
   refine .k hG (b1C _) ?_
   refine .q 11 hG ?_
   refine .E1 (α:=Nat) [(1,_)] (fun i R=>(3,.v (Y0 b i))::(4,.v (S9 b i))::(5,.v (R6 b.j3 i))::(6,.v (i:Int))::R) (Function.const _ _) (fun i=>i≤b.j3.length∧(b.j3.take i).any a08=false) (fun i=>b.j3.length - i) (0) (.cons a8 (.nil _)) ?_ (.cons (congrArg (fun q=>some (AV.v q)) (by unfold Y0;simp)) (.c2 a8 a8 (.c2 a8 a8 (.nil _)))) (a8) fun i hF => ?_
   ·exact⟨Nat.zero_le _,a8⟩
   obtain⟨h1,h2⟩:=hF
   refine .q 10 hG ⟨fun hc58 => ?_,fun hc58 => ?_⟩
   ·refine .q 8 hG ?_
    refine .ix (by first|omega|(simp;done)|(simp;omega)|(simp at *;omega)) (by first|omega|(simp;done)|(simp;omega)|(simp at *;omega)) ?_
    refine .q 2 hG fun b7 => ?_
    refine .q 4 hG ?_
    refine .C1 hC .z (.O9 7 a8 .z (.del .z ?_))
    have hi:i < b.j3.length:=by omega
    refine .q 7 hG ⟨fun hc69 => ?_,fun hc69 => ?_⟩
    ·refine .q 5 hG ?_
     refine .e1 a8 a8 ?_
     rw [b4G (a0f hc33) (c2w hi hc69)]
    ·refine .q 20 hG ?_
     have hcl:b.j3[i].j9.length≤8:=by(have hx:¬((8:Int) < (b.j3[i].j9.length:Int)):=hc69;omega)
     refine .q 4 hG ?_
     refine .E1 (α:=Nat) [(1,_),(5,_),(6,_),(7,_)] (fun y R=>(3,.v (Y0 b i||decide ((b.j3[i].p7.length:Int) < 1)||decide ((1024:Int) < (b.j3[i].p7.length:Int))||(b.j3[i].j9.take y).any a3y))::(4,.v (S9 b i||(b.j3[i].j9.take y).any a2Z))::(8,.v (y:Int))::R) (Function.const _ _) (fun y=>y≤b.j3[i].j9.length) (fun y=>b.j3[i].j9.length - y) (0) (.c2 a8 a8 (.c2 a8 a8 (.nil _))) ?_ (.cons (congrArg (fun q=>some (AV.v q)) (Bool.or_false _).symm) (.cons (congrArg (fun q=>some (AV.v q)) (Bool.or_false _).symm) (.c2 a8 a8 (.c2 a8 a8 (.cons a8 (.nil _)))))) (a8) fun y hF => ?_
     ·simp
     refine .q 10 hG ⟨fun hc87 => ?_,fun hc87 => ?_⟩
     ·refine .q 4 hG ?_
      have hy2:y < b.j3[i].j9.length:=by(have hx:(y:Int) < (b.j3[i].j9.length:Int):=hc87;omega)
      refine .q 6 hG ?_
      refine .go 91 a8 (.t a8) (fun hg95 => .idx R3 underlying61 (.q a8 hg95) (.q a8 hg95) (by first|omega|(simp;done)|(simp;omega)|(have:=hg95;simp at this;omega)) (by first|omega|(simp;done)|(simp;omega)|(have:=hg95;simp at this;omega)) a8) ?_
      refine .q 1 hG ?_
      refine .kg hG (a1z _) ?_
      refine .q 10 hG ?_
      refine .go 101 a8 (.t a8) (fun hg105 => .idx R3 underlying61 (.q a8 hg105) (.q a8 hg105) (by first|omega|(simp;done)|(simp;omega)|(have:=hg105;simp at this;omega)) (by first|omega|(simp;done)|(simp;omega)|(have:=hg105;simp at this;omega)) a8) ?_
      refine .q 6 hG ?_
      have hf1:(Y0 b i||decide ((b.j3[i].p7.length:Int) < 1)||decide ((1024:Int) < (b.j3[i].p7.length:Int))||(b.j3[i].j9.take y).any a3y || !y8 b.j3[i].j9[y])=(Y0 b i||decide ((b.j3[i].p7.length:Int) < 1)||decide ((1024:Int) < (b.j3[i].p7.length:Int))||(b.j3[i].j9.take (y+1)).any a3y):=(by rw [any_succ a3y b.j3[i].j9 y hy2,←Bool.or_assoc];rfl)
      have hf2:(S9 b i||(b.j3[i].j9.take y).any a2Z||decide (b.j3[i].j9[y].Kind=7))=(S9 b i||(b.j3[i].j9.take (y+1)).any a2Z):=(by rw [any_succ a2Z b.j3[i].j9 y hy2,←Bool.or_assoc];rfl)
      refine .q 2 hG ?_
      refine .ad (by first|omega|(simp;done)|(simp;omega)|(simp at *;omega)) (by first|omega|(simp;done)|(simp;omega)|(simp at *;omega)) ?_
      refine .q 2 hG ?_
      refine⟨y+1,.cons (congrArg (fun q=>some (AV.v q)) hf1) (.cons (congrArg (fun q=>some (AV.v q)) hf2) (.c2 rfl rfl (.c2 rfl rfl (.cons rfl (.nil _))))),rfl,?_,by omega⟩
      omega
     ·refine .q 2 hG ?_
      have hy:b.j3[i].j9.length≤y:=by(have hx:¬((y:Int) < (b.j3[i].j9.length:Int)):=hc87;omega)
      refine .q 4 hG ?_
      refine .E1 (α:=Nat) [(1,_),(3,_),(4,_),(6,_),(7,_)] (fun z R=>(5,.v (R6 b.j3 i||(b.j3.take z).any fun d=>decide (d.p7=b.j3[i].p7)))::(9,.v (z:Int))::R) (Function.const _ _) (fun z=>z≤i) (fun z=>i - z) (0) (.c2 a8 a8 (.c2 a8 a8 (.cons a8 (.nil _)))) ?_ (.cons (congrArg (fun q=>some (AV.v q)) (Bool.or_false _).symm) (.c2 a8 a8 (.c2 a8 a8 (.c2 a8 a8 (.nil _))))) (a8) fun z hF => ?_
      ·simp
      refine .q 8 hG ⟨fun hc112 => ?_,fun hc112 => ?_⟩
      ·refine .q 3 hG ?_
       have hz2:z < b.j3.length:=by omega
       refine .draw (by kernel_rfl) 13 [[],[(115,0)],[],[(117,2)],[],[(119,4)],[],[(120,5),(121,6)],[(122,7)],[(123,8)],[(118,3),(124,9)],[(116,1),(125,10)],[(126,11)]] a8 (by kernel_rfl) a8 ?_
       refine⟨_,j5.move (.t a8) a8,?_⟩
       refine⟨_,j5.move (.t a8) a8,?_⟩
       refine⟨_,⟨_,_,a8,a8,fun hg117=>j5.y9 x6.l0 (fun x=>x.p7) a9w a8 (fun _=>a8) (.t a8) a8⟩,?_⟩
       refine⟨_,⟨_,_,a8,a8,fun hg118=>j5.G8 a3J (.q a8 hg118) a8⟩,?_⟩
       refine⟨_,⟨_,_,a8,a8,fun hg119=>j5.y9 u9.l5 (fun x=>x.j3) a6c a8 (fun _=>a8) (.t a8) a8⟩,?_⟩
       refine⟨_,⟨_,_,a8,a8,fun hg120=>j5.G8 c16 (.q a8 hg120) a8⟩,?_⟩
       refine⟨_,⟨_,_,a8,a8,fun hg121=>j5.move (.t a8) a8⟩,?_⟩
       refine⟨_,⟨_,_,a8,a8,fun hg122=>j5.idx a4D underlying43 (.q a8 hg122) (.q a8 hg122) (by first|omega|(simp;done)|(simp;omega)|(have:=hg122;simp at this;omega)) (by first|omega|(simp;done)|(simp;omega)|(have:=hg122;simp at this;omega)) a8⟩,?_⟩
       refine⟨_,⟨_,_,a8,a8,fun hg123=>j5.y9 x6.l0 (fun x=>x.p7) a9w a8 (fun _=>a8) (.q a8 hg123) a8⟩,?_⟩
       refine⟨_,⟨_,_,a8,a8,fun hg124=>j5.G8 a3J (.q a8 hg124) a8⟩,?_⟩
       refine⟨_,⟨_,_,a8,a8,fun hg125=>j5.p8 hG (a7M _ _) (.cons (.q a8 hg125) (.cons (.q a8 hg125) .nil)) a8⟩,?_⟩
       refine⟨_,j5.a1r (.t a8) (fun hp=>(.q a8 hp)) a8,?_⟩
       refine⟨_,j5.assign (.t a8) a8,?_⟩
       show D1 _ _ _ _ _ [] ((5,_)::(126,_)::(125,_)::(124,_)::(123,_)::(122,_)::(121,_)::(120,_)::(119,_)::(118,_)::(117,_)::(116,_)::(115,_)::_) _
       refine .q 1 hG ?_
       have hf3:(R6 b.j3 i||((b.j3.take z).any fun d=>decide (d.p7=b.j3[i].p7))||decide (b.j3[i].p7=b.j3[z].p7))=(R6 b.j3 i||(b.j3.take (z+1)).any fun d=>decide (d.p7=b.j3[i].p7)):=(by rw [any_succ _ b.j3 z hz2,←Bool.or_assoc,decide_eq_decide.2 (show b.j3[i].p7=b.j3[z].p7↔b.j3[z].p7=b.j3[i].p7 from eq_comm)])
       refine .q 2 hG ?_
       refine .ad (by first|omega|(simp;done)|(simp;omega)|(simp at *;omega)) (by first|omega|(simp;done)|(simp;omega)|(simp at *;omega)) ?_
       refine .q 2 hG ?_
       refine⟨z+1,.cons (congrArg (fun q=>some (AV.v q)) hf3) (.c2 rfl rfl (.c2 rfl rfl (.c2 rfl rfl (.nil _)))),rfl,?_,by omega⟩
       omega
      ·refine .q 1 hG ?_
       have he1:(Y0 b i||decide ((b.j3[i].p7.length:Int) < 1)||decide ((1024:Int) < (b.j3[i].p7.length:Int))||(b.j3[i].j9.take y).any a3y)=Y0 b (i+1):=(by rw [b1Q b i hi,List.take_of_length_le hy])
       have he2:(S9 b i||(b.j3[i].j9.take y).any a2Z)=S9 b (i+1):=(by rw [b0g b i hi,List.take_of_length_le hy])
       have hz:z=i:=by omega
       have he3:(R6 b.j3 i||(b.j3.take z).any fun d=>decide (d.p7=b.j3[i].p7))=R6 b.j3 (i+1):=(by rw [hz,a3v b.j3 i hi])
       refine .q 2 hG ?_
       refine .ad (by first|omega|(simp;done)|(simp;omega)|(simp at *;omega)) (by first|omega|(simp;done)|(simp;omega)|(simp at *;omega)) ?_
       refine .q 2 hG ?_
       refine⟨i+1,.cons (congrArg (fun q=>some (AV.v q)) he1) (.cons (congrArg (fun q=>some (AV.v q)) he2) (.cons (congrArg (fun q=>some (AV.v q)) he3) (.c2 rfl rfl (.nil _)))),rfl,?_,by omega⟩
       exact⟨by omega,by rw [any_succ a08 _ i hi,h2];unfold a08;rw [decide_eq_false (by omega)];rfl⟩
   ·refine .q 4 hG ?_
    obtain rfl:i=b.j3.length:=by omega
    rw [List.take_length] at h2
    have hm:=c0g hc49 h2
    have hr:=a0f hc33
    refine .q 4 hG ?_
    refine .cond (.t a8) (fun hc127 => ?_) (fun hc127 => ?_)
    ·refine .q 5 hG ?_
     refine .e1 a8 a8 ?_
     rw [c0i hr hm hc127]
    ·refine .q 5 hG ?_
     refine .cond (.t a8) (fun hc129 => ?_) (fun hc129 => ?_)
     ·refine .q 5 hG ?_
      refine .e1 a8 a8 ?_
      rw [c0j hr hm hc127 hc129]
     ·refine .q 5 hG ?_
      refine .cond (.t a8) (fun hc131 => ?_) (fun hc131 => ?_)
      ·refine .q 5 hG ?_
       refine .e1 a8 a8 ?_
       rw [b8j hr hm hc127 hc129 hc131]
      ·refine .q 1 hG ?_
       have h0:=c0k hr hm hc127 hc129 hc131
       refine .q 2 hG ?_
       refine .k hG (b8i _ (a4d h0)) ?_
       refine .q 4 hG ?_
       refine .cond (.t a8) (fun hc133 => ?_) (fun hc133 => ?_)
       ·refine .q 5 hG ?_
        refine .e1 a8 a8 ?_
        rw [a6X h0 (by simp only [decide_eq_true_eq] at hc133;omega)]
       ·refine .q 6 hG ?_
        refine .e1 a8 a8 ?_
        rw [a6Y h0 (by simp only [decide_eq_false_iff_not] at hc133;omega)]
theorem b3x (l:List Epo) (p:Epo→Bool):p6 gl prog 62 [.v l,.a6k prog p] (fun r=>r = .v (idx l p)):=by
 refine p6.jn func62 (by kernel_rfl) 19 rfl fun C hC hG => ?_
 refine .q 6 hG ?_
 refine .X3 0 a8 fun hl0 => ?_
 refine .q 6 hG ?_
 refine .E1 (α:=Nat) [(0,_),(1,_),(7,_)] (fun k R=>(8,.v (k:Int))::R) (fun k => []) (fun k=>k≤l.length∧∀ j (hj:j < l.length),j < k→p l[j]=false) (fun k=>l.length - k) (0) (.c2 a8 a8 (.cons a8 (.nil _))) ?_ (.c2 a8 a8 (.c2 a8 a8 (.nil _))) (a8) fun k hF => ?_
 ·simp
 obtain⟨h1,h2⟩:=hF
 refine .q 6 hG ⟨fun hc9 => ?_,fun hc9 => ?_⟩
 ·refine .q 13 hG ?_
  refine .ix (by first|omega|(simp;done)|(simp;omega)|(simp at *;omega)) (by first|omega|(simp;done)|(simp;omega)|(simp at *;omega)) ?_
  refine .q 1 hG ?_
  refine .p (.a2Q a8 (.t a8) ?_)
  refine .q 1 hG ?_
  refine .cond (.t a8) (fun hc16 => ?_) (fun hc16 => ?_)
  ·refine .q 6 hG ?_
   refine .e1 a8 a8 ?_
   rw [a6o (by omega) (by simpa using hc16) h2]
  ·refine .q 2 hG ?_
   refine .ad (by first|omega|(simp;done)|(simp;omega)|(simp at *;omega)) (by first|omega|(simp;done)|(simp;omega)|(simp at *;omega)) ?_
   refine .q 2 hG ?_
   refine⟨k+1,.c2 rfl rfl (.c2 rfl rfl (.nil _)),rfl,?_,by omega⟩
   refine⟨by omega,fun j hj hjk => ?_⟩;rcases Nat.lt_or_ge j k with h|h;exact h2 j hj h;(obtain rfl:j=k:=by omega);simpa using hc16
 ·refine .q 3 hG ?_
  refine .p (.assign (.i a8) ?_)
  refine .q 2 hG ?_
  refine .e1 a8 a8 ?_
  rw [a10 fun j hj=>h2 j hj (by omega)]
theorem c0l (f:Tag) (o:Bool) (t:Tag):p6 gl prog 67 [.v f,.v o,.v t] (fun r=>r = .v (o&&decide (f=t))):=by
 refine p6.jn func67 (by kernel_rfl) 13 rfl fun C hC hG => ?_
 refine .q 3 hG fun b3 => ?_
 refine .q 1 hG fun b5 => ?_
 refine .q 8 hG ?_
 refine .go 8 a8 (.t a8) (fun hg11 => .a8I underlying24 sz5 underlying5 b5f (.q a8 hg11) (.q a8 hg11) a8) ?_
 refine .q 4 hG ?_
 refine .e1 a8 a8 ?_
 rfl
theorem c2x {b:Bool} (h:(!b)=true):b=false:=by cases b<;>simp_all
theorem c2y {b:Bool} (h:(!b)=false):b=true:=by cases b<;>simp_all
theorem c0m {p:Tag×Bool} {t:Tag} (h:(p.2&&decide (p.1=t))=true):p=(t,true):=by
 simp only [Bool.and_eq_true,decide_eq_true_eq] at h;exact Prod.ext h.2 h.1
theorem c0n {p:Tag×Bool} {t:Tag} (h:(p.2&&decide (p.1=t))=false):p≠(t,true):=by
 rintro rfl;simp at h
theorem b3y {α:Type} {l:List α} {p:α→Bool} {k:Nat} (h:k < l.length) (h1:p l[k]=true) (h2:∀ j (hj:j < l.length),j < k→p l[j]=false):l.find? p=some l[k] :=
 List.find?_eq_some_iff_getElem.2 ⟨h1,k,h,rfl,fun j hj=>by rw [h2 j (by omega) hj];rfl⟩
theorem b3z {α:Type} {l:List α} {p:α→Bool} (h:∀ j (hj:j < l.length),p l[j]=false):l.find? p=none :=
 List.find?_eq_none.2 fun x hx=>by
  obtain⟨j,hj,rfl⟩:=List.getElem_of_mem hx
  rw [h j hj];decide
theorem c0o (b:Z7):p6 gl prog 69 [.v b] (fun r=>r = .v (a6w b)):=by
 refine p6.jn func69 (by kernel_rfl) 32 rfl fun C hC hG => ?_
 refine .q 3 hG fun b1 => ?_
 refine .q 2 hG ?_
 refine .scope ?_
 refine .q 1 hG ?_
 refine .label ?_
 refine .q 2 hG ?_
 refine .C1 hC .z (.O9 1 a8 .z (.del .z ?_))
 refine .q 7 hG ?_
 refine .E1 (α:=Nat) [(1,_),(8,_),(9,_)] (fun i R=>(10,.v (i:Int))::R) (Function.const _ _) (fun i=>i≤b.j3.length∧(b.j3.take i).any (a5p b)=false) (fun i=>b.j3.length - i) (0) (.c2 a8 a8 (.cons a8 (.nil _))) ?_ (.c2 a8 a8 (.c2 a8 a8 (.nil _))) (a8) fun i hF => ?_
 ·exact⟨Nat.zero_le _,a8⟩
 obtain⟨h1,h2⟩:=hF
 refine .q 1 hG ?_
 refine .X3 8 a8 fun hl8 => ?_
 refine .q 5 hG ⟨fun hc11 => ?_,fun hc11 => ?_⟩
 ·refine .q 5 hG ?_
  refine .ix (by first|omega|(simp;done)|(simp;omega)|(simp at *;omega)) (by first|omega|(simp;done)|(simp;omega)|(simp at *;omega)) ?_
  refine .q 2 hG fun b4 => ?_
  refine .q 4 hG ?_
  refine .C1 hC .z (.O9 4 a8 .z (.del .z ?_))
  have hi:i < b.j3.length:=by omega
  refine .q 7 hG ?_
  refine .E1 (α:=Nat) [(1,_),(4,_),(8,_),(9,_),(10,_),(15,_),(16,_)] (fun k R=>(17,.v (k:Int))::R) (Function.const _ _) (fun k=>k≤b.l9.length∧(b.l9.take k).any (fun c:Cav=>c.X4&&decide (c.p7=b.j3[i].p7))=false) (fun k=>b.l9.length - k) (0) (.c2 a8 a8 (.c2 a8 a8 (.c2 a8 a8 (.cons a8 (.nil _))))) ?_ (.c2 a8 a8 (.c2 a8 a8 (.c2 a8 a8 (.c2 a8 a8 (.nil _))))) (a8) fun k hF => ?_
  ·exact⟨Nat.zero_le _,a8⟩
  obtain⟨h3,h4⟩:=hF
  refine .q 1 hG ?_
  refine .X3 15 a8 fun hl15 => ?_
  refine .q 5 hG ⟨fun hc18 => ?_,fun hc18 => ?_⟩
  ·refine .q 5 hG ?_
   refine .ix (by first|omega|(simp;done)|(simp;omega)|(simp at *;omega)) (by first|omega|(simp;done)|(simp;omega)|(simp at *;omega)) ?_
   refine .q 2 hG fun b6 => ?_
   refine .q 3 hG ?_
   refine .C1 hC .z (.O9 6 a8 .z (.del .z ?_))
   have hk:k < b.l9.length:=by omega
   refine .q 8 hG ?_
   refine .go 23 a8 (.t a8) (fun hg28 => .p8 hG (a3m _ _) (.cons (.q a8 hg28) (.cons (.q a8 hg28) .nil)) a8) ?_
   refine .q 2 hG ?_
   refine .cond (.t a8) (fun hc29 => ?_) (fun hc29 => ?_)
   ·refine .q 1 hG ?_
    have hex:a5p b b.j3[i]=false:=(by unfold a5p;rw [List.any_eq_true.2 ⟨b.l9[k],List.getElem_mem hk,hc29⟩];rfl)
    refine .q 1 hG ?_
    refine .ad (by first|omega|(simp;done)|(simp;omega)|(simp at *;omega)) (by first|omega|(simp;done)|(simp;omega)|(simp at *;omega)) ?_
    refine .q 2 hG ?_
    refine⟨i+1,.c2 rfl rfl (.c2 rfl rfl (.nil _)),rfl,?_,by omega⟩
    exact⟨by omega,by rw [any_succ (a5p b) _ i hi,h2,hex];rfl⟩
   ·refine .q 2 hG ?_
    refine .ad (by first|omega|(simp;done)|(simp;omega)|(simp at *;omega)) (by first|omega|(simp;done)|(simp;omega)|(simp at *;omega)) ?_
    refine .q 2 hG ?_
    refine⟨k+1,.c2 rfl rfl (.c2 rfl rfl (.c2 rfl rfl (.c2 rfl rfl (.nil _)))),rfl,?_,by omega⟩
    exact⟨by omega,by rw [any_succ (fun c:Cav=>c.X4&&decide (c.p7=b.j3[i].p7)) _ k hk,h4];exact hc29⟩
  ·refine .q 6 hG ?_
   refine .e1 a8 a8 ?_
   have hex:a5p b b.j3[i]=true:=(by rw [List.take_of_length_le (by omega)] at h4;unfold a5p;rw [h4];rfl)
   have e:a6w b=true:=List.any_eq_true.2 ⟨_,List.getElem_mem hi,hex⟩
   rw [e]
 ·refine .q 6 hG ?_
  refine .e1 a8 a8 ?_
  rw [List.take_of_length_le (by omega)] at h2
  have e:a6w b=false:=h2
  rw [e]
theorem ofNat_inj {a b:Nat} (ha:a < 256) (hb:b < 256) (h:UInt8.ofNat a=UInt8.ofNat b):a=b:=by
 have:=congrArg UInt8.toNat h
 simp at this;omega
theorem b1R:∀ (a b:Nat) (s t:List UInt8),I4 a++s=I4 b++t→a=b∧s=t:=by
 intro a
 induction a using Nat.strongRecOn with
 | _ a ih =>
  intro b s t h
  by_cases ha:a < 128
  ·by_cases hb:b < 128
   ·rw [a1y ha,a1y hb] at h
    simp only [List.cons_append,List.nil_append,List.cons.injEq] at h
    exact⟨ofNat_inj (by omega) (by omega) h.1,h.2⟩
   ·rw [a1y ha,a3r hb] at h
    simp only [List.cons_append,List.nil_append,List.cons.injEq] at h
    have:=ofNat_inj (by omega) (by omega) h.1
    omega
  ·by_cases hb:b < 128
   ·rw [a3r ha,a1y hb] at h
    simp only [List.cons_append,List.nil_append,List.cons.injEq] at h
    have:=ofNat_inj (by omega) (by omega) h.1
    omega
   ·rw [a3r ha,a3r hb] at h
    simp only [List.cons_append,List.cons.injEq] at h
    have h1:=ofNat_inj (by omega) (by omega) h.1
    obtain⟨h2,h3⟩:=ih (a/128) (by omega) (b/128) s t h.2
    exact⟨by omega,h3⟩
end Go.Proofs.YtalibdhdngbbcaaGreatDoor
