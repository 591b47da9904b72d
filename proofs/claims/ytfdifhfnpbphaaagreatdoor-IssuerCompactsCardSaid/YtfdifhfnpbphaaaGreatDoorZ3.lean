/- Plain Lean over any program, and walks of this seat's functions: contracts, each proved once (part 3). -/
import Derived.Test.YtfdifhfnpbphaaaGreatDoorZ2
import Derived.Shelf.Bytes.SlJoin
import Derived.Laws.StructEq
set_option maxRecDepth 1000000
set_option synthInstance.maxSize 1000000
set_option synthInstance.maxHeartbeats 10000000
set_option linter.unusedVariables false
set_option linter.unusedSimpArgs false
namespace Go.Ab
open Go.Fl Go.RowKit
open u3 (rep)
universe u v
variable {P:Program}{C:Ctx}{N:Nat}
theorem wpA.d2t {Q:Exit→o8→j8→Prop}{c:Code}{σ:o8}{H:j8}(h:wpA P C N c (fun e σ H=>∃ n:Nat,Q e σ (H.drop n)) σ H):wpA P C N c Q σ H:=fun ρ I L hs a w ha hw =>
 wpIn_mono (h ρ I L hs a w ha hw) fun _ _ _ ⟨ρ,I,L,h1,h2,σ,H,h3,n,h4⟩ =>
  ⟨ρ,I,L.drop n,h1,(a4o (M:=L.take n++L.drop n) h2 (by rw [List.take_append_drop])).drop,σ,_,⟨h3.env,h3.heap.c2h n,h3.U9⟩,h4⟩
def a69 {α:Type}(R:o8)(V:α→o8)(Hf:α→j8)(F:α→Prop)(μ:α→Nat)(x:α):o8→j8→Prop:=fun σ' H'=>∃ n,∃ x',a3X (V x'++R) σ'∧H'.drop n=Hf x'∧F x'∧μ x' < μ x
theorem wpA.c2x {Q:Exit→o8→j8→Prop}{c:Code}{σ:o8}{H:j8}{α:Type}{R:o8}(V:α→o8)(Hf:α→j8)(F:α→Prop)(μ:α→Nat)(x0:α)(h0:F x0)(hE:a3X (V x0++R) σ)(hH:H=Hf x0)
    (round:∀ x,F x→wpA P C N c (a1m (a69 R V Hf F μ x) Q) (V x++R) (Hf x)):wpA P C N (.loop c) Q σ H :=
  .loop (fun x=>V x++R) Hf F μ x0 h0 hE hH fun x hF => .d2t ((round x hF).mono fun e σ' H' hq=>by
    cases e with
    | normal=>obtain⟨n,x',h1,h2,h3⟩:=hq;exact⟨n,x',h1,h2,h3⟩
    | _=>exact⟨0,hq⟩)
instance {σ:o8}{c:Bool}{n:Nat}[h:TrB (Nat.ble n 9223372036854775808)]:EvQ c σ (.const (.int .i64 (no_index (Neg.neg (@OfNat.ofNat Int n _))))) (.v (Neg.neg (@OfNat.ofNat Int n _))):=⟨fun _ _ _ => .i (by
 have:=Nat.le_of_ble_eq_true h.h
 simp only [Bool.and_eq_true,decide_eq_true_eq]
 show -9223372036854775808 ≤ -(n:Int) ∧ -(n:Int)≤9223372036854775807
 omega)⟩
@[reducible] def inW (t:Nat):o8→Bool
 | []=>false
 | (s,_)::r=>orW (Nat.beq s t) (inW t r)
class SbQ (R σ:o8):Prop where h:a3X R σ
instance {σ:o8}:SbQ [] σ:=⟨.nil σ⟩
instance {σ R:o8}{t:Nat}{a:AV}[h:LkQ σ t a][k:SbQ R σ]:SbQ ((t,a)::R) σ:=⟨.cons h.h k.h⟩
class EqQ (V σ:o8)(p:outParam (List Prop)):Prop where h:Z8 p→∀ {R:o8},a3X R σ→a3X (V++R) σ
instance {σ:o8}:EqQ [] σ []:=⟨fun _ _ k=>k⟩
instance {σ V:o8}{t:Nat}{a b:AV}{p:List Prop}[h:LkQ σ t b][k:EqQ V σ p]:EqQ ((t,a)::V) σ ((b=a)::p):=⟨fun e _ r => .cons (e.1▸h.h) (k.h e.2 r)⟩
class HeQ (H T:j8)(p:outParam (List Prop)):Prop where h:Z8 p→H=T
instance:HeQ [] [] []:=⟨fun _=>rfl⟩
instance (priority:=high){A:Bool×C3}{H T:j8}{p:List Prop}[k:HeQ H T p]:HeQ (A::H) (A::T) p:=⟨fun e=>by rw [k.h e]⟩
instance {A B:Bool×C3}{H T:j8}{p:List Prop}[k:HeQ H T p]:HeQ (A::H) (B::T) ((A=B)::p):=⟨fun e=>by rw [e.1,k.h e.2]⟩
@[reducible] def c2y:j8→j8→Bool
 | [],[]=>true
 | _::a,_::b=>c2y a b
 | _,_=>false
class HdQ (H T:j8)(p:outParam (List Prop)):Prop where h:Z8 p→∃ n,H.drop n=T
instance {H T:j8}{p:List Prop}[s:TrB (c2y H T)][k:HeQ H T p]:HdQ H T p:=⟨fun e=>⟨0,k.h e⟩⟩
instance {A:Bool×C3}{H T:j8}{p:List Prop}[s:FaB (c2y (A::H) T)][k:HdQ H T p]:HdQ (A::H) T p:=⟨fun e=>by
 obtain⟨n,h⟩:=k.h e
 exact⟨n+1,h⟩⟩
instance {mo:Nat}{G:Gl}{n:Nat}{Q:Exit→o8→j8→Prop}{σ:o8}{H:j8}{α:Type}{R:o8}{V:α→o8}{Hf:α→j8}{F:α→Prop}{μ:α→Nat}{x:α}{pX qX rX:α→List Prop}{A:α→Prop}
    [r:SbQ R σ][v:∀ x',EqQ (V x') σ (pX x')][u:∀ x',HdQ H (Hf x') (qX x')][c:∀ x',Cj (pX x') (qX x') (rX x')][a:∀ x',PrQ (rX x') (F x'∧μ x' < μ x) (A x')] :
    Rw mo G P C N n (.q (a1m (a69 R V Hf F μ x) Q) .normal) σ H [] (∃ x',A x'):=⟨fun _ _ h=>by
  obtain⟨x',h⟩:=h
  obtain⟨h1,h2,h3⟩:=(a x').h h
  obtain⟨h4,h5⟩:=(c x').of h1
  obtain⟨n,h6⟩:=(u x').h h5
  exact⟨n,x',(v x').h h4 r.h,h6,h2,h3⟩⟩
class FiQ (V σ τ:o8)(R:outParam o8):Prop where h:a3X R σ
instance {V σ:o8}:FiQ V σ [] []:=⟨.nil σ⟩
instance {V σ τ R:o8}{t:Nat}{a:AV}[i:TrB (inW t V)][k:FiQ V σ τ R]:FiQ V σ ((t,a)::τ) R:=⟨k.h⟩
instance {V σ τ R:o8}{t:Nat}{a b:AV}[i:FaB (inW t V)][h:LkQ σ t b][k:FiQ ((t,b)::V) σ τ R]:FiQ V σ ((t,a)::τ) ((t,b)::R):=⟨.cons h.h k.h⟩
class UpQ (H:j8)(U:List (Value×C3))(T:outParam j8):Prop where h:True
instance {H:j8}:UpQ H [] H:=⟨trivial⟩
instance {H T:j8}{w:Value}{B B0:C3}{b:Bool}{F:Bool×C3→j8}{U:List (Value×C3)}[h:HoQ H w (b,B0) F][k:UpQ (F (b,B)) U T]:UpQ H ((w,B)::U) T:=⟨trivial⟩
class ApE (V R:o8)(S:outParam o8):Prop where h:V++R=S
instance {R:o8}:ApE [] R R:=⟨rfl⟩
instance {p:Nat×AV}{V R S:o8}[k:ApE V R S]:ApE (p::V) R (p::S):=⟨by rw [List.cons_append,k.h]⟩
theorem wpA.lp {G:Gl}{Q:Exit→o8→j8→Prop}{c:Code}{σ:o8}{H:j8}{α:Type}{R:o8}{Hf:α→j8}{S:α→o8}{EX:α→List Bool}{AX:α→Prop}{E:List Bool}{p q r:List Prop}{A:Prop}(hG:GC G C)(V:α→o8)(U:α→List (Value×C3))(F:α→Prop)(μ:α→Nat)(x0:α)
    [fi:FiQ (V x0) σ σ R][up:∀ x,UpQ H (U x) (Hf x)][v:EqQ (V x0) σ p][u:HeQ H (Hf x0) q][cj:Cj p q r][ap:∀ x,ApE (V x) R (S x)][k:∀ x,Rw 1 G P C N 1000 (.a c (a1m (a69 R V Hf F μ x) Q)) (S x) (Hf x) (EX x) (AX x)][cE:CoQ EX E][a:PrQ r (F x0∧∀ x,F x→AX x) A](e:a0K E=true)(h:A):wpA P C N (.loop c) Q σ H:=by
  obtain⟨h1,h2,h3⟩:=a.h h
  obtain⟨h4,h5⟩:=cj.of h1
  exact .c2x V Hf F μ x0 h2 (v.h h4 fi.h) (u.h h5) fun x hF=>(ap x).h▸(k x).h hG (cast (congrArg (fun z=>a0K z=true) (cE.h x)).symm e) (h3 x hF)
section
variable {G:Gl}{c:Bool}{σ:o8}{H:j8}{d:Option Nat}{ty:TypeId}{ps:String}{af:Array Edge}{g:Option (Nat×Bool)}{t:Nat}{a b:Operand}{tys:Array TypeId}{α β γ:Type}{r:u3 α}{s:u3 β}{q:u3 γ}{x:α}{y:β}
instance {g1:α→β}[ht:LkQ σ t (.a62 P g1)][ha:T9 c σ a α r x]:OpD G P c ⟨d,.call ⟨.value (.tmp t),#[a],tys⟩,ty,ps,af,g⟩ σ H [] (.v (g1 x)):=⟨fun N C hG e _ => .b0a ht.h (ha.h C H e) rfl⟩
instance {g2:α→β→γ}[ht:LkQ σ t (.c2d P g2)][ha:T9 c σ a α r x][hb:T9 c σ b β s y]:OpD G P c ⟨d,.call ⟨.value (.tmp t),#[a,b],tys⟩,ty,ps,af,g⟩ σ H [] (.v (g2 x y)):=⟨fun N C hG e _ => .c2f ht.h (ha.h C H e) (hb.h C H e) rfl⟩
end
@[reducible] def c5n {α:Type}:List α→Nat→Bool
 | [],0=>true
 | _::l,n+1=>c5n l n
 | _,_=>false
theorem b2T {α:Type}:∀ {l:List α} {n:Nat},c5n l n=true→l.length=n
 | [],0,_=>rfl
 | _::l,n+1,h=>by rw [List.length_cons,b2T (l:=l) h]
 | [],n+1,h=>by cases h
 | _::l,0,h=>by cases h
section
variable {mo:Nat}{G:Gl}{n:Nat}{ops:List Oper}{Q:Exit→o8→j8→Prop}{l:List Oper}{σ:o8}{H:j8}{d:Nat}{ps:String}{af:Array Edge}{y:Operand}{T E U ty:TypeId}{Eb:List Bool}
instance {α:Type}{r:u3 α}{i:Inhabited α}{by_ t:Nat}{w:Value}{L m:List α}{F:Bool×C3→j8}{EX:Value→List Bool}{AX:Value→Prop}[st:SlI P T E α by_ r i][hx:LkQ σ t (.raw w)][hH:HoQ H w (true,.own E w L) F][hy:SrQ P U σ H y α r m]
    [k:∀ w',Rw mo G P C N n (.b ops Q l) ((d,.raw w')::σ) (F (true,.own E w' (L++m))) (EX w') (AX w')][cE:CoQ EX Eb] :
    Rw mo G P C N (n+1) (.b ops Q (⟨some d,.call ⟨.builtin .append,#[.tmp t,y],#[T,U]⟩,ty,ps,af,none⟩::l)) σ H Eb ((L.length+m.length)*by_≤140737488355328∧L.length+m.length≤9223372036854775807∧∀ w',AX w') :=
  ⟨fun g e h => .h (.append st.h hy.u hx.h hH.h (hy.h C) h.1 h.2.1 (fun w'=>(k w').h g (cast (congrArg (fun z=>a0K z=true) (cE.h w')).symm e) (h.2.2 w')) rfl)⟩
instance {α:Type}{r:u3 α}{i:Inhabited α}{k0:Nat}{L:List α}{parts:List (Nat×Operand)}{EX:Nat→List Bool}{AX:Nat→Prop}[u:UnI P T (.slice E)][t:TyI P E α r i][hp:ElQ true σ 0 parts α r L][hl:TrB (c5n L k0)][hs:TrB (Nat.ble (k0*u3.size α) 16777216)]
    [k:∀ b,Rw mo G P C N n (.b ops Q l) ((d,.raw (slc b 0 k0 k0))::σ) ((true,.own E (slc b 0 k0 k0) L)::H) (EX b) (AX b)][cE:CoQ EX Eb] :
    Rw mo G P C N (n+1) (.b ops Q (⟨some d,.buildSlice T k0 parts.toArray,ty,ps,af,none⟩::l)) σ H Eb (∀ b,AX b) :=
  ⟨fun g e h => .h (.buildSlice t.h u.h (by simpa using hp.h C H rfl) (b2T hl.h) (Nat.le_of_ble_eq_true hs.h) fun b=>(k b).h g (cast (congrArg (fun z=>a0K z=true) (cE.h b)).symm e) (h b))⟩
end
end Go.Ab
namespace Go.Ab
open Go.Fl Go.RowKit
open u3 (rep)
class ElI (P:Program)(T:TypeId)(n:outParam Nat)(k:outParam Nat)(b:outParam Bool):Prop where h:O7 P T=some (n,k,b)
section
variable {G:Gl}{P:Program}{c:Bool}{σ:o8}{H:j8}{d:Option Nat}{ty:TypeId}{ps:String}{af:Array Edge}{g:Option (Nat×Bool)}{x y:Operand}{T T2 E:TypeId}{m n:Int}
theorem OpP.c5o {N:Nat}{C:Ctx}{K:AV→Prop}{β:Type}{s:u3 β}{ib:Inhabited β}{w:Value}{l:List β}{i:Int}{bb:Bool}{E':TypeId}{F:Bool×C3→j8}(tE:K1 P E β)(hT:P.underlying T=some (.slice E))(hx:G5 C σ H x (.raw w))(hH:H9 H (bb,.own E' w l) F)
    (hy:G5 C σ H y (.v i))(h0:0≤i)(h1:i < l.length)(k:K (.el w i.toNat (j9.id (α:=β)))):OpP P N C ⟨d,.indexAddr T x y,ty,ps,af,g⟩ σ H K :=
  .vk k (fun ρ I L hs=>by
    obtain⟨u,h2,rfl⟩:=hx ρ I L hs
    obtain⟨j,X,h3,h4,_⟩:=hH.get hs.heap
    obtain⟨xs,ho,hl⟩:=h4.1
    rcases ho with ⟨_,h,_⟩|⟨b,c,sp,q,rfl,_⟩
    · omega
    · refine .Z6 hT tE.size h2 (hy.int hs).1 h0 h1 ⟨b,j0,?_⟩
      simp [j9.id])
instance {α:Type}{r:u3 α}{i:Inhabited α}{w:Value}{l:List α}{bb:Bool}{F:Bool×C3→j8}[hx:EvQ c σ x (.raw w)][hH:HoQ H w (bb,.own E w l) F][u:UnI P T (.slice E)][t:TyI P E α r i][hy:T9 c σ y Int inferInstance n] :
    OpD G P c ⟨d,.indexAddr T x y,ty,ps,af,g⟩ σ H [0≤n,n < l.length] (.el w n.toNat (j9.id (α:=α))):=⟨fun N C hG e h => .c5o t.h u.h (hx.h C H e) hH.h (hy.h C H e) h.1 h.2.1 rfl⟩
instance {α β:Type}{r:u3 α}{s:u3 β}{i:Inhabited β}{j:Inhabited α}{w:Value}{l:j9 α β}{f:α→β}{f':β→α→α}{zs:List α}{kk:Nat}{bb:Bool}{F:Bool×C3→j8}[hx:EvQ c σ x (.el w kk l)][t:TyI P T β s i][nl:Q2 l f f'][hH:HoQ H w (bb,.own E w zs) F][t2:TyI P E α r j] :
    OpD G P c ⟨d,.load T x,ty,ps,af,g⟩ σ H [kk < zs.length] (.v (f (zs.getD kk default))):=⟨fun N C hG e h => .ldE t.h (hx.h C H e) hH.h h.1 (by
  have h1:=h.1
  rw [nl.e,List.getD_eq_getElem?_getD,List.getElem?_eq_getElem h1];rfl)⟩
class LoQ (c:Bool)(σ:o8)(lo:Option Operand)(z:Int)(m:outParam Int):Prop where h:∀ C H,c=true→0≤m→(lo=none∧m.toNat=z.toNat)∨∃ o,lo=some o∧G5 C σ H o (.v (m.toNat:Int))
instance {z:Int}:LoQ c σ none z z:=⟨fun C H e h => .inl ⟨rfl,rfl⟩⟩
instance {z:Int}[hx:T9 c σ x Int inferInstance m]:LoQ c σ (some x) z m:=⟨fun C H e h => .inr ⟨x,rfl,by rw [Int.toNat_of_nonneg h];exact hx.h C H e⟩⟩
instance {α:Type}{r:u3 α}{i:Inhabited α}{l:List α}{lo hi:Option Operand}[u:UnI P T (.slice E)][t:TyI P E α r i][hx:T9 c σ x (List α) inferInstance l][hl:LoQ c σ lo 0 m][hh:LoQ c σ hi (l.length:Int) n] :
    OpD G P c ⟨d,.slice T x lo hi none,ty,ps,af,g⟩ σ H [0≤m,m≤n,n≤l.length] (.v ((l.take n.toNat).drop m.toNat)):=⟨fun N C hG e h => .sl m.toNat n.toNat t.h u.h (hx.h C H e) (hl.h C H e h.1)
    (by
      have h1:=h.1
      have h2:=h.2.1
      have:=hh.h C H e (by omega)
      simpa using this) (by
      have h1:=h.1
      have h2:=h.2.1
      omega) (by
      have h3:=h.2.2.1
      omega) rfl⟩
end
section
variable {G:Gl}{P:Program}{ops:List Oper}{σ:o8}{H:j8}{ps:String}{af:Array Edge}{ty T E:TypeId}{x y:Operand}
instance {α β:Type}{r:u3 α}{s:u3 β}{i:Inhabited β}{j:Inhabited α}{w:Value}{l:j9 α β}{f:α→β}{f':β→α→α}{zs:List α}{v:β}{kk:Nat}{bb:Bool}{F:Bool×C3→j8}[hx:EvQ true σ x (.el w kk l)][hy:T9 true σ y β s v][t:TyI P T β s i][nl:Q2 l f f'][hH:HoQ H w (bb,.own E w zs) F][t2:TyI P E α r j] :
    StD G P ops ⟨none,.store T x y,ty,ps,af,none⟩ σ H [kk < zs.length] σ (F (bb,.own E w (zs.set kk (f' v (zs.getD kk default))))):=⟨fun N C Q rest hG hD q => .n (.stE t.h (hx.h C H rfl) (hy.h C H rfl) hH.h hD.1 (by
  have h1:=hD.1
  have e:zs.getD kk default=zs[kk]:=by rw [List.getD_eq_getElem?_getD,List.getElem?_eq_getElem h1];rfl
  rw [nl.u,←e];exact q))⟩
end
def Q8 {n:Nat}{α:Type}(a:M4 n α)(i:Nat)(y:α):M4 n α:=⟨a.l.set i y,by simp [a.h]⟩
instance {n:Nat}{α:Type}{r:u3 α}[Inhabited α]{k:Nat}{hk:k < n}:Q2 (j9.idx (n:=n) (α:=α) k hk) (fun a=>a.l.getD k default) (fun y a=>Q8 a k y):=⟨fun a=>by
 rw [List.getD_eq_getElem?_getD,List.getElem?_eq_getElem (by rw [a.h];exact hk)];rfl,fun y a=>rfl⟩
section
variable {mo:Nat}{G:Gl}{P:Program}{C:Ctx}{N n:Nat}{ops:List Oper}{Q:Exit→o8→j8→Prop}{l:List Oper}{σ:o8}{H:j8}{d:Nat}{ps:String}{af:Array Edge}{x y:Operand}{T E U ty:TypeId}{Eb:List Bool}{i:Int}
instance (priority:=low){α β:Type}{r:u3 α}{s:u3 β}{k0 kz:Nat}{kb:Bool}{w:Value}{ln:j9 α (M4 k0 β)}{EX:i.toNat < k0→List Bool}{AX:i.toNat < k0→Prop}[hx:EvQ true σ x (.ln w ln)][hf:ElI P T k0 kz kb][hz:TrB (Nat.beq kz (u3.size β))][hy:T9 true σ y Int inferInstance i]
    [k:∀ h:i.toNat < k0,Rw mo G P C N n (.b ops Q l) ((d,.ln w (ln.comp (j9.idx i.toNat h)))::σ) H (EX h) (AX h)][cE:CoQ EX Eb] :
    Rw mo G P C N (n+1) (.b ops Q (⟨some d,.indexAddr T x y,ty,ps,af,none⟩::l)) σ H Eb (0≤i∧∃ h:i.toNat < k0,AX h):=⟨fun g e h=>by
  obtain⟨h0,h1,h2⟩:=h
  exact .p (.c9t (Nat.eq_of_beq_eq_true hz.h▸hf.h) (hx.h C H j0) (hy.h C H j0) h0 (by omega) ((k h1).h g (cast (congrArg (fun z=>a0K z=true) (cE.h h1)).symm e) h2))⟩
instance {β:Type}{s:u3 β}{k0 kz:Nat}{kb:Bool}{w:Value}{EX:i.toNat < k0→List Bool}{AX:i.toNat < k0→Prop}[hx:EvQ true σ x (.ln w (j9.id (α:=M4 k0 β)))][hf:ElI P T k0 kz kb][hz:TrB (Nat.beq kz (u3.size β))][hy:T9 true σ y Int inferInstance i]
    [k:∀ h:i.toNat < k0,Rw mo G P C N n (.b ops Q l) ((d,.ln w (j9.idx (α:=β) (n:=k0) i.toNat h))::σ) H (EX h) (AX h)][cE:CoQ EX Eb] :
    Rw mo G P C N (n+1) (.b ops Q (⟨some d,.indexAddr T x y,ty,ps,af,none⟩::l)) σ H Eb (0≤i∧∃ h:i.toNat < k0,AX h):=⟨fun g e h=>by
  obtain⟨h0,h1,h2⟩:=h
  exact .p (.c43 (Nat.eq_of_beq_eq_true hz.h▸hf.h) (hx.h C H j0) (hy.h C H j0) h0 (by omega) ((k h1).h g (cast (congrArg (fun z=>a0K z=true) (cE.h h1)).symm e) h2))⟩
end
end Go.Ab
namespace Go.Fl
def a1Y (P:Program)(t:TypeId)(name:String)(f:FuncId):Prop :=
 (∃ i m,P.info? t=some i∧i.methods.find? (·.name == name)=some m∧m.path = #[]∧m.func=some (f,false))∧∃ fs,P.underlying t=some (.struct fs)
theorem b6B {P:Program}{t:TypeId}{name:String}{f:FuncId}{v:Value}(h:a1Y P t name f)(n:Nat)(w:World):(method (n+1) t v name).run P w = .ok (f,v) w:=by
 obtain⟨⟨i,m,h1,h2,h3,h4⟩,fs,h5⟩:=h
 have e:(typeInfo t).run P w = .ok i w:=by simp [typeInfo,program,Sem.run,h1]
 unfold method
 simp only [Sem.run_bind,e,Result.andThen_ok,h2,h3,h4]
 simp [follow,receiverAt,run_underlying h5,Place.get,Sem.run_bind,Sem.run_pure]
theorem b2U {P:Program}{f:FuncId}(ok:a4c P f){t:TypeId}{name:String}(hm:a1Y P t name f){v:Value}{a:Act}{w:World}{o:Oper}{recv:Operand}{args:Array Operand}{tys:Array TypeId}(ho:o.op = .call ⟨.invoke recv name,args,tys⟩)
    (hr:a.eval recv = .iface t v){vs:List Value}(hv:args.toList.map a.eval=vs):(execOp a.eval o).run P w = .ok (.enter f (v::vs).toArray) w:=by
  obtain⟨fn,h1,h2,h3⟩:=ok.ok
  subst hv
  have hargs:args.map a.eval=(args.toList.map a.eval).toArray:=by cases args;simp
  have h2':¬fn.name = "runtime.NumGoroutine" := by simpa using h2
  have h3':fn.body≠none:=by intro e;simp [e] at h3
  obtain⟨n,hn⟩:∃ n,P.types.size+Made.depth=n+1:=⟨P.types.size+(Made.depth - 1),by
    have:0 < Made.depth:=by decide
    omega⟩
  have hM:=b6B (v:=v) hm n w
  have e1:(#[a.eval recv]++args.map a.eval)[0]?=some (.iface t v):=by rw [hr,hargs,List.append_toArray];rfl
  have e2:(#[a.eval recv]++args.map a.eval).extract 1 (#[a.eval recv]++args.map a.eval).size=args.map a.eval:=by
    apply Array.ext'
    simp
    rw [List.take_of_length_le (by simp)]
  have e3:(callFunc f (#[v]++args.map a.eval)).run P w = .ok (.enter f (v::args.toList.map a.eval).toArray) w:=by
    simp [callFunc,program,Sem.run,h1,h2',h3',hargs]
  have e4:(callMethod (.iface t v) name (args.map a.eval)).run P w = .ok (.enter f (v::args.toList.map a.eval).toArray) w:=by
    unfold callMethod
    simp only [Sem.run_bind]
    have e5:(program:Sem Program).run P w = .ok P w:=rfl
    rw [e5,Result.andThen_ok,hn,hM,Result.andThen_ok]
    exact e3
  simp only [execOp,ho,resolve,Sem.run_bind,Sem.run_pure,Result.andThen_ok,invoke,e1,e2]
  exact e4
section
variable {P:Program}{C:Ctx}{N:Nat}{ρ:Env}{I:Im}{L:Lh}{f:FuncId}{d:Option Nat}{args:Array Operand}{tys tys':Array TypeId}{ty:TypeId}{ps:String}{af:Array Edge}{g:Option (Nat×Bool)}{recv:Operand}{name:String}{t:TypeId}{v:Value}{K:Value→Im→Lh→Prop}
end
end Go.Fl
namespace Go.Ab
open Go.Fl Go.RowKit
section
variable {P:Program}{C:Ctx}{N:Nat}{σ:o8}{H:j8}{f:FuncId}{d:Option Nat}{args:Array Operand}{tys tys':Array TypeId}{ty:TypeId}{ps:String}{af:Array Edge}{g:Option (Nat×Bool)}{recv:Operand}{name:String}{t:TypeId}{v:Value}
end
end Go.Ab
namespace Go.Ab
open Go.Fl Go.RowKit
open u3 (rep)
theorem b4q {α β:Type}{f:α→Option β}:∀ {l:List α} {o:List β} {i:Nat} {x:α} {y:β},l.mapM f=some o→l[i]?=some x→f x=some y→o[i]?=some y
 | [],o,i,x,y,_,h2,_=>by cases h2
 | a::r,o,i,x,y,h1,h2,h3=>by
  rw [List.mapM_cons] at h1
  cases hq:f a with
  | none=>simp [hq] at h1
  | some b =>
   cases hr:r.mapM f with
   | none=>simp [hq,hr] at h1
   | some o' =>
    simp [hq,hr] at h1
    subst h1
    cases i with
    | zero=>cases h2;rw [hq] at h3;cases h3;rfl
    | succ i=>exact b4q (i:=i) hr h2 h3
theorem b8C {P:Program}{T:TypeId}{offs:List (Nat×Nat)}{i off sz:Nat}{ag:Bool}(h:E5 P T=some offs)(k:y4 P T i=some (off,sz,ag)):offs[i]?=some (off,sz):=by
 unfold E5 at h
 unfold y4 at k
 split at h
 ·rename_i fs hu
  rw [hu] at k
  simp only at k
  split at k
  ·rename_i f hf
   split at k
   ·rename_i inf dd hi hd
    cases k
    exact b4q h (by simpa using hf) (by rw [hi];rfl)
   ·cases k
  ·cases k
 ·cases h
class FoI (P:Program)(T:TypeId):Prop where h:∃ offs,E5 P T=some offs
class PaQ (P:Program)(T:TypeId)(c:Bool)(σ:o8)(ps:List (Nat×Operand))(α:Type)(r:u3 α)(x:α)(y:outParam α):Prop where h:∀ C H,c=true→∀ offs,E5 P T=some offs→a58 C σ H (fun i=>offs[i]?) ps x y
section
variable {G:Gl}{P:Program}{c:Bool}{σ:o8}{H:j8}{d:Option Nat}{ty:TypeId}{ps:String}{af:Array Edge}{g:Option (Nat×Bool)}{o:Operand}{T:TypeId}
instance {α:Type}{r:u3 α}{x:α}:PaQ P T c σ [] α r x x:=⟨fun _ _ _ _ _ => .nil⟩
instance {α γ:Type}{r:u3 α}{q:u3 γ}{i:Nat}{l:List (Nat×Operand)}{m:j9 α γ}{f:α→γ}{f':γ→α→α}{v:γ}{x y:α}[fd:FdI P T i α r γ q m f][ev:T9 c σ o γ q v][nl:Q2 m f f'][k:PaQ P T c σ l α r (f' v x) y]:PaQ P T c σ ((i,o)::l) α r x y:=⟨fun C H e offs ho=>by
 obtain⟨sz,h1,h2⟩:=fd.h
 exact .cons m v (by rw [←h2];exact b8C ho h1) (ev.h C H e) (nl.u v x▸k.h C H e offs ho)⟩
instance {α:Type}{r:u3 α}{i:Inhabited α}{l:List (Nat×Operand)}{y:α}[t:TyI P T α r i][fo:FoI P T][ag:TrB (u3.agg α)][k:PaQ P T c σ l α r (default:α) y]:OpD G P c ⟨d,.build T l.toArray,ty,ps,af,g⟩ σ H [] (.v y):=⟨fun N C hG e _=>by
 obtain⟨offs,ho⟩:=fo.h
 exact .a3A y ag.h t.h ho (by simpa using k.h C H e offs ho) j0 j0⟩
end
end Go.Ab
namespace Go.Ab
open Go.Fl Go.RowKit Go.Shelf Go.Proofs
open u3 (rep)
theorem Chg.c2z {w w':World}(h:Below w.heap.size w w'):Chg [] w w':=⟨h.os,h.tape,h.output,h.size,fun k hk _=>h.block k hk⟩
theorem b4r {I:Im}{w w':World}{v:Value}{l:List UInt8}(hm:Mem I [] w)(hb:Below w.heap.size w w')(hf:Lib.FreshBytes w.heap.size w' v l) :
    ∃ J,Le I J∧a6N w.heap.size I J∧Mem J [] w'∧F9 J (.v l) v:=by
  obtain⟨g,cap,zs,rfl,hg,hlc,hcm,hz,h256,hl,hc,-⟩:=hf
  have hlt:∀ b o,I b=some o→b < w.heap.size:=fun b o h=>D7 (hm.im b o h)
  have him:∀ b o,I b=some o→w'.heap[b]?=some o:=fun b o h=>(hb.block b (hlt b o h)).trans (hm.im b o h)
  have hIg:I g=none:=by
    cases h:I g with
    | none=>rfl
    | some o=>have:=hlt g o h;omega
  refine⟨fun b=>if b=g then w'.heap[g]? else I b,fun b o h => ?_,fun b h0 h1 => ?_,⟨fun b o h => ?_,by simp,by simp,by simp⟩,[_],⟨_,rfl,C5 l,⟨some ⟨g,0,none⟩,cap,rfl,by simp [C5,u3.size],hlc,hcm,by simp,fun hx=>⟨g,0,rfl,?_⟩⟩,a06.2 rfl⟩,rfl⟩
  · by_cases e:b=g
    · subst e;rw [hIg] at h;cases h
    · simp only [if_neg e];exact h
  · by_cases e:b=g
    · subst e;exact hg
    · simp only [if_neg e] at h1;exact absurd h0 h1
  · by_cases e:b=g
    · subst e;simpa using h
    · simp only [if_neg e] at h;exact him b o h
  · have h0:0 < l.length:=by
      cases l with
      | nil=>exact absurd rfl hx
      | cons=>simp
    have h1:=hc 0 (by omega)
    unfold World.cell? at h1
    cases hh:w'.heap[g]? with
    | none=>simp only [hh] at h1;cases h1
    | some o =>
      cases o with
      | cells cs e fr =>
        refine⟨cs,e,fr,by simp [hh],fun i v hv => ?_⟩
        have hi:i < l.length:=by
          have:=(List.getElem?_eq_some_iff.1 hv).1
          simpa [C5] using this
        have h2:=hc i (by omega)
        unfold World.cell? at h2
        simp only [hh,Option.isSome_none,Bool.false_eq_true,if_false] at h2
        rw [Nat.zero_add,h2,←hv]
        have hzi:i < zs.length:=by omega
        have hb:=h256 zs[i] (List.getElem_mem hzi)
        have e1:l[i]?=some (UInt8.ofNat zs[i].toNat):=by
          rw [←hl,Lib.bytesOf,List.getElem?_map,List.getElem?_take_of_lt hi,List.getElem?_eq_getElem hzi];rfl
        rw [C5,List.getElem?_map,e1]
        simp only [Option.map_some,Fl.u8,List.getD_eq_getElem?_getD,List.getElem?_eq_getElem hzi,Option.getD_some]
        congr 2
        simp only [UInt8.toNat_ofNat']
        omega
      | _=>simp only [hh] at h1;cases h1
theorem a8I {I:Im}{L:Lh}{w:World}{u:Value}{l:List UInt8}(hm:Mem I L w)(h:SlA I u l):Lib.HoldsBytes w u l:=by
 obtain⟨xs,⟨a,c,rfl,hl,hnc,hcm,hnil,hx⟩,hr⟩:=h
 obtain rfl:=a06.1 hr
 refine⟨a,c,j0,fun e => ?_,fun b hb i x hi => ?_⟩
 ·have:=hnil e
  exact List.length_eq_zero_iff.1 (by omega)
 ·have hne:C5 l ≠ []:=by
   intro e
   have:l = []:=by simpa [C5] using e
   subst this;cases hi
  obtain⟨b',o,e,hc⟩:=hx hne
  rw [hb] at e
  obtain rfl:=Option.some.inj e
  rw [Lib.add_plain2]
  exact hc.cell hm (by rw [C5,List.getElem?_map,hi];rfl)
theorem c2A {I:Im}{L:Lh}{w:World}{b o:Nat}(hm:Mem I L w):∀ {ls:List (List UInt8)} {xs:List Value},P2 I ls xs→Cells I b o xs→Lib.PartsAt w ⟨b,o,none⟩ xs ls:=fun {ls xs} h hc=>by
 have hlen:xs.length=ls.length:=by have:=h.len;simpa [u3.size] using this
 refine⟨hlen,fun i v hv=>by rw [Lib.add_plain2];exact hc.cell hm hv,fun i v l hv hl => ?_⟩
 have hi:i < ls.length:=(List.getElem?_eq_some_iff.1 hl).1
 have hg:=h.get i hi
 obtain⟨u,e,hu⟩:=hg
 have e2:ls[i]=l:=(List.getElem?_eq_some_iff.1 hl).2
 have e3:u=v:=by
  have:(K5 xs (i*u3.size (List UInt8)) (u3.size (List UInt8)))[0]?=some u:=by rw [e];rfl
  simp only [K5,u3.size,Nat.mul_one] at this
  rw [List.getElem?_take_of_lt (by omega),List.getElem?_drop,Nat.add_zero,hv] at this
  exact(Option.some.inj this).symm
 subst e3;subst e2
 exact a8I hm hu
theorem b2V (ls:List (List UInt8)):Lib.join ls []=ls.flatten:=by
 cases ls with
 | nil=>rfl
 | cons x r=>rw [Lib.join_cons,Lib.joinTail];simp
theorem b9M {G:Gl}{P:Program}{ρ:Ren}(L:SlLaysJ.n14 P ρ)(hok:a4c P (ρ.f 14))(ls:List (List UInt8))(h2:2≤ls.length)(hn:ls.length≤140737488355328)(hlen:Lib.lens ls≤140737488355328) :
    C4 G P (ρ.f 14) [.v ls,.v ([]:List UInt8)] (fun r=>r = .v ls.flatten):=fun I vs hG hv=>by
  obtain⟨u1,_,rfl,⟨_,⟨v1,rfl,hs⟩,rfl⟩,u2,_,rfl,⟨_,⟨v2,rfl,hs2⟩,rfl⟩,rfl⟩:=hv
  refine⟨hok,fun w hm => ?_⟩
  have hS:=a8I hm hs2
  obtain⟨xs,⟨a,c,rfl,hl,hnc,hcm,hnil,hx⟩,hr⟩:=hs
  obtain⟨b,o,rfl,hc⟩:=hx (fun e=>by
    have:=hr.len
    rw [e] at this
    simp [u3.size] at this
    omega)
  refine(Any.bytes_Join_many L b o ls.length c xs ls _ [] w j0 h2 (c2A hm hr hc) hnc hS hn (by simpa using hlen)).mono ?_
  rintro e w' ⟨v',rfl,hf,hb⟩
  obtain⟨J,h1,h3,h4,h5⟩:=b4r hm hb hf
  exact⟨v',J,rfl,Chg.c2z hb,h1,h3,h4,_,h5,by rw [b2V]⟩
end Go.Ab
namespace Go.Ab
open Go.Fl Go.RowKit
open u3 (rep)
structure OF (α:Type) where
 E:TypeId
 l:List α
 own:Bool
instance {α:Type}[u3 α]:UB (OF α) where
 ub I w x X:=(x.own=false∧X = []∧F9 I (.v x.l) w)∨(x.own=true∧(C3.own x.E w x.l).a0H I X)
 mono hle h:=h.elim (fun h => .inl ⟨h.1,h.2.1,h.2.2.mono hle⟩) (fun h => .inr ⟨h.1,C3.mono hle h.2⟩)
theorem c7J {α:Type}[u3 α]{I J:Im}{w:Value}{x:OF α}{X:List (Nat×Obj)}(h:(C3.P4 w x).a0H I X)(hle:Le I J)(hp:∀ p∈X,J p.1=some p.2):F9 J (.v x.l) w:=by
 rcases h with ⟨_,_,h⟩|⟨_,h⟩
 ·exact h.mono hle
 ·exact O9 h hle hp
section rules
variable {P:Program}{C:Ctx}{N:Nat}{σ:o8}{H:j8}{Q:Exit→o8→j8→Prop}
theorem wpA.M1 {α:Type}{r:u3 α}(E:TypeId){w:Value}{l:List α}{b:Bool}{c:Code}{F:Bool×C3→j8}(hH:H9 H (b,.fz w (.v l)) F)(k:wpA P C N c Q σ (F (b,.P4 w (OF.mk E l false)))):wpA P C N c Q σ H:=fun ρ I L hs=>by
 obtain⟨i,X,h2,h3,h4⟩:=hH.get hs.heap
 have hset:L.set i X=L:=by
  obtain⟨hi,e⟩:=List.getElem?_eq_some_iff.1 h2
  rw [←e,List.set_getElem_self]
 have:=h4 I (b,.P4 w (OF.mk E l false)) X (Le.refl I) ⟨.inl ⟨rfl,h3.1.1,h3.1.2⟩,h3.2⟩
 rw [hset] at this
 exact k ρ I L ⟨hs.env,this,hs.U9⟩
theorem wpA.c99 {α:Type}{r:u3 α}{E:TypeId}{w:Value}{l:List α}{b:Bool}{c:Code}{F:Bool×C3→j8}(hH:H9 H (b,.own E w l) F)(k:wpA P C N c Q σ (F (b,.P4 w (OF.mk E l true)))):wpA P C N c Q σ H:=fun ρ I L hs=>by
 obtain⟨i,X,h2,h3,h4⟩:=hH.get hs.heap
 have hset:L.set i X=L:=by
  obtain⟨hi,e⟩:=List.getElem?_eq_some_iff.1 h2
  rw [←e,List.set_getElem_self]
 have:=h4 I (b,.P4 w (OF.mk E l true)) X (Le.refl I) ⟨.inr ⟨rfl,h3.1⟩,h3.2⟩
 rw [hset] at this
 exact k ρ I L ⟨hs.env,this,hs.U9⟩
theorem wpA.d0a {α:Type}{r:u3 α}{w:Value}{s:OF α}(ho:s.own=true){b:Bool}{c:Code}{F:Bool×C3→j8}(hH:H9 H (b,.P4 w s) F)(k:wpA P C N c Q σ (F (b,.own s.E w s.l))):wpA P C N c Q σ H:=fun ρ I L hs=>by
 obtain⟨i,X,h2,h3,h4⟩:=hH.get hs.heap
 have hset:L.set i X=L:=by
  obtain⟨hi,e⟩:=List.getElem?_eq_some_iff.1 h2
  rw [←e,List.set_getElem_self]
 have h5:(C3.own s.E w s.l).a0H I X:=by
  rcases h3.1 with h|h
  ·rw [ho] at h;cases h.1
  ·exact h.2
 have:=h4 I (b,.own s.E w s.l) X (Le.refl I) ⟨h5,h3.2⟩
 rw [hset] at this
 exact k ρ I L ⟨hs.env,this,hs.U9⟩
theorem wpA.d0b (hC:Ctx.Ok C){α:Type}{r:u3 α}{w:Value}{s:OF α}{c:Code}{F:Bool×C3→j8}(hH:H9 H (true,.P4 w s) F)(k:wpA P C N c Q σ (F (true,.fz w (.v s.l)))):wpA P C N c Q σ H:=fun ρ I L hs=>by
 obtain⟨i,X,h1,h2,h3⟩:=hH.get hs.heap
 refine .freeze i h1 (a3F hC h2) fun J hle hp=>k ρ J _ ⟨(hs.mono hle).env,h3 J _ [] hle ⟨⟨rfl,c7J h2.1 hle hp⟩,by simp⟩,hs.U9.trans hle⟩
end rules
theorem G5.d0c {P:Program}{C:Ctx}{σ:o8}{H:j8}{G:Gl}{f:FuncId}(hG:G.p C.I0){α β:Type}[u3 α][u3 β]{g1:α→β}(h:∀ x:α,C4 G P f [.v x] (fun r=>r = .v (g1 x))):G5 C σ H (.func f) (.a62 P g1) :=
 show G5 C σ H (.func f) (.clo P (fun x:α => [.v x]) (fun x => .v (g1 x))) from G5.c9G hG h
theorem OpH.b2W {P:Program}{C:Ctx}{N:Nat}{σ:o8}{H:j8}{KH:AV→j8→Prop}{d:Option Nat}{ty:TypeId}{ps:String}{af:Array Edge}{g:Option (Nat×Bool)}{y:Operand}{T E U:TypeId}{α:Type}{r:u3 α}{i0:Inhabited α}{by_ t:Nat}{w:Value}{l m:List α}{bb:Bool}{F:Bool×C3→j8}(st:SlT P T E α by_)(hU:(∃ E2,P.underlying U=some (.slice E2))∨P.underlying U=some .string)(hx:F6 σ t=some (.raw w))
    (hH:H9 H (bb,.own E w l) F)(hy:a5Y P C σ H y m)(hb:(l.length+m.length)*by_≤140737488355328)(hn:l.length+m.length≤9223372036854775807)(k:∀ w',KH (.raw w') (F (bb,.own E w' (l++m)))) :
    OpH P C N ⟨d,.call ⟨.builtin .append,#[.tmp t,y],#[T,U]⟩,ty,ps,af,g⟩ σ H KH:=fun ρ I L hs=>by
  obtain⟨u,h1,rfl⟩:=hs.env t _ hx
  obtain⟨v,news,h2,h3,h4⟩:=hy ρ I L hs
  obtain⟨j,X,h5,h6,h7⟩:=hH.get hs.heap
  obtain⟨xs,h8,h9⟩:=h6.1
  intro a w0 ha hst
  refine Yld.mono (OpS.b2E (K:=fun v' J L'=>∃ X',L'=L.set j X'∧J=I∧a0Q E (u3.size α) v' (l.length+m.length) (xs++news) X'∧(∀ p∈X',p.1∈X.map Prod.fst∨C.w0.heap.size≤p.1)) j st.elt st.pos hU (x := .tmp t) h1 h2 h5 h8 h3 h4.flat (by unfold maxLen;omega) hb (fun v' X' ho hn=>⟨X',rfl,rfl,ho,hn⟩) a w0 ha hst) ?_
  rintro v' w' ⟨J,L',hst',X',rfl,rfl,ho,hnew⟩
  refine⟨J,_,hst',Le.refl J,.raw v',_,rfl,h7 J (bb,.own E v' (l++m)) X' (Le.refl J) ⟨⟨xs++news,by rw [List.length_append];exact ho,h9.append h4⟩,fun hbb p hp => ?_⟩,k v'⟩
  rcases hnew p hp with h|h
  · obtain⟨q,hq,hqe⟩:=List.mem_map.1 h
    rw [←hqe];exact h6.2 hbb q hq
  · exact h
section del
variable {P:Program}{C:Ctx}{N:Nat}{σ:o8}{H H':j8}{Q:Exit→o8→j8→Prop}
end del
end Go.Ab
namespace Go.Fl
section scope
variable {P:Program}{b:Frame}{a:Act}{k:List Item}{cs:List Frame}{w:World}
theorem a1q {c:Code}:step P (lone (b.atR a (.code (.scope c)::k)) cs w) = .next (lone (b.atR a (.code c :: .inScope c::k)) cs w) :=
 step_lone_go (by simp [stepG,stepG.exec,Frame.atR])
theorem b1m {c:Code}:step P (lone (b.atR a (.inScope c::k)) cs w) = .next (lone (b.atR a k) cs w) :=
 step_lone_go (by simp [stepG,stepG.exec,Frame.atR])
theorem b4s {F:Fence}{n:Nat}{Q Q':Exit→Act→World→Prop}{c:Code}(h:c.wpIn F n P Q' a w)(hq:∀ e a w,Q' e a w→Q e a w∧∀ l,e ≠ .goto l):(Code.scope c).wpIn F n P Q a w:=by
 intro b k cs hro hb hr
 have h0:(lone (b.atR a (.code (.scope c)::k)) cs w).fenced P F:=fenced_calm hb hr rfl
 obtain⟨e,a₁,w₁,hq1,harr⟩:=h b (.inScope c::k) cs hro hb hr
 obtain⟨hq2,hq3⟩:=hq e a₁ w₁ hq1
 cases e with
 | normal=>exact⟨.normal,a₁,w₁,hq2,.head h0 a1q (StepsIn.trans harr (.one (fenced_calm hb hr rfl) b1m))⟩
 | exit id =>
  have hx:exitTo id (.inScope c::k)=exitTo id k:=by simp [exitTo]
  exact⟨.exit id,a₁,w₁,hq2,fun k' hk => .head h0 a1q (harr.1 k' (by rw [hx];exact hk)),
   fun hr' hk=>let ⟨k₁,h1,h2⟩:=harr.2 hr' (by rw [hx];exact hk);⟨k₁,h1,.head h0 a1q h2⟩⟩
 | goto l=>exact absurd rfl (hq3 l)
 | ret=>exact⟨_,a₁,w₁,hq2,.of_steps (.one h0 a1q) harr⟩
 | panic ch=>exact⟨_,a₁,w₁,hq2,.of_steps (.one h0 a1q) harr⟩
 | outgrown=>exact⟨_,a₁,w₁,hq2,.of_steps (.one h0 a1q) harr⟩
end scope
end Go.Fl
namespace Go.Ab
open Go.Fl Go.RowKit
@[reducible] def d2v (Q:Exit→o8→j8→Prop):Exit→o8→j8→Prop
 | .goto _,_,_=>False
 | e,σ,H=>Q e σ H
theorem wpA.scope {P:Program}{C:Ctx}{N:Nat}{σ:o8}{H:j8}{Q:Exit→o8→j8→Prop}{c:Code}(k:wpA P C N c (d2v Q) σ H):wpA P C N (.scope c) Q σ H:=fun ρ I L hs a w ha hst=>by
 refine b4s (k ρ I L hs a w ha hst) ?_
 rintro e a w ⟨ρ,I,L,h1,h2,σ,H,h3,h4⟩
 cases e with
 | goto l=>exact h4.elim
 | _=>exact⟨⟨ρ,I,L,h1,h2,σ,H,h3,h4⟩,fun l h=>by cases h⟩
theorem wpA.label {P:Program}{C:Ctx}{N:Nat}{σ:o8}{H:j8}{Q:Exit→o8→j8→Prop}{l:Nat}(h:Q .normal σ H):wpA P C N (.label l) Q σ H:=fun ρ I L hs a w ha hst =>
 wpIn_label ⟨ρ,I,L,ha,hst,σ,H,hs,h⟩
section d0d
variable {P:Program}{C:Ctx}{N:Nat}{Q:Exit→o8→j8→Prop}{σ:o8}{H:j8}
end d0d
theorem OpP.b7V {P:Program}{N:Nat}{C:Ctx}{σ:o8}{H:j8}{K:AV→Prop}{d:Option Nat}{ty:TypeId}{ps:String}{af:Array Edge}{g:Option (Nat×Bool)}{x y:Operand}{T T2:TypeId}{m c:UInt64}(hx:G5 C σ H x (.v m))(hy:G5 C σ H y (.v c))(h0:0≤c.toNat)(h1:c.toNat < 64)(k:K (.v (m <<< c))):OpP P N C ⟨d,.binOp .shl T x y T2,ty,ps,af,g⟩ σ H K :=
 .vk k (fun ρ I L hs=>O3.b7V c.toNat (hx.a4i hs) (hy.a4i hs) rfl h1 ⟨[Fl.u64 (m <<< c)],rfl,by rw [UInt64.ofNat_toNat];rfl⟩)
theorem OpP.c1v {P:Program}{N:Nat}{C:Ctx}{σ:o8}{H:j8}{K:AV→Prop}{d:Option Nat}{ty:TypeId}{ps:String}{af:Array Edge}{g:Option (Nat×Bool)}{x:Operand}{T:TypeId}{m:UInt64}(hx:G5 C σ H x (.v m))(k:K (.v (~~~m))):OpP P N C ⟨d,.unOp .xor T x,ty,ps,af,g⟩ σ H K :=
 .vk k (fun ρ I L hs=>O3.c1v (hx.a4i hs) ⟨[Fl.u64 (~~~m)],rfl,rfl⟩)
end Go.Ab
namespace Go.Ab
open Go.Fl Go.RowKit
open u3 (rep)
section d2w
variable {P:Program}{C:Ctx}{N:Nat}{σ:o8}{H:j8}{Q:Exit→o8→j8→Prop}
theorem H9.fz {w:Value}{a:AV}{b:Bool}{F:Bool×C3→j8}(hH:H9 H (b,.fz w a) F){n0:Nat}{I:Im}{L:Lh}(hr:T4 n0 I H L):F9 I a w:=by
 obtain⟨i,X,h1,h2,h3⟩:=hH.get hr
 exact h2.1.2
end d2w
section rawOps
variable {P:Program}{C:Ctx}{N:Nat}{σ:o8}{H:j8}
end rawOps
end Go.Ab
namespace Go.Ab
open Go.Fl Go.RowKit
open u3 (rep)
universe u v
instance {g:Bool}{α:Type}{r:UB α}{a:α}{H:j8}{w:Value}:HoQ ((g,.P4 w a)::H) w (g,.P4 w a) (fun X=>X::H):=⟨.z⟩
instance {g:Bool}{a:AV}{H:j8}{w:Value}:HoQ ((g,.fz w a)::H) w (g,.fz w a) (fun X=>X::H):=⟨.z⟩
class TkQ (H:j8)(ws:List Value)(Bs:outParam j8)(H':outParam j8):Prop where
 h:∀ n0 I L,T4 n0 I H L→∃ Xs R,(Xs.flatten++R.flatten).Perm L.flatten∧T4 n0 I Bs Xs∧T4 n0 I H' R
instance {H:j8}:TkQ H [] [] H:=⟨fun n0 I L h=>⟨[],L,List.Perm.refl _,rfl,h⟩⟩
instance {H H' Bs:j8}{w:Value}{ws:List Value}{B:Bool×C3}{F:Bool×C3→j8}[k:HoQ H w B F][t:TkQ (F (true,.fz w (.raw w))) ws Bs H']:TkQ H (w::ws) (B::Bs) H':=⟨fun n0 I L h=>by
 obtain⟨i,X,h1,h2,h3⟩:=k.h.get h
 obtain⟨Xs,R,q1,q2,q3⟩:=t.h n0 I _ (h3 I (true,.fz w (.raw w)) [] (Le.refl I) ⟨⟨rfl,rfl⟩,fun _ p hp=>by cases hp⟩)
 refine⟨X::Xs,R,?_,⟨X,Xs,j0,h2,q2⟩,q3⟩
 have h7:(L.set i [])[i]?=some []:=by
  have hi:=(List.getElem?_eq_some_iff.1 h1).1
  simp [hi]
 have h8:=W9 h7 X
 have h9:(L.set i []).set i X=L:=by
  obtain⟨hi,e⟩:=List.getElem?_eq_some_iff.1 h1
  rw [List.set_set,←e,List.set_getElem_self]
 rw [h9] at h8
 rw [List.flatten_cons,List.append_assoc]
 exact(List.Perm.append_left X q1).trans h8.symm⟩
class PbQ (H:j8)(ws:List Value)(Cs:j8)(H':outParam j8):Prop where
 h:∀ n0 J R Ys,T4 n0 J H R→T4 n0 J Cs Ys→∃ L',L'.flatten.Perm (Ys.flatten++R.flatten)∧T4 n0 J H' L'
instance {H:j8}:PbQ H [] [] H:=⟨fun n0 J R Ys h hy=>by
 have hy:Ys = []:=hy
 subst hy
 exact⟨R,List.Perm.refl _,h⟩⟩
instance {H H' Cs:j8}{w w':Value}{a:AV}{ws:List Value}{C:Bool×C3}{F:Bool×C3→j8}{g:Bool}[k:HoQ H w (g,.fz w' a) F][t:PbQ (F C) ws Cs H']:PbQ H (w::ws) (C::Cs) H':=⟨fun n0 J R Ys h hy=>by
 obtain⟨Y,Ys,rfl,hy1,hy2⟩:=hy
 obtain⟨i,X,h1,h2,h3⟩:=k.h.get h
 have hX:X = []:=h2.1.1
 subst hX
 obtain⟨L',q1,q2⟩:=t.h n0 J _ Ys (h3 J C Y (Le.refl J) hy1) hy2
 refine⟨L',q1.trans ?_,q2⟩
 rw [List.flatten_cons]
 refine(List.Perm.append_left _ (W9 h1 Y)).trans ?_
 rw [←List.append_assoc]
 exact List.Perm.append_right _ List.perm_append_comm⟩
def b4t:j8→Bool
 | []=>true
 | B::r=>B.1&&b4t r
@[reducible] def b4u (b:Bool):List C3→j8
 | [] => []
 | B::r=>(b,B)::b4u b r
theorem b0m {n0:Nat}{I:Fl.Im}:∀ {Bs:j8} {Xs:Lh},T4 n0 I Bs Xs→Q9 I (Bs.map Prod.snd) Xs
 | [],_,h=>h
 | B::Bs,_,h=>by obtain⟨X,R,rfl,h2,h3⟩:=h;exact⟨X,R,rfl,h2.1,b0m h3⟩
theorem b2X {n0:Nat}{I:Fl.Im}:∀ {Bs:j8} {Xs:Lh},T4 n0 I Bs Xs→b4t Bs=true→∀ p∈Xs.flatten,n0≤p.1
 | [],_,h,_,p,hp=>by have h:_ = []:=h;subst h;cases hp
 | B::Bs,_,h,hb,p,hp=>by
  obtain⟨X,R,rfl,h2,h3⟩:=h
  obtain⟨hb1,hb2⟩:=Bool.and_eq_true_iff.1 hb
  rw [List.flatten_cons,List.mem_append] at hp
  rcases hp with hp|hp
  ·exact h2.2 hb1 p hp
  ·exact b2X h3 hb2 p hp
theorem b0n {n0:Nat}{I:Fl.Im}{b:Bool}:∀ {Bs:List C3} {Xs:Lh},Q9 I Bs Xs→(b=true→∀ p∈Xs.flatten,n0≤p.1)→T4 n0 I (b4u b Bs) Xs
 | [],_,h,_=>h
 | B::Bs,_,h,hp=>by
  obtain⟨X,R,rfl,h2,h3⟩:=h
  exact⟨X,R,j0,⟨h2,fun e p q=>hp e p (by rw [List.flatten_cons];exact List.mem_append_left _ q)⟩,b0n h3 fun e p q=>hp e p (by rw [List.flatten_cons];exact List.mem_append_right _ q)⟩
theorem b4v {I:Fl.Im}:∀ {As Bs:List C3} {Xs:Lh},Q9 I (As++Bs) Xs→∃ Ys Zs,Xs=Ys++Zs∧Q9 I As Ys∧Q9 I Bs Zs
 | [],_,Xs,h=>⟨[],Xs,rfl,rfl,h⟩
 | A::As,Bs,_,h=>by
  obtain⟨X,R,rfl,h2,h3⟩:=h
  obtain⟨Ys,Zs,rfl,h4,h5⟩:=b4v h3
  exact⟨X::Ys,Zs,j0,⟨X,Ys,j0,h2,h4⟩,h5⟩
theorem a7a {n0:Nat}{I:Fl.Im}:∀ {As Bs:j8} {Ys Zs:Lh},T4 n0 I As Ys→T4 n0 I Bs Zs→T4 n0 I (As++Bs) (Ys++Zs)
 | [],_,_,_,h,k=>by have h:_ = []:=h;subst h;exact k
 | A::As,Bs,_,_,h,k=>by obtain⟨X,R,rfl,h2,h3⟩:=h;exact⟨X,R++_,rfl,h2,a7a h3 k⟩
theorem OpS.d0e {P:Program}{C:Ctx}{N:Nat}{σ:o8}{H H1 Bs:j8}{ρ:Env}{I:Fl.Im}{L:Lh}{ws:List Value}{f:FuncId}{ag:List AV}{post:AV→List C3→Prop}{K:AV→j8→Prop}{d:Option Nat}{args:Array Operand}{tys:Array TypeId}{ty:TypeId}{ps:String}{af:Array Edge}{g:Option (Nat×Bool)}{vs:List Value}{G:Gl}
    (hG:G.p C.I0)(hs:RSt C I L σ H ρ)(h1:evL ρ args.toList=some vs)(h2:T5 I ag vs)(tk:TkQ H ws Bs H1){Bs0:List C3}(hB:Bs.map Prod.snd=Bs0)(h:C6 G P f ag Bs0 post)
    (k:∀ r Hs,post r Hs→∃ Cs Ns H2,Hs=Cs++Ns∧PbQ H1 ws (b4u (b4t Bs) Cs) H2∧K r (b4u (b4t Bs) Ns++H2)):OpS P C N ⟨d,.call ⟨.value (.func f),args,tys⟩,ty,ps,af,g⟩ ρ I L (fun v J L'=>Le I J∧∃ r H',F9 J r v∧T4 C.w0.heap.size J H' L'∧K r H'):=by
  obtain⟨Xs,R,q1,q2,q3⟩:=tk.h _ I L hs.heap
  have hM:=h I Xs vs (G.mono hs.U9 hG) h2 (hB▸b0m q2)
  have hM2:a9I P f vs.toArray I [Xs.flatten] (fun v J L'=>∃ r Hs L2,L' = [L2.flatten]∧F9 J r v∧Q9 J Hs L2∧post r Hs):=⟨hM.ok,fun w hm=>by
    have e:([Xs.flatten]:Lh).flatten=Xs.flatten:=by simp
    rw [e]
    refine(hM.run w ⟨hm.im,by rw [←e];exact hm.loc,by rw [←e];exact hm.sep,by rw [←e];exact hm.nodup⟩).mono ?_
    rintro e' w' ⟨v,J,L2,rfl,p1,p2,p3,p4,p5,r,Hs,p6,p7,p8⟩
    have e2:([L2.flatten]:Lh).flatten=L2.flatten:=by simp
    exact⟨v,J,[L2.flatten],rfl,p1,p2,p3,⟨p4.im,by rw [e2];exact p4.loc,by rw [e2];exact p4.sep,by rw [e2];exact p4.nodup⟩,by rw [e2];exact p5,r,Hs,L2,rfl,p6,p7,p8⟩⟩
  intro a w0 ha hst
  have hst2:St C I (Xs.flatten::R) w0:=a4o hst (by rw [List.flatten_cons];exact q1)
  refine(OpS.c1Z (K:=fun v J L'=>∃ c',L'=c'::R∧Le I J∧(∃ r Hs L2,c'=L2.flatten∧F9 J r v∧Q9 J Hs L2∧post r Hs)∧(∀ p∈c',C.w0.heap.size≤p.1∨p.1∈Xs.flatten.map Prod.fst)) 0 (c:=Xs.flatten) j0 j0 h1 hM2 ?_ ?_ a w0 ha hst2).mono ?_
  · rintro v J c' w hle ⟨r,Hs,L2,e,p6,p7,p8⟩ hnew hsz
    exact⟨c',rfl,hle,⟨r,Hs,L2,by simpa using e,p6,p7,p8⟩,fun p hp=>(hnew p hp).imp (fun h=>Nat.le_trans hsz h) id⟩
  · rintro v J L' ⟨r,Hs,L2,e,_⟩
    exact⟨_,e⟩
  · rintro v w' ⟨J,L',hst',c',rfl,hle,⟨r,Hs,L2,rfl,p6,p7,p8⟩,hnew⟩
    obtain⟨Cs,Ns,H2,rfl,pb,hk⟩:=k r Hs p8
    obtain⟨Ys,Zs,rfl,p9,p10⟩:=b4v p7
    have hfr:b4t Bs=true→∀ p∈(Ys++Zs).flatten,C.w0.heap.size≤p.1:=fun hb p hp=>by
      rcases hnew p hp with h|h
      · exact h
      · obtain⟨q,hq,hqe⟩:=List.mem_map.1 h
        rw [←hqe];exact b2X q2 hb q hq
    obtain⟨L3,p11,p12⟩:=pb.h C.w0.heap.size J R Ys (q3.mono hle) (b0n p9 fun hb p hp=>hfr hb p (by rw [List.flatten_append];exact List.mem_append_left _ hp))
    refine⟨J,Zs++L3,a4o hst' ?_,hle,r,_,p6,a7a (b0n p10 fun hb p hp=>hfr hb p (by rw [List.flatten_append];exact List.mem_append_right _ hp)) p12,hk⟩
    rw [List.flatten_append,List.flatten_cons,List.flatten_append]
    refine(List.Perm.append_left _ p11).trans ?_
    rw [←List.append_assoc]
    exact List.Perm.append_right _ List.perm_append_comm
def a7b (P:Program)(N:Nat)(C:Ctx)(o:Oper)(σ:o8)(H:j8)(f:FuncId)(ag:List AV):Prop :=
 ∀ ρ I L,RSt C I L σ H ρ→∃ vs,T5 I ag vs∧(a4c P f→∀ a w,Fits N ρ a→(execOp a.eval o).run P w = .ok (.enter f vs.toArray) w)
theorem a7b.call {P:Program}{N:Nat}{C:Ctx}{σ:o8}{H:j8}{f:FuncId}{ag:List AV}{d:Option Nat}{args:Array Operand}{tys:Array TypeId}{ty:TypeId}{ps:String}{af:Array Edge}{g:Option (Nat×Bool)}(hv:a0I C σ H args.toList ag):a7b P N C ⟨d,.call ⟨.value (.func f),args,tys⟩,ty,ps,af,g⟩ σ H f ag:=fun ρ I L hs=>by
 obtain⟨vs,h1,h2⟩:=hv.get hs
 exact⟨vs,h2,fun ok a w ha=>Y0 ok j0 (ha.ev (x := .func f) j0) (ha.evL h1)⟩
theorem a7b.invoke {P:Program}{N:Nat}{C:Ctx}{σ:o8}{H:j8}{f:FuncId}{ag:List AV}{r:AV}{d:Option Nat}{args:Array Operand}{tys:Array TypeId}{ty:TypeId}{ps:String}{af:Array Edge}{g:Option (Nat×Bool)}{recv:Operand}{name:String}{t:TypeId}{v:Value}
    (hm:a1Y P t name f)(hr:G5 C σ H recv (.v (IfV.mk (some (t,v)))))(hk:∀ I,F9 I r v)(hv:a0I C σ H args.toList ag):a7b P N C ⟨d,.call ⟨.invoke recv name,args,tys⟩,ty,ps,af,g⟩ σ H f (r::ag):=fun ρ I L hs=>by
  obtain⟨vs,h1,h2⟩:=hv.get hs
  obtain⟨u,h3,h4⟩:=G5.ifV hr ρ I L hs
  have h4:u = .iface t v:=h4
  subst h4
  exact⟨v::vs,⟨v,vs,j0,hk I,h2⟩,fun ok a w ha=>b2U ok hm j0 (ha.ev h3) (ha.evL h1)⟩
theorem a7b.fnC {P:Program}{N:Nat}{C:Ctx}{σ:o8}{H:j8}{f:FuncId}{ag:List AV}{d:Option Nat}{args:Array Operand}{tys:Array TypeId}{ty:TypeId}{ps:String}{af:Array Edge}{g:Option (Nat×Bool)}{F:Operand}{α:Type}{q:u3 α}{x:α}
    (hF:G5 C σ H F (.v (FnC.mk' f x)))(hv:a0I C σ H args.toList ag):a7b P N C ⟨d,.call ⟨.value F,args,tys⟩,ty,ps,af,g⟩ σ H f (ag ++ [.p x]):=fun ρ I L hs=>by
  obtain⟨vs,h1,h2⟩:=hv.get hs
  obtain⟨u,h3,cs,⟨p,rfl,h4⟩,rfl⟩:=hF ρ I L hs
  exact⟨vs ++ [p],h2.append ⟨p,[],rfl,h4,rfl⟩,fun ok a w ha=>by
    rw [a3n (fi := #[]) (ca := #[p]) ok rfl (ha.ev h3) (ha.evL h1)];simp⟩
theorem a7b.d2x {P:Program}{N:Nat}{C:Ctx}{σ:o8}{H:j8}{f:FuncId}{ag:List AV}{d:Option Nat}{args:Array Operand}{tys:Array TypeId}{ty:TypeId}{ps:String}{af:Array Edge}{g:Option (Nat×Bool)}{F:Operand}{α β:Type}{q:u3 α}{s:u3 β}{x:α}{y:β}
    (hF:G5 C σ H F (.v (a3Z.mk' f x y)))(hv:a0I C σ H args.toList ag):a7b P N C ⟨d,.call ⟨.value F,args,tys⟩,ty,ps,af,g⟩ σ H f (ag ++ [.p x,.p y]):=fun ρ I L hs=>by
  obtain⟨vs,h1,h2⟩:=hv.get hs
  obtain⟨u,h3,cs,⟨p,p',rfl,h4,h5⟩,rfl⟩:=hF ρ I L hs
  exact⟨vs ++ [p,p'],h2.append ⟨p,[p'],rfl,h4,p',[],rfl,h5,rfl⟩,fun ok a w ha=>by
    rw [a3n (fi := #[]) (ca := #[p,p']) ok rfl (ha.ev h3) (ha.evL h1)];simp⟩
theorem OpH.ent {P:Program}{C:Ctx}{N:Nat}{σ:o8}{H H1 Bs:j8}{ws:List Value}{f:FuncId}{ag:List AV}{post:AV→List C3→Prop}{K:AV→j8→Prop}{o:Oper}{G:Gl}
    (hG:G.p C.I0)(en:a7b P N C o σ H f ag)(tk:TkQ H ws Bs H1){Bs0:List C3}(hB:Bs.map Prod.snd=Bs0)(h:C6 G P f ag Bs0 post)
    (k:∀ r Hs,post r Hs→∃ Cs Ns H2,Hs=Cs++Ns∧PbQ H1 ws (b4u (b4t Bs) Cs) H2∧K r (b4u (b4t Bs) Ns++H2)):OpH P C N o σ H K:=fun ρ I L hs=>by
  obtain⟨vs,h2,h3⟩:=en ρ I L hs
  obtain⟨Xs,R,q1,q2,q3⟩:=tk.h _ I L hs.heap
  have ok:=(h I Xs vs (G.mono hs.U9 hG) h2 (hB▸b0m q2)).ok
  have e:evL ρ (vs.map Operand.const)=some vs:=by
    clear h3 h2 ok
    induction vs with
    | nil=>rfl
    | cons v r ih=>rw [List.map_cons];simp [evL,ev,ih]
  have hc:=OpS.d0e (d:=none) (args:=(vs.map Operand.const).toArray) (tys := #[]) (ty:=0) (ps := "") (af := #[]) (g:=none) (N:=N) hG hs (by simpa using e) h2 tk hB h k
  intro a w ha hst
  have h4:=hc a w ha hst
  rw [Y0 ok rfl (ha.ev (x := .func f) rfl) (ha.evL (by simpa using e))] at h4
  rw [h3 ok a w ha]
  exact h4
end Go.Ab
namespace Go.Ab
open Go.Fl Go.RowKit
open u3 (rep)
universe u v
class a5Z (Bs:j8)(Bs0:outParam (List C3))(b:outParam Bool):Prop where
 s:Bs.map Prod.snd=Bs0
 b:b4t Bs=b
instance:a5Z [] [] true:=⟨rfl,rfl⟩
instance {B:C3}{Bs:j8}{Bs0:List C3}{b:Bool}[k:a5Z Bs Bs0 b]:a5Z ((true,B)::Bs) (B::Bs0) b:=⟨by rw [List.map_cons,k.s],k.b⟩
instance {B:C3}{Bs:j8}{Bs0:List C3}{b:Bool}[k:a5Z Bs Bs0 b]:a5Z ((false,B)::Bs) (B::Bs0) false:=⟨by rw [List.map_cons,k.s],rfl⟩
class a5k (b:Bool)(Bs:List C3)(R:outParam j8):Prop where h:b4u b Bs=R
instance {b:Bool}:a5k b [] []:=⟨rfl⟩
instance {b:Bool}{B:C3}{Bs:List C3}{R:j8}[k:a5k b Bs R]:a5k b (B::Bs) ((b,B)::R):=⟨by rw [b4u,k.h]⟩
class b4w (A B:j8)(R:outParam j8):Prop where h:A++B=R
instance {B:j8}:b4w [] B B:=⟨rfl⟩
instance {x:Bool×C3}{A B R:j8}[k:b4w A B R]:b4w (x::A) B (x::R):=⟨by rw [List.cons_append,k.h]⟩
class EnQ (P:Program)(o:Oper)(σ:o8)(f:outParam FuncId)(ag:outParam (List AV)):Prop where h:∀ N C H,a7b P N C o σ H f ag
section
variable {P:Program}{σ:o8}{d:Option Nat}{ty:TypeId}{ps:String}{af:Array Edge}{g:Option (Nat×Bool)}{args:Array Operand}{tys:Array TypeId}{F:Operand}{f:FuncId}{ag:List AV}
instance (priority:=high)[hv:AsQ true σ args.toList ag]:EnQ P ⟨d,.call ⟨.value (.func f),args,tys⟩,ty,ps,af,g⟩ σ f ag:=⟨fun N C H => .call (hv.h C H rfl)⟩
class ApA (ag:List AV)(a:AV)(R:outParam (List AV)):Prop where h:ag ++ [a]=R
instance {a:AV}:ApA [] a [a]:=⟨rfl⟩
instance {a b:AV}{ag R:List AV}[k:ApA ag a R]:ApA (b::ag) a (b::R):=⟨by rw [List.cons_append,k.h]⟩
instance {α:Type}{r:u3 α}{x:α}{R:List AV}[hF:EvQ true σ F (.v (FnC.mk' f x))][hv:AsQ true σ args.toList ag][a:ApA ag (.p x) R]:EnQ P ⟨d,.call ⟨.value F,args,tys⟩,ty,ps,af,g⟩ σ f R:=⟨fun N C H=>a.h ▸ .fnC (hF.h C H rfl) (hv.h C H rfl)⟩
instance {α β:Type}{r:u3 α}{s:u3 β}{x:α}{y:β}{R R2:List AV}[hF:EvQ true σ F (.v (a3Z.mk' f x y))][hv:AsQ true σ args.toList ag][a:ApA ag (.p x) R][b:ApA R (.p y) R2]:EnQ P ⟨d,.call ⟨.value F,args,tys⟩,ty,ps,af,g⟩ σ f R2:=⟨fun N C H=>by
 rw [←b.h,←a.h,List.append_assoc]
 exact .d2x (hF.h C H j0) (hv.h C H j0)⟩
end
class b6C (ag:List AV)(ws:outParam (List Value)):Prop where h:True
instance:b6C [] []:=⟨trivial⟩
instance {α β:Type}{r:u3 α}{s:u3 β}{w:Value}{l:j9 α β}{ag:List AV}{ws:List Value}[k:b6C ag ws]:b6C (.ln w l::ag) (w::ws):=⟨trivial⟩
instance {w:Value}{ag:List AV}{ws:List Value}[k:b6C ag ws]:b6C (.raw w::ag) (w::ws):=⟨trivial⟩
class WnQ (f:FuncId)(ag:List AV)(H:j8)(ws:outParam (List Value)):Prop where h:True
instance (priority:=low){f:FuncId}{ag:List AV}{H:j8}{ws:List Value}[k:b6C ag ws]:WnQ f ag H ws:=⟨trivial⟩
class CaE (G:Gl)(P:Program)(f:FuncId)(ag:List AV)(Bs:List C3)(D:outParam (List Prop))(r:outParam AV)(Cs:outParam (List C3)):Prop where h:Z8 D→C6 G P f ag Bs (fun x Hs=>x=r∧Hs=Cs)
class CaG (G:Gl)(P:Program)(f:FuncId)(ag:List AV)(Bs:List C3)(ι:outParam (Type u))(D:outParam (List Prop))(S:outParam (ι→Prop))(R:outParam (ι→AV))(Cs Ns:outParam (ι→List C3)):Prop where h:Z8 D→C6 G P f ag Bs (fun r Hs=>∃ x,S x∧r=R x∧Hs=Cs x++Ns x)
class CaI (G:Gl)(P:Program)(name:String)(iv:IfV)(ag:List AV)(Bs:List C3)(D:outParam (List Prop))(r:outParam AV)(Cs:outParam (List C3)):Prop where
 h:Z8 D→∃ t v f a,iv.v=some (t,v)∧a1Y P t name f∧(∀ I,F9 I a v)∧C6 G P f (a::ag) Bs (fun x Hs=>x=r∧Hs=Cs)
class a7c (G:Gl)(P:Program)(name:String)(iv:IfV)(ag:List AV)(Bs:List C3)(ι:outParam (Type u))(D:outParam (List Prop))(S:outParam (ι→Prop))(R:outParam (ι→AV))(Cs Ns:outParam (ι→List C3)):Prop where
 h:Z8 D→∃ t v f a,iv.v=some (t,v)∧a1Y P t name f∧(∀ I,F9 I a v)∧C6 G P f (a::ag) Bs (fun r Hs=>∃ x,S x∧r=R x∧Hs=Cs x++Ns x)
class WiQ (iv:IfV)(ag:List AV)(H:j8)(ws:outParam (List Value)):Prop where h:True
section
variable {G:Gl}{P:Program}{ops:List Oper}{σ:o8}{H H1 H2 Bs Cs':j8}{d:Nat}{op:Op}{ty:TypeId}{ps:String}{af:Array Edge}{f:FuncId}{ag:List AV}{ws:List Value}{Bs0 Cs:List C3}{b:Bool}{D:List Prop}{r:AV}{o:Oper}
theorem CaE.hop (k:CaE G P f ag Bs0 D r Cs)(en:EnQ P o σ f ag)(tk:TkQ H ws Bs H1)(sn:a5Z Bs Bs0 b)(wt:a5k b Cs Cs')(pb:PbQ H1 ws Cs' H2){N:Nat}{C:Ctx}(hG:G.p C.I0)(hD:Z8 D){K:AV→j8→Prop}(hk:K r H2):OpH P C N o σ H K :=
 .ent hG (en.h N C H) tk sn.s (k.h hD) fun x Hs e=>⟨Cs,[],H2,by rw [e.2,List.append_nil],by rw [sn.b,wt.h];exact pb,e.1▸hk⟩
instance [en:EnQ P ⟨some d,op,ty,ps,af,none⟩ σ f ag][wn:WnQ f ag H ws][tk:TkQ H ws Bs H1][sn:a5Z Bs Bs0 b][k:CaE G P f ag Bs0 D r Cs][wt:a5k b Cs Cs'][pb:PbQ H1 ws Cs' H2]:StD G P ops ⟨some d,op,ty,ps,af,none⟩ σ H D ((d,r)::σ) H2:=⟨fun N C Q rest hG hD q => .h (k.hop en tk sn wt pb hG hD q)⟩
variable {recv:Operand}{name:String}{args:Array Operand}{tys:Array TypeId}{iv:IfV}
theorem CaI.hop (k:CaI G P name iv ag Bs0 D r Cs){N:Nat}{C:Ctx}(hr:G5 C σ H recv (.v iv))(hv:a0I C σ H args.toList ag)(tk:TkQ H ws Bs H1)(sn:a5Z Bs Bs0 b)(wt:a5k b Cs Cs')(pb:PbQ H1 ws Cs' H2)(hG:G.p C.I0)(hD:Z8 D){K:AV→j8→Prop}(hk:K r H2){dd:Option Nat}:OpH P C N ⟨dd,.call ⟨.invoke recv name,args,tys⟩,ty,ps,af,none⟩ σ H K:=by
 obtain⟨t,v,f,a,e,hm,ha,h⟩:=k.h hD
 obtain⟨o⟩:=iv
 have e:o=some (t,v):=e
 subst e
 exact .ent hG (.invoke hm hr ha hv) tk sn.s h fun x Hs e=>⟨Cs,[],H2,by rw [e.2,List.append_nil],by rw [sn.b,wt.h];exact pb,e.1▸hk⟩
instance [hr:EvQ true σ recv (.v iv)][hv:AsQ true σ args.toList ag][wn:WiQ iv ag H ws][tk:TkQ H ws Bs H1][sn:a5Z Bs Bs0 b][k:CaI G P name iv ag Bs0 D r Cs][wt:a5k b Cs Cs'][pb:PbQ H1 ws Cs' H2]:StD G P ops ⟨some d,.call ⟨.invoke recv name,args,tys⟩,ty,ps,af,none⟩ σ H D ((d,r)::σ) H2:=⟨fun N C Q rest hG hD q => .h (k.hop (hr.h C H rfl) (hv.h C H rfl) tk sn wt pb hG hD q)⟩
end
section
variable {mo:Nat}{G:Gl}{P:Program}{C:Ctx}{N n:Nat}{ops:List Oper}{Q:Exit→o8→j8→Prop}{l:List Oper}{σ:o8}{H H1 Bs:j8}{d:Nat}{ty:TypeId}{ps:String}{af:Array Edge}{f:FuncId}{ag:List AV}{ws:List Value}{Bs0:List C3}{b:Bool}{ι:Type u}{D:List Prop}{S:ι→Prop}{R:ι→AV}{Cs Ns:ι→List C3}{Cs' Ns' H2 H3:ι→j8}{E:List Bool}{EX:ι→List Bool}{AX:ι→Prop}{A:Prop}{op:Op}
instance [en:EnQ P ⟨some d,op,ty,ps,af,none⟩ σ f ag][wn:WnQ f ag H ws][tk:TkQ H ws Bs H1][sn:a5Z Bs Bs0 b][c:CaG G P f ag Bs0 ι D S R Cs Ns][wt:∀ x,a5k b (Cs x) (Cs' x)][pb:∀ x,PbQ H1 ws (Cs' x) (H2 x)][wn':∀ x,a5k b (Ns x) (Ns' x)][ap:∀ x,b4w (Ns' x) (H2 x) (H3 x)]
    [k:∀ x,Rw mo G P C N n (.b ops Q l) ((d,R x)::σ) (H3 x) (EX x) (AX x)][cE:CoQ EX E][pr:PrQ D (∀ x,S x→AX x) A]:Rw mo G P C N (n+1) (.b ops Q (⟨some d,op,ty,ps,af,none⟩::l)) σ H E A :=
  ⟨fun g e h => .h (.ent g.2 (en.h N C H) tk sn.s (c.h (pr.h h).1) fun r Hs q=>by
    obtain⟨x,hx,rfl,rfl⟩:=q
    refine⟨Cs x,Ns x,H2 x,rfl,by rw [sn.b,(wt x).h];exact pb x,?_⟩
    rw [sn.b,(wn' x).h,(ap x).h]
    exact(k x).h g (cast (congrArg (fun z=>a0K z=true) (cE.h x)).symm e) ((pr.h h).2 x hx))⟩
variable {recv:Operand}{name:String}{args:Array Operand}{tys:Array TypeId}{iv:IfV}
theorem a7c.hop (c:a7c G P name iv ag Bs0 ι D S R Cs Ns)(hr:G5 C σ H recv (.v iv))(hv:a0I C σ H args.toList ag)(tk:TkQ H ws Bs H1)(sn:a5Z Bs Bs0 b)(wt:∀ x,a5k b (Cs x) (Cs' x))(pb:∀ x,PbQ H1 ws (Cs' x) (H2 x))(wn':∀ x,a5k b (Ns x) (Ns' x))(ap:∀ x,b4w (Ns' x) (H2 x) (H3 x))
    (hG:G.p C.I0)(hD:Z8 D){K:AV→j8→Prop}(hk:∀ x,S x→K (R x) (H3 x)){dd:Option Nat}:OpH P C N ⟨dd,.call ⟨.invoke recv name,args,tys⟩,ty,ps,af,none⟩ σ H K:=by
  obtain⟨t,v,f,a,e,hm,ha,h⟩:=c.h hD
  obtain⟨o⟩:=iv
  have e:o=some (t,v):=e
  subst e
  exact .ent hG (.invoke hm hr ha hv) tk sn.s h fun r Hs q=>by
    obtain⟨x,hx,rfl,rfl⟩:=q
    refine⟨Cs x,Ns x,H2 x,rfl,by rw [sn.b,(wt x).h];exact pb x,?_⟩
    rw [sn.b,(wn' x).h,(ap x).h]
    exact hk x hx
instance [hr:EvQ true σ recv (.v iv)][hv:AsQ true σ args.toList ag][wn:WiQ iv ag H ws][tk:TkQ H ws Bs H1][sn:a5Z Bs Bs0 b][c:a7c G P name iv ag Bs0 ι D S R Cs Ns][wt:∀ x,a5k b (Cs x) (Cs' x)][pb:∀ x,PbQ H1 ws (Cs' x) (H2 x)][wn':∀ x,a5k b (Ns x) (Ns' x)][ap:∀ x,b4w (Ns' x) (H2 x) (H3 x)]
    [k:∀ x,Rw mo G P C N n (.b ops Q l) ((d,R x)::σ) (H3 x) (EX x) (AX x)][cE:CoQ EX E][pr:PrQ D (∀ x,S x→AX x) A]:Rw mo G P C N (n+1) (.b ops Q (⟨some d,.call ⟨.invoke recv name,args,tys⟩,ty,ps,af,none⟩::l)) σ H E A :=
  ⟨fun g e h => .h (c.hop (hr.h C H rfl) (hv.h C H rfl) tk sn wt pb wn' ap g.2 (pr.h h).1 fun x hx=>(k x).h g (cast (congrArg (fun z=>a0K z=true) (cE.h x)).symm e) ((pr.h h).2 x hx))⟩
end
end Go.Ab
namespace Go.Ab
open Go.Fl Go.RowKit
open u3 (rep)
universe u v
class LeQ (H:j8)(a:AV)(b:outParam AV):Prop where h:∀ C σ x,G5 C σ H x a→EvL C σ H x b
instance (priority:=low){H:j8}{a b:AV}[p:PlQ a b]:LeQ H a b:=⟨fun C σ x h => .e fun ρ I L hs=>by
 obtain⟨u,h1,h2⟩:=h ρ I L hs
 exact⟨u,h1,p.h I u h2⟩⟩
instance {H:j8}{α:Type}{r:u3 α}{w:Value}{E:TypeId}{l:List α}{g:Bool}{F:Bool×C3→j8}[k:HoQ H w (g,.own E w l) F]:LeQ H (.raw w) (.v l):=⟨fun C σ x h ρ I L hs=>by
 obtain⟨u,h1,rfl⟩:=h ρ I L hs
 obtain⟨i,X,h2,h3,_⟩:=k.h.get hs.heap
 exact⟨_,h1,fun J hle hp=>O9 h3.1 hle (fun p hpx=>hp p (G3 h2 hpx))⟩⟩
instance {H:j8}{w:Value}{a:AV}{g:Bool}{F:Bool×C3→j8}[k:HoQ H w (g,.fz w a) F]:LeQ H (.raw w) a:=⟨fun C σ x h => .e fun ρ I L hs=>by
 obtain⟨u,h1,rfl⟩:=h ρ I L hs
 exact⟨u,h1,H9.fz k.h hs.heap⟩⟩
class AlQ (σ:o8)(H:j8)(xs:List Operand)(ag:outParam (List AV)):Prop where h:∀ C,a6Y C σ H xs ag
instance {σ:o8}{H:j8}:AlQ σ H [] []:=⟨fun _ => .nil⟩
instance {σ:o8}{H:j8}{x:Operand}{a b:AV}{xs:List Operand}{ag:List AV}[h:EvQ true σ x a][l:LeQ H a b][k:AlQ σ H xs ag]:AlQ σ H (x::xs) (b::ag):=⟨fun C => .cons (l.h C σ x (h.h C H rfl)) (k.h C)⟩
class FlQ (r:AV):Prop where h:FlatV r
instance {α:Type}{r:u3 α}[f:a96 α]{x:α}:FlQ (.v x):=⟨.v⟩
instance {a b:AV}[h:FlQ a][k:FlQ b]:FlQ (.t2 a b):=⟨.t2 h.h k.h⟩
instance {u:Value}:FlQ (.raw u):=⟨.raw⟩
class FhQ (Hs:List C3):Prop where h:∀ I J L,Q9 I Hs L→Q9 J Hs L
instance:FhQ []:=⟨fun _ _ _ h=>h⟩
instance {α:Type}{r:u3 α}[f:a96 α]{E:TypeId}{w:Value}{l:List α}{Hs:List C3}[k:FhQ Hs]:FhQ (.own E w l::Hs):=⟨fun I J L h=>by
 obtain⟨X,R,rfl,⟨xs,h1,h2⟩,h3⟩:=h
 exact⟨X,R,j0,⟨xs,h1,h2.any⟩,k.h I J R h3⟩⟩
section
variable {G:Gl}{P:Program}{ops:List Oper}{σ:o8}{H:j8}{d:Nat}{ty:TypeId}{ps:String}{af:Array Edge}{f:FuncId}{args:Array Operand}{tys:Array TypeId}{ag:List AV}{D:List Prop}{r:AV}
end
instance (priority:=low){mo:Nat}{G:Gl}{P:Program}{C:Ctx}{N n:Nat}{ops:List Oper}{Q:Exit→o8→j8→Prop}{l:List Oper}{σ:o8}{H:j8}{d:Nat}{ty:TypeId}{ps:String}{af:Array Edge}{f:FuncId}{args:Array Operand}{tys:Array TypeId}{ag:List AV}{ι:Type u}{D:List Prop}{S:ι→Prop}{R:ι→AV}{Ns:ι→List C3}{E:List Bool}{HX:ι→j8}{EX:ι→List Bool}{AX:ι→Prop}{A:Prop}
    [al:AlQ σ H args.toList ag][c:CaX G P f ag ι D S R Ns][fr:∀ x,FlQ (R x)][fh:∀ x,FhQ (Ns x)][ow:∀ x,OwQ (Ns x) H (HX x)][k:∀ x,Rw mo G P C N n (.b ops Q l) ((d,R x)::σ) (HX x) (EX x) (AX x)][cE:CoQ EX E][pr:PrQ D (∀ x,S x→AX x) A] :
    Rw mo G P C N (n+1) (.b ops Q (⟨some d,.call ⟨.value (.func f),args,tys⟩,ty,ps,af,none⟩::l)) σ H E A :=
  ⟨fun g e h => .h (.lend0 g.2 (c.h (pr.h h).1) (al.h C) (fun r Hs q=>by
    obtain⟨x,_,rfl,rfl⟩:=q
    exact⟨(fr x).h,(fh x).h⟩) fun r Hs q=>by
    obtain⟨x,hx,rfl,rfl⟩:=q
    rw [a9u,(ow x).h]
    exact(k x).h g (cast (congrArg (fun z=>a0K z=true) (cE.h x)).symm e) ((pr.h h).2 x hx))⟩
class TyR (P:Program)(T:TypeId):Prop where h:K1 P T O5
class FdR (P:Program)(T:TypeId)(i:Nat)(β:Type)(s:u3 β)(γ:outParam Type)(q:outParam (u3 γ))(m:outParam (j9 β γ))(f:outParam (β→γ)):Prop where
 h:FdI P T i β s γ q m f
abbrev FdS (P:Program)(T:TypeId)(i:Nat){β γ:Type}[s:u3 β][q:u3 γ](m:j9 β γ)(f:β→γ):Prop:=FdR P T i β s γ q m f
instance (priority:=low){P:Program}{T:TypeId}{β γ:Type}{s:u3 β}{q:u3 γ}{i:Nat}{w:Value}{m:j9 β γ}{f:β→γ}[n:FdR P T i β s γ q m f]:FaQ P T i (.ln w (j9.id (α:=β))) (.ln w m):=⟨fun N C σ H x d ty ps af g h=>by
 obtain⟨sz,k,_⟩:=n.h.h
 exact .P5 m k j0 h j0⟩
class c7M (s:O5)(v:outParam Value):Prop where h:s.v=v
instance {v:Value}:c7M ⟨v⟩ v:=⟨rfl⟩
section
variable {G:Gl}{P:Program}{c:Bool}{σ:o8}{H:j8}{d:Option Nat}{ty:TypeId}{ps:String}{af:Array Edge}{g:Option (Nat×Bool)}{x y:Operand}{T E:TypeId}
instance (priority:=high){α:Type}{r:u3 α}{w v:Value}{l:j9 α O5}{a:α}{bb:Bool}{F:Bool×C3→j8}{f:α→O5}{f':O5→α→α}[t:TyR P T][n:Q2 l f f'][k:HoQ H w (bb,.ob w a) F][s:c7M (f a) v]:LdQ P T (.ln w l) H (.raw v):=⟨fun N C σ x d ty ps af g h=>s.h ▸ .ldR f t.h h k.h n.e rfl⟩
instance (priority:=high){α:Type}{r:u3 α}{w:Value}{l:j9 α O5}{a:α}{v:O5}{bb:Bool}{F:Bool×C3→j8}{f:α→O5}{f':O5→α→α}[t:TyR P T][n:Q2 l f f'][k:HoQ H w (bb,.ob w a) F]:SoQ P T (.ln w l) (.v v) H (F (bb,.ob w (f' v a))):=⟨fun N C σ x y ty ps af g KH hx hy q => .stF f' t.h hx hy k.h n.u q⟩
instance {α:Type}{r:u3 α}{w:Value}{l:List α}{E':TypeId}{bb:Bool}{F:Bool×C3→j8}[hx:EvQ c σ x (.raw w)][k:HoQ H w (bb,.own E' w l) F][u:UnI P T (.slice E)]:OpD G P c ⟨d,.call ⟨.builtin .len,#[x],#[T]⟩,ty,ps,af,g⟩ σ H [] (.v (l.length:Int)):=⟨fun N C hG e _ => .vk rfl fun ρ I L hs=>by
 obtain⟨u',h1,rfl⟩:=hx.h C H e ρ I L hs
 obtain⟨i,X,h2,⟨⟨xs,h3,_⟩,_⟩,_⟩:=k.h.get hs.heap
 have hle:=h3.le
 obtain⟨a,c,rfl⟩:=h3.shape
 exact .len u.h h1 ⟨_,⟨rfl,by omega,by omega⟩,rfl⟩⟩
end
section
variable {G:Gl}{P:Program}{ops:List Oper}{σ:o8}{H H':j8}{ps:String}{af:Array Edge}{ty T E:TypeId}{x:Operand}{t:Nat}
theorem G5.d0g {C:Ctx}{α:Type}{r:u3 α}{w:Value}{l:List α}{b:Bool}{F:Bool×C3→j8}{x:Operand}(hx:G5 C σ H x (.raw w))(hH:H9 H (b,.own E w l) F):G5 C σ H x (.v (O5.mk w)):=fun ρ I L hs=>by
 obtain⟨u,h1,rfl⟩:=hx ρ I L hs
 obtain⟨i,X,h2,⟨⟨xs,h3,_⟩,_⟩,_⟩:=hH.get hs.heap
 obtain⟨a,c,rfl⟩:=h3.shape
 exact⟨_,h1,[_],⟨j0,j0⟩,j0⟩
instance {a:AV}{α:Type}{r:u3 α}{w:Value}{l:List α}{b:Bool}{F:Bool×C3→j8}{y:Operand}[h:EvQ true σ x a][hy:EvQ true σ y (.raw w)][k:HoQ H w (b,.own E w l) F][so:SoQ P T a (.v (O5.mk w)) H H']:StD G P ops ⟨none,.store T x y,ty,ps,af,none⟩ σ H [] σ H' :=
 ⟨fun N C Q rest hG _ q => .n (so.h N C σ x y ty ps af none _ (h.h C _ rfl) (.d0g (hy.h C _ rfl) k.h) q)⟩
end
section
variable {mo:Nat}{G:Gl}{P:Program}{C:Ctx}{N n:Nat}{ops:List Oper}{Q:Exit→o8→j8→Prop}{l:List Oper}{σ:o8}{H:j8}{d:Nat}{ps:String}{af:Array Edge}{y:Operand}{T E U ty:TypeId}{Eb:List Bool}
end
class PtQ (p:PtV)(α:outParam Type)(r:outParam (u3 α))(β:outParam Type)(s:outParam (u3 β))(b:outParam Nat)(l:outParam (j9 α β)):Prop where h:p=PtV.at b l.off
instance {α β:Type}{r:u3 α}{s:u3 β}{b:Nat}{l:j9 α β}:PtQ (PtV.at b l.off) α r β s b l:=⟨rfl⟩
section
variable {G:Gl}{P:Program}{c:Bool}{σ:o8}{H H':j8}{d:Option Nat}{ty:TypeId}{ps:String}{af:Array Edge}{g:Option (Nat×Bool)}{x:Operand}{T:TypeId}{p:PtV}{α β:Type}{r:u3 α}{s:u3 β}{b:Nat}{l:j9 α β}{q:AV}
instance [hx:EvQ c σ x (.v p)][k:PtQ p α r β s b l]:OpQ G P c ⟨d,.nilCheck x,ty,ps,af,g⟩ σ H (.ln (ptr b 0) l):=⟨fun N C hG e => .E3 (.ptL (k.h▸hx.h C H e)) rfl⟩
instance:VaQ (.ln (ptr b 0) l) PtV inferInstance (PtV.at b l.off):=⟨fun I u h=>by
 obtain⟨b',h2,h3⟩:=h
 have e:b'=b:=by simpa [a6r,ptr] using h2.symm
 subst e
 exact⟨[ptr b' l.off],j0,h3⟩⟩
class c2B (P:Program)(T:TypeId):Prop where h:∃ td,P.underlying T=some td∧c6F td=false
instance {α:Type}{r:u3 α}[e:Exa α]{a:α}[u:c2B P T][hx:T9 c σ x α r a]:OpQ G P c ⟨d,.makeInterface T x,ty,ps,af,g⟩ σ H (.v (b2N T a)):=⟨fun N C hG e=>by
 obtain⟨td,h1,h2⟩:=u.h
 exact .mkIf h1 h2 (hx.h C H e) j0⟩
end
end Go.Ab
namespace Go.Ab
open Go.Fl Go.RowKit
open u3 (rep)
universe u v
instance {g:Bool}{α:Type}{r:UB α}{a:α}{H:j8}{w:Value}:PoQ ((g,.P4 w a)::H) w 0 (g,.P4 w a) (fun X=>X::H):=⟨rfl,fun _=>rfl⟩
theorem OpH.b9N {P:Program}{C:Ctx}{N:Nat}{σ:o8}{H:j8}{d:Option Nat}{ty:TypeId}{ps:String}{af:Array Edge}{g:Option (Nat×Bool)}{T E U:TypeId}{y:Operand}{α:Type}{r:u3 α}{i0:Inhabited α}{by_ t:Nat}{w:Value}{L m:List α}{F:Bool×C3→j8}(hC:Ctx.Ok C)(st:SlT P T E α by_)(hU:(∃ E2,P.underlying U=some (.slice E2))∨P.underlying U=some .string)(hx:F6 σ t=some (.raw w))(hH:H9 H (true,.own E w L) F)(hy:a5Y P C σ H y m)
    (hb:(L.length+m.length)*by_≤140737488355328)(hn:L.length+m.length≤9223372036854775807):OpH P C N ⟨d,.call ⟨.builtin .append,#[.tmp t,y],#[T,U]⟩,ty,ps,af,g⟩ σ H (fun x H''=>x = .v (L++m)∧H''=F a1p):=fun ρ I L0 hs a w0 ha hst=>by
  refine Yld.mono (OpH.c2o (KH:=fun x H''=>x = .v (L++m)∧∃ w',H''=F (true,.fz w' (.v (L++m)))) hC (.append st hU hx hH hy hb hn (fun w'=>⟨w',F,rfl,hH.again,rfl,w',rfl⟩) rfl) ρ I L0 hs a w0 ha hst) ?_
  rintro v w1 ⟨J,L',q1,q2,x,H'',q3,q4,rfl,w',rfl⟩
  obtain⟨i,X,h1,h2,h3⟩:=(hH.again (B':=(true,.fz w' (.v (L++m))))).get q4
  have hX:X = []:=h2.1.1
  subst hX
  have h4:=h3 J a1n [] (Le.refl J) ⟨⟨rfl,trivial⟩,fun _ p hp=>by cases hp⟩
  have e:L'.set i []=L':=by
    obtain⟨hi,e⟩:=List.getElem?_eq_some_iff.1 h1
    rw [←e,List.set_getElem_self]
  rw [e] at h4
  exact⟨J,L',q1,q2,_,_,q3,h4,j0,j0⟩
class CaN (G:Gl)(P:Program)(f:FuncId)(ag:List AV)(D:outParam (List Prop))(R:outParam (Value→AV))(E:outParam TypeId)(α:outParam Type)(r:outParam (u3 α))(l:outParam (List α)):Prop where h:Z8 D→C6 G P f ag [] (fun x Hs=>∃ u,x=R u∧Hs = [.own E u l])
instance {G:Gl}{P:Program}{f:FuncId}{ag:List AV}{D:List Prop}{R:Value→AV}{E:TypeId}{α:Type}{r:u3 α}{l:List α}[k:CaN G P f ag D R E α r l]:CaX G P f ag Value D (fun _=>True) R (fun u => [.own E u l]):=⟨fun hD=>(k.h hD).mono fun x Hs h=>by
 obtain⟨u,h1,h2⟩:=h
 exact⟨u,trivial,h1,h2⟩⟩
section
variable {σ:o8}{d:Option Nat}{T ty:TypeId}{ps:String}{af:Array Edge}{g:Option (Nat×Bool)}{x y:Operand}{w:Value}
instance [h:EvQ true σ x (.raw w)]:ToQ ⟨d,.indexAddr T x y,ty,ps,af,g⟩ σ w:=⟨trivial⟩
instance {α β:Type}{r:u3 α}{s:u3 β}{k:Nat}{l:j9 α β}[h:EvQ true σ x (.el w k l)]:ToQ ⟨d,.load T x,ty,ps,af,g⟩ σ w:=⟨trivial⟩
instance {t:Nat}{c:Bool}{α β:Type}{r:u3 α}{s:u3 β}{l:j9 α β}[h:LkQ σ t (.opt c (.ln w l))]:ToQ ⟨d,.load T (.tmp t),ty,ps,af,g⟩ σ w:=⟨trivial⟩
end
section
variable {G:Gl}{P:Program}{l os:List Oper}{nm:Nat→Nm}{k:Nat}{σ σ':o8}{H H':j8}{T:List (Nm→R8)}{ts:List (Option (Nat×Nat))}{D D1 D2:List Prop}{d:Nat}{op:Op}{ty:TypeId}{ps:String}{af:Array Edge}{r:AV}{f:FuncId}{args:Array Operand}{tys:Array TypeId}{ag:List AV}{w:Value}{p:Nat}{b:Bool}{B B':C3}{F0:Bool×C3→j8}
instance [hv:AsQ true (Q3 σ ⟨some d,.call ⟨.value (.func f),args,tys⟩,ty,ps,af,none⟩) args.toList ag][fp:FpQ ag w][po:PoQ H w p (b,B) F0][c:CaM G P f ag B D1 r B'][q:ChQ G P l nm (k+1) os ((d,r)::σ) (F0 (b,B')) T ts σ' H' D2][cj:Cj D1 D2 D] :
    ChQ G P l nm k (⟨some d,.call ⟨.value (.func f),args,tys⟩,ty,ps,af,none⟩::os) σ H ((fun _=>⟨some (p,1),r,(b,B')⟩)::T) (some (p,1)::ts) σ' H' D :=
  ⟨fun N C F hG hD hF=>⟨⟨(b,B),po.get,fun H' F' hh=>c.op hG.2 (cj.of hD).1 hh (hv.h C H' rfl) ⟨rfl,rfl⟩⟩,by
    show chU P C N l nm F (k+1) os T _ (H.set p (b,B'))
    rw [po.set];exact q.h N C F hG (cj.of hD).2 hF⟩,by rw [evT,List.map_cons,q.t]⟩
class c6S (d:Nat):Prop where h:True
instance (priority:=low){TT E:TypeId}{α:Type}{rr:u3 α}{i:Inhabited α}{k0:Nat}{L:List α}{parts:List (Nat×Operand)}[u:UnI P TT (.slice E)][t:TyI P E α rr i][hp:ElQ true (Q3 σ ⟨some d,.buildSlice TT k0 parts.toArray,ty,ps,af,none⟩) 0 parts α rr L][hl:TrB (c5n L k0)][hs:TrB (Nat.ble (k0*u3.size α) 16777216)]
    [q:ChQ G P l nm (k+1) os ((d,.vc L)::σ) H T ts σ' H' D] :
    ChQ G P l nm k (⟨some d,.buildSlice TT k0 parts.toArray,ty,ps,af,none⟩::os) σ H ((fun _=>⟨none,.vc L,b1I⟩)::T) (none::ts) σ' H' D :=
  ⟨fun N C F hG hD hF=>⟨fun H' => .a2p t.h u.h (by simpa using hp.h C H' rfl) (b2T hl.h) (Nat.le_of_ble_eq_true hs.h) rfl,q.h N C F hG hD hF⟩,by rw [evT,List.map_cons,q.t]⟩
instance {R:Value→AV}{E:TypeId}{α:Type}{rr:u3 α}{L:List α}[hv:AsQ true (Q3 σ ⟨some d,.call ⟨.value (.func f),args,tys⟩,ty,ps,af,none⟩) args.toList ag][c:CaN G P f ag D1 R E α rr L][ho:HlQ H p F0]
    [q:ChQ G P l nm (k+1) os ((d,R (nm k).1)::σ) (F0 (true,.own E (nm k).1 L)) T ts σ' H' D2][cj:Cj D1 D2 D] :
    ChQ G P l nm k (⟨some d,.call ⟨.value (.func f),args,tys⟩,ty,ps,af,none⟩::os) σ H ((fun v=>⟨some (p,2),R v.1,(true,.own E v.1 L)⟩)::T) (some (p,2)::ts) σ' H' D :=
  ⟨fun N C F hG hD hF=>⟨⟨a1n,ho.get,fun H' F' hh=>OpH.c44 hh (.a6Z hG.2 (c.h (cj.of hD).1) (hv.h C H' rfl) fun r Hs e=>by
    obtain⟨u,rfl,rfl⟩:=e
    exact⟨_,rfl,(u,0),rfl,rfl,rfl⟩)⟩,by
    show chU P C N l nm F (k+1) os T _ (H.set p _)
    rw [ho.set];exact q.h N C F hG (cj.of hD).2 hF⟩,by rw [evT,List.map_cons,q.t]⟩
instance (priority:=low){TT E U:TypeId}{α:Type}{rr:u3 α}{i:Inhabited α}{by_ t:Nat}{L m:List α}{y:Operand}[st:SlI P TT E α by_ rr i][hx:LkQ (Q3 σ ⟨some d,.call ⟨.builtin .append,#[.tmp t,y],#[TT,U]⟩,ty,ps,af,none⟩) t (.raw w)][po:PoQ H w p (true,.own E w L) F0][hy:T9 true (Q3 σ ⟨some d,.call ⟨.builtin .append,#[.tmp t,y],#[TT,U]⟩,ty,ps,af,none⟩) y (List α) inferInstance m][un:UnI P U (.slice E)]
    [q:ChQ G P l nm (k+1) os ((d,.v (L++m))::σ) (F0 a1p) T ts σ' H' D2][cj:Cj [(L.length+m.length)*by_≤140737488355328,L.length+m.length≤9223372036854775807] D2 D] :
    ChQ G P l nm k (⟨some d,.call ⟨.builtin .append,#[.tmp t,y],#[TT,U]⟩,ty,ps,af,none⟩::os) σ H ((fun _=>⟨some (p,1),.v (L++m),a1p⟩)::T) (some (p,1)::ts) σ' H' D :=
  ⟨fun N C F hG hD hF=>⟨⟨(true,.own E w L),po.get,fun H' F' hh => .b9N hG.1 st.h (.inl ⟨_,un.h⟩) hx.h hh (.v (hy.h C H' rfl)) (cj.of hD).1.1 (cj.of hD).1.2.1⟩,by
    show chU P C N l nm F (k+1) os T _ (H.set p _)
    rw [po.set];exact q.h N C F hG (cj.of hD).2 hF⟩,by rw [evT,List.map_cons,q.t]⟩
end
instance {l:List Oper}{H H':j8}{d:Option Nat}{T ty:TypeId}{n:Nat}{ps:String}{af:Array Edge}{g:Option (Nat×Bool)}{parts:Array (Nat×Operand)}[k:PdQ l H H']:PdQ (⟨d,.buildSlice T n parts,ty,ps,af,g⟩::l) H (a1p::H'):=⟨fun h=>k.h (wpA.c7y h)⟩
instance {l:List Oper}{H H':j8}{d:Option Nat}{ty:TypeId}{F:Operand}{ag:Array Operand}{tys:Array TypeId}{ps:String}{af:Array Edge}{g:Option (Nat×Bool)}[k:PdQ l H H']:PdQ (⟨d,.call ⟨.value F,ag,tys⟩,ty,ps,af,g⟩::l) H (a1p::H'):=⟨fun h=>k.h (wpA.c7y h)⟩
end Go.Ab
namespace Go.Ab
open Go.Fl Go.RowKit
open u3 (rep)
def EqT (P:Program)(T:TypeId)(k:Nat)(α:Type)[u3 α][DecidableEq α]:Prop :=
 ∀ (d:Nat) (I:Im) (x y:α) (cs ds:List Value) (w:World),rep I x cs→rep I y ds→(Op.equalIn (d+k) T (asV (u3.agg α) cs) (asV (u3.agg α) ds)).run P w = .ok (decide (x=y)) w
variable {P:Program}{T E:TypeId}
theorem EqT.i64 (hT:P.underlying T=some (.int .i64)):EqT P T 1 Int:=fun d I x y cs ds w hx hy=>by
 obtain⟨rfl,_⟩:=hx
 obtain⟨rfl,_⟩:=hy
 exact a48 w d hT
theorem EqT.u64 (hT:P.underlying T=some (.int .u64)):EqT P T 1 UInt64:=fun d I x y cs ds w hx hy=>by
 obtain rfl:=hx
 obtain rfl:=hy
 refine(a48 w d hT).trans ?_
 congr 1
 rw [decide_eq_decide]
 exact⟨fun h=>UInt64.toNat_inj.1 (Int.ofNat_inj.1 h),fun h=>by rw [h]⟩
theorem EqT.str (hT:P.underlying T=some .string):EqT P T 1 Str:=fun d I x y cs ds w hx hy=>by
 obtain⟨⟨a,rfl,ha⟩,_⟩:=hx
 obtain⟨⟨b,rfl,hb⟩,_⟩:=hy
 refine(run_equalIn_string w d T a b hT).trans ?_
 rw [c17 ha hb]
theorem EqT.a7Z {n:Nat}(hT:P.underlying T=some (.array n E))(hs:G6 P E 1)(hE:P.underlying E=some (.int .u8)):EqT P T 2 (M4 n UInt8):=fun d I x y cs ds w hx hy=>by
 obtain rfl:=a06.1 hx
 obtain rfl:=a06.1 hy
 unfold G6 at hs
 cases hi:P.info? E with
 | none=>simp [hi] at hs
 | some inf =>
  have hc:P.cellsOf E=1:=by simp [hi] at hs;simp [Program.cellsOf,hi,hs]
  have e1:∀ l:List UInt8,C5 l=(l.map fun c=>(c.toNat:Int)).map (Value.int .u8):=fun l=>by simp [C5,Fl.u8]
  have h1:=run_equalIn_array (P:=P) w (d+1) (C5 x.l).toArray (C5 y.l).toArray hT hi
  have h2:∀ (ags bs:List Int),ags.length=n→bs.length=n→(Op.eqItems (d+1) E 1 (ags.map (Value.int .u8)).toArray (bs.map (Value.int .u8)).toArray (List.range n)).run P w = .ok (decide (ags=bs)) w:=fun ags bs ha hb=>by
   rw [←ha,a1T w d hE ags bs (by omega) _ (fun i hi=>List.mem_range.1 hi),a6U ags bs (by omega)]
  rw [hc,e1,e1,h2 _ _ (by simp) (by simp)] at h1
  refine(show(Op.equalIn (d+2) T (.agg (C5 x.l).toArray) (.agg (C5 y.l).toArray)).run P w=_ from ?_)
  rw [e1,e1,h1]
  congr 1
  rw [decide_eq_decide]
  refine(a5a _ (fun a b h=>UInt8.toNat_inj.1 (Int.ofNat_inj.1 h)) x.l y.l).trans ?_
  exact⟨M4.ext,fun h=>by rw [h]⟩
inductive EqF (P:Program)(k:Nat):List Field→Nat→(β:Type)→(s:u3 β)→DecidableEq β→Prop
  | nil {off:Nat}:EqF P k [] off Unit inferInstance inferInstance
  | cons {f : Field} {fs : List Field} {off : Nat} {α β : Type} {r : u3 α} {s : u3 β} {d1 : DecidableEq α} {d2 : DecidableEq β} {dd : TypeDesc} (h1 : f.offset = off) (hn : (f.name ≠ "_") = true) (hT : P.underlying f.type = some dd) (ha : a1O dd = u3.agg α) (hz : G6 P f.type (u3.size α))
      (h2:EqT P f.type k α) (t:EqF P k fs (off+u3.size α) β s d2):EqF P k (f::fs) off (α×β) inferInstance inferInstance
theorem EqF.run {k:Nat}{fs:List Field}{off:Nat}{β:Type}{s:u3 β}{dec:DecidableEq β}(h:EqF P k fs off β s dec):∀ (d:Nat) (I:Im) (x y:β) (cs ds:List Value) (w:World),rep I x (cs.drop off)→rep I y (ds.drop off) →
    (Op.eqFields (d+k) cs.toArray ds.toArray fs).run P w = .ok (decide (x=y)) w:=by
  induction h with
  | nil=>intro d I x y cs ds w _ _;rfl
  | @cons f fs off α β r s d1 d2 dd h1 hn hT ha hz h2 t ih =>
    intro d I x y cs ds w hx hy
    obtain⟨c1,r1,e1,q1,q2⟩:=hx
    obtain⟨c2,r2,e2,q3,q4⟩:=hy
    have hp:∀ (zs c rr:List Value) (a:α),zs.drop off=c++rr→rep I a c→(part f.type zs.toArray f.offset).run P w = .ok (asV (u3.agg α) c) w:=fun zs c rr a e hc=>by
      have hl:=u3.len hc
      have hseg:K5 zs off (u3.size α)=c:=by rw [K5,e,←hl];simp
      obtain⟨g1,g2⟩:=a9Q (P:=P) (cs:=zs) (off:=f.offset) hT hz w
      rw [h1] at g1 g2 ⊢
      cases hag:u3.agg α with
      | true =>
        rw [g1 (by rw [ha,hag]),hseg];rfl
      | false =>
        have hone:c.length=1:=by rw [hl];exact u3.one hag
        cases c with
        | nil=>simp at hone
        | cons v c =>
          have:c = []:=by simpa using hone
          subst this
          refine g2 v (by rw [ha,hag]) ?_
          have:(zs.drop off)[0]?=some v:=by rw [e];rfl
          simpa using this
    have hdrop:∀ (zs c rr:List Value) (a:α),zs.drop off=c++rr→rep I a c→zs.drop (off+u3.size α)=rr:=fun zs c rr a e hc=>by
      rw [←List.drop_drop,e,←u3.len hc];simp
    have hn':f.name ≠ "_" := by simpa using hn
    simp only [Op.eqFields,if_pos hn',Sem.run_bind,hp cs c1 r1 x.1 e1 q1,hp ds c2 r2 y.1 e2 q3,Result.andThen_ok,h2 d I x.1 y.1 c1 c2 w q1 q3]
    by_cases e:x.1=y.1
    · simp only [e,decide_true,Bool.not_true,Bool.false_eq_true,if_false]
      rw [ih d I x.2 y.2 cs ds w (by rw [hdrop cs c1 r1 x.1 e1 q1];exact q2) (by rw [hdrop ds c2 r2 y.1 e2 q3];exact q4)]
      congr 1
      rw [decide_eq_decide]
      exact⟨fun h=>Prod.ext e h,fun h=>by rw [h]⟩
    · simp only [e,decide_false,Bool.not_false,if_true,Sem.run_pure]
      congr 1
      symm
      rw [decide_eq_false_iff_not]
      exact fun h=>e (by rw [h])
theorem EqT.up {α:Type}[u3 α][DecidableEq α]{k:Nat}(j:Nat)(h:EqT P T k α):EqT P T (k+j) α:=fun d I x y cs ds w hx hy=>by
 have:=h (d+j) I x y cs ds w hx hy
 rwa [show d+j+k=d+(k+j) by omega] at this
theorem EqT.struct {S β:Type}[s:u3 β][dS:DecidableEq S]{dec:DecidableEq β}{k:Nat}{fs:Array Field}(f:S→β)(hf:∀ a b,f a=f b→a=b)(hT0:P.underlying T=some (.struct fs))(hp:P.stoodInHeld T=false)(h:EqF P k fs.toList 0 β s dec) : @EqT P T (k+1) S (u3.via f) dS:=by
 letI:u3 S:=u3.via f
 intro d I x y cs ds w hx hy
 have hfs:P.fieldsOf T=fs:=by unfold Program.fieldsOf;rw [hT0]
 have hT:P.underlying T=some (.struct (P.fieldsOf T)):=by rw [hfs];exact hT0
 have hx':rep I (f x) cs:=hx
 have hy':rep I (f y) ds:=hy
 refine(run_equalIn_struct w (d+k) T cs.toArray ds.toArray hT hp).trans ?_
 rw [hfs,h.run d I (f x) (f y) cs ds w (by simpa using hx') (by simpa using hy')]
 congr 1
 rw [decide_eq_decide]
 exact⟨hf _ _,fun h=>by rw [h]⟩
variable {N:Nat}{C:Ctx}{σ:o8}{H:j8}{K:AV→Prop}{d:Option Nat}{ty:TypeId}{ps:String}{af:Array Edge}{g:Option (Nat×Bool)}{x y:Operand}{T2:TypeId}
theorem OpP.a5l {α:Type}{r:u3 α}{dd:DecidableEq α}{k0:Nat}{a b:α}(he:EqT P T k0 α)(hk:Nat.ble k0 10000=true)(hag:u3.agg α=true)(hg:P.eqGuardType P.depth T=false)(hx:G5 C σ H x (.v a))(hy:G5 C σ H y (.v b))(k:K (.v (decide (a=b)))) :
    OpP P N C ⟨d,.binOp .eql T x y T2,ty,ps,af,g⟩ σ H K :=
  .vk k (fun ρ I L hst => .mk ⟨[.bool (decide (a=b))],rfl,rfl⟩ fun ac w ha hm=>by
    obtain⟨u,h1,cs,h2,rfl⟩:=hx ρ I L hst
    obtain⟨v,h3,ds,h4,rfl⟩:=hy ρ I L hst
    have hke:10000 - k0+k0=10000:=by have:=Nat.le_of_ble_eq_true hk;omega
    have he':=he (10000 - k0) I a b cs ds w h2 h4
    rw [hke] at he'
    rw [hag] at he' h1 h3
    have h5:=run_eql_struct (P:=P) w T cs.toArray ds.toArray
    rw [show(Op.equalIn 10000 T (.agg cs.toArray) (.agg ds.toArray)).run P w=_ from he'] at h5
    have h1':ev ρ x=some (.agg cs.toArray):=h1
    have h3':ev ρ y=some (.agg ds.toArray):=h3
    simp only [execOp,ha.ev h1',ha.ev h3',Sem.run_bind,a5K w hg,h5,Result.andThen_ok,Sem.run_pure]
    rfl)
theorem OpP.d2z {α:Type}{r:u3 α}{dd:DecidableEq α}{k0:Nat}{a b:α}(he:EqT P T k0 α)(hk:Nat.ble k0 10000=true)(hag:u3.agg α=true)(hg:P.eqGuardType P.depth T=false)(hx:G5 C σ H x (.v a))(hy:G5 C σ H y (.v b))(k:K (.v (decide (a≠b)))) :
    OpP P N C ⟨d,.binOp .neq T x y T2,ty,ps,af,g⟩ σ H K :=
  .vk k (fun ρ I L hst => .mk ⟨[.bool (decide (a≠b))],rfl,rfl⟩ fun ac w ha hm=>by
    obtain⟨u,h1,cs,h2,rfl⟩:=hx ρ I L hst
    obtain⟨v,h3,ds,h4,rfl⟩:=hy ρ I L hst
    have hke:10000 - k0+k0=10000:=by have:=Nat.le_of_ble_eq_true hk;omega
    have he':=he (10000 - k0) I a b cs ds w h2 h4
    rw [hke] at he'
    rw [hag] at he' h1 h3
    have h5:=run_neq_struct (P:=P) w T cs.toArray ds.toArray
    rw [show(Op.equalIn 10000 T (.agg cs.toArray) (.agg ds.toArray)).run P w=_ from he'] at h5
    have h1':ev ρ x=some (.agg cs.toArray):=h1
    have h3':ev ρ y=some (.agg ds.toArray):=h3
    simp only [execOp,ha.ev h1',ha.ev h3',Sem.run_bind,a5K w hg,h5,Result.andThen_ok,Sem.run_pure]
    by_cases e:a=b<;>simp [e,asV,u3.agg])
end Go.Ab
namespace Go.Ab
open Go.Fl Go.RowKit
open u3 (rep)
section
variable {P:Program}{C:Ctx}{N:Nat}{σ:o8}{H:j8}{G:Gl}{f:FuncId}{d:Option Nat}{args:Array Operand}{tys:Array TypeId}{ty:TypeId}{ps:String}{af:Array Edge}{g:Option (Nat×Bool)}{K:AV→Prop}
end
end Go.Ab
namespace Go.Ab
open Go.Fl Go.RowKit
open u3 (rep)
universe u v
section
variable {P:Program}{C:Ctx}{N:Nat}{σ:o8}{H:j8}{d:Option Nat}{ty:TypeId}{ps:String}{af:Array Edge}{g:Option (Nat×Bool)}{K:AV→Prop}{x y:Operand}{T T2:TypeId}
end
class EqI (P:Program)(T:TypeId)(α:Type)(r:u3 α)(d:outParam (DecidableEq α)):Prop where h:∃ k0,Nat.ble k0 10000=true∧EqT P T k0 α∧u3.agg α=true∧P.eqGuardType P.depth T=false
theorem EqI.mk' {P:Program}{T:TypeId}{α:Type}[r:u3 α][d:DecidableEq α]{k0:Nat}(h:EqT P T k0 α)(hk:Nat.ble k0 10000=true)(ha:u3.agg α=true)(hg:P.eqGuardType P.depth T=false):EqI P T α r d:=⟨k0,hk,h,ha,hg⟩
abbrev EqJ (P:Program)(T:TypeId)(α:Type)[r:u3 α][d:DecidableEq α]:Prop:=EqI P T α r d
section
variable {G:Gl}{P:Program}{c:Bool}{σ:o8}{H:j8}{d:Option Nat}{ty:TypeId}{ps:String}{af:Array Edge}{g:Option (Nat×Bool)}{x y z:Operand}{T T2 E S D U:TypeId}{m n:Int}{ds:TypeDesc}
instance {α:Type}{r:u3 α}{dd:DecidableEq α}{a b:α}[hx:T9 c σ x α r a][e:EqI P T α r dd][hy:T9 c σ y α r b]:OpQ G P c ⟨d,.binOp .eql T x y T2,ty,ps,af,g⟩ σ H (.v (decide (a=b))):=⟨fun N C hG ec=>by
 obtain⟨k0,h1,h2,h3,h4⟩:=e.h
 exact .a5l h2 h1 h3 h4 (hx.h C H ec) (hy.h C H ec) j0⟩
instance {α:Type}{r:u3 α}{dd:DecidableEq α}{a b:α}[hx:T9 c σ x α r a][e:EqI P T α r dd][hy:T9 c σ y α r b]:OpQ G P c ⟨d,.binOp .neq T x y T2,ty,ps,af,g⟩ σ H (.v (decide (a≠b))):=⟨fun N C hG ec=>by
 obtain⟨k0,h1,h2,h3,h4⟩:=e.h
 exact .d2z h2 h1 h3 h4 (hx.h C H ec) (hy.h C H ec) j0⟩
instance {a b:Bool}[u:UnI P T .bool][hx:T9 c σ x Bool inferInstance a][hy:T9 c σ y Bool inferInstance b]:OpQ G P c ⟨d,.binOp .eql T x y T2,ty,ps,af,g⟩ σ H (.v (a == b)):=⟨fun N C hG e => .c9y u.h (hx.h C H e) (hy.h C H e) rfl⟩
instance {a b:Bool}[u:UnI P T .bool][hx:T9 c σ x Bool inferInstance a][hy:T9 c σ y Bool inferInstance b]:OpQ G P c ⟨d,.binOp .neq T x y T2,ty,ps,af,g⟩ σ H (.v (a != b)):=⟨fun N C hG e => .c9z u.h (hx.h C H e) (hy.h C H e) rfl⟩
instance {ts:Array TypeId}[hx:T9 c σ x Int inferInstance m][hy:T9 c σ y Int inferInstance n]:OpQ G P c ⟨d,.call ⟨.builtin .min,#[x,y],ts⟩,ty,ps,af,g⟩ σ H (.v (min m n)):=⟨fun N C hG e => .c69 (hx.h C H e) (hy.h C H e) rfl⟩
instance {ts:Array TypeId}[hx:T9 c σ x Int inferInstance m][hy:T9 c σ y Int inferInstance n]:OpQ G P c ⟨d,.call ⟨.builtin .max,#[x,y],ts⟩,ty,ps,af,g⟩ σ H (.v (max m n)):=⟨fun N C hG e => .c7a (hx.h C H e) (hy.h C H e) rfl⟩
instance {m:UInt8}[h:T9 c σ x UInt8 inferInstance m][a:UnI P S ds][b:UnI P D (.int .i64)]:OpQ G P c ⟨d,.convert S D x,ty,ps,af,g⟩ σ H (.v (m.toNat:Int)):=⟨fun N C hG e => .c13 a.h b.h (h.h C H e) rfl⟩
instance [hx:T9 c σ x Int inferInstance m][hy:T9 c σ y Int inferInstance n]:OpD G P c ⟨d,.binOp .or T x y T2,ty,ps,af,g⟩ σ H [0≤m,0≤n] (.v (((m.toNat ||| n.toNat:Nat):Int))):=⟨fun N C hG e h => .orI (hx.h C H e) (hy.h C H e) h.1 h.2.1 rfl⟩
instance [hx:T9 c σ x Int inferInstance m][hy:T9 c σ y Int inferInstance n]:OpD G P c ⟨d,.binOp .and T x y T2,ty,ps,af,g⟩ σ H [0≤m,0≤n] (.v (((m.toNat &&& n.toNat:Nat):Int))):=⟨fun N C hG e h => .c9S (hx.h C H e) (hy.h C H e) h.1 h.2.1 rfl⟩
instance (priority:=high){α:Type}{r:u3 α}{i:Inhabited α}{l:List α}{n k:Int}[u:UnI P T (.slice E)][t:TyI P E α r i][hx:T9 c σ x (List α) inferInstance l][hy:T9 c σ y Int inferInstance n][hz:T9 c σ z Int inferInstance k]:OpD G P c ⟨d,.slice T x none (some y) (some z),ty,ps,af,g⟩ σ H [n=l.length,k=l.length] (.vc l):=⟨fun N C hG e h=>by
 obtain⟨rfl,rfl,_⟩:=h
 exact .b6v t.h u.h (hx.h C H e) (hy.h C H e) (hz.h C H e) j0⟩
instance {α β:Type}{r:u3 α}{s:u3 β}{k kz:Nat}{kb:Bool}{w:Value}{l:j9 α (M4 k β)}[hx:EvQ c σ x (.ln w l)][hf:ElI P T k kz kb][hz:TrB (Nat.beq kz (u3.size β))]:OpQ G P c ⟨d,.slice T x none none none,ty,ps,af,g⟩ σ H (.sv w l):=⟨fun N C hG e => .c14 (Nat.eq_of_beq_eq_true hz.h▸hf.h) (hx.h C H e) rfl⟩
instance {α:Type}{r:u3 α}{i:Inhabited α}{by_:Nat}{l k:List α}[st:SlI P T E α by_ r i][hx:EvQ c σ x (.vc l)][hc:EqS (some c) true][hy:SrQ P U σ H y α r k]:OpD G P c ⟨d,.call ⟨.builtin .append,#[x,y],#[T,U]⟩,ty,ps,af,g⟩ σ H [(l.length+k.length)*by_≤140737488355328,l.length+k.length≤9223372036854775807] (.v (l++k)):=⟨fun N C hG e h => .c41 st.h hy.u (hx.h C H e) (hy.h C) h.1 h.2.1 rfl⟩
end
section
variable {mo:Nat}{G:Gl}{P:Program}{C:Ctx}{N n:Nat}{ops:List Oper}{Q:Exit→o8→j8→Prop}{l:List Oper}{σ:o8}{H:j8}{d:Nat}{ps:String}{af:Array Edge}{x y:Operand}{T T2 E U ty:TypeId}{Eb:List Bool}{EX:Bool→List Bool}{AX:Bool→Prop}
instance (priority:=high){α:Type}{r:u3 α}{L:List α}[u:UnI P T (.slice E)][hx:T9 true σ x (List α) inferInstance L][k:∀ b:Bool,Rw mo G P C N n (.b ops Q l) ((d,.v b)::σ) H (EX b) (AX b)][cE:CoQ EX Eb] :
    Rw mo G P C N (n+1) (.b ops Q (⟨some d,.binOp .eql T x (.const (.slice none 0 0)) T2,ty,ps,af,none⟩::l)) σ H Eb (∀ b:Bool,(b=true→L = [])→AX b):=⟨fun g e h => .p (.b0c u.h (hx.h C H rfl) fun b hb=>(k b).h g (cast (congrArg (fun z=>a0K z=true) (cE.h b)).symm e) (h b hb))⟩
end
instance {G:Gl}{P:Program}{ops:List Oper}{σ:o8}{H H':j8}{ps:String}{af:Array Edge}{ty T E:TypeId}{x:Operand}{a:AV}{α:Type}{r:u3 α}{n:Nat}{i:Inhabited α}[h:EvQ true σ x a][t:SlI P T E α n r i][so:SoQ P T a (.v ([]:List α)) H H']:StD G P ops ⟨none,.store T x (.const (.slice none 0 0)),ty,ps,af,none⟩ σ H [] σ H' :=
 ⟨fun N C Q rest hG _ q => .n (so.h N C σ x _ ty ps af none _ (h.h C H rfl) .b1h q)⟩
class a1Z (d:Nat):Prop where h:True
instance (priority:=3000){mo:Nat}{G:Gl}{P:Program}{C:Ctx}{N n:Nat}{ops:List Oper}{Q:Exit→o8→j8→Prop}{l:List Oper}{σ:o8}{H:j8}{d:Nat}{ps:String}{af:Array Edge}{E ty:TypeId}{Eb:List Bool}{A:Prop}{α:Type}{r:u3 α}{by_:Nat}{i:Inhabited α}[o:a1Z d][st:SlI P ty E α by_ r i]
    [k:Rw mo G P C N n (.b ops Q l) ((d,.raw (.slice none 0 0))::σ) ((true,.own E (.slice none 0 0) ([]:List α))::H) Eb A]:Rw mo G P C N (n+1) (.b ops Q (⟨some d,.assign (.const (.slice none 0 0)),ty,ps,af,none⟩::l)) σ H Eb A:=⟨fun g e h => .a78 E α (.p (.assign (a := .raw (.slice none 0 0)) (fun ρ I L hs=>⟨_,rfl,rfl⟩) (k.h g e h)))⟩
instance {mo:Nat}{G:Gl}{P:Program}{C:Ctx}{N n:Nat}{ops:List Oper}{Q:Exit→o8→j8→Prop}{l:List Oper}{σ:o8}{H:j8}{d:Nat}{ps:String}{af:Array Edge}{T E ty:TypeId}{Eb:List Bool}{α:Type}{r:u3 α}{i:Inhabited α}{EX:Nat→List Bool}{AX:Nat→Prop}[u:UnI P T (.slice E)][t:TyI P E α r i]
    [k:∀ b,Rw mo G P C N n (.b ops Q l) ((d,.raw (slc b 0 0 0))::σ) ((true,.own E (slc b 0 0 0) ([]:List α))::H) (EX b) (AX b)][cE:CoQ EX Eb] :
    Rw mo G P C N (n+1) (.b ops Q (⟨some d,.buildSlice T 0 #[],ty,ps,af,none⟩::l)) σ H Eb (∀ b,AX b) :=
  ⟨fun g e h => .h (.buildSlice t.h u.h .nil rfl (by simp) fun b=>(k b).h g (cast (congrArg (fun z=>a0K z=true) (cE.h b)).symm e) (h b))⟩
class PaA (c:Bool)(σ:o8)(ps:List (Nat×Operand))(n:Nat)(β:Type)(r:u3 β)(x:M4 n β)(y:outParam (M4 n β)):Prop where h:∀ C H,c=true→a58 C σ H (fun i=>some (i*u3.size β,u3.size β)) ps x y
section
variable {G:Gl}{P:Program}{c:Bool}{σ:o8}{H:j8}{d:Option Nat}{ty:TypeId}{ps:String}{af:Array Edge}{g:Option (Nat×Bool)}{o:Operand}{T:TypeId}
instance {n:Nat}{β:Type}{r:u3 β}{x:M4 n β}:PaA c σ [] n β r x x:=⟨fun _ _ _ => .nil⟩
instance {n:Nat}{β:Type}{r:u3 β}{i:Nat}{l:List (Nat×Operand)}{v:β}{x y:M4 n β}[hi:TrB (Nat.ble (i+1) n)][ev:T9 c σ o β r v][k:PaA c σ l n β r (Q8 x i v) y]:PaA c σ ((i,o)::l) n β r x y:=⟨fun C H e => .cons (j9.idx i (Nat.le_of_ble_eq_true hi.h)) v rfl (ev.h C H e) (k.h C H e)⟩
instance {n:Nat}{β:Type}{r:u3 β}{i:Inhabited β}{kz:Nat}{kb:Bool}{l:List (Nat×Operand)}{y:M4 n β}[hf:ElI P T n kz kb][hz:TrB (Nat.beq kz (u3.size β))][t:TyI P T (M4 n β) inferInstance inferInstance][k:PaA c σ l n β r (default:M4 n β) y]:OpD G P c ⟨d,.build T l.toArray,ty,ps,af,g⟩ σ H [] (.v y):=⟨fun N C hG e _ => .a1y y t.h (Nat.eq_of_beq_eq_true hz.h▸hf.h) (by simpa using k.h C H e) rfl rfl⟩
end
end Go.Ab
namespace Go.Ab
open Go.Fl Go.RowKit
open u3 (rep)
universe u v
theorem P2.c6T {α:Type}[u3 α]{I:Fl.Im}{l:List α}{xs:List Value}(h:P2 I l xs)(k:Nat)(hk:k≤l.length):P2 I (l.take k) (xs.take (k*u3.size α)):=by
 rw [←List.take_append_drop k l] at h
 have:=h.split.1
 rwa [List.length_take,Nat.min_eq_left hk] at this
theorem a0Q.cut {e:TypeId}{s n k:Nat}{a:Option Addr}{c:Nat}{xs:List Value}{X:List (Nat×Obj)}(h:a0Q e s (.slice a n c) n xs X)(hk:k≤n):a0Q e s (.slice a k c) k (xs.take (k*s)) X:=by
 rcases h with ⟨⟨a1,h1⟩,h2,h3,h4⟩|⟨b',c',sp,q,h1,rfl,h2,h3,h4,h5,h6⟩
 ·cases h1
  obtain rfl:k=0:=by omega
  subst h3
  exact .inl ⟨⟨a,rfl⟩,rfl,by simp,h4⟩
 ·cases h1
  have hle:k*s≤n*s:=Nat.mul_le_mul_right _ hk
  have e1:xs.take (k*s)++(xs.drop (k*s)++sp)=xs++sp:=by rw [←List.append_assoc,List.take_append_drop]
  exact .inr ⟨b',c,xs.drop (k*s)++sp,q,rfl,by rw [e1],by rw [List.length_take,h2];exact Nat.min_eq_left hle,by rw [e1];exact h3,by omega,h5,by rw [e1];exact h6⟩
section
variable {P:Program}{C:Ctx}{N:Nat}{σ:o8}{H:j8}{d:Option Nat}{ty:TypeId}{ps:String}{af:Array Edge}{g:Option (Nat×Bool)}{KH:AV→j8→Prop}{x y:Operand}{T E:TypeId}
theorem OpH.c5p {α:Type}{r:u3 α}{i:Inhabited α}{w:Value}{l:List α}{h:Int}{bb:Bool}{F:Bool×C3→j8}(hT:P.underlying T=some (.slice E))(tE:K1 P E α)(hx:G5 C σ H x (.raw w))(hH:H9 H (bb,.own E w l) F)(hy:G5 C σ H y (.v h))(h0:0≤h)(h1:h≤l.length)
    (k:∀ w',KH (.raw w') (F (bb,.own E w' (l.take h.toNat)))):OpH P C N ⟨d,.slice T x none (some y) none,ty,ps,af,g⟩ σ H KH:=fun ρ I L hs => .ofX <| .M1 <| by
  obtain⟨u,hu,rfl⟩:=hx ρ I L hs
  obtain⟨j,X,h5,h6,h7⟩:=hH.get hs.heap
  obtain⟨xs,h8,h9⟩:=h6.1
  obtain⟨m,rfl⟩:=Int.eq_ofNat_of_zero_le h0
  have hset:L.set j X=L:=by
    obtain⟨hi,e⟩:=List.getElem?_eq_some_iff.1 h5
    rw [←e,List.set_getElem_self]
  have hm:m≤l.length:=by omega
  obtain⟨a,c,rfl⟩:=h8.shape
  have h10:=h8.cut hm
  have hc:l.length≤c∧(a=none→c=0):=by
    rcases h8 with ⟨⟨a1,e⟩,h2,_⟩|⟨b',c',sp,q,e,_,_,_,h4,_⟩
    · injection e with e1 e2 e3;exact⟨by omega,fun _=>e3⟩
    · injection e with e1 e2 e3;subst e3;exact⟨h4,fun e=>by rw [e] at e1;cases e1⟩
  refine .b2u (h:=m) hT tE.size hu (hy.int hs).1 (by omega) hc.2 ⟨Le.refl I,.raw _,_,j0,?_,k _⟩
  have:=h7 I (bb,.own E (.slice a m c) (l.take m)) X (Le.refl I) ⟨⟨xs.take (m*u3.size α),by rw [List.length_take,Nat.min_eq_left hm];exact h10,h9.c6T m hm⟩,h6.2⟩
  rw [hset] at this
  exact this
end
instance {mo:Nat}{G:Gl}{P:Program}{C:Ctx}{N n:Nat}{ops:List Oper}{Q:Exit→o8→j8→Prop}{l:List Oper}{σ:o8}{H:j8}{d:Nat}{ps:String}{af:Array Edge}{x y:Operand}{T E ty:TypeId}{Eb:List Bool}{α:Type}{r:u3 α}{i:Inhabited α}{w:Value}{L:List α}{h:Int}{bb:Bool}{F:Bool×C3→j8}{EX:Value→List Bool}{AX:Value→Prop}
    [hx:EvQ true σ x (.raw w)][hH:HoQ H w (bb,.own E w L) F][u:UnI P T (.slice E)][t:TyI P E α r i][hy:T9 true σ y Int inferInstance h][k:∀ w',Rw mo G P C N n (.b ops Q l) ((d,.raw w')::σ) (F (bb,.own E w' (L.take h.toNat))) (EX w') (AX w')][cE:CoQ EX Eb] :
    Rw mo G P C N (n+1) (.b ops Q (⟨some d,.slice T x none (some y) none,ty,ps,af,none⟩::l)) σ H Eb (0≤h∧h≤L.length∧∀ w',AX w') :=
  ⟨fun g e hh => .h (.c5p u.h t.h (hx.h C H rfl) hH.h (hy.h C H rfl) hh.1 hh.2.1 fun w'=>(k w').h g (cast (congrArg (fun z=>a0K z=true) (cE.h w')).symm e) (hh.2.2 w'))⟩
instance {P:Program}{T:TypeId}{i:Nat}{β γ:Type}{s:u3 β}{q:u3 γ}{w:Value}{kk:Nat}{m:j9 β γ}{f:β→γ}[n:FdI P T i β s γ q m f]:FaQ P T i (.el w kk (j9.id (α:=β))) (.el w kk m):=⟨fun N C σ H x d ty ps af g h=>by
 obtain⟨sz,k,_⟩:=n.h
 exact .vk rfl fun ρ I L hs=>by
  obtain⟨u,h2,b,h3,rfl⟩:=h ρ I L hs
  exact .fieldAddr k h2 ⟨b,h3,by simp [j9.id]⟩⟩
instance {c:Bool}{σ:o8}{f:FuncId}:T9 c σ (.func f) FnV inferInstance (FnV.mk (some f)):=⟨fun _ _ _ ρ I L hs=>⟨.func (.func f) #[] #[],rfl,[.func (.func f) #[] #[]],rfl,rfl⟩⟩
theorem a7b.fnV {P:Program}{N:Nat}{C:Ctx}{σ:o8}{H:j8}{f:FuncId}{ag:List AV}{d:Option Nat}{args:Array Operand}{tys:Array TypeId}{ty:TypeId}{ps:String}{af:Array Edge}{g:Option (Nat×Bool)}{F:Operand}
    (hF:G5 C σ H F (.v (FnV.mk (some f))))(hv:a0I C σ H args.toList ag):a7b P N C ⟨d,.call ⟨.value F,args,tys⟩,ty,ps,af,g⟩ σ H f ag:=fun ρ I L hs=>by
  obtain⟨vs,h1,h2⟩:=hv.get hs
  obtain⟨u,h3,cs,h4,rfl⟩:=hF ρ I L hs
  have h4:cs = [.func (.func f) #[] #[]]:=h4
  subst h4
  exact⟨vs,h2,fun ok a w ha=>Y0 ok j0 (ha.ev h3) (ha.evL h1)⟩
section
variable {P:Program}{σ:o8}{d:Option Nat}{ty:TypeId}{ps:String}{af:Array Edge}{g:Option (Nat×Bool)}{args:Array Operand}{tys:Array TypeId}{F:Operand}{f:FuncId}{ag:List AV}
instance [hF:EvQ true σ F (.v (FnV.mk (some f)))][hv:AsQ true σ args.toList ag]:EnQ P ⟨d,.call ⟨.value F,args,tys⟩,ty,ps,af,g⟩ σ f ag:=⟨fun N C H => .fnV (hF.h C H rfl) (hv.h C H rfl)⟩
end
theorem OpP.ent {P:Program}{C:Ctx}{N:Nat}{σ:o8}{H:j8}{f:FuncId}{ag:List AV}{r:AV}{o:Oper}{G:Gl}(hG:G.p C.I0)(en:a7b P N C o σ H f ag)(h:C4 G P f ag (fun x=>x=r)):OpP P N C o σ H (fun a=>a=r):=fun ρ I L hs=>by
 obtain⟨vs,h2,h3⟩:=en ρ I L hs
 have hM:=h I vs (G.mono hs.U9 hG) h2
 have e:evL ρ (vs.map Operand.const)=some vs:=by
  clear h3 h2 hM
  induction vs with
  | nil=>rfl
  | cons v r ih=>rw [List.map_cons];simp [evL,ev,ih]
 have hc:=OpX.call (d:=none) (args:=(vs.map Operand.const).toArray) (tys := #[]) (ty:=0) (ps := "") (af := #[]) (g:=none) (N:=N) (L:=L) (F := .func f) (K:=fun v J X=>X = []∧∃ x,F9 J x v∧x=r) (ρ:=ρ) rfl (by simpa using e) hM fun v J hle h5=>⟨rfl,h5⟩
 intro a w ha hm
 have h4:=hc a w ha hm
 rw [Y0 hM.ok rfl (ha.ev (x := .func f) rfl) (ha.evL (by simpa using e))] at h4
 rw [h3 hM.ok a w ha]
 exact h4
instance (priority:=low){G:Gl}{P:Program}{σ:o8}{H:j8}{d:Option Nat}{ty:TypeId}{ps:String}{af:Array Edge}{g:Option (Nat×Bool)}{t:Nat}{args:Array Operand}{tys:Array TypeId}{f:FuncId}{ag:List AV}{D:List Prop}{r:AV}[en:EnQ P ⟨d,.call ⟨.value (.tmp t),args,tys⟩,ty,ps,af,g⟩ σ f ag][k:P9 G P f ag D r] :
    OpD G P true ⟨d,.call ⟨.value (.tmp t),args,tys⟩,ty,ps,af,g⟩ σ H D r:=⟨fun N C hG _ hD => .ent hG (en.h N C H) (k.h hD)⟩
section
variable {G:Gl}{P:Program}{c:Bool}{σ:o8}{H:j8}{d:Option Nat}{ty:TypeId}{ps:String}{af:Array Edge}{g:Option (Nat×Bool)}{f:FuncId}{args:Array Operand}{α β:Type}{r:u3 α}{s:u3 β}{x:α}{y:β}
class ExF (f:FuncId):Prop where h:True
instance (priority:=2000)[e:ExF f][hv:AsQ c σ args.toList [.p x]]:OpQ G P c ⟨d,.makeFunc (.func f) #[] args,ty,ps,af,g⟩ σ H (.v (FnC.mk' f x)):=⟨fun N C hG e => .mkC (hv.h C H e) rfl⟩
instance (priority:=2000)[e:ExF f][hv:AsQ c σ args.toList [.p x,.p y]]:OpQ G P c ⟨d,.makeFunc (.func f) #[] args,ty,ps,af,g⟩ σ H (.v (a3Z.mk' f x y)):=⟨fun N C hG e => .d2j (hv.h C H e) rfl⟩
end
section
variable {P:Program}{C:Ctx}{N:Nat}{σ:o8}{H:j8}{Q:Exit→o8→j8→Prop}
theorem wpA.c2C {α β ι:Type}{r:u3 α}{s:u3 β}{w:Value}{x:α}{b:Bool}{c:Code}{F:Bool×C3→j8}(f:ι→β)(hH:H9 H (b,.ob w x) F)(h:∀ I cs,r.rep I x cs→∃ i,s.rep I (f i) cs)(k:∀ i,wpA P C N c Q σ (F (b,.ob w (f i)))):wpA P C N c Q σ H:=fun ρ I L hs=>by
 obtain⟨i,X,h2,h3,h4⟩:=hH.get hs.heap
 have hset:L.set i X=L:=by
  obtain⟨hi,e⟩:=List.getElem?_eq_some_iff.1 h2
  rw [←e,List.set_getElem_self]
 obtain⟨⟨bb,T,cs,e1,e2,e3⟩,h5⟩:=h3
 obtain⟨j,h6⟩:=h I cs e3
 have:=h4 I (b,.ob w (f j)) X (Le.refl I) ⟨⟨bb,T,cs,e1,e2,h6⟩,h5⟩
 rw [hset] at this
 exact k j ρ I L ⟨hs.env,this,hs.U9⟩
theorem wpB.c2C {ops:Array Oper}{os:List Oper}{α β ι:Type}{r:u3 α}{s:u3 β}{w:Value}{x:α}{b:Bool}{F:Bool×C3→j8}(f:ι→β)(hH:H9 H (b,.ob w x) F)(h:∀ I cs,r.rep I x cs→∃ i,s.rep I (f i) cs)(k:∀ i,wpB P C N ops Q os σ (F (b,.ob w (f i)))):wpB P C N ops Q os σ H:=fun ρ I L hs=>by
 obtain⟨i,X,h2,h3,h4⟩:=hH.get hs.heap
 have hset:L.set i X=L:=by
  obtain⟨hi,e⟩:=List.getElem?_eq_some_iff.1 h2
  rw [←e,List.set_getElem_self]
 obtain⟨⟨bb,T,cs,e1,e2,e3⟩,h5⟩:=h3
 obtain⟨j,h6⟩:=h I cs e3
 have:=h4 I (b,.ob w (f j)) X (Le.refl I) ⟨⟨bb,T,cs,e1,e2,h6⟩,h5⟩
 rw [hset] at this
 exact k j ρ I L ⟨hs.env,this,hs.U9⟩
end
end Go.Ab
namespace Go.Ab
open Go.Fl Go.RowKit
open u3 (rep)
universe u v
class TyG (P:Program)(T:TypeId)(α:Type)(r:u3 α)(i:outParam (Inhabited α)):Prop where h:K1 P T α
abbrev TyK (P:Program)(T:TypeId)(α:Type)[r:u3 α][i:Inhabited α]:Prop:=TyG P T α r i
instance (priority:=low){P:Program}{T:TypeId}{H:j8}{α:Type}{r:u3 α}{i:Inhabited α}{w:Value}{a:α}{bb:Bool}{F:Bool×C3→j8}[k:HoQ H w (bb,.ob w a) F][t:TyG P T α r i]:LdQ P T (.ln w (j9.id (α:=α))) H (.v a):=⟨fun N C σ x d ty ps af g h => .ldW t.h h k.h rfl⟩
instance (priority:=low){P:Program}{T:TypeId}{H:j8}{α:Type}{r:u3 α}{i:Inhabited α}{w:Value}{a v:α}{bb:Bool}{F:Bool×C3→j8}[t:TyG P T α r i][k:HoQ H w (bb,.ob w a) F]:SoQ P T (.ln w (j9.id (α:=α))) (.v v) H (F (bb,.ob w v)):=⟨fun N C σ x y ty ps af g KH hx hy q => .stW t.h hx hy k.h q⟩
instance (priority:=low){P:Program}{C:Ctx}{T:TypeId}{σ:o8}{H:j8}{t:Nat}{α:Type}{r:u3 α}{i:Inhabited α}{x:α}{bb:Bool}{b:Nat}{F:Bool×C3→j8}[h:LkQ σ t (.ln (ptr b 0) (j9.id (α:=α)))][ty:TyG P T α r i][k:HoQ H (ptr b 0) (bb,.ob (ptr b 0) x) F]:R1Q P C (.cell t T) σ H (.v x):=⟨.cell ty.h h.h k.h⟩
section
variable {P:Program}{C:Ctx}{N:Nat}{σ:o8}{H:j8}{Q:Exit→o8→j8→Prop}
theorem wpA.rob (t:Nat){α β ι:Type}{r:u3 α}{s:u3 β}{w:Value}{x:α}{b:Bool}{c:Code}{F:Bool×C3→j8}(f:ι→β)[lk:LkQ σ t (.ln w (j9.id (α:=α)))][hH:HoQ H w (b,.ob w x) F](h:∀ I cs,r.rep I x cs→∃ i,s.rep I (f i) cs)(k:∀ i,wpA P C N c Q ((t,.ln w (j9.id (α:=β)))::σ) (F (b,.ob w (f i)))):wpA P C N c Q σ H :=
 .c2C f hH.h h fun i => .conv t (.ln w (j9.id (α:=β))) lk.h (fun n0 I L u _ hu=>by
  obtain⟨b',h1,h2⟩:=hu
  exact⟨b',h1,h2⟩) (k i)
theorem wpA.d0j (t:Nat){α β:Type}{r:u3 α}{s:u3 β}{w:Value}{x:α}{b:Bool}{c:Code}{F:Bool×C3→j8}(f:Value→Value→β)(A1 A2:AV)[lk:LkQ σ t (.ln w (j9.id (α:=α)))][hH:HoQ H w (b,.ob w x) F](h:∀ I cs,r.rep I x cs→∃ u v,s.rep I (f u v) cs∧F9 I A1 u∧F9 I A2 v)
    (k:∀ u v,wpA P C N c Q ((t,.ln w (j9.id (α:=β)))::σ) ((true,.fz u A1)::(true,.fz v A2)::F (b,.ob w (f u v)))):wpA P C N c Q σ H:=fun ρ I L hs=>by
  obtain⟨i,X,h2,h3,h4⟩:=hH.h.get hs.heap
  have hset:L.set i X=L:=by
    obtain⟨hi,e⟩:=List.getElem?_eq_some_iff.1 h2
    rw [←e,List.set_getElem_self]
  obtain⟨⟨bb,T,cs,e1,e2,e3⟩,h5⟩:=h3
  obtain⟨u,v,h6,h7,h8⟩:=h I cs e3
  have h9:=h4 I (b,.ob w (f u v)) X (Le.refl I) ⟨⟨bb,T,cs,e1,e2,h6⟩,h5⟩
  rw [hset] at h9
  refine wpS.pad (wpS.pad ((wpA.conv t (.ln w (j9.id (α:=β))) lk.h (fun n0 I L u _ hu=>by
    obtain⟨b',h1,h2⟩:=hu
    exact⟨b',h1,h2⟩) (k u v)) ρ I ([] :: []::L) ⟨hs.env,⟨[],_,rfl,⟨⟨rfl,h7⟩,fun _ p hp=>by cases hp⟩,⟨[],L,rfl,⟨⟨rfl,h8⟩,fun _ p hp=>by cases hp⟩,h9⟩⟩,hs.U9⟩))
theorem wpA.lpU {c:Code}{α:Type}{R:o8}{p:List Prop}(V:α→o8)(Hf:α→j8)(F:α→Prop)(μ:α→Nat)(x0:α)[fi:FiQ (V x0) σ σ R][v:EqQ (V x0) σ p](hp:Z8 p)(hH:H=Hf x0)(h0:F x0)
    (round:∀ x,F x→wpA P C N c (a1m (a69 R V Hf F μ x) Q) (V x++R) (Hf x)):wpA P C N (.loop c) Q σ H := .c2x V Hf F μ x0 h0 (v.h hp fi.h) hH fun x hF=>round x hF
theorem a69.of {α:Type}{R:o8}{V:α→o8}{Hf:α→j8}{F:α→Prop}{μ:α→Nat}{x:α}{p:List Prop}(n:Nat)(x':α)[r:SbQ R σ][v:EqQ (V x') σ p](hp:Z8 p)(hH:H.drop n=Hf x')(hF:F x')(hm:μ x' < μ x):a69 R V Hf F μ x σ H:=⟨n,x',v.h hp r.h,hH,hF,hm⟩
end
theorem wpB.rob {P:Program}{C:Ctx}{N:Nat}{σ:o8}{H:j8}{Q:Exit→o8→j8→Prop}{ops:Array Oper}{os:List Oper}(t:Nat){α β ι:Type}{r:u3 α}{s:u3 β}{w:Value}{x:α}{b:Bool}{F:Bool×C3→j8}(f:ι→β)[lk:LkQ σ t (.ln w (j9.id (α:=α)))][hH:HoQ H w (b,.ob w x) F](h:∀ I cs,r.rep I x cs→∃ i,s.rep I (f i) cs)(k:∀ i,wpB P C N ops Q os ((t,.ln w (j9.id (α:=β)))::σ) (F (b,.ob w (f i)))):wpB P C N ops Q os σ H :=
 .c2C f hH.h h fun i=>fun ρ I L hs=>k i ρ I L ⟨fun s b hb=>by
  rw [G7] at hb
  by_cases e:t=s
  ·subst e;simp at hb;subst hb
   obtain⟨u,h1,b',h2,h3⟩:=hs.env t _ lk.h
   exact⟨u,h1,b',h2,h3⟩
  ·rw [if_neg e] at hb;exact hs.env s b hb,hs.heap,hs.U9⟩
theorem C6.c5q {G:Gl}{P:Program}{f:FuncId}{ag:List AV}{post:AV→List C3→Prop}(r:AV)(h:C6 G P f ag [] post)(hc:∀ x Hs I L v,post x Hs→F9 I x v→Q9 I Hs L→∀ J,Le I J→(∀ p∈L.flatten,J p.1=some p.2)→F9 J r v):C4 G P f ag (fun y=>y=r):=fun I vs hG hvs=>by
 have hM:=h I [] vs hG hvs rfl
 refine⟨hM.ok,fun w hm=>(hM.run w hm).mono ?_⟩
 rintro e w' ⟨v,J,L',rfl,q1,q2,q3,q4,q5,x,Hs',q6,q7,q8⟩
 have q4':Mem J [L'.flatten] w':=⟨q4.im,by simpa using q4.loc,by simpa using q4.sep,by simpa using q4.nodup⟩
 have hle:Le J (J.with L'.flatten):=Im.a03 fun p hp=>q4.sep p hp
 refine⟨_,J.with L'.flatten,rfl,by simpa using q1,q2.trans hle,fun b h0 h1 => ?_,(q4'.freeze (i:=0) (c:=L'.flatten) rfl).drop,r,hc x Hs' J L' v q8 q6 q7 _ hle (fun p hp=>Im.a0U q4.nodup hp),rfl⟩
 cases hj:J.with L'.flatten b with
 | none=>exact absurd hj h1
 | some o =>
  rcases Im.a0g hj with h2|h2
  ·rcases q5 (b,o) h2 with h3|h3
   ·exact h3
   ·cases h3
  ·exact q3 b h0 (by simp [h2])
def ixC (n i:Nat):Nat:=min i (n - 1)
theorem c2D {n i:Nat}(h:Nat.ble 1 n=true):ixC n i < n:=by have:=Nat.le_of_ble_eq_true h;unfold ixC;omega
theorem b6E {n i:Nat}(h:i < n):ixC n i=i:=by unfold ixC;omega
section
variable {G:Gl}{P:Program}{l os:List Oper}{nm:Nat→Nm}{k:Nat}{σ σ':o8}{H H':j8}{T:List (Nm→R8)}{ts:List (Option (Nat×Nat))}{D D2:List Prop}{d:Nat}{ty:TypeId}{ps:String}{af:Array Edge}{TT:TypeId}{x y:Operand}{n:Int}
instance (priority:=low){α β:Type}{r:u3 α}{s:u3 β}{k0 kz:Nat}{kb:Bool}{w:Value}{ln:j9 α (M4 k0 β)}[hx:EvQ true (Q3 σ ⟨some d,.indexAddr TT x y,ty,ps,af,none⟩) x (.ln w ln)][hf:ElI P TT k0 kz kb][hz:TrB (Nat.beq kz (u3.size β))][hy:T9 true (Q3 σ ⟨some d,.indexAddr TT x y,ty,ps,af,none⟩) y Int inferInstance n][h1:TrB (Nat.ble 1 k0)]
    [q:ChQ G P l nm (k+1) os ((d,.ln w (ln.comp (j9.idx (ixC k0 n.toNat) (c2D h1.h))))::σ) H T ts σ' H' D2][cj:Cj [0≤n,n < k0] D2 D] :
    ChQ G P l nm k (⟨some d,.indexAddr TT x y,ty,ps,af,none⟩::os) σ H ((fun _=>⟨none,.ln w (ln.comp (j9.idx (ixC k0 n.toNat) (c2D h1.h))),b1I⟩)::T) (none::ts) σ' H' D :=
  ⟨fun N C F hG hD hF=>⟨fun H' => .c9t (Nat.eq_of_beq_eq_true hz.h▸hf.h) (hx.h C H' rfl) (hy.h C H' rfl) (cj.of hD).1.1 (cj.of hD).1.2.1 (by
    have h0:=(cj.of hD).1.1
    have h2:=(cj.of hD).1.2.1
    have e:n.toNat=ixC k0 n.toNat:=(b6E (by omega)).symm
    have:∀ (a b:Nat) (ha:a < k0) (hb:b < k0),a=b→(AV.ln w (ln.comp (j9.idx a ha))=AV.ln w (ln.comp (j9.idx b hb))):=fun a b ha hb e=>by subst e;rfl
    exact this _ _ _ _ e),q.h N C F hG (cj.of hD).2 hF⟩,by rw [evT,List.map_cons,q.t]⟩
end
instance {G:Gl}{P:Program}{l os:List Oper}{nm:Nat→Nm}{k:Nat}{σ σ':o8}{H H':j8}{T:List (Nm→R8)}{ts:List (Option (Nat×Nat))}{D D2:List Prop}{ty:TypeId}{ps:String}{af:Array Edge}{p:Nat}{bb:Bool}{F0:Bool×C3→j8}{TT E:TypeId}{x y:Operand}{α β:Type}{r:u3 α}{s:u3 β}{i:Inhabited β}{j:Inhabited α}{w:Value}{ln:j9 α β}{f:α→β}{f':β→α→α}{zs:List α}{v:β}{kk:Nat}
    [hx:EvQ true (Q3 σ ⟨none,.store TT x y,ty,ps,af,none⟩) x (.el w kk ln)][hy:T9 true (Q3 σ ⟨none,.store TT x y,ty,ps,af,none⟩) y β s v][t:TyI P TT β s i][nl:Q2 ln f f'][po:PoQ H w p (bb,.own E w zs) F0][t2:TyI P E α r j]
    [q:ChQ G P l nm (k+1) os σ (F0 (bb,.own E w (zs.set kk (f' v (zs.getD kk default))))) T ts σ' H' D2][cj:Cj [kk < zs.length] D2 D] :
    ChQ G P l nm k (⟨none,.store TT x y,ty,ps,af,none⟩::os) σ H ((fun _=>⟨some (p,1),.any,(bb,.own E w (zs.set kk (f' v (zs.getD kk default))))⟩)::T) (some (p,1)::ts) σ' H' D :=
  ⟨fun N C F hG hD hF=>⟨⟨(bb,.own E w zs),po.get,fun H' F' hh => .stE t.h (hx.h C H' rfl) (hy.h C H' rfl) hh (cj.of hD).1.1 (by
    have h1:=(cj.of hD).1.1
    have e:zs.getD kk default=zs[kk]:=by rw [List.getD_eq_getElem?_getD,List.getElem?_eq_getElem h1];rfl
    rw [nl.u,←e];exact⟨rfl,rfl⟩)⟩,by
    show chU P C N l nm F (k+1) os T σ (H.set p _)
    rw [po.set];exact q.h N C F hG (cj.of hD).2 hF⟩,by rw [evT,List.map_cons,q.t]⟩
end Go.Ab
namespace Go.Ab
open Go.Fl Go.RowKit
open u3 (rep)
universe u v
theorem O3.b6F {P:Program}{N:Nat}{ρ:Env}{I:Fl.Im}{L:Lh}{φ:Value→Prop}{d:Option Nat}{T ty:TypeId}{ps:String}{af:Array Edge}{g:Option (Nat×Bool)}{x y:Operand}{n sz b o h:Nat}{ag:Bool}{kd:IntKind}(hf:O7 P T=some (n,sz,ag))(hx:ev ρ x=some (ptr b o))(hy:ev ρ y=some (.int kd (h:Int)))(hh:h≤n)(k:φ (.slice (some ⟨b,o,none⟩) h n)):O3 P N ⟨d,.slice T x none (some y) none,ty,ps,af,g⟩ ρ I L φ :=
 .mk k fun a w ha hm=>by
  unfold O7 at hf
  split at hf
  ·rename_i m e hu
   split at hf
   ·rename_i inf dd h2 h3
    simp only [Option.some.injEq,Prod.mk.injEq] at hf
    obtain⟨rfl,h4,_⟩:=hf
    have hs:G6 P e sz:=by simp [G6,h2,h4]
    simp [execOp,ha.ev hx,ha.ev hy,Instr.sliceAt,run_underlying hu,Instr.sureAddr,Instr.sliceBounds,Instr.sliceBound,asIntOf,hs.run,Addr.add_plain,ptr,hh]
   ·cases hf
  ·cases hf
theorem OpP.c5r {P:Program}{C:Ctx}{N:Nat}{σ:o8}{H:j8}{d:Option Nat}{ty T:TypeId}{ps:String}{af:Array Edge}{g:Option (Nat×Bool)}{K:AV→Prop}{x y:Operand}{β:Type}{n:Nat}{s:u3 β}{ag:Bool}{a:M4 n β}{h:Int}(hn:n≤9223372036854775807)(hf:O7 P T=some (n,u3.size β,ag))(hx:G5 C σ H x (.p a))(hy:G5 C σ H y (.v h))(h0:0≤h)(h1:h≤n)(k:K (.v (a.l.take h.toNat))):OpP P N C ⟨d,.slice T x none (some y) none,ty,ps,af,g⟩ σ H K :=
 .vk k (fun ρ I L hs=>by
  obtain⟨u,h2,b,o,cs,rfl,h3,h4⟩:=hx ρ I L hs
  obtain⟨m,rfl⟩:=Int.eq_ofNat_of_zero_le h0
  have hl:=h3.len
  rw [a.h] at hl
  have hm:m≤n:=by omega
  refine O3.b6F hf h2 (hy.int hs).1 hm ⟨_,⟨_,rfl,cs.take (m*u3.size β),?_,h3.c6T m (by rw [a.h];exact hm)⟩,rfl⟩
  have hle:m*u3.size β≤n*u3.size β:=Nat.mul_le_mul_right _ hm
  have e:(a.l.take m).length=m:=by rw [List.length_take,a.h];omega
  have e:(a.l.take ((m:Int)).toNat).length=m:=e
  rw [e]
  refine⟨some ⟨b,o,none⟩,n,rfl,by rw [List.length_take,hl];omega,hm,by unfold maxLen;omega,(fun e=>by cases e),fun _=>⟨b,o,rfl,?_⟩⟩
  have:=h4.sub 0 (ys:=cs.take (m*u3.size β)) fun i u hu=>by
   rw [List.getElem?_take] at hu
   split at hu
   ·simpa using hu
   ·cases hu
  simpa using this)
instance {G:Gl}{P:Program}{c:Bool}{σ:o8}{H:j8}{d:Option Nat}{ty T:TypeId}{ps:String}{af:Array Edge}{g:Option (Nat×Bool)}{x y:Operand}{β:Type}{s:u3 β}{k kz:Nat}{kb:Bool}{a:M4 k β}{h:Int}[hx:EvQ c σ x (.p a)][hf:ElI P T k kz kb][hz:TrB (Nat.beq kz (u3.size β))][hk:TrB (Nat.ble k 9223372036854775807)][hy:T9 c σ y Int inferInstance h] :
    OpD G P c ⟨d,.slice T x none (some y) none,ty,ps,af,g⟩ σ H [0≤h,h≤k] (.v (a.l.take h.toNat)):=⟨fun N C hG e hD => .c5r (Nat.le_of_ble_eq_true hk.h) (Nat.eq_of_beq_eq_true hz.h▸hf.h) (hx.h C H e) (hy.h C H e) hD.1 hD.2.1 rfl⟩
theorem wpB.c5i {P:Program}{C:Ctx}{N:Nat}{Q:Exit→o8→j8→Prop}{σ:o8}{H:j8}{ops:Array Oper}{os:List Oper}(hC:Ctx.Ok C)(t:Nat){α:Type}{r:u3 α}{b:Nat}{x:α}{F:Bool×C3→j8}(ht:F6 σ t=some (.ln (ptr b 0) (j9.id (α:=α))))(h:H9 H (true,.ob (ptr b 0) x) F)(k:wpB P C N ops Q os ((t,.p x)::σ) (F a1p)):wpB P C N ops Q os σ H :=
 .U2 hC h (.asP t ht h.again (fun ρ I L hs=>by
  obtain⟨i,X,h1,h2,h3⟩:=(h.again (B':=(true,.fz (ptr b 0) (.p x)))).get hs.heap
  have hX:X = []:=h2.1.1
  subst hX
  have h4:=h3 I a1n [] (Le.refl I) ⟨⟨rfl,trivial⟩,fun _ p hp=>by cases hp⟩
  have e:L.set i []=L:=by
   obtain⟨hi,e⟩:=List.getElem?_eq_some_iff.1 h1
   rw [←e,List.set_getElem_self]
  rw [e] at h4
  exact k ρ I L ⟨hs.env,h4,hs.U9⟩))
class FzS (t:Nat):Prop where h:True
instance (priority:=2000){mo:Nat}{G:Gl}{P:Program}{C:Ctx}{N n:Nat}{ops:List Oper}{Q:Exit→o8→j8→Prop}{l:List Oper}{σ:o8}{H:j8}{d:Option Nat}{ps:String}{af:Array Edge}{g:Option (Nat×Bool)}{T ty:TypeId}{t b:Nat}{lo hi mx:Option Operand}{Eb:List Bool}{A:Prop}{α:Type}{r:u3 α}{x:α}{F:Bool×C3→j8}[f:FzS t][ht:LkQ σ t (.ln (ptr b 0) (j9.id (α:=α)))][h:HoQ H (ptr b 0) (true,.ob (ptr b 0) x) F]
    [k:Rw mo G P C N n (.b ops Q (⟨d,.slice T (.tmp t) lo hi mx,ty,ps,af,g⟩::l)) ((t,.p x)::σ) (F a1p) Eb A]:Rw mo G P C N n (.b ops Q (⟨d,.slice T (.tmp t) lo hi mx,ty,ps,af,g⟩::l)) σ H Eb A:=⟨fun g e q => .c5i g.1 t ht.h h.h (k.h g e q)⟩
class FzR (id:Nat)(t:outParam Nat):Prop where h:True
instance (priority:=2000){mo:Nat}{G:Gl}{P:Program}{C:Ctx}{N n:Nat}{Q:Exit→o8→j8→Prop}{l:Array Oper}{bo:Bool}{σ:o8}{H:j8}{id t b:Nat}{Eb:List Bool}{A:Prop}{α:Type}{r:u3 α}{x:α}{F:Bool×C3→j8}[f:FzR id t][ht:LkQ σ t (.ln (ptr b 0) (j9.id (α:=α)))][h:HoQ H (ptr b 0) (true,.ob (ptr b 0) x) F]
    [k:Rw mo G P C N n (.a (.region id l bo) Q) ((t,.p x)::σ) (F a1p) Eb A]:Rw mo G P C N n (.a (.region id l bo) Q) σ H Eb A:=⟨fun g e q => .c5i g.1 t ht.h h.h (k.h g e q)⟩
class FzW (id:Nat)(t:outParam Nat):Prop where h:True
instance (priority:=2000){mo:Nat}{G:Gl}{P:Program}{C:Ctx}{N n:Nat}{Q:Exit→o8→j8→Prop}{l:Array Oper}{bo:Bool}{σ:o8}{H:j8}{id t:Nat}{w:Value}{E:TypeId}{Eb:List Bool}{A:Prop}{α:Type}{r:u3 α}{x:List α}{F:Bool×C3→j8}[f:FzW id t][ht:LkQ σ t (.raw w)][h:HoQ H w (true,.own E w x) F]
    [k:Rw mo G P C N n (.a (.region id l bo) Q) ((t,.v x)::σ) (F a1p) Eb A]:Rw mo G P C N n (.a (.region id l bo) Q) σ H Eb A:=⟨fun g e q => .c94 g.1 t ht.h h.h (k.h g e q)⟩
theorem OpP.d0k {P:Program}{C:Ctx}{N:Nat}{σ:o8}{H:j8}{d:Option Nat}{ty T T2:TypeId}{ps:String}{af:Array Edge}{g:Option (Nat×Bool)}{K:AV→Prop}{x y:Operand}{m:Int}{n:UInt64}(hx:G5 C σ H x (.v m))(hy:G5 C σ H y (.v n))(h1:n.toNat < 64)(h2:0≤m*2^n.toNat)(h3:m*2^n.toNat≤9223372036854775807)(k:K (.v (m*2^n.toNat))):OpP P N C ⟨d,.binOp .shl T x y T2,ty,ps,af,g⟩ σ H K :=
 .vk k (fun ρ I L hs=>by
  refine .mk ⟨_,⟨rfl,by omega,h3⟩,rfl⟩ fun a w ha hm => ?_
  have e:binOp .shl T (i64 m) (Fl.u64 n)=pure (i64 (m*2^n.toNat)):=by
   show Op.shift .shl .i64 m .u64 n.toNat=_
   unfold Op.shift
   rw [if_neg (by omega)]
   have e2:min n.toNat (IntKind.bits .i64)=n.toNat:=by simp [IntKind.bits];omega
   simp only [Int.toNat_natCast,e2,wrap_i64 (n:=m*2^n.toNat) (by omega) h3]
  simp only [execOp,ha.ev (hx.int hs).1,ha.ev (hy.a4i hs),eqGuard]
  simp [e,asV,u3.agg])
section
variable {G:Gl}{P:Program}{c:Bool}{σ:o8}{H:j8}{d:Option Nat}{ty T T2:TypeId}{ps:String}{af:Array Edge}{g:Option (Nat×Bool)}{x y:Operand}{m:Int}{n:UInt64}
instance [hx:T9 c σ x Int inferInstance m][hy:T9 c σ y UInt64 inferInstance n]:OpD G P c ⟨d,.binOp .shl T x y T2,ty,ps,af,g⟩ σ H [n.toNat < 64,0≤m*2^n.toNat,m*2^n.toNat≤9223372036854775807] (.v (m*2^n.toNat)):=⟨fun N C hG e h => .d0k (hx.h C H e) (hy.h C H e) h.1 h.2.1 h.2.2.1 rfl⟩
instance [hx:T9 c σ x Int inferInstance m][hy:T9 c σ y UInt64 inferInstance n]:OpD G P c ⟨d,.binOp .shr T x y T2,ty,ps,af,g⟩ σ H [n.toNat < 64] (.v (m >>> n.toNat)):=⟨fun N C hG e h => .c6L (hx.h C H e) (hy.h C H e) h.1 rfl⟩
end
theorem G5.d0l {C:Ctx}{σ:o8}{H:j8}{x:Operand}{α:Type}{r:u3 α}{b:Nat}(h:G5 C σ H x (.raw (ptr b 0))):G5 C σ H x (.ln (ptr b 0) (j9.id (α:=α))):=fun ρ I L hs=>by
 obtain⟨u,h1,rfl⟩:=h ρ I L hs
 exact⟨_,h1,b,j0,j0⟩
section
variable {G:Gl}{P:Program}{c:Bool}{σ:o8}{H:j8}{d:Option Nat}{ty:TypeId}{ps:String}{af:Array Edge}{g:Option (Nat×Bool)}{x:Operand}{T:TypeId}{α β γ:Type}{r:u3 α}{s:u3 β}{q:u3 γ}{b:Nat}
instance {i:Inhabited α}{a:α}{bb:Bool}{F:Bool×C3→j8}[k:HoQ H (ptr b 0) (bb,.ob (ptr b 0) a) F][t:TyI P T α r i]:LdQ P T (.raw (ptr b 0)) H (.v a):=⟨fun N C σ x d ty ps af g h => .ldW t.h h.d0l k.h rfl⟩
instance {i:Inhabited α}{a v:α}{bb:Bool}{F:Bool×C3→j8}[t:TyI P T α r i][k:HoQ H (ptr b 0) (bb,.ob (ptr b 0) a) F]:SoQ P T (.raw (ptr b 0)) (.v v) H (F (bb,.ob (ptr b 0) v)):=⟨fun N C σ x y ty ps af g KH hx hy q => .stW t.h hx.d0l hy k.h q⟩
class ClR (c:Bool)(σ:o8)(xs:List Operand)(vs:outParam (List Value)):Prop where h:∀ C H ρ I L,c=true→RSt C I L σ H ρ→evL ρ xs=some vs
instance:ClR c σ [] []:=⟨fun _ _ _ _ _ _ _=>rfl⟩
instance {xs:List Operand}{vs:List Value}[h:EvQ c σ x (.ln (ptr b 0) (j9.id (α:=α)))][k:ClR c σ xs vs]:ClR c σ (x::xs) (ptr b 0::vs):=⟨fun C H ρ I L e hs=>by
 obtain⟨u,h1,b',h2,rfl⟩:=h.h C H e ρ I L hs
 have e2:b'=b:=by simpa [a6r,ptr] using h2.symm
 subst e2
 simp [evL,h1,k.h C H ρ I L e hs,j9.id]⟩
class ExR (f:FuncId):Prop where h:True
instance (priority:=2000){f:FuncId}{args:Array Operand}{vs:List Value}[e:ExR f][hv:ClR c σ args.toList vs]:OpQ G P c ⟨d,.makeFunc (.func f) #[] args,ty,ps,af,g⟩ σ H (.raw (.func (.func f) #[] (List.toArray vs))):=⟨fun N C hG e => .vk rfl fun ρ I L hs=>by
 have h1:=hv.h C H ρ I L e hs
 exact .mk rfl fun a w ha _=>by
  have e:=ha.evL h1
  have hargs:args.map a.eval=vs.toArray:=by rw [←e];cases args;simp
  simp [execOp,Instr.makeFunc,hargs]⟩
class c5s (vs:List Value)(ag:outParam (List AV)):Prop where h:∀ I,T5 I ag vs
instance:c5s [] []:=⟨fun _=>rfl⟩
instance {v:Value}{vs:List Value}{ag:List AV}[k:c5s vs ag]:c5s (v::vs) (.raw v::ag):=⟨fun I=>⟨v,vs,rfl,rfl,k.h I⟩⟩
class ApL (A B:List AV)(R:outParam (List AV)):Prop where h:A++B=R
instance {B:List AV}:ApL [] B B:=⟨rfl⟩
instance {f:FuncId}{args:Array Operand}{tys:Array TypeId}{F:Operand}{vs:List Value}{ag rg R:List AV}[hF:EvQ true σ F (.raw (.func (.func f) #[] (List.toArray vs)))][hv:AsQ true σ args.toList ag][ra:c5s vs rg][ap:ApL ag rg R]:EnQ P ⟨d,.call ⟨.value F,args,tys⟩,ty,ps,af,g⟩ σ f R:=⟨fun N C H ρ I L hs=>by
 obtain⟨us,h1,h2⟩:=(hv.h C H rfl).get hs
 obtain⟨u,h3,rfl⟩:=hF.h C H rfl ρ I L hs
 exact⟨us++vs,ap.h▸h2.append (ra.h I),fun ok a w ha=>by
  rw [a3n (fi := #[]) (ca:=vs.toArray) ok rfl (ha.ev h3) (ha.evL h1)];simp⟩⟩
end
end Go.Ab
namespace Go.Fl
def b8E (P:Program)(t:TypeId)(name:String)(f:FuncId):Bool :=
 match P.info? t with
 | some i=>match i.methods.find? (·.name == name) with
  | some m=>m.path.size == 0&&(match m.func with|some (g,b)=>g == f && !b|none=>false)
  | none=>false
 | none=>false
theorem a1Y.of {P:Program}{t:TypeId}{name:String}{f:FuncId}{fs:Array Field}(h:b8E P t name f=true)(hu:P.underlying t=some (.struct fs)):a1Y P t name f:=by
 unfold b8E at h
 split at h
 ·rename_i i hi
  split at h
  ·rename_i m hm
   obtain⟨h1,h2⟩:=Bool.and_eq_true_iff.1 h
   refine⟨⟨i,m,hi,hm,by simpa using h1,?_⟩,fs,hu⟩
   split at h2
   ·rename_i g b hf
    obtain⟨h3,h4⟩:=Bool.and_eq_true_iff.1 h2
    have h3:g=f:=by simpa using h3
    have h4:b=false:=by simpa using h4
    rw [hf,h3,h4]
   ·cases h2
  ·cases h
 ·cases h
end Go.Fl
namespace Go.Ab
open Go.Fl Go.RowKit
open u3 (rep)
universe u v
theorem CaI.of {G : Gl}{P : Program}{name : String}{T : TypeId}{f : FuncId}{α : Type}[u3 α][Exa α]{x : α}{ag : List AV}{Bs : List C3}{r : AV}{Cs : List C3}{fs : Array Field}(hx : Exa.ok x)(hm : b8E P T name f = true)(hu : P.underlying T = some (.struct fs))(h : C6 G P f (.v x :: ag) Bs (fun y Hs => y = r ∧ Hs = Cs)) :
    ∃ t v f a,(b2N T x).v=some (t,v)∧a1Y P t name f∧(∀ I,F9 I a v)∧C6 G P f (a::ag) Bs (fun y Hs=>y=r∧Hs=Cs):=by
  obtain⟨v,h1,h2⟩:=b4j (T:=T) x hx
  exact⟨T,v,f,.v x,h1,.of hm hu,h2,h⟩
theorem a7c.of {G : Gl}{P : Program}{name : String}{T : TypeId}{f : FuncId}{α : Type}[u3 α][Exa α]{x : α}{ag : List AV}{Bs : List C3}{ι : Type u}{S : ι → Prop}{R : ι → AV}{Cs Ns : ι → List C3}{fs : Array Field}(hx : Exa.ok x)(hm : b8E P T name f = true)(hu : P.underlying T = some (.struct fs))(h : C6 G P f (.v x :: ag) Bs (fun r Hs => ∃ x, S x ∧ r = R x ∧ Hs = Cs x ++ Ns x)) :
    ∃ t v f a,(b2N T x).v=some (t,v)∧a1Y P t name f∧(∀ I,F9 I a v)∧C6 G P f (a::ag) Bs (fun r Hs=>∃ x,S x∧r=R x∧Hs=Cs x++Ns x):=by
  obtain⟨v,h1,h2⟩:=b4j (T:=T) x hx
  exact⟨T,v,f,.v x,h1,.of hm hu,h2,h⟩
theorem Src.part {P:Program}{I:Fl.Im}{L:Lh}{s b n off:Nat}{cs:List Value}{e:TypeId}(i:Nat)(hL:L[i]?=some [(b,row cs e)])(h:off+n*s≤cs.length):Src P I L s (slc b off n n) n (K5 cs off (n*s)):=by
 have hl:(K5 cs off (n*s)).length=n*s:=by simp only [K5,List.length_take,List.length_drop];omega
 refine⟨fun w=>by simp [Builtin.lenOf],fun w hm k hk => ?_,hl⟩
 have hle:k*s≤n*s:=Nat.mul_le_mul_right _ hk
 have htl:((K5 cs off (n*s)).take (k*s)).length=k*s:=by rw [List.length_take,hl];exact Nat.min_eq_left hle
 have:=run_loadCells_list (P:=P) w ⟨b,off,none⟩ ((K5 cs off (n*s)).take (k*s)) (fun j u hj=>by
  simp only [K5,List.getElem?_take,List.getElem?_drop] at hj
  split at hj
  ·split at hj
   ·rw [Addr.add_plain,a0u hm hL];exact hj
   ·cases hj
  ·cases hj)
 rw [htl] at this
 simp only [Builtin.firstCells,this]
theorem a5Y.sv {P:Program}{C:Ctx}{σ:o8}{H:j8}{y:Operand}{α β:Type}{n:Nat}{r:u3 α}{s:u3 β}{w:Value}{l:j9 α (M4 n β)}{a:α}{bb:Bool}{F:Bool×C3→j8}(hy:G5 C σ H y (.sv w l))(hH:H9 H (bb,.ob w a) F):a5Y P C σ H y (l.get a).l:=fun ρ I L hs=>by
 obtain⟨u,h1,b,h0,rfl⟩:=hy ρ I L hs
 obtain⟨j,X,h5,h6,h7⟩:=hH.get hs.heap
 obtain⟨b2,T',cs,rfl,rfl,h9⟩:=h6.1
 have e:b2=b:=by simpa [a6r,ptr] using h0
 subst e
 have hf:=l.fits
 have hc:=u3.len h9
 have hg:P2 I (l.get a).l (K5 cs l.off (n*u3.size β)):=l.a5W h9
 exact⟨_,K5 cs l.off (n*u3.size β),h1,by rw [(l.get a).h];exact Ab.Src.part j h5 (by rw [hc];exact hf),hg⟩
instance {P:Program}{U E:TypeId}{σ:o8}{H:j8}{y:Operand}{α β:Type}{n:Nat}{r:u3 α}{s:u3 β}{w:Value}{l:j9 α (M4 n β)}{f:α→M4 n β}{f':M4 n β→α→α}{a:α}{bb:Bool}{F:Bool×C3→j8}[hy:EvQ true σ y (.sv w l)][k:HoQ H w (bb,.ob w a) F][nl:Q2 l f f'][u:UnI P U (.slice E)]:SrQ P U σ H y β s (f a).l:=⟨fun C=>nl.e a ▸ .sv (hy.h C H rfl) k.h,.inl ⟨_,u.h⟩⟩
instance (priority:=low){α:Type}{r:u3 α}:Q2 (j9.id (α:=α)) (fun x=>x) (fun y _=>y):=⟨fun _=>rfl,fun _ _=>rfl⟩
instance {G:Gl}{P:Program}{l os:List Oper}{nm:Nat→Nm}{k:Nat}{σ σ':o8}{H H':j8}{T0:List (Nm→R8)}{ts:List (Option (Nat×Nat))}{D D2:List Prop}{d:Nat}{ty T U E:TypeId}{ps:String}{af:Array Edge}{p:Nat}{bb:Bool}{F0:Bool×C3→j8}{x y:Operand}{α β:Type}{n:Nat}{r:u3 α}{s:u3 β}{i:Inhabited β}{w:Value}{ln:j9 α (M4 n β)}{f:α→M4 n β}{f':M4 n β→α→α}{a:α}{m:List β}
    [u:UnI P T (.slice E)][t:TyI P E β s i][hx:EvQ true (Q3 σ ⟨some d,.call ⟨.builtin .copy,#[x,y],#[T,U]⟩,ty,ps,af,none⟩) x (.sv w ln)][po:PoQ H w p (bb,.ob w a) F0][nl:Q2 ln f f'][hy:T9 true (Q3 σ ⟨some d,.call ⟨.builtin .copy,#[x,y],#[T,U]⟩,ty,ps,af,none⟩) y (List β) inferInstance m]
    [q:ChQ G P l nm (k+1) os ((d,.v ((min m.length n:Nat):Int))::σ) (F0 (bb,.ob w (f' (a0J (f a) m) a))) T0 ts σ' H' D2][cj:Cj [m.length≤9223372036854775807] D2 D] :
    ChQ G P l nm k (⟨some d,.call ⟨.builtin .copy,#[x,y],#[T,U]⟩,ty,ps,af,none⟩::os) σ H ((fun _=>⟨some (p,1),.v ((min m.length n:Nat):Int),(bb,.ob w (f' (a0J (f a) m) a))⟩)::T0) (some (p,1)::ts) σ' H' D :=
  ⟨fun N C F hG hD hF=>⟨⟨(bb,.ob w a),po.get,fun H' F' hh => .c2g t.h u.h (hx.h C H' rfl) hh (.v (hy.h C H' rfl)) (cj.of hD).1.1 (by rw [nl.u,nl.e];exact⟨rfl,rfl⟩)⟩,by
    show chU P C N l nm F (k+1) os T0 _ (H.set p _)
    rw [po.set];exact q.h N C F hG (cj.of hD).2 hF⟩,by rw [evT,List.map_cons,q.t]⟩
instance {G:Gl}{P:Program}{l os:List Oper}{nm:Nat→Nm}{k:Nat}{σ σ':o8}{H H':j8}{T0:List (Nm→R8)}{ts:List (Option (Nat×Nat))}{D D2:List Prop}{d:Nat}{ty TT E U:TypeId}{ps:String}{af:Array Edge}{p:Nat}{bb:Bool}{F0:Bool×C3→j8}{α:Type}{rr:u3 α}{i:Inhabited α}{by_ t:Nat}{w:Value}{L m:List α}{y:Operand}
    [st:SlI P TT E α by_ rr i][hx:LkQ (Q3 σ ⟨some d,.call ⟨.builtin .append,#[.tmp t,y],#[TT,U]⟩,ty,ps,af,none⟩) t (.raw w)][po:PoQ H w p (bb,.P4 w (GS.mk E L)) F0][hy:T9 true (Q3 σ ⟨some d,.call ⟨.builtin .append,#[.tmp t,y],#[TT,U]⟩,ty,ps,af,none⟩) y (List α) inferInstance m][un:UnI P U (.slice E)]
    [q:ChQ G P l nm (k+1) os ((d,.v (O5.mk (nm k).1))::σ) (F0 (bb,.P4 (nm k).1 (GS.mk E (L++m)))) T0 ts σ' H' D2][cj:Cj [(L.length+m.length)*by_≤140737488355328,L.length+m.length≤9223372036854775807] D2 D] :
    ChQ G P l nm k (⟨some d,.call ⟨.builtin .append,#[.tmp t,y],#[TT,U]⟩,ty,ps,af,none⟩::os) σ H ((fun v=>⟨some (p,2),.v (O5.mk v.1),(bb,.P4 v.1 (GS.mk E (L++m)))⟩)::T0) (some (p,2)::ts) σ' H' D :=
  ⟨fun N C F hG hD hF=>⟨⟨(bb,.P4 w (GS.mk E L)),po.get,fun H' F' hh=>fun ρ I L0 hs a w0 ha hst=>by
    refine Yld.mono (OpH.a5i (KH:=fun r H''=>∃ w',r = .raw w'∧H''=F' (bb,.P4 w' (GS.mk E (L++m)))) st.h (.inl ⟨_,un.h⟩) hx.h hh (.v (hy.h C H' rfl)) (cj.of hD).1.1 (cj.of hD).1.2.1 (fun w'=>⟨w',rfl,rfl⟩) ρ I L0 hs a w0 ha hst) ?_
    rintro v w1 ⟨J,L',q1,q2,x,H'',q3,q4,w',rfl,rfl⟩
    have q3:v=w':=q3
    subst q3
    obtain⟨j,X,h1,h2,_⟩:=(hh.again (B':=(bb,.P4 v (GS.mk E (L++m))))).get q4
    exact⟨J,L',q1,q2,.v (O5.mk v),_,⟨[v],⟨rfl,c2j h2.1⟩,rfl⟩,q4,(v,0),rfl,rfl,rfl⟩⟩,by
    show chU P C N l nm F (k+1) os T0 _ (H.set p _)
    rw [po.set];exact q.h N C F hG (cj.of hD).2 hF⟩,by rw [evT,List.map_cons,q.t]⟩
class AsG (G:Gl)(P:Program)(c:Bool)(σ:o8)(xs:List Operand)(ag:outParam (List AV)):Prop where h:∀ C H,G.p C.I0→c=true→a0I C σ H xs ag
section
variable {G:Gl}{P:Program}{c:Bool}{σ:o8}
instance:AsG G P c σ [] []:=⟨fun _ _ _ _ => .nil⟩
instance {x:Operand}{a b:AV}{xs:List Operand}{ag:List AV}[h:EvQ c σ x a][p:PlQ a b][k:AsG G P c σ xs ag]:AsG G P c σ (x::xs) (b::ag):=⟨fun C H hG e => .cons (fun ρ I L hs=>by
 obtain⟨u,h1,h2⟩:=h.h C H e ρ I L hs
 exact⟨u,h1,p.h I u h2⟩) (k.h C H hG e)⟩
instance {f:FuncId}{α β:Type}{r:u3 α}{s:u3 β}{g:α→β}{xs:List Operand}{ag:List AV}[h:Cl1 G P f [] α r β s g][k:AsG G P c σ xs ag]:AsG G P c σ (.func f::xs) (.a62 P g::ag):=⟨fun C H hG e => .cons (.d0c hG h.h) (k.h C H hG e)⟩
instance {f:FuncId}{α β γ:Type}{r:u3 α}{s:u3 β}{t:u3 γ}{g:α→β→γ}{xs:List Operand}{ag:List AV}[h:Cl2 G P f [] α r β s γ t g][k:AsG G P c σ xs ag]:AsG G P c σ (.func f::xs) (.c2d P g::ag):=⟨fun C H hG e => .cons (show G5 C σ H (.func f) (.clo P (fun x:α×β => [.v x.1,.v x.2]) (fun x => .v (g x.1 x.2))) from G5.c9G hG fun x=>h.h x.1 x.2) (k.h C H hG e)⟩
instance (priority:=low){H:j8}{d:Option Nat}{ty:TypeId}{ps:String}{af:Array Edge}{gd:Option (Nat×Bool)}{f:FuncId}{args:Array Operand}{tys:Array TypeId}{ag:List AV}{D:List Prop}{r:AV}[hv:AsG G P c σ args.toList ag][k:P9 G P f ag D r] :
    OpD G P c ⟨d,.call ⟨.value (.func f),args,tys⟩,ty,ps,af,gd⟩ σ H D r:=⟨fun N C hG e hD => .J7 hG (k.h hD) (hv.h C H hG e) rfl⟩
end
class AlR (d:Nat)(α:outParam Type)(r:outParam (u3 α)):Prop where h:True
instance (priority:=2000){mo:Nat}{G:Gl}{P:Program}{C:Ctx}{N n:Nat}{ops:List Oper}{Q:Exit→o8→j8→Prop}{l:List Oper}{σ:o8}{H:j8}{d:Nat}{T ty:TypeId}{ps:String}{af:Array Edge}{Eb:List Bool}{α:Type}{r:u3 α}{j:Inhabited α}{EX:Nat→List Bool}{AX:Nat→Prop}[al:AlR d α r][t:TyG P T α r j]
    [k:∀ b,Rw mo G P C N n (.b ops Q l) ((d,.ln (ptr b 0) (j9.id (α:=α)))::σ) ((true,.ob (ptr b 0) (default:α))::H) (EX b) (AX b)][cE:CoQ EX Eb] :
    Rw mo G P C N (n+1) (.b ops Q (⟨some d,.alloc T,ty,ps,af,none⟩::l)) σ H Eb (∀ b,AX b):=⟨fun g e h => .h (.alloc t.h fun b=>(k b).h g (cast (congrArg (fun z=>a0K z=true) (cE.h b)).symm e) (h b))⟩
class PaR (P:Program)(T:TypeId)(c:Bool)(σ:o8)(ps:List (Nat×Operand))(α:Type)(r:u3 α)(x:α)(y:outParam α):Prop where h:∀ C H,c=true→∀ offs,E5 P T=some offs→a58 C σ H (fun i=>offs[i]?) ps x y
section
variable {G:Gl}{P:Program}{c:Bool}{σ:o8}{H:j8}{d:Nat}{ty:TypeId}{ps:String}{af:Array Edge}{g:Option (Nat×Bool)}{o:Operand}{T:TypeId}
instance {α:Type}{r:u3 α}{x:α}:PaR P T c σ [] α r x x:=⟨fun _ _ _ _ _ => .nil⟩
instance {α γ:Type}{r:u3 α}{q:u3 γ}{i:Nat}{l:List (Nat×Operand)}{m:j9 α γ}{f:α→γ}{f':γ→α→α}{v:γ}{x y:α}[fd:FdR P T i α r γ q m f][ev:T9 c σ o γ q v][nl:Q2 m f f'][k:PaR P T c σ l α r (f' v x) y]:PaR P T c σ ((i,o)::l) α r x y:=⟨fun C H e offs ho=>by
 obtain⟨sz,h1,h2⟩:=fd.h.h
 exact .cons m v (by rw [←h2];exact b8C ho h1) (ev.h C H e) (nl.u v x▸k.h C H e offs ho)⟩
instance (priority:=2000){α:Type}{r:u3 α}{i:Inhabited α}{l:List (Nat×Operand)}{y:α}[al:AlR d α r][t:TyG P T α r i][fo:FoI P T][ag:TrB (u3.agg α)][k:PaR P T c σ l α r (default:α) y]:OpD G P c ⟨some d,.build T l.toArray,ty,ps,af,g⟩ σ H [] (.v y):=⟨fun N C hG e _=>by
 obtain⟨offs,ho⟩:=fo.h
 exact .a3A y ag.h t.h ho (by simpa using k.h C H e offs ho) j0 j0⟩
end
end Go.Ab
namespace Go.Proofs.YtfdifhfnpbphaaaGreatDoor
open Go.Proofs.Tryz
open Go.Ab Go.Mac
theorem _root_.Go.Ab.K1.ok {P:Program}{T:TypeId}{α:Type}[u3 α][Inhabited α][K4 α](h:((P.info? T).map (·.size),(P.underlying T).map Fl.a1O,Fl.Y4 P T,Nat.beq (u3.size α) 0)=(some (u3.size α),some (u3.agg α),some (K4.zs α),false)):K1 P T α:=by
 simp only [Prod.mk.injEq] at h
 obtain⟨h1,h2,h3,h4⟩:=h
 exact .of h1 h2 h3 (fun e=>by rw [e] at h4;cases h4)
theorem ty3:K1 prog 3 Int := .ok (by kernel_rfl)
theorem ty4:K1 prog 4 Bool := .ok (by kernel_rfl)
theorem ty5:K1 prog 5 UInt8 := .ok (by kernel_rfl)
theorem ty9:K1 prog 9 Str := .ok (by kernel_rfl)
theorem d0m:K1 prog 22 (List Int) := .ok (by kernel_rfl)
theorem U0:K1 prog 28 (M4 32 UInt8) := .ok (by kernel_rfl)
theorem d2C:K1 prog 29 (List y3) := .ok (by kernel_rfl)
theorem d2D:K1 prog 31 D6 := .ok (by kernel_rfl)
theorem d2E:K1 prog 32 (List u9) := .ok (by kernel_rfl)
theorem d2F:K1 prog 33 (List o7) := .ok (by kernel_rfl)
theorem a9m:K1 prog 34 (List UInt8) := .ok (by kernel_rfl)
theorem d2G:K1 prog 35 (M4 2 (List UInt8)) := .ok (by kernel_rfl)
theorem d2H:K1 prog 37 l9 := .ok (by kernel_rfl)
theorem d2I:K1 prog 39 l8 := .ok (by kernel_rfl)
theorem d0n:K1 prog 40 Int := .ok (by kernel_rfl)
theorem d2J:K1 prog 44 (List y6) := .ok (by kernel_rfl)
theorem b1n:K1 prog 46 B8 := .ok (by kernel_rfl)
theorem d2K:K1 prog 48 y7 := .ok (by kernel_rfl)
theorem d2L:K1 prog 53 y8 := .ok (by kernel_rfl)
theorem d2M:K1 prog 75 (List y1) := .ok (by kernel_rfl)
theorem d2N:K1 prog 77 B5 := .ok (by kernel_rfl)
theorem b1o:K1 prog 81 y3 := .ok (by kernel_rfl)
theorem d2O:K1 prog 84 (List (M4 32 UInt8)) := .ok (by kernel_rfl)
theorem a3a:K1 prog 101 o7 := .ok (by kernel_rfl)
theorem a7d:K1 prog 107 D8 := .ok (by kernel_rfl)
theorem a7e:K1 prog 109 y6 := .ok (by kernel_rfl)
theorem c6V:K1 prog 114 u9 := .ok (by kernel_rfl)
theorem c6W:K1 prog 116 u4 := .ok (by kernel_rfl)
theorem b8F:K1 prog 129 UInt64 := .ok (by kernel_rfl)
theorem a6d:K1 prog 131 o6 := .ok (by kernel_rfl)
theorem d0o:K1 prog 136 (FnC u9) := .ok (by kernel_rfl)
theorem d0p:K1 prog 138 J8 := .ok (by kernel_rfl)
theorem c6X:K1 prog 147 y1 := .ok (by kernel_rfl)
theorem d0q:K1 prog 162 (a3Z B8 o7) := .ok (by kernel_rfl)
theorem d0r:K1 prog 164 G0 := .ok (by kernel_rfl)
theorem d0s:K1 prog 215 E6 := .ok (by kernel_rfl)
theorem c6Y:K1 prog 220 IfV := .ok (by kernel_rfl)
theorem d0t:K1 prog 234 FnV := .ok (by kernel_rfl)
theorem c6Z:K1 prog 253 (M4 5 (List UInt8)) := .ok (by kernel_rfl)
theorem d0u:K1 prog 268 PtV := .ok (by kernel_rfl)
theorem d0v:K1 prog 270 C8 := .ok (by kernel_rfl)
theorem d0w:K1 prog 271 PtV := .ok (by kernel_rfl)
theorem d0x:K1 prog 273 J9 := .ok (by kernel_rfl)
theorem d0y:K1 prog 274 PtV := .ok (by kernel_rfl)
theorem d0z:K1 prog 276 E7 := .ok (by kernel_rfl)
theorem d0A:K1 prog 277 PtV := .ok (by kernel_rfl)
theorem d0B:K1 prog 279 K0 := .ok (by kernel_rfl)
theorem d0C:K1 prog 284 (M4 3 Int) := .ok (by kernel_rfl)
theorem d0D:K1 prog 342 E8 := .ok (by kernel_rfl)
theorem d0E:K1 prog 344 E9 := .ok (by kernel_rfl)
theorem d0F:K1 prog 348 y9 := .ok (by kernel_rfl)
theorem d2P:SlT prog 29 81 y3 40:=⟨.of (by kernel_rfl),b1o⟩
theorem d2Q:SlT prog 32 114 u9 40:=⟨.of (by kernel_rfl),c6V⟩
theorem d2R:SlT prog 33 101 o7 112:=⟨.of (by kernel_rfl),a3a⟩
theorem c2E:SlT prog 34 5 UInt8 1:=⟨.of (by kernel_rfl),ty5⟩
theorem c7Q:SlT prog 43 107 D8 88:=⟨.of (by kernel_rfl),a7d⟩
theorem c7R:SlT prog 44 109 y6 88:=⟨.of (by kernel_rfl),a7e⟩
theorem d2S:SlT prog 69 116 u4 256:=⟨.of (by kernel_rfl),c6W⟩
theorem d2T:SlT prog 72 131 o6 56:=⟨.of (by kernel_rfl),a6d⟩
theorem d2U:SlT prog 75 147 y1 120:=⟨.of (by kernel_rfl),c6X⟩
theorem d0G:SlT prog 168 34 (List UInt8) 24:=⟨.of (by kernel_rfl),a9m⟩
theorem d0H:SlT prog 216 220 IfV 16:=⟨.of (by kernel_rfl),c6Y⟩
instance:TyJ prog 3 Int:=⟨ty3⟩
instance:UnI prog 3 (.int .i64):=⟨underlying3⟩
instance:TyJ prog 4 Bool:=⟨ty4⟩
instance:UnI prog 4 (.bool):=⟨underlying4⟩
instance:TyJ prog 5 UInt8:=⟨ty5⟩
instance:UnI prog 5 (.int .u8):=⟨underlying5⟩
instance:TyJ prog 9 Str:=⟨ty9⟩
instance:UnI prog 9 (.string):=⟨underlying9⟩
instance:UnI prog 22 (.slice 3):=⟨underlying22⟩
instance:TyJ prog 28 (M4 32 UInt8):=⟨U0⟩
instance:ElI prog 28 32 1 false:=⟨a1s⟩
instance:TyJ prog 29 (List y3):=⟨d2C⟩
instance:UnI prog 29 (.slice 81):=⟨underlying29⟩
instance:SlJ prog 29 81 y3 40:=⟨d2P⟩
instance:TyJ prog 31 D6:=⟨d2D⟩
instance:FoI prog 31:=⟨_,d1S⟩
theorem _root_.Go.Ab.FdI.ok {P:Program}{T:TypeId}{i:Nat}{β:Type}{s:u3 β}{γ:Type}{q:u3 γ}{m:j9 β γ}{f:β→γ}{off sz:Nat}{ag:Bool}(hf:Fl.y4 P T i=some (off,sz+1,ag))(h:(off,sz+1,ag,true)=(m.off,u3.size γ,u3.agg γ,u3.agg β))(e:∀ x,m.get x=f x):FdI P T i β s γ q m f:=by
 simp only [Prod.mk.injEq] at h
 exact .mk' hf h.1 h.2.1 h.2.2.1 e h.2.2.2.symm
instance:Z5 prog 31 0 D6.l0 (fun x=>x.Live) := .ok c7c rfl fun _=>rfl
instance:Q2 D6.l0 (fun x=>x.Live) (fun y x => { x with Live:=y }):=⟨fun _=>rfl,fun _ _=>rfl⟩
instance:Z5 prog 31 1 D6.l1 (fun x=>x.H7) := .ok c7d rfl fun _=>rfl
instance:Q2 D6.l1 (fun x=>x.H7) (fun y x => { x with H7:=y }):=⟨fun _=>rfl,fun _ _=>rfl⟩
instance:TyJ prog 32 (List u9):=⟨d2E⟩
instance:UnI prog 32 (.slice 114):=⟨underlying32⟩
instance:SlJ prog 32 114 u9 40:=⟨d2Q⟩
instance:TyJ prog 33 (List o7):=⟨d2F⟩
instance:UnI prog 33 (.slice 101):=⟨underlying33⟩
instance:SlJ prog 33 101 o7 112:=⟨d2R⟩
instance:TyJ prog 34 (List UInt8):=⟨a9m⟩
instance:UnI prog 34 (.slice 5):=⟨underlying34⟩
instance:SlJ prog 34 5 UInt8 1:=⟨c2E⟩
instance:ElI prog 35 2 1 false:=⟨c7e⟩
instance:TyJ prog 37 l9:=⟨d2H⟩
instance:FoI prog 37:=⟨_,d1T⟩
instance:Z5 prog 37 0 l9.l0 (fun x=>x.F3) := .ok c1D rfl fun _=>rfl
instance:Q2 l9.l0 (fun x=>x.F3) (fun y x => { x with F3:=y }):=⟨fun _=>rfl,fun _ _=>rfl⟩
instance:Z5 prog 37 1 l9.l1 (fun x=>x.B3) := .ok c1E rfl fun _=>rfl
instance:Q2 l9.l1 (fun x=>x.B3) (fun y x => { x with B3:=y }):=⟨fun _=>rfl,fun _ _=>rfl⟩
instance:Z5 prog 37 2 l9.l2 (fun x=>x.G8) := .ok c1F rfl fun _=>rfl
instance:Q2 l9.l2 (fun x=>x.G8) (fun y x => { x with G8:=y }):=⟨fun _=>rfl,fun _ _=>rfl⟩
instance:Z5 prog 37 3 l9.l3 (fun x=>x.C7) := .ok c1G rfl fun _=>rfl
instance:Q2 l9.l3 (fun x=>x.C7) (fun y x => { x with C7:=y }):=⟨fun _=>rfl,fun _ _=>rfl⟩
instance:Z5 prog 37 4 l9.l4 (fun x=>x.a0O) := .ok c1H rfl fun _=>rfl
instance:Q2 l9.l4 (fun x=>x.a0O) (fun y x => { x with a0O:=y }):=⟨fun _=>rfl,fun _ _=>rfl⟩
instance:Z5 prog 37 5 l9.l5 (fun x=>x.a3g) := .ok c1I rfl fun _=>rfl
instance:Q2 l9.l5 (fun x=>x.a3g) (fun y x => { x with a3g:=y }):=⟨fun _=>rfl,fun _ _=>rfl⟩
instance:Z5 prog 37 6 l9.l6 (fun x=>x.Off) := .ok c1J rfl fun _=>rfl
instance:Q2 l9.l6 (fun x=>x.Off) (fun y x => { x with Off:=y }):=⟨fun _=>rfl,fun _ _=>rfl⟩
instance:TyJ prog 39 l8:=⟨d2I⟩
instance:FoI prog 39:=⟨_,d1U⟩
instance:Z5 prog 39 0 l8.l0 (fun x=>x.D4) := .ok c1K rfl fun _=>rfl
instance:Q2 l8.l0 (fun x=>x.D4) (fun y x => { x with D4:=y }):=⟨fun _=>rfl,fun _ _=>rfl⟩
instance:Z5 prog 39 1 l8.l1 (fun x=>x.Ring) := .ok c1L rfl fun _=>rfl
instance:Q2 l8.l1 (fun x=>x.Ring) (fun y x => { x with Ring:=y }):=⟨fun _=>rfl,fun _ _=>rfl⟩
instance:Z5 prog 39 2 l8.l2 (fun x=>x.C0) := .ok c1M rfl fun _=>rfl
instance:Q2 l8.l2 (fun x=>x.C0) (fun y x => { x with C0:=y }):=⟨fun _=>rfl,fun _ _=>rfl⟩
instance:Z5 prog 39 3 l8.l3 (fun x=>x.E4) := .ok c1N rfl fun _=>rfl
instance:Q2 l8.l3 (fun x=>x.E4) (fun y x => { x with E4:=y }):=⟨fun _=>rfl,fun _ _=>rfl⟩
instance:Z5 prog 39 4 l8.l4 (fun x=>x.Device) := .ok c1O rfl fun _=>rfl
instance:Q2 l8.l4 (fun x=>x.Device) (fun y x => { x with Device:=y }):=⟨fun _=>rfl,fun _ _=>rfl⟩
instance:Z5 prog 39 5 l8.l5 (fun x=>x.Up) := .ok c1P rfl fun _=>rfl
instance:Q2 l8.l5 (fun x=>x.Up) (fun y x => { x with Up:=y }):=⟨fun _=>rfl,fun _ _=>rfl⟩
instance:TyJ prog 40 Int:=⟨d0n⟩
instance:UnI prog 43 (.slice 107):=⟨underlying43⟩
instance:SlJ prog 43 107 D8 88:=⟨c7Q⟩
instance:TyJ prog 44 (List y6):=⟨d2J⟩
instance:UnI prog 44 (.slice 109):=⟨underlying44⟩
instance:SlJ prog 44 109 y6 88:=⟨c7R⟩
instance:TyJ prog 46 B8:=⟨b1n⟩
instance:FoI prog 46:=⟨_,c4j⟩
instance:Z5 prog 46 0 B8.l0 (fun x=>x.P7) := .ok b2v rfl fun _=>rfl
instance:Q2 B8.l0 (fun x=>x.P7) (fun y x => { x with P7:=y }):=⟨fun _=>rfl,fun _ _=>rfl⟩
instance:Z5 prog 46 4 B8.l4 (fun x=>x.B7) := .ok a23 rfl fun _=>rfl
instance:TyJ prog 48 y7:=⟨d2K⟩
instance:FoI prog 48:=⟨_,d1V⟩
instance:Z5 prog 48 0 y7.l0 (fun x=>x.a) := .ok c7g rfl fun _=>rfl
instance:Q2 y7.l0 (fun x=>x.a) (fun y x => { x with a:=y }):=⟨fun _=>rfl,fun _ _=>rfl⟩
instance:Z5 prog 48 1 y7.l1 (fun x=>x.b) := .ok c7h rfl fun _=>rfl
instance:Q2 y7.l1 (fun x=>x.b) (fun y x => { x with b:=y }):=⟨fun _=>rfl,fun _ _=>rfl⟩
instance:Z5 prog 48 2 y7.l2 (fun x=>x.x) := .ok c7i rfl fun _=>rfl
instance:Q2 y7.l2 (fun x=>x.x) (fun y x => { x with x:=y }):=⟨fun _=>rfl,fun _ _=>rfl⟩
instance:Z5 prog 48 3 y7.l3 (fun x=>x.y) := .ok c7j rfl fun _=>rfl
instance:Q2 y7.l3 (fun x=>x.y) (fun y x => { x with y:=y }):=⟨fun _=>rfl,fun _ _=>rfl⟩
instance:UnI prog 69 (.slice 116):=⟨underlying69⟩
instance:SlJ prog 69 116 u4 256:=⟨d2S⟩
instance:UnI prog 72 (.slice 131):=⟨underlying72⟩
instance:SlJ prog 72 131 o6 56:=⟨d2T⟩
instance:TyJ prog 75 (List y1):=⟨d2M⟩
instance:UnI prog 75 (.slice 147):=⟨underlying75⟩
instance:SlJ prog 75 147 y1 120:=⟨d2U⟩
instance:TyJ prog 77 B5:=⟨d2N⟩
instance:FoI prog 77:=⟨_,d1X⟩
instance:Z5 prog 77 0 B5.l0 (fun x=>x.M6) := .ok c7k rfl fun _=>rfl
instance:Q2 B5.l0 (fun x=>x.M6) (fun y x => { x with M6:=y }):=⟨fun _=>rfl,fun _ _=>rfl⟩
instance:Z5 prog 77 1 B5.l1 (fun x=>x.O0) := .ok c7l rfl fun _=>rfl
instance:Q2 B5.l1 (fun x=>x.O0) (fun y x => { x with O0:=y }):=⟨fun _=>rfl,fun _ _=>rfl⟩
instance:Z5 prog 77 2 B5.l2 (fun x=>x.y5) := .ok c7m rfl fun _=>rfl
instance:Q2 B5.l2 (fun x=>x.y5) (fun y x => { x with y5:=y }):=⟨fun _=>rfl,fun _ _=>rfl⟩
instance:Z5 prog 77 3 B5.l3 (fun x=>x.Tag) := .ok c7n rfl fun _=>rfl
instance:Q2 B5.l3 (fun x=>x.Tag) (fun y x => { x with Tag:=y }):=⟨fun _=>rfl,fun _ _=>rfl⟩
instance:TyJ prog 81 y3:=⟨b1o⟩
instance:FoI prog 81:=⟨_,c1S⟩
instance:Z5 prog 81 0 y3.l0 (fun x=>x.Number) := .ok c1R rfl fun _=>rfl
instance:Q2 y3.l0 (fun x=>x.Number) (fun y x => { x with Number:=y }):=⟨fun _=>rfl,fun _ _=>rfl⟩
instance:Z5 prog 81 1 y3.l1 (fun x=>x.Key) := .ok b6j rfl fun _=>rfl
instance:Q2 y3.l1 (fun x=>x.Key) (fun y x => { x with Key:=y }):=⟨fun _=>rfl,fun _ _=>rfl⟩
instance:TyJ prog 84 (List (M4 32 UInt8)):=⟨d2O⟩
instance:UnI prog 84 (.slice 28):=⟨underlying84⟩
instance:TyJ prog 101 o7:=⟨a3a⟩
instance:FoI prog 101:=⟨_,b7Y⟩
instance:Z5 prog 101 0 o7.l0 (fun x=>x.Place) := .ok c4k rfl fun _=>rfl
instance:Q2 o7.l0 (fun x=>x.Place) (fun y x => { x with Place:=y }):=⟨fun _=>rfl,fun _ _=>rfl⟩
instance:Z5 prog 101 1 o7.l1 (fun x=>x.Kind) := .ok b2x rfl fun _=>rfl
instance:Q2 o7.l1 (fun x=>x.Kind) (fun y x => { x with Kind:=y }):=⟨fun _=>rfl,fun _ _=>rfl⟩
instance:Z5 prog 101 2 o7.l2 (fun x=>x.Number) := .ok b2y rfl fun _=>rfl
instance:Q2 o7.l2 (fun x=>x.Number) (fun y x => { x with Number:=y }):=⟨fun _=>rfl,fun _ _=>rfl⟩
instance:Z5 prog 101 3 o7.l3 (fun x=>x.Node) := .ok b7X rfl fun _=>rfl
instance:Q2 o7.l3 (fun x=>x.Node) (fun y x => { x with Node:=y }):=⟨fun _=>rfl,fun _ _=>rfl⟩
instance:Z5 prog 101 4 o7.l4 (fun x=>x.O8) := .ok b2z rfl fun _=>rfl
instance:Q2 o7.l4 (fun x=>x.O8) (fun y x => { x with O8:=y }):=⟨fun _=>rfl,fun _ _=>rfl⟩
instance:Z5 prog 101 5 o7.l5 (fun x=>x.Tag) := .ok c4l rfl fun _=>rfl
instance:Q2 o7.l5 (fun x=>x.Tag) (fun y x => { x with Tag:=y }):=⟨fun _=>rfl,fun _ _=>rfl⟩
instance:TyJ prog 107 D8:=⟨a7d⟩
instance:Z5 prog 107 0 D8.l0 (fun x=>x.Key) := .ok c4m rfl fun _=>rfl
instance:Q2 D8.l0 (fun x=>x.Key) (fun y x => { x with Key:=y }):=⟨fun _=>rfl,fun _ _=>rfl⟩
instance:Z5 prog 107 1 D8.l1 (fun x=>x.Message) := .ok c4n rfl fun _=>rfl
instance:Q2 D8.l1 (fun x=>x.Message) (fun y x => { x with Message:=y }):=⟨fun _=>rfl,fun _ _=>rfl⟩
instance:Z5 prog 107 2 D8.l2 (fun x=>x.Tag) := .ok b7Z rfl fun _=>rfl
instance:TyJ prog 109 y6:=⟨a7e⟩
instance:Z5 prog 109 0 y6.l0 (fun x=>x.Key) := .ok c4o rfl fun _=>rfl
instance:Q2 y6.l0 (fun x=>x.Key) (fun y x => { x with Key:=y }):=⟨fun _=>rfl,fun _ _=>rfl⟩
instance:Z5 prog 109 1 y6.l1 (fun x=>x.a6a) := .ok c4p rfl fun _=>rfl
instance:Q2 y6.l1 (fun x=>x.a6a) (fun y x => { x with a6a:=y }):=⟨fun _=>rfl,fun _ _=>rfl⟩
instance:Z5 prog 109 2 y6.l2 (fun x=>x.Plain) := .ok c4q rfl fun _=>rfl
instance:Q2 y6.l2 (fun x=>x.Plain) (fun y x => { x with Plain:=y }):=⟨fun _=>rfl,fun _ _=>rfl⟩
instance:Z5 prog 109 3 y6.l3 (fun x=>x.O8) := .ok b8a rfl fun _=>rfl
instance:Q2 y6.l3 (fun x=>x.O8) (fun y x => { x with O8:=y }):=⟨fun _=>rfl,fun _ _=>rfl⟩
instance:TyJ prog 114 u9:=⟨c6V⟩
instance:FoI prog 114:=⟨_,c86⟩
instance:Z5 prog 114 0 u9.l0 (fun x=>x.O0) := .ok b8b rfl fun _=>rfl
instance:Q2 u9.l0 (fun x=>x.O0) (fun y x => { x with O0:=y }):=⟨fun _=>rfl,fun _ _=>rfl⟩
instance:Z5 prog 114 1 u9.l1 (fun x=>x.M6) := .ok b8c rfl fun _=>rfl
instance:Q2 u9.l1 (fun x=>x.M6) (fun y x => { x with M6:=y }):=⟨fun _=>rfl,fun _ _=>rfl⟩
instance:Z5 prog 114 2 u9.l2 (fun x=>x.y5) := .ok b8d rfl fun _=>rfl
instance:Q2 u9.l2 (fun x=>x.y5) (fun y x => { x with y5:=y }):=⟨fun _=>rfl,fun _ _=>rfl⟩
instance:TyJ prog 116 u4:=⟨c6W⟩
instance:FoI prog 116:=⟨_,c88⟩
instance:Z5 prog 116 0 u4.l0 (fun x=>x.Kind) := .ok b8e rfl fun _=>rfl
instance:Q2 u4.l0 (fun x=>x.Kind) (fun y x => { x with Kind:=y }):=⟨fun _=>rfl,fun _ _=>rfl⟩
instance:Z5 prog 116 1 u4.l1 (fun x=>x.Number) := .ok b8f rfl fun _=>rfl
instance:Q2 u4.l1 (fun x=>x.Number) (fun y x => { x with Number:=y }):=⟨fun _=>rfl,fun _ _=>rfl⟩
instance:Z5 prog 116 2 u4.l2 (fun x=>x.Key) := .ok b8g rfl fun _=>rfl
instance:Q2 u4.l2 (fun x=>x.Key) (fun y x => { x with Key:=y }):=⟨fun _=>rfl,fun _ _=>rfl⟩
instance:Z5 prog 116 3 u4.l3 (fun x=>x.Node) := .ok b8h rfl fun _=>rfl
instance:Q2 u4.l3 (fun x=>x.Node) (fun y x => { x with Node:=y }):=⟨fun _=>rfl,fun _ _=>rfl⟩
instance:Z5 prog 116 4 u4.l4 (fun x=>x.M3) := .ok b8i rfl fun _=>rfl
instance:Q2 u4.l4 (fun x=>x.M3) (fun y x => { x with M3:=y }):=⟨fun _=>rfl,fun _ _=>rfl⟩
instance:Z5 prog 116 5 u4.l5 (fun x=>x.Item) := .ok b8j rfl fun _=>rfl
instance:Q2 u4.l5 (fun x=>x.Item) (fun y x => { x with Item:=y }):=⟨fun _=>rfl,fun _ _=>rfl⟩
instance:Z5 prog 116 6 u4.l6 (fun x=>x.a2C) := .ok c4r rfl fun _=>rfl
instance:Q2 u4.l6 (fun x=>x.a2C) (fun y x => { x with a2C:=y }):=⟨fun _=>rfl,fun _ _=>rfl⟩
instance:TyJ prog 129 UInt64:=⟨b8F⟩
instance:UnI prog 129 (.int .u64):=⟨underlying129⟩
instance:TyJ prog 131 o6:=⟨a6d⟩
instance:FoI prog 131:=⟨_,c1T⟩
instance:Z5 prog 131 0 o6.l0 (fun x=>x.Kind) := .ok a9o rfl fun _=>rfl
instance:Q2 o6.l0 (fun x=>x.Kind) (fun y x => { x with Kind:=y }):=⟨fun _=>rfl,fun _ _=>rfl⟩
instance:Z5 prog 131 1 o6.l1 (fun x=>x.Mask) := .ok a9p rfl fun _=>rfl
instance:Q2 o6.l1 (fun x=>x.Mask) (fun y x => { x with Mask:=y }):=⟨fun _=>rfl,fun _ _=>rfl⟩
instance:Z5 prog 131 2 o6.l2 (fun x=>x.a00) := .ok a0F rfl fun _=>rfl
instance:Q2 o6.l2 (fun x=>x.a00) (fun y x => { x with a00:=y }):=⟨fun _=>rfl,fun _ _=>rfl⟩
instance:Z5 prog 131 3 o6.l3 (fun x=>x.To) := .ok a0G rfl fun _=>rfl
instance:Q2 o6.l3 (fun x=>x.To) (fun y x => { x with To:=y }):=⟨fun _=>rfl,fun _ _=>rfl⟩
instance:Z5 prog 131 4 o6.l4 (fun x=>x.Name) := .ok c4s rfl fun _=>rfl
instance:Q2 o6.l4 (fun x=>x.Name) (fun y x => { x with Name:=y }):=⟨fun _=>rfl,fun _ _=>rfl⟩
instance:Z5 prog 131 5 o6.l5 (fun x=>x.Number) := .ok c4t rfl fun _=>rfl
instance:Q2 o6.l5 (fun x=>x.Number) (fun y x => { x with Number:=y }):=⟨fun _=>rfl,fun _ _=>rfl⟩
instance:TyJ prog 136 (FnC u9):=⟨d0o⟩
instance:TyJ prog 138 J8:=⟨d0p⟩
instance:FoI prog 138:=⟨_,c89⟩
instance:Z5 prog 138 0 J8.l0 (fun x=>x.record) := .ok c4u rfl fun _=>rfl
instance:Q2 J8.l0 (fun x=>x.record) (fun y x => { x with record:=y }):=⟨fun _=>rfl,fun _ _=>rfl⟩
instance:Z5 prog 138 1 J8.l1 (fun x=>x.change) := .ok c4v rfl fun _=>rfl
instance:Q2 J8.l1 (fun x=>x.change) (fun y x => { x with change:=y }):=⟨fun _=>rfl,fun _ _=>rfl⟩
instance:TyJ prog 147 y1:=⟨c6X⟩
instance:FoI prog 147:=⟨_,c9a⟩
instance:Z5 prog 147 0 y1.l0 (fun x=>x.a0l) := .ok c4w rfl fun _=>rfl
instance:Q2 y1.l0 (fun x=>x.a0l) (fun y x => { x with a0l:=y }):=⟨fun _=>rfl,fun _ _=>rfl⟩
instance:Z5 prog 147 1 y1.l1 (fun x=>x.X3) := .ok c4x rfl fun _=>rfl
instance:Q2 y1.l1 (fun x=>x.X3) (fun y x => { x with X3:=y }):=⟨fun _=>rfl,fun _ _=>rfl⟩
instance:Z5 prog 147 2 y1.l2 (fun x=>x.U3) := .ok c4y rfl fun _=>rfl
instance:Q2 y1.l2 (fun x=>x.U3) (fun y x => { x with U3:=y }):=⟨fun _=>rfl,fun _ _=>rfl⟩
instance:Z5 prog 147 3 y1.l3 (fun x=>x.L7) := .ok c4z rfl fun _=>rfl
instance:Q2 y1.l3 (fun x=>x.L7) (fun y x => { x with L7:=y }):=⟨fun _=>rfl,fun _ _=>rfl⟩
instance:Z5 prog 147 4 y1.l4 (fun x=>x.O8) := .ok c4A rfl fun _=>rfl
instance:Q2 y1.l4 (fun x=>x.O8) (fun y x => { x with O8:=y }):=⟨fun _=>rfl,fun _ _=>rfl⟩
instance:TyJ prog 162 (a3Z B8 o7):=⟨d0q⟩
instance:TyJ prog 164 G0:=⟨d0r⟩
instance:FoI prog 164:=⟨_,c9b⟩
instance:Z5 prog 164 0 G0.l0 (fun x=>x.record) := .ok c4B rfl fun _=>rfl
instance:Q2 G0.l0 (fun x=>x.record) (fun y x => { x with record:=y }):=⟨fun _=>rfl,fun _ _=>rfl⟩
instance:Z5 prog 164 1 G0.l1 (fun x=>x.change) := .ok c4C rfl fun _=>rfl
instance:Q2 G0.l1 (fun x=>x.change) (fun y x => { x with change:=y }):=⟨fun _=>rfl,fun _ _=>rfl⟩
instance:UnI prog 168 (.slice 34):=⟨underlying168⟩
instance:SlJ prog 168 34 (List UInt8) 24:=⟨d0G⟩
instance:Z5 prog 200 0 G9.l0 (fun x=>x.a) := .ok P1 rfl fun _=>rfl
instance:Z5 prog 200 1 G9.l1 (fun x=>x.e) := .ok b2A rfl fun _=>rfl
instance:UnI prog 209 (.int .u64):=⟨underlying209⟩
instance:TyJ prog 215 E6:=⟨d0s⟩
instance:FoI prog 215:=⟨_,c9d⟩
instance:Z5 prog 215 0 E6.l0 (fun x=>x.b) := .ok c4D rfl fun _=>rfl
instance:Q2 E6.l0 (fun x=>x.b) (fun y x => { x with b:=y }):=⟨fun _=>rfl,fun _ _=>rfl⟩
instance:Z5 prog 215 1 E6.l1 (fun x=>x.e) := .ok c4E rfl fun _=>rfl
instance:Q2 E6.l1 (fun x=>x.e) (fun y x => { x with e:=y }):=⟨fun _=>rfl,fun _ _=>rfl⟩
instance:UnI prog 216 (.slice 220):=⟨underlying216⟩
instance:SlJ prog 216 220 IfV 16:=⟨d0H⟩
instance:TyJ prog 220 IfV:=⟨c6Y⟩
instance:UnI prog 233 (.slice 9):=⟨underlying233⟩
instance:TyJ prog 234 FnV:=⟨d0t⟩
instance:TyJ prog 253 (M4 5 (List UInt8)):=⟨c6Z⟩
instance:TyJ prog 268 PtV:=⟨d0u⟩
instance:TyJ prog 270 C8:=⟨d0v⟩
instance:FoI prog 270:=⟨_,c9e⟩
instance:Z5 prog 270 0 C8.l0 (fun x=>x.n) := .ok c4I rfl fun _=>rfl
instance:Q2 C8.l0 (fun x=>x.n) (fun y x => { x with n:=y }):=⟨fun _=>rfl,fun _ _=>rfl⟩
instance:Z5 prog 270 1 C8.l1 (fun x=>x.low) := .ok c4J rfl fun _=>rfl
instance:Q2 C8.l1 (fun x=>x.low) (fun y x => { x with low:=y }):=⟨fun _=>rfl,fun _ _=>rfl⟩
instance:Z5 prog 270 2 C8.l2 (fun x=>x.high) := .ok c4K rfl fun _=>rfl
instance:Q2 C8.l2 (fun x=>x.high) (fun y x => { x with high:=y }):=⟨fun _=>rfl,fun _ _=>rfl⟩
instance:TyJ prog 271 PtV:=⟨d0w⟩
instance:TyJ prog 273 J9:=⟨d0x⟩
instance:FoI prog 273:=⟨_,c9f⟩
instance:Z5 prog 273 0 J9.l0 (fun x=>x.t) := .ok c4L rfl fun _=>rfl
instance:Q2 J9.l0 (fun x=>x.t) (fun y x => { x with t:=y }):=⟨fun _=>rfl,fun _ _=>rfl⟩
instance:TyJ prog 274 PtV:=⟨d0y⟩
instance:TyJ prog 276 E7:=⟨d0z⟩
instance:FoI prog 276:=⟨_,c9g⟩
instance:Z5 prog 276 0 E7.l0 (fun x=>x.l) := .ok c4M rfl fun _=>rfl
instance:Q2 E7.l0 (fun x=>x.l) (fun y x => { x with l:=y }):=⟨fun _=>rfl,fun _ _=>rfl⟩
instance:TyJ prog 277 PtV:=⟨d0A⟩
instance:TyJ prog 279 K0:=⟨d0B⟩
instance:FoI prog 279:=⟨_,c9h⟩
instance:Z5 prog 279 0 K0.l0 (fun x=>x.b) := .ok c4N rfl fun _=>rfl
instance:Q2 K0.l0 (fun x=>x.b) (fun y x => { x with b:=y }):=⟨fun _=>rfl,fun _ _=>rfl⟩
instance:TyJ prog 284 (M4 3 Int):=⟨d0C⟩
instance:ElI prog 284 3 1 false:=⟨c9i⟩
instance:UnI prog 284 (.array 3 40):=⟨underlying284⟩
instance:TyJ prog 342 E8:=⟨d0D⟩
instance:FoI prog 342:=⟨_,c9j⟩
instance:Z5 prog 342 0 E8.l0 (fun x=>x.b) := .ok c4O rfl fun _=>rfl
instance:Q2 E8.l0 (fun x=>x.b) (fun y x => { x with b:=y }):=⟨fun _=>rfl,fun _ _=>rfl⟩
instance:Z5 prog 342 1 E8.l1 (fun x=>x.used) := .ok c4P rfl fun _=>rfl
instance:Q2 E8.l1 (fun x=>x.used) (fun y x => { x with used:=y }):=⟨fun _=>rfl,fun _ _=>rfl⟩
instance:TyJ prog 344 E9:=⟨d0E⟩
instance:FoI prog 344:=⟨_,c9k⟩
instance:Z5 prog 344 0 E9.l0 (fun x=>x.source) := .ok c4Q rfl fun _=>rfl
instance:Q2 E9.l0 (fun x=>x.source) (fun y x => { x with source:=y }):=⟨fun _=>rfl,fun _ _=>rfl⟩
instance:Z5 prog 344 1 E9.l1 (fun x=>x.e) := .ok c4R rfl fun _=>rfl
instance:Q2 E9.l1 (fun x=>x.e) (fun y x => { x with e:=y }):=⟨fun _=>rfl,fun _ _=>rfl⟩
instance:TyJ prog 348 y9:=⟨d0F⟩
instance:FoI prog 348:=⟨_,c9l⟩
instance:Z5 prog 348 0 y9.l0 (fun x=>x.b) := .ok a6V rfl fun _=>rfl
instance:Q2 y9.l0 (fun x=>x.b) (fun y x => { x with b:=y }):=⟨fun _=>rfl,fun _ _=>rfl⟩
instance:Z5 prog 348 1 y9.l1 (fun x=>x.used) := .ok a5L rfl fun _=>rfl
instance:Q2 y9.l1 (fun x=>x.used) (fun y x => { x with used:=y }):=⟨fun _=>rfl,fun _ _=>rfl⟩
instance:Z5 prog 348 2 y9.l2 (fun x=>x.e) := .ok c4S rfl fun _=>rfl
instance:Q2 y9.l2 (fun x=>x.e) (fun y x => { x with e:=y }):=⟨fun _=>rfl,fun _ _=>rfl⟩
end Go.Proofs.YtfdifhfnpbphaaaGreatDoor
namespace Go.Mac
open Go.Fl Go.Ab Go.Sha
abbrev Tag:=M4 32 UInt8
def h8 (a:M4 8 UInt32):H8:=⟨a.l.getD 0 0,a.l.getD 1 0,a.l.getD 2 0,a.l.getD 3 0,a.l.getD 4 0,a.l.getD 5 0,a.l.getD 6 0,a.l.getD 7 0⟩
def a7Z (x:H8):M4 8 UInt32:=⟨x.l,rfl⟩
theorem b8G (x:H8):h8 (a7Z x)=x:=rfl
theorem d2V (a:M4 8 UInt32):(h8 a).l=a.l:=by
 obtain⟨l,h⟩:=a
 match l,h with
 | [a,b,c,d,e,f,g,i],_=>rfl
def sha (l:List UInt8):Tag:=⟨a5b l,b1g l⟩
theorem b1p (x:H8)(r:List UInt8)(n:Nat):(a3C x r n).length=32:=by rw [a3C,a2m,H8.length]
def c7S:S4:=⟨a7Z iv,[],0⟩
def a8e (h:S4)(b:List UInt8):S4:=⟨a7Z (a1z (h8 h.H) (h.Rest++b)),rest (h.Rest++b),h.Len+b.length⟩
def c5u (h:S4):Tag:=⟨a3C (h8 h.H) h.Rest h.Len.toNat,b1p _ _ _⟩
def hOf (l:List UInt8):S4:=⟨a7Z (a1z iv l),rest l,l.length⟩
@[simp] theorem b8H:c7S=hOf []:=rfl
@[simp] theorem b0o (l m:List UInt8):a8e (hOf l) m=hOf (l++m):=by
 simp only [a8e,hOf,b8G,b1f,b3X,List.length_append]
 congr 1
@[simp] theorem b4y (l:List UInt8):c5u (hOf l)=sha l:=by
 apply M4.ext
 show a3C (h8 (a7Z (a1z iv l))) (rest l) (Int.toNat (l.length:Int))=a5b l
 rw [b8G,Int.toNat_natCast];rfl
@[simp] theorem d0I (l:List UInt8):(hOf l).Rest.length=l.length % 64:=a5d l
@[simp] theorem d1L (l:List UInt8):(hOf l).Len=l.length:=rfl
end Go.Mac
namespace Go.Proofs.YtfdifhfnpbphaaaGreatDoor
open Go.Proofs.Tryz
open Go.Fl Go.Ab Go.Sha Go.Mac
def a7f:M4 8 Int:=⟨[0,64,32,7,0,0,0,0],rfl⟩
def glX:Gl:=⟨fun I=>Cells I 2 0 (a7f.l.map i64),fun hle h=>h.mono hle⟩
def gl:Gl:=⟨fun I=>Cells I 1 0 (kk.map Fl.u32)∧glX.p I,fun hle h=>⟨h.1.mono hle,glX.mono hle h.2⟩⟩
theorem a1B (I:Im)(h:gl.p I):F9 I (.p a7f) (ptr 2 0):=⟨2,0,_,rfl,(by repeat' (first|exact rfl|(refine⟨[_],_,rfl,⟨rfl,by decide,by decide⟩,?_⟩))),h.2⟩
theorem b4z (a:M4 8 UInt32):a.l.map Fl.u32=(h8 a).cells:=by
 rw [←d2V a];rfl
theorem b6H {I:Im}{v:Value}{l:List UInt8}:SlA I v l↔Sl I 1 v l.length (C5 l):=by
 constructor
 ·rintro⟨xs,h1,h2⟩
  rw [a06.1 h2] at h1;exact h1
 ·intro h;exact⟨_,h,a06.2 rfl⟩
theorem b1M {I:Im}{h:S4}{u:Value}(hu:F9 I (.v h) u):∃ sv,u = .agg ((h8 h.H).cells ++ [sv,i64 h.Len]).toArray∧Sl I 1 sv h.Rest.length (C5 h.Rest):=by
 obtain⟨cs,⟨c1,r1,rfl,h1,c2,r2,rfl,⟨sv,rfl,h2⟩,c3,r3,rfl,⟨rfl,_⟩,h4⟩,rfl⟩:=hu
 cases h4
 have:=a60.1 h1
 subst this
 exact⟨sv,by rw [←b4z];rfl,b6H.1 h2⟩
theorem b0p {I:Im}{h:S4}{sv:Value}(hs:Sl I 1 sv h.Rest.length (C5 h.Rest))(h1 : -9223372036854775808≤h.Len)(h2:h.Len≤9223372036854775807):F9 I (.v h) (.agg ((h8 h.H).cells ++ [sv,i64 h.Len]).toArray):=by
 refine⟨h.H.l.map Fl.u32++([sv]++([i64 h.Len] ++ [])),⟨_,_,j0,a60.2 j0,_,_,j0,⟨sv,j0,b6H.2 hs⟩,_,_,j0,⟨j0,h1,h2⟩,j0⟩,?_⟩
 rw [b4z];rfl
theorem b0q {I:Im}{l:List UInt8}{u:Value}(hu:F9 I (.v l) u):Sl I 1 u l.length (C5 l):=by
 obtain⟨cs,⟨v,rfl,h⟩,rfl⟩:=hu
 exact b6H.1 h
theorem b1N {I:Im}{t:Tag}:F9 I (.v t) (.agg (C5 t.l).toArray):=⟨C5 t.l,a06.2 rfl,rfl⟩
theorem b8I:C4 gl prog 204 [] (fun r=>r = .v c7S):=fun I vs hG hvs=>by
 cases hvs
 refine(b8n I).mono fun v J hle hv=>⟨_,?_,j0⟩
 subst hv
 exact b0p (h:=c7S) (Sl.nil J 1) (by decide) (by decide)
theorem a3p (h:S4)(b:List UInt8)(h0:0≤h.Len)(h1:h.Rest.length+b.length≤35184372088832)(h2:h.Len+b.length≤4611686018427387904) :
    C4 gl prog 203 [.v h,.v b] (fun r=>r = .v (a8e h b)):=fun I vs hG hvs=>by
  obtain⟨u,r,rfl,hu,u2,r2,rfl,hu2,rfl⟩:=hvs
  obtain⟨sv,rfl,hs⟩:=b1M hu
  obtain⟨n,hn⟩:=Int.eq_ofNat_of_zero_le h0
  have hw:=a7V I (h8 h.H) sv h.Rest n u2 b hs (b0q hu2) h1 (by omega) hG.1
  rw [hn]
  refine hw.mono fun v J hle ⟨sv',hv,hs'⟩=>⟨_,?_,rfl⟩
  subst hv
  have e:(a8e h b).Len=((n+b.length:Nat):Int):=by simp [a8e,hn]
  have:=b0p (I:=J) (h:=a8e h b) (sv:=sv') hs' (by rw [e];omega) (by rw [e];omega)
  rw [e] at this
  exact this
theorem b8J (h:S4)(h0:0≤h.Len)(h1:h.Rest.length≤17592186044416)(h2:h.Len≤2305843009213693952):C4 gl prog 202 [.v h] (fun r=>r = .v (c5u h)):=fun I vs hG hvs=>by
 obtain⟨u,r,rfl,hu,rfl⟩:=hvs
 obtain⟨sv,rfl,hs⟩:=b1M hu
 obtain⟨n,hn⟩:=Int.eq_ofNat_of_zero_le h0
 have hw:=b8o I (h8 h.H) sv h.Rest n hs h1 (by omega) hG.1
 rw [hn]
 refine hw.mono fun v J hle hv=>⟨_,?_,rfl⟩
 subst hv
 have e:(c5u h).l=a3C (h8 h.H) h.Rest n:=by simp [c5u,hn]
 rw [←e]
 exact b1N
theorem d0J (b:List UInt8)(h1:b.length≤17592186044416):C4 gl prog 151 [.v b] (fun r=>r = .v (sha b)):=fun I vs hG hvs=>by
 obtain⟨u,r,rfl,hu,rfl⟩:=hvs
 refine(c7q I u b (b0q hu) h1 hG.1).mono fun v J hle hv=>⟨_,?_,j0⟩
 subst hv
 exact b1N (t:=sha b)
open Go.Fl Go.Ab Go.Mac
theorem b6I (a b:UInt8):(a ||| b=0)↔(a=0∧b=0):=by
 rw [←UInt8.toBitVec_inj,←UInt8.toBitVec_inj,←UInt8.toBitVec_inj]
 simp only [UInt8.toBitVec_or,UInt8.toBitVec_ofNat]
 exact BitVec.or_eq_zero_iff
theorem b4A (a b:UInt8):(a ^^^ b=0)↔a=b:=by
 rw [←UInt8.toBitVec_inj,←UInt8.toBitVec_inj]
 simp only [UInt8.toBitVec_xor,UInt8.toBitVec_ofNat]
 exact BitVec.xor_eq_zero_iff
theorem a7g {α:Type}(a b:List α)(k:Nat)(h1:k < a.length)(h2:k < b.length):(a.take (k+1)=b.take (k+1))↔(a.take k=b.take k∧a[k]=b[k]):=by
 rw [List.take_succ_eq_append_getElem h1,List.take_succ_eq_append_getElem h2]
 constructor
 ·intro h
  have h3:=List.append_inj h (by simp;omega)
  exact⟨h3.1,by simpa using h3.2⟩
 ·rintro⟨h3,h4⟩
  rw [h3,h4]
theorem _root_.Go.Ab.wpA.sr {P:Program}{C:Ctx}{N:Nat}{σ:o8}{H:j8}{Q:Exit→o8→j8→Prop}{id:Nat}{l:List Oper}{y:Code}(hd:R7 N l=true)(h:wpB P C N l.toArray (a1m (wpA P C N y Q) Q) l σ H):wpA P C N (.seq (.region id l.toArray false) y) Q σ H := .seq (.region hd h)
theorem _root_.Go.Ab.wpB.mv {P:Program}{C:Ctx}{N:Nat}{ops:Array Oper}{σ:o8}{H:j8}{Q:Exit→o8→j8→Prop}{d t:Nat}{ty:TypeId}{ps:String}{af:Array Edge}{a:AV}{rest:List Oper}(hx:F6 σ t=some a)(k:wpB P C N ops Q rest ((d,a)::σ) H):wpB P C N ops Q (⟨some d,.move (.tmp t),ty,ps,af,none⟩::rest) σ H := .p (.move (.t hx) k)
theorem _root_.Go.Ab.wpB.ag {P:Program}{C:Ctx}{N:Nat}{ops:Array Oper}{σ:o8}{H:j8}{Q:Exit→o8→j8→Prop}{d t:Nat}{ty:TypeId}{ps:String}{af:Array Edge}{a:AV}{rest:List Oper}(hx:F6 σ t=some a)(k:wpB P C N ops Q rest ((d,a)::σ) H):wpB P C N ops Q (⟨some d,.assign (.tmp t),ty,ps,af,none⟩::rest) σ H := .p (.assign (.t hx) k)
theorem _root_.Go.Ab.G5.q {C:Ctx}{σ:o8}{H:j8}{t:Nat}{a:AV}{b w:Bool}(h:F6 σ t=some (.opt (b == w) a))(hc:b=w):G5 C σ H (.tmp t) a := .o h (beq_iff_eq.2 hc)
theorem _root_.Go.Ab.a3X.c2 {σ' σ:o8}{t u:Nat}{a b:AV}(h:F6 σ t=some a)(g:F6 σ u=some b)(k:a3X σ' σ):a3X ((t,a)::(u,b)::σ') σ := .cons h (.cons g k)
theorem _root_.Go.Ab.H9.z1 {A0 B:Bool×C3}{H:j8}:H9 (A0::B::H) B (fun X=>A0::X::H) := .s .z
theorem _root_.Go.Ab.H9.z2 {A0 A1 B:Bool×C3}{H:j8}:H9 (A0::A1::B::H) B (fun X=>A0::A1::X::H) := .s (.s .z)
theorem _root_.Go.Ab.H9.z3 {A0 A1 A2 B:Bool×C3}{H:j8}:H9 (A0::A1::A2::B::H) B (fun X=>A0::A1::A2::X::H) := .s (.s (.s .z))
theorem _root_.Go.Ab.H9.z4 {A0 A1 A2 A3 B:Bool×C3}{H:j8}:H9 (A0::A1::A2::A3::B::H) B (fun X=>A0::A1::A2::A3::X::H) := .s (.s (.s (.s .z)))
theorem _root_.Go.Ab.H9.z5 {A0 A1 A2 A3 A4 B:Bool×C3}{H:j8}:H9 (A0::A1::A2::A3::A4::B::H) B (fun X=>A0::A1::A2::A3::A4::X::H) := .s (.s (.s (.s (.s .z))))
theorem _root_.Go.Ab.H9.z6 {A0 A1 A2 A3 A4 A5 B:Bool×C3}{H:j8}:H9 (A0::A1::A2::A3::A4::A5::B::H) B (fun X=>A0::A1::A2::A3::A4::A5::X::H) := .s (.s (.s (.s (.s (.s .z)))))
theorem _root_.Go.Ab.H9.z7 {A0 A1 A2 A3 A4 A5 A6 B:Bool×C3}{H:j8}:H9 (A0::A1::A2::A3::A4::A5::A6::B::H) B (fun X=>A0::A1::A2::A3::A4::A5::A6::X::H) := .s (.s (.s (.s (.s (.s (.s .z))))))
theorem _root_.Go.Ab.H9.z8 {A0 A1 A2 A3 A4 A5 A6 A7 B:Bool×C3}{H:j8}:H9 (A0::A1::A2::A3::A4::A5::A6::A7::B::H) B (fun X=>A0::A1::A2::A3::A4::A5::A6::A7::X::H) := .s (.s (.s (.s (.s (.s (.s (.s .z)))))))
theorem _root_.Go.Ab.H9.z9 {A0 A1 A2 A3 A4 A5 A6 A7 A8 B:Bool×C3}{H:j8}:H9 (A0::A1::A2::A3::A4::A5::A6::A7::A8::B::H) B (fun X=>A0::A1::A2::A3::A4::A5::A6::A7::A8::X::H) := .s (.s (.s (.s (.s (.s (.s (.s (.s .z))))))))
theorem _root_.Go.Ab.H9.z10 {A0 A1 A2 A3 A4 A5 A6 A7 A8 A9 B:Bool×C3}{H:j8}:H9 (A0::A1::A2::A3::A4::A5::A6::A7::A8::A9::B::H) B (fun X=>A0::A1::A2::A3::A4::A5::A6::A7::A8::A9::X::H) := .s (.s (.s (.s (.s (.s (.s (.s (.s (.s .z)))))))))
theorem _root_.Go.Ab.H9.z11 {A0 A1 A2 A3 A4 A5 A6 A7 A8 A9 A10 B:Bool×C3}{H:j8}:H9 (A0::A1::A2::A3::A4::A5::A6::A7::A8::A9::A10::B::H) B (fun X=>A0::A1::A2::A3::A4::A5::A6::A7::A8::A9::A10::X::H) := .s (.s (.s (.s (.s (.s (.s (.s (.s (.s (.s .z))))))))))
theorem _root_.Go.Ab.H9.z12 {A0 A1 A2 A3 A4 A5 A6 A7 A8 A9 A10 A11 B:Bool×C3}{H:j8}:H9 (A0::A1::A2::A3::A4::A5::A6::A7::A8::A9::A10::A11::B::H) B (fun X=>A0::A1::A2::A3::A4::A5::A6::A7::A8::A9::A10::A11::X::H) := .s (.s (.s (.s (.s (.s (.s (.s (.s (.s (.s (.s .z)))))))))))
theorem _root_.Go.Ab.a5X.e1 {P:Program}{fn:Func}{C:Ctx}{post:AV→j8→Prop}{σ:o8}{H:j8}{t:Nat}{a:AV}(h:fn.results = #[.tmp t])(ha:F6 σ t=some a)(k:post a H):a5X P fn C post .ret σ H:=⟨a,.r1 h (.tmp ha),k⟩
theorem _root_.Go.Ab.a5X.e2 {P:Program}{fn:Func}{C:Ctx}{post:AV→j8→Prop}{σ:o8}{H:j8}{t t2:Nat}{a b:AV}(h:fn.results = #[.tmp t,.tmp t2])(ha:F6 σ t=some a)(hb:F6 σ t2=some b)(k:post (.t2 a b) H):a5X P fn C post .ret σ H:=⟨_,.r2 h (.tmp ha) (.tmp hb),k⟩
theorem _root_.Go.Ab.C4.jn {G:Gl}{P:Program}{f:FuncId}{fn:Func}{c:Code}{vs:List AV}{post:AV→Prop}{σ:o8}(hf:P.funcs[f]?=some fn)(hn:(fn.name == "runtime.NumGoroutine")=false)(N:Nat)(hb:(fn.body,fn.ntmps,Nat.ble vs.length N,a95 vs 0)=(some c,N,true,σ))
    (h:∀ C:Ctx,Ctx.Ok C→G.p C.I0→wpA P C N c (a5X P fn C (fun r _=>post r)) σ []):C4 G P f vs post:=by
  simp only [Prod.mk.injEq] at hb
  exact .intro hf hb.1 hn N hb.2.1 hb.2.2.1 σ hb.2.2.2 h
theorem _root_.Go.Ab.C6.jn {G:Gl}{P:Program}{f:FuncId}{fn:Func}{c:Code}{vs:List AV}{Hs:List C3}{post:AV→List C3→Prop}{σ:o8}{H0:j8}(hf:P.funcs[f]?=some fn)(hn:(fn.name == "runtime.NumGoroutine")=false)(N:Nat)(hb:(fn.body,fn.ntmps,Nat.ble vs.length N,a95 vs 0,a6X Hs)=(some c,N,true,σ,H0))
    (h:∀ C:Ctx,Ctx.Ok C→G.p C.I0→wpA P C N c (a5X P fn C (fun r H=>post r (H.map Prod.snd))) σ H0):C6 G P f vs Hs post:=by
  simp only [Prod.mk.injEq] at hb
  exact .intro hf hb.1 hn N hb.2.1 hb.2.2.1 σ hb.2.2.2.1 H0 hb.2.2.2.2 h
theorem c5v (a b:List UInt8):C4 gl prog 210 [.v a,.v b] (fun r=>r = .v (decide (a=b))):=by
 refine C4.jn func210 (by kernel_rfl) 31 rfl fun C hC hG => ?_
 refine .q 6 hG ?_
 refine .a4I 0 j0 fun hl0 => ?_
 refine .q 8 hG ⟨fun hc11 => ?_,fun hc11 => ?_⟩
 ·refine .q 5 hG ?_
  refine .e1 j0 j0 ?_
  exact congrArg AV.v (by rw [eq_comm,decide_eq_false_iff_not];rintro rfl;exact hc11 rfl)
 ·refine .q 13 hG ?_
  refine .a0Y (α:=Nat×UInt8) [(0,_),(1,_),(13,_)] (fun x R=>(5,.v x.2)::(14,.v (x.1:Int))::R) (fun x => []) (fun x=>x.1≤a.length∧(x.2=0↔a.take x.1=b.take x.1)) (fun x=>a.length - x.1) ((0,0)) (.c2 j0 j0 (.cons j0 (.nil _))) ?_ (.c2 j0 j0 (.c2 j0 j0 (.cons j0 (.nil _)))) (j0) fun x hF => ?_
  ·simp
  obtain⟨k,e⟩:=x
  obtain⟨h1,h2⟩:=hF
  dsimp only at h1 h2 ⊢
  refine .q 6 hG ⟨fun hc15 => ?_,fun hc15 => ?_⟩
  ·refine .q 8 hG ?_
   refine .draw (by kernel_rfl) 12 [[],[],[],[(18,1),(19,2)],[(20,3)],[],[],[(22,5),(23,6)],[(24,7)],[(21,4),(25,8)],[(17,0),(26,9)],[(27,10)]] j0 (by kernel_rfl) j0 ?_
   refine⟨_,OpP.move (.t j0) j0,?_⟩
   refine⟨_,OpP.move (.t j0) j0,?_⟩
   refine⟨_,OpP.move (.t j0) j0,?_⟩
   refine⟨_,OpP.idx ty5 underlying34 (.t j0) (.t j0) (by first|omega|(simp;done)|(simp;omega)|(simp at *;omega)) (by first|omega|(simp;done)|(simp;omega)|(simp at *;omega)) j0,?_⟩
   refine⟨_,OpP.ldP ty5 (.t j0) j0,?_⟩
   refine⟨_,OpP.move (.t j0) j0,?_⟩
   refine⟨_,OpP.move (.t j0) j0,?_⟩
   refine⟨_,OpP.idx ty5 underlying34 (.t j0) (.t j0) (by first|omega|(simp;done)|(simp;omega)|(simp at *;omega)) (by first|omega|(simp;done)|(simp;omega)|(simp at *;omega)) j0,?_⟩
   refine⟨_,OpP.ldP ty5 (.t j0) j0,?_⟩
   refine⟨_,OpP.c1p (.t j0) (.t j0) j0,?_⟩
   refine⟨_,OpP.or8 (.t j0) (.t j0) j0,?_⟩
   refine⟨_,OpP.assign (.t j0) j0,?_⟩
   show wpB _ _ _ _ _ [] ((5,_)::(27,_)::(26,_)::(25,_)::(24,_)::(23,_)::(22,_)::(21,_)::(20,_)::(19,_)::(18,_)::(17,_)::_) _
   refine .q 2 hG ?_
   refine .ad (by first|omega|(simp;done)|(simp;omega)|(simp at *;omega)) (by first|omega|(simp;done)|(simp;omega)|(simp at *;omega)) ?_
   refine .q 2 hG ?_
   refine⟨(k+1,_),.c2 rfl rfl (.c2 rfl rfl (.cons rfl (.nil _))),rfl,?_,by dsimp only;omega⟩
   refine⟨by dsimp only;omega,?_⟩;dsimp only;rw [a7g a b k (by omega) (by omega),b6I,b4A,h2];rfl
  ·refine .q 8 hG ?_
   refine .e1 j0 j0 ?_
   exact congrArg AV.v (by rw [decide_eq_decide,h2,List.take_of_length_le (by omega),List.take_of_length_le (by omega)])
theorem c2F (a b:List UInt8):C4 gl prog 19 [.v a,.v b] (fun r=>r = .v (decide (a=b))):=by
 refine C4.jn func19 (by kernel_rfl) 26 rfl fun C hC hG => ?_
 refine .q 6 hG ?_
 refine .a4I 0 j0 fun hl0 => ?_
 refine .q 8 hG ⟨fun hc10 => ?_,fun hc10 => ?_⟩
 ·refine .q 5 hG ?_
  refine .e1 j0 j0 ?_
  exact congrArg AV.v (by rw [eq_comm,decide_eq_false_iff_not];rintro rfl;exact hc10 rfl)
 ·refine .q 7 hG ?_
  refine .a0Y (α:=Nat) [(0,_),(1,_)] (fun k R=>(5,.v (k:Int))::R) (fun k => []) (fun k=>k≤a.length∧a.take k=b.take k) (fun k=>a.length - k) (0) (.c2 j0 j0 (.nil _)) ?_ (.c2 j0 j0 (.cons j0 (.nil _))) (j0) fun k hF => ?_
  ·simp
  obtain⟨h1,h2⟩:=hF
  refine .q 9 hG ⟨fun hc14 => ?_,fun hc14 => ?_⟩
  ·refine .q 4 hG ?_
   refine .draw (by kernel_rfl) 9 [[],[],[(17,0),(18,1)],[(19,2)],[],[],[(21,4),(22,5)],[(23,6)],[(20,3),(24,7)]] j0 (by kernel_rfl) j0 ?_
   refine⟨_,OpP.move (.t j0) j0,?_⟩
   refine⟨_,OpP.move (.t j0) j0,?_⟩
   refine⟨_,OpP.idx ty5 underlying34 (.t j0) (.t j0) (by first|omega|(simp;done)|(simp;omega)|(simp at *;omega)) (by first|omega|(simp;done)|(simp;omega)|(simp at *;omega)) j0,?_⟩
   refine⟨_,OpP.ldP ty5 (.t j0) j0,?_⟩
   refine⟨_,OpP.move (.t j0) j0,?_⟩
   refine⟨_,OpP.move (.t j0) j0,?_⟩
   refine⟨_,OpP.idx ty5 underlying34 (.t j0) (.t j0) (by first|omega|(simp;done)|(simp;omega)|(simp at *;omega)) (by first|omega|(simp;done)|(simp;omega)|(simp at *;omega)) j0,?_⟩
   refine⟨_,OpP.ldP ty5 (.t j0) j0,?_⟩
   refine⟨_,OpP.d2c (.t j0) (.t j0) j0,?_⟩
   show wpB _ _ _ _ _ [] ((25,_)::(24,_)::(23,_)::(22,_)::(21,_)::(20,_)::(19,_)::(18,_)::(17,_)::_) _
   refine .q 2 hG ⟨fun hc25 => ?_,fun hc25 => ?_⟩
   ·refine .q 5 hG ?_
    refine .e1 j0 j0 ?_
    exact congrArg AV.v (by rw [eq_comm,decide_eq_false_iff_not];rintro rfl;exact hc25 rfl)
   ·refine .q 3 hG ?_
    refine .ad (by first|omega|(simp;done)|(simp;omega)|(simp at *;omega)) (by first|omega|(simp;done)|(simp;omega)|(simp at *;omega)) ?_
    refine .q 2 hG ?_
    refine⟨k+1,.c2 rfl rfl (.cons rfl (.nil _)),rfl,?_,by omega⟩
    exact⟨by omega,(a7g a b k (by omega) (by omega)).2 ⟨h2,by simpa using hc25⟩⟩
  ·refine .q 6 hG ?_
   refine .e1 j0 j0 ?_
   refine congrArg AV.v (by rw [eq_comm,decide_eq_true_eq];rwa [List.take_of_length_le (by omega),List.take_of_length_le (by omega)] at h2)
theorem c2G (x n:Int)(h0:0 < n)(h1:n≤4611686018427387904):C4 gl prog 79 [.v x,.v n] (fun r=>r = .v (x % n)):=by
 have h2:=Int.tmod_lt_of_pos x h0
 have h3 : -n < x.tmod n:=Int.lt_tmod_of_pos x h0
 have h4:(x.tmod n+n) % n=x % n:=by
  rw [Int.add_emod_right,Int.tmod_def,Int.sub_mul_emod_self_left]
 refine C4.jn func79 (by kernel_rfl) 12 rfl fun C hC hG => ?_
 refine .q 8 hG ?_
 refine .p (.tmod (.t j0) (.t j0) (by omega) ?_)
 refine .q 1 hG ?_
 refine .ad (by first|omega|(simp;done)|(simp;omega)|(simp at *;omega)) (by first|omega|(simp;done)|(simp;omega)|(simp at *;omega)) ?_
 refine .q 1 hG ?_
 refine .p (.rem (.t j0) (.t j0) (by first|omega|(simp;done)|(simp;omega)|(simp at *;omega)) (by first|omega|(simp;done)|(simp;omega)|(simp at *;omega)) ?_)
 refine .q 3 hG ?_
 refine .e1 j0 j0 ?_
 rw [h4]
def a4r (c:UInt8):Bool:=decide (97≤c)&&decide (c≤122)
def a0n (s:Str):Bool:=decide (1≤s.l.length)&&decide (s.l.length≤16)&&s.l.all a4r
theorem all_succ {α:Type}(p:α→Bool)(l:List α)(k:Nat)(h:k < l.length):(l.take (k+1)).all p=((l.take k).all p&&p l[k]):=by
 rw [List.take_succ_eq_append_getElem h,List.all_append];simp
theorem c2H {α:Type}(p:α→Bool)(l:List α)(k:Nat)(h:k < l.length)(hf:p l[k]=false):l.all p=false:=by
 rw [List.all_eq_false];exact⟨l[k],List.getElem_mem h,by simp [hf]⟩
theorem c5w (s:Str):C4 gl prog 191 [.v s] (fun r=>r = .v (a0n s)):=by
 refine C4.jn func191 (by kernel_rfl) 28 rfl fun C hC hG => ?_
 refine .q 6 hG ?_
 refine .b1E 0 j0 fun hs => ?_
 refine .q 10 hG ?_
 refine .cond (.t j0) (fun hc11 => ?_) (fun hc11 => ?_)
 ·refine .q 5 hG ?_
  refine .e1 j0 j0 ?_
  refine congrArg AV.v ?_;simp only [Bool.or_eq_true,decide_eq_true_eq] at hc11;unfold a0n;rcases hc11 with h|h
  ·rw [decide_eq_false (show ¬1≤s.l.length by omega)];rfl
  ·rw [decide_eq_false (show ¬s.l.length≤16 by omega)];simp
 ·refine .q 9 hG ?_
  refine .a0Y (α:=Nat) [(0,_),(13,_)] (fun k R=>(14,.v (k:Int))::R) (fun k => []) (fun k=>k≤s.l.length∧(s.l.take k).all a4r=true) (fun k=>s.l.length - k) (0) (.c2 j0 j0 (.nil _)) ?_ (.c2 j0 j0 (.cons j0 (.nil _))) (j0) fun k hF => ?_
  ·simp
  obtain⟨h1,h2⟩:=hF
  refine .q 6 hG ⟨fun hc15 => ?_,fun hc15 => ?_⟩
  ·refine .q 12 hG ?_
   refine .p (.b8s underlying9 (.t j0) (.t j0) (by first|omega|(simp;done)|(simp;omega)|(simp at *;omega)) (by first|omega|(simp;done)|(simp;omega)|(simp at *;omega)) ?_)
   refine .q 4 hG ?_
   refine .go 21 j0 (.t j0) (fun hg24 => .b8s underlying9 (.q j0 hg24) (.q j0 hg24) (by first|omega|(simp;done)|(simp;omega)|(have:=hg24;simp at this;omega)) (by first|omega|(simp;done)|(simp;omega)|(have:=hg24;simp at this;omega)) j0) ?_
   refine .q 3 hG ?_
   refine .cond (.t j0) (fun hc26 => ?_) (fun hc26 => ?_)
   ·refine .q 5 hG ?_
    refine .e1 j0 j0 ?_
    refine congrArg AV.v (Eq.symm ?_);unfold a0n;rw [c2H a4r s.l k (by omega),Bool.and_false];unfold a4r;simp only [Bool.or_eq_true,decide_eq_true_eq,Int.toNat_natCast] at hc26;rcases hc26 with h|h
    ·rw [decide_eq_false (UInt8.not_le.2 h)];rfl
    ·rw [decide_eq_false (UInt8.not_le.2 h),Bool.and_false]
   ·refine .q 2 hG ?_
    refine .ad (by first|omega|(simp;done)|(simp;omega)|(simp at *;omega)) (by first|omega|(simp;done)|(simp;omega)|(simp at *;omega)) ?_
    refine .q 2 hG ?_
    refine⟨k+1,.c2 rfl rfl (.cons rfl (.nil _)),rfl,?_,by omega⟩
    refine⟨by omega,?_⟩;rw [all_succ _ _ _ (by omega),h2];simp only [Bool.or_eq_false_iff,decide_eq_false_iff_not,UInt8.not_lt,Int.toNat_natCast] at hc26;simpa [a4r] using hc26
  ·refine .q 6 hG ?_
   refine .e1 j0 j0 ?_
   refine congrArg AV.v (Eq.symm ?_);simp only [Bool.or_eq_false_iff,decide_eq_false_iff_not] at hc11;unfold a0n;rw [List.take_of_length_le (by omega)] at h2;rw [h2];simp;omega
def b2Y (key:List UInt8):List UInt8:=key++List.replicate (64 - key.length) 0
def b0r (key:List UInt8)(x:UInt8):List UInt8:=(b2Y key).map (· ^^^ x)
theorem b4B (key:List UInt8)(h:key.length≤64):(b2Y key).length=64:=by simp [b2Y];omega
@[simp] theorem c7U (key:List UInt8)(x:UInt8):(b0r key x).length=max 64 key.length:=by simp [b0r,b2Y];omega
theorem b9O {α:Type}(f:α→α)(l:List α)(k:Nat)(h:k < l.length):((l.take k).map f++l.drop k).set k (f l[k])=(l.take (k+1)).map f++l.drop (k+1):=by
 rw [List.set_append_right _ _ (by simp;omega)]
 have e:k - ((l.take k).map f).length=0:=by simp;omega
 rw [e,List.drop_eq_getElem_cons h,List.set_cons_zero,List.take_succ_eq_append_getElem h]
 simp only [List.map_append,List.map_cons,List.map_nil,List.append_assoc,List.cons_append,List.nil_append]
theorem b1q {α:Type}(f:α→α)(l:List α)(k:Nat)(h:k < l.length)(h2:k < ((l.take k).map f++l.drop k).length):((l.take k).map f++l.drop k)[k]=l[k]:=by
 rw [List.getElem_append_right (by simp;omega)]
 simp [Nat.min_eq_left (Nat.le_of_lt h)]
theorem c2I {α:Type}(f:α→α)(l:List α)(k:Nat)(h:k < l.length)(h2:k < ((l.take k).map f++l.drop k).length):((l.take k).map f++l.drop k).set k (f (((l.take k).map f++l.drop k)[k]))=(l.take (k+1)).map f++l.drop (k+1):=by
 rw [b1q f l k h h2];exact b9O f l k h
theorem b9P (key:List UInt8)(f:UInt8→UInt8)(hk:key.length≤64):key.take (List.replicate 64 (0:UInt8)).length++(List.replicate 64 (0:UInt8)).drop key.length=((b2Y key).take 0).map f++(b2Y key).drop 0:=by
 rw [List.length_replicate,List.drop_replicate,List.take_of_length_le hk]
 rfl
theorem d0K (key:List UInt8)(hk:key.length≤64):(key.take (List.replicate (Int.toNat 64) (default:UInt8)).length++(List.replicate (Int.toNat 64) (default:UInt8)).drop key.length).length=64:=by
 rw [List.length_append,List.length_take,List.length_drop,List.length_replicate]
 show min 64 key.length+(64 - key.length)=64
 omega
theorem b8K (key:List UInt8)(x:UInt8)(hk:key.length≤64):C4 gl prog 232 [.v key,.v x] (fun r=>r = .v (b0r key x)):=by
 have hl:=b4B key hk
 have e64:=d0K key hk
 refine C4.jn func232 (by kernel_rfl) 25 rfl fun C hC hG => ?_
 refine .q 6 hG ?_
 refine .h (.make c2E (.i j0) (by first|omega|(simp;done)|(simp;omega)|(simp at *;omega)) (by first|omega|(simp;done)|(simp;omega)|(simp at *;omega)) (by first|omega|(simp;done)|(simp;omega)|(simp at *;omega)) fun b7 => ?_)
 refine .q 6 hG ?_
 refine .h (.c42 ty5 underlying34 j0 .z (.v (.t j0)) (by first|omega|(simp;done)|(simp;omega)|(simp at *;omega)) ?_)
 refine .q 5 hG ?_
 refine .p (.b6t underlying34 j0 .z ?_)
 refine .q 3 hG ?_
 refine .a0Y (α:=Nat) [(1,_),(5,_),(12,_)] (fun k R=>(13,.v (k:Int))::R) (fun k => [(true,.own 5 (slc b7 0 64 64) (((b2Y key).take k).map (· ^^^ x)++(b2Y key).drop k))]) (fun k=>k≤64) (fun k=>64 - k) (0) (.c2 j0 j0 (.cons j0 (.nil _))) ?_ (.c2 j0 j0 (.c2 j0 j0 (.nil _))) (congrArg (fun q => [(true,C3.own _ _ q)]) (b9P key _ hk)) fun k hF => ?_
 ·simp
 refine .q 6 hG ⟨fun hc14 => ?_,fun hc14 => ?_⟩
 ·refine .q 11 hG ?_
  refine .p (.a7Y ty5 underlying34 j0 .z (.t j0) (by first|omega|(simp;done)|(simp;omega)|(simp at *;omega)) (by first|omega|(simp;done)|(simp;omega)|(simp at *;omega)) (.p (.c9C ty5 (.t j0) .z (by first|omega|(simp;done)|(simp;omega)|(simp at *;omega)) ?_)))
  refine .q 2 hG ?_
  refine .p (.a7Y ty5 underlying34 j0 .z (.t j0) (by first|omega|(simp;done)|(simp;omega)|(simp at *;omega)) (by first|omega|(simp;done)|(simp;omega)|(simp at *;omega)) (.n (.c9D ty5 (.t j0) (.t j0) .z (by first|omega|(simp;done)|(simp;omega)|(simp at *;omega)) ?_)))
  refine .q 2 hG ?_
  refine .ad (by first|omega|(simp;done)|(simp;omega)|(simp at *;omega)) (by first|omega|(simp;done)|(simp;omega)|(simp at *;omega)) ?_
  refine .q 2 hG ?_
  refine⟨k+1,.c2 rfl rfl (.c2 rfl rfl (.nil _)),congrArg (fun q => [(true,C3.own _ _ q)]) (c2I (· ^^^ x) (b2Y key) k (by omega) _),?_,by omega⟩
  omega
 ·refine .q 6 hG ?_
  refine .Q7 hC .z (.as 4 j0 .z ?_)
  refine .q 1 hG ?_
  refine .e1 j0 j0 ?_
  refine congrArg AV.v ?_;have:k=64:=by simp at hc14;omega
  subst this;rw [List.take_of_length_le (by omega),List.drop_eq_nil_of_le (by omega),List.append_nil];rfl
def a3h (key m:List UInt8):Tag :=
 let k:=if key.length>64 then (sha key).l else key
 sha (b0r k 92++(sha (b0r k 54++m)).l)
theorem a7h (key m:List UInt8)(h1:key.length≤1000000)(h2:m.length≤1000000):C4 gl prog 192 [.v key,.v m] (fun r=>r = .v (a3h key m)):=by
 refine C4.jn func192 (by kernel_rfl) 27 rfl fun C hC hG => ?_
 refine .q 3 hG fun b4 => ?_
 refine .q 9 hG ⟨fun hc9 => ?_,fun hc9 => ?_⟩
 ·refine .q 3 hG ?_
  refine .k hG (d0J _ (by first|omega|(simp;done)|(simp;omega)|(simp at *;omega))) ?_
  refine .q 1 hG fun b5 => ?_
  refine .q 1 hG ?_
  refine .U2 hC .z (.asP 5 j0 .z ?_)
  refine .q 2 hG ?_
  refine .p (.a1W (by decide) a1s (.t j0) ?_)
  refine .q 4 hG ?_
  refine .k hG (b8I) ?_
  refine .q 1 hG ?_
  refine .p (.J7 hG (b8K _ _ (by first|omega|(simp;done)|(simp;omega)|(simp at *;omega))) (.cons (.t j0) (.cons (.u8 54 j0) .nil)) (.p (.J7 hG (a3p _ _ (by first|omega|(simp;done)|(simp;omega)|(simp at *;omega)) (by first|omega|(simp;done)|(simp;omega)|(simp at *;omega)) (by first|omega|(simp;done)|(simp;omega)|(simp at *;omega))) (.cons (.t j0) (.cons (.t j0) .nil)) ?_)))
  refine .q 1 hG ?_
  refine .p (.J7 hG (a3p _ _ (by first|omega|(simp;done)|(simp;omega)|(simp at *;omega)) (by first|omega|(simp;done)|(simp;omega)|(simp at *;omega)) (by first|omega|(simp;done)|(simp;omega)|(simp at *;omega))) (.cons (.t j0) (.cons (.t j0) .nil)) ?_)
  refine .k hG (b8J _ (by first|omega|(simp;done)|(simp;omega)|(simp at *;omega)) (by first|omega|(simp;done)|(simp;omega)|(simp at *;omega)) (by first|omega|(simp;done)|(simp;omega)|(simp at *;omega))) ?_
  refine .q 1 hG fun b6 => ?_
  refine .q 1 hG ?_
  refine .U2 hC .z (.asP 6 j0 .z ?_)
  refine .q 2 hG ?_
  refine .draw (by kernel_rfl) 7 [[],[],[(21,1)],[(20,0),(22,2)],[],[(23,3),(24,4)],[(25,5)]] j0 (by kernel_rfl) j0 ?_
  refine⟨_,OpP.J7 hG (b8I) .nil j0,?_⟩
  refine⟨_,OpP.move (.t j0) j0,?_⟩
  refine⟨_,OpP.J7 hG (b8K _ _ (by first|omega|(simp;done)|(simp;omega)|(simp at *;omega))) (.cons (.t j0) (.cons (.u8 92 j0) .nil)) j0,?_⟩
  refine⟨_,OpP.J7 hG (a3p _ _ (by first|omega|(simp;done)|(simp;omega)|(simp at *;omega)) (by first|omega|(simp;done)|(simp;omega)|(simp at *;omega)) (by first|omega|(simp;done)|(simp;omega)|(simp at *;omega))) (.cons (.t j0) (.cons (.t j0) .nil)) j0,?_⟩
  refine⟨_,OpP.a1W (by decide) a1s (.t j0) j0,?_⟩
  refine⟨_,OpP.J7 hG (a3p _ _ (by first|omega|(simp;done)|(simp;omega)|(simp at *;omega)) (by first|omega|(simp;done)|(simp;omega)|(simp at *;omega)) (by first|omega|(simp;done)|(simp;omega)|(simp at *;omega))) (.cons (.t j0) (.cons (.t j0) .nil)) j0,?_⟩
  refine⟨_,OpP.J7 hG (b8J _ (by first|omega|(simp;done)|(simp;omega)|(simp at *;omega)) (by first|omega|(simp;done)|(simp;omega)|(simp at *;omega)) (by first|omega|(simp;done)|(simp;omega)|(simp at *;omega))) (.cons (.t j0) .nil) j0,?_⟩
  show wpB _ _ _ _ _ [_] ((26,_)::(25,_)::(24,_)::(23,_)::(22,_)::(21,_)::(20,_)::_) _
  refine .q 3 hG ?_
  refine⟨_,.r1 j0 (.cell U0 j0 .z2),?_⟩
  show _=AV.v (a3h key m)
  simp only [a3h,if_pos (show key.length>64 by omega),b8H,b0o,b4y,List.nil_append]
 ·refine .q 3 hG ?_
  refine .k hG (b8I) ?_
  refine .q 1 hG ?_
  refine .p (.J7 hG (b8K _ _ (by first|omega|(simp;done)|(simp;omega)|(simp at *;omega))) (.cons (.t j0) (.cons (.u8 54 j0) .nil)) (.p (.J7 hG (a3p _ _ (by first|omega|(simp;done)|(simp;omega)|(simp at *;omega)) (by first|omega|(simp;done)|(simp;omega)|(simp at *;omega)) (by first|omega|(simp;done)|(simp;omega)|(simp at *;omega))) (.cons (.t j0) (.cons (.t j0) .nil)) ?_)))
  refine .q 1 hG ?_
  refine .p (.J7 hG (a3p _ _ (by first|omega|(simp;done)|(simp;omega)|(simp at *;omega)) (by first|omega|(simp;done)|(simp;omega)|(simp at *;omega)) (by first|omega|(simp;done)|(simp;omega)|(simp at *;omega))) (.cons (.t j0) (.cons (.t j0) .nil)) ?_)
  refine .k hG (b8J _ (by first|omega|(simp;done)|(simp;omega)|(simp at *;omega)) (by first|omega|(simp;done)|(simp;omega)|(simp at *;omega)) (by first|omega|(simp;done)|(simp;omega)|(simp at *;omega))) ?_
  refine .q 1 hG fun b6 => ?_
  refine .q 1 hG ?_
  refine .U2 hC .z (.asP 6 j0 .z ?_)
  refine .q 2 hG ?_
  refine .draw (by kernel_rfl) 7 [[],[],[(21,1)],[(20,0),(22,2)],[],[(23,3),(24,4)],[(25,5)]] j0 (by kernel_rfl) j0 ?_
  refine⟨_,OpP.J7 hG (b8I) .nil j0,?_⟩
  refine⟨_,OpP.move (.t j0) j0,?_⟩
  refine⟨_,OpP.J7 hG (b8K _ _ (by first|omega|(simp;done)|(simp;omega)|(simp at *;omega))) (.cons (.t j0) (.cons (.u8 92 j0) .nil)) j0,?_⟩
  refine⟨_,OpP.J7 hG (a3p _ _ (by first|omega|(simp;done)|(simp;omega)|(simp at *;omega)) (by first|omega|(simp;done)|(simp;omega)|(simp at *;omega)) (by first|omega|(simp;done)|(simp;omega)|(simp at *;omega))) (.cons (.t j0) (.cons (.t j0) .nil)) j0,?_⟩
  refine⟨_,OpP.a1W (by decide) a1s (.t j0) j0,?_⟩
  refine⟨_,OpP.J7 hG (a3p _ _ (by first|omega|(simp;done)|(simp;omega)|(simp at *;omega)) (by first|omega|(simp;done)|(simp;omega)|(simp at *;omega)) (by first|omega|(simp;done)|(simp;omega)|(simp at *;omega))) (.cons (.t j0) (.cons (.t j0) .nil)) j0,?_⟩
  refine⟨_,OpP.J7 hG (b8J _ (by first|omega|(simp;done)|(simp;omega)|(simp at *;omega)) (by first|omega|(simp;done)|(simp;omega)|(simp at *;omega)) (by first|omega|(simp;done)|(simp;omega)|(simp at *;omega))) (.cons (.t j0) .nil) j0,?_⟩
  show wpB _ _ _ _ _ [_] ((26,_)::(25,_)::(24,_)::(23,_)::(22,_)::(21,_)::(20,_)::_) _
  refine .q 3 hG ?_
  refine⟨_,.r1 j0 (.cell U0 j0 .z1),?_⟩
  show _=AV.v (a3h key m)
  simp only [a3h,if_neg (show ¬key.length>64 by omega),b8H,b0o,b4y,List.nil_append]
open Go.Fl Go.Ab Go.Mac Go.Sha
theorem b1O (n:Int)(h0:0≤n)(h1:n < 9223372036854775808)(k:Nat)(hk:k < 64):UInt8.ofInt (n >>> k)=(UInt64.ofInt n >>> UInt64.ofNat k).toUInt8:=by
 obtain⟨m,rfl⟩:=Int.eq_ofNat_of_zero_le h0
 rw [show((m:Int) >>> k)=((m >>> k:Nat):Int) from rfl]
 apply UInt8.toNat_inj.1
 have e1:(UInt64.ofInt (m:Int)).toNat=m % 2^64:=by
  simp [UInt64.ofInt];omega
 have e2:(UInt64.ofNat k).toNat=k:=by simp;omega
 have e3:(UInt8.ofInt ((m >>> k:Nat):Int)).toNat=(m >>> k) % 256:=by
  generalize m >>> k=q
  simp [UInt8.ofInt];omega
 rw [e3,UInt64.toNat_toUInt8,UInt64.toNat_shiftRight,e1,e2]
 rw [Nat.mod_eq_of_lt hk,Nat.mod_eq_of_lt (show m < 2^64 by omega)]
attribute [local simp] K8
def derive (key:Tag)(name:Str)(n:Int):Tag×Int :=
 if a0n name=false then (default,7) else if n < 0∨281474976710656 < n then (default,1) else (a3h key.l (name.l ++ [0]++W5 (UInt64.ofInt n) 8),0)
theorem c2J (key:Tag)(name:Str)(n:Int)(hs:name.l.length≤1000):C4 gl prog 141 [.v key,.v name,.v n] (fun r=>r = .t2 (.v (derive key name n).1) (.v (derive key name n).2)):=by
 refine C4.jn func141 (by kernel_rfl) 39 rfl fun C hC hG => ?_
 refine .q 3 hG fun b3 => ?_
 refine .q 1 hG fun b6 => ?_
 refine .q 6 hG ?_
 refine .k hG (c5w _) ?_
 refine .q 2 hG ?_
 refine .cond (.t j0) (fun hc12 => ?_) (fun hc12 => ?_)
 ·refine .q 2 hG ?_
  refine .p (.a1y (default:(M4 32 UInt8)) U0 a1s .nil j0 ?_)
  refine .q 4 hG ?_
  refine⟨_,.r2 j0 (.cell U0 j0 .z) (.tmp j0),?_⟩
  have e:derive key name n=(default,7):=by unfold derive;rw [if_pos (by simpa using hc12)]
  rw [e]
 ·refine .q 11 hG ?_
  refine .cond (.t j0) (fun hc19 => ?_) (fun hc19 => ?_)
  ·refine .q 2 hG ?_
   refine .p (.a1y (default:(M4 32 UInt8)) U0 a1s .nil j0 ?_)
   refine .q 4 hG ?_
   refine⟨_,.r2 j0 (.cell U0 j0 .z) (.tmp j0),?_⟩
   have e:derive key name n=(default,1):=by unfold derive;rw [if_neg (by simpa using hc12),if_pos (by simpa using hc19)]
   rw [e]
  ·refine .q 4 hG ?_
   refine .h (.a5f underlying9 underlying34 underlying5 (.t j0) fun w22 => ?_)
   refine .bs j0 (by decide) fun b23 => ?_
   refine .ap (by first|omega|(simp;done)|(simp;omega)|(simp at *;omega)) (by first|omega|(simp;done)|(simp;omega)|(simp at *;omega)) fun w24 => ?_
   refine .q 1 hG ?_
   refine .drop ?_
   refine .q 3 hG ?_
   have hn:¬n < 0∧¬281474976710656 < n:=by simpa using hc19
   have hn0:0≤n:=by omega
   have hn1:n < 9223372036854775808:=by omega
   refine .q 4 hG ?_
   refine .a0Y (α:=Nat×Value) [(2,_),(3,_),(6,_)] (fun x R=>(8,.raw x.2)::(9,.v (56 - 8*(x.1:Int)))::R) (fun x => [(true,.own 5 x.2 (name.l ++ [0]++W5 (UInt64.ofInt n) x.1)),(true,.ob (ptr b6 0) (default:Tag)),(true,.ob (ptr b3 0) key)]) (fun x=>x.1≤8) (fun x=>8 - x.1) ((0,w24)) (.c2 j0 j0 (.cons j0 (.nil _))) ?_ (.c2 j0 j0 (.c2 j0 j0 (.cons j0 (.nil _)))) (congrArg (fun q => [(true,C3.own _ _ q),_,_]) (by simp [W5])) fun x hF => ?_
   ·simp
   obtain⟨j,w⟩:=x
   dsimp only at hF ⊢
   refine .q 7 hG ⟨fun hc26 => ?_,fun hc26 => ?_⟩
   ·refine .q 7 hG ?_
    refine .p (.c7s (.t j0) (.t j0) (by first|omega|(simp;done)|(simp;omega)|(simp at *;omega)) (by first|omega|(simp;done)|(simp;omega)|(simp at *;omega)) ?_)
    refine .q 1 hG ?_
    refine .bs j0 (by decide) fun b34 => ?_
    refine .ap (by first|omega|(simp;done)|(simp;omega)|(simp at *;omega)) (by first|omega|(simp;done)|(simp;omega)|(simp at *;omega)) fun w35 => ?_
    refine .q 1 hG ?_
    refine .drop ?_
    refine .q 3 hG ?_
    refine .sb (by first|omega|(simp;done)|(simp;omega)|(simp at *;omega)) (by first|omega|(simp;done)|(simp;omega)|(simp at *;omega)) ?_
    refine .q 2 hG ?_
    refine⟨(j+1,w35),.cons rfl (.cons (congrArg (fun q=>some (AV.v q)) (by dsimp only;omega)) (.c2 rfl rfl (.cons rfl (.nil _)))),congrArg (fun q => [(true,C3.own _ _ q),_,_]) (by dsimp only;rw [a1U,←b1O n hn0 hn1 _ (by omega),show(56 - 8*(j:Int)).toNat=56 - 8*j by omega];simp),?_,by dsimp only;omega⟩
    dsimp only;omega
   ·refine .q 2 hG ?_
    refine .Q7 hC .z (.as 8 j0 .z (.U2 hC .z2 (.asP 3 j0 .z2 ?_)))
    refine .q 1 hG ?_
    refine .p (.a1W (by decide) a1s (.t j0) ?_)
    refine .q 1 hG ?_
    refine .p (.J7 hG (a7h _ _ (by first|omega|(simp;done)|(simp;omega)|(simp at *;omega)) (by first|omega|(simp;done)|(simp;omega)|(simp at *;omega))) (.cons (.t j0) (.cons (.t j0) .nil)) ?_)
    refine .q 4 hG ?_
    refine⟨_,.r2 j0 (.cell U0 j0 .z1) (.tmp j0),?_⟩
    obtain rfl:j=8:=by omega
    have e:derive key name n=(a3h key.l (name.l ++ [0]++W5 (UInt64.ofInt n) 8),0):=by unfold derive;rw [if_neg (by simpa using hc12),if_neg (by simpa using hc19)]
    rw [e]
abbrev dk (w:Value):AV := .ln w (j9.id (α:=y8))
theorem b9Q (l:List Int):C6 gl prog 7 [.v l] [] (fun r Hs=>∃ b,r=dk (ptr b 0)∧Hs = [.ob (ptr b 0) (⟨l,0⟩:y8)]):=by
 refine C6.jn func7 (by kernel_rfl) 6 rfl fun C hC hG => ?_
 refine .q 2 hG ?_
 refine .p (.assign .raw ?_)
 refine .q 4 hG ?_
 refine .p (.bS1 y8.l0 j0 d2L d1W (fun c0=>(⟨c0,0⟩:y8)) (fun _=>j0) j0 j0 (.t j0) ?_)
 refine .q 1 hG fun b5 => ?_
 refine .q 3 hG ?_
 refine .e1 j0 j0 ?_
 exact⟨b5,j0,j0⟩
def u6 (d:y8)(n:Int):Int×y8 :=
 if h:d.At.toNat < d.L.length then (d.L[d.At.toNat] % n,⟨d.L,d.At+1⟩) else (0,d)
def I8 (d:y8):Prop:=0≤d.At
theorem B9 {d:y8}{n:Int}(h:I8 d):I8 (u6 d n).2:=by
 unfold u6;split
 ·show 0≤d.At+1
  unfold I8 at h;omega
 ·exact h
theorem F8 {d:y8}{n:Int}(h:0 < n):0≤(u6 d n).1∧(u6 d n).1 < n:=by
 unfold u6;split
 ·exact⟨Int.emod_nonneg _ (by omega),Int.emod_lt_of_pos _ h⟩
 ·exact⟨Int.le_refl 0,h⟩
theorem c7V (w:Value)(d:y8)(n:Int)(hd:I8 d)(h0:0 < n)(h1:n≤4611686018427387904) :
    C6 gl prog 38 [dk w,.v n] [.ob w d] (fun r Hs=>r = .v (u6 d n).1∧Hs = [.ob w (u6 d n).2]):=by
  unfold I8 at hd
  refine C6.jn func38 (by kernel_rfl) 35 rfl fun C hC hG => ?_
  refine .q 6 hG ?_
  refine .draw (by kernel_rfl) 10 [[],[(5,0)],[(6,1)],[(7,2)],[],[(9,4)],[(10,5)],[(11,6)],[(12,7)],[(8,3),(13,8)]] j0 (by kernel_rfl) j0 ?_
  refine⟨_,OpP.move (.t j0) j0,?_⟩
  refine⟨_,OpP.E3 (.t j0) j0,?_⟩
  refine⟨_,OpP.P5 y8.l1 b2w j0 (.t j0) j0,?_⟩
  refine⟨_,OpP.ldF (fun x=>x.At) ty3 (.t j0) .z (fun _=>j0) j0,?_⟩
  refine⟨_,OpP.move (.t j0) j0,?_⟩
  refine⟨_,OpP.E3 (.t j0) j0,?_⟩
  refine⟨_,OpP.P5 y8.l0 c1Q j0 (.t j0) j0,?_⟩
  refine⟨_,OpP.ldF (fun x=>x.L) d0m (.t j0) .z (fun _=>j0) j0,?_⟩
  refine⟨_,OpP.len underlying22 (.t j0) j0,?_⟩
  refine⟨_,OpP.geq (.t j0) (.t j0) j0,?_⟩
  show wpB _ _ _ _ _ [] ((14,_)::(13,_)::(12,_)::(11,_)::(10,_)::(9,_)::(8,_)::(7,_)::(6,_)::(5,_)::_) _
  refine .q 2 hG ⟨fun hc14 => ?_,fun hc14 => ?_⟩
  · refine .q 5 hG ?_
    refine .e1 j0 j0 ?_
    have e:u6 d n=(0,d):=by unfold u6;rw [dif_neg (by omega)]
    rw [e];exact⟨rfl,rfl⟩
  · refine .q 2 hG ?_
    refine .a4I 12 j0 fun hl => ?_
    refine .q 1 hG ?_
    refine .mv j0 (.p (.E3 (.t j0) (.p (.P5 y8.l1 b2w j0 (.t j0) (.p (.ldF (fun x=>x.At) ty3 (.t j0) .z (fun _=>j0) ?_))))))
    refine .ad (by first|omega|(simp;done)|(simp;omega)|(simp at *;omega)) (by first|omega|(simp;done)|(simp;omega)|(simp at *;omega)) (.p (.E3 (.t j0) (.p (.P5 y8.l1 b2w j0 (.t j0) (.n (.stF (fun y x => { x with At:=y }) ty3 (.t j0) (.t j0) .z (fun _ _=>j0) ?_))))))
    refine .q 2 hG ?_
    refine .draw (by kernel_rfl) 14 [[],[(22,0)],[(23,1)],[(24,2)],[],[(26,4)],[(27,5)],[(28,6)],[(29,7)],[(25,3),(30,8)],[(31,9)],[],[(32,10),(33,11)],[(34,12)]] j0 (by kernel_rfl) j0 ?_
    refine⟨_,OpP.move (.t j0) j0,?_⟩
    refine⟨_,OpP.E3 (.t j0) j0,?_⟩
    refine⟨_,OpP.P5 y8.l0 c1Q j0 (.t j0) j0,?_⟩
    refine⟨_,OpP.ldF (fun x=>x.L) d0m (.t j0) .z (fun _=>j0) j0,?_⟩
    refine⟨_,OpP.move (.t j0) j0,?_⟩
    refine⟨_,OpP.E3 (.t j0) j0,?_⟩
    refine⟨_,OpP.P5 y8.l1 b2w j0 (.t j0) j0,?_⟩
    refine⟨_,OpP.ldF (fun x=>x.At) ty3 (.t j0) .z (fun _=>j0) j0,?_⟩
    refine⟨_,OpP.sub (.t j0) (.i j0) (by first|omega|(simp;done)|(simp;omega)|(simp at *;omega)) (by first|omega|(simp;done)|(simp;omega)|(simp at *;omega)) j0,?_⟩
    refine⟨_,OpP.idx ty3 underlying22 (.t j0) (.t j0) (by first|omega|(simp;done)|(simp;omega)|(simp at *;omega)) (by first|omega|(simp;done)|(simp;omega)|(simp at *;omega)) j0,?_⟩
    refine⟨_,OpP.ldP ty3 (.t j0) j0,?_⟩
    refine⟨_,OpP.move (.t j0) j0,?_⟩
    refine⟨_,OpP.J7 hG (c2G _ _ (by first|omega|(simp;done)|(simp;omega)|(simp at *;omega)) (by first|omega|(simp;done)|(simp;omega)|(simp at *;omega))) (.cons (.t j0) (.cons (.t j0) .nil)) j0,?_⟩
    refine⟨_,OpP.assign (.t j0) j0,?_⟩
    show wpB _ _ _ _ _ [] ((4,_)::(34,_)::(33,_)::(32,_)::(31,_)::(30,_)::(29,_)::(28,_)::(27,_)::(26,_)::(25,_)::(24,_)::(23,_)::(22,_)::_) _
    refine .q 2 hG ?_
    refine .e1 j0 j0 ?_
    have e:u6 d n=(d.L[d.At.toNat]'(by omega) % n,⟨d.L,d.At+1⟩):=by unfold u6;rw [dif_pos (by omega)]
    rw [e];refine⟨congrArg AV.v ?_,rfl⟩;simp only [Int.add_sub_cancel]
theorem a0L (a b:List UInt8):C4 gl prog 152 [.v a,.v b] (fun r=>r = .v (decide (a=b))):=by
 refine C4.jn func152 (by kernel_rfl) 10 rfl fun C hC hG => ?_
 refine .q 7 hG ?_
 refine .p (.b0b underlying34 underlying5 underlying9 (.t j0) ?_)
 refine .q 1 hG ?_
 refine .p (.b0b underlying34 underlying5 underlying9 (.t j0) ?_)
 refine .q 4 hG ?_
 refine .e1 j0 j0 ?_
 refine congrArg AV.v ?_
 rw [decide_eq_decide];exact⟨fun h=>congrArg Str.l h,fun h=>congrArg Str.mk h⟩
theorem Q1 (b:List UInt8)(hb:b.length≤1000000):C4 gl prog 120 [.v b] (fun r=>r = .v b):=by
 refine C4.jn func120 (by kernel_rfl) 8 rfl fun C hC hG => ?_
 refine .q 8 hG ?_
 refine .p (.b0c underlying34 (.t j0) fun c4 hn4 => ?_)
 refine .q 1 hG ?_
 refine .cond (.t j0) (fun hc4 => ?_) (fun hc4 => ?_)
 ·refine .q 5 hG ?_
  refine .e1 j0 j0 ?_
  rw [hn4 hc4]
 ·refine .q 3 hG ?_
  refine .h (.buildSlice (α:=UInt8) ty5 underlying34 .nil j0 (by decide) fun b5 => ?_)
  refine .q 1 hG ?_
  refine .ap (by first|omega|(simp;done)|(simp;omega)|(simp at *;omega)) (by first|omega|(simp;done)|(simp;omega)|(simp at *;omega)) fun w7 => ?_
  refine .q 2 hG ?_
  refine .Q7 hC .z (.as 2 j0 .z ?_)
  refine .q 1 hG ?_
  refine .e1 j0 j0 ?_
  rw [List.nil_append]
def a3q (k:Tag)(m:List UInt8)(x:D8):Bool:=decide (x.Key=k)&&decide (x.Message=m)
theorem c5x (k:Tag)(m:List UInt8)(x:D8):C4 gl prog 237 [.v x,.p k,.p m] (fun r=>r = .v (a3q k m x)):=by
 refine C4.jn func237 (by kernel_rfl) 15 rfl fun C hC hG => ?_
 refine .q 3 hG fun b3 => ?_
 refine .q 7 hG ?_
 refine .p (.b4f underlying28 sz5 underlying5 b9y (.t j0) (.t j0) ?_)
 refine .q 4 hG ?_
 refine .go 9 j0 (.t j0) (fun hg13 => .J7 hG (a0L _ _) (.cons (.q j0 hg13) (.cons (.q j0 hg13) .nil)) j0) ?_
 refine .q 4 hG ?_
 refine .e1 j0 j0 ?_
 rfl
def idx {α:Type}(l:List α)(p:α→Bool):Int:=if l.findIdx p < l.length then (l.findIdx p:Int) else -1
theorem b0s {α:Type}{l:List α}{p:α→Bool}{k:Nat}(h:k < l.length)(h1:p l[k]=true)(h2:∀ j (hj:j < l.length),j < k→p l[j]=false):idx l p=(k:Int):=by
 have e:l.findIdx p=k:=(List.findIdx_eq h).2 ⟨h1,fun j hj=>h2 j (by omega) hj⟩
 unfold idx;rw [e,if_pos h]
theorem a5m {α:Type}{l:List α}{p:α→Bool}(h:∀ j (hj:j < l.length),p l[j]=false):idx l p = -1:=by
 have e:l.findIdx p=l.length:=List.findIdx_eq_length.2 fun x hx=>by
  obtain⟨j,hj,rfl⟩:=List.getElem_of_mem hx
  exact h j hj
 unfold idx;rw [e,if_neg (by omega)]
theorem b6J (l:List D8)(p:D8→Bool):C4 gl prog 236 [.v l,.a62 prog p] (fun r=>r = .v (idx l p)):=by
 refine C4.jn func236 (by kernel_rfl) 19 rfl fun C hC hG => ?_
 refine .q 6 hG ?_
 refine .a4I 0 j0 fun hl0 => ?_
 refine .q 6 hG ?_
 refine .a0Y (α:=Nat) [(0,_),(1,_),(7,_)] (fun k R=>(8,.v (k:Int))::R) (fun k => []) (fun k=>k≤l.length∧∀ j (hj:j < l.length),j < k→p l[j]=false) (fun k=>l.length - k) (0) (.c2 j0 j0 (.cons j0 (.nil _))) ?_ (.c2 j0 j0 (.c2 j0 j0 (.nil _))) (j0) fun k hF => ?_
 ·simp
 obtain⟨h1,h2⟩:=hF
 refine .q 6 hG ⟨fun hc9 => ?_,fun hc9 => ?_⟩
 ·refine .q 13 hG ?_
  refine .ix (by first|omega|(simp;done)|(simp;omega)|(simp at *;omega)) (by first|omega|(simp;done)|(simp;omega)|(simp at *;omega)) ?_
  refine .q 1 hG ?_
  refine .p (.b0a j0 (.t j0) ?_)
  refine .q 1 hG ?_
  refine .cond (.t j0) (fun hc16 => ?_) (fun hc16 => ?_)
  ·refine .q 6 hG ?_
   refine .e1 j0 j0 ?_
   rw [b0s (by omega) (by simpa using hc16) h2]
  ·refine .q 2 hG ?_
   refine .ad (by first|omega|(simp;done)|(simp;omega)|(simp at *;omega)) (by first|omega|(simp;done)|(simp;omega)|(simp at *;omega)) ?_
   refine .q 2 hG ?_
   refine⟨k+1,.c2 rfl rfl (.c2 rfl rfl (.nil _)),rfl,?_,by omega⟩
   refine⟨by omega,fun j hj hjk => ?_⟩;rcases Nat.lt_or_ge j k with h|h;exact h2 j hj h;(obtain rfl:j=k:=by omega);simpa using hc16
 ·refine .q 3 hG ?_
  refine .p (.assign (.i j0) ?_)
  refine .q 2 hG ?_
  refine .e1 j0 j0 ?_
  rw [a5m fun j hj=>h2 j hj (by omega)]
theorem c7W (l:List D8)(k:Tag)(m:List UInt8):C4 gl prog 201 [.v l,.v k,.v m] (fun r=>r = .v (idx l (a3q k m))):=by
 refine C4.jn func201 (by kernel_rfl) 10 rfl fun C hC hG => ?_
 refine .q 3 hG fun b4 => ?_
 refine .q 1 hG fun b5 => ?_
 refine .q 3 hG ?_
 refine .U2 hC .z1 (.asP 4 j0 .z1 (.U2 hC .z (.asP 5 j0 .z ?_)))
 refine .q 2 hG ?_
 refine .p (.b6u hG (fun x=>c5x k m x) (.cons (.t j0) (.cons (.t j0) .nil)) (.p (.J7 hG (b6J _ _) (.cons (.t j0) (.cons (.t j0) .nil)) ?_)))
 refine .q 3 hG ?_
 refine .e1 j0 j0 ?_
 rfl
theorem b9R (l:List D8):C4 gl prog 138 [.v l] (fun r=>r = .vc l):=by
 refine C4.jn func138 (by kernel_rfl) 9 rfl fun C hC hG => ?_
 refine .q 11 hG ?_
 refine .p (.b6v a7d underlying43 (.t j0) (.t j0) (.t j0) ?_)
 refine .q 3 hG ?_
 refine .e1 j0 j0 ?_
 rfl
theorem b2Z (l:List y6):C4 gl prog 139 [.v l] (fun r=>r = .vc l):=by
 refine C4.jn func139 (by kernel_rfl) 9 rfl fun C hC hG => ?_
 refine .q 11 hG ?_
 refine .p (.b6v a7e underlying44 (.t j0) (.t j0) (.t j0) ?_)
 refine .q 3 hG ?_
 refine .e1 j0 j0 ?_
 rfl
def a8f (kind:UInt8)(n:Int)(k:Nat):List UInt8 := [115,121,109,98,111,108] ++ [kind]++W5 (UInt64.ofInt n) k
def Y9 (kind:UInt8)(n:Int):Tag:=a0J default (a8f kind n 8)
theorem b9S (k:Nat)(hk:k≤56)(q:Int)(m:Nat):(18446744073709551616*q+(m:Int))/((2^k:Nat):Int)=256*((2^(56 - k):Nat)*q)+((m/2^k:Nat):Int):=by
 have hp:((2^k:Nat):Int)≠0:=by have:=Nat.pow_pos (n:=k) (show 0 < 2 by decide);omega
 have h64:(18446744073709551616:Int)=((2^k:Nat):Int)*(256*(2^(56 - k):Nat)):=by
  have:(18446744073709551616:Nat)=2^k*(256*2^(56 - k)):=by
   rw [show(256:Nat)=2^8 by decide,←Nat.pow_add,←Nat.pow_add,show k+(8+(56 - k))=64 by omega]
  have h2:=congrArg (fun x:Nat=>(x:Int)) this
  simp only [Int.natCast_mul] at h2
  exact h2
 rw [h64,Int.mul_assoc,Int.mul_add_ediv_left _ _ hp,Int.mul_assoc]
 simp
theorem b6K (n:Int)(k:Nat)(hk:k≤56):UInt8.ofInt (n >>> k)=(UInt64.ofInt n >>> UInt64.ofNat k).toUInt8:=by
 apply UInt8.toNat_inj.1
 have e1:(UInt64.ofInt n).toNat=(n % 18446744073709551616).toNat:=by simp [UInt64.ofInt];omega
 have e2:(UInt64.ofNat k).toNat=k:=by simp;omega
 have e3:(UInt8.ofInt (n >>> k)).toNat=((n >>> k) % 256).toNat:=by
  generalize n >>> k=q
  simp [UInt8.ofInt];omega
 rw [e3,UInt64.toNat_toUInt8,UInt64.toNat_shiftRight,e1,e2,Nat.mod_eq_of_lt (show k < 64 by omega),Nat.shiftRight_eq_div_pow,Int.shiftRight_eq_div_pow]
 have h0:0≤n % 18446744073709551616:=Int.emod_nonneg _ (by decide)
 obtain⟨m,hm⟩:=Int.eq_ofNat_of_zero_le h0
 have hq:=Int.mul_ediv_add_emod n 18446744073709551616
 rw [hm] at hq ⊢
 have e4:=b9S k hk (n/18446744073709551616) m
 rw [hq] at e4
 rw [e4,Int.toNat_natCast]
 generalize (((2^(56 - k):Nat):Int)*(n/18446744073709551616))=z
 generalize m/2^k=y
 show((256*z+(y:Int)) % 256).toNat=y % 256
 omega
theorem c7X (free:Bool)(seed:Tag):C4 gl prog 37 [.v free,.v seed] (fun r=>r = .v (⟨free,seed,0,[],[]⟩:B8)):=by
 refine C4.jn func37 (by kernel_rfl) 8 rfl fun C hC hG => ?_
 refine .q 3 hG fun b3 => ?_
 refine .q 1 hG fun b4 => ?_
 refine .q 5 hG ?_
 refine .p (.bS2 B8.l0 B8.l1 j0 b1n c4j (fun c0 c1=>(⟨c0,c1,0,[],[]⟩:B8)) (fun _ _=>j0) j0 j0 j0 (.t j0) (.t j0) ?_)
 refine .q 3 hG ?_
 refine⟨_,.r1 j0 (.cell b1n j0 .z),?_⟩
 rfl
theorem a3r (kind:UInt8)(n:Int)(k:Nat):(a8f kind n k).length=7+k:=by simp [a8f,K8];omega
theorem b4C (m:List UInt8)(i:Nat)(h:i=m.length)(hi:i < 32)(c:UInt8)(h2:_):(⟨(a0J (default:Tag) m).l.set i c,h2⟩:Tag)=a0J default (m ++ [c]):=by
 subst h
 apply M4.ext
 show(m.take 32++(List.replicate 32 default).drop m.length).set m.length c=(m ++ [c]).take 32++(List.replicate 32 default).drop (m ++ [c]).length
 rw [List.take_of_length_le (by omega),List.take_of_length_le (by simp;omega),List.length_append,List.drop_replicate,List.drop_replicate,List.set_append_right _ _ (Nat.le_refl _),Nat.sub_self]
 obtain⟨q,hq⟩:∃ q,32 - m.length=q+1:=⟨31 - m.length,by omega⟩
 rw [hq,show 32 - (m.length + [c].length)=q by simp;omega,List.replicate_succ]
 simp
theorem b0t (kind:UInt8)(n:Int):C4 gl prog 140 [.v kind,.v n] (fun r=>r = .v (Y9 kind n)):=by
 refine C4.jn func140 (by kernel_rfl) 25 rfl fun C hC hG => ?_
 refine .q 3 hG fun b4 => ?_
 refine .q 4 hG fun b5 => ?_
 refine .q 3 hG ?_
 refine .p (.c14 a1s (.t j0) (.h (.c2g ty5 underlying34 (.t j0) .z (.str (.s [115,121,109,98,111,108] (by decide) (by decide))) (by first|omega|(simp;done)|(simp;omega)|(simp at *;omega)) ?_)))
 refine .q 4 hG ?_
 refine .p (.c43 a1s (.t j0) (.i j0) (by first|omega|(simp;done)|(simp;omega)|(simp at *;omega)) (by first|omega|(simp;done)|(simp;omega)|(simp at *;omega)) (.n (.stL ty5 (.t j0) (.t j0) .z ?_)))
 refine .q 7 hG ?_
 refine .a0Y (α:=Nat) [(1,_),(4,_),(5,_)] (fun k R=>(11,.v (k:Int))::R) (fun k => [(true,.ob (ptr b5 0) (a0J (default:Tag) (a8f kind n k))),(true,.ob (ptr b4 0) (default:Tag))]) (fun k=>k≤8) (fun k=>8 - k) (0) (.c2 j0 j0 (.cons j0 (.nil _))) ?_ (.c2 j0 j0 (.c2 j0 j0 (.nil _))) (congrArg (fun q => [(true,C3.ob _ q),_]) (M4.ext j0)) fun k hF => ?_
 ·simp
 refine .q 6 hG ⟨fun hc12 => ?_,fun hc12 => ?_⟩
 ·refine .q 10 hG ?_
  refine .ad (by first|omega|(simp;done)|(simp;omega)|(simp at *;omega)) (by first|omega|(simp;done)|(simp;omega)|(simp at *;omega)) ?_
  refine .q 2 hG ?_
  refine .p (.mul (.i j0) (.t j0) (by first|omega|(simp;done)|(simp;omega)|(simp at *;omega)) (by first|omega|(simp;done)|(simp;omega)|(simp at *;omega)) ?_)
  refine .sb (by first|omega|(simp;done)|(simp;omega)|(simp at *;omega)) (by first|omega|(simp;done)|(simp;omega)|(simp at *;omega)) (.p (.c7s (.t j0) (.t j0) (by first|omega|(simp;done)|(simp;omega)|(simp at *;omega)) (by first|omega|(simp;done)|(simp;omega)|(simp at *;omega)) ?_))
  refine .q 1 hG ?_
  refine .p (.c43 a1s (.t j0) (.t j0) (by first|omega|(simp;done)|(simp;omega)|(simp at *;omega)) (by first|omega|(simp;done)|(simp;omega)|(simp at *;omega)) (.n (.stL ty5 (.t j0) (.t j0) .z ?_)))
  refine .q 2 hG ?_
  refine .ad (by first|omega|(simp;done)|(simp;omega)|(simp at *;omega)) (by first|omega|(simp;done)|(simp;omega)|(simp at *;omega)) ?_
  refine .q 2 hG ?_
  refine⟨k+1,.c2 rfl rfl (.c2 rfl rfl (.nil _)),congrArg (fun q => [(true,C3.ob _ q),_]) (by rw [show a8f kind n (k+1)=a8f kind n k ++ [UInt8.ofInt (n >>> (56 - 8*(k:Int)).toNat)] by rw [b6K _ _ (by omega),show(56 - 8*(k:Int)).toNat=56 - 8*k by omega,a8f,a8f,a1U,List.append_assoc,List.append_assoc,List.append_assoc]];exact b4C _ _ (by rw [a3r];omega) (by omega) _ _),?_,by omega⟩
  omega
 ·refine .q 7 hG ?_
  refine⟨_,.r1 j0 (.cell U0 j0 .z1),?_⟩
  obtain rfl:k=8:=by omega
  rfl
abbrev F1:=B8
def a5n:Str:=⟨[102,114,101,115,104]⟩
def K2 (a:F1):F1×Tag×Int :=
 if 65536≤a.K9 then (default,default,2) else
 (⟨a.P7,a.a2L,a.K9+1,a.G4,a.B7⟩,(if a.P7 then Y9 107 (a.K9+1) else (derive a.a2L a5n (a.K9+1)).1),0)
def a2M (a:F1)(k:Tag)(m:List UInt8):Option D8:=a.G4.find? (a3q k m)
def b4D (a:F1)(k:Tag)(m:List UInt8):Tag×Bool:=match a2M a k m with|some x=>(x.Tag,true)|none=>(default,false)
def a3H (a:F1)(k:Tag)(m:List UInt8):Tag:=if a.P7 then Y9 109 (a.G4.length+1) else a3h k.l m
def P3 (a:F1)(k:Tag)(m:List UInt8):F1×Tag×Int :=
 if 4096 < m.length then (default,default,2) else
 match a2M a k m with
 | some x=>(a,x.Tag,0)
 | none=>if 65536≤a.G4.length then (default,default,2) else
  (⟨a.P7,a.a2L,a.K9,a.G4 ++ [⟨k,m,a3H a k m⟩],a.B7⟩,a3H a k m,0)
def a4s (a:F1)(k:Tag)(m:List UInt8):Tag×Bool :=
 if a.P7 then b4D a k m else if 4096 < m.length then (default,false) else (a3h k.l m,true)
theorem b4E {a:F1}{k:Tag}{m:List UInt8}(h:4096 < m.length):P3 a k m=(default,default,2):=by unfold P3;rw [if_pos h]
theorem b4F {a:F1}{k:Tag}{m:List UInt8}(h:¬4096 < m.length)(he:a2M a k m=none)(hl:65536≤a.G4.length):P3 a k m=(default,default,2):=by
 unfold P3;rw [if_neg h,he];simp only [];rw [if_pos hl]
theorem a4t {a:F1}{k:Tag}{m:List UInt8}(h:¬4096 < m.length)(he:a2M a k m=none)(hl:¬65536≤a.G4.length) :
    P3 a k m=(⟨a.P7,a.a2L,a.K9,a.G4 ++ [⟨k,m,a3H a k m⟩],a.B7⟩,a3H a k m,0):=by
  unfold P3;rw [if_neg h,he];simp only [];rw [if_neg hl]
theorem b4G {a:F1}{k:Tag}{m:List UInt8}(h:a.P7=true):a3H a k m=Y9 109 (a.G4.length+1):=by unfold a3H;rw [if_pos h]
theorem b4H {a:F1}{k:Tag}{m:List UInt8}(h:a.P7=false):a3H a k m=a3h k.l m:=by unfold a3H;rw [if_neg (by rw [h];decide)]
def b1P:Str:=⟨[115,116,114,101,97,109]⟩
def b4I (key:Tag)(nonce:UInt64)(q:Nat):Tag:=a3h key.l (b1P.l++(W5 nonce 8++W5 (UInt64.ofNat q) 8))
def a3b (key:Tag)(nonce:UInt64)(i:Nat):UInt8:=(b4I key nonce (i/32)).l.getD (i % 32) 0
def a1C (key:Tag)(nonce:UInt64)(b:List UInt8)(k:Nat):List UInt8:=(b.take k).mapIdx (fun i c=>c ^^^ a3b key nonce i)++b.drop k
theorem a3c (key:Tag)(nonce:UInt64)(b:List UInt8)(k:Nat):(a1C key nonce b k).length=b.length:=by simp [a1C];omega
theorem a8K (key:Tag)(nonce:UInt64)(b:List UInt8):a1C key nonce b b.length=b.mapIdx (fun i c=>c ^^^ a3b key nonce i):=by simp [a1C]
def a5o:Str:=⟨[98,111,120]⟩
def Z0 (k:Tag)(n:Int)(p:List UInt8)(x:y6):Bool:=decide (x.Key=k)&&decide (x.a6a=n)&&decide (x.Plain=p)
def a0d (k:Tag)(n:Int)(p:List UInt8):List UInt8:=W5 (UInt64.ofInt n) 8++a1C k (UInt64.ofInt n) p p.length
def M5 (k:Tag)(n:Int)(p:List UInt8):List UInt8:=a0d k n p++(a3h k.l (a5o.l++a0d k n p)).l
def a8g (a:F1)(k:Tag)(n:Int)(p:List UInt8):List UInt8:=if a.P7 then (Y9 98 (a.B7.length+1)).l++List.replicate (p.length+8) 0 else M5 k n p
def Z9 (a:F1)(k:Tag)(n:Int)(p:List UInt8):F1×List UInt8×Int :=
 if n < 0∨281474976710656 < n then (default,[],1) else if 256 < p.length then (default,[],2) else
 match a.B7.find? (Z0 k n p) with
 | some x=>(a,x.O8,0)
 | none=>if 65536≤a.B7.length then (default,[],2) else
  (⟨a.P7,a.a2L,a.K9,a.G4,a.B7 ++ [⟨k,n,p,a8g a k n p⟩]⟩,a8g a k n p,0)
theorem a3I {a:F1}{k:Tag}{n:Int}{p:List UInt8}{x:y6}(h:(decide (n < 0)||decide (281474976710656 < n))=false)(h2:¬256 < p.length)(h3:a.B7.find? (Z0 k n p)=some x):Z9 a k n p=(a,x.O8,0):=by
 unfold Z9;rw [if_neg (by simp at h ⊢;omega),if_neg h2,h3]
theorem a5p {a:F1}{k:Tag}{n:Int}{p:List UInt8}(h:(decide (n < 0)||decide (281474976710656 < n))=false)(h2:¬256 < p.length)(h3:a.B7.find? (Z0 k n p)=none)(h4:¬65536≤a.B7.length) :
    Z9 a k n p=(⟨a.P7,a.a2L,a.K9,a.G4,a.B7 ++ [⟨k,n,p,a8g a k n p⟩]⟩,a8g a k n p,0):=by
  unfold Z9;rw [if_neg (by simp at h ⊢;omega),if_neg h2,h3];simp only [];rw [if_neg h4]
theorem b6L {l:List y6}{p:y6→Bool}{k:Nat}(h:k < l.length)(h1:p l[k]=true)(h2:∀ j (hj:j < l.length),j < k→p l[j]=false):l.find? p=some l[k] :=
 List.find?_eq_some_iff_getElem.2 ⟨h1,k,h,rfl,fun j hj=>by rw [h2 j (by omega) hj];rfl⟩
theorem b6M {l:List y6}{p:y6→Bool}(h:∀ j (hj:j < l.length),p l[j]=false):l.find? p=none :=
 List.find?_eq_none.2 fun x hx=>by
  obtain⟨j,hj,rfl⟩:=List.getElem_of_mem hx
  rw [h j hj];decide
end Go.Proofs.YtfdifhfnpbphaaaGreatDoor
