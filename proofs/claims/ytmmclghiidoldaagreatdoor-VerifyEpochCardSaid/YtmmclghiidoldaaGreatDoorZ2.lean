/- Plain Lean over any program, and walks of this seat's functions: contracts, each proved once (part 2). -/
import Derived.Test.YtmmclghiidoldaaGreatDoorZ1
import Derived.Laws.BytesArg
set_option maxRecDepth 1000000
set_option linter.unusedVariables false
set_option linter.unusedSimpArgs false
namespace Go.Ab
open Go.Fl Go.RowKit
open p9 (rep)
variable {P:Program} {C:Ctx} {N:Nat} {σ:y2} {H:j9} {K:AV→Prop} {KH:AV→j9→Prop} {d:Option Nat} {ty:TypeId} {ps:String} {af:Array Edge} {g:Option (Nat×Bool)}
variable {x y z:Operand} {T T2 E S D U:TypeId} {o:Oper}
theorem A6.ofP (h:j6 P N C o σ H (fun r=>KH r H)):A6 P C N o σ H KH:=fun ρ I L hs =>
 OpS.ofX (OpX.a2x (h ρ I L hs) fun v J X hle ⟨hX,r,h1,h2⟩=>by subst hX;exact⟨hle,r,H,h1,hs.heap.mono hle,h2⟩)
theorem A6.y0 (hC:Ctx.Ok C) {E:TypeId} {α:Type} {r:p9 α} {w:Value} {l:List α} {F:Bool×E9→j9} (h:y3 H (true,.own E w l) F) (k:A6 P C N o σ (F (true,.fz w (.v l))) KH):A6 P C N o σ H KH:=fun ρ I L hs a w0 ha hst=>by
 obtain⟨i,X,h1,h2,h3⟩:=h.get hs.heap
 have hst2:=hst.freeze h1 (a5G hC h2)
 have hle:Le I (I.with X):=Im.a1I (fun p hp=>hst.mem.sep p (D2 h1 hp))
 have hp:∀ p∈X,I.with X p.1=some p.2:=fun p hp=>Im.a1P (a0J hst.mem.nodup h1) hp
 refine Yld.mono (k ρ _ _ ⟨(hs.mono hle).env,h3 _ _ [] hle ⟨⟨rfl,W0 h2.1 hle hp⟩,by simp⟩,hs.V5.trans hle⟩ a w0 ha hst2) ?_
 rintro v w' ⟨J,L',q1,q2,q3⟩
 exact⟨J,L',q1,hle.trans q2,q3⟩
theorem A6.as (t:Nat) {w:Value} {a:AV} {b:Bool} {F:Bool×E9→j9} (ht:G4 σ t=some (.raw w)) (h:y3 H (b,.fz w a) F) (k:A6 P C N o ((t,a)::σ) H KH):A6 P C N o σ H KH :=
 fun ρ I L hs=>k ρ I L (hs.as t ht h)
theorem j6.G7 {α : Type} {r : p9 α} {i0 : Inhabited α} {n : Nat} {l : List α} {parts : Array (Nat × Operand)} (tE : H9 P E α) (hT : P.underlying T = some (.slice E)) (hp : a8u C σ H 0 parts.toList l) (hn : l.length = n) (hb : n * p9.size α ≤ 16777216) (k : K (.vc l)) :
    j6 P N C ⟨d,.buildSlice T n parts,ty,ps,af,g⟩ σ H K:=fun ρ I L hs=>by
  obtain⟨zs,hz1,hz2⟩:=tE.zero
  obtain⟨pv,vs,h1,h2,h3⟩:=hp.run hs
  subst hn
  have hl:=h3.len
  refine OpX.frz (.buildSlice hT tE.size hz1 (p9.len (hz2 I)) h1 h2 hl hb fun b J' hle hpp=>⟨rfl,.vc l,⟨⟨_,rfl⟩,vs,?_,h3.mono hle⟩,k⟩)
  refine(Own.made (e:=E) hl ?_).sl (fun p hp=>hpp p (by simpa using hp))
  have:1≤p9.size α:=Nat.one_le_iff_ne_zero.2 tE.pos
  have:=Nat.mul_le_mul_left l.length this
  unfold maxLen;omega
theorem F8.drop {ops:Array Oper} {Q:Exit→y2→j9→Prop} {os:List Oper} {B:Bool×E9} (k:F8 P C N ops Q os σ H):F8 P C N ops Q os σ (B::H):=fun ρ I L hs=>by
 obtain⟨X,R,rfl,h1,h2⟩:=hs.heap
 exact wpL.forget (X := [X]) (k ρ I R ⟨hs.env,h2,hs.V5⟩)
theorem L9.drop {Q:Exit→y2→j9→Prop} {c:Code} {B:Bool×E9} (k:L9 P C N c Q σ H):L9 P C N c Q σ (B::H):=fun ρ I L hs=>by
 obtain⟨X,R,rfl,h1,h2⟩:=hs.heap
 exact wpS.forget (X := [X]) (k ρ I R ⟨hs.env,h2,hs.V5⟩)
theorem j6.D9 {α β:Type} {r:p9 α} {s:p9 β} {w:Value} {l:m5 α β} (hx:F1 C σ H x (.ln w l)) (k:K (.ln w l)):j6 P N C ⟨d,.nilCheck x,ty,ps,af,g⟩ σ H K :=
 .vk k (fun ρ I L hs=>by
  obtain⟨u,h2,b,h3,rfl⟩:=hx ρ I L hs
  exact .mk ⟨b,h3,rfl⟩ fun a w ha hm=>by simp [execOp,ha.ev h2])
section c15
variable {s:Str} {i j:Int} (hT:P.underlying T=some .string) (hx:F1 C σ H x (.v s))
include hT hx
end c15
def AV.a7N (c:Bool) (a:AV):AV := .pr (fun I u=>(c=true→H4 I a u)∧(c=false→u=undef)) (fun hle h=>⟨fun e=>(h.1 e).mono hle,h.2⟩)
theorem F1.ou {t:Nat} {a:AV} {c:Bool} (h:G4 σ t=some (.a7N c a)) (hc:c=true):F1 C σ H (.tmp t) a:=fun ρ I L hs=>by
 obtain⟨u,h1,h2⟩:=hs.env t _ h
 exact⟨u,h1,h2.1 hc⟩
section nested
variable {P:Program} {C:Ctx} {N:Nat} {ops:Array Oper} {Q:Exit→y2→j9→Prop} {rest:List Oper} {σ:y2} {H:j9}
theorem F8.goU {d : Nat} {op : Op} {ty : TypeId} {ps : String} {af : Array Edge} {j : Nat} {want : Bool} (dj : Nat) (hj : (ops[j]?).bind (·.dst) = some dj) {b : Bool} (hb : F1 C σ H (.tmp dj) (.v b)) {r : AV}
    (h:b=want→j6 P N C ⟨some d,op,ty,ps,af,none⟩ σ H (fun r'=>r'=r)) (k:F8 P C N ops Q rest ((d,.a7N (b == want) r)::σ) H) :
    F8 P C N ops Q (⟨some d,op,ty,ps,af,some (j,want)⟩::rest) σ H:=fun ρ I L hs=>by
  have hbv:=hb.bool hs
  by_cases e:b=want
  · refine .gt dj hj (by rw [←e];exact hbv) (OpS.ofX (OpX.a2x (h e ρ I L hs) fun v J X hle ⟨hX,r',hr,hk⟩ => ?_))
    subst hX;subst hk
    exact k _ _ _ (hs.put hle (r := .a7N (b == want) r') ⟨fun _=>hr,fun hc=>absurd e (by simpa using hc)⟩ (hs.heap.mono hle))
  · have e':b = !want:=by cases b<;>cases want<;>simp_all
    exact .gf dj hj (by rw [←e'];exact hbv) (k _ _ _ (hs.put (Le.refl I) (r := .a7N (b == want) r) ⟨fun hc=>absurd (by simpa using hc) e,fun _=>a8⟩ hs.heap))
theorem c03 {ρ : Env} {I : Im} {L : Lh} {Q : Exit → Env → Im → Lh → Prop} {d : Nat} {op : Op} {ty : TypeId} {ps : String} {af : Array Edge} {j : Nat} {want : Bool} (dj : Nat) (hj : (ops[j]?).bind (·.dst) = some dj) (hb : Fl.look ρ dj = some undef)
    (h:wpL P C N ops Q rest ((d,undef)::ρ) I L):wpL P C N ops Q (⟨some d,op,ty,ps,af,some (j,want)⟩::rest) ρ I L:=fun hd a w ha hs=>by
  obtain⟨hlt,hd'⟩:=a71 hd
  refine wpListIn_step fun K hK => ?_
  have hy:yielded ops a.tmps j=none:=by unfold yielded;rw [hj];simp only [Option.bind_some,ha.tmp dj _ hb];rfl
  rw [if_neg (by simp [Region.wanted,hy])]
  exact⟨fun _ _=>trivial,hK _ _ (h hd' _ _ (ha.put hlt undef) hs)⟩
theorem F8.gn {d : Nat} {op : Op} {ty : TypeId} {ps : String} {af : Array Edge} {j : Nat} {want : Bool} (dj : Nat) (hj : (ops[j]?).bind (·.dst) = some dj) {b c : Bool} (hb : G4 σ dj = some (.a7N c (.v b))) {r : AV}
    (h:c=true→b=want→j6 P N C ⟨some d,op,ty,ps,af,none⟩ σ H (fun r'=>r'=r)) (k:F8 P C N ops Q rest ((d,.a7N (c&&(b == want)) r)::σ) H) :
    F8 P C N ops Q (⟨some d,op,ty,ps,af,some (j,want)⟩::rest) σ H:=fun ρ I L hs=>by
  obtain⟨u,hu1,hu2,hu3⟩:=hs.env dj _ hb
  cases c with
  | false =>
    obtain rfl:=hu3 rfl
    exact c03 dj hj hu1 (k _ _ _ (hs.put (Le.refl I) (r := .a7N (false&&(b == want)) r) ⟨fun hc=>by simp at hc,fun _=>rfl⟩ hs.heap))
  | true =>
    have hbv:Fl.look ρ dj=some (.bool b):=by
      obtain⟨cs,rfl,rfl⟩:=hu2 rfl
      exact hu1
    by_cases e:b=want
    · refine .gt dj hj (by rw [←e];exact hbv) (OpS.ofX (OpX.a2x (h a8 e ρ I L hs) fun v J X hle ⟨hX,r',hr,hk⟩ => ?_))
      subst hX;subst hk
      exact k _ _ _ (hs.put hle (r := .a7N (true&&(b == want)) r') ⟨fun _=>hr,fun hc=>absurd e (by simpa using hc)⟩ (hs.heap.mono hle))
    · have e':b = !want:=by cases b<;>cases want<;>simp_all
      exact .gf dj hj (by rw [←e'];exact hbv) (k _ _ _ (hs.put (Le.refl I) (r := .a7N (true&&(b == want)) r) ⟨fun hc=>absurd (by simpa using hc) e,fun _=>a8⟩ hs.heap))
end nested
end Go.Ab
namespace Go.Ab
open Go.Fl Go.RowKit
open p9 (rep)
variable {P:Program} {C:Ctx} {N:Nat} {σ:y2} {H:j9} {K:AV→Prop} {KH:AV→j9→Prop} {d:Option Nat} {ty:TypeId} {ps:String} {af:Array Edge} {g:Option (Nat×Bool)}
variable {x y z:Operand} {T T2 E S D U:TypeId} {o:Oper}
theorem j6.bS1 {α γ1 : Type} {r : p9 α} {i0 : Inhabited α} {q1 : p9 γ1} {offs : List (Nat × Nat)} {parts : Array (Nat × Operand)} {i1 : Nat} {o1 : Operand} {c1 : γ1} (m1 : m5 α γ1) (hg : p9.agg α = true) (tT : H9 P T α) (hT : D5 P T = some offs) (mk : γ1 → α) (hm : ∀ c1, (m1.set c1 (default : α)) = mk c1) (hp : parts.toList = [(i1, o1)]) (h1 : offs[i1]? = some (m1.off, p9.size γ1)) (e1 : F1 C σ H o1 (.v c1)) (k : K (.v (mk c1))) :
    j6 P N C ⟨d,.build T parts,ty,ps,af,g⟩ σ H K :=
  .a4o (mk c1) hg tT hT (by rw [hp];exact(.cons m1 c1 h1 e1 .nil)) (hm c1) k
theorem j6.bS2 {α γ1 γ2 : Type} {r : p9 α} {i0 : Inhabited α} {q1 : p9 γ1} {q2 : p9 γ2} {offs : List (Nat × Nat)} {parts : Array (Nat × Operand)} {i1 : Nat} {o1 : Operand} {i2 : Nat} {o2 : Operand} {c1 : γ1} {c2 : γ2} (m1 : m5 α γ1) (m2 : m5 α γ2) (hg : p9.agg α = true) (tT : H9 P T α) (hT : D5 P T = some offs) (mk : γ1 → γ2 → α) (hm : ∀ c1 c2, (m2.set c2 (m1.set c1 (default : α))) = mk c1 c2) (hp : parts.toList = [(i1, o1), (i2, o2)]) (h1 : offs[i1]? = some (m1.off, p9.size γ1)) (h2 : offs[i2]? = some (m2.off, p9.size γ2)) (e1 : F1 C σ H o1 (.v c1)) (e2 : F1 C σ H o2 (.v c2)) (k : K (.v (mk c1 c2))) :
    j6 P N C ⟨d,.build T parts,ty,ps,af,g⟩ σ H K :=
  .a4o (mk c1 c2) hg tT hT (by rw [hp];exact(.cons m1 c1 h1 e1 (.cons m2 c2 h2 e2 .nil))) (hm c1 c2) k
theorem j6.bS3 {α γ1 γ2 γ3 : Type} {r : p9 α} {i0 : Inhabited α} {q1 : p9 γ1} {q2 : p9 γ2} {q3 : p9 γ3} {offs : List (Nat × Nat)} {parts : Array (Nat × Operand)} {i1 : Nat} {o1 : Operand} {i2 : Nat} {o2 : Operand} {i3 : Nat} {o3 : Operand} {c1 : γ1} {c2 : γ2} {c3 : γ3} (m1 : m5 α γ1) (m2 : m5 α γ2) (m3 : m5 α γ3) (hg : p9.agg α = true) (tT : H9 P T α) (hT : D5 P T = some offs) (mk : γ1 → γ2 → γ3 → α) (hm : ∀ c1 c2 c3, (m3.set c3 (m2.set c2 (m1.set c1 (default : α)))) = mk c1 c2 c3) (hp : parts.toList = [(i1, o1), (i2, o2), (i3, o3)]) (h1 : offs[i1]? = some (m1.off, p9.size γ1)) (h2 : offs[i2]? = some (m2.off, p9.size γ2)) (h3 : offs[i3]? = some (m3.off, p9.size γ3)) (e1 : F1 C σ H o1 (.v c1)) (e2 : F1 C σ H o2 (.v c2)) (e3 : F1 C σ H o3 (.v c3)) (k : K (.v (mk c1 c2 c3))) :
    j6 P N C ⟨d,.build T parts,ty,ps,af,g⟩ σ H K :=
  .a4o (mk c1 c2 c3) hg tT hT (by rw [hp];exact(.cons m1 c1 h1 e1 (.cons m2 c2 h2 e2 (.cons m3 c3 h3 e3 .nil)))) (hm c1 c2 c3) k
theorem j6.bS4 {α γ1 γ2 γ3 γ4 : Type} {r : p9 α} {i0 : Inhabited α} {q1 : p9 γ1} {q2 : p9 γ2} {q3 : p9 γ3} {q4 : p9 γ4} {offs : List (Nat × Nat)} {parts : Array (Nat × Operand)} {i1 : Nat} {o1 : Operand} {i2 : Nat} {o2 : Operand} {i3 : Nat} {o3 : Operand} {i4 : Nat} {o4 : Operand} {c1 : γ1} {c2 : γ2} {c3 : γ3} {c4 : γ4} (m1 : m5 α γ1) (m2 : m5 α γ2) (m3 : m5 α γ3) (m4 : m5 α γ4) (hg : p9.agg α = true) (tT : H9 P T α) (hT : D5 P T = some offs) (mk : γ1 → γ2 → γ3 → γ4 → α) (hm : ∀ c1 c2 c3 c4, (m4.set c4 (m3.set c3 (m2.set c2 (m1.set c1 (default : α))))) = mk c1 c2 c3 c4) (hp : parts.toList = [(i1, o1), (i2, o2), (i3, o3), (i4, o4)]) (h1 : offs[i1]? = some (m1.off, p9.size γ1)) (h2 : offs[i2]? = some (m2.off, p9.size γ2)) (h3 : offs[i3]? = some (m3.off, p9.size γ3)) (h4 : offs[i4]? = some (m4.off, p9.size γ4)) (e1 : F1 C σ H o1 (.v c1)) (e2 : F1 C σ H o2 (.v c2)) (e3 : F1 C σ H o3 (.v c3)) (e4 : F1 C σ H o4 (.v c4)) (k : K (.v (mk c1 c2 c3 c4))) :
    j6 P N C ⟨d,.build T parts,ty,ps,af,g⟩ σ H K :=
  .a4o (mk c1 c2 c3 c4) hg tT hT (by rw [hp];exact(.cons m1 c1 h1 e1 (.cons m2 c2 h2 e2 (.cons m3 c3 h3 e3 (.cons m4 c4 h4 e4 .nil))))) (hm c1 c2 c3 c4) k
theorem j6.bS0 {α:Type} {r:p9 α} {i0:Inhabited α} {offs:List (Nat×Nat)} (hg:p9.agg α=true) (tT:H9 P T α) (hT:D5 P T=some offs) (k:K (.v (default:α))):j6 P N C ⟨d,.build T #[],ty,ps,af,g⟩ σ H K := .a4o default hg tT hT .nil rfl k
theorem j6.x4 {β γ : Type} {s : p9 β} {q : p9 γ} {i off sz : Nat} {ag : Bool} {w : Value} (m : m5 β γ) (hf : u6 P T i = some (off, sz + 1, ag)) (ho : off = m.off) (hx : F1 C σ H x (.ln w (m5.id (α := β)))) (k : K (.ln w m)) :
    j6 P N C ⟨d,.fieldAddr T x i,ty,ps,af,g⟩ σ H K :=
  .vk k (fun ρ I L hs=>by
    obtain⟨u,h2,b,h3,rfl⟩:=hx ρ I L hs
    subst ho
    exact .fieldAddr hf h2 ⟨b,h3,by simp [m5.id]⟩)
theorem j6.c04 {β : Type} {s : p9 β} {n : Nat} {ag : Bool} {w : Value} {i : Int} (hf : O3 P T = some (n, p9.size β, ag)) (hx : F1 C σ H x (.ln w (m5.id (α := J7 n β)))) (hy : F1 C σ H y (.v i)) (h0 : 0 ≤ i) (h1 : i < n)
    (k:K (.ln w (m5.idx (α:=β) (n:=n) i.toNat (by omega)))):j6 P N C ⟨d,.indexAddr T x y,ty,ps,af,g⟩ σ H K :=
  .vk k (fun ρ I L hs=>by
    obtain⟨u,h2,b,h3,rfl⟩:=hx ρ I L hs
    exact .x5 hf h2 (hy.int hs).1 h0 h1 ⟨b,h3,by simp [m5.id,m5.idx]⟩)
theorem j6.K0 {α β : Type} {r : p9 α} {s : p9 β} {i : Inhabited β} {w : Value} {l : m5 α β} {a : α} {bb : Bool} {F : Bool × E9 → j9} (f : α → β) (tT : H9 P T β) (hx : F1 C σ H x (.ln w l)) (hH : y3 H (bb, .ob w a) F) (hf : ∀ x, l.get x = f x) (k : K (.v (f a))) :
    j6 P N C ⟨d,.load T x,ty,ps,af,g⟩ σ H K := .ldL tT hx hH (hf a▸k)
theorem A6.U0 {α β : Type} {r : p9 α} {s : p9 β} {i : Inhabited β} {w : Value} {l : m5 α β} {a : α} {c : β} {bb : Bool} {F : Bool × E9 → j9} (f : β → α → α) (tT : H9 P T β) (hx : F1 C σ H x (.ln w l)) (hy : F1 C σ H y (.v c)) (hH : y3 H (bb, .ob w a) F) (hf : ∀ y x, l.set y x = f y x)
    (k:KH .any (F (bb,.ob w (f c a)))):A6 P C N ⟨d,.store T x y,ty,ps,af,g⟩ σ H KH := .stL tT hx hy hH (hf c a▸k)
theorem j6.b7j {α : Type} {r : p9 α} {i : Inhabited α} {w : Value} {ags : List α} {kk : Nat} {bb : Bool} {E' : TypeId} {F : Bool × E9 → j9} (tT : H9 P T α) (hx : F1 C σ H x (.el w kk (m5.id (α := α)))) (hH : y3 H (bb, .own E' w ags) F) (hk : kk < ags.length)
    (k:K (.v ags[kk])):j6 P N C ⟨d,.load T x,ty,ps,af,g⟩ σ H K := .ldE tT hx hH hk k
theorem A6.b5B {α : Type} {r : p9 α} {i : Inhabited α} {w : Value} {ags : List α} {c : α} {kk : Nat} {bb : Bool} {E' : TypeId} {F : Bool × E9 → j9} (tT : H9 P T α) (hx : F1 C σ H x (.el w kk (m5.id (α := α)))) (hy : F1 C σ H y (.v c))
    (hH:y3 H (bb,.own E' w ags) F) (hk:kk < ags.length) (k:KH .any (F (bb,.own E' w (ags.set kk c)))):A6 P C N ⟨d,.store T x y,ty,ps,af,g⟩ σ H KH := .stE tT hx hy hH hk k
theorem j6.m0 {β γ : Type} {s : p9 β} {q : p9 γ} {i off sz : Nat} {ag : Bool} {a : β} (m : m5 β γ) (f : β → γ) (hf : u6 P T i = some (off, sz + 1, ag)) (ho : off = m.off) (hm : ∀ x, m.get x = f x) (hx : F1 C σ H x (.p a)) (k : K (.p (f a))) :
    j6 P N C ⟨d,.fieldAddr T x i,ty,ps,af,g⟩ σ H K := .c27 m hf ho hx (hm a▸k)
end Go.Ab
namespace Go.Mac
open Go.Ab
structure p7 where
 Gate:Int
 E3:Int
def p7.f (x:p7):Int×Int×Unit:=(x.Gate,x.E3,())
instance:Inhabited p7:=⟨⟨default,default⟩⟩
instance:DecidableEq p7:=fun a b=>decidable_of_iff (a.Gate=b.Gate∧a.E3=b.E3) (by cases a;cases b;simp)
instance:p9 p7:=p9.via p7.f
instance:J6 p7:=J6.via p7.f rfl
def p7.l0:m5 p7 Int:=m5.via p7.f m5.fst (fun x=>x.Gate) (fun y x => { x with Gate:=y }) (fun _=>rfl) (fun _ _=>rfl)
def p7.l1:m5 p7 Int:=m5.via p7.f (m5.snd.comp m5.fst) (fun x=>x.E3) (fun y x => { x with E3:=y }) (fun _=>rfl) (fun _ _=>rfl)
structure j3 where
 Kind:Int
 Mask:UInt64
 J8:Int
 To:Int
 Name:Str
 Number:Int
def j3.f (x:j3):Int×UInt64×Int×Int×Str×Int×Unit:=(x.Kind,x.Mask,x.J8,x.To,x.Name,x.Number,())
instance:Inhabited j3:=⟨⟨default,default,default,default,default,default⟩⟩
instance:DecidableEq j3:=fun a b=>decidable_of_iff (a.Kind=b.Kind∧a.Mask=b.Mask∧a.J8=b.J8∧a.To=b.To∧a.Name=b.Name∧a.Number=b.Number) (by cases a;cases b;simp)
instance:p9 j3:=p9.via j3.f
instance:J6 j3:=J6.via j3.f rfl
def j3.l0:m5 j3 Int:=m5.via j3.f m5.fst (fun x=>x.Kind) (fun y x => { x with Kind:=y }) (fun _=>rfl) (fun _ _=>rfl)
def j3.l1:m5 j3 UInt64:=m5.via j3.f (m5.snd.comp m5.fst) (fun x=>x.Mask) (fun y x => { x with Mask:=y }) (fun _=>rfl) (fun _ _=>rfl)
def j3.l2:m5 j3 Int:=m5.via j3.f (m5.snd.comp (m5.snd.comp m5.fst)) (fun x=>x.J8) (fun y x => { x with J8:=y }) (fun _=>rfl) (fun _ _=>rfl)
def j3.l3:m5 j3 Int:=m5.via j3.f (m5.snd.comp (m5.snd.comp (m5.snd.comp m5.fst))) (fun x=>x.To) (fun y x => { x with To:=y }) (fun _=>rfl) (fun _ _=>rfl)
def j3.l4:m5 j3 Str:=m5.via j3.f (m5.snd.comp (m5.snd.comp (m5.snd.comp (m5.snd.comp m5.fst)))) (fun x=>x.Name) (fun y x => { x with Name:=y }) (fun _=>rfl) (fun _ _=>rfl)
def j3.l5:m5 j3 Int:=m5.via j3.f (m5.snd.comp (m5.snd.comp (m5.snd.comp (m5.snd.comp (m5.snd.comp m5.fst))))) (fun x=>x.Number) (fun y x => { x with Number:=y }) (fun _=>rfl) (fun _ _=>rfl)
structure m7 where
 M1:Bool
 a1m:j3
 E8:Int
 j8:(List UInt8)
 X3:(List UInt8)
def m7.f (x:m7):Bool×j3×Int×(List UInt8)×(List UInt8)×Unit:=(x.M1,x.a1m,x.E8,x.j8,x.X3,())
instance:Inhabited m7:=⟨⟨default,default,default,default,default⟩⟩
instance:p9 m7:=p9.via m7.f
instance:J6 m7:=J6.via m7.f rfl
def m7.l0:m5 m7 Bool:=m5.via m7.f m5.fst (fun x=>x.M1) (fun y x => { x with M1:=y }) (fun _=>rfl) (fun _ _=>rfl)
def m7.l1:m5 m7 j3:=m5.via m7.f (m5.snd.comp m5.fst) (fun x=>x.a1m) (fun y x => { x with a1m:=y }) (fun _=>rfl) (fun _ _=>rfl)
def m7.l2:m5 m7 Int:=m5.via m7.f (m5.snd.comp (m5.snd.comp m5.fst)) (fun x=>x.E8) (fun y x => { x with E8:=y }) (fun _=>rfl) (fun _ _=>rfl)
def m7.l3:m5 m7 (List UInt8):=m5.via m7.f (m5.snd.comp (m5.snd.comp (m5.snd.comp m5.fst))) (fun x=>x.j8) (fun y x => { x with j8:=y }) (fun _=>rfl) (fun _ _=>rfl)
def m7.l4:m5 m7 (List UInt8):=m5.via m7.f (m5.snd.comp (m5.snd.comp (m5.snd.comp (m5.snd.comp m5.fst)))) (fun x=>x.X3) (fun y x => { x with X3:=y }) (fun _=>rfl) (fun _ _=>rfl)
structure p5 where
 j8:(List UInt8)
 l8:(List j3)
 Proof:(J7 32 UInt8)
def p5.f (x:p5):(List UInt8)×(List j3)×(J7 32 UInt8)×Unit:=(x.j8,x.l8,x.Proof,())
instance:Inhabited p5:=⟨⟨default,default,default⟩⟩
instance:p9 p5:=p9.via p5.f
instance:J6 p5:=J6.via p5.f rfl
def p5.l0:m5 p5 (List UInt8):=m5.via p5.f m5.fst (fun x=>x.j8) (fun y x => { x with j8:=y }) (fun _=>rfl) (fun _ _=>rfl)
def p5.l1:m5 p5 (List j3):=m5.via p5.f (m5.snd.comp m5.fst) (fun x=>x.l8) (fun y x => { x with l8:=y }) (fun _=>rfl) (fun _ _=>rfl)
def p5.l2:m5 p5 (J7 32 UInt8):=m5.via p5.f (m5.snd.comp (m5.snd.comp m5.fst)) (fun x=>x.Proof) (fun y x => { x with Proof:=y }) (fun _=>rfl) (fun _ _=>rfl)
structure m6 where
 Request:p7
 C9:Int
 y7:Int
 l9:(List m7)
 Proof:(J7 32 UInt8)
 j4:(List p5)
def m6.f (x:m6):p7×Int×Int×(List m7)×(J7 32 UInt8)×(List p5)×Unit:=(x.Request,x.C9,x.y7,x.l9,x.Proof,x.j4,())
instance:Inhabited m6:=⟨⟨default,default,default,default,default,default⟩⟩
instance:p9 m6:=p9.via m6.f
instance:J6 m6:=J6.via m6.f rfl
def m6.l0:m5 m6 p7:=m5.via m6.f m5.fst (fun x=>x.Request) (fun y x => { x with Request:=y }) (fun _=>rfl) (fun _ _=>rfl)
def m6.l1:m5 m6 Int:=m5.via m6.f (m5.snd.comp m5.fst) (fun x=>x.C9) (fun y x => { x with C9:=y }) (fun _=>rfl) (fun _ _=>rfl)
def m6.l2:m5 m6 Int:=m5.via m6.f (m5.snd.comp (m5.snd.comp m5.fst)) (fun x=>x.y7) (fun y x => { x with y7:=y }) (fun _=>rfl) (fun _ _=>rfl)
def m6.l3:m5 m6 (List m7):=m5.via m6.f (m5.snd.comp (m5.snd.comp (m5.snd.comp m5.fst))) (fun x=>x.l9) (fun y x => { x with l9:=y }) (fun _=>rfl) (fun _ _=>rfl)
def m6.l4:m5 m6 (J7 32 UInt8):=m5.via m6.f (m5.snd.comp (m5.snd.comp (m5.snd.comp (m5.snd.comp m5.fst)))) (fun x=>x.Proof) (fun y x => { x with Proof:=y }) (fun _=>rfl) (fun _ _=>rfl)
def m6.l5:m5 m6 (List p5):=m5.via m6.f (m5.snd.comp (m5.snd.comp (m5.snd.comp (m5.snd.comp (m5.snd.comp m5.fst))))) (fun x=>x.j4) (fun y x => { x with j4:=y }) (fun _=>rfl) (fun _ _=>rfl)
structure p6 where
 Number:Int
 Key:(J7 32 UInt8)
def p6.f (x:p6):Int×(J7 32 UInt8)×Unit:=(x.Number,x.Key,())
instance:Inhabited p6:=⟨⟨default,default⟩⟩
instance:p9 p6:=p9.via p6.f
instance:J6 p6:=J6.via p6.f rfl
def p6.l0:m5 p6 Int:=m5.via p6.f m5.fst (fun x=>x.Number) (fun y x => { x with Number:=y }) (fun _=>rfl) (fun _ _=>rfl)
def p6.l1:m5 p6 (J7 32 UInt8):=m5.via p6.f (m5.snd.comp m5.fst) (fun x=>x.Key) (fun y x => { x with Key:=y }) (fun _=>rfl) (fun _ _=>rfl)
structure B3 where
 Live:(List p6)
 b7k:Int
def B3.f (x:B3):(List p6)×Int×Unit:=(x.Live,x.b7k,())
instance:Inhabited B3:=⟨⟨default,default⟩⟩
instance:p9 B3:=p9.via B3.f
instance:J6 B3:=J6.via B3.f rfl
def B3.l0:m5 B3 (List p6):=m5.via B3.f m5.fst (fun x=>x.Live) (fun y x => { x with Live:=y }) (fun _=>rfl) (fun _ _=>rfl)
def B3.l1:m5 B3 Int:=m5.via B3.f (m5.snd.comp m5.fst) (fun x=>x.b7k) (fun y x => { x with b7k:=y }) (fun _=>rfl) (fun _ _=>rfl)
structure y5 where
 Key:(J7 32 UInt8)
 Message:(List UInt8)
 Tag:(J7 32 UInt8)
def y5.f (x:y5):(J7 32 UInt8)×(List UInt8)×(J7 32 UInt8)×Unit:=(x.Key,x.Message,x.Tag,())
instance:Inhabited y5:=⟨⟨default,default,default⟩⟩
instance:p9 y5:=p9.via y5.f
instance:J6 y5:=J6.via y5.f rfl
def y5.l0:m5 y5 (J7 32 UInt8):=m5.via y5.f m5.fst (fun x=>x.Key) (fun y x => { x with Key:=y }) (fun _=>rfl) (fun _ _=>rfl)
def y5.l1:m5 y5 (List UInt8):=m5.via y5.f (m5.snd.comp m5.fst) (fun x=>x.Message) (fun y x => { x with Message:=y }) (fun _=>rfl) (fun _ _=>rfl)
def y5.l2:m5 y5 (J7 32 UInt8):=m5.via y5.f (m5.snd.comp (m5.snd.comp m5.fst)) (fun x=>x.Tag) (fun y x => { x with Tag:=y }) (fun _=>rfl) (fun _ _=>rfl)
structure o9 where
 Key:(J7 32 UInt8)
 E3:Int
 Plain:(List UInt8)
 X3:(List UInt8)
def o9.f (x:o9):(J7 32 UInt8)×Int×(List UInt8)×(List UInt8)×Unit:=(x.Key,x.E3,x.Plain,x.X3,())
instance:Inhabited o9:=⟨⟨default,default,default,default⟩⟩
instance:p9 o9:=p9.via o9.f
instance:J6 o9:=J6.via o9.f rfl
def o9.l0:m5 o9 (J7 32 UInt8):=m5.via o9.f m5.fst (fun x=>x.Key) (fun y x => { x with Key:=y }) (fun _=>rfl) (fun _ _=>rfl)
def o9.l1:m5 o9 Int:=m5.via o9.f (m5.snd.comp m5.fst) (fun x=>x.E3) (fun y x => { x with E3:=y }) (fun _=>rfl) (fun _ _=>rfl)
def o9.l2:m5 o9 (List UInt8):=m5.via o9.f (m5.snd.comp (m5.snd.comp m5.fst)) (fun x=>x.Plain) (fun y x => { x with Plain:=y }) (fun _=>rfl) (fun _ _=>rfl)
def o9.l3:m5 o9 (List UInt8):=m5.via o9.f (m5.snd.comp (m5.snd.comp (m5.snd.comp m5.fst))) (fun x=>x.X3) (fun y x => { x with X3:=y }) (fun _=>rfl) (fun _ _=>rfl)
structure j7 where
 J0:Bool
 a5f:(J7 32 UInt8)
 F9:Int
 G3:(List y5)
 x7:(List o9)
def j7.f (x:j7):Bool×(J7 32 UInt8)×Int×(List y5)×(List o9)×Unit:=(x.J0,x.a5f,x.F9,x.G3,x.x7,())
instance:Inhabited j7:=⟨⟨default,default,default,default,default⟩⟩
instance:p9 j7:=p9.via j7.f
instance:J6 j7:=J6.via j7.f rfl
def j7.l0:m5 j7 Bool:=m5.via j7.f m5.fst (fun x=>x.J0) (fun y x => { x with J0:=y }) (fun _=>rfl) (fun _ _=>rfl)
def j7.l1:m5 j7 (J7 32 UInt8):=m5.via j7.f (m5.snd.comp m5.fst) (fun x=>x.a5f) (fun y x => { x with a5f:=y }) (fun _=>rfl) (fun _ _=>rfl)
def j7.l2:m5 j7 Int:=m5.via j7.f (m5.snd.comp (m5.snd.comp m5.fst)) (fun x=>x.F9) (fun y x => { x with F9:=y }) (fun _=>rfl) (fun _ _=>rfl)
def j7.l3:m5 j7 (List y5):=m5.via j7.f (m5.snd.comp (m5.snd.comp (m5.snd.comp m5.fst))) (fun x=>x.G3) (fun y x => { x with G3:=y }) (fun _=>rfl) (fun _ _=>rfl)
def j7.l4:m5 j7 (List o9):=m5.via j7.f (m5.snd.comp (m5.snd.comp (m5.snd.comp (m5.snd.comp m5.fst)))) (fun x=>x.x7) (fun y x => { x with x7:=y }) (fun _=>rfl) (fun _ _=>rfl)
structure A0 where
 Name:Str
 b3b:Int
def A0.f (x:A0):Str×Int×Unit:=(x.Name,x.b3b,())
instance:Inhabited A0:=⟨⟨default,default⟩⟩
instance:p9 A0:=p9.via A0.f
instance:J6 A0:=J6.via A0.f rfl
def A0.l0:m5 A0 Str:=m5.via A0.f m5.fst (fun x=>x.Name) (fun y x => { x with Name:=y }) (fun _=>rfl) (fun _ _=>rfl)
def A0.l1:m5 A0 Int:=m5.via A0.f (m5.snd.comp m5.fst) (fun x=>x.b3b) (fun y x => { x with b3b:=y }) (fun _=>rfl) (fun _ _=>rfl)
structure u3 where
 E8:Int
 Key:(J7 32 UInt8)
 a0B:(List A0)
def u3.f (x:u3):Int×(J7 32 UInt8)×(List A0)×Unit:=(x.E8,x.Key,x.a0B,())
instance:Inhabited u3:=⟨⟨default,default,default⟩⟩
instance:p9 u3:=p9.via u3.f
instance:J6 u3:=J6.via u3.f rfl
def u3.l0:m5 u3 Int:=m5.via u3.f m5.fst (fun x=>x.E8) (fun y x => { x with E8:=y }) (fun _=>rfl) (fun _ _=>rfl)
def u3.l1:m5 u3 (J7 32 UInt8):=m5.via u3.f (m5.snd.comp m5.fst) (fun x=>x.Key) (fun y x => { x with Key:=y }) (fun _=>rfl) (fun _ _=>rfl)
def u3.l2:m5 u3 (List A0):=m5.via u3.f (m5.snd.comp (m5.snd.comp m5.fst)) (fun x=>x.a0B) (fun y x => { x with a0B:=y }) (fun _=>rfl) (fun _ _=>rfl)
structure x6 where
 C9:Int
 y7:Int
 l9:(List m7)
 Tag:(J7 32 UInt8)
def x6.f (x:x6):Int×Int×(List m7)×(J7 32 UInt8)×Unit:=(x.C9,x.y7,x.l9,x.Tag,())
instance:Inhabited x6:=⟨⟨default,default,default,default⟩⟩
instance:p9 x6:=p9.via x6.f
instance:J6 x6:=J6.via x6.f rfl
def x6.l0:m5 x6 Int:=m5.via x6.f m5.fst (fun x=>x.C9) (fun y x => { x with C9:=y }) (fun _=>rfl) (fun _ _=>rfl)
def x6.l1:m5 x6 Int:=m5.via x6.f (m5.snd.comp m5.fst) (fun x=>x.y7) (fun y x => { x with y7:=y }) (fun _=>rfl) (fun _ _=>rfl)
def x6.l2:m5 x6 (List m7):=m5.via x6.f (m5.snd.comp (m5.snd.comp m5.fst)) (fun x=>x.l9) (fun y x => { x with l9:=y }) (fun _=>rfl) (fun _ _=>rfl)
def x6.l3:m5 x6 (J7 32 UInt8):=m5.via x6.f (m5.snd.comp (m5.snd.comp (m5.snd.comp m5.fst))) (fun x=>x.Tag) (fun y x => { x with Tag:=y }) (fun _=>rfl) (fun _ _=>rfl)
structure p8 where
 j8:(List UInt8)
 l8:(List j3)
 Tag:(J7 32 UInt8)
def p8.f (x:p8):(List UInt8)×(List j3)×(J7 32 UInt8)×Unit:=(x.j8,x.l8,x.Tag,())
instance:Inhabited p8:=⟨⟨default,default,default⟩⟩
instance:p9 p8:=p9.via p8.f
instance:J6 p8:=J6.via p8.f rfl
def p8.l0:m5 p8 (List UInt8):=m5.via p8.f m5.fst (fun x=>x.j8) (fun y x => { x with j8:=y }) (fun _=>rfl) (fun _ _=>rfl)
def p8.l1:m5 p8 (List j3):=m5.via p8.f (m5.snd.comp m5.fst) (fun x=>x.l8) (fun y x => { x with l8:=y }) (fun _=>rfl) (fun _ _=>rfl)
def p8.l2:m5 p8 (J7 32 UInt8):=m5.via p8.f (m5.snd.comp (m5.snd.comp m5.fst)) (fun x=>x.Tag) (fun y x => { x with Tag:=y }) (fun _=>rfl) (fun _ _=>rfl)
structure o7 where
 A:j7
 Ring:B3
 C:u3
 Pass:x6
 M7:(List p8)
 Request:p7
 Q6:Str
 Minute:Int
def o7.f (x:o7):j7×B3×u3×x6×(List p8)×p7×Str×Int×Unit:=(x.A,x.Ring,x.C,x.Pass,x.M7,x.Request,x.Q6,x.Minute,())
instance:Inhabited o7:=⟨⟨default,default,default,default,default,default,default,default⟩⟩
instance:p9 o7:=p9.via o7.f
instance:J6 o7:=J6.via o7.f rfl
def o7.l0:m5 o7 j7:=m5.via o7.f m5.fst (fun x=>x.A) (fun y x => { x with A:=y }) (fun _=>rfl) (fun _ _=>rfl)
def o7.l1:m5 o7 B3:=m5.via o7.f (m5.snd.comp m5.fst) (fun x=>x.Ring) (fun y x => { x with Ring:=y }) (fun _=>rfl) (fun _ _=>rfl)
def o7.l3:m5 o7 x6:=m5.via o7.f (m5.snd.comp (m5.snd.comp (m5.snd.comp m5.fst))) (fun x=>x.Pass) (fun y x => { x with Pass:=y }) (fun _=>rfl) (fun _ _=>rfl)
def o7.l4:m5 o7 (List p8):=m5.via o7.f (m5.snd.comp (m5.snd.comp (m5.snd.comp (m5.snd.comp m5.fst)))) (fun x=>x.M7) (fun y x => { x with M7:=y }) (fun _=>rfl) (fun _ _=>rfl)
def o7.l5:m5 o7 p7:=m5.via o7.f (m5.snd.comp (m5.snd.comp (m5.snd.comp (m5.snd.comp (m5.snd.comp m5.fst))))) (fun x=>x.Request) (fun y x => { x with Request:=y }) (fun _=>rfl) (fun _ _=>rfl)
structure y4 where
 a9z:(List (J7 32 UInt8))
 b5C:(J7 32 UInt8)
def y4.f (x:y4):(List (J7 32 UInt8))×(J7 32 UInt8)×Unit:=(x.a9z,x.b5C,())
instance:Inhabited y4:=⟨⟨default,default⟩⟩
instance:p9 y4:=p9.via y4.f
instance:J6 y4:=J6.via y4.f rfl
def y4.l0:m5 y4 (List (J7 32 UInt8)):=m5.via y4.f m5.fst (fun x=>x.a9z) (fun y x => { x with a9z:=y }) (fun _=>rfl) (fun _ _=>rfl)
def y4.l1:m5 y4 (J7 32 UInt8):=m5.via y4.f (m5.snd.comp m5.fst) (fun x=>x.b5C) (fun y x => { x with b5C:=y }) (fun _=>rfl) (fun _ _=>rfl)
structure b8L where
 c29:Int
 c3a:Int
 Minute:Int
 Q6:Str
structure b3c where
 J8:Int
 To:Int
structure b6w where
 c3H:Bool
 c3v:UInt64
 c3w:UInt64
 c3I:UInt64
 J8:Int
 To:Int
 c3x:(List b3c)
 Q6:Str
structure o5 where
 L:(List Int)
 At:Int
def o5.f (x:o5):(List Int)×Int×Unit:=(x.L,x.At,())
instance:Inhabited o5:=⟨⟨default,default⟩⟩
instance:p9 o5:=p9.via o5.f
instance:J6 o5:=J6.via o5.f rfl
def o5.l0:m5 o5 (List Int):=m5.via o5.f m5.fst (fun x=>x.L) (fun y x => { x with L:=y }) (fun _=>rfl) (fun _ _=>rfl)
def o5.l1:m5 o5 Int:=m5.via o5.f (m5.snd.comp m5.fst) (fun x=>x.At) (fun y x => { x with At:=y }) (fun _=>rfl) (fun _ _=>rfl)
structure C0 where
 E8:Int
 Key:(J7 32 UInt8)
 j8:(List UInt8)
def C0.f (x:C0):Int×(J7 32 UInt8)×(List UInt8)×Unit:=(x.E8,x.Key,x.j8,())
instance:Inhabited C0:=⟨⟨default,default,default⟩⟩
instance:p9 C0:=p9.via C0.f
instance:J6 C0:=J6.via C0.f rfl
def C0.l0:m5 C0 Int:=m5.via C0.f m5.fst (fun x=>x.E8) (fun y x => { x with E8:=y }) (fun _=>rfl) (fun _ _=>rfl)
def C0.l1:m5 C0 (J7 32 UInt8):=m5.via C0.f (m5.snd.comp m5.fst) (fun x=>x.Key) (fun y x => { x with Key:=y }) (fun _=>rfl) (fun _ _=>rfl)
def C0.l2:m5 C0 (List UInt8):=m5.via C0.f (m5.snd.comp (m5.snd.comp m5.fst)) (fun x=>x.j8) (fun y x => { x with j8:=y }) (fun _=>rfl) (fun _ _=>rfl)
structure y9 where
 a2T:Int
 a6g:Int
def y9.f (x:y9):Int×Int×Unit:=(x.a2T,x.a6g,())
instance:Inhabited y9:=⟨⟨default,default⟩⟩
instance:p9 y9:=p9.via y9.f
instance:J6 y9:=J6.via y9.f rfl
def y9.l0:m5 y9 Int:=m5.via y9.f m5.fst (fun x=>x.a2T) (fun y x => { x with a2T:=y }) (fun _=>rfl) (fun _ _=>rfl)
def y9.l1:m5 y9 Int:=m5.via y9.f (m5.snd.comp m5.fst) (fun x=>x.a6g) (fun y x => { x with a6g:=y }) (fun _=>rfl) (fun _ _=>rfl)
structure b9k where
 c29:Int
 c3a:Int
 Minute:Int
 Q6:Str
structure o6 where
 B:(List UInt8)
 Used:Int
 E:Int
def o6.f (x:o6):(List UInt8)×Int×Int×Unit:=(x.B,x.Used,x.E,())
instance:Inhabited o6:=⟨⟨default,default,default⟩⟩
instance:p9 o6:=p9.via o6.f
instance:J6 o6:=J6.via o6.f rfl
def o6.l0:m5 o6 (List UInt8):=m5.via o6.f m5.fst (fun x=>x.B) (fun y x => { x with B:=y }) (fun _=>rfl) (fun _ _=>rfl)
def o6.l1:m5 o6 Int:=m5.via o6.f (m5.snd.comp m5.fst) (fun x=>x.Used) (fun y x => { x with Used:=y }) (fun _=>rfl) (fun _ _=>rfl)
def o6.l2:m5 o6 Int:=m5.via o6.f (m5.snd.comp (m5.snd.comp m5.fst)) (fun x=>x.E) (fun y x => { x with E:=y }) (fun _=>rfl) (fun _ _=>rfl)
structure P0 where
 H:(J7 8 UInt32)
 Rest:(List UInt8)
 Len:Int
def P0.f (x:P0):(J7 8 UInt32)×(List UInt8)×Int×Unit:=(x.H,x.Rest,x.Len,())
instance:p9 P0:=p9.via P0.f
end Go.Mac
namespace Go.Proofs.YtmmclghiidoldaaGreatDoor
open Go.Ab Go.Mac
theorem D0:H9 Tryz.prog 3 Int := .of (by kernel_rfl) (by kernel_rfl) (by kernel_rfl) (by decide)
theorem ty4:H9 Tryz.prog 4 Bool := .of (by kernel_rfl) (by kernel_rfl) (by kernel_rfl) (by decide)
theorem U1:H9 Tryz.prog 5 UInt8 := .of (by kernel_rfl) (by kernel_rfl) (by kernel_rfl) (by decide)
theorem ty9:H9 Tryz.prog 9 Str := .of (by kernel_rfl) (by kernel_rfl) (by kernel_rfl) (by decide)
theorem a3V:H9 Tryz.prog 23 p7 := .of (by kernel_rfl) (by kernel_rfl) (by kernel_rfl) (by decide)
theorem a3f:H9 Tryz.prog 24 (List m7) := .of (by kernel_rfl) (by kernel_rfl) (by kernel_rfl) (by decide)
theorem p3:H9 Tryz.prog 26 (J7 32 UInt8) := .of (by kernel_rfl) (by kernel_rfl) (by kernel_rfl) (by decide)
theorem a3w:H9 Tryz.prog 27 (List p5) := .of (by kernel_rfl) (by kernel_rfl) (by kernel_rfl) (by decide)
theorem a0d:H9 Tryz.prog 29 m6 := .of (by kernel_rfl) (by kernel_rfl) (by kernel_rfl) (by decide)
theorem b3d:H9 Tryz.prog 30 (List p6) := .of (by kernel_rfl) (by kernel_rfl) (by kernel_rfl) (by decide)
theorem a6R:H9 Tryz.prog 32 B3 := .of (by kernel_rfl) (by kernel_rfl) (by kernel_rfl) (by decide)
theorem c16:H9 Tryz.prog 33 (List Int) := .of (by kernel_rfl) (by kernel_rfl) (by kernel_rfl) (by decide)
theorem a7O:H9 Tryz.prog 35 (List y5) := .of (by kernel_rfl) (by kernel_rfl) (by kernel_rfl) (by decide)
theorem a6S:H9 Tryz.prog 36 (List o9) := .of (by kernel_rfl) (by kernel_rfl) (by kernel_rfl) (by decide)
theorem u7:H9 Tryz.prog 38 j7 := .of (by kernel_rfl) (by kernel_rfl) (by kernel_rfl) (by decide)
theorem c05:H9 Tryz.prog 39 (List A0) := .of (by kernel_rfl) (by kernel_rfl) (by kernel_rfl) (by decide)
theorem b5D:H9 Tryz.prog 41 u3 := .of (by kernel_rfl) (by kernel_rfl) (by kernel_rfl) (by decide)
theorem P6:H9 Tryz.prog 43 x6 := .of (by kernel_rfl) (by kernel_rfl) (by kernel_rfl) (by decide)
theorem c3b:H9 Tryz.prog 44 (List p8) := .of (by kernel_rfl) (by kernel_rfl) (by kernel_rfl) (by decide)
theorem a6h:H9 Tryz.prog 46 o7 := .of (by kernel_rfl) (by kernel_rfl) (by kernel_rfl) (by decide)
theorem c17:H9 Tryz.prog 54 (List (J7 32 UInt8)) := .of (by kernel_rfl) (by kernel_rfl) (by kernel_rfl) (by decide)
theorem a0w:H9 Tryz.prog 56 y4 := .of (by kernel_rfl) (by kernel_rfl) (by kernel_rfl) (by decide)
theorem b5E:H9 Tryz.prog 57 Int := .of (by kernel_rfl) (by kernel_rfl) (by kernel_rfl) (by decide)
theorem a4z:H9 Tryz.prog 66 p6 := .of (by kernel_rfl) (by kernel_rfl) (by kernel_rfl) (by decide)
theorem a1i:H9 Tryz.prog 77 UInt64 := .of (by kernel_rfl) (by kernel_rfl) (by kernel_rfl) (by decide)
theorem a4g:H9 Tryz.prog 83 (List j3) := .of (by kernel_rfl) (by kernel_rfl) (by kernel_rfl) (by decide)
theorem P1:H9 Tryz.prog 86 (List UInt8) := .of (by kernel_rfl) (by kernel_rfl) (by kernel_rfl) (by decide)
theorem P8:H9 Tryz.prog 88 p5 := .of (by kernel_rfl) (by kernel_rfl) (by kernel_rfl) (by decide)
theorem A7:H9 Tryz.prog 97 j3 := .of (by kernel_rfl) (by kernel_rfl) (by kernel_rfl) (by decide)
theorem T7:H9 Tryz.prog 99 m7 := .of (by kernel_rfl) (by kernel_rfl) (by kernel_rfl) (by decide)
theorem c18:H9 Tryz.prog 103 o5 := .of (by kernel_rfl) (by kernel_rfl) (by kernel_rfl) (by decide)
theorem P3:H9 Tryz.prog 139 p8 := .of (by kernel_rfl) (by kernel_rfl) (by kernel_rfl) (by decide)
theorem a2D:H9 Tryz.prog 147 A0 := .of (by kernel_rfl) (by kernel_rfl) (by kernel_rfl) (by decide)
theorem a2b:H9 Tryz.prog 151 C0 := .of (by kernel_rfl) (by kernel_rfl) (by kernel_rfl) (by decide)
theorem a5r:H9 Tryz.prog 155 y9 := .of (by kernel_rfl) (by kernel_rfl) (by kernel_rfl) (by decide)
theorem a3x:H9 Tryz.prog 199 y5 := .of (by kernel_rfl) (by kernel_rfl) (by kernel_rfl) (by decide)
theorem c19:H9 Tryz.prog 224 (J7 2 (List UInt8)) := .of (by kernel_rfl) (by kernel_rfl) (by kernel_rfl) (by decide)
theorem a1n:H9 Tryz.prog 227 o9 := .of (by kernel_rfl) (by kernel_rfl) (by kernel_rfl) (by decide)
theorem c2a:H9 Tryz.prog 241 o6 := .of (by kernel_rfl) (by kernel_rfl) (by kernel_rfl) (by decide)
theorem c2b:SlT Tryz.prog 24 99 m7 120:=⟨.of (by kernel_rfl),T7⟩
theorem c3c:SlT Tryz.prog 27 88 p5 80:=⟨.of (by kernel_rfl),P8⟩
theorem b9l:SlT Tryz.prog 35 199 y5 88:=⟨.of (by kernel_rfl),a3x⟩
theorem b9m:SlT Tryz.prog 36 227 o9 88:=⟨.of (by kernel_rfl),a1n⟩
theorem c3d:SlT Tryz.prog 44 139 p8 80:=⟨.of (by kernel_rfl),P3⟩
theorem c2c:SlT Tryz.prog 54 26 (J7 32 UInt8) 32:=⟨.of (by kernel_rfl),p3⟩
theorem a8v:SlT Tryz.prog 83 97 j3 56:=⟨.of (by kernel_rfl),A7⟩
theorem F5:SlT Tryz.prog 86 5 UInt8 1:=⟨.of (by kernel_rfl),U1⟩
theorem c2d:SlT Tryz.prog 164 86 (List UInt8) 24:=⟨.of (by kernel_rfl),P1⟩
end Go.Proofs.YtmmclghiidoldaaGreatDoor
namespace Go.Mac
open Go.Fl Go.Ab Go.Sha
abbrev Tag:=J7 32 UInt8
def h8 (a:J7 8 UInt32):H8:=⟨a.l.getD 0 0,a.l.getD 1 0,a.l.getD 2 0,a.l.getD 3 0,a.l.getD 4 0,a.l.getD 5 0,a.l.getD 6 0,a.l.getD 7 0⟩
def b1x (x:H8):J7 8 UInt32:=⟨x.l,rfl⟩
theorem b4I (x:H8):h8 (b1x x)=x:=rfl
theorem c3e (a:J7 8 UInt32):(h8 a).l=a.l:=by
 obtain⟨l,h⟩:=a
 match l,h with
 | [a,b,c,d,e,f,g,i],_=>rfl
def sha (l:List UInt8):Tag:=⟨a3d l,a80 l⟩
theorem a84 (x:H8) (r:List UInt8) (n:Nat):(a2w x r n).length=32:=by rw [a2w,a0K,H8.length]
def c06:P0:=⟨b1x iv,[],0⟩
def a6T (h:P0) (b:List UInt8):P0:=⟨b1x (a01 (h8 h.H) (h.Rest++b)),rest (h.Rest++b),h.Len+b.length⟩
def b9n (h:P0):Tag:=⟨a2w (h8 h.H) h.Rest h.Len.toNat,a84 _ _ _⟩
def hOf (l:List UInt8):P0:=⟨b1x (a01 iv l),rest l,l.length⟩
@[simp] theorem a7Z:c06=hOf []:=rfl
@[simp] theorem a3W (l m:List UInt8):a6T (hOf l) m=hOf (l++m):=by
 simp only [a6T,hOf,b4I,a5m,b1q,List.length_append]
 congr 1
@[simp] theorem a6i (l:List UInt8):b9n (hOf l)=sha l:=by
 apply J7.ext
 show a2w (h8 (b1x (a01 iv l))) (rest l) (Int.toNat (l.length:Int))=a3d l
 rw [b4I,Int.toNat_natCast];rfl
@[simp] theorem c2e (l:List UInt8):(hOf l).Rest.length=l.length % 64:=a2Q l
@[simp] theorem c2T (l:List UInt8):(hOf l).Len=l.length:=rfl
end Go.Mac
namespace Go.Proofs.YtmmclghiidoldaaGreatDoor
open Go.Fl Go.Ab Go.Sha Go.Mac
def a6j:J7 8 Int:=⟨[0,64,32,7,0,0,0,0],rfl⟩
def glX:Gl:=⟨fun I=>Cells I 0 0 (a6j.l.map i64),fun hle h=>h.mono hle⟩
def gl:Gl:=⟨fun I=>Cells I 1 0 (kk.map Fl.u32)∧glX.p I,fun hle h=>⟨h.1.mono hle,glX.mono hle h.2⟩⟩
theorem a04 (I:Im) (h:gl.p I):H4 I (.p a6j) (ptr 0 0):=⟨0,0,_,rfl,(by repeat' (first|exact rfl|(refine⟨[_],_,rfl,⟨rfl,by decide,by decide⟩,?_⟩))),h.2⟩
theorem b1A (a:J7 8 UInt32):a.l.map Fl.u32=(h8 a).cells:=by
 rw [←c3e a];rfl
theorem b0p {I:Im} {v:Value} {l:List UInt8}:SlA I v l↔Sl I 1 v l.length (u9 l):=by
 constructor
 ·rintro⟨xs,h1,h2⟩
  rw [a2R.1 h2] at h1;exact h1
 ·intro h;exact⟨_,h,a2R.2 rfl⟩
theorem a9A {I:Im} {h:P0} {u:Value} (hu:H4 I (.v h) u):∃ sv,u = .agg ((h8 h.H).cells ++ [sv,i64 h.Len]).toArray∧Sl I 1 sv h.Rest.length (u9 h.Rest):=by
 obtain⟨cs,⟨c1,r1,rfl,h1,c2,r2,rfl,⟨sv,rfl,h2⟩,c3,r3,rfl,⟨rfl,_⟩,h4⟩,rfl⟩:=hu
 cases h4
 have:=a6d.1 h1
 subst this
 exact⟨sv,by rw [←b1A];rfl,b0p.1 h2⟩
theorem a8w {I:Im} {h:P0} {sv:Value} (hs:Sl I 1 sv h.Rest.length (u9 h.Rest)) (h1 : -9223372036854775808≤h.Len) (h2:h.Len≤9223372036854775807):H4 I (.v h) (.agg ((h8 h.H).cells ++ [sv,i64 h.Len]).toArray):=by
 refine⟨h.H.l.map Fl.u32++([sv]++([i64 h.Len] ++ [])),⟨_,_,a8,a6d.2 a8,_,_,a8,⟨sv,a8,b0p.2 hs⟩,_,_,a8,⟨a8,h1,h2⟩,a8⟩,?_⟩
 rw [b1A];rfl
theorem a5H {I:Im} {l:List UInt8} {u:Value} (hu:H4 I (.v l) u):Sl I 1 u l.length (u9 l):=by
 obtain⟨cs,⟨v,rfl,h⟩,rfl⟩:=hu
 exact b0p.1 h
theorem b1B {I:Im} {l:List UInt8} {u:Value} (h:Sl I 1 u l.length (u9 l)):H4 I (.v l) u:=⟨[u],⟨u,rfl,b0p.2 h⟩,rfl⟩
theorem a6U {I:Im} {t:Tag}:H4 I (.v t) (.agg (u9 t.l).toArray):=⟨u9 t.l,a2R.2 rfl,rfl⟩
theorem b4J:u1 gl Tryz.prog 200 [] (fun r=>r = .v c06):=fun I vs hG hvs=>by
 cases hvs
 refine(b4z I).mono fun v J hle hv=>⟨_,?_,a8⟩
 subst hv
 exact a8w (h:=c06) (Sl.nil J 1) (by decide) (by decide)
theorem a2U (h : P0) (b : List UInt8) (h0 : 0 ≤ h.Len) (h1 : h.Rest.length + b.length ≤ 35184372088832) (h2 : h.Len + b.length ≤ 4611686018427387904) :
    u1 gl Tryz.prog 199 [.v h,.v b] (fun r=>r = .v (a6T h b)):=fun I vs hG hvs=>by
  obtain⟨u,r,rfl,hu,u2,r2,rfl,hu2,rfl⟩:=hvs
  obtain⟨sv,rfl,hs⟩:=a9A hu
  obtain⟨n,hn⟩:=Int.eq_ofNat_of_zero_le h0
  have hw:=a6O I (h8 h.H) sv h.Rest n u2 b hs (a5H hu2) h1 (by omega) hG.1
  rw [hn]
  refine hw.mono fun v J hle ⟨sv',hv,hs'⟩=>⟨_,?_,rfl⟩
  subst hv
  have e:(a6T h b).Len=((n+b.length:Nat):Int):=by simp [a6T,hn]
  have:=a8w (I:=J) (h:=a6T h b) (sv:=sv') hs' (by rw [e];omega) (by rw [e];omega)
  rw [e] at this
  exact this
theorem b4K (h:P0) (h0:0≤h.Len) (h1:h.Rest.length≤17592186044416) (h2:h.Len≤2305843009213693952):u1 gl Tryz.prog 198 [.v h] (fun r=>r = .v (b9n h)):=fun I vs hG hvs=>by
 obtain⟨u,r,rfl,hu,rfl⟩:=hvs
 obtain⟨sv,rfl,hs⟩:=a9A hu
 obtain⟨n,hn⟩:=Int.eq_ofNat_of_zero_le h0
 have hw:=b4A I (h8 h.H) sv h.Rest n hs h1 (by omega) hG.1
 rw [hn]
 refine hw.mono fun v J hle hv=>⟨_,?_,rfl⟩
 subst hv
 have e:(b9n h).l=a2w (h8 h.H) h.Rest n:=by simp [b9n,hn]
 rw [←e]
 exact a6U
theorem c3f (b:List UInt8) (h1:b.length≤17592186044416):u1 gl Tryz.prog 197 [.v b] (fun r=>r = .v (sha b)):=fun I vs hG hvs=>by
 obtain⟨u,r,rfl,hu,rfl⟩:=hvs
 refine(c0V I u b (a5H hu) h1 hG.1).mono fun v J hle hv=>⟨_,?_,a8⟩
 subst hv
 exact a6U (t:=sha b)
theorem a8x (b:List UInt8) (h1:b.length≤17592186044416):u1 gl Tryz.prog 181 [.v b] (fun r=>r = .v (sha b)):=fun I vs hG hvs=>by
 obtain⟨u,r,rfl,hu,rfl⟩:=hvs
 refine(b9e I u b (a5H hu) h1).mono fun v J hle hv=>⟨_,?_,a8⟩
 subst hv
 rw [b5x]
 exact a6U (t:=sha b)
theorem b0q (n:UInt64):u1 gl Tryz.prog 183 [.v n] (fun r=>r = .v (R7 n 8)):=fun I vs hG hvs=>by
 obtain⟨u,r,rfl,hu,rfl⟩:=hvs
 obtain⟨cs,rfl,rfl⟩:=hu
 exact(a9r I n).mono fun v J hle hv=>⟨_,b1B (by rw [E1];exact hv),a8⟩
open Go.Fl Go.Ab Go.Mac
theorem b3e (a b:UInt8):(a ||| b=0)↔(a=0∧b=0):=by
 rw [←UInt8.toBitVec_inj,←UInt8.toBitVec_inj,←UInt8.toBitVec_inj]
 simp only [UInt8.toBitVec_or,UInt8.toBitVec_ofNat]
 exact BitVec.or_eq_zero_iff
theorem b1C (a b:UInt8):(a ^^^ b=0)↔a=b:=by
 rw [←UInt8.toBitVec_inj,←UInt8.toBitVec_inj]
 simp only [UInt8.toBitVec_xor,UInt8.toBitVec_ofNat]
 exact BitVec.xor_eq_zero_iff
theorem a6k {α:Type} (a b:List α) (k:Nat) (h1:k < a.length) (h2:k < b.length):(a.take (k+1)=b.take (k+1))↔(a.take k=b.take k∧a[k]=b[k]):=by
 rw [List.take_succ_eq_append_getElem h1,List.take_succ_eq_append_getElem h2]
 constructor
 ·intro h
  have h3:=List.append_inj h (by simp;omega)
  exact⟨h3.1,by simpa using h3.2⟩
 ·rintro⟨h3,h4⟩
  rw [h3,h4]
theorem _root_.Go.Ab.L9.sr {P:Program} {C:Ctx} {N:Nat} {σ:y2} {H:j9} {Q:Exit→y2→j9→Prop} {id:Nat} {l:List Oper} {y:Code} (hd:M3 N l=true) (h:F8 P C N l.toArray (a9u (L9 P C N y Q) Q) l σ H):L9 P C N (.seq (.region id l.toArray false) y) Q σ H := .seq (.region hd h)
theorem _root_.Go.Ab.F8.mv {P:Program} {C:Ctx} {N:Nat} {ops:Array Oper} {σ:y2} {H:j9} {Q:Exit→y2→j9→Prop} {d t:Nat} {ty:TypeId} {ps:String} {af:Array Edge} {a:AV} {rest:List Oper} (hx:G4 σ t=some a) (k:F8 P C N ops Q rest ((d,a)::σ) H):F8 P C N ops Q (⟨some d,.move (.tmp t),ty,ps,af,none⟩::rest) σ H := .p (.move (.t hx) k)
theorem _root_.Go.Ab.F8.ag {P:Program} {C:Ctx} {N:Nat} {ops:Array Oper} {σ:y2} {H:j9} {Q:Exit→y2→j9→Prop} {d t:Nat} {ty:TypeId} {ps:String} {af:Array Edge} {a:AV} {rest:List Oper} (hx:G4 σ t=some a) (k:F8 P C N ops Q rest ((d,a)::σ) H):F8 P C N ops Q (⟨some d,.assign (.tmp t),ty,ps,af,none⟩::rest) σ H := .p (.assign (.t hx) k)
theorem _root_.Go.Ab.F1.q {C:Ctx} {σ:y2} {H:j9} {t:Nat} {a:AV} {b w:Bool} (h:G4 σ t=some (.opt (b == w) a)) (hc:b=w):F1 C σ H (.tmp t) a := .o h (beq_iff_eq.2 hc)
theorem _root_.Go.Ab.a8p.c2 {σ' σ:y2} {t u:Nat} {a b:AV} (h:G4 σ t=some a) (g:G4 σ u=some b) (k:a8p σ' σ):a8p ((t,a)::(u,b)::σ') σ := .cons h (.cons g k)
theorem _root_.Go.Ab.y3.z1 {A0 B:Bool×E9} {H:j9}:y3 (A0::B::H) B (fun X=>A0::X::H) := .s .z
theorem _root_.Go.Ab.y3.z2 {A0 A1 B:Bool×E9} {H:j9}:y3 (A0::A1::B::H) B (fun X=>A0::A1::X::H) := .s (.s .z)
theorem _root_.Go.Ab.y3.z3 {A0 A1 A2 B:Bool×E9} {H:j9}:y3 (A0::A1::A2::B::H) B (fun X=>A0::A1::A2::X::H) := .s (.s (.s .z))
theorem _root_.Go.Ab.y3.z4 {A0 A1 A2 A3 B:Bool×E9} {H:j9}:y3 (A0::A1::A2::A3::B::H) B (fun X=>A0::A1::A2::A3::X::H) := .s (.s (.s (.s .z)))
theorem _root_.Go.Ab.y3.z5 {A0 A1 A2 A3 A4 B:Bool×E9} {H:j9}:y3 (A0::A1::A2::A3::A4::B::H) B (fun X=>A0::A1::A2::A3::A4::X::H) := .s (.s (.s (.s (.s .z))))
theorem _root_.Go.Ab.y3.z6 {A0 A1 A2 A3 A4 A5 B:Bool×E9} {H:j9}:y3 (A0::A1::A2::A3::A4::A5::B::H) B (fun X=>A0::A1::A2::A3::A4::A5::X::H) := .s (.s (.s (.s (.s (.s .z)))))
theorem _root_.Go.Ab.y3.z7 {A0 A1 A2 A3 A4 A5 A6 B:Bool×E9} {H:j9}:y3 (A0::A1::A2::A3::A4::A5::A6::B::H) B (fun X=>A0::A1::A2::A3::A4::A5::A6::X::H) := .s (.s (.s (.s (.s (.s (.s .z))))))
theorem _root_.Go.Ab.y3.z8 {A0 A1 A2 A3 A4 A5 A6 A7 B:Bool×E9} {H:j9}:y3 (A0::A1::A2::A3::A4::A5::A6::A7::B::H) B (fun X=>A0::A1::A2::A3::A4::A5::A6::A7::X::H) := .s (.s (.s (.s (.s (.s (.s (.s .z)))))))
theorem _root_.Go.Ab.y3.z9 {A0 A1 A2 A3 A4 A5 A6 A7 A8 B:Bool×E9} {H:j9}:y3 (A0::A1::A2::A3::A4::A5::A6::A7::A8::B::H) B (fun X=>A0::A1::A2::A3::A4::A5::A6::A7::A8::X::H) := .s (.s (.s (.s (.s (.s (.s (.s (.s .z))))))))
theorem _root_.Go.Ab.y3.z10 {A0 A1 A2 A3 A4 A5 A6 A7 A8 A9 B:Bool×E9} {H:j9}:y3 (A0::A1::A2::A3::A4::A5::A6::A7::A8::A9::B::H) B (fun X=>A0::A1::A2::A3::A4::A5::A6::A7::A8::A9::X::H) := .s (.s (.s (.s (.s (.s (.s (.s (.s (.s .z)))))))))
theorem _root_.Go.Ab.y3.z11 {A0 A1 A2 A3 A4 A5 A6 A7 A8 A9 A10 B:Bool×E9} {H:j9}:y3 (A0::A1::A2::A3::A4::A5::A6::A7::A8::A9::A10::B::H) B (fun X=>A0::A1::A2::A3::A4::A5::A6::A7::A8::A9::A10::X::H) := .s (.s (.s (.s (.s (.s (.s (.s (.s (.s (.s .z))))))))))
theorem _root_.Go.Ab.y3.z12 {A0 A1 A2 A3 A4 A5 A6 A7 A8 A9 A10 A11 B:Bool×E9} {H:j9}:y3 (A0::A1::A2::A3::A4::A5::A6::A7::A8::A9::A10::A11::B::H) B (fun X=>A0::A1::A2::A3::A4::A5::A6::A7::A8::A9::A10::A11::X::H) := .s (.s (.s (.s (.s (.s (.s (.s (.s (.s (.s (.s .z)))))))))))
theorem b9o (a b:List UInt8):u1 gl Tryz.prog 164 [.v a,.v b] (fun r=>r = .v (decide (a=b))):=by
 refine u1.intro Tryz.func164 rfl (by kernel_rfl) 31 rfl rfl _ rfl fun C hC hG=>(.sr rfl (.p (.assign .b (.nil (.seq (.seq (.Y4 0 rfl fun hl0=>(.region rfl (.mv rfl (.p (.len Tryz.underlying86 (.t rfl) (.mv rfl (.p (.len Tryz.underlying86 (.t rfl) (.p (.W8 (.t rfl) (.t rfl) (.nil (.o8 (.t rfl) (fun hc11 => ?_) (fun hc11 => ?_)))))))))))))))))))
 ·refine .sr a8 (.p (.assign .b (.nil (.ret ?_))))
  refine⟨_,.r1 a8 (.tmp a8),?_⟩
  exact congrArg AV.v (by rw [eq_comm,decide_eq_false_iff_not];rintro rfl;exact hc11 rfl)
 ·refine .skip (.sr a8 (.p (.assign (.u8 0 a8) (.nil (.seq (.sr a8 (.mv a8 (.p (.len Tryz.underlying86 (.t a8) (.p (.move (.i a8) (.nil (.block (.F4 (α:=Nat×UInt8) [(0,_),(1,_),(13,_)] (fun x R=>(5,.v x.2)::(14,.v (x.1:Int))::R) (fun x => []) (fun x=>x.1≤a.length∧(x.2=0↔a.take x.1=b.take x.1)) (fun x=>a.length - x.1) ((0,0)) (.c2 a8 a8 (.cons a8 (.nil _))) ?_ (.c2 a8 a8 (.c2 a8 a8 (.cons a8 (.nil _)))) (a8) fun x hF => ?_))))))))))))))
  ·simp
  obtain⟨k,e⟩:=x
  obtain⟨h1,h2⟩:=hF
  dsimp only at h1 h2 ⊢
  refine .sr a8 (.p (.lss (.t a8) (.t a8) (.nil (.seq (.o8 (.t a8) (fun hc15 => ?_) (fun hc15 => ?_))))))
  ·refine .skip (.seq (.block (.sr a8 (.mv a8 (.ag a8 (.nil (.draw (by kernel_rfl) 12 [[],[],[],[(18,1),(19,2)],[(20,3)],[],[],[(22,5),(23,6)],[(24,7)],[(21,4),(25,8)],[(17,0),(26,9)],[(27,10)]] a8 (by kernel_rfl) a8 ?_)))))))
   refine⟨_,j6.move (.t a8) a8,?_⟩
   refine⟨_,j6.move (.t a8) a8,?_⟩
   refine⟨_,j6.move (.t a8) a8,?_⟩
   refine⟨_,j6.idx U1 Tryz.underlying86 (.t a8) (.t a8) (by omega) (by omega) a8,?_⟩
   refine⟨_,j6.x3 U1 (.t a8) a8,?_⟩
   refine⟨_,j6.move (.t a8) a8,?_⟩
   refine⟨_,j6.move (.t a8) a8,?_⟩
   refine⟨_,j6.idx U1 Tryz.underlying86 (.t a8) (.t a8) (by omega) (by omega) a8,?_⟩
   refine⟨_,j6.x3 U1 (.t a8) a8,?_⟩
   refine⟨_,j6.b2C (.t a8) (.t a8) a8,?_⟩
   refine⟨_,j6.or8 (.t a8) (.t a8) a8,?_⟩
   refine⟨_,j6.assign (.t a8) a8,?_⟩
   show F8 _ _ _ _ _ _ ((5,_)::(27,_)::(26,_)::(25,_)::(24,_)::(23,_)::(22,_)::(21,_)::(20,_)::(19,_)::(18,_)::(17,_)::_) _
   refine .nil (.region a8 (.p (.add (.t a8) (.i a8) (by omega) (by omega) (.mv a8 (.nil ?_)))))
   refine⟨(k+1,_),.c2 rfl rfl (.c2 rfl rfl (.cons rfl (.nil _))),rfl,?_,by dsimp only;omega⟩
   refine⟨by dsimp only;omega,?_⟩;dsimp only;rw [a6k a b k (by omega) (by omega),b3e,b1C,h2];rfl
  ·refine .exit (.sr a8 (.mv a8 (.p (.c11 (.t a8) (.u8 0 a8) (.ag a8 (.nil (.ret ?_)))))))
   refine⟨_,.r1 a8 (.tmp a8),?_⟩
   exact congrArg AV.v (by rw [decide_eq_decide,h2,List.take_of_length_le (by omega),List.take_of_length_le (by omega)])
theorem a6V (a b:List UInt8):u1 gl Tryz.prog 50 [.v a,.v b] (fun r=>r = .v (decide (a=b))):=by
 refine u1.intro Tryz.func50 rfl (by kernel_rfl) 26 rfl rfl _ rfl fun C hC hG=>(.sr rfl (.p (.assign .b (.nil (.seq (.seq (.Y4 0 rfl fun hl0=>(.region rfl (.mv rfl (.p (.len Tryz.underlying86 (.t rfl) (.mv rfl (.p (.len Tryz.underlying86 (.t rfl) (.p (.W8 (.t rfl) (.t rfl) (.nil (.o8 (.t rfl) (fun hc10 => ?_) (fun hc10 => ?_)))))))))))))))))))
 ·refine .sr a8 (.p (.assign .b (.nil (.ret ?_))))
  refine⟨_,.r1 a8 (.tmp a8),?_⟩
  exact congrArg AV.v (by rw [eq_comm,decide_eq_false_iff_not];rintro rfl;exact hc10 rfl)
 ·refine .skip (.seq (.sr a8 (.p (.assign (.i a8) (.nil (.block (.F4 (α:=Nat) [(0,_),(1,_)] (fun k R=>(5,.v (k:Int))::R) (fun k => []) (fun k=>k≤a.length∧a.take k=b.take k) (fun k=>a.length - k) (0) (.c2 a8 a8 (.nil _)) ?_ (.c2 a8 a8 (.cons a8 (.nil _))) (a8) fun k hF => ?_)))))))
  ·simp
  obtain⟨h1,h2⟩:=hF
  refine .seq (.sr a8 (.mv a8 (.mv a8 (.p (.len Tryz.underlying86 (.t a8) (.p (.lss (.t a8) (.t a8) (.nil (.o8 (.t a8) (fun hc14 => ?_) (fun hc14 => ?_))))))))))
  ·refine .skip (.seq (.block (.seq (.draw (by kernel_rfl) 9 [[],[],[(17,0),(18,1)],[(19,2)],[],[],[(21,4),(22,5)],[(23,6)],[(20,3),(24,7)]] a8 (by kernel_rfl) a8 ?_))))
   refine⟨_,j6.move (.t a8) a8,?_⟩
   refine⟨_,j6.move (.t a8) a8,?_⟩
   refine⟨_,j6.idx U1 Tryz.underlying86 (.t a8) (.t a8) (by omega) (by omega) a8,?_⟩
   refine⟨_,j6.x3 U1 (.t a8) a8,?_⟩
   refine⟨_,j6.move (.t a8) a8,?_⟩
   refine⟨_,j6.move (.t a8) a8,?_⟩
   refine⟨_,j6.idx U1 Tryz.underlying86 (.t a8) (.t a8) (by omega) (by omega) a8,?_⟩
   refine⟨_,j6.x3 U1 (.t a8) a8,?_⟩
   refine⟨_,j6.c25 (.t a8) (.t a8) a8,?_⟩
   show F8 _ _ _ _ _ _ ((25,_)::(24,_)::(23,_)::(22,_)::(21,_)::(20,_)::(19,_)::(18,_)::(17,_)::_) _
   refine .nil (.o8 (.t a8) (fun hc25 => ?_) (fun hc25 => ?_))
   ·refine .sr a8 (.p (.assign .b (.nil (.ret ?_))))
    refine⟨_,.r1 a8 (.tmp a8),?_⟩
    exact congrArg AV.v (by rw [eq_comm,decide_eq_false_iff_not];rintro rfl;exact hc25 rfl)
   ·refine .skip (.region a8 (.mv a8 (.p (.add (.t a8) (.i a8) (by omega) (by omega) (.ag a8 (.nil ?_))))))
    refine⟨k+1,.c2 rfl rfl (.cons rfl (.nil _)),rfl,?_,by omega⟩
    exact⟨by omega,(a6k a b k (by omega) (by omega)).2 ⟨h2,by simpa using hc25⟩⟩
  ·refine .exit (.sr a8 (.p (.assign .b (.nil (.ret ?_)))))
   refine⟨_,.r1 a8 (.tmp a8),?_⟩
   refine congrArg AV.v (by rw [eq_comm,decide_eq_true_eq];rwa [List.take_of_length_le (by omega),List.take_of_length_le (by omega)] at h2)
theorem b7l (x n:Int) (h0:0 < n) (h1:n≤4611686018427387904):u1 gl Tryz.prog 56 [.v x,.v n] (fun r=>r = .v (x % n)):=by
 have h2:=Int.tmod_lt_of_pos x h0
 have h3 : -n < x.tmod n:=Int.lt_tmod_of_pos x h0
 have h4:(x.tmod n+n) % n=x % n:=by
  rw [Int.add_emod_right,Int.tmod_def,Int.sub_mul_emod_self_left]
 refine u1.intro Tryz.func56 rfl (by kernel_rfl) 12 rfl rfl _ rfl fun C hC hG=>(.sr rfl (.p (.assign (.i rfl) (.nil (.sr rfl (.mv rfl (.mv rfl (.p (.tmod (.t rfl) (.t rfl) (by omega) (.mv rfl (.p (.add (.t rfl) (.t rfl) (by omega) (by omega) (.mv rfl (.p (.rem (.t rfl) (.t rfl) (by omega) (by omega) (.ag rfl (.nil (.ret ?_))))))))))))))))))
 refine⟨_,.r1 a8 (.tmp a8),?_⟩
 rw [h4]
def a3X (c:UInt8):Bool:=decide (97≤c)&&decide (c≤122)
def S8 (s:Str):Bool:=decide (1≤s.l.length)&&decide (s.l.length≤16)&&s.l.all a3X
theorem all_succ {α:Type} (p:α→Bool) (l:List α) (k:Nat) (h:k < l.length):(l.take (k+1)).all p=((l.take k).all p&&p l[k]):=by
 rw [List.take_succ_eq_append_getElem h,List.all_append];simp
theorem b0r {α:Type} (p:α→Bool) (l:List α) (k:Nat) (h:k < l.length) (hf:p l[k]=false):l.all p=false:=by
 rw [List.all_eq_false];exact⟨l[k],List.getElem_mem h,by simp [hf]⟩
theorem b3f (s:Str):u1 gl Tryz.prog 119 [.v s] (fun r=>r = .v (S8 s)):=by
 refine u1.intro Tryz.func119 rfl (by kernel_rfl) 28 rfl rfl _ rfl fun C hC hG=>(.sr rfl (.p (.assign .b (.nil (.seq (.seq (.a9t 0 rfl fun hs=>(.region rfl (.mv rfl (.p (.b1e Tryz.underlying9 (.t rfl) (.p (.lss (.t rfl) (.i rfl) (.mv rfl (.go 7 rfl (.t rfl) (fun hg8 => .move (.t rfl) rfl) (.go 7 rfl (.t rfl) (fun hg9 => .b1e Tryz.underlying9 (.q rfl hg9) rfl) (.go 7 rfl (.t rfl) (fun hg10 => .gtr (.q rfl hg10) (.i rfl) rfl) (.p (.E0 (.t rfl) (fun hp=>(.q rfl hp)) (.nil ?_))))))))))))))))))))
 refine .cond (.t a8) (fun hc11 => ?_) (fun hc11 => ?_)
 ·refine .sr a8 (.p (.assign .b (.nil (.ret ?_))))
  refine⟨_,.r1 a8 (.tmp a8),?_⟩
  refine congrArg AV.v ?_;simp only [Bool.or_eq_true,decide_eq_true_eq] at hc11;unfold S8;rcases hc11 with h|h
  ·rw [decide_eq_false (show ¬1≤s.l.length by omega)];rfl
  ·rw [decide_eq_false (show ¬s.l.length≤16 by omega)];simp
 ·refine .skip (.seq (.sr a8 (.p (.assign (.i a8) (.nil (.block (.F4 (α:=Nat) [(0,_)] (fun k R=>(3,.v (k:Int))::R) (fun k => []) (fun k=>k≤s.l.length∧(s.l.take k).all a3X=true) (fun k=>s.l.length - k) (0) (.cons a8 (.nil _)) ?_ (.c2 a8 a8 (.nil _)) (a8) fun k hF => ?_)))))))
  ·simp
  obtain⟨h1,h2⟩:=hF
  refine .seq (.sr a8 (.mv a8 (.mv a8 (.p (.b1e Tryz.underlying9 (.t a8) (.p (.lss (.t a8) (.t a8) (.nil (.o8 (.t a8) (fun hc15 => ?_) (fun hc15 => ?_))))))))))
  ·refine .skip (.seq (.block (.sr a8 (.mv a8 (.mv a8 (.p (.b4F Tryz.underlying9 (.t a8) (.t a8) (by omega) (by omega) (.p (.c10 (.t a8) (.u8 97 a8) (.mv a8 (.go 22 a8 (.t a8) (fun hg23 => .move (.t a8) a8) (.go 22 a8 (.t a8) (fun hg24 => .move (.t a8) a8) (.go 22 a8 (.t a8) (fun hg25 => .b4F Tryz.underlying9 (.q a8 hg25) (.q a8 hg25) (by first|omega|(simp;omega)|(have:=hg25;simp at this;omega)) (by first|omega|(simp;omega)|(have:=hg25;simp at this;omega)) a8) (.go 22 a8 (.t a8) (fun hg26 => .c0Z (.q a8 hg26) (.u8 122 a8) a8) (.p (.E0 (.t a8) (fun hp=>(.q a8 hp)) (.nil (.cond (.t a8) (fun hc27 => ?_) (fun hc27 => ?_)))))))))))))))))))
   ·refine .sr a8 (.p (.assign .b (.nil (.ret ?_))))
    refine⟨_,.r1 a8 (.tmp a8),?_⟩
    refine congrArg AV.v (Eq.symm ?_);unfold S8;rw [b0r a3X s.l k (by omega),Bool.and_false];unfold a3X;simp only [Bool.or_eq_true,decide_eq_true_eq,Int.toNat_natCast] at hc27;rcases hc27 with h|h
    ·rw [decide_eq_false (UInt8.not_le.2 h)];rfl
    ·rw [decide_eq_false (UInt8.not_le.2 h),Bool.and_false]
   ·refine .skip (.region a8 (.mv a8 (.p (.add (.t a8) (.i a8) (by omega) (by omega) (.ag a8 (.nil ?_))))))
    refine⟨k+1,.c2 rfl rfl (.nil _),rfl,?_,by omega⟩
    refine⟨by omega,?_⟩;rw [all_succ _ _ _ (by omega),h2];simp only [Bool.or_eq_false_iff,decide_eq_false_iff_not,UInt8.not_lt,Int.toNat_natCast] at hc27;simpa [a3X] using hc27
  ·refine .exit (.sr a8 (.p (.assign .b (.nil (.ret ?_)))))
   refine⟨_,.r1 a8 (.tmp a8),?_⟩
   refine congrArg AV.v (Eq.symm ?_);simp only [Bool.or_eq_false_iff,decide_eq_false_iff_not] at hc11;unfold S8;rw [List.take_of_length_le (by omega)] at h2;rw [h2];simp;omega
def a86 (key:List UInt8):List UInt8:=key++List.replicate (64 - key.length) 0
def a18 (key:List UInt8) (x:UInt8):List UInt8:=(a86 key).map (· ^^^ x)
theorem a4A (key:List UInt8) (h:key.length≤64):(a86 key).length=64:=by simp [a86];omega
@[simp] theorem c08 (key:List UInt8) (x:UInt8):(a18 key x).length=max 64 key.length:=by simp [a18,a86];omega
theorem a5s (key:List UInt8) (x:UInt8) (h:key.length≤64):(a18 key x).length=64:=by simp [a18,a4A key h]
theorem b5F {α:Type} (f:α→α) (l:List α) (k:Nat) (h:k < l.length):((l.take k).map f++l.drop k).set k (f l[k])=(l.take (k+1)).map f++l.drop (k+1):=by
 rw [List.set_append_right _ _ (by simp;omega)]
 have e:k - ((l.take k).map f).length=0:=by simp;omega
 rw [e,List.drop_eq_getElem_cons h,List.set_cons_zero,List.take_succ_eq_append_getElem h]
 simp only [List.map_append,List.map_cons,List.map_nil,List.append_assoc,List.cons_append,List.nil_append]
theorem a88 {α:Type} (f:α→α) (l:List α) (k:Nat) (h:k < l.length) (h2:k < ((l.take k).map f++l.drop k).length):((l.take k).map f++l.drop k)[k]=l[k]:=by
 rw [List.getElem_append_right (by simp;omega)]
 simp [Nat.min_eq_left (Nat.le_of_lt h)]
theorem b7m {α:Type} (f:α→α) (l:List α) (k:Nat) (h:k < l.length) (h2:k < ((l.take k).map f++l.drop k).length):((l.take k).map f++l.drop k).set k (f (((l.take k).map f++l.drop k)[k]))=(l.take (k+1)).map f++l.drop (k+1):=by
 rw [a88 f l k h h2];exact b5F f l k h
theorem b5G (key:List UInt8) (f:UInt8→UInt8) (hk:key.length≤64):key.take (List.replicate 64 (0:UInt8)).length++(List.replicate 64 (0:UInt8)).drop key.length=((a86 key).take 0).map f++(a86 key).drop 0:=by
 rw [List.length_replicate,List.drop_replicate,List.take_of_length_le hk]
 rfl
theorem c2f (key:List UInt8) (hk:key.length≤64):(key.take (List.replicate (Int.toNat 64) (default:UInt8)).length++(List.replicate (Int.toNat 64) (default:UInt8)).drop key.length).length=64:=by
 rw [List.length_append,List.length_take,List.length_drop,List.length_replicate]
 show min 64 key.length+(64 - key.length)=64
 omega
theorem b4L (key:List UInt8) (x:UInt8) (hk:key.length≤64):u1 gl Tryz.prog 201 [.v key,.v x] (fun r=>r = .v (a18 key x)):=by
 have hl:=a4A key hk
 have e64:=c2f key hk
 refine u1.intro Tryz.func201 rfl (by kernel_rfl) 25 rfl rfl _ rfl fun C hC hG=>(.sr rfl (.p (.assign (.K4 (α:=UInt8)) (.nil (.sr rfl (.h (.make F5 (.i rfl) (by omega) (by omega) (by omega) fun b7 => .ag rfl (.nil (.sr rfl (.mv rfl (.mv rfl (.h (.b9j U1 Tryz.underlying86 rfl .z (.v (.t rfl)) (by omega) (.nil (.seq (.seq ?_))))))))))))))))
 refine .region a8 (.mv a8 (.p (.a8s Tryz.underlying86 a8 .z (.p (.move (.i a8) (.nil (.block (.F4 (α:=Nat) [(1,_),(5,_),(12,_)] (fun k R=>(13,.v (k:Int))::R) (fun k => [(true,.own 5 (slc b7 0 64 64) (((a86 key).take k).map (· ^^^ x)++(a86 key).drop k))]) (fun k=>k≤64) (fun k=>64 - k) (0) (.c2 a8 a8 (.cons a8 (.nil _))) ?_ (.c2 a8 a8 (.c2 a8 a8 (.nil _))) (congrArg (fun q => [(true,E9.own _ _ q)]) (b5G key _ hk)) fun k hF => ?_))))))))
 ·simp
 refine .sr a8 (.p (.lss (.t a8) (.t a8) (.nil (.seq (.o8 (.t a8) (fun hc14 => ?_) (fun hc14 => ?_))))))
 ·refine .skip (.seq (.block (.sr a8 (.mv a8 (.ag a8 (.nil (.region a8 (.mv a8 (.mv a8 (.p (.a2z U1 Tryz.underlying86 a8 .z (.t a8) (by omega) (by simp;omega) (.p (.b7j U1 (.t a8) .z (by simp;omega) (.mv a8 (.p (.b2C (.t a8) (.t a8) (.p (.a2z U1 Tryz.underlying86 a8 .z (.t a8) (by omega) (by simp;omega) (.n (.b5B U1 (.t a8) (.t a8) .z (by simp;omega) (.nil (.region a8 (.p (.add (.t a8) (.i a8) (by omega) (by omega) (.mv a8 (.nil ?_))))))))))))))))))))))))))
  refine⟨k+1,.c2 rfl rfl (.c2 rfl rfl (.nil _)),congrArg (fun q => [(true,E9.own _ _ q)]) (b7m (· ^^^ x) (a86 key) k (by omega) _),?_,by omega⟩
  omega
 ·refine .exit (.sr a8 (.mv a8 (.ag a8 (.nil (.y0 hC .z (.as 4 a8 .z (.ret ?_)))))))
  refine⟨_,.r1 a8 (.tmp a8),?_⟩
  refine congrArg AV.v ?_;have:k=64:=by simp at hc14;omega
  subst this;rw [List.take_of_length_le (by omega),List.drop_eq_nil_of_le (by omega),List.append_nil];rfl
theorem a6l {α:Type} (P:List α) (z:α) (n k:Nat) (hn:P.length=n) (h:k < n) (v:α) (hv:P[k]'(by omega)=v):(P.take k++List.replicate (n - k) z).set k v=P.take (k+1)++List.replicate (n - (k+1)) z:=by
 rw [List.set_append_right _ _ (by simp;omega)]
 have e:k - (P.take k).length=0:=by simp;omega
 rw [e,show n - k=(n - (k+1))+1 by omega,List.replicate_succ,List.set_cons_zero,List.take_succ_eq_append_getElem (by omega),hv]
 simp
theorem a3Y (key:List UInt8) (x:UInt8) (k:Nat) (h:k < (a18 key x).length):(a18 key x)[k]=(if h2:k < key.length then key[k] ^^^ x else x):=by
 simp only [a18,a86,List.getElem_map]
 by_cases h2:k < key.length
 ·rw [List.getElem_append_left h2,dif_pos h2]
 ·rw [List.getElem_append_right (by omega),dif_neg h2];simp
theorem a44 (key:List UInt8) (x:UInt8) (hk:key.length≤64):u1 gl Tryz.prog 182 [.v key,.v x] (fun r=>r = .vc (a18 key x)):=by
 have hl:=a4A key hk
 have hl2:=a5s key x hk
 refine u1.intro Tryz.func182 rfl (by kernel_rfl) 30 rfl rfl _ rfl fun C hC hG=>(.sr rfl (.p (.assign (.K4 (α:=UInt8)) (.nil (.sr rfl (.h (.make F5 (.i rfl) (by omega) (by omega) (by omega) fun b7 => .ag rfl (.nil (.seq (.seq ?_))))))))))
 skip
 refine .region a8 (.p (.assign (.i a8) (.nil (.block (.F4 (α:=Nat) [(0,_),(1,_),(5,_)] (fun k R=>(6,.v (k:Int))::R) (fun k => [(true,.own 5 (slc b7 0 64 64) ((a18 key x).take k++List.replicate (64 - k) 0))]) (fun k=>k≤64) (fun k=>64 - k) (0) (.c2 a8 a8 (.cons a8 (.nil _))) ?_ (.c2 a8 a8 (.c2 a8 a8 (.nil _))) (a8) fun k hF => ?_)))))
 ·omega
 refine .seq (.sr a8 (.mv a8 (.p (.lss (.t a8) (.i a8) (.nil (.o8 (.t a8) (fun hc9 => ?_) (fun hc9 => ?_)))))))
 ·refine .skip (.seq (.block (.sr a8 (.mv a8 (.mv a8 (.mv a8 (.p (.a2z U1 Tryz.underlying86 a8 .z (.t a8) (by omega) (by simp;omega) (.n (.b5B U1 (.t a8) (.t a8) .z (by simp;omega) (.nil (.sr a8 (.mv a8 (.mv a8 (.p (.len Tryz.underlying86 (.t a8) (.p (.lss (.t a8) (.t a8) (.nil (.o8 (.t a8) (fun hc19 => ?_) (fun hc19 => ?_)))))))))))))))))))))
  ·refine .region a8 (.mv a8 (.mv a8 (.mv a8 (.mv a8 (.p (.idx U1 Tryz.underlying86 (.t a8) (.t a8) (by omega) (by omega) (.p (.x3 U1 (.t a8) (.mv a8 (.p (.b2C (.t a8) (.t a8) (.p (.a2z U1 Tryz.underlying86 a8 .z (.t a8) (by omega) (by simp;omega) (.n (.b5B U1 (.t a8) (.t a8) .z (by simp;omega) (.nil (.region a8 (.mv a8 (.p (.add (.t a8) (.i a8) (by omega) (by omega) (.ag a8 (.nil ?_))))))))))))))))))))))
   refine⟨k+1,.c2 rfl rfl (.c2 rfl rfl (.nil _)),congrArg (fun q => [(true,E9.own _ _ q)]) (by first|exact a6l _ 0 64 k hl2 (by omega) x (by rw [a3Y,dif_neg (by omega)])|exact(List.set_set ..).trans (a6l _ 0 64 k hl2 (by omega) _ (by rw [a3Y,dif_pos (by omega)];rfl))),?_,by omega⟩
   omega
  ·refine .skip (.region a8 (.mv a8 (.p (.add (.t a8) (.i a8) (by omega) (by omega) (.ag a8 (.nil ?_))))))
   refine⟨k+1,.c2 rfl rfl (.c2 rfl rfl (.nil _)),congrArg (fun q => [(true,E9.own _ _ q)]) (by first|exact a6l _ 0 64 k hl2 (by omega) x (by rw [a3Y,dif_neg (by omega)])|exact(List.set_set ..).trans (a6l _ 0 64 k hl2 (by omega) _ (by rw [a3Y,dif_pos (by omega)];rfl))),?_,by omega⟩
   omega
 ·refine .exit (.sr a8 (.mv a8 (.ag a8 (.nil (.c24 hC .z (by rw [List.length_append,List.length_take,List.length_replicate,hl2];omega) (.as 4 a8 .z (.ret ?_)))))))
  refine⟨_,.r1 a8 (.tmp a8),?_⟩
  refine congrArg AV.vc ?_;have:k=64:=by omega
  subst this;rw [List.take_of_length_le (by rw [a5s key x hk];omega)];simp
def a0e (key m:List UInt8):Tag :=
 let k:=if key.length>64 then (sha key).l else key
 sha (a18 k 92++(sha (a18 k 54++m)).l)
theorem a45 (key m:List UInt8) (h1:key.length≤1000000) (h2:m.length≤1000000):u1 gl Tryz.prog 133 [.v key,.v m] (fun r=>r = .v (a0e key m)):=by
 refine u1.intro Tryz.func133 rfl (by kernel_rfl) 23 rfl rfl _ rfl fun C hC hG=>(.sr rfl (.h (.alloc p3 fun b4=>(.nil (.seq (.sr rfl (.mv rfl (.p (.len Tryz.underlying86 (.t rfl) (.p (.gtr (.t rfl) (.i rfl) (.nil (.o8 (.t rfl) (fun hc9 => ?_) (fun hc9 => ?_))))))))))))))
 ·refine .sr a8 (.mv a8 (.p (.m9 hG (a8x _ (by omega)) (.cons (.t a8) .nil) (.h (.alloc p3 fun b5 => .n (.C8 p3 (.t a8) (.t a8) .z (.B0 hC .z (.Q5 5 a8 .z (.nil (.region a8 (.p (.P5 (by decide) O7 (.t a8) (.ag a8 (.nil (.sr a8 (.mv a8 (.p (.m9 hG (a44 _ _ (by simp)) (.cons (.t a8) (.cons (.u8 54 a8) .nil)) (.mv a8 (.p (.a0A F5 (.inl ⟨_,Tryz.underlying86⟩) (.t a8) (.v (.t a8)) (by simp;omega) (by simp;omega) (.p (.m9 hG (a8x _ (by simp;omega)) (.cons (.t a8) .nil) (.h (.alloc p3 fun b6=>(.n (.C8 p3 (.t a8) (.t a8) .z (.B0 hC .z (.Q5 6 a8 .z ?_)))))))))))))))))))))))))))))
  refine .nil (.seq (.draw (by kernel_rfl) 5 [[],[(18,0)],[],[(19,1),(20,2)],[(21,3)]] a8 (by kernel_rfl) a8 ?_))
  refine⟨_,j6.move (.t a8) a8,?_⟩
  refine⟨_,j6.m9 hG (a44 _ _ (by simp)) (.cons (.t a8) (.cons (.u8 92 a8) .nil)) a8,?_⟩
  refine⟨_,j6.P5 (by decide) O7 (.t a8) a8,?_⟩
  refine⟨_,j6.a0A F5 (.inl ⟨_,Tryz.underlying86⟩) (.t a8) (.v (.t a8)) (by simp) (by simp) a8,?_⟩
  refine⟨_,j6.m9 hG (a8x _ (by simp)) (.cons (.t a8) .nil) a8,?_⟩
  show F8 _ _ _ _ _ _ ((22,_)::(21,_)::(20,_)::(19,_)::(18,_)::_) _
  refine .n (.C8 p3 (.t a8) (.t a8) .z2 (.nil (.ret ?_)))
  refine⟨_,.r1 a8 (.cell p3 a8 .z2),?_⟩
  show _=AV.v (a0e key m)
  simp only [a0e,if_pos (show key.length>64 by omega),a7Z,a3W,a6i,List.nil_append]
 ·refine .skip (.sr a8 (.mv a8 (.p (.m9 hG (a44 _ _ (by omega)) (.cons (.t a8) (.cons (.u8 54 a8) .nil)) (.mv a8 (.p (.a0A F5 (.inl ⟨_,Tryz.underlying86⟩) (.t a8) (.v (.t a8)) (by simp;omega) (by simp;omega) (.p (.m9 hG (a8x _ (by simp;omega)) (.cons (.t a8) .nil) (.h (.alloc p3 fun b6=>(.n (.C8 p3 (.t a8) (.t a8) .z (.B0 hC .z (.Q5 6 a8 .z (.nil (.seq (.draw (by kernel_rfl) 5 [[],[(18,0)],[],[(19,1),(20,2)],[(21,3)]] a8 (by kernel_rfl) a8 ?_))))))))))))))))))
  refine⟨_,j6.move (.t a8) a8,?_⟩
  refine⟨_,j6.m9 hG (a44 _ _ (by omega)) (.cons (.t a8) (.cons (.u8 92 a8) .nil)) a8,?_⟩
  refine⟨_,j6.P5 (by decide) O7 (.t a8) a8,?_⟩
  refine⟨_,j6.a0A F5 (.inl ⟨_,Tryz.underlying86⟩) (.t a8) (.v (.t a8)) (by simp;omega) (by simp;omega) a8,?_⟩
  refine⟨_,j6.m9 hG (a8x _ (by simp;omega)) (.cons (.t a8) .nil) a8,?_⟩
  show F8 _ _ _ _ _ _ ((22,_)::(21,_)::(20,_)::(19,_)::(18,_)::_) _
  refine .n (.C8 p3 (.t a8) (.t a8) .z1 (.nil (.ret ?_)))
  refine⟨_,.r1 a8 (.cell p3 a8 .z1),?_⟩
  show _=AV.v (a0e key m)
  simp only [a0e,if_neg (show ¬key.length>64 by omega),a7Z,a3W,a6i,List.nil_append]
theorem a8y (key m:List UInt8) (h1:key.length≤1000000) (h2:m.length≤1000000):u1 gl Tryz.prog 161 [.v key,.v m] (fun r=>r = .v (a0e key m)):=by
 refine u1.intro Tryz.func161 rfl (by kernel_rfl) 27 rfl rfl _ rfl fun C hC hG=>(.sr rfl (.h (.alloc p3 fun b4=>(.nil (.seq (.sr rfl (.mv rfl (.p (.len Tryz.underlying86 (.t rfl) (.p (.gtr (.t rfl) (.i rfl) (.nil (.o8 (.t rfl) (fun hc9 => ?_) (fun hc9 => ?_))))))))))))))
 ·refine .sr a8 (.mv a8 (.p (.m9 hG (c3f _ (by omega)) (.cons (.t a8) .nil) (.h (.alloc p3 fun b5 => .n (.C8 p3 (.t a8) (.t a8) .z (.B0 hC .z (.Q5 5 a8 .z (.nil (.region a8 (.p (.P5 (by decide) O7 (.t a8) (.ag a8 (.nil (.sr a8 (.p (.m9 hG (b4J) .nil (.mv a8 (.p (.m9 hG (b4L _ _ (by simp)) (.cons (.t a8) (.cons (.u8 54 a8) .nil)) (.p (.m9 hG (a2U _ _ (by simp) (by simp) (by simp)) (.cons (.t a8) (.cons (.t a8) .nil)) (.mv a8 (.p (.m9 hG (a2U _ _ (by simp) (by simp;omega) (by simp;omega)) (.cons (.t a8) (.cons (.t a8) .nil)) (.p (.m9 hG (b4K _ (by simp;omega) (by simp;omega) (by simp;omega)) (.cons (.t a8) .nil) (.h (.alloc p3 fun b6 => .n (.C8 p3 (.t a8) (.t a8) .z (.B0 hC .z (.Q5 6 a8 .z ?_))))))))))))))))))))))))))))))))
  refine .nil (.seq (.draw (by kernel_rfl) 7 [[],[],[(21,1)],[(20,0),(22,2)],[],[(23,3),(24,4)],[(25,5)]] a8 (by kernel_rfl) a8 ?_))
  refine⟨_,j6.m9 hG (b4J) .nil a8,?_⟩
  refine⟨_,j6.move (.t a8) a8,?_⟩
  refine⟨_,j6.m9 hG (b4L _ _ (by simp)) (.cons (.t a8) (.cons (.u8 92 a8) .nil)) a8,?_⟩
  refine⟨_,j6.m9 hG (a2U _ _ (by simp) (by simp) (by simp)) (.cons (.t a8) (.cons (.t a8) .nil)) a8,?_⟩
  refine⟨_,j6.P5 (by decide) O7 (.t a8) a8,?_⟩
  refine⟨_,j6.m9 hG (a2U _ _ (by simp) (by simp) (by simp)) (.cons (.t a8) (.cons (.t a8) .nil)) a8,?_⟩
  refine⟨_,j6.m9 hG (b4K _ (by simp) (by simp) (by simp)) (.cons (.t a8) .nil) a8,?_⟩
  show F8 _ _ _ _ _ _ ((26,_)::(25,_)::(24,_)::(23,_)::(22,_)::(21,_)::(20,_)::_) _
  refine .n (.C8 p3 (.t a8) (.t a8) .z2 (.nil (.ret ?_)))
  refine⟨_,.r1 a8 (.cell p3 a8 .z2),?_⟩
  show _=AV.v (a0e key m)
  simp only [a0e,if_pos (show key.length>64 by omega),a7Z,a3W,a6i,List.nil_append]
 ·refine .skip (.sr a8 (.p (.m9 hG (b4J) .nil (.mv a8 (.p (.m9 hG (b4L _ _ (by omega)) (.cons (.t a8) (.cons (.u8 54 a8) .nil)) (.p (.m9 hG (a2U _ _ (by simp) (by simp;omega) (by simp;omega)) (.cons (.t a8) (.cons (.t a8) .nil)) (.mv a8 (.p (.m9 hG (a2U _ _ (by simp) (by simp;omega) (by simp;omega)) (.cons (.t a8) (.cons (.t a8) .nil)) (.p (.m9 hG (b4K _ (by simp;omega) (by simp;omega) (by simp;omega)) (.cons (.t a8) .nil) (.h (.alloc p3 fun b6 => .n (.C8 p3 (.t a8) (.t a8) .z (.B0 hC .z (.Q5 6 a8 .z (.nil (.seq (.draw (by kernel_rfl) 7 [[],[],[(21,1)],[(20,0),(22,2)],[],[(23,3),(24,4)],[(25,5)]] a8 (by kernel_rfl) a8 ?_)))))))))))))))))))))
  refine⟨_,j6.m9 hG (b4J) .nil a8,?_⟩
  refine⟨_,j6.move (.t a8) a8,?_⟩
  refine⟨_,j6.m9 hG (b4L _ _ (by omega)) (.cons (.t a8) (.cons (.u8 92 a8) .nil)) a8,?_⟩
  refine⟨_,j6.m9 hG (a2U _ _ (by simp) (by simp;omega) (by simp;omega)) (.cons (.t a8) (.cons (.t a8) .nil)) a8,?_⟩
  refine⟨_,j6.P5 (by decide) O7 (.t a8) a8,?_⟩
  refine⟨_,j6.m9 hG (a2U _ _ (by simp) (by simp;omega) (by simp;omega)) (.cons (.t a8) (.cons (.t a8) .nil)) a8,?_⟩
  refine⟨_,j6.m9 hG (b4K _ (by simp;omega) (by simp;omega) (by simp;omega)) (.cons (.t a8) .nil) a8,?_⟩
  show F8 _ _ _ _ _ _ ((26,_)::(25,_)::(24,_)::(23,_)::(22,_)::(21,_)::(20,_)::_) _
  refine .n (.C8 p3 (.t a8) (.t a8) .z1 (.nil (.ret ?_)))
  refine⟨_,.r1 a8 (.cell p3 a8 .z1),?_⟩
  show _=AV.v (a0e key m)
  simp only [a0e,if_neg (show ¬key.length>64 by omega),a7Z,a3W,a6i,List.nil_append]
open Go.Fl Go.Ab Go.Mac Go.Sha
theorem b5H (n:Int) (h0:0≤n) (h1:n < 9223372036854775808) (k:Nat) (hk:k < 64):UInt8.ofInt (n >>> k)=(UInt64.ofInt n >>> UInt64.ofNat k).toUInt8:=by
 obtain⟨m,rfl⟩:=Int.eq_ofNat_of_zero_le h0
 rw [show((m:Int) >>> k)=((m >>> k:Nat):Int) from rfl]
 apply UInt8.toNat_inj.1
 have e1:(UInt64.ofInt (m:Int)).toNat=m % 2^64:=by
  simp [UInt64.ofInt];omega
 have e2:(UInt64.ofNat k).toNat=k:=by simp;omega
 have e3:(UInt8.ofInt ((m >>> k:Nat):Int)).toNat=(m >>> k) % 256:=by
  generalize m >>> k=q
  simp [UInt8.ofInt];omega
 rw [e3,UInt64.toNat_toUInt8,UInt64.toNat_shiftRight,e1,e2]
 rw [Nat.mod_eq_of_lt hk,Nat.mod_eq_of_lt (show m < 2^64 by omega)]
attribute [local simp] E1
def derive (key:Tag) (name:Str) (n:Int):Tag×Int :=
 if S8 name=false then (default,7) else if n < 0∨281474976710656 < n then (default,1) else (a0e key.l (name.l ++ [0]++R7 (UInt64.ofInt n) 8),0)
theorem b5I (key:Tag) (name:Str) (n:Int) (hs:name.l.length≤1000):u1 gl Tryz.prog 137 [.v key,.v name,.v n] (fun r=>r = .t2 (.v (derive key name n).1) (.v (derive key name n).2)):=by
 refine u1.intro Tryz.func137 rfl (by kernel_rfl) 29 rfl rfl _ rfl fun C hC hG=>(.sr rfl (.h (.box (.t rfl) fun b3 => .h (.alloc p3 fun b6 => .p (.assign (.i rfl) (.nil (.seq (.sr rfl (.mv rfl (.p (.m9 hG (b3f _) (.cons (.t rfl) .nil) (.p (.not (.t rfl) (.nil (.cond (.t rfl) (fun hc10 => ?_) (fun hc10 => ?_))))))))))))))))
 ·refine .sr a8 (.p (.Q2 (default:(J7 32 UInt8)) p3 O7 .nil a8 (.n (.C8 p3 (.t a8) (.t a8) .z (.p (.assign (.i a8) (.nil (.ret ?_))))))))
  refine⟨_,.r2 a8 (.cell p3 a8 .z) (.tmp a8),?_⟩
  have e:derive key name n=(default,7):=by unfold derive;rw [if_pos (by simpa using hc10)]
  rw [e]
 ·refine .skip (.seq (.sr a8 (.mv a8 (.p (.lss (.t a8) (.i a8) (.mv a8 (.go 14 a8 (.t a8) (fun hg15 => .move (.t a8) a8) (.go 14 a8 (.t a8) (fun hg16 => .gtr (.q a8 hg16) (.i a8) a8) (.p (.E0 (.t a8) (fun hp=>(.q a8 hp)) (.nil (.cond (.t a8) (fun hc17 => ?_) (fun hc17 => ?_)))))))))))))
  ·refine .sr a8 (.p (.Q2 (default:(J7 32 UInt8)) p3 O7 .nil a8 (.n (.C8 p3 (.t a8) (.t a8) .z (.p (.assign (.i a8) (.nil (.ret ?_))))))))
   refine⟨_,.r2 a8 (.cell p3 a8 .z) (.tmp a8),?_⟩
   have e:derive key name n=(default,1):=by unfold derive;rw [if_neg (by simpa using hc10),if_pos (by simpa using hc17)]
   rw [e]
  ·refine .skip (.seq (.B0 hC .z1 (.Q5 3 a8 .z1 (.a7l (by kernel_rfl) 10 [[],[],[(20,1)],[],[(21,2),(22,3)],[],[(24,5)],[(25,6)],[(23,4),(26,7)],[(19,0),(27,8)]] [2,4,8,9] a8 (by kernel_rfl) a8 (by kernel_rfl) (by decide) ?_))))
   refine⟨_,fun H=>j6.P5 (by decide) O7 (.t a8) a8,?_⟩
   refine⟨_,fun H=>j6.move (.t a8) a8,?_⟩
   refine .inl ?_
   refine⟨_,fun H=>j6.G7 (α:=UInt8) U1 Tryz.underlying86 (.cons (.u8 0 a8) .nil) a8 (by decide) a8,?_⟩
   refine .inl ?_
   refine⟨_,fun H=>j6.move (.t a8) a8,?_⟩
   refine⟨_,fun H=>j6.M5 Tryz.underlying3 Tryz.underlying77 (.t a8) a8,?_⟩
   refine⟨_,fun H=>j6.m9 hG (b0q _) (.cons (.t a8) .nil) a8,?_⟩
   refine .inl (.inl ?_)
   refine A6.W9 Tryz.underlying9 Tryz.underlying86 Tryz.underlying5 (.t rfl) fun w21 => ?_
   refine A6.append F5 (.inl ⟨_,Tryz.underlying86⟩) rfl .z (.v (.c rfl)) (by simp;omega) (by simp;omega) (fun w23 => ?_) rfl
   refine A6.append F5 (.inl ⟨_,Tryz.underlying86⟩) rfl .z (.v (.t rfl)) (by simp;omega) (by simp;omega) (fun w27 => ?_) rfl
   refine A6.y0 hC .z (A6.as 27 rfl .z (A6.ofP (j6.m9 hG (a45 _ _ (by simp) (by simp;omega)) (.cons (.t rfl) (.cons (.t rfl) .nil)) ?_)))
   show F8 _ _ _ _ _ _ ((28,_)::(27,_)::(26,_)::(25,_)::(24,_)::(23,_)::(22,_)::(21,_)::(20,_)::(19,_)::_) _
   refine .n (.C8 p3 (.t a8) (.t a8) .z1 (.p (.assign (.i a8) (.nil (.ret ?_)))))
   refine⟨_,.r2 a8 (.cell p3 a8 .z1) (.tmp a8),?_⟩
   have e:derive key name n=(a0e key.l (name.l ++ [0]++R7 (UInt64.ofInt n) 8),0):=by unfold derive;rw [if_neg (by simpa using hc10),if_neg (by simpa using hc17)]
   rw [e]
abbrev dk (w:Value):AV := .ln w (m5.id (α:=o5))
theorem b5J (l:List Int):G5 gl Tryz.prog 12 [.v l] [] (fun r Hs=>∃ b,r=dk (ptr b 0)∧Hs = [.ob (ptr b 0) (⟨l,0⟩:o5)]):=by
 refine G5.intro Tryz.func12 rfl (by kernel_rfl) 6 rfl rfl _ rfl _ rfl fun C hC hG=>(.sr rfl (.p (.assign .raw (.nil (.sr rfl (.mv rfl (.p (.bS1 o5.l0 rfl c18 c1Q (fun c0=>(⟨c0,0⟩:o5)) (fun _=>rfl) rfl rfl (.t rfl) (.h (.box (.t rfl) fun b5 => .ag rfl (.nil (.ret ?_))))))))))))
 refine⟨_,.r1 a8 (.tmp a8),?_⟩
 exact⟨b5,a8,a8⟩
def R8 (d:o5) (n:Int):Int×o5 :=
 if h:d.At.toNat < d.L.length then (d.L[d.At.toNat] % n,⟨d.L,d.At+1⟩) else (0,d)
def L5 (d:o5):Prop:=0≤d.At
theorem V7 {d:o5} {n:Int} (h:L5 d):L5 (R8 d n).2:=by
 unfold R8;split
 ·show 0≤d.At+1
  unfold L5 at h;omega
 ·exact h
theorem Z1 {d:o5} {n:Int} (h:0 < n):0≤(R8 d n).1∧(R8 d n).1 < n:=by
 unfold R8;split
 ·exact⟨Int.emod_nonneg _ (by omega),Int.emod_lt_of_pos _ h⟩
 ·exact⟨Int.le_refl 0,h⟩
theorem a4B (w : Value) (d : o5) (n : Int) (hd : L5 d) (h0 : 0 < n) (h1 : n ≤ 4611686018427387904) :
    G5 gl Tryz.prog 19 [dk w,.v n] [.ob w d] (fun r Hs=>r = .v (R8 d n).1∧Hs = [.ob w (R8 d n).2]):=by
  unfold L5 at hd
  refine G5.intro Tryz.func19 rfl (by kernel_rfl) 35 rfl rfl _ rfl _ rfl fun C hC hG=>(.sr rfl (.p (.assign (.i rfl) (.nil (.seq (.seq (.draw (by kernel_rfl) 10 [[],[(5,0)],[(6,1)],[(7,2)],[],[(9,4)],[(10,5)],[(11,6)],[(12,7)],[(8,3),(13,8)]] rfl (by kernel_rfl) rfl ?_)))))))
  refine⟨_,j6.move (.t a8) a8,?_⟩
  refine⟨_,j6.D9 (.t a8) a8,?_⟩
  refine⟨_,j6.x4 o5.l1 a7S a8 (.t a8) a8,?_⟩
  refine⟨_,j6.K0 (fun x=>x.At) D0 (.t a8) .z (fun _=>a8) a8,?_⟩
  refine⟨_,j6.move (.t a8) a8,?_⟩
  refine⟨_,j6.D9 (.t a8) a8,?_⟩
  refine⟨_,j6.x4 o5.l0 b4m a8 (.t a8) a8,?_⟩
  refine⟨_,j6.K0 (fun x=>x.L) c16 (.t a8) .z (fun _=>a8) a8,?_⟩
  refine⟨_,j6.len Tryz.underlying33 (.t a8) a8,?_⟩
  refine⟨_,j6.geq (.t a8) (.t a8) a8,?_⟩
  show F8 _ _ _ _ _ _ ((14,_)::(13,_)::(12,_)::(11,_)::(10,_)::(9,_)::(8,_)::(7,_)::(6,_)::(5,_)::_) _
  refine .nil (.o8 (.t a8) (fun hc14 => ?_) (fun hc14 => ?_))
  · refine .sr a8 (.p (.assign (.i a8) (.nil (.ret ?_))))
    refine⟨_,.r1 a8 (.tmp a8),?_⟩
    have e:R8 d n=(0,d):=by unfold R8;rw [dif_neg (by omega)]
    rw [e];exact⟨rfl,rfl⟩
  · refine .skip (.seq (.Y4 12 a8 fun hl=>(.region a8 (.mv a8 (.p (.D9 (.t a8) (.p (.x4 o5.l1 a7S a8 (.t a8) (.p (.K0 (fun x=>x.At) D0 (.t a8) .z (fun _=>a8) (.p (.add (.t a8) (.i a8) (by omega) (by omega) (.p (.D9 (.t a8) (.p (.x4 o5.l1 a7S a8 (.t a8) (.n (.U0 (fun y x => { x with At:=y }) D0 (.t a8) (.t a8) .z (fun _ _=>a8) (.nil (.seq (.draw (by kernel_rfl) 14 [[],[(22,0)],[(23,1)],[(24,2)],[],[(26,4)],[(27,5)],[(28,6)],[(29,7)],[(25,3),(30,8)],[(31,9)],[],[(32,10),(33,11)],[(34,12)]] a8 (by kernel_rfl) a8 ?_)))))))))))))))))))))
    refine⟨_,j6.move (.t a8) a8,?_⟩
    refine⟨_,j6.D9 (.t a8) a8,?_⟩
    refine⟨_,j6.x4 o5.l0 b4m a8 (.t a8) a8,?_⟩
    refine⟨_,j6.K0 (fun x=>x.L) c16 (.t a8) .z (fun _=>a8) a8,?_⟩
    refine⟨_,j6.move (.t a8) a8,?_⟩
    refine⟨_,j6.D9 (.t a8) a8,?_⟩
    refine⟨_,j6.x4 o5.l1 a7S a8 (.t a8) a8,?_⟩
    refine⟨_,j6.K0 (fun x=>x.At) D0 (.t a8) .z (fun _=>a8) a8,?_⟩
    refine⟨_,j6.sub (.t a8) (.i a8) (by simp;omega) (by simp;omega) a8,?_⟩
    refine⟨_,j6.idx D0 Tryz.underlying33 (.t a8) (.t a8) (by simp;omega) (by simp;omega) a8,?_⟩
    refine⟨_,j6.x3 D0 (.t a8) a8,?_⟩
    refine⟨_,j6.move (.t a8) a8,?_⟩
    refine⟨_,j6.m9 hG (b7l _ _ (by omega) (by omega)) (.cons (.t a8) (.cons (.t a8) .nil)) a8,?_⟩
    refine⟨_,j6.assign (.t a8) a8,?_⟩
    show F8 _ _ _ _ _ _ ((4,_)::(34,_)::(33,_)::(32,_)::(31,_)::(30,_)::(29,_)::(28,_)::(27,_)::(26,_)::(25,_)::(24,_)::(23,_)::(22,_)::_) _
    refine .nil (.ret ?_)
    refine⟨_,.r1 a8 (.tmp a8),?_⟩
    have e:R8 d n=(d.L[d.At.toNat]'(by omega) % n,⟨d.L,d.At+1⟩):=by unfold R8;rw [dif_pos (by omega)]
    rw [e];refine⟨congrArg AV.v ?_,rfl⟩;simp only [Int.add_sub_cancel]
end Go.Proofs.YtmmclghiidoldaaGreatDoor
namespace Go.Ab
open Go.Fl Go.RowKit
open p9 (rep)
def Clo (P:Program) {ι:Type} (ags:ι→List AV) (r:ι→AV) (I:Im) (u:Value):Prop :=
 ∃ f fi ca,u = .func (.func f) fi ca∧∀ J,Le I J→∀ i vs,S4 J (ags i) vs→Fun P f (fi++vs.toArray++ca) J (fun v K=>H4 K (r i) v)
theorem Clo.mono {P:Program} {ι:Type} {ags:ι→List AV} {r:ι→AV} {I J:Im} {u:Value} (hle:Le I J) (h:Clo P ags r I u):Clo P ags r J u:=by
 obtain⟨f,fi,ca,h1,h2⟩:=h
 exact⟨f,fi,ca,h1,fun K hk=>h2 K (hle.trans hk)⟩
def AV.clo (P:Program) {ι:Type} (ags:ι→List AV) (r:ι→AV):AV := .pr (Clo P ags r) Clo.mono
def AV.a8z (P:Program) {α β:Type} [p9 α] [p9 β] (g:α→β):AV := .clo P (fun x:α => [.v x]) (fun x => .v (g x))
theorem b1D {P : Program} {f : FuncId} {fi ca : Array Value} (ok : a6C P f) {a : Act} {w : World} {o : Oper} {F : Operand} {args : Array Operand} {tys : Array TypeId} (ho : o.op = .call ⟨.value F, args, tys⟩)
    (hF:a.eval F = .func (.func f) fi ca) {vs:List Value} (hv:args.toList.map a.eval=vs):(execOp a.eval o).run P w = .ok (.enter f (fi++vs.toArray++ca)) w:=by
  obtain⟨fn,h1,h2,h3⟩:=ok.ok
  subst hv
  have hargs:args.map a.eval=(args.toList.map a.eval).toArray:=by cases args;simp
  have h2':¬fn.name = "runtime.NumGoroutine" := by simpa using h2
  have h3':fn.body≠none:=by intro e;simp [e] at h3
  simp [execOp,ho,resolve,Deferred.ofValue,hF,invoke,callFunc,program,Sem.run,h1,h2',h3',←hargs]
theorem OpX.c2h {P : Program} {N : Nat} {ρ : Env} {I : Im} {L : Lh} {f : FuncId} {fi ca : Array Value} {d : Option Nat} {F : Operand} {args : Array Operand} {tys : Array TypeId} {ty : TypeId} {ps : String} {af : Array Edge} {g : Option (Nat × Bool)} {vs : List Value}
    {post:Value→Im→Prop} {K:Value→Im→Lh→Prop} (hF:ev ρ F=some (.func (.func f) fi ca)) (hv:evL ρ args.toList=some vs) (h:Fun P f (fi++vs.toArray++ca) I post)
    (k:∀ v J,Le I J→post v J→K v J []):OpX P N ⟨d,.call ⟨.value F,args,tys⟩,ty,ps,af,g⟩ ρ I L K:=fun a w ha hm=>by
  rw [b1D h.ok rfl (ha.ev hF) (ha.evL hv)]
  refine(h.run w hm.drop).mono ?_
  rintro e w' ⟨v,J,rfl,hc,hle,hn,hm',hp⟩
  refine⟨v,rfl,J,[],hc,hle,hn,?_,by simp,k v J hle hp⟩
  have hlt:∀ p∈L.flatten,p.1 < w.heap.size:=fun p hp=>y6 (hm.loc p hp)
  refine⟨hm'.im,fun p hp=>(hc.block p.1 (hlt p hp) (by simp)).trans (hm.loc p hp),fun p hp => ?_,hm.nodup⟩
  cases hj:J p.1 with
  | none=>rfl
  | some o=>exact absurd (hn p.1 (hm.sep p hp) (by simp [hj])) (by have:=hlt p hp;omega)
section clo
variable {P:Program} {C:Ctx} {N:Nat} {σ:y2} {H:j9} {G:Gl} {f:FuncId} {d:Option Nat} {args:Array Operand} {tys:Array TypeId} {ty:TypeId} {ps:String} {af:Array Edge} {g:Option (Nat×Bool)} {K:AV→Prop}
theorem j6.b4M {ι : Type} {ags : ι → List AV} {r : ι → AV} {t : Nat} (i : ι) (ht : G4 σ t = some (.clo P ags r)) (hv : a3u C σ H args.toList (ags i)) (k : K (r i)) :
    j6 P N C ⟨d,.call ⟨.value (.tmp t),args,tys⟩,ty,ps,af,g⟩ σ H K:=fun ρ I L hs=>by
  obtain⟨u,h1,f,fi,ca,rfl,h2⟩:=hs.env t _ ht
  obtain⟨vs,h3,h4⟩:=hv.get hs
  exact OpX.c2h (F := .tmp t) h1 h3 (h2 I (Le.refl I) i vs h4) fun v J hle h5=>⟨rfl,r i,h5,k⟩
theorem j6.a4C {α β : Type} [p9 α] [p9 β] {g1 : α → β} {x : α} {t : Nat} {a : Operand} (ht : G4 σ t = some (.a8z P g1)) (ha : F1 C σ H a (.v x)) (k : K (.v (g1 x))) :
    j6 P N C ⟨d,.call ⟨.value (.tmp t),#[a],tys⟩,ty,ps,af,g⟩ σ H K := .b4M (ags:=fun x:α => [.v x]) (r:=fun x => .v (g1 x)) x ht (.cons ha .nil) k
theorem S4.append {I:Im}:∀ {ags bs:List AV} {vs ws:List Value},S4 I ags vs→S4 I bs ws→S4 I (ags++bs) (vs++ws)
 | [],_,_,_,h,k=>by simp [S4] at h;subst h;simpa using k
 | a::ags,_,_,_,h,k=>by obtain⟨v,r,rfl,h2,h3⟩:=h;exact⟨v,r++_,rfl,h2,h3.append k⟩
theorem j6.c0v (hG : G.p C.I0) {ι : Type} {ags : ι → List AV} {r : ι → AV} {caps : List AV} (h : ∀ i, u1 G P f (ags i ++ caps) (fun x => x = r i)) (hv : a3u C σ H args.toList caps) (k : K (.clo P ags r)) :
    j6 P N C ⟨d,.makeFunc (.func f) #[] args,ty,ps,af,g⟩ σ H K := .B2 (.clo P ags r) (fun ρ I L hs=>fun a w ha hm=>by
      obtain⟨vs,h1,h2⟩:=hv.get hs
      have e:=ha.evL h1
      have hargs:args.map a.eval=vs.toArray:=by rw [←e];cases args;simp
      refine⟨.func (.func f) #[] vs.toArray,⟨f,#[],vs.toArray,rfl,fun J hle i ws hw => ?_⟩,by simp [execOp,Instr.makeFunc,hargs]⟩
      have h3:=h i J (ws++vs) (G.mono (hs.V5.trans hle) hG) (hw.append (h2.mono hle))
      simp only [List.append_toArray]
      exact h3.mono fun v K _ ⟨x,h4,h5⟩=>h5▸h4) k
theorem j6.b0s (hG : G.p C.I0) {α β : Type} [p9 α] [p9 β] {g1 : α → β} {caps : List AV} (h : ∀ x, u1 G P f (.v x :: caps) (fun r => r = .v (g1 x))) (hv : a3u C σ H args.toList caps) (k : K (.a8z P g1)) :
    j6 P N C ⟨d,.makeFunc (.func f) #[] args,ty,ps,af,g⟩ σ H K := .c0v hG (ags:=fun x:α => [.v x]) (r:=fun x => .v (g1 x)) h hv k
theorem F1.c3g (hG:G.p C.I0) {ι:Type} {ags:ι→List AV} {r:ι→AV} (h:∀ i,u1 G P f (ags i) (fun x=>x=r i)):F1 C σ H (.func f) (.clo P ags r):=fun ρ I L hs =>
 ⟨_,rfl,f,#[],#[],rfl,fun J hle i ws hw=>by
  simp only [Array.empty_append,Array.append_empty]
  exact(h i J ws (G.mono (hs.V5.trans hle) hG) hw).mono fun v K _ ⟨x,h4,h5⟩=>h5▸h4⟩
end clo
end Go.Ab
namespace Go.Ab
open Go.Fl Go.RowKit
open p9 (rep)
section rules
variable {P:Program} {C:Ctx} {N:Nat} {σ:y2} {H:j9} {d:Option Nat} {ty:TypeId} {ps:String} {af:Array Edge} {g:Option (Nat×Bool)} {K:AV→Prop} {KH:AV→j9→Prop} {x y z:Operand} {T T2 E S D U:TypeId}
theorem a7m:∀ (l:List UInt8) (s:ByteArray),(l.map (fun c=>(c.toNat:Int))).foldl (fun r n=>r.push (UInt8.ofNat n.toNat)) s=⟨s.data++l.toArray⟩
 | [],s=>by simp
 | c::l,s=>by
  rw [List.map_cons,List.foldl_cons,a7m l]
  simp [ByteArray.push]
theorem j6.b1E {l : List UInt8} (hS : P.underlying S = some (.slice E)) (hE : P.underlying E = some (.int .u8)) (hD : P.underlying D = some .string) (hx : F1 C σ H x (.v l)) (k : K (.v (Str.mk l))) :
    j6 P N C ⟨d,.convert S D x,ty,ps,af,g⟩ σ H K :=
  .vk k (fun ρ I L hs => .mk ⟨[.string ⟨l.toArray⟩], ⟨⟨_, rfl, by simp⟩, by
      obtain⟨u,h1,xs,⟨a,c,rfl,h2,h3,h4,_⟩,_⟩:=hx.sl hs
      unfold maxLen at h4;show l.length≤_;omega⟩,rfl⟩ fun ac w ha hm=>by
    obtain⟨u,h1,xs,hsl,hl⟩:=hx.sl hs
    obtain rfl:=a2R.1 hl
    obtain⟨a,c,rfl,h2,h3,h4,h5,h6⟩:=hsl
    have hrun:(convert S D (.slice a l.length c)).run P w = .ok (.string ⟨l.toArray⟩) w:=by
      rw [run_convert_bytes_string w S D E a l.length c hS hE hD]
      cases a with
      | none =>
        have hc:=h5 rfl
        have:l = []:=List.eq_nil_of_length_eq_zero (by omega)
        subst this
        simp [Conv.bytesToString];rfl
      | some ad =>
        have hload:(loadCells ad l.length).run P w = .ok ((l.map (fun c=>(c.toNat:Int))).map (Value.int .u8)).toArray w:=by
          have h7:=run_loadCells_list (P:=P) w ad (u9 l) (fun j v hj=>by
            have hne:u9 l ≠ []:=by intro e;simp [e] at hj
            obtain⟨b,o,hab,hcl⟩:=h6 hne
            cases hab
            have:=hcl.cell hm hj
            have hplain:(⟨b,o,none⟩:Addr).add j=⟨b,o+j,none⟩:=by unfold Addr.add;split<;>simp_all
            rw [hplain];exact this)
          have e1:(u9 l).length=l.length:=by simp [u9]
          have e2:(l.map (fun c=>(c.toNat:Int))).map (Value.int .u8)=u9 l:=by simp [u9,Fl.u8]
          rw [e1] at h7
          rw [e2];exact h7
        rw [run_bytesToString w ad l.length c _ hload,a7m]
        simp [ByteArray.empty,ByteArray.emptyWithCapacity]
        rfl
    simp [execOp,ha.ev h1,hrun,asV,p9.agg])
theorem j6.b3g {α : Type} {r : p9 α} {l : List α} (hT : P.underlying T = some (.slice E)) (hx : F1 C σ H x (.v l)) (k : ∀ c : Bool, (c = true → l = []) → K (.v c)) :
    j6 P N C ⟨d,.binOp .eql T x (.const (.slice none 0 0)) T2,ty,ps,af,g⟩ σ H K:=fun ρ I L hs=>by
  obtain⟨u,h1,xs,⟨a,c,rfl,h2,h3,h4,h5,h6⟩,hl⟩:=hx.sl hs
  refine .B2 (I9.b4j hT h1 a8 ⟨a8,.v a.isNone,⟨_,a8,a8⟩,k _ fun e => ?_⟩)
  have:=h5 (by simpa using e)
  exact List.eq_nil_of_length_eq_zero (by omega)
def R9 {n:Nat} {α:Type} (a:J7 n α) (m:List α):J7 n α:=⟨m.take n++a.l.drop m.length,by simp;omega⟩
theorem A6.b7o {α β : Type} {n : Nat} {r : p9 α} {s : p9 β} {i0 : Inhabited β} {w : Value} {l : m5 α (J7 n β)} {a : α} {m : List β} {bb : Bool} {F : Bool × E9 → j9} (tE : H9 P E β) (hT : P.underlying T = some (.slice E)) (hx : F1 C σ H x (.sv w l))
    (hH:y3 H (bb,.ob w a) F) (hy:b0n P C σ H y m) (hb:m.length≤9223372036854775807) (k:KH (.v ((min m.length n:Nat):Int)) (F (bb,.ob w (l.set (R9 (l.get a) m) a)))) :
    A6 P C N ⟨d,.call ⟨.builtin .copy,#[x,y],#[T,U]⟩,ty,ps,af,g⟩ σ H KH:=fun ρ I L hs=>by
  obtain⟨u,h1,b,h0,rfl⟩:=hx ρ I L hs
  obtain⟨v,news,h2,h3,h4⟩:=hy ρ I L hs
  obtain⟨j,X,h5,h6,h7⟩:=hH.get hs.heap
  obtain⟨b2,T',cs,rfl,rfl,h9⟩:=h6.1
  cases h0
  intro ac w0 ha hst
  have hmem:=hst.mem
  generalize hmn:min m.length n=q at k
  have hsz:=tE.size.run w0
  have hfc:=h3.cells w0 hmem q (by omega)
  have hl4:=h4.len
  have hget:=l.a5F h9
  have hfits:=l.fits
  have hfits2:l.off+n*p9.size β≤p9.size α:=hfits
  have hcl:=p9.len h9
  have hsegl:(I6 cs l.off (n*p9.size β)).length=n*p9.size β:=by
    simp only [I6,List.length_take,List.length_drop];omega
  have hal:(l.get a).l.length=n:=(l.get a).h
  have hlist:m.take n=m.take q:=by rw [←hmn,List.take_eq_take_iff];omega
  have hdrop:(l.get a).l.drop m.length=(l.get a).l.drop q:=by
    by_cases h:m.length≤n
    · rw [←hmn,Nat.min_eq_left h]
    · rw [List.drop_eq_nil_of_le (by omega),List.drop_eq_nil_of_le (by omega)]
  have hnl:(news.take (q*p9.size β)).length=q*p9.size β:=by
    rw [List.length_take,hl4];exact Nat.min_eq_left (Nat.mul_le_mul_right _ (by omega))
  have hqn:q*p9.size β≤n*p9.size β:=Nat.mul_le_mul_right _ (by omega)
  have hrep:K9 I (m.take n++(l.get a).l.drop m.length) (C6 (I6 cs l.off (n*p9.size β)) 0 (news.take (q*p9.size β))):=by
    rw [hlist,hdrop]
    have h10:=h4.cut 0 q (by omega)
    have h11:=K9.cut (show K9 I (l.get a).l _ from hget) q n (by omega)
    simp only [List.drop_zero,Nat.zero_mul] at h10 h11
    rw [List.take_of_length_le (show(l.get a).l.length≤n by omega)] at h11
    rw [List.take_of_length_le (show(I6 cs l.off (p9.size (J7 n β))).length≤n*p9.size β from Nat.le_of_eq hsegl)] at h11
    simp only [C6,List.take_zero,List.nil_append,Nat.zero_add]
    rw [hnl]
    exact h10.append h11
  have hbh:=hst.mem.loc (b,row cs T') (D2 h5 (by simp))
  have hall:∀ u∈news.take (q*p9.size β),u.oneCell'=true:=fun u hu=>List.all_eq_true.1 h4.flat u (List.mem_of_mem_take hu)
  have hfit:l.off+(news.take (q*p9.size β)).length≤cs.length:=by rw [hnl,hcl];omega
  have hst2:=S7 P b l.off T' (0,0) (news.take (q*p9.size β)) 0 cs.toArray w0 hbh (by simpa using hfit) hall (fun j hj=>by omega)
  have hr:(execOp ac.eval ⟨d,.call ⟨.builtin .copy,#[x,y],#[T,U]⟩,ty,ps,af,g⟩).run P w0 = .ok (.value (goInt q)) (w0.setRow b (C6 cs l.off (news.take (q*p9.size β))).toArray):=by
    simp [execOp,resolve,invoke,builtin,Builtin.copy_,run_underlying hT,h3.len w0,hsz,ha.ev h1,ha.ev h2,hmn,hfc]
    simp only [Nat.add_zero] at hst2
    simp [hst2,C6]
  rw [hr]
  have hset:rep I (l.set (R9 (l.get a) m) a) (C6 cs l.off (news.take (q*p9.size β))):=by
    have h12:=l.a6P (y:=R9 (l.get a) m) h9 (show rep I (R9 (l.get a) m) _ from hrep)
    rw [a3e (by rw [hnl,Nat.zero_add];exact hqn) (by rw [hcl];exact hfits2)] at h12
    exact h12
  refine⟨I,_,a7V hst h5 _,Le.refl I,.v ((q:Nat):Int),_,⟨_,⟨rfl,by omega,by omega⟩,rfl⟩,h7 I (bb,.ob (ptr b 0) (l.set (R9 (l.get a) m) a)) [(b,row _ T')] (Le.refl I) ⟨⟨b,T',_,rfl,rfl,hset⟩,fun hbb p hp => ?_⟩,k⟩
  have:=h6.2 hbb _ (List.mem_singleton.2 rfl)
  simp only [List.mem_singleton] at hp
  subst hp;exact this
end rules
end Go.Ab
namespace Go.Proofs.YtmmclghiidoldaaGreatDoor
open Go.Fl Go.Ab Go.Mac Go.Sha
theorem a05 (a b:List UInt8):u1 gl Tryz.prog 101 [.v a,.v b] (fun r=>r = .v (decide (a=b))):=by
 refine u1.intro Tryz.func101 rfl (by kernel_rfl) 10 rfl rfl _ rfl fun C hC hG=>(.sr rfl (.p (.assign .b (.nil (.sr rfl (.mv rfl (.p (.b1E Tryz.underlying86 Tryz.underlying5 Tryz.underlying9 (.t rfl) (.mv rfl (.p (.b1E Tryz.underlying86 Tryz.underlying5 Tryz.underlying9 (.t rfl) (.p (.c13 (.t rfl) (.t rfl) (.ag rfl (.nil (.ret ?_))))))))))))))))
 refine⟨_,.r1 a8 (.tmp a8),?_⟩
 refine congrArg AV.v ?_
 rw [decide_eq_decide];exact⟨fun h=>congrArg Str.l h,fun h=>congrArg Str.mk h⟩
theorem b0t (b:List UInt8) (hb:b.length≤1000000):u1 gl Tryz.prog 162 [.v b] (fun r=>r = .v b):=by
 refine u1.intro Tryz.func162 rfl (by kernel_rfl) 8 rfl rfl _ rfl fun C hC hG=>(.sr rfl (.p (.assign (.K4 (α:=UInt8)) (.nil (.seq (.sr rfl (.mv rfl (.p (.b3g Tryz.underlying86 (.t rfl) fun c4 hn4=>(.nil (.cond (.t rfl) (fun hc4 => ?_) (fun hc4 => ?_))))))))))))
 ·refine .sr a8 (.p (.assign (.K4 (α:=UInt8)) (.nil (.ret ?_))))
  refine⟨_,.r1 a8 (.tmp a8),?_⟩
  rw [hn4 hc4]
 ·refine .skip (.sr a8 (.h (.buildSlice (α:=UInt8) U1 Tryz.underlying86 .nil a8 (by decide) fun b5 => .mv a8 (.h (.append F5 (.inl ⟨_,Tryz.underlying86⟩) a8 .z (.v (.t a8)) (by simp;omega) (by simp;omega) (fun w7 => .ag a8 ?_) a8)))))
  refine .nil (.y0 hC .z (.as 2 a8 .z (.ret ?_)))
  refine⟨_,.r1 a8 (.tmp a8),?_⟩
  rw [List.nil_append]
def a4d (k:Tag) (m:List UInt8) (x:y5):Bool:=decide (x.Key=k)&&decide (x.Message=m)
theorem b9p (k:Tag) (m:List UInt8) (x:y5):u1 gl Tryz.prog 196 [.v x,.p k,.p m] (fun r=>r = .v (a4d k m x)):=by
 refine u1.intro Tryz.func196 rfl (by kernel_rfl) 15 rfl rfl _ rfl fun C hC hG=>(.sr rfl (.h (.box (.t rfl) fun b3 => .p (.assign .b (.nil (.sr rfl (.p (.x4 y5.l0 b4p rfl (.t rfl) (.p (.K0 (fun x=>x.Key) p3 (.t rfl) .z (fun _=>rfl) (.p (.x3 p3 (.t rfl) (.p (.a6e Tryz.underlying26 sz5 Tryz.underlying5 a92 (.t rfl) (.t rfl) (.mv rfl (.go 9 rfl (.t rfl) (fun hg10 => .x4 y5.l1 b4q rfl (.t rfl) rfl) (.go 9 rfl (.t rfl) (fun hg11 => .K0 (fun x=>x.Message) P1 (.q rfl hg11) .z (fun _=>rfl) rfl) (.go 9 rfl (.t rfl) (fun hg12 => .x3 P1 (.t rfl) rfl) (.go 9 rfl (.t rfl) (fun hg13 => .m9 hG (a05 _ _) (.cons (.q rfl hg13) (.cons (.q rfl hg13) .nil)) rfl) (.p (.u0 (.t rfl) (fun hp=>(.q rfl hp)) (.ag rfl (.nil (.ret ?_))))))))))))))))))))))))
 refine⟨_,.r1 a8 (.tmp a8),?_⟩
 rfl
def idx {α:Type} (l:List α) (p:α→Bool):Int:=if l.findIdx p < l.length then (l.findIdx p:Int) else -1
theorem a8A {α:Type} {l:List α} {p:α→Bool} {k:Nat} (h:k < l.length) (h1:p l[k]=true) (h2:∀ j (hj:j < l.length),j < k→p l[j]=false):idx l p=(k:Int):=by
 have e:l.findIdx p=k:=(List.findIdx_eq h).2 ⟨h1,fun j hj=>h2 j (by omega) hj⟩
 unfold idx;rw [e,if_pos h]
theorem a3y {α:Type} {l:List α} {p:α→Bool} (h:∀ j (hj:j < l.length),p l[j]=false):idx l p = -1:=by
 have e:l.findIdx p=l.length:=List.findIdx_eq_length.2 fun x hx=>by
  obtain⟨j,hj,rfl⟩:=List.getElem_of_mem hx
  exact h j hj
 unfold idx;rw [e,if_neg (by omega)]
theorem b3h (l:List y5) (p:y5→Bool):u1 gl Tryz.prog 195 [.v l,.a8z Tryz.prog p] (fun r=>r = .v (idx l p)):=by
 refine u1.intro Tryz.func195 rfl (by kernel_rfl) 19 rfl rfl _ rfl fun C hC hG=>(.sr rfl (.p (.assign (.i rfl) (.nil (.seq (.seq (.Y4 0 rfl fun hl0=>(.region rfl (.mv rfl (.p (.len Tryz.underlying35 (.t rfl) (.p (.move (.i rfl) (.nil (.block (.F4 (α:=Nat) [(0,_),(1,_),(7,_)] (fun k R=>(8,.v (k:Int))::R) (fun k => []) (fun k=>k≤l.length∧∀ j (hj:j < l.length),j < k→p l[j]=false) (fun k=>l.length - k) (0) (.c2 rfl rfl (.cons rfl (.nil _))) ?_ (.c2 rfl rfl (.c2 rfl rfl (.nil _))) (rfl) fun k hF => ?_))))))))))))))))
 ·simp
 obtain⟨h1,h2⟩:=hF
 refine .sr a8 (.p (.lss (.t a8) (.t a8) (.nil (.seq (.o8 (.t a8) (fun hc9 => ?_) (fun hc9 => ?_))))))
 ·refine .skip (.seq (.block (.sr a8 (.mv a8 (.ag a8 (.nil (.sr a8 (.mv a8 (.mv a8 (.mv a8 (.p (.idx a3x Tryz.underlying35 (.t a8) (.t a8) (by omega) (by omega) (.p (.x3 a3x (.t a8) (.p (.a4C a8 (.t a8) (.nil (.cond (.t a8) (fun hc16 => ?_) (fun hc16 => ?_)))))))))))))))))))
  ·refine .sr a8 (.mv a8 (.ag a8 (.nil (.ret ?_))))
   refine⟨_,.r1 a8 (.tmp a8),?_⟩
   rw [a8A (by omega) (by simpa using hc16) h2]
  ·refine .skip (.region a8 (.p (.add (.t a8) (.i a8) (by omega) (by omega) (.mv a8 (.nil ?_)))))
   refine⟨k+1,.c2 rfl rfl (.c2 rfl rfl (.nil _)),rfl,?_,by omega⟩
   refine⟨by omega,fun j hj hjk => ?_⟩;rcases Nat.lt_or_ge j k with h|h;exact h2 j hj h;(obtain rfl:j=k:=by omega);simpa using hc16
 ·refine .exit (.sr a8 (.p (.assign (.i a8) (.nil (.ret ?_)))))
  refine⟨_,.r1 a8 (.tmp a8),?_⟩
  rw [a3y fun j hj=>h2 j hj (by omega)]
theorem c09 (l:List y5) (k:Tag) (m:List UInt8):u1 gl Tryz.prog 160 [.v l,.v k,.v m] (fun r=>r = .v (idx l (a4d k m))):=by
 refine u1.intro Tryz.func160 rfl (by kernel_rfl) 10 rfl rfl _ rfl fun C hC hG=>(.sr rfl (.h (.box (.t rfl) fun b4 => .h (.box (.t rfl) fun b5 => .p (.assign (.i rfl) (.nil (.seq (.B0 hC .z1 (.Q5 4 rfl .z1 (.B0 hC .z (.Q5 5 rfl .z (.region rfl (.mv rfl (.p (.b0s hG (fun x=>b9p k m x) (.cons (.t rfl) (.cons (.t rfl) .nil)) (.p (.m9 hG (b3h _ _) (.cons (.t rfl) (.cons (.t rfl) .nil)) (.ag rfl (.nil (.ret ?_))))))))))))))))))))
 refine⟨_,.r1 a8 (.tmp a8),?_⟩
 rfl
def b1F (kind:UInt8) (n:Int) (k:Nat):List UInt8 := [115,121,109,98,111,108] ++ [kind]++R7 (UInt64.ofInt n) k
def U9 (kind:UInt8) (n:Int):Tag:=R9 default (b1F kind n 8)
theorem c1a (free:Bool) (seed:Tag):u1 gl Tryz.prog 75 [.v free,.v seed] (fun r=>r = .v (⟨free,seed,0,[],[]⟩:j7)):=by
 refine u1.intro Tryz.func75 rfl (by kernel_rfl) 8 rfl rfl _ rfl fun C hC hG=>(.sr rfl (.h (.box (.t rfl) fun b3 => .h (.alloc u7 fun b4=>(.nil (.sr rfl (.mv rfl (.p (.I4 p3 (.t rfl) .z1 (.p (.bS2 j7.l0 j7.l1 rfl u7 a1g (fun c0 c1=>(⟨c0,c1,0,[],[]⟩:j7)) (fun _ _=>rfl) rfl rfl rfl (.t rfl) (.t rfl) (.n (.C8 u7 (.t rfl) (.t rfl) .z (.nil (.ret ?_)))))))))))))))
 refine⟨_,.r1 a8 (.cell u7 a8 .z),?_⟩
 rfl
theorem a6W (kind:UInt8) (n:Int):u1 gl Tryz.prog 134 [.v kind,.v n] (fun r=>r = .v (U9 kind n)):=by
 refine u1.intro Tryz.func134 rfl (by kernel_rfl) 18 rfl rfl _ rfl fun C hC hG => ?_
 have hbe:=E1 (UInt64.ofInt n) 8
 refine .sr a8 (.h (.alloc p3 fun b4=>(.nil (.sr a8 (.h (.alloc p3 fun b5=>(.nil (.seq (.E7 [j0,j1] (by kernel_rfl) 11 [[],[],[(7,1)],[],[(9,3)],[(8,2),(10,4)],[],[(12,6)],[(13,7)],[(11,5),(14,8)],[(6,0),(15,9)]] [1,2,5,9,10] a8 (by kernel_rfl) a8 (by kernel_rfl) (by decide) ?_)))))))))
 refine⟨_,fun H=>j6.b7c O7 (.t a8) a8,?_⟩
 refine .inl (.inl ?_)
 refine⟨_,fun H=>j6.move (.t a8) a8,?_⟩
 refine⟨_,fun H=>j6.G7 (α:=UInt8) U1 Tryz.underlying86 (.cons (.t a8) .nil) a8 (by decide) a8,?_⟩
 refine .inl ?_
 refine⟨_,fun H=>j6.move (.t a8) a8,?_⟩
 refine⟨_,fun H=>j6.M5 Tryz.underlying3 Tryz.underlying77 (.t a8) a8,?_⟩
 refine⟨_,fun H=>j6.m9 hG (b0q _) (.cons (.t a8) .nil) a8,?_⟩
 refine .inl (.inl ?_)
 refine⟨⟨([],j2 [_,c8]),a8⟩,?_⟩
 refine A6.buildSlice (α:=UInt8) U1 Tryz.underlying86 (.cons (.u8 115 rfl) (.cons (.u8 121 rfl) (.cons (.u8 109 rfl) (.cons (.u8 98 rfl) (.cons (.u8 111 rfl) (.cons (.u8 108 rfl) .nil)))))) rfl (by decide) fun b7 => ?_
 refine⟨⟨([_],j2 [_,c8]),a8⟩,?_⟩
 refine A6.same Tryz.underlying86 Tryz.underlying5 rfl .z (by simp) ?_
 refine⟨⟨([_],j2 [_,c8]),a8⟩,?_⟩
 refine A6.append F5 (.inl ⟨_,Tryz.underlying86⟩) rfl .z (.v (.c rfl)) (by simp) (by simp) (fun w11 => ?_) rfl
 refine⟨⟨([_],j2 [_,c8]),a8⟩,?_⟩
 refine A6.append F5 (.inl ⟨_,Tryz.underlying86⟩) rfl .z (.v (.t rfl)) (by simp;omega) (by simp;omega) (fun w15 => ?_) rfl
 refine⟨⟨([_],j2 [_,c8]),a8⟩,?_⟩
 refine A6.b7o U1 Tryz.underlying86 (.t rfl) .z1 (.own rfl .z) (by simp;omega) ?_
 refine⟨⟨([_],j2 [_,c8]),a8⟩,?_⟩
 show F8 _ _ _ _ _ _ ((16,_)::(15,_)::(14,_)::(13,_)::(12,_)::(11,_)::(10,_)::(9,_)::(8,_)::(7,_)::(6,_)::_) _
 refine .nil (.sr a8 (.p (.I4 p3 (.t a8) .z1 (.n (.C8 p3 (.t a8) (.t a8) .z2 (.nil (.ret ?_)))))))
 refine⟨_,.r1 a8 (.cell p3 a8 .z2),?_⟩
 rfl
theorem a4D (kind:UInt8) (n:Int) (k:Nat):(b1F kind n k).length=7+k:=by simp [b1F,E1];omega
abbrev C7:=j7
def a8B:Str:=⟨[102,114,101,115,104]⟩
def Q7 (a:C7):C7×Tag×Int :=
 if 65536≤a.F9 then (default,default,2) else
 (⟨a.J0,a.a5f,a.F9+1,a.G3,a.x7⟩,(if a.J0 then U9 107 (a.F9+1) else (derive a.a5f a8B (a.F9+1)).1),0)
def S0 (a:C7) (k:Tag) (m:List UInt8):Option y5:=a.G3.find? (a4d k m)
def O4 (a:C7) (k:Tag) (m:List UInt8):Tag×Bool:=match S0 a k m with|some x=>(x.Tag,true)|none=>(default,false)
def a3g (a:C7) (k:Tag) (m:List UInt8):Tag:=if a.J0 then U9 109 (a.G3.length+1) else a0e k.l m
def H5 (a:C7) (k:Tag) (m:List UInt8):C7×Tag×Int :=
 if 4096 < m.length then (default,default,2) else
 match S0 a k m with
 | some x=>(a,x.Tag,0)
 | none=>if 65536≤a.G3.length then (default,default,2) else
  (⟨a.J0,a.a5f,a.F9,a.G3 ++ [⟨k,m,a3g a k m⟩],a.x7⟩,a3g a k m,0)
def m8 (a:C7) (k:Tag) (m:List UInt8):Tag×Bool :=
 if a.J0 then O4 a k m else if 4096 < m.length then (default,false) else (a0e k.l m,true)
theorem b3i (a:C7) (h0:0≤a.F9):u1 gl Tryz.prog 77 [.v a] (fun r=>r = .t3 (.v (Q7 a).1) (.v (Q7 a).2.1) (.v (Q7 a).2.2)):=by
 refine u1.intro Tryz.func77 rfl (by kernel_rfl) 32 rfl rfl _ rfl fun C hC hG=>(.sr rfl (.h (.box (.t rfl) fun b1 => .h (.alloc u7 fun b2 => .h (.alloc p3 fun b3 => .p (.assign (.i rfl) (.nil (.seq (.sr rfl (.p (.x4 j7.l2 a6K rfl (.t rfl) (.p (.K0 (fun x=>x.F9) D0 (.t rfl) .z2 (fun _=>rfl) (.p (.geq (.t rfl) (.i rfl) (.nil (.o8 (.t rfl) (fun hc9 => ?_) (fun hc9 => ?_))))))))))))))))))
 ·refine .sr a8 (.p (.bS0 (α:=j7) a8 u7 a1g (.p (.Q2 (default:(J7 32 UInt8)) p3 O7 .nil a8 (.n (.C8 u7 (.t a8) (.t a8) .z1 (.n (.C8 p3 (.t a8) (.t a8) .z (.p (.assign (.i a8) (.nil (.ret ?_))))))))))))
  refine⟨_,.r3 a8 (.cell u7 a8 .z1) (.cell p3 a8 .z) (.tmp a8),?_⟩
  have e:Q7 a=(default,default,2):=by unfold Q7;rw [if_pos hc9]
  rw [e]
 ·refine .skip (.sr a8 (.p (.x4 j7.l2 a6K a8 (.t a8) (.p (.K0 (fun x=>x.F9) D0 (.t a8) .z2 (fun _=>a8) (.p (.add (.t a8) (.i a8) (by omega) (by omega) (.p (.x4 j7.l2 a6K a8 (.t a8) (.n (.U0 (fun y x => { x with F9:=y }) D0 (.t a8) (.t a8) .z2 (fun _ _=>a8) (.nil (.seq (.sr a8 (.p (.x4 j7.l0 a4r a8 (.t a8) (.p (.K0 (fun x=>x.J0) ty4 (.t a8) .z2 (fun _=>a8) (.nil (.cond (.t a8) (fun hc17 => ?_) (fun hc17 => ?_)))))))))))))))))))))
  ·refine .seq (.draw (by kernel_rfl) 4 [[],[],[(19,1)],[(20,2)]] a8 (by kernel_rfl) a8 ?_)
   refine⟨_,j6.I4 u7 (.t a8) .z2 a8,?_⟩
   refine⟨_,j6.x4 j7.l2 a6K a8 (.t a8) a8,?_⟩
   refine⟨_,j6.K0 (fun x=>x.F9) D0 (.t a8) .z2 (fun _=>a8) a8,?_⟩
   refine⟨_,j6.m9 hG (a6W _ _) (.cons (.u8 107 a8) (.cons (.t a8) .nil)) a8,?_⟩
   show F8 _ _ _ _ _ _ ((21,_)::(20,_)::(19,_)::(18,_)::_) _
   refine .n (.C8 u7 (.t a8) (.t a8) .z1 (.n (.C8 p3 (.t a8) (.t a8) .z (.p (.assign (.i a8) (.nil (.ret ?_)))))))
   refine⟨_,.r3 a8 (.cell u7 a8 .z1) (.cell p3 a8 .z) (.tmp a8),?_⟩
   have e:Q7 a=(⟨a.J0,a.a5f,a.F9+1,a.G3,a.x7⟩,U9 107 (a.F9+1),0):=by unfold Q7;rw [if_neg hc9,if_pos hc17]
   rw [e]
  ·refine .skip (.sr a8 (.p (.x4 j7.l1 c0S a8 (.t a8) (.p (.K0 (fun x=>x.a5f) p3 (.t a8) .z2 (fun _=>a8) (.p (.x4 j7.l2 a6K a8 (.t a8) (.p (.K0 (fun x=>x.F9) D0 (.t a8) .z2 (fun _=>a8) (.p (.m9 hG (b5I _ _ _ (by decide)) (.cons (.t a8) (.cons (.s [102,114,101,115,104] (by decide) (by decide)) (.cons (.t a8) .nil))) (.mv a8 (.p (.E5 (.t a8) (.p (.E6 (.t a8) (.h (.alloc p3 fun b5 => .n (.C8 p3 (.t a8) (.t a8) .z (.ag a8 (.nil (.seq (.E7 [j1,j0,j0,j1] (by kernel_rfl) 5 [[],[],[(30,0)],[(31,1)],[]] [2,3] a8 (by kernel_rfl) a8 (by kernel_rfl) (by decide) ?_)))))))))))))))))))))))
   refine⟨_,fun H=>j6.I4 u7 (.t a8) (y3.app .z3) a8,?_⟩
   refine⟨_,fun H=>j6.I4 p3 (.t a8) (y3.app .z) a8,?_⟩
   refine .inl (.inl ?_)
   refine⟨_,fun H=>j6.assign (.i a8) a8,?_⟩
   refine⟨⟨([],j2 [c8,_,_,c8]),a8⟩,?_⟩
   refine A6.C8 u7 (.t rfl) (.t rfl) .z2 ?_
   refine⟨⟨([],j2 [c8,_,_,c8]),a8⟩,?_⟩
   refine A6.C8 p3 (.t rfl) (.t rfl) .z1 ?_
   refine⟨⟨([],j2 [c8,_,_,c8]),a8⟩,?_⟩
   show F8 _ _ _ _ _ _ ((4,_)::(31,_)::(30,_)::_) _
   refine .nil (.ret ?_)
   refine⟨_,.r3 a8 (.cell u7 a8 .z2) (.cell p3 a8 .z1) (.tmp a8),?_⟩
   have e:Q7 a=(⟨a.J0,a.a5f,a.F9+1,a.G3,a.x7⟩,(derive a.a5f a8B (a.F9+1)).1,0):=by unfold Q7;rw [if_neg hc9,if_neg (by rw [show a.J0=false from hc17];decide)]
   rw [e];rfl
theorem b5K {l:List y5} {p:y5→Bool} {k:Nat} (h:k < l.length) (h1:p l[k]=true) (h2:∀ j (hj:j < l.length),j < k→p l[j]=false):l.find? p=some l[k] :=
 List.find?_eq_some_iff_getElem.2 ⟨h1,k,h,rfl,fun j hj=>by rw [h2 j (by omega) hj];rfl⟩
theorem b5L {l:List y5} {p:y5→Bool} (h:∀ j (hj:j < l.length),p l[j]=false):l.find? p=none :=
 List.find?_eq_none.2 fun x hx=>by
  obtain⟨j,hj,rfl⟩:=List.getElem_of_mem hx
  rw [h j hj];decide
theorem b1G (a:C7) (k:Tag) (m:List UInt8):u1 gl Tryz.prog 132 [.v a,.v k,.v m] (fun r=>r = .t2 (.v (O4 a k m).1) (.v (O4 a k m).2)):=by
 refine u1.intro Tryz.func132 rfl (by kernel_rfl) 41 rfl rfl _ rfl fun C hC hG=>(.sr rfl (.h (.box (.t rfl) fun b3 => .h (.box (.t rfl) fun b4 => .h (.alloc p3 fun b6 => .p (.assign .b (.nil (.seq (.seq (.B0 hC .z1 (.Q5 4 rfl .z1 (.B0 hC .z2 (.Q5 3 rfl .z2 (.region rfl (.p (.assign (.i rfl) (.nil (.block ?_))))))))))))))))))
 refine .F4 (α:=Nat) [(2,_),(3,_),(4,_),(6,_)] (fun i R=>(8,.v (i:Int))::R) (fun i => [(true,.ob (ptr b6 0) (default:Tag)),(true,.fz (ptr b4 0) (.p k)),(true,.fz (ptr b3 0) (.p a))]) (fun i=>i≤a.G3.length∧∀ j (hj:j < a.G3.length),j < i→a4d k m a.G3[j]=false) (fun i=>a.G3.length - i) (0) (.c2 a8 a8 (.c2 a8 a8 (.nil _))) ?_ (.c2 a8 a8 (.c2 a8 a8 (.cons a8 (.nil _)))) (a8) fun i hF => ?_
 ·simp
 obtain⟨h1,h2⟩:=hF
 refine .seq (.sr a8 (.mv a8 (.p (.m0 j7.l3 (fun x=>x.G3) a16 a8 (fun _=>a8) (.t a8) (.p (.x3 a7O (.t a8) (.p (.len Tryz.underlying35 (.t a8) (.p (.lss (.t a8) (.t a8) (.nil (.o8 (.t a8) (fun hc13 => ?_) (fun hc13 => ?_)))))))))))))
 ·refine .skip (.seq (.block (.seq (.draw (by kernel_rfl) 18 [[],[(16,0)],[],[(17,1),(18,2)],[(19,3)],[(20,4)],[],[(21,5),(22,6)],[(23,7)],[],[(25,9)],[],[(26,10),(27,11)],[(28,12)],[(29,13)],[],[(30,14),(31,15)],[(24,8),(32,16)]] a8 (by kernel_rfl) a8 ?_))))
  refine⟨_,j6.m0 j7.l3 (fun x=>x.G3) a16 a8 (fun _=>a8) (.t a8) a8,?_⟩
  refine⟨_,j6.x3 a7O (.t a8) a8,?_⟩
  refine⟨_,j6.move (.t a8) a8,?_⟩
  refine⟨_,j6.idx a3x Tryz.underlying35 (.t a8) (.t a8) (by omega) (by omega) a8,?_⟩
  refine⟨_,j6.m0 y5.l0 (fun x=>x.Key) b4p a8 (fun _=>a8) (.t a8) a8,?_⟩
  refine⟨_,j6.x3 p3 (.t a8) a8,?_⟩
  refine⟨_,j6.x3 p3 (.t a8) a8,?_⟩
  refine⟨_,j6.a6e Tryz.underlying26 sz5 Tryz.underlying5 a92 (.t a8) (.t a8) a8,?_⟩
  refine⟨_,j6.move (.t a8) a8,?_⟩
  refine⟨_,⟨_,_,a8,a8,fun hg25=>j6.m0 j7.l3 (fun x=>x.G3) a16 a8 (fun _=>a8) (.t a8) a8⟩,?_⟩
  refine⟨_,⟨_,_,a8,a8,fun hg26=>j6.x3 a7O (.q a8 hg26) a8⟩,?_⟩
  refine⟨_,⟨_,_,a8,a8,fun hg27=>j6.move (.t a8) a8⟩,?_⟩
  refine⟨_,⟨_,_,a8,a8,fun hg28=>j6.idx a3x Tryz.underlying35 (.q a8 hg28) (.q a8 hg28) (by first|omega|(simp;omega)|(have:=hg28;simp at this;omega)) (by first|omega|(simp;omega)|(have:=hg28;simp at this;omega)) a8⟩,?_⟩
  refine⟨_,⟨_,_,a8,a8,fun hg29=>j6.m0 y5.l1 (fun x=>x.Message) b4q a8 (fun _=>a8) (.q a8 hg29) a8⟩,?_⟩
  refine⟨_,⟨_,_,a8,a8,fun hg30=>j6.x3 P1 (.q a8 hg30) a8⟩,?_⟩
  refine⟨_,⟨_,_,a8,a8,fun hg31=>j6.move (.t a8) a8⟩,?_⟩
  refine⟨_,⟨_,_,a8,a8,fun hg32=>j6.m9 hG (a6V _ _) (.cons (.q a8 hg32) (.cons (.q a8 hg32) .nil)) a8⟩,?_⟩
  refine⟨_,j6.u0 (.t a8) (fun hp=>(.q a8 hp)) a8,?_⟩
  show F8 _ _ _ _ _ _ ((33,_)::(32,_)::(31,_)::(30,_)::(29,_)::(28,_)::(27,_)::(26,_)::(25,_)::(24,_)::(23,_)::(22,_)::(21,_)::(20,_)::(19,_)::(18,_)::(17,_)::(16,_)::_) _
  refine .nil (.cond (.t a8) (fun hc33 => ?_) (fun hc33 => ?_))
  ·refine .sr a8 (.p (.m0 j7.l3 (fun x=>x.G3) a16 a8 (fun _=>a8) (.t a8) (.p (.x3 a7O (.t a8) (.mv a8 (.p (.idx a3x Tryz.underlying35 (.t a8) (.t a8) (by omega) (by omega) (.p (.m0 y5.l2 (fun x=>x.Tag) b4r a8 (fun _=>a8) (.t a8) (.p (.x3 p3 (.t a8) (.n (.C8 p3 (.t a8) (.t a8) .z (.p (.assign .b (.nil (.ret ?_)))))))))))))))))
   refine⟨_,.r2 a8 (.cell p3 a8 .z) (.tmp a8),?_⟩
   have e:O4 a k m=(a.G3[i].Tag,true):=by unfold O4 S0;rw [b5K (k:=i) (by omega) hc33 h2]
   rw [e];rfl
  ·refine .skip (.Y4 11 a8 fun hl11=>(.region a8 (.mv a8 (.p (.add (.t a8) (.i a8) (by omega) (by omega) (.ag a8 (.nil ?_)))))))
   refine⟨i+1,.c2 rfl rfl (.c2 rfl rfl (.cons rfl (.nil _))),rfl,?_,by omega⟩
   refine⟨by omega,fun j hj hji => ?_⟩;rcases Nat.lt_or_ge j i with h|h;exact h2 j hj h;(obtain rfl:j=i:=by omega);exact hc33
 ·refine .exit (.sr a8 (.p (.Q2 (default:(J7 32 UInt8)) p3 O7 .nil a8 (.n (.C8 p3 (.t a8) (.t a8) .z (.p (.assign .b (.nil (.ret ?_)))))))))
  refine⟨_,.r2 a8 (.cell p3 a8 .z) (.tmp a8),?_⟩
  have e:O4 a k m=(default,false):=by unfold O4 S0;rw [b5L fun j hj=>h2 j hj (by omega)]
  rw [e]
theorem b4N (a:C7) (k:Tag) (m:List UInt8):u1 gl Tryz.prog 109 [.v a,.v k,.v m] (fun r=>r = .t2 (.v (m8 a k m).1) (.v (m8 a k m).2)):=by
 refine u1.intro Tryz.func109 rfl (by kernel_rfl) 23 rfl rfl _ rfl fun C hC hG=>(.sr rfl (.h (.box (.t rfl) fun b3 => .h (.box (.t rfl) fun b4 => .h (.alloc p3 fun b6 => .p (.assign .b (.nil (.seq (.seq (.B0 hC .z1 (.Q5 4 rfl .z1 (.B0 hC .z2 (.Q5 3 rfl .z2 (.region rfl (.p (.m0 j7.l0 (fun x=>x.J0) a4r rfl (fun _=>rfl) (.t rfl) (.p (.x3 ty4 (.t rfl) (.nil (.cond (.t rfl) (fun hc9 => ?_) (fun hc9 => ?_)))))))))))))))))))))
 ·refine .sr a8 (.p (.x3 u7 (.t a8) (.p (.x3 p3 (.t a8) (.mv a8 (.p (.m9 hG (b1G _ _ _) (.cons (.t a8) (.cons (.t a8) (.cons (.t a8) .nil))) (.p (.E5 (.t a8) (.p (.E6 (.t a8) (.n (.C8 p3 (.t a8) (.t a8) .z (.ag a8 (.nil (.ret ?_))))))))))))))))
  refine⟨_,.r2 a8 (.cell p3 a8 .z) (.tmp a8),?_⟩
  have e:m8 a k m=O4 a k m:=by unfold m8;rw [if_pos hc9]
  rw [e]
 ·refine .skip (.seq (.sr a8 (.mv a8 (.p (.len Tryz.underlying86 (.t a8) (.p (.gtr (.t a8) (.i a8) (.nil (.o8 (.t a8) (fun hc18 => ?_) (fun hc18 => ?_))))))))))
  ·refine .sr a8 (.p (.Q2 (default:(J7 32 UInt8)) p3 O7 .nil a8 (.n (.C8 p3 (.t a8) (.t a8) .z (.p (.assign .b (.nil (.ret ?_))))))))
   refine⟨_,.r2 a8 (.cell p3 a8 .z) (.tmp a8),?_⟩
   have e:m8 a k m=(default,false):=by unfold m8;rw [if_neg (by rw [show a.J0=false from hc9];decide),if_pos (by omega)]
   rw [e]
  ·refine .skip (.sr a8 (.p (.P5 (by decide) O7 (.t a8) (.mv a8 (.p (.m9 hG (a45 _ _ (by simp) (by omega)) (.cons (.t a8) (.cons (.t a8) .nil)) (.n (.C8 p3 (.t a8) (.t a8) .z (.p (.assign .b (.nil (.ret ?_))))))))))))
   refine⟨_,.r2 a8 (.cell p3 a8 .z) (.tmp a8),?_⟩
   have e:m8 a k m=(a0e k.l m,true):=by unfold m8;rw [if_neg (by rw [show a.J0=false from hc9];decide),if_neg (by omega)]
   rw [e]
theorem b1H {a:C7} {k:Tag} {m:List UInt8} (h:4096 < m.length):H5 a k m=(default,default,2):=by unfold H5;rw [if_pos h]
theorem b0u {a:C7} {k:Tag} {m:List UInt8} (h:¬4096 < m.length) (he:(O4 a k m).2=true):H5 a k m=(a,(O4 a k m).1,0):=by
 unfold H5;rw [if_neg h];unfold O4 at *
 cases hf:S0 a k m with
 | none=>rw [hf] at he;cases he
 | some x=>rfl
theorem a5I {a:C7} {k:Tag} {m:List UInt8} (he:(O4 a k m).2=false):S0 a k m=none:=by
 unfold O4 at he
 cases hf:S0 a k m with
 | none=>rfl
 | some x=>rw [hf] at he;cases he
theorem b1I {a:C7} {k:Tag} {m:List UInt8} (h:¬4096 < m.length) (he:S0 a k m=none) (hl:65536≤a.G3.length):H5 a k m=(default,default,2):=by
 unfold H5;rw [if_neg h,he];simp only [];rw [if_pos hl]
theorem a3Z {a : C7} {k : Tag} {m : List UInt8} (h : ¬ 4096 < m.length) (he : S0 a k m = none) (hl : ¬ 65536 ≤ a.G3.length) :
    H5 a k m=(⟨a.J0,a.a5f,a.F9,a.G3 ++ [⟨k,m,a3g a k m⟩],a.x7⟩,a3g a k m,0):=by
  unfold H5;rw [if_neg h,he];simp only [];rw [if_neg hl]
theorem b1J {a:C7} {k:Tag} {m:List UInt8} (h:a.J0=true):a3g a k m=U9 109 (a.G3.length+1):=by unfold a3g;rw [if_pos h]
theorem b1K {a:C7} {k:Tag} {m:List UInt8} (h:a.J0=false):a3g a k m=a0e k.l m:=by unfold a3g;rw [if_neg (by rw [h];decide)]
theorem a5J (a:C7) (k:Tag) (m:List UInt8):u1 gl Tryz.prog 72 [.v a,.v k,.v m] (fun r=>r = .t3 (.v (H5 a k m).1) (.v (H5 a k m).2.1) (.v (H5 a k m).2.2)):=by
 refine u1.intro Tryz.func72 rfl (by kernel_rfl) 58 rfl rfl _ rfl fun C hC hG=>(.sr rfl (.h (.box (.t rfl) fun b3 => .h (.box (.t rfl) fun b4 => .h (.alloc u7 fun b6 => .h (.alloc p3 fun b7 => .p (.assign (.i rfl) (.nil (.seq (.seq (.B0 hC .z2 (.Q5 4 rfl .z2 (.region rfl (.mv rfl (.p (.len Tryz.underlying86 (.t rfl) (.p (.gtr (.t rfl) (.i rfl) (.nil (.o8 (.t rfl) (fun hc14 => ?_) (fun hc14 => ?_)))))))))))))))))))))
 ·refine .sr a8 (.p (.bS0 (α:=j7) a8 u7 a1g (.p (.Q2 (default:(J7 32 UInt8)) p3 O7 .nil a8 (.n (.C8 u7 (.t a8) (.t a8) .z1 (.n (.C8 p3 (.t a8) (.t a8) .z (.p (.assign (.i a8) (.nil (.ret ?_))))))))))))
  refine⟨_,.r3 a8 (.cell u7 a8 .z1) (.cell p3 a8 .z) (.tmp a8),?_⟩
  rw [b1H (a:=a) (k:=k) (m:=m) (by omega)]
 ·refine .skip (.seq (.sr a8 (.p (.I4 u7 (.t a8) .z3 (.p (.x3 p3 (.t a8) (.mv a8 (.p (.m9 hG (b1G _ _ _) (.cons (.t a8) (.cons (.t a8) (.cons (.t a8) .nil))) (.mv a8 (.p (.E5 (.t a8) (.p (.E6 (.t a8) (.h (.alloc p3 fun b9 => .n (.C8 p3 (.t a8) (.t a8) .z (.ag a8 (.nil (.sr a8 (.mv a8 (.nil (.cond (.t a8) (fun hc24 => ?_) (fun hc24 => ?_))))))))))))))))))))))))
  ·refine .seq (.E7 [j1,j0,j0,j1,j1] (by kernel_rfl) 5 [[],[],[(25,0)],[(26,1)],[]] [2,3] a8 (by kernel_rfl) a8 (by kernel_rfl) (by decide) ?_)
   refine⟨_,fun H=>j6.I4 u7 (.t a8) (y3.app .z4) a8,?_⟩
   refine⟨_,fun H=>j6.I4 p3 (.t a8) (y3.app .z) a8,?_⟩
   refine .inl (.inl ?_)
   refine⟨_,fun H=>j6.assign (.i a8) a8,?_⟩
   refine⟨⟨([],j2 [c8,_,_,c8,c8]),a8⟩,?_⟩
   refine A6.C8 u7 (.t rfl) (.t rfl) .z2 ?_
   refine⟨⟨([],j2 [c8,_,_,c8,c8]),a8⟩,?_⟩
   refine A6.C8 p3 (.t rfl) (.t rfl) .z1 ?_
   refine⟨⟨([],j2 [c8,_,_,c8,c8]),a8⟩,?_⟩
   show F8 _ _ _ _ _ _ ((8,_)::(26,_)::(25,_)::_) _
   refine .nil (.ret ?_)
   refine⟨_,.r3 a8 (.cell u7 a8 .z2) (.cell p3 a8 .z1) (.tmp a8),?_⟩
   rw [b0u (a:=a) (k:=k) (m:=m) (by omega) hc24]
  ·refine .skip (.seq (.sr a8 (.p (.x4 j7.l3 a16 a8 (.t a8) (.p (.K0 (fun x=>x.G3) a7O (.t a8) .z4 (fun _=>a8) (.p (.len Tryz.underlying35 (.t a8) (.p (.geq (.t a8) (.i a8) (.nil (.o8 (.t a8) (fun hc30 => ?_) (fun hc30 => ?_)))))))))))))
   ·refine .sr a8 (.p (.bS0 (α:=j7) a8 u7 a1g (.p (.Q2 (default:(J7 32 UInt8)) p3 O7 .nil a8 (.n (.C8 u7 (.t a8) (.t a8) .z2 (.n (.C8 p3 (.t a8) (.t a8) .z1 (.p (.assign (.i a8) (.nil (.ret ?_))))))))))))
    refine⟨_,.r3 a8 (.cell u7 a8 .z2) (.cell p3 a8 .z1) (.tmp a8),?_⟩
    rw [b1I (a:=a) (k:=k) (m:=m) (by omega) (a5I hc24) (by omega)]
   ·refine .skip (.sr a8 (.p (.P5 (by decide) O7 (.t a8) (.mv a8 (.p (.m9 hG (a45 _ _ (by simp) (by omega)) (.cons (.t a8) (.cons (.t a8) .nil)) (.h (.alloc p3 fun b11 => .n (.C8 p3 (.t a8) (.t a8) .z (.nil (.seq (.sr a8 (.p (.x4 j7.l0 a4r a8 (.t a8) (.p (.K0 (fun x=>x.J0) ty4 (.t a8) .z5 (fun _=>a8) (.nil (.cond (.t a8) (fun hc37 => ?_) (fun hc37 => ?_)))))))))))))))))))
    ·refine .region a8 (.p (.x4 j7.l3 a16 a8 (.t a8) (.p (.K0 (fun x=>x.G3) a7O (.t a8) .z5 (fun _=>a8) (.p (.len Tryz.underlying35 (.t a8) (.p (.add (.t a8) (.i a8) (by omega) (by omega) (.p (.m9 hG (a6W _ _) (.cons (.u8 109 a8) (.cons (.t a8) .nil)) (.n (.C8 p3 (.t a8) (.t a8) .z (.nil (.seq (.E7 [j1,j1,j1,j1,j1,j1] (by kernel_rfl) 13 [[],[],[(44,1)],[(43,0),(45,2)],[],[],[],[(48,5),(49,6)],[],[(47,4),(50,7),(51,8)],[(52,9)],[(46,3),(53,10)],[]] [0,3,11] a8 (by kernel_rfl) a8 (by kernel_rfl) (by decide) (.inl ?_))))))))))))))))
     refine⟨_,fun H=>j6.x4 j7.l3 a16 a8 (.t a8) a8,?_⟩
     refine⟨_,fun H=>j6.K0 (fun x=>x.G3) a7O (.t a8) (y3.app .z5) (fun _=>a8) a8,?_⟩
     refine .inl ?_
     refine⟨_,fun H=>j6.x3 p3 (.t a8) a8,?_⟩
     refine⟨_,fun H=>j6.G7 (α:=UInt8) U1 Tryz.underlying86 .nil a8 (by decide) a8,?_⟩
     refine⟨_,fun H=>j6.move (.t a8) a8,?_⟩
     refine⟨_,fun H=>j6.a0A F5 (.inl ⟨_,Tryz.underlying86⟩) (.t a8) (.v (.t a8)) (by simp;omega) (by simp;omega) a8,?_⟩
     refine⟨_,fun H=>j6.I4 p3 (.t a8) (y3.app .z) a8,?_⟩
     refine⟨_,fun H=>j6.bS3 y5.l0 y5.l1 y5.l2 a8 a3x c0m (fun c0 c1 c2=>(⟨c0,c1,c2⟩:y5)) (fun _ _ _=>a8) a8 a8 a8 a8 (.t a8) (.t a8) (.t a8) a8,?_⟩
     refine⟨_,fun H=>j6.G7 (α:=y5) a3x Tryz.underlying35 (.cons (.t a8) .nil) a8 (by decide) a8,?_⟩
     refine .inl ?_
     refine⟨_,fun H=>j6.x4 j7.l3 a16 a8 (.t a8) a8,?_⟩
     refine⟨⟨([],j2 [c8,c8,c8,c8,c8,c8]),a8⟩,?_⟩
     refine A6.buildSlice (α:=y5) a3x Tryz.underlying35 .nil rfl (by decide) fun b43 => ?_
     refine⟨⟨([_],j2 [c8,c8,c8,c8,c8,c8]),a8⟩,?_⟩
     refine A6.append b9l (.inl ⟨_,Tryz.underlying35⟩) rfl .z (.v (.t rfl)) (by simp;omega) (by simp;omega) (fun w46 => ?_) rfl
     refine⟨⟨([_],j2 [c8,c8,c8,c8,c8,c8]),a8⟩,?_⟩
     refine A6.append b9l (.inl ⟨_,Tryz.underlying35⟩) rfl .z (.v (.c rfl)) (by simp;omega) (by simp;omega) (fun w54 => ?_) rfl
     refine⟨⟨([_],j2 [c8,c8,c8,c8,c8,c8]),a8⟩,?_⟩
     show F8 _ _ _ _ _ _ ((55,_)::(54,_)::(53,_)::(52,_)::(51,_)::(50,_)::(49,_)::(48,_)::(47,_)::(46,_)::(45,_)::(44,_)::(43,_)::_) _
     refine .y0 hC .z (.as 54 a8 .z (.n (.U0 (fun y x => { x with G3:=y }) a7O (.t a8) (.t a8) .z6 (fun _ _=>a8) (.nil (.seq (.E7 [j1,j1,j1,j0,j0,j1,j1] (by kernel_rfl) 5 [[],[],[(56,0)],[(57,1)],[]] [2,3] a8 (by kernel_rfl) a8 (by kernel_rfl) (by decide) ?_))))))
     refine⟨_,fun H=>j6.I4 u7 (.t a8) (y3.app .z6) a8,?_⟩
     refine⟨_,fun H=>j6.I4 p3 (.t a8) (y3.app .z1) a8,?_⟩
     refine .inl (.inl ?_)
     refine⟨_,fun H=>j6.assign (.i a8) a8,?_⟩
     refine⟨⟨([],j2 [c8,c8,c8,_,_,c8,c8]),a8⟩,?_⟩
     refine A6.C8 u7 (.t rfl) (.t rfl) .z4 ?_
     refine⟨⟨([],j2 [c8,c8,c8,_,_,c8,c8]),a8⟩,?_⟩
     refine A6.C8 p3 (.t rfl) (.t rfl) .z3 ?_
     refine⟨⟨([],j2 [c8,c8,c8,_,_,c8,c8]),a8⟩,?_⟩
     show F8 _ _ _ _ _ _ ((8,_)::(57,_)::(56,_)::_) _
     refine .nil (.ret ?_)
     refine⟨_,.r3 a8 (.cell u7 a8 .z4) (.cell p3 a8 .z3) (.tmp a8),?_⟩
     rw [a3Z (a:=a) (k:=k) (m:=m) (by omega) (a5I hc24) (by omega),b1J hc37];rfl
    ·refine .skip (.seq (.E7 [j1,j1,j1,j1,j1,j1] (by kernel_rfl) 13 [[],[],[(44,1)],[(43,0),(45,2)],[],[],[],[(48,5),(49,6)],[],[(47,4),(50,7),(51,8)],[(52,9)],[(46,3),(53,10)],[]] [0,3,11] a8 (by kernel_rfl) a8 (by kernel_rfl) (by decide) (.inl ?_)))
     refine⟨_,fun H=>j6.x4 j7.l3 a16 a8 (.t a8) a8,?_⟩
     refine⟨_,fun H=>j6.K0 (fun x=>x.G3) a7O (.t a8) (y3.app .z5) (fun _=>a8) a8,?_⟩
     refine .inl ?_
     refine⟨_,fun H=>j6.x3 p3 (.t a8) a8,?_⟩
     refine⟨_,fun H=>j6.G7 (α:=UInt8) U1 Tryz.underlying86 .nil a8 (by decide) a8,?_⟩
     refine⟨_,fun H=>j6.move (.t a8) a8,?_⟩
     refine⟨_,fun H=>j6.a0A F5 (.inl ⟨_,Tryz.underlying86⟩) (.t a8) (.v (.t a8)) (by simp;omega) (by simp;omega) a8,?_⟩
     refine⟨_,fun H=>j6.I4 p3 (.t a8) (y3.app .z) a8,?_⟩
     refine⟨_,fun H=>j6.bS3 y5.l0 y5.l1 y5.l2 a8 a3x c0m (fun c0 c1 c2=>(⟨c0,c1,c2⟩:y5)) (fun _ _ _=>a8) a8 a8 a8 a8 (.t a8) (.t a8) (.t a8) a8,?_⟩
     refine⟨_,fun H=>j6.G7 (α:=y5) a3x Tryz.underlying35 (.cons (.t a8) .nil) a8 (by decide) a8,?_⟩
     refine .inl ?_
     refine⟨_,fun H=>j6.x4 j7.l3 a16 a8 (.t a8) a8,?_⟩
     refine⟨⟨([],j2 [c8,c8,c8,c8,c8,c8]),a8⟩,?_⟩
     refine A6.buildSlice (α:=y5) a3x Tryz.underlying35 .nil rfl (by decide) fun b43 => ?_
     refine⟨⟨([_],j2 [c8,c8,c8,c8,c8,c8]),a8⟩,?_⟩
     refine A6.append b9l (.inl ⟨_,Tryz.underlying35⟩) rfl .z (.v (.t rfl)) (by simp;omega) (by simp;omega) (fun w46 => ?_) rfl
     refine⟨⟨([_],j2 [c8,c8,c8,c8,c8,c8]),a8⟩,?_⟩
     refine A6.append b9l (.inl ⟨_,Tryz.underlying35⟩) rfl .z (.v (.c rfl)) (by simp;omega) (by simp;omega) (fun w54 => ?_) rfl
     refine⟨⟨([_],j2 [c8,c8,c8,c8,c8,c8]),a8⟩,?_⟩
     show F8 _ _ _ _ _ _ ((55,_)::(54,_)::(53,_)::(52,_)::(51,_)::(50,_)::(49,_)::(48,_)::(47,_)::(46,_)::(45,_)::(44,_)::(43,_)::_) _
     refine .y0 hC .z (.as 54 a8 .z (.n (.U0 (fun y x => { x with G3:=y }) a7O (.t a8) (.t a8) .z6 (fun _ _=>a8) (.nil (.seq (.E7 [j1,j1,j1,j0,j0,j1,j1] (by kernel_rfl) 5 [[],[],[(56,0)],[(57,1)],[]] [2,3] a8 (by kernel_rfl) a8 (by kernel_rfl) (by decide) ?_))))))
     refine⟨_,fun H=>j6.I4 u7 (.t a8) (y3.app .z6) a8,?_⟩
     refine⟨_,fun H=>j6.I4 p3 (.t a8) (y3.app .z1) a8,?_⟩
     refine .inl (.inl ?_)
     refine⟨_,fun H=>j6.assign (.i a8) a8,?_⟩
     refine⟨⟨([],j2 [c8,c8,c8,_,_,c8,c8]),a8⟩,?_⟩
     refine A6.C8 u7 (.t rfl) (.t rfl) .z4 ?_
     refine⟨⟨([],j2 [c8,c8,c8,_,_,c8,c8]),a8⟩,?_⟩
     refine A6.C8 p3 (.t rfl) (.t rfl) .z3 ?_
     refine⟨⟨([],j2 [c8,c8,c8,_,_,c8,c8]),a8⟩,?_⟩
     show F8 _ _ _ _ _ _ ((8,_)::(57,_)::(56,_)::_) _
     refine .nil (.ret ?_)
     refine⟨_,.r3 a8 (.cell u7 a8 .z4) (.cell p3 a8 .z3) (.tmp a8),?_⟩
     rw [a3Z (a:=a) (k:=k) (m:=m) (by omega) (a5I hc24) (by omega),b1K hc37];rfl
end Go.Proofs.YtmmclghiidoldaaGreatDoor
namespace Go.Ab
open Go.Fl Go.RowKit
open p9 (rep)
structure b5M (P : Program) (C : Ctx) (N n : Nat) (l : List Oper) (ci : List Nat) (σ0 : y2) (accP : List (Nat × AV)) (Inv : Array Bool → List (Nat × AV) → j9 → Prop) (ρ0 : Env) (I : Im)
    (listed:Array Bool) (cacc:List (Nat×AV)) (H:j9) (J:Im) (L:Lh) (vs:Nat→Value) (a:Act) (w:World):Prop where
  head:HeadInv .any l.toArray n listed
  le:Le I J
  V5:Le C.I0 J
  st:St C J L w
  heap:T5 C.w0.heap.size J H L
  pl:Inv listed cacc H
  keys:∀ j r,p4 cacc j=some r→j∈ci
  fresh:∀ j r,p4 cacc j=some r→listed.getD j false=true
  prom:∀ j r r0,p4 cacc j=some r→p4 accP j=some r0→r=r0
  b7h:∀ j,j∈ci→listed.getD j false=true→∃ r,p4 cacc j=some r
  val:∀ j,j < n→listed.getD j false=true→∃ r,p4 (cacc++accP) j=some r∧H4 J r (vs j)
  defers:a.defers = []
  size:a.tmps.size=N
  a4k:∀ j d,j < n→listed.getD j false=true→(l.toArray[j]?).bind (·.dst)=some d→a.tmps[d]?=some (vs j)
  a6F:∀ t v,Fl.look ρ0 t=some v→(∀ j,j < n→listed.getD j false=true→(l.toArray[j]?).bind (·.dst)≠some t)→a.tmps[t]?=some v
section
variable {P:Program} {C:Ctx} {N n:Nat} {l:List Oper} {ci:List Nat} {ss:List (List (Nat×Nat))} {σ0:y2} {ι:Type 1} {HT:Nat→ι→j9} {accP:List (Nat×AV)} {Inv:Array Bool→List (Nat×AV)→j9→Prop} {ρ0:Env} {I:Im} {L0:Lh} {H0:j9}
theorem b5M.step {listed : Array Bool} {cacc : List (Nat × AV)} {H : j9} {J : Im} {L : Lh} {vs : Nat → Value} {a : Act} {w : World} {Q' : Exit → Act → World → Prop}
    (h0:Y2 C I L0 σ0 H0 ρ0) (hN:M3 N l=true) (hok:∀ i,i < n→a1l l.toArray n ss i=true) (hdst:a6f l.toArray n=true)
    (hfam:∀ listed cacc H i,Inv listed cacc H→i < n→i∉ci→listed.getD i false=false→∃ q,H=HT i q) (hpure:∀ listed cacc H i,Inv listed cacc H→i∉ci→Inv (listed.setIfInBounds i true) cacc H)
    (hstep:∀ listed cacc H i o s,Inv listed cacc H→i∈ci→l[i]?=some o→ss[i]?=some s→listed.getD i false=false→(∀ j,Region.waitsFor .any l.toArray i j=true→listed.getD j false=true)→i < listed.size →
      o.guard=none∧A6 P C N o (D8 σ0 (cacc++accP) s (C3 o)) H (fun r H'=>(∀ r0,p4 accP i=some r0→r=r0)∧Inv (listed.setIfInBounds i true) ((i,r)::cacc) H'))
    (hp:∀ i o s,i < n→i∉ci→l[i]?=some o→ss[i]?=some s→∃ r,p4 accP i=some r∧a2B P N C σ0 (HT i) accP o s r)
    (inv:b5M P C N n l ci σ0 accP Inv ρ0 I listed cacc H J L vs a w) {i:Nat} (hr:i∈Region.ready .any l.toArray listed) (hin:i < n)
    {K:Act→World→Prop} (hK:∀ cacc H J L vs a' w,b5M P C N n l ci σ0 accP Inv ρ0 I (listed.setIfInBounds i true) cacc H J L vs a' w→K a' w) :
    wpOpIn C.fen 0 P l.toArray Q' i K a w:=by
  obtain⟨hun,o,ho,hall⟩:=mem_ready.1 hr
  have hol:l[i]?=some o:=by simpa using ho
  have hok':=hok i hin
  unfold a1l at hok'
  simp only [ho] at hok'
  cases hs:ss[i]? with
  | none=>simp [hs] at hok'
  | some s =>
  simp only [hs,Bool.and_eq_true] at hok'
  obtain⟨hreads,hguard⟩:=hok'
  have hdN:∀ d,o.dst=some d→d < N:=fun d hod=>by
    have:=List.all_eq_true.1 hN o (List.mem_of_getElem? hol)
    rw [hod] at this
    simpa [Nat.blt_eq] using this
  have hlisted:∀ j,Region.waitsFor .any l.toArray i j=true→listed.getD j false=true:=fun j hw=>by
    obtain⟨e,he,hb,heq⟩:=X9 ho hw
    exact heq▸hall e he hb
  have hilt:i < listed.size:=by
    rcases Nat.lt_or_ge i listed.size with h'|h'
    · exact h'
    · simp [Array.getElem?_eq_none h'] at hun
  have hiun:listed.getD i false=false:=getD_both hun
  have hnot:∀ j,Region.waitsFor .any l.toArray j i=true→listed.getD j false=true→False:=fun j hw hl=>by
    obtain⟨oj,hoj,e,he,hb,heq⟩:=Region.waitsFor_spec hw
    have:=inv.head.closed j oj hoj hl e he hb
    rw [heq,hiun] at this
    cases this
  let g:Nat→Option Value:=fun t=>match K7 s t with|some j=>some (vs j)|none=>Fl.look ρ0 t
  have hsrcl:∀ t∈C3 o,∀ j,K7 s t=some j→j < n∧listed.getD j false=true∧(l.toArray[j]?).bind (·.dst)=some t:=fun t ht j hj=>by
    have hro:=List.all_eq_true.1 hreads t ht
    unfold a0U at hro
    simp only [hj,Bool.and_eq_true,beq_iff_eq] at hro
    exact⟨by simpa [Nat.blt_eq] using hro.1.1,hlisted j hro.2,hro.1.2⟩
  have hfits:Fits N (a0V g (C3 o)) a:=by
    refine⟨inv.defers,inv.size,fun t v hv => ?_⟩
    obtain⟨hmem,hg⟩:=a1r hv
    cases hsrc:K7 s t with
    | some j =>
      obtain⟨h1,h2,h3⟩:=hsrcl t hmem j hsrc
      have hgv:vs j=v:=by simpa [g,hsrc] using hg
      rw [←hgv]
      exact inv.a4k j t h1 h2 h3
    | none =>
      have hro:=List.all_eq_true.1 hreads t hmem
      unfold a0U at hro
      simp only [hsrc] at hro
      refine inv.a6F t v (by simpa [g,hsrc] using hg) fun j hj hl hdj => ?_
      have h1:=List.all_eq_true.1 hro j (List.mem_range.2 hj)
      simp only [hdj,beq_self_eq_true,Bool.not_true,Bool.false_or,Bool.or_eq_true,beq_iff_eq] at h1
      rcases h1 with h1|h1
      · subst h1;rw [hiun] at hl;cases hl
      · exact hnot j h1 hl
  have henv:∀ t b,G4 (D8 σ0 (cacc++accP) s (C3 o)) t=some b→∃ u,Fl.look (a0V g (C3 o)) t=some u∧H4 J b u:=fun t b hb=>by
    obtain⟨hmem,hb2⟩:=a1w hb
    cases hsrc:K7 s t with
    | some j =>
      simp only [hsrc] at hb2
      obtain⟨h1,h2,_⟩:=hsrcl t hmem j hsrc
      obtain⟨r,h3,h4⟩:=inv.val j h1 h2
      rw [hb2] at h3
      cases h3
      exact⟨vs j,by rw [P4 hmem];simp [g,hsrc],h4⟩
    | none =>
      simp only [hsrc] at hb2
      obtain⟨u,h1,h2⟩:=h0.env t b hb2
      exact⟨u,by rw [P4 hmem];simpa [g,hsrc] using h1,h2.mono inv.le⟩
  have hR:Y2 C J L (D8 σ0 (cacc++accP) s (C3 o)) H (a0V g (C3 o)):=⟨henv,inv.heap,inv.V5⟩
  have hput:∀ j,j≠i→(listed.setIfInBounds i true).getD j false=listed.getD j false:=fun j hj=>getD_set_ne false (Ne.symm hj)
  have hdne:∀ j,j < n→j≠i→∀ d',(l.toArray[j]?).bind (·.dst)=some d'→o.dst≠some d':=by
    intro j hj hji d' hd' hod
    have hdi:(l.toArray[i]?).bind (·.dst)=some d':=by rw [ho];exact hod
    rcases Nat.lt_or_gt_of_ne hji with h1|h1
    · have:=List.all_eq_true.1 (List.all_eq_true.1 hdst i (List.mem_range.2 hin)) j (List.mem_range.2 h1)
      rw [hdi,hd'] at this
      simp at this
    · have:=List.all_eq_true.1 (List.all_eq_true.1 hdst j (List.mem_range.2 hj)) i (List.mem_range.2 h1)
      rw [hdi,hd'] at this
      simp at this
  -- what a finished operation does
  have fin : ∀ v J' L' H' cacc' w' r, Le J J' → St C J' L' w' → T5 C.w0.heap.size J' H' L' → H4 J' r v → p4 (cacc' ++ accP) i = some r → (∀ j, j ≠ i → p4 (cacc' ++ accP) j = p4 (cacc ++ accP) j) →
      Inv (listed.setIfInBounds i true) cacc' H'→(∀ j r,p4 cacc' j=some r→j∈ci)→(∀ j r r0,p4 cacc' j=some r→p4 accP j=some r0→r=r0)→(∀ j,j∈ci→(listed.setIfInBounds i true).getD j false=true→∃ r,p4 cacc' j=some r)→(∀ j r,p4 cacc' j=some r→(listed.setIfInBounds i true).getD j false=true)→K (a.put o.dst v) w':=by
    intro v J' L' H' cacc' w' r hle hst hH hv hri hrj hpl hkeys hprom hproL hfresh
    refine hK cacc' H' J' L' (fun j=>if j=i then v else vs j) _ _ ⟨inv.head.set hr hin,inv.le.trans hle,inv.V5.trans hle,hst,hH,hpl,hkeys,hfresh,hprom,hproL,fun j hj hl => ?_,?_,?_,fun j d' hj hl hd' => ?_,fun t u hu hno => ?_⟩
    · by_cases hji:j=i
      · subst hji
        exact⟨r,hri,by simpa using hv⟩
      · rw [hput j hji] at hl
        obtain⟨q,h1,h2⟩:=inv.val j hj hl
        exact⟨q,(hrj j hji).trans h1,by simpa [hji] using h2.mono hle⟩
    · rw [put_defers];exact inv.defers
    · rw [b1y];exact inv.size
    · by_cases hji:j=i
      · subst hji
        have hod:o.dst=some d':=by rw [ho] at hd';exact hd'
        rw [hod,put_eq _ _ (by rw [inv.size];exact hdN d' hod),if_pos rfl]
      · rw [hput j hji] at hl
        rw [b0o _ _ (hdne j hj hji d' hd'),if_neg hji]
        exact inv.a4k j d' hj hl hd'
    · rw [b0o _ _ (fun hod=>hno i hin (G8 hilt) (by rw [ho];exact hod))]
      refine inv.a6F t u hu fun j hj hl=>hno j hj ?_
      by_cases hji:j=i
      · subst hji;rw [hiun] at hl;cases hl
      · rw [hput j hji];exact hl
  -- the guard
  have hgrd:∀ gi want,o.guard=some (gi,want)→∀ b,p4 accP gi=some (.v b)→yielded l.toArray a.tmps gi=some b:=fun gi want hg b hb=>by
    rw [hg] at hguard
    simp only [Bool.and_eq_true] at hguard
    have hgn:gi < n:=by simpa [Nat.blt_eq] using hguard.1.1
    have hgl:=hlisted gi hguard.1.2
    obtain⟨r,h1,h2⟩:=inv.val gi hgn hgl
    have hr2:r = .v b:=by
      rw [B1] at h1
      cases hc:p4 cacc gi with
      | some q =>
        rw [hc] at h1
        cases h1
        exact inv.prom gi _ _ hc hb
      | none =>
        rw [hc] at h1
        simp only at h1
        rw [hb] at h1
        exact(Option.some.inj h1).symm
    subst hr2
    obtain⟨cs,rfl,hvs⟩:=h2
    obtain⟨dg,hdg0⟩:=Option.isSome_iff_exists.1 hguard.2
    obtain⟨og,hog,hdg⟩:=Option.bind_eq_some_iff.1 hdg0
    have htg:=inv.a4k gi dg hgn hgl (by rw [hog];exact hdg)
    rw [hvs] at htg
    unfold yielded
    rw [hog]
    simp only [Option.bind_some,hdg,htg]
    rfl
  unfold wpOpIn
  simp only [ho]
  by_cases hic:i∈ci
  · obtain⟨hgn,hop⟩:=hstep listed cacc H i o s inv.pl hic hol hs hiun hlisted hilt
    have hcn:p4 cacc i=none:=by
      cases hc:p4 cacc i with
      | none=>rfl
      | some q=>exact absurd (inv.fresh i q hc) (by rw [hiun];decide)
    have hself:∀ r,p4 (((i,r)::cacc)++accP) i=some r:=fun r=>by rw [B1,y1,if_pos rfl]
    have hoth:∀ r j,j≠i→p4 (((i,r)::cacc)++accP) j=p4 (cacc++accP) j:=fun r j hj=>by rw [B1,B1,y1,if_neg (Ne.symm hj)]
    have hkeys:∀ r,∀ j q,p4 ((i,r)::cacc) j=some q→j∈ci:=fun r j q hq=>by
      rw [y1] at hq
      by_cases e:i=j
      · subst e;exact hic
      · rw [if_neg e] at hq;exact inv.keys j q hq
    have hfresh:∀ r,∀ j q,p4 ((i,r)::cacc) j=some q→(listed.setIfInBounds i true).getD j false=true:=fun r j q hq=>by
      rw [y1] at hq
      by_cases e:i=j
      · subst e;exact G8 hilt
      · rw [if_neg e] at hq;rw [hput j (Ne.symm e)];exact inv.fresh j q hq
    have hprom:∀ r,(∀ r0,p4 accP i=some r0→r=r0)→∀ j q r0,p4 ((i,r)::cacc) j=some q→p4 accP j=some r0→q=r0:=fun r hr0 j q r0 hq h0=>by
      rw [y1] at hq
      by_cases e:i=j
      · subst e;rw [if_pos rfl] at hq;cases hq;exact hr0 r0 h0
      · rw [if_neg e] at hq;exact inv.prom j q r0 hq h0
    have hproL:∀ r,∀ j,j∈ci→(listed.setIfInBounds i true).getD j false=true→∃ q,p4 ((i,r)::cacc) j=some q:=fun r j hj hl=>by
      by_cases e:i=j
      · subst e;exact⟨r,by rw [y1,if_pos rfl]⟩
      · rw [hput j (Ne.symm e)] at hl
        obtain⟨q,hq⟩:=inv.b7h j hj hl
        exact⟨q,by rw [y1,if_neg e];exact hq⟩
    rw [if_pos (by simp [Region.wanted,hgn])]
    refine Yld.wp ((hop _ J L hR a w hfits inv.st).mono ?_)
    rintro v w' ⟨J',L',hst,hle,r,H',h1,h2,h3,h4⟩
    exact fin v J' L' H' ((i,r)::cacc) w' r hle hst h2 h1 (hself r) (hoth r) h4 (hkeys r) (hprom r h3) (hproL r) (hfresh r)
  · obtain⟨r,hri,hd⟩:=hp i o s hin hic hol hs
    have hcn:∀ j,j∉ci→p4 cacc j=none:=fun j hj=>by
      cases hc:p4 cacc j with
      | none=>rfl
      | some q=>exact absurd (inv.keys j q hc) hj
    have hself:p4 (cacc++accP) i=some r:=by rw [B1,hcn i hic];exact hri
    have hRq:Y2 C J L (D8 σ0 accP s (C3 o)) H (a0V g (C3 o)):=hR.sub fun t b hb=>by
      obtain⟨hmem,hb2⟩:=a1w hb
      refine a42 ?_ hmem
      cases hsrc:K7 s t with
      | none=>simp only [hsrc] at hb2 ⊢;exact hb2
      | some j =>
        simp only [hsrc] at hb2 ⊢
        rw [B1]
        cases hc:p4 cacc j with
        | none=>exact hb2
        | some q=>exact congrArg some (inv.prom j q b hc hb2)
    have hproL:∀ j,j∈ci→(listed.setIfInBounds i true).getD j false=true→∃ q,p4 cacc j=some q:=fun j hj hl=>by
      have:j≠i:=by rintro rfl;exact hic hj
      rw [hput j this] at hl;exact inv.b7h j hj hl
    have hfresh:∀ j q,p4 cacc j=some q→(listed.setIfInBounds i true).getD j false=true:=fun j q hq=>by
      have:j≠i:=by rintro rfl;exact hic (inv.keys j q hq)
      rw [hput j this];exact inv.fresh j q hq
    obtain⟨Hp,hHp⟩:=hfam _ _ _ i inv.pl hin hic hiun
    have hdH:=hd Hp
    rw [←hHp] at hdH
    unfold a5p at hdH
    have run:∀ (c:AV),j6 P N C o (D8 σ0 accP s (C3 o)) H (fun r'=>r'=c)→(∀ J' u,H4 J' c u→H4 J' r u)→o.wpIn C.fen 0 P a w K Q':=fun c h hcr=>by
      refine Yld.wp ((h _ J L hRq a w hfits inv.st.mem).mono ?_)
      rintro v w' ⟨J',X,hc,hle,hn,hm,hX,rfl,r',h1,rfl⟩
      have hst:=(inv.st.step hc hle hn hm hX)
      rw [List.nil_append] at hst
      exact fin v J' L H cacc w' r hle hst (inv.heap.mono hle) (hcr _ _ h1) hself (fun j hj=>rfl) (hpure _ _ _ i inv.pl hic) inv.keys inv.prom hproL hfresh
    cases hg:o.guard with
    | none =>
      rw [hg] at hdH
      rw [if_pos (by simp [Region.wanted,hg])]
      exact run r hdH (fun _ _ h=>h)
    | some gw =>
      obtain⟨gi,want⟩:=gw
      rw [hg] at hdH
      obtain⟨b,c,hb,rfl,h2⟩:=hdH
      have hy:=hgrd gi want hg b hb
      by_cases hbw:b=want
      · rw [if_pos (by simp [Region.wanted,hg,hy,hbw])]
        exact run c (h2 hbw) (fun _ _ h _=>h)
      · have hwf:¬Region.wanted o (yielded l.toArray a.tmps)=true:=by simpa [Region.wanted,hg,hy] using hbw
        rw [if_neg hwf]
        refine⟨fun _ _=>trivial,?_⟩
        exact fin undef J L H cacc w (.opt (b == want) c) (Le.refl J) inv.st inv.heap (fun hc=>absurd (by simpa using hc) hbw) hself (fun j hj=>rfl) (hpure _ _ _ i inv.pl hic) inv.keys inv.prom hproL hfresh
theorem b4O {Q' : Exit → Act → World → Prop} (h0 : Y2 C I L0 σ0 H0 ρ0) (hN : M3 N l = true) (hback : a0c l.toArray = true) (hok : ∀ i, i < n → a1l l.toArray n ss i = true) (hdst : a6f l.toArray n = true)
    (hfam:∀ listed cacc H i,Inv listed cacc H→i < n→i∉ci→listed.getD i false=false→∃ q,H=HT i q) (hpure:∀ listed cacc H i,Inv listed cacc H→i∉ci→Inv (listed.setIfInBounds i true) cacc H)
    (hstep:∀ listed cacc H i o s,Inv listed cacc H→i∈ci→l[i]?=some o→ss[i]?=some s→listed.getD i false=false→(∀ j,Region.waitsFor .any l.toArray i j=true→listed.getD j false=true)→i < listed.size →
      o.guard=none∧A6 P C N o (D8 σ0 (cacc++accP) s (C3 o)) H (fun r H'=>(∀ r0,p4 accP i=some r0→r=r0)∧Inv (listed.setIfInBounds i true) ((i,r)::cacc) H'))
    (hp:∀ i o s,i < n→i∉ci→l[i]?=some o→ss[i]?=some s→∃ r,p4 accP i=some r∧a2B P N C σ0 (HT i) accP o s r)
    (hle:n≤l.length) (htail:n=l.length∨(Region.sinkB .any l.toArray n=true∧Region.chainB .any l.toArray n=true)) (hseq:Region.seqB .any l.toArray (l.length - n) n (M4 l.length n)=true)
    (hfin:∀ listed cacc H J L vs a w,b5M P C N n l ci σ0 accP Inv ρ0 I listed cacc H J L vs a w→(∀ j,j < n→listed.getD j false=true)→wpListIn C.fen 0 P l.toArray Q' (l.drop n) a w) :
    ∀ (m:Nat) (listed:Array Bool) cacc H J L vs a w,b5M P C N n l ci σ0 accP Inv ρ0 I listed cacc H J L vs a w→unl listed n=m→wpAnyIn C.fen 0 P .any l.toArray Q' (m+(l.length - n)) listed a w
  | 0,listed,cacc,H,J,L,vs,a,w,inv,hm=>by
    have hsz:listed.size=l.length:=by simpa using inv.head.size
    have hall:∀ j,j < n→listed.getD j false=true:=fun j hj=>a3L (by omega) (a1Q hm j hj)
    have heq:listed=M4 l.length n:=by
      refine Array.ext (by simp [M4,hsz]) fun j h1 h2 => ?_
      have e1:(M4 l.length n)[j]'h2=Nat.blt j n:=by simp [M4]
      rw [e1]
      by_cases hj:j < n
      · have:=hall j hj
        simp [h1] at this
        rw [this]
        exact(Nat.blt_eq▸hj:Nat.blt j n=true).symm
      · have:=inv.head.tail j (by omega) (by simp;omega)
        simp [h1] at this
        rw [this]
        cases hb:Nat.blt j n
        · rfl
        · exact absurd (Nat.blt_eq▸hb:j < n) hj
    have hw:=hfin listed cacc H J L vs a w inv hall
    have h2:=Y7 (md := .any) (Q':=Q') (l.drop n) n listed a w (fun j=>by simp [List.getElem?_drop]) (by rw [heq];simpa using hseq) hw
    simpa using h2
  | m+1,listed,cacc,H,J,L,vs,a,w,inv,hm=>by
    have hsz:listed.size=l.length:=by simpa using inv.head.size
    obtain⟨i,hin,hi,hlt⟩:=a52 hm
    have hr:=U7 hback (by simpa using inv.head.size) hi hlt
    rw [show m+1+(l.length - n)=(m+(l.length - n))+1 by omega]
    refine⟨fun h0=>(by rw [h0] at hr;cases hr),fun j hj => ?_⟩
    have hjn:j < n:=by
      rcases Nat.lt_or_ge j n with h|h
      · exact h
      · rcases htail with ht|⟨hs,hc⟩
        · obtain⟨_,o,ho,_⟩:=mem_ready.1 hj
          have:=(Array.getElem?_eq_some_iff.1 ho).1
          simp at this
          omega
        · have hnl:n < l.toArray.size:=by
            obtain⟨_,o,ho,_⟩:=mem_ready.1 hj
            have:=(Array.getElem?_eq_some_iff.1 ho).1
            omega
          exact absurd hj (tail_waits hs hc hnl inv.head _ i rfl hin hi j h)
    refine inv.step h0 hN hok hdst hfam hpure hstep hp hj hjn fun cacc' H' J' L' vs' a' w' inv' => ?_
    refine b4O h0 hN hback hok hdst hfam hpure hstep hp hle htail hseq hfin m _ cacc' H' J' L' vs' a' w' inv' ?_
    have hu:=(mem_ready.1 hj).1
    have:=a4U hu hjn
    omega
end
theorem L9.b7p {P : Program} {C : Ctx} {N : Nat} {Q : Exit → y2 → j9 → Prop} {σ : y2} {H : j9} {id : Nat} {l : List Oper} {ι : Type 1} (HT : Nat → ι → j9) (hm : P.follows .mixedOrders = true) (n : Nat) (ss : List (List (Nat × Nat))) (ci : List Nat)
    (hN:M3 N l=true) (hB:a2A l.toArray n ss=true) (full:List (Nat×AV)) (Inv:Array Bool→List (Nat×AV)→j9→Prop) (h00:Inv (Array.replicate l.toArray.size false) [] H)
    (hp:∀ i o s,i < n→i∉ci→l[i]?=some o→ss[i]?=some s→∃ r,p4 full i=some r∧a2B P N C σ (HT i) full o s r)
    (hfam:∀ listed cacc H i,Inv listed cacc H→i < n→i∉ci→listed.getD i false=false→∃ q,H=HT i q) (hpure:∀ listed cacc H i,Inv listed cacc H→i∉ci→Inv (listed.setIfInBounds i true) cacc H)
    (hstep:∀ listed cacc H i o s,Inv listed cacc H→i∈ci→l[i]?=some o→ss[i]?=some s→listed.getD i false=false→(∀ j,Region.waitsFor .any l.toArray i j=true→listed.getD j false=true)→i < listed.size →
      o.guard=none∧A6 P C N o (D8 σ (cacc++full) s (C3 o)) H (fun r H'=>(∀ r0,p4 full i=some r0→r=r0)∧Inv (listed.setIfInBounds i true) ((i,r)::cacc) H'))
    (hfinal:∀ listed cacc H',Inv listed cacc H'→(∀ j,j < n→listed.getD j false=true)→F8 P C N l.toArray Q (l.drop n) (a17 (cacc++full) (l.take n) 0 σ) H') :
    L9 P C N (.region id l.toArray true) Q σ H:=fun ρ I L hs a w ha hst=>by
  have hB0:=hB
  simp only [a2A,Bool.and_eq_true,Bool.or_eq_true] at hB
  obtain⟨⟨⟨⟨⟨hle,hback⟩,hok⟩,hdst⟩,htail⟩,hseq⟩:=hB
  have hle':n≤l.length:=by simpa using Nat.le_of_ble_eq_true hle
  have hok':∀ i,i < n→a1l l.toArray n ss i=true:=fun i hi=>List.all_eq_true.1 hok i (List.mem_range.2 hi)
  have hs':St C I L { w with drawn:=w.drawn+1 }:=⟨⟨hst.mem.im,hst.mem.loc,hst.mem.sep,hst.mem.nodup⟩,⟨hst.S3.os,hst.S3.tape,hst.S3.output,hst.S3.size,hst.S3.block⟩,hst.own,hst.V5,hst.new⟩
  refine wpIn_region_any hm ?_
  have inv0:b5M P C N n l ci σ full Inv ρ I (Array.replicate l.toArray.size false) [] H I L (fun _=>undef) a { w with drawn:=w.drawn+1 }:=by
    have hnl:∀ j,(Array.replicate l.toArray.size false).getD j false=true→False:=fun j hl=>by rw [getD_replicate_false] at hl;cases hl
    refine⟨⟨by simp,fun j oj _ hl=>(hnl j hl).elim,fun t _ ht=>getD_in (by simpa using ht) (getD_replicate_false _ _)⟩,Le.refl _,hs.V5,hs',hs.heap,h00,fun j r hj=>by simp [p4] at hj,fun j r hj=>by simp [p4] at hj,fun j r r0 hj=>by simp [p4] at hj,fun j _ hl=>(hnl j hl).elim,fun j _ hl=>(hnl j hl).elim,ha.defers,ha.size,fun j d _ hl=>(hnl j hl).elim,fun t v hv _=>ha.tmp t v hv⟩
  have hunl:unl (Array.replicate l.toArray.size false) n=n:=by
    have key:∀ k,k≤l.toArray.size→unl (Array.replicate l.toArray.size false) k=k:=by
      intro k
      induction k with
      | zero=>intro _;rfl
      | succ k ih =>
        intro hk
        rw [unl,ih (by omega),if_pos (getD_in (by simp at hk ⊢;omega) (getD_replicate_false _ _))]
    exact key n (by simpa using hle')
  have hmain:=b4O (Q':=a5h C N (qA C Q)) hs hN hback hok' hdst hfam hpure hstep hp hle'
    (by rcases htail with h | h
        · exact .inl (by simpa using h)
        · exact .inr h) (by simpa using hseq)
    (fun listed cacc H' J L' vs a' w' inv hall=>by
      have hpl:=hfinal listed cacc H' inv.pl hall
      have hNd:M3 N (l.drop n)=true:=by
        simp only [M3,List.all_eq_true] at hN ⊢
        exact fun o ho=>hN o (List.mem_of_mem_drop ho)
      have hR:Y2 C J L' σ H' ρ:=⟨fun t b hb=>by obtain⟨u,h1,h2⟩:=hs.env t b hb;exact⟨u,h1,h2.mono inv.le⟩,inv.heap,inv.V5⟩
      have hget:∀ i o,(l.take n)[i]?=some o→i < n∧l[i]?=some o:=fun i o ho=>by
        have h1:=(List.getElem?_eq_some_iff.1 ho).1
        have hin:i < n:=by rw [List.length_take] at h1;omega
        rw [List.getElem?_take,if_pos hin] at ho
        exact⟨hin,ho⟩
      refine hpl (a83 vs (l.take n) 0 ρ) J L' (a7Y (l.take n) 0 σ ρ hR fun i o ho => ?_) hNd a' w' (a43 inv.defers inv.size (l.take n) 0 ρ (fun i o d ho hdd => ?_) fun t v hv hno=>inv.a6F t v hv fun j hj _ hdj => ?_) inv.st
      · obtain⟨hin,_⟩:=hget i o ho
        rw [Nat.zero_add]
        exact inv.val i hin (hall i hin)
      · obtain⟨hin,ho2⟩:=hget i o ho
        rw [Nat.zero_add]
        exact inv.a4k i d hin (hall i hin) (by simp [ho2,hdd])
      · have hjl:j < l.length:=by omega
        have:(l.take n)[j]?=some l[j]:=by rw [List.getElem?_take,if_pos hj];exact List.getElem?_eq_getElem hjl
        refine hno j l[j] this ?_
        simpa [hjl] using hdj)
    n _ _ _ _ _ _ _ _ inv0 hunl
  rw [show n+(l.length - n)=l.toArray.size by simp;omega] at hmain
  exact hmain
theorem L9.c2i {P : Program} {C : Ctx} {N : Nat} {Q : Exit → y2 → j9 → Prop} {σ : y2} {H : j9} {id : Nat} {l : List Oper} {ι : Type 1} (HT : ι → j9) (hm : P.follows .mixedOrders = true) (n : Nat) (ss : List (List (Nat × Nat))) (ci : List Nat)
    (hN:M3 N l=true) (hB:a2A l.toArray n ss=true) (full:List (Nat×AV)) (Inv:Array Bool→List (Nat×AV)→j9→Prop) (h00:Inv (Array.replicate l.toArray.size false) [] H)
    (hp:∀ i o s,i < n→i∉ci→l[i]?=some o→ss[i]?=some s→∃ r,p4 full i=some r∧a2B P N C σ HT full o s r)
    (hfam:∀ listed cacc H,Inv listed cacc H→∃ q,H=HT q) (hpure:∀ listed cacc H i,Inv listed cacc H→i∉ci→Inv (listed.setIfInBounds i true) cacc H)
    (hstep:∀ listed cacc H i o s,Inv listed cacc H→i∈ci→l[i]?=some o→ss[i]?=some s→listed.getD i false=false→(∀ j,Region.waitsFor .any l.toArray i j=true→listed.getD j false=true)→i < listed.size →
      o.guard=none∧A6 P C N o (D8 σ (cacc++full) s (C3 o)) H (fun r H'=>(∀ r0,p4 full i=some r0→r=r0)∧Inv (listed.setIfInBounds i true) ((i,r)::cacc) H'))
    (hfinal:∀ listed cacc H',Inv listed cacc H'→(∀ j,j < n→listed.getD j false=true)→F8 P C N l.toArray Q (l.drop n) (a17 (cacc++full) (l.take n) 0 σ) H') :
    L9 P C N (.region id l.toArray true) Q σ H :=
  L9.b7p (fun _=>HT) hm n ss ci hN hB full Inv h00 hp (fun listed cacc H i h _ _ _=>hfam listed cacc H h) hpure hstep hfinal
end Go.Ab
namespace Go.Ab
open Go.Fl Go.RowKit
open p9 (rep)
structure AT where
 α:Type
 r:p9 α
 d:α
def AT.res (t:AT) (b:Nat):AV := @AV.ln t.α t.α t.r t.r (ptr b 0) (@m5.id t.α t.r)
def AT.blk (t:AT) (b:Nat):Bool×E9:=(true,@E9.ob t.α t.r (ptr b 0) t.d)
def X4:Bool×E9:=(true,.fz undef .any)
def hA (listed:Nat→Bool) (ws:Nat→Nat) (al:List (Nat×AT)):j9:=al.map fun p=>bif listed p.1 then p.2.blk (ws p.1) else X4
theorem L9.c3h {P:Program} {C:Ctx} {N:Nat} {Q:Exit→y2→j9→Prop} {σ:y2} {H:j9} {c:Code} (k:L9 P C N c Q σ (X4::H)):L9 P C N c Q σ H:=fun ρ I L hs =>
 wpS.pad (k ρ I ([]::L) ⟨hs.env,⟨[],L,rfl,⟨⟨rfl,trivial⟩,fun _ p hp=>by cases hp⟩,hs.heap⟩,hs.V5⟩)
theorem a6m {L:Lh} {i:Nat} (h:L[i]?=some []) (X:List (Nat×Obj)):(L.set i X).flatten.Perm (X++L.flatten):=by
 obtain⟨h1,h2⟩:=a0T L i [] h X
 rw [h1,h2,List.nil_append,←List.append_assoc,←List.append_assoc]
 exact List.Perm.append_right _ List.perm_append_comm
theorem b7q {C:Ctx} {I:Im} {L M:Lh} {w:World} (h:St C I L w) (hp:M.flatten.Perm L.flatten):St C I M w :=
 ⟨⟨h.mem.im,fun p hq=>h.mem.loc p (hp.mem_iff.1 hq),fun p hq=>h.mem.sep p (hp.mem_iff.1 hq),(hp.map Prod.fst).nodup_iff.2 h.mem.nodup⟩,h.S3,fun p hq=>h.own p (hp.mem_iff.1 hq),h.V5,h.new⟩
theorem A6.c2j {P : Program} {C : Ctx} {N : Nat} {o : Oper} {σ : y2} {H : j9} {K : AV → j9 → Prop} {F : Bool × E9 → j9} (hh : y3 H X4 F)
    (h:A6 P C N o σ H (fun r H'=>∃ B,H'=B::H∧K r (F B))):A6 P C N o σ H K:=fun ρ I L hs a w ha hst=>by
  refine(h ρ I L hs a w ha hst).mono ?_
  rintro v w' ⟨J,L',q1,q2,r,H',q3,q4,B,rfl,q5⟩
  obtain⟨X,R,rfl,h1,h2⟩:=q4
  obtain⟨j,Y,h3,h4,h5⟩:=hh.get h2
  have hY:Y = []:=h4.1.1
  subst hY
  exact⟨J,R.set j X,b7q q1 (a6m h3 X),q2,r,F B,q3,h5 J B X (Le.refl J) h1,q5⟩
def rA (ws:Nat→Nat) (al:List (Nat×AT)):List (Nat×AV):=al.map fun p=>(p.1,p.2.res (ws p.1))
def upd (ws:Nat→Nat) (i b:Nat):Nat→Nat:=fun j=>if j=i then b else ws j
theorem a8C {ws:Nat→Nat}:∀ {al:List (Nat×AT)} {p:Nat×AT},(al.map Prod.fst).Nodup→p∈al→p4 (rA ws al) p.1=some (p.2.res (ws p.1))
 | q::al,p,hn,hp=>by
  rw [List.map_cons,List.nodup_cons] at hn
  show p4 ((q.1,q.2.res (ws q.1))::rA ws al) p.1=_
  rw [y1]
  rcases List.mem_cons.1 hp with rfl|hp
  ·rw [if_pos rfl]
  ·rw [if_neg (fun e=>hn.1 (by rw [e];exact List.mem_map_of_mem hp))]
   exact a8C hn.2 hp
theorem T8 {ws:Nat→Nat}:∀ {al:List (Nat×AT)} {j:Nat},j∉al.map Prod.fst→p4 (rA ws al) j=none
 | [],j,_=>rfl
 | q::al,j,h=>by
  show p4 ((q.1,q.2.res (ws q.1))::rA ws al) j=_
  rw [List.map_cons,List.mem_cons,not_or] at h
  rw [y1,if_neg (fun e=>h.1 e.symm)]
  exact T8 h.2
theorem a2E {ws ws':Nat→Nat} {j:Nat} (h:ws j=ws' j):∀ {al:List (Nat×AT)},p4 (rA ws al) j=p4 (rA ws' al) j
 | []=>rfl
 | q::al=>by
  show p4 ((q.1,q.2.res (ws q.1))::rA ws al) j=p4 ((q.1,q.2.res (ws' q.1))::rA ws' al) j
  rw [y1,y1]
  by_cases e:q.1=j
  ·subst e;rw [if_pos rfl,if_pos rfl,h]
  ·rw [if_neg e,if_neg e];exact a2E h
theorem b4P {f:Nat→Bool} {ws:Nat→Nat} {q:Nat×AT} {al:List (Nat×AT)}:hA f ws (q::al)=(bif f q.1 then q.2.blk (ws q.1) else X4)::hA f ws al:=rfl
theorem a1X {f g:Nat→Bool} {ws ws':Nat→Nat}:∀ {al:List (Nat×AT)},(∀ p∈al,f p.1=g p.1∧ws p.1=ws' p.1)→hA f ws al=hA g ws' al
 | [],_=>rfl
 | q::al,h=>by
  have h1:=h q List.mem_cons_self
  show(bif f q.1 then q.2.blk (ws q.1) else X4)::hA f ws al=(bif g q.1 then q.2.blk (ws' q.1) else X4)::hA g ws' al
  rw [h1.1,h1.2,a1X fun p hp=>h p (List.mem_cons_of_mem _ hp)]
theorem b3j {f:Nat→Bool} {ws:Nat→Nat} {al:List (Nat×AT)} (h:∀ p∈al,f p.1=true):hA f ws al=al.map fun p=>p.2.blk (ws p.1) :=
 List.map_congr_left fun p hp=>by rw [h p hp];rfl
theorem b0v {f : Nat → Bool} {ws : Nat → Nat} {H0 : j9} {p : Nat × AT} : ∀ {al : List (Nat × AT)}, (al.map Prod.fst).Nodup → p ∈ al → f p.1 = false →
    ∃ F,y3 (hA f ws al++H0) X4 F∧∀ b,F (p.2.blk b)=hA (fun j=>if j=p.1 then true else f j) (upd ws p.1 b) al++H0
  | q::al,hn,hp,hf=>by
    rw [List.map_cons,List.nodup_cons] at hn
    rcases List.mem_cons.1 hp with rfl|hp
    · refine⟨fun X=>X::(hA f ws al++H0),?_,fun b => ?_⟩
      · show y3 ((bif f p.1 then p.2.blk (ws p.1) else X4)::(hA f ws al++H0)) X4 _
        rw [hf];exact .z
      · rw [b4P,List.cons_append,if_pos rfl]
        show p.2.blk b::(hA f ws al++H0)=_
        rw [a1X (g:=fun j=>if j=p.1 then true else f j) (ws':=upd ws p.1 b) fun q hq => ?_]
        · simp [upd]
        · have:q.1≠p.1:=fun e=>hn.1 (by rw [←e];exact List.mem_map_of_mem hq)
          simp [upd,this]
    · obtain⟨F,h1,h2⟩:=b0v (H0:=H0) (ws:=ws) hn.2 hp hf
      have hne:q.1≠p.1:=fun e=>hn.1 (by rw [e];exact List.mem_map_of_mem hp)
      refine⟨fun X=>(bif f q.1 then q.2.blk (ws q.1) else X4)::F X,.s h1,fun b => ?_⟩
      rw [b4P,List.cons_append,if_neg hne]
      show _::F (p.2.blk b)=_
      rw [h2 b]
      simp [upd,hne]
def a3z (ops:Array Oper) (n:Nat) (ss:List (List (Nat×Nat))) (ks ci:List Nat):Bool :=
 W2 ops n ss ci&&ci.all (fun i=>match ops[i]? with|some o=>o.guard.isNone|none=>false)&&ks.all (fun i=>Nat.blt i n && !(ci.contains i)) &&
 (match ci with|i::_=>ks.all (fun j=>Region.waitsFor .any ops i j) | []=>true)
def a6X (P : Program) (C : Ctx) (N : Nat) {ι : Type 1} (HT : ι → j9) (σ : y2) (full : List (Nat × AV)) (F : List (Nat × AV) → j9 → Prop) (cl : List (Nat × Oper × List (Nat × Nat))) (al : List (Nat × AT)) (ci : List Nat) (H0 : j9)
    (listed:Array Bool) (cacc:List (Nat×AV)) (H:j9):Prop :=
  ((∀ i∈ci,listed.getD i false=false)∧∃ ws,(∀ j,p4 cacc j=if listed.getD j false=true then p4 (rA ws al) j else none)∧H=hA (fun j=>listed.getD j false) ws al++H0) ∨
  ((∀ p∈al,listed.getD p.1 false=true)∧∃ k c1,k≤ci.length∧(∀ m i,ci[m]?=some i→(listed.getD i false=true↔m < k))∧(∀ j,p4 cacc j=p4 c1 j)∧V6 P C N σ HT full F (cl.drop k) c1 H)
section
variable {P:Program} {C:Ctx} {N n:Nat} {ι:Type 1} {HT:ι→j9} {σ:y2} {full:List (Nat×AV)} {F:List (Nat×AV)→j9→Prop} {l:List Oper} {ss:List (List (Nat×Nat))} {al:List (Nat×AT)} {ci:List Nat} {H0:j9} {listed:Array Bool} {cacc:List (Nat×AV)} {H:j9}
theorem a6X.pure {i:Nat} (h:a6X P C N HT σ full F (J9 l ss ci) al ci H0 listed cacc H) (h1:i∉ci) (h2:i∉al.map Prod.fst):a6X P C N HT σ full F (J9 l ss ci) al ci H0 (listed.setIfInBounds i true) cacc H:=by
 have hput:∀ j,j≠i→(listed.setIfInBounds i true).getD j false=listed.getD j false:=fun j hj=>getD_set_ne false (Ne.symm hj)
 rcases h with ⟨ha,ws,hb,hc⟩|⟨ha,k,c1,hk,hb,hc,hd⟩
 ·refine .inl ⟨fun j hj=>by rw [hput j (fun e=>h1 (e▸hj))];exact ha j hj,ws,fun j => ?_,?_⟩
  ·by_cases e:j=i
   ·subst e
    rw [hb j,T8 h2];simp
   ·rw [hput j e];exact hb j
  ·rw [hc,a1X fun p hp=>⟨?_,rfl⟩]
   exact(hput p.1 (fun e=>h2 (e▸List.mem_map_of_mem hp))).symm
 ·refine .inr ⟨fun p hp=>by rw [hput p.1 (fun e=>h2 (e▸List.mem_map_of_mem hp))];exact ha p hp,k,c1,hk,fun m j hj => ?_,hc,hd⟩
  rw [hput j (fun e=>h1 (e▸List.mem_of_getElem? hj))];exact hb m j hj
theorem a6X.chained {i : Nat} (hch : a3z l.toArray n ss (al.map Prod.fst) ci = true) (hplan : ∀ ws, V6 P C N σ HT full F (J9 l ss ci) (rA ws al) ((al.map fun p => p.2.blk (ws p.1)) ++ H0))
    (h:a6X P C N HT σ full F (J9 l ss ci) al ci H0 listed cacc H) (hi:i∈ci) (hw:∀ j,Region.waitsFor .any l.toArray i j=true→listed.getD j false=true) :
    (∀ p∈al,listed.getD p.1 false=true)∧∃ k c1,k≤ci.length∧(∀ m i,ci[m]?=some i→(listed.getD i false=true↔m < k))∧(∀ j,p4 cacc j=p4 c1 j)∧V6 P C N σ HT full F ((J9 l ss ci).drop k) c1 H:=by
  rcases h with ⟨ha,ws,hb,hc⟩|h
  · simp only [a3z,Bool.and_eq_true] at hch
    obtain⟨⟨⟨hch,_⟩,hks⟩,hfirst⟩:=hch
    obtain⟨m,hm⟩:=List.mem_iff_getElem?.1 hi
    have hml:m < ci.length:=(List.getElem?_eq_some_iff.1 hm).1
    unfold W2 at hch
    cases m with
    | succ mj =>
      have h1:=List.all_eq_true.1 hch (mj+1) (List.mem_range.2 hml)
      simp only [hm,Bool.and_eq_true] at h1
      cases hj:ci[mj]? with
      | none=>simp [hj] at h1
      | some j =>
        simp only [hj,Bool.and_eq_true] at h1
        have h2:=hw j h1.2.2
        rw [ha j (List.mem_of_getElem? hj)] at h2;cases h2
    | zero =>
      cases hci:ci with
      | nil=>rw [hci] at hml;exact absurd hml (by simp)
      | cons c r =>
        rw [hci] at hm hfirst
        have hci2:c=i:=by simpa using hm
        subst hci2
        have hall:∀ p∈al,listed.getD p.1 false=true:=fun p hp=>hw p.1 (List.all_eq_true.1 hfirst p.1 (List.mem_map_of_mem hp))
        refine⟨hall,0,rA ws al,Nat.zero_le _,fun m j hj=>⟨fun hl => ?_,fun h=>by omega⟩,fun j => ?_,?_⟩
        · rw [ha j (by rw [hci];exact List.mem_of_getElem? hj)] at hl;cases hl
        · rw [hb j]
          split
          · rfl
          · rename_i hn
            refine(T8 fun hj => ?_).symm
            obtain⟨p,hp,rfl⟩:=List.mem_map.1 hj
            exact hn (hall p hp)
        · rw [List.drop_zero,←hci,hc,b3j hall]
          exact hplan ws
  · exact h
theorem a6X.alloc {p : Nat × AT} (hn : (al.map Prod.fst).Nodup) (hp : p ∈ al) (hd : p.1 ∉ ci) (h : a6X P C N HT σ full F (J9 l ss ci) al ci H0 listed cacc H) (hun : listed.getD p.1 false = false) (hlt : p.1 < listed.size) :
    ∃ F',y3 H X4 F'∧∀ b,a6X P C N HT σ full F (J9 l ss ci) al ci H0 (listed.setIfInBounds p.1 true) ((p.1,p.2.res b)::cacc) (F' (p.2.blk b)):=by
  have hput:∀ j,j≠p.1→(listed.setIfInBounds p.1 true).getD j false=listed.getD j false:=fun j hj=>getD_set_ne false (Ne.symm hj)
  have hset:(listed.setIfInBounds p.1 true).getD p.1 false=true:=G8 hlt
  rcases h with ⟨ha,ws,hb,hc⟩|⟨ha,_⟩
  · obtain⟨F',h1,h2⟩:=b0v (f:=fun j=>listed.getD j false) (ws:=ws) (H0:=H0) hn hp hun
    refine⟨F',hc▸h1,fun b => .inl ⟨fun j hj=>by rw [hput j (fun e=>hd (e▸hj))];exact ha j hj,upd ws p.1 b,fun j => ?_,?_⟩⟩
    · rw [y1]
      by_cases e:p.1=j
      · subst e
        rw [if_pos rfl,if_pos hset,a8C hn hp]
        simp [upd]
      · rw [if_neg e,hput j (Ne.symm e),hb j,a2E (ws:=ws) (ws':=upd ws p.1 b) (by simp [upd,Ne.symm e])]
    · rw [h2 b]
      congr 1
      refine a1X fun q hq=>⟨?_,rfl⟩
      by_cases e:q.1=p.1
      · rw [e,if_pos rfl,hset]
      · rw [if_neg e,hput _ e]
  · rw [ha p hp] at hun;cases hun
theorem a6X.chain {i : Nat} {o : Oper} {s : List (Nat × Nat)} (hch : a3z l.toArray n ss (al.map Prod.fst) ci = true) (hcl : ∀ (m i : Nat) (o : Oper) (s : List (Nat × Nat)), ci[m]? = some i → l[i]? = some o → ss[i]? = some s → (J9 l ss ci)[m]? = some (i, o, s)) (hnd : ci.Nodup)
    (hplan:∀ ws,V6 P C N σ HT full F (J9 l ss ci) (rA ws al) ((al.map fun p=>p.2.blk (ws p.1))++H0))
    (h:a6X P C N HT σ full F (J9 l ss ci) al ci H0 listed cacc H) (hi:i∈ci) (hol:l[i]?=some o) (hs:ss[i]?=some s) (hun:listed.getD i false=false) (hw:∀ j,Region.waitsFor .any l.toArray i j=true→listed.getD j false=true) (hlt:i < listed.size) :
    o.guard=none∧A6 P C N o (D8 σ (cacc++full) s (C3 o)) H (fun r H'=>(∀ r0,p4 full i=some r0→r=r0)∧a6X P C N HT σ full F (J9 l ss ci) al ci H0 (listed.setIfInBounds i true) ((i,r)::cacc) H'):=by
  obtain⟨hall,k,c1,hk,hb,hc,hpl⟩:=h.chained hch hplan hi hw
  simp only [a3z,Bool.and_eq_true] at hch
  obtain⟨⟨⟨hch,hgs⟩,hks⟩,_⟩:=hch
  have hg:o.guard=none:=by
    have:=List.all_eq_true.1 hgs i hi
    simp only [show l.toArray[i]?=some o by simpa using hol] at this
    exact Option.isNone_iff_eq_none.1 this
  have hput:∀ j,j≠i→(listed.setIfInBounds i true).getD j false=listed.getD j false:=fun j hj=>getD_set_ne false (Ne.symm hj)
  obtain⟨m,hm⟩:=List.mem_iff_getElem?.1 hi
  have hml:m < ci.length:=(List.getElem?_eq_some_iff.1 hm).1
  have hmk:¬m < k:=fun h=>by have:=(hb m i hm).2 h;rw [hun] at this;cases this
  have hkm:m≤k:=by
    unfold W2 at hch
    cases m with
    | zero=>omega
    | succ mj =>
      have h1:=List.all_eq_true.1 hch (mj+1) (List.mem_range.2 hml)
      simp only [hm,Bool.and_eq_true] at h1
      cases hj:ci[mj]? with
      | none=>simp [hj] at h1
      | some j =>
        simp only [hj,Bool.and_eq_true] at h1
        have:=(hb mj j hj).1 (hw j h1.2.2)
        omega
  obtain rfl:m=k:=by omega
  have hcc:=hcl m i o s hm hol hs
  have hdrop:(J9 l ss ci).drop m=(i,o,s)::(J9 l ss ci).drop (m+1):=by
    have hlt:=(List.getElem?_eq_some_iff.1 hcc).1
    rw [List.drop_eq_getElem_cons hlt]
    congr 1
    rw [List.getElem?_eq_getElem hlt] at hcc
    exact Option.some.inj hcc
  rw [hdrop,V6] at hpl
  replace hpl:=hpl.2
  have henv:D8 σ (cacc++full) s (C3 o)=D8 σ (c1++full) s (C3 o):=a4x (fun t j _=>by rw [B1,B1,hc j]) _
  refine⟨hg,?_⟩
  rw [henv]
  have hnext:∀ r H',V6 P C N σ HT full F ((J9 l ss ci).drop (m+1)) ((i,r)::c1) H'→a6X P C N HT σ full F (J9 l ss ci) al ci H0 (listed.setIfInBounds i true) ((i,r)::cacc) H':=fun r H' hq=>by
    refine .inr ⟨fun p hp => ?_,m+1,(i,r)::c1,by omega,fun m' i' hm' => ?_,fun j=>by rw [y1,y1,hc j],hq⟩
    · by_cases e:p.1=i
      · rw [e];exact G8 hlt
      · rw [hput _ e];exact hall p hp
    · by_cases e:i'=i
      · subst e
        have h1:=(List.getElem?_eq_some_iff.1 hm')
        have h2:=(List.getElem?_eq_some_iff.1 hm)
        have:m'=m:=(List.getElem_inj (h₀:=h1.1) (h₁:=h2.1) hnd).1 (by rw [h1.2,h2.2])
        subst this
        exact⟨fun _=>by omega,fun _=>G8 hlt⟩
      · rw [hput i' e,hb m' i' hm']
        have:m'≠m:=by rintro rfl;rw [hm] at hm';exact e (Option.some.inj hm').symm
        omega
  cases hr:p4 full i with
  | none =>
    rw [hg,hr] at hpl
    exact hpl.mono fun r H' hq=>⟨fun r0 h0=>(by cases h0),hnext r H' hq⟩
  | some r0 =>
    rw [hg,hr] at hpl
    exact hpl.mono fun r H' ⟨e,hq⟩=>⟨fun q h0=>by cases h0;exact e,by subst e;exact hnext _ H' hq⟩
end
theorem a2F {a b:List (Nat×AV)} (h:∀ j,p4 a j=p4 b j):∀ (os:List Oper) (k:Nat) (σ:y2),a17 a os k σ=a17 b os k σ
 | [],_,_=>rfl
 | o::os,k,σ=>by
  simp only [a17,h k]
  cases o.dst with
  | none=>exact a2F h os _ _
  | some d =>
   cases p4 b k with
   | none=>exact a2F h os _ _
   | some r=>exact a2F h os _ _
theorem b4Q {G:j9}:∀ (bs:List Bool) (k:Nat),T6 bs (G.drop k) (fun j=>G.getD j X4) k=G.drop k
 | [],_=>by simp [T6]
 | b::bs,k=>by
  cases hd:G.drop k with
  | nil=>rfl
  | cons B R =>
   have hB:G.getD k X4=B:=by
    have h1:G[k]?=some B:=by
     have:=congrArg (fun l:j9=>l[0]?) hd
     simpa using this
    simp [List.getD,h1]
   have hR:G.drop (k+1)=R:=by
    rw [←List.drop_drop,hd];rfl
   show(bif b then G.getD k X4 else B)::T6 bs R (fun j=>G.getD j X4) (k+1)=B::R
   rw [hB,←hR,b4Q bs (k+1)]
   cases b<;>rfl
theorem L9.c1b {P:Program} {C:Ctx} {N:Nat} {Q:Exit→y2→j9→Prop} {σ:y2} {H:j9} {c:Code}:∀ {al:List (Nat×AT)},L9 P C N c Q σ ((al.map fun _=>X4)++H)→L9 P C N c Q σ H
 | [],h=>h
 | _::al,h=>L9.c1b (al:=al) (L9.c3h h)
theorem L9.c2k {P : Program} {C : Ctx} {N : Nat} {Q : Exit → y2 → j9 → Prop} {σ : y2} {H : j9} {id : Nat} {l : List Oper} (bs : List Bool) (al : List (Nat × AT)) (hm : P.follows .mixedOrders = true) (n : Nat) (ss : List (List (Nat × Nat))) (ci : List Nat)
    (hN:M3 N l=true) (hB:a2A l.toArray n ss=true) (hss:Nat.ble n ss.length=true) (hC:a3z l.toArray n ss (al.map Prod.fst) ci=true) (hnd:ci.Nodup) (hna:(al.map Prod.fst).Nodup)
    (hal:∀ p∈al,∀ o,l[p.1]?=some o→o.guard=none∧∀ σ' H',A6 P C N o σ' H' (fun r H''=>∃ b,r=p.2.res b∧H''=p.2.blk b::H'))
    (h:a2C P N C σ (fun q:j9×(Nat→Bool×E9)=>q.1++T6 bs H q.2 0) (al.map Prod.fst++ci) (fun accP=>((al.map Prod.fst).all fun i=>(p4 accP i).isNone)=true ∧
      ∀ ws:Nat→Nat,V6 P C N σ (fun q:j9×(Nat→Bool×E9)=>q.1++T6 bs H q.2 0) accP (fun cacc H'=>F8 P C N l.toArray Q (l.drop n) (a17 (cacc++accP) (l.take n) 0 σ) H') (J9 l ss ci) (rA ws al) ((al.map fun p=>p.2.blk (ws p.1))++H)) (l.take n) ss 0 []) :
    L9 P C N (.region id l.toArray true) Q σ H := .c1b (al:=al) (by
  have hB0:=hB
  simp only [a2A,Bool.and_eq_true,Bool.or_eq_true] at hB
  obtain⟨⟨⟨⟨⟨hle,hback⟩,hok⟩,hdst⟩,htail⟩,hseq⟩:=hB
  have hle':n≤l.length:=by simpa using Nat.le_of_ble_eq_true hle
  have hok':∀ i,i < n→a1l l.toArray n ss i=true:=fun i hi=>List.all_eq_true.1 hok i (List.mem_range.2 hi)
  have hssl:=Nat.le_of_ble_eq_true hss
  obtain⟨full,⟨hnone,hF⟩,_,hd⟩:=a2S (l.take n) ss 0 [] (fun j r hj=>by simp [p4] at hj) h
  have hC2:=hC
  simp only [a3z,Bool.and_eq_true] at hC2
  obtain⟨⟨⟨hC',_⟩,hks⟩,_⟩:=hC2
  unfold W2 at hC'
  have hcin:∀ i∈ci,i < n:=fun i hi=>by
    obtain⟨m,hm⟩:=List.mem_iff_getElem?.1 hi
    have h1:=List.all_eq_true.1 hC' m (List.mem_range.2 (List.getElem?_eq_some_iff.1 hm).1)
    simp only [hm,Bool.and_eq_true] at h1
    simpa [Nat.blt_eq] using h1.1
  have hkin:∀ i∈al.map Prod.fst,i < n∧i∉ci:=fun i hi=>by
    have h1:=List.all_eq_true.1 hks i hi
    simp only [Bool.and_eq_true,Bool.not_eq_true',List.contains_eq_mem,decide_eq_false_iff_not] at h1
    exact⟨by simpa [Nat.blt_eq] using h1.1,h1.2⟩
  have hcl:=a4y (l:=l) (ss:=ss) ci (fun i hi=>⟨_,_,List.getElem?_eq_getElem (Nat.lt_of_lt_of_le (hcin i hi) hle'),List.getElem?_eq_getElem (Nat.lt_of_lt_of_le (hcin i hi) hssl)⟩)
  have hp:∀ i o s,i < n→i∉al.map Prod.fst++ci→l[i]?=some o→ss[i]?=some s→∃ r,p4 full i=some r∧a2B P N C σ (fun q:j9×(Nat→Bool×E9)=>q.1++T6 bs H q.2 0) full o s r:=fun i o s hi hic ho hsi=>by
    obtain⟨r,acc',h1,h2,h3⟩:=hd i o s (by rw [List.getElem?_take,if_pos hi];exact ho) hsi (by simpa using hic)
    rw [Nat.zero_add] at h1 h3
    refine⟨r,h1,fun H' => ?_⟩
    have hoi:=hok' i hi
    unfold a1l at hoi
    have ho':l.toArray[i]?=some o:=by simpa using ho
    simp only [ho',hsi,Bool.and_eq_true] at hoi
    have hback':∀ j,Region.waitsFor .any l.toArray i j=true→j < i:=fun j hw=>by
      obtain⟨e,he,hb,heq⟩:=X9 ho' hw
      have hil:i < l.toArray.size:=(Array.getElem?_eq_some_iff.1 ho').1
      have h4:=List.all_eq_true.1 hback i (List.mem_range.2 hil)
      simp only [ho',Array.all_eq_true_iff_forall_mem] at h4
      have h5:=h4 e he
      rw [hb] at h5
      have:e.on < i:=by simpa [Nat.blt_eq] using h5
      omega
    -- sources that are no operand are looked at too
    have henv:∀ t∈C3 o,∀ j,K7 s t=some j→p4 acc' j=p4 full j:=fun t ht j hj=>by
      have h6:=List.all_eq_true.1 hoi.1 t ht
      unfold a0U at h6
      simp only [hj,Bool.and_eq_true] at h6
      exact h3 j (hback' j h6.2)
    have hdd:=h2 H'
    unfold a5p at hdd ⊢
    have he:∀ ts,(∀ t∈ts,t∈C3 o)→D8 σ acc' s ts=D8 σ full s ts:=by
      intro ts
      induction ts with
      | nil=>intro _;rfl
      | cons t ts ih =>
        intro hts
        simp only [D8]
        cases hsrc:K7 s t with
        | none=>simp only [ih (fun u hu=>hts u (List.mem_cons_of_mem _ hu))]
        | some j=>simp only [henv t (hts t List.mem_cons_self) j hsrc,ih (fun u hu=>hts u (List.mem_cons_of_mem _ hu))]
    rw [←he _ (fun t ht=>ht)]
    cases hg:o.guard with
    | none=>rw [hg] at hdd;exact hdd
    | some p =>
      obtain⟨g,want⟩:=p
      rw [hg] at hdd
      have h6:=hoi.2
      rw [hg] at h6
      simp only [Bool.and_eq_true] at h6
      simp only at hdd ⊢
      rw [←h3 g (hback' g h6.1.2)];exact hdd
  refine L9.c2i (fun q:j9×(Nat→Bool×E9)=>q.1++T6 bs H q.2 0) hm n ss (al.map Prod.fst++ci) hN hB0 full
    (a6X P C N (fun q:j9×(Nat→Bool×E9)=>q.1++T6 bs H q.2 0) σ full (fun cacc H'=>F8 P C N l.toArray Q (l.drop n) (a17 (cacc++full) (l.take n) 0 σ) H') (J9 l ss ci) al ci H) ?_ hp ?_ ?_ ?_ ?_
  · refine .inl ⟨fun i _=>getD_replicate_false _ _,fun _=>0,fun j => ?_,?_⟩
    · rw [if_neg (by rw [getD_replicate_false];decide)];rfl
    · congr 1
      exact(List.map_congr_left fun p _=>by simp only [getD_replicate_false];rfl)
  · rintro listed cacc H' (⟨_,ws,_,rfl⟩|⟨_,k,c1,_,_,_,hq⟩)
    · refine⟨(hA (fun j=>listed.getD j false) ws al,fun j=>H.getD j X4),?_⟩
      have:=b4Q (G:=H) bs 0
      rw [List.drop_zero] at this
      simp only [this]
    · exact hq.tail
  · exact fun listed cacc H' i hi hni=>hi.pure (fun e=>hni (List.mem_append_right _ e)) (fun e=>hni (List.mem_append_left _ e))
  · intro listed cacc H' i o s hi hic hol hs hun hw hlt
    rcases List.mem_append.1 hic with hk|hc
    · obtain⟨p,hp,rfl⟩:=List.mem_map.1 hk
      obtain⟨hg,hop⟩:=hal p hp o hol
      obtain⟨F',h1,h2⟩:=hi.alloc hna hp (hkin _ hk).2 hun hlt
      refine⟨hg,A6.c2j h1 ((hop _ _).mono fun r H'' ⟨b,hr,hH⟩=>⟨_,hH,fun r0 h0 => ?_,by rw [hr];exact h2 b⟩)⟩
      have h3:=List.all_eq_true.1 hnone p.1 hk
      rw [h0] at h3;cases h3
    · exact hi.chain hC hcl hnd hF hc hol hs hun hw hlt
  · intro listed cacc H' hi hall
    have hfin:∃ c1,(∀ j,p4 cacc j=p4 c1 j)∧F8 P C N l.toArray Q (l.drop n) (a17 (c1++full) (l.take n) 0 σ) H':=by
      have hlen:∀ c:List Nat,(J9 l ss c).length≤c.length:=by
        intro c
        induction c with
        | nil=>exact Nat.le_refl _
        | cons i c ih =>
          simp only [J9]
          split
          · simpa using ih
          · exact Nat.le_succ_of_le ih
      rcases hi with ⟨ha,ws,hb,hc⟩|⟨ha,k,c1,hk,hb,hc,hq⟩
      · have hci:ci = []:=by
          cases hci:ci with
          | nil=>rfl
          | cons c r =>
            have h1:=hall c (hcin c (by rw [hci];exact List.mem_cons_self))
            rw [ha c (by rw [hci];exact List.mem_cons_self)] at h1;cases h1
        refine⟨rA ws al,fun j => ?_,?_⟩
        · rw [hb j]
          split
          · rfl
          · rename_i hn
            refine(T8 fun hj=>hn (hall j (hkin j hj).1)).symm
        · have hq:=hF ws
          have e:J9 l ss ci = []:=by
            have:=hlen ci
            rw [hci] at this ⊢;rfl
          rw [e,V6] at hq
          rw [hc,b3j fun p hp=>hall p.1 (hkin _ (List.mem_map_of_mem hp)).1]
          exact hq.2
      · have hk':k=ci.length:=by
          rcases Nat.lt_or_ge k ci.length with h|h
          · have:=(hb k _ (List.getElem?_eq_getElem h)).1 (hall _ (hcin _ (List.getElem_mem h)))
            omega
          · omega
        rw [hk',List.drop_eq_nil_of_le (hlen ci),V6] at hq
        exact⟨c1,hc,hq.2⟩
    obtain⟨c1,h1,h2⟩:=hfin
    rw [a2F (b:=c1++full) fun j=>by rw [B1,B1,h1 j]]
    exact h2)
theorem T5.c0w {n0:Nat} {I:Im}:∀ (m:Nat) {H:j9} {L:Lh},T5 n0 I H L→T5 n0 I (H.drop m) (L.drop m)
 | 0,_,_,h=>h
 | m+1,[],_,h=>by simp only [T5] at h;subst h;exact(show T5 n0 I [] [] from rfl)
 | m+1,B::H,_,h=>by obtain⟨X,R,rfl,h1,h2⟩:=h;exact T5.c0w m h2
theorem a6Y {L:Lh} {m:Nat} {p:Nat×Obj} (h:p∈(L.drop m).flatten):p∈L.flatten:=by
 rw [←List.take_append_drop m L,List.flatten_append];exact List.mem_append_right _ h
theorem G5.a5K {G : Gl} {P : Program} {f : FuncId} {fn : Func} {c : Code} {ags : List AV} {Hs : List E9} {post : AV → List E9 → Prop} (hf : P.funcs[f]? = some fn) (hb : fn.body = some c) (hn : (fn.name == "runtime.NumGoroutine") = false)
    (N:Nat) (hN:fn.ntmps=N) (hl:Nat.ble ags.length N=true) (σ:y2) (hσ:b0i ags 0=σ) (H0:j9) (hH:Hs.map (fun B=>(false,B))=H0)
    (h:∀ C:Ctx,Ctx.Ok C→G.p C.I0→L9 P C N c (a7M P fn C (fun r H=>∃ m:Nat,post r ((H.drop m).map Prod.snd))) σ H0):G5 G P f ags Hs post:=fun I L vs hG hvs hL =>
  ⟨⟨fn,hf,hn,by simp [hb]⟩,fun w hm=>a1p hf hb N hN (by rw [hvs.len];exact hl) hm (M:=L.flatten.map Prod.fst) (fun p hp=>List.mem_map_of_mem hp)
    ((h ⟨w, L.flatten.map Prod.fst, I, none⟩ (fun k hk => by
        obtain⟨p,hp,rfl⟩:=List.mem_map.1 hk
        exact y6 (hm.loc p hp)) hG (a0E vs 0) I L ⟨by rw [←hσ];exact hvs.env 0,by rw [←hH];exact hL.toH,Le.refl I⟩).mono fun e ρ J L hq=>a7M.q hq)
    fun v J L' w' hs hp=>by
      obtain⟨r,H,h1,h2,m,h3⟩:=hp
      refine⟨v,J,L'.drop m,a8,hs.S3,hs.V5,fun b h0 h1=>hs.new b h0 h1,⟨hs.mem.im,fun p hp=>hs.mem.loc p (a6Y hp),fun p hp=>hs.mem.sep p (a6Y hp),?_⟩,fun p hp=>hs.own p (a6Y hp),r,_,h1,(h2.c0w m).toK,h3⟩
      have:=hs.mem.nodup
      rw [←List.take_append_drop m L',List.flatten_append,List.map_append,List.nodup_append] at this
      exact this.2.1⟩
theorem L9.a19 {P:Program} {C:Ctx} {N:Nat} {Q:Exit→y2→j9→Prop} {σ:y2} {H:j9} {c:Code} (E:TypeId) (α:Type) [r:p9 α] (k:L9 P C N c Q σ ((true,.own E (.slice none 0 0) ([]:List α))::H)):L9 P C N c Q σ H:=fun ρ I L hs =>
 wpS.pad (k ρ I ([]::L) ⟨hs.env,⟨[],L,rfl,⟨⟨[],a1V.nil E _,rfl⟩,fun _ p hp=>by cases hp⟩,hs.heap⟩,hs.V5⟩)
theorem F8.a19 {P:Program} {C:Ctx} {N:Nat} {ops:Array Oper} {Q:Exit→y2→j9→Prop} {os:List Oper} {σ:y2} {H:j9} (E:TypeId) (α:Type) [r:p9 α] (k:F8 P C N ops Q os σ ((true,.own E (.slice none 0 0) ([]:List α))::H)):F8 P C N ops Q os σ H:=fun ρ I L hs =>
 wpL.pad (k ρ I ([]::L) ⟨hs.env,⟨[],L,rfl,⟨⟨[],a1V.nil E _,rfl⟩,fun _ p hp=>by cases hp⟩,hs.heap⟩,hs.V5⟩)
theorem j6.a9j {P : Program} {C : Ctx} {N : Nat} {σ : y2} {H : j9} {d : Option Nat} {ty : TypeId} {ps : String} {af : Array Edge} {g : Option (Nat × Bool)} {K : AV → Prop} {x y : Operand} {T T2 : TypeId} {m c : UInt64} (hx : F1 C σ H x (.v m)) (hy : F1 C σ H y (.v c)) (h0 : 0 ≤ c.toNat) (h1 : c.toNat < 64) (k : K (.v (m >>> c))) :
    j6 P N C ⟨d,.binOp .shr T x y T2,ty,ps,af,g⟩ σ H K :=
  .vk k (fun ρ I L hs=>I9.a9j c.toNat (hx.a1W hs) (hy.a1W hs) rfl h1 ⟨[Fl.u64 (m >>> c)],rfl,by rw [UInt64.ofNat_toNat];rfl⟩)
theorem j6.a2r {P : Program} {C : Ctx} {N : Nat} {σ : y2} {H : j9} {d : Option Nat} {ty : TypeId} {ps : String} {af : Array Edge} {g : Option (Nat × Bool)} {K : AV → Prop} {x : Operand} {S D : TypeId} {ds : TypeDesc} {m : UInt64} (hS : P.underlying S = some ds) (hD : P.underlying D = some (.int .u8)) (hx : F1 C σ H x (.v m)) (k : K (.v m.toUInt8)) :
    j6 P N C ⟨d,.convert S D x,ty,ps,af,g⟩ σ H K :=
  .vk k (fun ρ I L hs=>I9.a2r hS hD (hx.a1W hs) ⟨[Fl.u8 m.toUInt8],rfl,rfl⟩)
end Go.Ab
namespace Go.Proofs.YtmmclghiidoldaaGreatDoor
open Go.Fl Go.Ab Go.Mac Go.Sha
theorem b3k (w:Value) (d:o5) (hd:L5 d):G5 gl Tryz.prog 76 [dk w] [.ob w d] (fun r Hs=>∃ t:Tag,∃ d',L5 d'∧r = .v t∧Hs = [.ob w d']):=by
 refine G5.a5K Tryz.func76 rfl (by kernel_rfl) 16 rfl rfl _ rfl _ rfl fun C hC hG=>(.sr rfl (.h (.alloc p3 fun b2=>(.nil (.sr rfl (.h (.alloc p3 fun b3=>(.nil (.seq (.sr rfl (.p (.assign (.i rfl) (.nil (.block ?_))))))))))))))
 refine .F4 (α:=Nat×Tag×o5) [(0,_),(2,_),(3,_)] (fun x R=>(4,.v (x.1:Int))::R) (fun x => [(true,.ob (ptr b3 0) x.2.1),(true,.ob (ptr b2 0) (default:Tag)),(false,.ob w x.2.2)]) (fun x=>x.1≤4∧L5 x.2.2) (fun x=>4 - x.1) ((0,default,d)) (.c2 a8 a8 (.cons a8 (.nil _))) ?_ (.c2 a8 a8 (.c2 a8 a8 (.nil _))) (a8) fun x hF => ?_
 ·exact⟨Nat.zero_le _,hd⟩
 obtain⟨k,t,e⟩:=x
 obtain⟨h1,h2⟩:=hF
 dsimp only at h1 h2 ⊢
 refine .seq (.sr a8 (.mv a8 (.p (.lss (.t a8) (.i a8) (.nil (.o8 (.t a8) (fun hc6 => ?_) (fun hc6 => ?_)))))))
 ·refine .skip (.seq (.block (.region a8 (.mv a8 (.p (.mul (.t a8) (.i a8) (by omega) (by omega) (.mv a8 (.h (.D3 hG (a4B _ _ _ (by assumption) (by omega) (by omega)) .z2 (.cons (.t a8) (.cons (.i a8) .nil)) (by rintro _ _ ⟨_,rfl⟩;exact⟨_,rfl⟩) fun r12 B12 hr12 => ?_)))))))))
  obtain⟨rfl,hB⟩:=hr12
  cases hB
  refine .p (.a7d Tryz.underlying3 Tryz.underlying5 (.t a8) (.p (.c04 O7 (.t a8) (.t a8) (by omega) (by omega) (.n (.stL U1 (.t a8) (.t a8) .z (.nil (.region a8 (.mv a8 (.p (.add (.t a8) (.i a8) (by omega) (by omega) (.ag a8 (.nil ?_))))))))))))
  refine⟨(k+1,_,_),.c2 rfl rfl (.c2 rfl rfl (.nil _)),rfl,?_,by dsimp only;omega⟩
  exact⟨by dsimp only;omega,V7 h2⟩
 ·refine .exit (.sr a8 (.p (.I4 p3 (.t a8) .z (.n (.C8 p3 (.t a8) (.t a8) .z1 (.nil (.ret ?_)))))))
  refine⟨_,.r1 a8 (.cell p3 a8 .z1),?_⟩
  exact⟨2,_,_,h2,a8,a8⟩
end Go.Proofs.YtmmclghiidoldaaGreatDoor
namespace Go.Ab
open Go.Fl Go.RowKit
open p9 (rep)
structure V8 where
 v:Value
instance:Inhabited V8:=⟨⟨.slice none 0 0⟩⟩
instance:p9 V8 where
 size:=1
 agg:=false
 rep _ x cs:=cs = [x.v]∧x.v.oneCell'=true
 len h:=by simp [h.1]
 mono _ h:=h
 one _:=rfl
 flat h:=by simp [h.1,a0Y,h.2]
instance:J6 V8:=⟨[.slice none 0 0],fun _=>⟨rfl,rfl⟩⟩
structure GS (α:Type) where
 E:TypeId
 l:List α
section rules
variable {P:Program} {C:Ctx} {N:Nat} {σ:y2} {H:j9} {d:Option Nat} {ty:TypeId} {ps:String} {af:Array Edge} {g:Option (Nat×Bool)} {K:AV→Prop} {KH:AV→j9→Prop} {x y z:Operand} {T T2 E S D U:TypeId} {o:Oper}
theorem j6.raw {s:V8} (h:j6 P N C o σ H (fun r=>r = .v s)) (k:K (.raw s.v)):j6 P N C o σ H K:=fun ρ I L hs a w ha hm=>by
 refine(h ρ I L hs a w ha hm).mono ?_
 rintro v w' ⟨J,X,q1,q2,q3,q4,q5,q6,r,q7,rfl⟩
 obtain⟨cs,⟨rfl,_⟩,rfl⟩:=q7
 exact⟨J,X,q1,q2,q3,q4,q5,q6,.raw s.v,a8,k⟩
theorem j6.ldR {α : Type} {r : p9 α} {w : Value} {l : m5 α V8} {a : α} {bb : Bool} {F : Bool × E9 → j9} (f : α → V8) (tT : H9 P T V8) (hx : F1 C σ H x (.ln w l)) (hH : y3 H (bb, .ob w a) F) (hf : ∀ x, l.get x = f x) (k : K (.raw (f a).v)) :
    j6 P N C ⟨d,.load T x,ty,ps,af,g⟩ σ H K := .raw (.K0 f tT hx hH hf rfl) k
theorem L9.name {Q:Exit→y2→j9→Prop} (t:Nat) {a:AV} {c:Code} (ht:G4 σ t=some a) (k:∀ w,L9 P C N c Q ((t,.raw w)::σ) ((true,.fz w a)::H)):L9 P C N c Q σ H:=fun ρ I L hs=>by
 obtain⟨u,h1,h2⟩:=hs.env t _ ht
 refine wpS.pad (k u ρ I ([]::L) ⟨fun s b hb => ?_,⟨[],L,rfl,⟨⟨rfl,h2⟩,fun _ p hp=>by cases hp⟩,hs.heap⟩,hs.V5⟩)
 rw [M6] at hb
 by_cases e:t=s
 ·subst e;simp at hb;subst hb;exact⟨u,h1,rfl⟩
 ·rw [if_neg e] at hb;exact hs.env s b hb
theorem L9.conv {Q:Exit→y2→j9→Prop} (t:Nat) {a:AV} (a':AV) {c:Code} (ht:G4 σ t=some a) (h:∀ n0 I L u,T5 n0 I H L→H4 I a u→H4 I a' u) (k:L9 P C N c Q ((t,a')::σ) H):L9 P C N c Q σ H:=fun ρ I L hs=>by
 refine k ρ I L ⟨fun s b hb => ?_,hs.heap,hs.V5⟩
 rw [M6] at hb
 by_cases e:t=s
 ·subst e;simp at hb;subst hb
  obtain⟨u,h1,h2⟩:=hs.env t _ ht
  exact⟨u,h1,h _ I L u hs.heap h2⟩
 ·rw [if_neg e] at hb;exact hs.env s b hb
end rules
def Sel (H:j9) (Hs:List E9):Prop:=∀ n0 I L,T5 n0 I H L→∃ L' R,(L'.flatten++R).Perm L.flatten∧a2P I Hs L'
theorem Sel.nil {H:j9}:Sel H []:=fun n0 I L h=>⟨[],L.flatten,by simp,rfl⟩
theorem Sel.cons {H:j9} {b:Bool} {B:E9} {Hs:List E9} {F:Bool×E9→j9} (hh:y3 H (b,B) F) (h:Sel (F X4) Hs):Sel H (B::Hs):=fun n0 I L hL=>by
 obtain⟨i,X,h1,h2,h3⟩:=hh.get hL
 have h4:=h3 I X4 [] (Le.refl I) ⟨⟨rfl,trivial⟩,fun _ p hp=>by cases hp⟩
 obtain⟨L',R,h5,h6⟩:=h n0 I _ h4
 refine⟨X::L',R,?_,X,L',a8,h2.1,h6⟩
 have h7:(L.set i [])[i]?=some []:=by
  have hi:=(List.getElem?_eq_some_iff.1 h1).1
  simp [hi]
 have h8:=a6m h7 X
 have h9:(L.set i []).set i X=L:=by
  obtain⟨hi,e⟩:=List.getElem?_eq_some_iff.1 h1
  rw [List.set_set,←e,List.set_getElem_self]
 rw [h9] at h8
 rw [List.flatten_cons,List.append_assoc]
 exact(List.Perm.append_left X h5).trans h8.symm
theorem G5.T9 {G : Gl} {P : Program} {f : FuncId} {fn : Func} {c : Code} {ags : List AV} {Hs : List E9} {post : AV → List E9 → Prop} (hf : P.funcs[f]? = some fn) (hb : fn.body = some c) (hn : (fn.name == "runtime.NumGoroutine") = false)
    (N:Nat) (hN:fn.ntmps=N) (hl:Nat.ble ags.length N=true) (σ:y2) (hσ:b0i ags 0=σ) (H0:j9) (hH:Hs.map (fun B=>(false,B))=H0)
    (h:∀ C:Ctx,Ctx.Ok C→G.p C.I0→L9 P C N c (a7M P fn C (fun r H=>∃ Hs',Sel H Hs'∧post r Hs')) σ H0):G5 G P f ags Hs post:=fun I L vs hG hvs hL =>
  ⟨⟨fn,hf,hn,by simp [hb]⟩,fun w hm=>a1p hf hb N hN (by rw [hvs.len];exact hl) hm (M:=L.flatten.map Prod.fst) (fun p hp=>List.mem_map_of_mem hp)
    ((h ⟨w, L.flatten.map Prod.fst, I, none⟩ (fun k hk => by
        obtain⟨p,hp,rfl⟩:=List.mem_map.1 hk
        exact y6 (hm.loc p hp)) hG (a0E vs 0) I L ⟨by rw [←hσ];exact hvs.env 0,by rw [←hH];exact hL.toH,Le.refl I⟩).mono fun e ρ J L hq=>a7M.q hq)
    fun v J L' w' hs hp=>by
      obtain⟨r,H,h1,h2,Hs',h3,h4⟩:=hp
      obtain⟨L2,R,h5,h6⟩:=h3 _ J L' h2
      have hin:∀ p∈L2.flatten,p∈L'.flatten:=fun p hp=>h5.mem_iff.1 (List.mem_append_left _ hp)
      refine⟨v,J,L2,a8,hs.S3,hs.V5,fun b h0 h1=>hs.new b h0 h1,⟨hs.mem.im,fun p hp=>hs.mem.loc p (hin p hp),fun p hp=>hs.mem.sep p (hin p hp),?_⟩,fun p hp=>hs.own p (hin p hp),r,_,h1,h6,h4⟩
      have:=(h5.map Prod.fst).nodup_iff.2 hs.mem.nodup
      rw [List.map_append,List.nodup_append] at this
      exact this.1⟩
theorem G5.mono {G:Gl} {P:Program} {f:FuncId} {ags:List AV} {Hs:List E9} {post post':AV→List E9→Prop} (h:G5 G P f ags Hs post) (hp:∀ r Hs,post r Hs→post' r Hs):G5 G P f ags Hs post':=fun I L vs hG hvs hL=>by
 have hM:=h I L vs hG hvs hL
 refine⟨hM.ok,fun w hm=>(hM.run w hm).mono ?_⟩
 rintro e w' ⟨v,J,L',rfl,q1,q2,q3,q4,q5,r,Hs',q6,q7,q8⟩
 exact⟨v,J,L',a8,q1,q2,q3,q4,q5,r,Hs',q6,q7,hp r Hs' q8⟩
end Go.Ab
namespace Go.Ab
open Go.Fl Go.RowKit
open p9 (rep)
def leB:List Bool→List Bool→Bool
 | [],_=>true
 | a::ags,[] => !a&&leB ags []
 | a::ags,b::bs=>(!a||b)&&leB ags bs
theorem a3A (H:j9) (f:Nat→Bool×E9) (k:Nat):T6 [] H f k=H:=by simp [T6]
theorem b0w:∀ {a b:List Bool},leB a b=true→∀ (H:j9) (f:Nat→Bool×E9) (k:Nat),∃ f',T6 a H f k=T6 b H f' k
  | a,b,h,[],f,k=>⟨f,by cases a<;>cases b<;>simp [T6]⟩
  | [], b, h, B :: H, f, k => ⟨fun j => (B :: H).getD (j - k) X4, by
      rw [a3A]
      have key:∀ (b:List Bool) (G:j9) (j:Nat),(∀ m,m < G.length→(B::H).getD (j+m - k) X4=G.getD m X4)→G=T6 b G (fun j=>(B::H).getD (j - k) X4) j:=by
        intro b
        induction b with
        | nil=>intro G j _;rw [a3A]
        | cons x b ih =>
          intro G j hG
          cases G with
          | nil=>simp [T6]
          | cons A G =>
            have h0:=hG 0 (by simp)
            simp only [T6]
            have h1:(bif x then (B::H).getD (j - k) X4 else A)=A:=by
              cases x
              · rfl
              · simpa using h0
            rw [h1,←ih G (j+1) (fun m hm=>by
              have:=hG (m+1) (by simp;omega)
              rw [show j+1+m - k=j+(m+1) - k by omega,this];simp)]
      exact key b (B::H) k (fun m hm=>by rw [show k+m - k=m by omega])⟩
  | x::a,[],h,B::H,f,k=>by
    simp only [leB,Bool.and_eq_true,Bool.not_eq_true'] at h
    obtain⟨f',hf'⟩:=b0w (b := []) h.2 H f (k+1)
    rw [a3A] at hf'
    exact⟨f,by rw [a3A];simp only [T6,h.1,cond_false,hf']⟩
  | x::a,y::b,h,B::H,f,k=>by
    simp only [leB,Bool.and_eq_true] at h
    obtain⟨f',hf'⟩:=b0w h.2 H f (k+1)
    have hcongr:∀ (b:List Bool) (H:j9) (f g:Nat→Bool×E9) (k:Nat),(∀ j,k≤j→f j=g j)→T6 b H f k=T6 b H g k:=by
      intro b
      induction b with
      | nil=>intro H f g k _;rw [a3A,a3A]
      | cons x b ih =>
        intro H f g k hfg
        cases H with
        | nil=>simp [T6]
        | cons A H=>simp only [T6];rw [hfg k (Nat.le_refl _),ih H f g (k+1) (fun j hj=>hfg j (by omega))]
    refine⟨fun j=>if j=k then (bif x then f k else B) else f' j,?_⟩
    simp only [T6,if_true]
    rw [hf',hcongr b H f' (fun j=>if j=k then (bif x then f k else B) else f' j) (k+1) (fun j hj=>by rw [if_neg (by omega)])]
    cases x with
    | false=>cases y<;>rfl
    | true =>
      have:y=true:=by simpa using h.1
      subst this;rfl
def a5L (P:Program) (N:Nat) (C:Ctx) (σ0:y2) {ι:Type 1} (HT:Nat→ι→j9) (ci:List Nat) (F:List (Nat×AV)→Prop):List Oper→List (List (Nat×Nat))→Nat→List (Nat×AV)→Prop
 | [],_,_,acc=>F acc
 | o::os,s::ss,k,acc=>bif ci.contains k then a5L P N C σ0 HT ci F os ss (k+1) acc∨∃ r,a5L P N C σ0 HT ci F os ss (k+1) ((k,r)::acc) else ∃ r,a2B P N C σ0 (HT k) acc o s r∧a5L P N C σ0 HT ci F os ss (k+1) ((k,r)::acc)
 | _,[],_,_=>False
theorem a4E {P : Program} {N : Nat} {C : Ctx} {σ0 : y2} {ι : Type 1} {HT : Nat → ι → j9} {ci : List Nat} {F : List (Nat × AV) → Prop} : ∀ (os : List Oper) (ss : List (List (Nat × Nat))) (k : Nat) (acc : List (Nat × AV)), (∀ j r, p4 acc j = some r → j < k) → a5L P N C σ0 HT ci F os ss k acc →
    ∃ full,F full∧(∀ j,j < k→p4 full j=p4 acc j) ∧
      ∀ i o s,os[i]?=some o→ss[i]?=some s→k+i∉ci→∃ r acc',p4 full (k+i)=some r∧a2B P N C σ0 (HT (k+i)) acc' o s r∧∀ j,j < k+i→p4 acc' j=p4 full j
  | [],ss,k,acc,hacc,h=>⟨acc,by cases ss<;>exact h,fun _ _=>rfl,fun i o s ho=>by simp at ho⟩
  | o::os,[],k,acc,_,h=>h.elim
  | o::os,s::ss,k,acc,hacc,h=>by
    simp only [a5L] at h
    have hacc2:∀ r,∀ j q,p4 ((k,r)::acc) j=some q→j < k+1:=fun r j q hj=>by
      rw [y1] at hj
      by_cases e:k=j
      · omega
      · rw [if_neg e] at hj;have:=hacc j q hj;omega
    cases hc:ci.contains k with
    | true =>
      rw [hc] at h
      simp only [cond_true] at h
      have fin : ∀ acc2, (∀ j, j < k → p4 acc2 j = p4 acc j) → (∀ j r, p4 acc2 j = some r → j < k + 1) → a5L P N C σ0 HT ci F os ss (k + 1) acc2 → ∃ full, F full ∧ (∀ j, j < k → p4 full j = p4 acc j) ∧
          ∀ i o' s',(o::os)[i]?=some o'→(s::ss)[i]?=some s'→k+i∉ci→∃ r acc',p4 full (k+i)=some r∧a2B P N C σ0 (HT (k+i)) acc' o' s' r∧∀ j,j < k+i→p4 acc' j=p4 full j:=fun acc2 ha hb h=>by
        obtain⟨full,hF,h1,h3⟩:=a4E os ss (k+1) acc2 hb h
        refine⟨full,hF,fun j hj=>(h1 j (by omega)).trans (ha j hj),fun i o' s' ho hs hni => ?_⟩
        cases i with
        | zero=>exact absurd (by simpa using hc) hni
        | succ i =>
          have e:k+(i+1)=k+1+i:=by omega
          rw [e]
          exact h3 i o' s' (by simpa using ho) (by simpa using hs) (by rw [←e];exact hni)
      rcases h with h|⟨r,h⟩
      · exact fin acc (fun _ _=>rfl) (fun j r hj=>Nat.lt_succ_of_lt (hacc j r hj)) h
      · exact fin ((k,r)::acc) (fun j hj=>by rw [y1,if_neg (by omega)]) (hacc2 r) h
    | false =>
      rw [hc] at h
      simp only [cond_false] at h
      obtain⟨r,hd,h⟩:=h
      obtain⟨full,hF,h1,h3⟩:=a4E os ss (k+1) ((k,r)::acc) (hacc2 r) h
      refine⟨full,hF,fun j hj=>by rw [h1 j (by omega),y1,if_neg (by omega)],fun i o' s' ho hs hni => ?_⟩
      cases i with
      | zero =>
        simp only [List.getElem?_cons_zero,Option.some.injEq] at ho hs
        subst ho;subst hs
        refine⟨r,acc,by rw [Nat.add_zero,h1 k (by omega),y1,if_pos rfl],hd,fun j hj => ?_⟩
        rw [Nat.add_zero] at hj
        rw [h1 j (by omega),y1,if_neg (by omega)]
      | succ i =>
        have e:k+(i+1)=k+1+i:=by omega
        rw [e]
        exact h3 i o' s' (by simpa using ho) (by simpa using hs) (by rw [←e];exact hni)
def c0x (ops:Array Oper) (n:Nat) (ks ci:List Nat) (bks qs:List (List Bool)):Bool :=
 (List.range n).all fun i=>ks.contains i||ci.contains i||(List.range (ci.length+1)).all fun k=>(List.range k).any (fun m=>match ci[m]? with|some j=>Region.waitsFor .any ops j i|none=>false)||leB (bks.getD k []) (qs.getD i [])
theorem a0f {σ0:y2} {a b:List (Nat×AV)} {s:List (Nat×Nat)}:∀ {ts:List Nat},(∀ t∈ts,∀ j,K7 s t=some j→p4 a j=p4 b j)→D8 σ0 a s ts=D8 σ0 b s ts
 | [],_=>rfl
 | t::ts,h=>by
  simp only [D8]
  have h1:=a0f (σ0:=σ0) (fun u hu=>h u (List.mem_cons_of_mem _ hu))
  cases hs:K7 s t with
  | none=>simp only [h1]
  | some j=>simp only [h t List.mem_cons_self j hs,h1]
def b7r (P:Program) (N:Nat) (C:Ctx) (σ0:y2) {ι:Type 1} (HT:ι→j9) (acc:List (Nat×AV)) (o:Oper) (s:List (Nat×Nat)) (r:AV):Prop:=∀ Hp,j6 P N C o (D8 σ0 acc s (C3 o)) (HT Hp) (fun r'=>r'=r)
def prom (P:Program) (N:Nat) (C:Ctx) (σ0:y2) {ι:Type 1} (HT:Nat→ι→j9) (accP:List (Nat×AV)):List (Nat×Oper×List (Nat×Nat))→List (Nat×AV)→(List (Nat×AV)→Prop)→Prop
 | [],c,K=>K c
 | (i,o,s)::rest,c,K=>∃ r,b7r P N C σ0 (HT i) (c++accP) o s r∧prom P N C σ0 HT accP rest ((i,r)::c) K
def Y5 (ss:List (List (Nat×Nat))) (i:Nat) (L:List Nat):Bool:=match ss[i]? with|some s=>s.all (fun p => !(L.contains p.2))|none=>true
theorem a1Y {ss:List (List (Nat×Nat))} {i:Nat} {L:List Nat} {s:List (Nat×Nat)} (h:Y5 ss i L=true) (hs:ss[i]?=some s) {t j:Nat} (hj:K7 s t=some j):j∉L:=by
 unfold Y5 at h
 rw [hs] at h
 have h2:=List.all_eq_true.1 h (t,j) (b5z hj)
 simpa using h2
def b1L (ss:List (List (Nat×Nat))):List Nat→Bool
 | []=>true
 | i::r=>Y5 ss i (i::r) && !(r.contains i)&&b1L ss r
theorem a47 {P : Program} {N : Nat} {C : Ctx} {σ0 : y2} {ι : Type 1} {HT : Nat → ι → j9} {accP : List (Nat × AV)} {l : List Oper} {ss : List (List (Nat × Nat))} {K : List (Nat × AV) → Prop} : ∀ {L : List Nat} {c : List (Nat × AV)}, b1L ss L = true → prom P N C σ0 HT accP (J9 l ss L) c K →
    ∃ c',K c'∧(∀ j,j∉L→p4 c' j=p4 c j)∧∀ i o s,i∈L→l[i]?=some o→ss[i]?=some s→∃ r,p4 c' i=some r∧b7r P N C σ0 (HT i) (c'++accP) o s r
  | [],c,_,h=>⟨c,h,fun _ _=>rfl,fun i o s hi=>by cases hi⟩
  | i::L,c,hL,h=>by
    simp only [b1L,Bool.and_eq_true,Bool.not_eq_true',List.contains_eq_mem,decide_eq_false_iff_not] at hL
    obtain⟨⟨h1,h2⟩,h3⟩:=hL
    cases ho:l[i]? with
    | none =>
      simp only [J9,ho] at h
      obtain⟨c',k1,k2,k3⟩:=a47 h3 h
      exact⟨c',k1,fun j hj=>k2 j (fun hx=>hj (List.mem_cons_of_mem _ hx)),fun i' o s hi ho' hs=>by
        rcases List.mem_cons.1 hi with rfl|hi
        · rw [ho] at ho';cases ho'
        · exact k3 i' o s hi ho' hs⟩
    | some o =>
      cases hs:ss[i]? with
      | none =>
        simp only [J9,ho,hs] at h
        obtain⟨c',k1,k2,k3⟩:=a47 h3 h
        exact⟨c',k1,fun j hj=>k2 j (fun hx=>hj (List.mem_cons_of_mem _ hx)),fun i' o s hi ho' hs'=>by
          rcases List.mem_cons.1 hi with rfl|hi
          · rw [hs] at hs';cases hs'
          · exact k3 i' o s hi ho' hs'⟩
      | some s =>
        simp only [J9,ho,hs,prom] at h
        obtain⟨r,hd,h⟩:=h
        obtain⟨c',k1,k2,k3⟩:=a47 h3 h
        refine⟨c',k1,fun j hj => ?_,fun i' o' s' hi ho' hs' => ?_⟩
        · rw [List.mem_cons,not_or] at hj
          rw [k2 j hj.2,y1,if_neg (Ne.symm hj.1)]
        · rcases List.mem_cons.1 hi with rfl|hi
          · rw [ho] at ho';cases ho'
            rw [hs] at hs';cases hs'
            refine⟨r,by rw [k2 i' h2,y1,if_pos rfl],fun Hp => ?_⟩
            have he:D8 σ0 (c'++accP) s (C3 o)=D8 σ0 (c++accP) s (C3 o):=a0f fun t _ j hj=>by
              have hj2:=a1Y h1 hs hj
              rw [List.mem_cons,not_or] at hj2
              rw [B1,B1,k2 j hj2.2,y1,if_neg (Ne.symm hj2.1)]
            rw [he];exact hd Hp
          · exact k3 i' o' s' hi ho' hs'
section
variable (P:Program) (C:Ctx) (N:Nat) (σ0:y2) (bs:Nat→List Bool) (HT:Nat→(j9×(Nat→Bool×E9))→j9) (lps:Nat→List (Nat×Oper×List (Nat×Nat))) (H0:j9) (accP:List (Nat×AV)) (al:List (Nat×AT)) (F:List (Nat×AV)→j9→j9→Prop)
def a3B:List (Nat×Oper×List (Nat×Nat))→Nat→List (Nat×AV)→j9→j9→Prop
 | [],k,cacc,Zs,Hr=>(∃ f,Hr=T6 (bs k) H0 f 0)∧∀ ws:Nat→Nat,F (cacc++rA ws al) (Zs++(al.map fun p=>p.2.blk (ws p.1))) Hr
 | (i,o,s)::rest,k,cacc,Zs,Hr=>(∃ f,Hr=T6 (bs k) H0 f 0)∧∀ Ys:j9,
  match p4 accP i with
  | none=>A6 P C N o (D8 σ0 (cacc++accP) s (C3 o)) (Zs++(Ys++Hr)) (fun r H'=>∃ Zs' Hr',H'=Zs'++(Ys++Hr')∧prom P N C σ0 HT accP (lps (k+1)) ((i,r)::cacc) (fun c=>a3B rest (k+1) c Zs' Hr'))
  | some r0=>A6 P C N o (D8 σ0 (cacc++accP) s (C3 o)) (Zs++(Ys++Hr)) (fun r H'=>r=r0∧∃ Zs' Hr',H'=Zs'++(Ys++Hr')∧prom P N C σ0 HT accP (lps (k+1)) ((i,r0)::cacc) (fun c=>a3B rest (k+1) c Zs' Hr'))
end
theorem a3B.fam {P : Program} {C : Ctx} {N : Nat} {σ0 : y2} {bs : Nat → List Bool} {HT : Nat → (j9 × (Nat → Bool × E9)) → j9} {lps : Nat → List (Nat × Oper × List (Nat × Nat))} {H0 : j9} {accP : List (Nat × AV)} {al : List (Nat × AT)} {F : List (Nat × AV) → j9 → j9 → Prop} {l : List (Nat × Oper × List (Nat × Nat))} {k : Nat} {cacc : List (Nat × AV)} {Zs Hr : j9}
    (h:a3B P C N σ0 bs HT lps H0 accP al F l k cacc Zs Hr):∃ f,Hr=T6 (bs k) H0 f 0:=by
  cases l with
  | nil=>exact h.1
  | cons p l=>exact h.1
def a2m (ops:Array Oper) (i:Nat):Bool:=match ops[i]? with|some o=>o.guard.isNone|none=>false
def a8D (ops:Array Oper) (n:Nat) (ss:List (List (Nat×Nat))) (ks ci:List Nat) (lps:List (List Nat)) (kA:Nat):Bool :=
 W2 ops n ss ci&&ci.all (a2m ops)&&ks.all (fun i=>Nat.blt i n && !(ci.contains i))&&(ci.take kA).all (fun i=>Y5 ss i ks)&&(ci.drop kA).all (fun i=>ks.all (fun j=>Region.waitsFor .any ops i j)) &&
 (List.range (ci.length+1)).all (fun m=>(lps.getD m []).all (fun i=>Nat.blt i n && !(ci.contains i) && !(ks.contains i)&&a2m ops i&&Y5 ss i ks &&
  (match m with|0=>false|m'+1=>(match ci[m']? with|some j=>Region.waitsFor .any ops i j|none=>false)||(lps.getD m []).any (fun j=>Region.waitsFor .any ops i j)) &&
  (List.range (ci.length+1)).all (fun m2=>Nat.ble m2 m||(match m2 with|0=>true|m3+1=>match ci[m3]? with|some j=>Y5 ss i [j]|none=>true)&&Y5 ss i (lps.getD m2 []) && !((lps.getD m2 []).contains i)))&&b1L ss (lps.getD m []))
def a2V (lps:List (List Nat)) (q i:Nat):Prop:=∃ m,m≤q∧i∈lps.getD m []
structure a1j (P : Program) (C : Ctx) (N : Nat) (σ : y2) (bs : Nat → List Bool) (HT : Nat → (j9 × (Nat → Bool × E9)) → j9) (l : List Oper) (ss : List (List (Nat × Nat))) (lps : List (List Nat)) (H0 : j9) (full : List (Nat × AV)) (F : List (Nat × AV) → j9 → j9 → Prop) (al : List (Nat × AT)) (ci : List Nat) (cp : List (Nat × Oper × List (Nat × Nat)))
    (k:Nat) (c1:List (Nat×AV)) (Zs Hr:j9) (ws:Nat→Nat) (listed:Array Bool) (cacc:List (Nat×AV)) (H:j9):Prop where
  w:∀ j∈ci,listed.getD j false=true→∀ i,Region.waitsFor .any l.toArray j i=true→listed.getD i false=true
  kle:k≤ci.length
  kp:k≤cp.length
  ch:∀ m i,ci[m]?=some i→(listed.getD i false=true↔m < k)
  al0:∀ j,j∈al.map Prod.fst→p4 c1 j=none
  oth:∀ j,j∉al.map Prod.fst→¬a2V lps ci.length j→p4 cacc j=p4 c1 j
  al1:∀ j,j∈al.map Prod.fst→p4 cacc j=if listed.getD j false=true then p4 (rA ws al) j else none
  lp:∀ j,a2V lps ci.length j→p4 cacc j=(if listed.getD j false=true then p4 c1 j else none)∧(listed.getD j false=true→a2V lps k j)
  due:∀ m i o s,m≤k→i∈lps.getD m []→l[i]?=some o→ss[i]?=some s→∃ r,p4 c1 i=some r∧b7r P N C σ (HT i) (c1++full) o s r
  H:H=Zs++(hA (fun j=>listed.getD j false) ws al++Hr)
  pl:a3B P C N σ bs HT (fun k=>J9 l ss (lps.getD k [])) H0 full al F (cp.drop k) k c1 Zs Hr
theorem Z2 {listed:Array Bool} (i:Nat) {j:Nat} (h:listed.getD j false=true):(listed.setIfInBounds i true).getD j false=true:=by
 by_cases e:j=i
 ·subst e
  rcases Nat.lt_or_ge j listed.size with h2|h2
  ·exact G8 h2
  ·simp [Array.getElem?_eq_none h2] at h
 ·rw [getD_set_ne false (Ne.symm e)];exact h
section
variable {P:Program} {C:Ctx} {N n:Nat} {σ:y2} {bs:Nat→List Bool} {HT:Nat→(j9×(Nat→Bool×E9))→j9} {lps:List (List Nat)} {full:List (Nat×AV)} {F:List (Nat×AV)→j9→j9→Prop} {l:List Oper} {cp:List (Nat×Oper×List (Nat×Nat))} {kA:Nat} {ss:List (List (Nat×Nat))} {al:List (Nat×AT)} {ci:List Nat} {H0:j9} {listed:Array Bool} {cacc c1:List (Nat×AV)} {H Zs Hr:j9} {k:Nat} {ws:Nat→Nat}
structure OkZ (l:List Oper) (n:Nat) (ss:List (List (Nat×Nat))) (ks ci:List Nat) (lps:List (List Nat)) (kA:Nat):Prop where
 chain:W2 l.toArray n ss ci=true
 cg:∀ i∈ci,a2m l.toArray i=true
 ksn:∀ i∈ks,i < n∧i∉ci
 c3j:∀ m i,m < kA→ci[m]?=some i→Y5 ss i ks=true
 c2n:∀ m i,kA≤m→ci[m]?=some i→∀ j∈ks,Region.waitsFor .any l.toArray i j=true
 lp:∀ m i,m≤ci.length→i∈lps.getD m []→i < n∧i∉ci∧i∉ks∧a2m l.toArray i=true∧Y5 ss i ks=true∧(m≠0∧∃ j,Region.waitsFor .any l.toArray i j=true∧((∃ m',m=m'+1∧ci[m']?=some j)∨j∈lps.getD m [])) ∧
  ∀ m2,m < m2→m2≤ci.length→(∀ m3 j,m2=m3+1→ci[m3]?=some j→Y5 ss i [j]=true)∧Y5 ss i (lps.getD m2 [])=true∧i∉lps.getD m2 []
 late:∀ m,m≤ci.length→b1L ss (lps.getD m [])=true
theorem okZ {ks:List Nat} (h:a8D l.toArray n ss ks ci lps kA=true):OkZ l n ss ks ci lps kA:=by
 simp only [a8D,Bool.and_eq_true] at h
 obtain⟨⟨⟨⟨⟨h1,h2⟩,h3⟩,h4⟩,h4b⟩,h5⟩:=h
 refine⟨h1,fun i hi=>List.all_eq_true.1 h2 i hi,fun i hi => ?_,fun m i hm hi=>List.all_eq_true.1 h4 i (List.mem_of_getElem? (i:=m) (by rw [List.getElem?_take,if_pos hm];exact hi)),
  fun m i hm hi j hj=>List.all_eq_true.1 (List.all_eq_true.1 h4b i (List.mem_of_getElem? (i:=m - kA) (by rw [List.getElem?_drop,show kA+(m - kA)=m by omega];exact hi))) j hj,fun m i hm hi => ?_,fun m hm => ?_⟩
 ·have:=List.all_eq_true.1 h3 i hi
  simp only [Bool.and_eq_true,Bool.not_eq_true',List.contains_eq_mem,decide_eq_false_iff_not] at this
  exact⟨by simpa [Nat.blt_eq] using this.1,this.2⟩
 ·have h6:=List.all_eq_true.1 h5 m (List.mem_range.2 (by omega))
  rw [Bool.and_eq_true] at h6
  have h7:=List.all_eq_true.1 h6.1 i hi
  simp only [Bool.and_eq_true,Bool.not_eq_true',List.contains_eq_mem,decide_eq_false_iff_not] at h7
  obtain⟨⟨⟨⟨⟨⟨a1,a2⟩,a3⟩,a4⟩,a5⟩,a6⟩,a7⟩:=h7
  refine⟨by simpa [Nat.blt_eq] using a1,a2,a3,a4,a5,?_,fun m2 hlt hle => ?_⟩
  ·cases m with
   | zero=>cases a6
   | succ m' =>
    simp only [Bool.or_eq_true] at a6
    refine⟨by omega,?_⟩
    rcases a6 with a6|a6
    ·cases hc:ci[m']? with
     | none=>rw [hc] at a6;cases a6
     | some j=>rw [hc] at a6;exact⟨j,a6,.inl ⟨m',rfl,hc⟩⟩
    ·obtain⟨j,hj,hw⟩:=List.any_eq_true.1 a6
     exact⟨j,hw,.inr hj⟩
  ·have h8:=List.all_eq_true.1 a7 m2 (List.mem_range.2 (by omega))
   simp only [Bool.or_eq_true,Bool.and_eq_true,Bool.not_eq_true',decide_eq_false_iff_not] at h8
   rcases h8 with h8|h8
   ·have:=Nat.le_of_ble_eq_true h8;omega
   ·refine⟨fun m3 j e hj => ?_,h8.1.2,h8.2⟩
    subst e
    have:=h8.1.1
    simp only [hj] at this
    exact this
 ·have h6:=List.all_eq_true.1 h5 m (List.mem_range.2 (by omega))
  rw [Bool.and_eq_true] at h6
  exact h6.2
theorem a7n (i:Nat):Y5 ss i []=true:=by
 unfold Y5
 cases ss[i]? with
 | none=>rfl
 | some s=>simp
theorem OkZ.zero {ks:List Nat} (h:OkZ l n ss ks ci lps kA):OkZ l n ss (([]:List (Nat×AT)).map Prod.fst) ci lps ci.length:=by
 refine⟨h.chain,h.cg,fun i hi=>(by cases hi),fun m i _ _=>a7n i,fun m i hm hi => ?_,fun m i hm hi => ?_,h.late⟩
 ·have:=(List.getElem?_eq_some_iff.1 hi).1;omega
 ·obtain⟨b1,b2,b3,b4,b5,b6,b7⟩:=h.lp m i hm hi
  exact⟨b1,b2,by simp,b4,a7n i,b6,b7⟩
theorem b3l {q q' j:Nat} (h:a2V lps q j) (hq:q≤q'):a2V lps q' j:=by obtain⟨m,h1,h2⟩:=h;exact⟨m,Nat.le_trans h1 hq,h2⟩
theorem a9B (hz:OkZ l n ss (al.map Prod.fst) ci lps kA) {m q j:Nat} (hm:m≤ci.length) (hq:q≤ci.length) (h:j∈lps.getD m []) (hl:a2V lps q j):m≤q:=by
 obtain⟨m2,h1,h2⟩:=hl
 rcases Nat.lt_or_ge m2 m with h3|h3
 ·exact absurd h ((hz.lp m2 j (by omega) h2).2.2.2.2.2.2 m h3 hm).2.2
 ·omega
theorem a1j.pure (hz:OkZ l n ss (al.map Prod.fst) ci lps kA) {i:Nat} (h:a1j P C N σ bs HT l ss lps H0 full F al ci cp k c1 Zs Hr ws listed cacc H) (h1:i∉ci) (h2:i∉al.map Prod.fst) (h3:¬a2V lps ci.length i):a1j P C N σ bs HT l ss lps H0 full F al ci cp k c1 Zs Hr ws (listed.setIfInBounds i true) cacc H:=by
 have hput:∀ j,j≠i→(listed.setIfInBounds i true).getD j false=listed.getD j false:=fun j hj=>getD_set_ne false (Ne.symm hj)
 refine⟨fun j hj hl q hq=>Z2 i (h.w j hj (by rwa [hput j (fun e=>h1 (e▸hj))] at hl) q hq),h.kle,h.kp,fun m j hj => ?_,h.al0,h.oth,fun j hj => ?_,fun j hj => ?_,h.due,?_,h.pl⟩
 ·rw [hput j (fun e=>h1 (e▸List.mem_of_getElem? hj))];exact h.ch m j hj
 ·rw [hput j (fun e=>h2 (e▸hj))];exact h.al1 j hj
 ·rw [hput j (fun e=>h3 (e▸hj))];exact h.lp j hj
 ·rw [h.H]
  congr 2
  exact a1X fun p hp=>⟨(hput p.1 (fun e=>h2 (e▸List.mem_map_of_mem hp))).symm,rfl⟩
theorem a1j.alloc (hz : OkZ l n ss (al.map Prod.fst) ci lps kA) {p : Nat × AT} (hn : (al.map Prod.fst).Nodup) (hp : p ∈ al) (h : a1j P C N σ bs HT l ss lps H0 full F al ci cp k c1 Zs Hr ws listed cacc H) (hun : listed.getD p.1 false = false) (hlt : p.1 < listed.size) :
    ∃ F',y3 H X4 F'∧∀ b,a1j P C N σ bs HT l ss lps H0 full F al ci cp k c1 Zs Hr (upd ws p.1 b) (listed.setIfInBounds p.1 true) ((p.1,p.2.res b)::cacc) (F' (p.2.blk b)):=by
  have hput:∀ j,j≠p.1→(listed.setIfInBounds p.1 true).getD j false=listed.getD j false:=fun j hj=>getD_set_ne false (Ne.symm hj)
  have hset:(listed.setIfInBounds p.1 true).getD p.1 false=true:=G8 hlt
  have hpm:p.1∈al.map Prod.fst:=List.mem_map_of_mem hp
  have hd:p.1∉ci:=(hz.ksn p.1 hpm).2
  have hlp:¬a2V lps ci.length p.1:=fun ⟨m,hm,hx⟩=>(hz.lp m p.1 hm hx).2.2.1 hpm
  obtain⟨F',h1,h2⟩:=b0v (f:=fun j=>listed.getD j false) (ws:=ws) (H0:=Hr) hn hp hun
  have hH:=h.H
  subst hH
  refine⟨fun X=>Zs++F' X,y3.app h1,fun b=>⟨fun j hj hl q hq=>Z2 p.1 (h.w j hj (by rwa [hput j (fun e=>hd (e▸hj))] at hl) q hq),h.kle,h.kp,fun m j hj => ?_,h.al0,fun j hj hj2 => ?_,fun j hj => ?_,fun j hj => ?_,h.due,?_,h.pl⟩⟩
  · rw [hput j (fun e=>hd (e▸List.mem_of_getElem? hj))];exact h.ch m j hj
  · rw [y1,if_neg (fun e:p.1=j=>hj (e▸hpm))];exact h.oth j hj hj2
  · rw [y1]
    by_cases e:p.1=j
    · subst e
      rw [if_pos rfl,if_pos hset,a8C hn hp]
      simp [upd]
    · rw [if_neg e,hput j (Ne.symm e),h.al1 j hj,a2E (ws:=ws) (ws':=upd ws p.1 b) (by simp [upd,Ne.symm e])]
  · have hne:p.1≠j:=fun e=>hlp (e▸hj)
    rw [y1,if_neg hne,hput j (Ne.symm hne)];exact h.lp j hj
  · show Zs++F' (p.2.blk b)=_
    rw [h2 b]
    congr 2
    refine a1X fun q hq=>⟨?_,rfl⟩
    by_cases e:q.1=p.1
    · rw [e,if_pos rfl,hset]
    · rw [if_neg e,hput _ e]
theorem a1j.env (h : a1j P C N σ bs HT l ss lps H0 full F al ci cp k c1 Zs Hr ws listed cacc H) {i : Nat} {o : Oper} {s : List (Nat × Nat)} (hok : a1l l.toArray n ss i = true) (hol : l[i]? = some o) (hs : ss[i]? = some s) (hsf : Y5 ss i (al.map Prod.fst) = true) (hw : ∀ j, Region.waitsFor .any l.toArray i j = true → listed.getD j false = true) :
    D8 σ (cacc++full) s (C3 o)=D8 σ (c1++full) s (C3 o):=a0f fun t ht j hj=>by
  unfold a1l at hok
  have ho':l.toArray[i]?=some o:=by simpa using hol
  simp only [ho',hs,Bool.and_eq_true] at hok
  have h6:=List.all_eq_true.1 hok.1 t ht
  unfold a0U at h6
  simp only [hj,Bool.and_eq_true] at h6
  have hlj:=hw j h6.2
  rw [B1,B1]
  by_cases hjl:a2V lps ci.length j
  · rw [(h.lp j hjl).1,if_pos hlj]
  · rw [h.oth j (a1Y hsf hs hj) hjl]
theorem a1j.late (hz : OkZ l n ss (al.map Prod.fst) ci lps kA) (hok : ∀ i, i < n → a1l l.toArray n ss i = true) {m i : Nat} {o : Oper} {s : List (Nat × Nat)} (hm : m ≤ ci.length) (him : i ∈ lps.getD m [])
    (h:a1j P C N σ bs HT l ss lps H0 full F al ci cp k c1 Zs Hr ws listed cacc H) (hol:l[i]?=some o) (hs:ss[i]?=some s) (hw:∀ j,Region.waitsFor .any l.toArray i j=true→listed.getD j false=true) (hlt:i < listed.size) (hfam:∃ q,H=HT i q) (hnone:p4 full i=none) :
    o.guard=none∧A6 P C N o (D8 σ (cacc++full) s (C3 o)) H (fun r H'=>(∀ r0,p4 full i=some r0→r=r0)∧a1j P C N σ bs HT l ss lps H0 full F al ci cp k c1 Zs Hr ws (listed.setIfInBounds i true) ((i,r)::cacc) H'):=by
  obtain⟨b1,b2,b3,b4,b5,⟨hm0,j,hwj,hcase⟩,b7⟩:=hz.lp m i hm him
  have hmk:m≤k:=by
    rcases hcase with ⟨m',e,hc⟩|hj
    · have:=(h.ch m' j hc).1 (hw j hwj);omega
    · exact a9B hz hm h.kle hj ((h.lp j ⟨m,hm,hj⟩).2 (hw j hwj))
  obtain⟨r,hr1,hr2⟩:=h.due m i o s hmk him hol hs
  have hg:o.guard=none:=by
    unfold a2m at b4
    simp only [show l.toArray[i]?=some o by simpa using hol] at b4
    exact Option.isNone_iff_eq_none.1 b4
  refine⟨hg,?_⟩
  rw [h.env (hok i b1) hol hs b5 hw]
  obtain⟨q,rfl⟩:=hfam
  have hput:∀ j,j≠i→(listed.setIfInBounds i true).getD j false=listed.getD j false:=fun j hj=>getD_set_ne false (Ne.symm hj)
  have hset:(listed.setIfInBounds i true).getD i false=true:=G8 hlt
  have hil:a2V lps ci.length i:=⟨m,hm,him⟩
  refine A6.ofP (fun ρ I L hs' a w ha hm'=>(hr2 q ρ I L hs' a w ha hm').mono ?_)
  rintro v w' ⟨J,X,q1,q2,q3,q4,q5,rfl,r',q6,rfl⟩
  refine⟨J,[],q1,q2,q3,q4,q5,a8,r',q6,fun r0 h0=>(by rw [hnone] at h0;cases h0),⟨fun j hj hl q hq=>Z2 i (h.w j hj (by rwa [hput j (fun e=>b2 (e▸hj))] at hl) q hq),h.kle,h.kp,fun m2 j hj => ?_,h.al0,fun j hj hj2 => ?_,fun j hj => ?_,fun j hj => ?_,h.due,?_,h.pl⟩⟩
  · rw [hput j (fun e=>b2 (e▸List.mem_of_getElem? hj))];exact h.ch m2 j hj
  · rw [y1,if_neg (fun e:i=j=>hj2 (e▸hil))];exact h.oth j hj hj2
  · have hne:i≠j:=fun e=>b3 (e▸hj)
    rw [y1,if_neg hne,hput j (Ne.symm hne)];exact h.al1 j hj
  · by_cases e2:i=j
    · subst e2
      rw [y1,if_pos rfl,if_pos hset,hr1]
      exact⟨a8,fun _=>⟨m,hmk,him⟩⟩
    · rw [y1,if_neg e2,hput j (Ne.symm e2)];exact h.lp j hj
  · rw [h.H]
    congr 2
    exact a1X fun p hp=>⟨(hput p.1 (fun e=>b3 (e▸List.mem_map_of_mem hp))).symm,rfl⟩
theorem a1j.chain (hz : OkZ l n ss (al.map Prod.fst) ci lps kA) (hok : ∀ i, i < n → a1l l.toArray n ss i = true) {i : Nat} {o : Oper} {s : List (Nat × Nat)} (hcl : ∀ (m i : Nat) (o : Oper) (s : List (Nat × Nat)), m < cp.length → ci[m]? = some i → l[i]? = some o → ss[i]? = some s → cp[m]? = some (i, o, s)) (hkA : cp.length ≤ kA ∨ kA = ci.length) (hkc : k < cp.length) (hnd : ci.Nodup) (hin : i < n)
    (h:a1j P C N σ bs HT l ss lps H0 full F al ci cp k c1 Zs Hr ws listed cacc H) (hi:i∈ci) (hol:l[i]?=some o) (hs:ss[i]?=some s) (hun:listed.getD i false=false) (hw:∀ j,Region.waitsFor .any l.toArray i j=true→listed.getD j false=true) (hlt:i < listed.size) :
    o.guard=none∧A6 P C N o (D8 σ (cacc++full) s (C3 o)) H (fun r H'=>(∀ r0,p4 full i=some r0→r=r0)∧∃ c1' Zs' Hr',a1j P C N σ bs HT l ss lps H0 full F al ci cp (k+1) c1' Zs' Hr' ws (listed.setIfInBounds i true) ((i,r)::cacc) H'):=by
  have hg:o.guard=none:=by
    have:=hz.cg i hi
    unfold a2m at this
    simp only [show l.toArray[i]?=some o by simpa using hol] at this
    exact Option.isNone_iff_eq_none.1 this
  have hia:i∉al.map Prod.fst:=fun hx=>(hz.ksn i hx).2 hi
  have hilp:¬a2V lps ci.length i:=fun ⟨m,hm,hx⟩=>(hz.lp m i hm hx).2.1 hi
  have hput:∀ j,j≠i→(listed.setIfInBounds i true).getD j false=listed.getD j false:=fun j hj=>getD_set_ne false (Ne.symm hj)
  obtain⟨m,hm⟩:=List.mem_iff_getElem?.1 hi
  have hml:m < ci.length:=(List.getElem?_eq_some_iff.1 hm).1
  have hmk:¬m < k:=fun hx=>by have:=(h.ch m i hm).2 hx;rw [hun] at this;cases this
  have hkm:m≤k:=by
    have hch:=hz.chain
    unfold W2 at hch
    cases m with
    | zero=>omega
    | succ mj =>
      have h1:=List.all_eq_true.1 hch (mj+1) (List.mem_range.2 hml)
      simp only [hm,Bool.and_eq_true] at h1
      cases hj:ci[mj]? with
      | none=>simp [hj] at h1
      | some j =>
        simp only [hj,Bool.and_eq_true] at h1
        have:=(h.ch mj j hj).1 (hw j h1.2.2)
        omega
  obtain rfl:m=k:=by omega
  have hcc:=hcl m i o s hkc hm hol hs
  have hdrop:cp.drop m=(i,o,s)::cp.drop (m+1):=by
    have hlt:=(List.getElem?_eq_some_iff.1 hcc).1
    rw [List.drop_eq_getElem_cons hlt]
    congr 1
    rw [List.getElem?_eq_getElem hlt] at hcc
    exact Option.some.inj hcc
  have hpl:=h.pl
  rw [hdrop,a3B] at hpl
  replace hpl:=hpl.2 (hA (fun j=>listed.getD j false) ws al)
  refine⟨hg,?_⟩
  rw [h.env (hok i hin) hol hs (hz.c3j m i (by omega) hm) hw]
  have hnext : ∀ r Zs' Hr', prom P N C σ HT full (J9 l ss (lps.getD (m + 1) [])) ((i, r) :: c1) (fun c => a3B P C N σ bs HT (fun k => J9 l ss (lps.getD k [])) H0 full al F (cp.drop (m + 1)) (m + 1) c Zs' Hr') →
      ∃ c1' Zs'' Hr'',a1j P C N σ bs HT l ss lps H0 full F al ci cp (m+1) c1' Zs'' Hr'' ws (listed.setIfInBounds i true) ((i,r)::cacc) (Zs'++(hA (fun j=>listed.getD j false) ws al++Hr')):=fun r Zs' Hr' hq=>by
    obtain⟨c',k1,k2,k3⟩:=a47 (hz.late (m+1) (by omega)) hq
    have hLlp:∀ j,j∈lps.getD (m+1) []→a2V lps ci.length j:=fun j hj=>⟨m+1,by omega,hj⟩
    refine⟨c',Zs',Hr',fun j hj hl q hwq => ?_,by omega,by omega,fun m' i' hm' => ?_,fun j hj => ?_,fun j hj hj2 => ?_,fun j hj => ?_,fun j hj => ?_,fun m2 i2 o2 s2 hm2 hi2 ho2 hs2 => ?_,?_,k1⟩
    · by_cases e:j=i
      · subst e;exact Z2 j (hw q hwq)
      · exact Z2 i (h.w j hj (by rwa [hput j e] at hl) q hwq)
    · by_cases e:i'=i
      · subst e
        have h1:=(List.getElem?_eq_some_iff.1 hm')
        have h2:=(List.getElem?_eq_some_iff.1 hm)
        have:m'=m:=(List.getElem_inj (h₀:=h1.1) (h₁:=h2.1) hnd).1 (by rw [h1.2,h2.2])
        subst this
        exact⟨fun _=>by omega,fun _=>G8 hlt⟩
      · rw [hput i' e,h.ch m' i' hm']
        have:m'≠m:=by rintro rfl;rw [hm] at hm';exact e (Option.some.inj hm').symm
        omega
    · rw [k2 j (fun hx=>(hz.lp (m+1) j (by omega) hx).2.2.1 hj),y1,if_neg (fun e=>hia (by rw [e];exact hj))];exact h.al0 j hj
    · rw [k2 j (fun hx=>hj2 (hLlp j hx)),y1,y1,h.oth j hj hj2]
    · have hji:j≠i:=fun e=>hia (e▸hj)
      rw [y1,if_neg (Ne.symm hji),hput j hji];exact h.al1 j hj
    · have hji:j≠i:=fun e=>hilp (e▸hj)
      rw [y1,if_neg (Ne.symm hji),hput j hji,(h.lp j hj).1]
      refine⟨?_,fun hl=>b3l ((h.lp j hj).2 hl) (Nat.le_succ _)⟩
      split
      · rename_i hl
        have hkk:=(h.lp j hj).2 hl
        rw [k2 j (fun hx=>by have:=a9B hz (by omega) (by omega) hx hkk;omega),y1,if_neg (Ne.symm hji)]
      · rfl
    · rcases Nat.lt_or_ge m m2 with hlt2|hge2
      · obtain rfl:m2=m+1:=by omega
        exact k3 i2 o2 s2 hi2 ho2 hs2
      · obtain⟨r2,d1,d2⟩:=h.due m2 i2 o2 s2 hge2 hi2 ho2 hs2
        obtain⟨e1,e2,e3⟩:=(hz.lp m2 i2 (by omega) hi2).2.2.2.2.2.2 (m+1) (by omega) (by omega)
        have hi2i:i2≠i:=fun e=>(hz.lp m2 i2 (by omega) hi2).2.1 (e▸hi)
        refine⟨r2,by rw [k2 i2 e3,y1,if_neg (Ne.symm hi2i)];exact d1,fun Hp => ?_⟩
        have he:D8 σ (c'++full) s2 (C3 o2)=D8 σ (c1++full) s2 (C3 o2):=a0f fun t _ j hj=>by
          have hj1:=a1Y (e1 m i rfl hm) hs2 hj
          have hj2:=a1Y e2 hs2 hj
          have hji:j≠i:=fun e=>hj1 (by simp [e])
          rw [B1,B1,k2 j hj2,y1,if_neg (Ne.symm hji)]
        rw [he];exact d2 Hp
    · congr 2
      exact a1X fun p hp=>⟨(hput p.1 (fun e=>hia (e▸List.mem_map_of_mem hp))).symm,rfl⟩
  have hH:=h.H
  subst hH
  cases hr:p4 full i with
  | none =>
    rw [hr] at hpl
    exact hpl.mono fun r H' ⟨Zs',Hr',e,hq⟩=>⟨fun r0 h0=>(by cases h0),e▸hnext r Zs' Hr' hq⟩
  | some r0 =>
    rw [hr] at hpl
    exact hpl.mono fun r H' ⟨er,Zs',Hr',e,hq⟩=>⟨fun q h0=>by cases h0;exact er,by subst er;exact e▸hnext _ Zs' Hr' hq⟩
theorem a1j.toB {F2 : List (Nat × AV) → j9 → j9 → Prop} {cp2 : List (Nat × Oper × List (Nat × Nat))} (hz : OkZ l n ss (al.map Prod.fst) ci lps kA) (hnal : (al.map Prod.fst).Nodup)
    (hF:∀ c Zs Hr,F c Zs Hr→a3B P C N σ bs HT (fun k=>J9 l ss (lps.getD k [])) H0 full [] F2 (cp2.drop cp.length) cp.length c Zs Hr)
    (h:a1j P C N σ bs HT l ss lps H0 full F al ci cp k c1 Zs Hr ws listed cacc H) (hk:k=cp.length) (hcp:cp.length≤cp2.length) (hall:∀ j∈al.map Prod.fst,listed.getD j false=true) :
    a1j P C N σ bs HT l ss lps H0 full F2 [] ci cp2 k (c1++rA ws al) (Zs++(al.map fun p=>p.2.blk (ws p.1))) Hr ws listed cacc H:=by
  subst hk
  have hpl:=h.pl
  rw [List.drop_length,a3B] at hpl
  refine⟨h.w,h.kle,hcp,h.ch,fun j hj=>(by cases hj),fun j _ hj2 => ?_,fun j hj=>(by cases hj),fun j hj => ?_,fun m i o s hm hi ho hs => ?_,?_,hF _ _ _ (hpl.2 ws)⟩
  · rw [B1]
    by_cases hja:j∈al.map Prod.fst
    · rw [h.al0 j hja,h.al1 j hja,if_pos (hall j hja)]
    · rw [h.oth j hja hj2,T8 hja]
      cases p4 c1 j<;>rfl
  · have hja:j∉al.map Prod.fst:=fun hx=>by
      obtain⟨m,hm,hi⟩:=hj
      exact(hz.lp m j hm hi).2.2.1 hx
    rw [B1,(h.lp j hj).1,T8 hja]
    refine⟨?_,(h.lp j hj).2⟩
    cases p4 c1 j<;>rfl
  · obtain⟨r,d1,d2⟩:=h.due m i o s hm hi ho hs
    have hsf:=(hz.lp m i (Nat.le_trans hm h.kle) hi).2.2.2.2.1
    refine⟨r,by rw [B1,d1],fun Hp => ?_⟩
    have he:D8 σ ((c1++rA ws al)++full) s (C3 o)=D8 σ (c1++full) s (C3 o):=a0f fun t _ j hj=>by
      have hj2:=a1Y hsf hs hj
      rw [B1,B1,B1,T8 hj2]
      cases p4 c1 j<;>rfl
    rw [he];exact d2 Hp
  · rw [h.H,b3j fun p hp=>hall p.1 (List.mem_map_of_mem hp),List.append_assoc]
    rfl
theorem a1j.b9q {bks qs : List (List Bool)} {ks : List Nat} {i : Nat} (hq : c0x l.toArray n ks ci bks qs = true) (h : a1j P C N σ (fun k => bks.getD k []) HT l ss lps H0 full F al ci cp k c1 Zs Hr ws listed cacc H) (hin : i < n) (hna1 : i ∉ ks) (hnc : i ∉ ci) (hun : listed.getD i false = false) :
    ∃ q:j9×(Nat→Bool×E9),H=q.1++T6 (qs.getD i []) H0 q.2 0:=by
  obtain⟨f,hf⟩:=h.pl.fam
  have hk:=h.kle
  have hle:leB (bks.getD k []) (qs.getD i [])=true:=by
    have h1:=List.all_eq_true.1 hq i (List.mem_range.2 hin)
    simp only [Bool.or_eq_true,List.contains_eq_mem,decide_eq_true_eq] at h1
    rcases h1 with (h1|h1)|h1
    · exact absurd h1 hna1
    · exact absurd h1 hnc
    · have h2:=List.all_eq_true.1 h1 k (List.mem_range.2 (by omega))
      simp only [Bool.or_eq_true] at h2
      rcases h2 with h2|h2
      · obtain⟨m,hm,hw⟩:=List.any_eq_true.1 h2
        have hmk:=List.mem_range.1 hm
        cases hci:ci[m]? with
        | none=>rw [hci] at hw;cases hw
        | some j =>
          rw [hci] at hw
          have h3:=h.w j (List.mem_of_getElem? hci) ((h.ch m j hci).2 hmk) i hw
          rw [hun] at h3;cases h3
      · exact h2
  obtain⟨f',hf'⟩:=b0w hle H0 f 0
  exact⟨(Zs++hA (fun j=>listed.getD j false) ws al,f'),by rw [h.H,hf,hf',List.append_assoc]⟩
theorem b1M (a b:List Nat):J9 l ss (a++b)=J9 l ss a++J9 l ss b:=by
 induction a with
 | nil=>rfl
 | cons i a ih =>
  simp only [List.cons_append,J9,ih]
  split<;>rfl
theorem a4F:∀ (c:List Nat),(∀ i∈c,i < l.length∧i < ss.length)→(J9 l ss c).length=c.length
 | [],_=>rfl
 | i::c,h=>by
  obtain⟨h1,h2⟩:=h i List.mem_cons_self
  simp only [J9,List.getElem?_eq_getElem h1,List.getElem?_eq_getElem h2,List.length_cons]
  rw [a4F c (fun j hj=>h j (List.mem_cons_of_mem _ hj))]
end
theorem L9.a1o {P : Program} {C : Ctx} {N : Nat} {Q : Exit → y2 → j9 → Prop} {σ : y2} {H : j9} {id : Nat} {l : List Oper} (bks : List (List Bool)) (qs : List (List Bool)) (lps : List (List Nat)) (al : List (Nat × AT)) (kA : Nat) (hm : P.follows .mixedOrders = true) (n : Nat) (ss : List (List (Nat × Nat))) (ci : List Nat)
    (hN:M3 N l=true) (hB:a2A l.toArray n ss=true) (hss:Nat.ble n ss.length=true) (hC:a8D l.toArray n ss (al.map Prod.fst) ci lps kA=true) (hkA:Nat.ble kA ci.length=true) (hnd:ci.Nodup) (hna:(al.map Prod.fst).Nodup)
    (hal:∀ p∈al,∀ o,l[p.1]?=some o→o.guard=none∧∀ σ' H',A6 P C N o σ' H' (fun r H''=>∃ b,r=p.2.res b∧H''=p.2.blk b::H'))
    (hq:c0x l.toArray n (al.map Prod.fst) ci bks qs=true) (hlen:Nat.ble lps.length (ci.length+1)=true)
    (h:a5L P N C σ (fun i (q:j9×(Nat→Bool×E9))=>q.1++T6 (qs.getD i []) H q.2 0) (al.map Prod.fst++(lps.flatten++ci)) (fun accP=>((al.map Prod.fst++lps.flatten).all fun i=>(p4 accP i).isNone)=true ∧
      a3B P C N σ (fun k=>bks.getD k []) (fun i (q:j9×(Nat→Bool×E9))=>q.1++T6 (qs.getD i []) H q.2 0) (fun k=>J9 l ss (lps.getD k [])) H accP al
        (a3B P C N σ (fun k=>bks.getD k []) (fun i (q:j9×(Nat→Bool×E9))=>q.1++T6 (qs.getD i []) H q.2 0) (fun k=>J9 l ss (lps.getD k [])) H accP []
          (fun cacc Zs Hr=>F8 P C N l.toArray Q (l.drop n) (a17 (cacc++accP) (l.take n) 0 σ) (Zs++Hr)) (J9 l ss (ci.drop kA)) kA) (J9 l ss (ci.take kA)) 0 [] [] H) (l.take n) ss 0 []) :
    L9 P C N (.region id l.toArray true) Q σ H := .c1b (al:=al) (by
  have hB0:=hB
  simp only [a2A,Bool.and_eq_true,Bool.or_eq_true] at hB
  obtain⟨⟨⟨⟨⟨hle,hback⟩,hok⟩,hdst⟩,htail⟩,hseq⟩:=hB
  have hle':n≤l.length:=by simpa using Nat.le_of_ble_eq_true hle
  have hok':∀ i,i < n→a1l l.toArray n ss i=true:=fun i hi=>List.all_eq_true.1 hok i (List.mem_range.2 hi)
  have hssl:=Nat.le_of_ble_eq_true hss
  obtain⟨full,⟨hnone,hF⟩,_,hd⟩:=a4E (l.take n) ss 0 [] (fun j r hj=>by simp [p4] at hj) h
  have hz:=okZ hC
  have hC':=hz.chain
  unfold W2 at hC'
  have hcin:∀ i∈ci,i < n:=fun i hi=>by
    obtain⟨m,hm⟩:=List.mem_iff_getElem?.1 hi
    have h1:=List.all_eq_true.1 hC' m (List.mem_range.2 (List.getElem?_eq_some_iff.1 hm).1)
    simp only [hm,Bool.and_eq_true] at h1
    simpa [Nat.blt_eq] using h1.1
  have hlpf:∀ i,i∈lps.flatten↔a2V lps ci.length i:=fun i=>by
    have hll:=Nat.le_of_ble_eq_true hlen
    constructor
    · intro hi
      obtain⟨L,hL,hi⟩:=List.mem_flatten.1 hi
      obtain⟨m,hm,rfl⟩:=List.getElem_of_mem hL
      exact⟨m,by omega,by simpa [List.getD,hm] using hi⟩
    · rintro⟨m,_,hi⟩
      by_cases hm2:m < lps.length
      · simp [List.getD,hm2] at hi
        exact List.mem_flatten.2 ⟨_,List.getElem_mem hm2,hi⟩
      · simp [List.getD,hm2] at hi
  have hcl:=a4y (l:=l) (ss:=ss) ci (fun i hi=>⟨_,_,List.getElem?_eq_getElem (Nat.lt_of_lt_of_le (hcin i hi) hle'),List.getElem?_eq_getElem (Nat.lt_of_lt_of_le (hcin i hi) hssl)⟩)
  have hp:∀ i o s,i < n→i∉al.map Prod.fst++(lps.flatten++ci)→l[i]?=some o→ss[i]?=some s→∃ r,p4 full i=some r∧a2B P N C σ (fun q:j9×(Nat→Bool×E9)=>q.1++T6 (qs.getD i []) H q.2 0) full o s r:=fun i o s hi hic ho hsi=>by
    obtain⟨r,acc',h1,h2,h3⟩:=hd i o s (by rw [List.getElem?_take,if_pos hi];exact ho) hsi (by simpa using hic)
    rw [Nat.zero_add] at h1 h2 h3
    refine⟨r,h1,fun H' => ?_⟩
    have hoi:=hok' i hi
    unfold a1l at hoi
    have ho':l.toArray[i]?=some o:=by simpa using ho
    simp only [ho',hsi,Bool.and_eq_true] at hoi
    have hback':∀ j,Region.waitsFor .any l.toArray i j=true→j < i:=fun j hw=>by
      obtain⟨e,he,hb,heq⟩:=X9 ho' hw
      have hil:i < l.toArray.size:=(Array.getElem?_eq_some_iff.1 ho').1
      have h4:=List.all_eq_true.1 hback i (List.mem_range.2 hil)
      simp only [ho',Array.all_eq_true_iff_forall_mem] at h4
      have h5:=h4 e he
      rw [hb] at h5
      have:e.on < i:=by simpa [Nat.blt_eq] using h5
      omega
    have henv:∀ t∈C3 o,∀ j,K7 s t=some j→p4 acc' j=p4 full j:=fun t ht j hj=>by
      have h6:=List.all_eq_true.1 hoi.1 t ht
      unfold a0U at h6
      simp only [hj,Bool.and_eq_true] at h6
      exact h3 j (hback' j h6.2)
    have hdd:=h2 H'
    unfold a5p at hdd ⊢
    rw [←a0f henv]
    cases hg:o.guard with
    | none=>rw [hg] at hdd;exact hdd
    | some p =>
      obtain⟨g,want⟩:=p
      rw [hg] at hdd
      have h6:=hoi.2
      rw [hg] at h6
      simp only [Bool.and_eq_true] at h6
      simp only at hdd ⊢
      rw [←h3 g (hback' g h6.1.2)];exact hdd
  have hkA':=Nat.le_of_ble_eq_true hkA
  have hvalid:∀ c:List Nat,(∀ i∈c,i∈ci)→∀ i∈c,i < l.length∧i < ss.length:=fun c hc i hi=>⟨Nat.lt_of_lt_of_le (hcin i (hc i hi)) hle',Nat.lt_of_lt_of_le (hcin i (hc i hi)) hssl⟩
  have hlA:(J9 l ss (ci.take kA)).length=kA:=by
    rw [a4F _ (hvalid _ (fun i hi=>List.mem_of_mem_take hi)),List.length_take];omega
  have hlB:(J9 l ss ci).length=ci.length:=a4F _ (hvalid _ (fun i hi=>hi))
  have hdrop:(J9 l ss ci).drop (J9 l ss (ci.take kA)).length=J9 l ss (ci.drop kA):=by
    have:=b1M (l:=l) (ss:=ss) (ci.take kA) (ci.drop kA)
    rw [List.take_append_drop] at this
    rw [this,List.drop_left]
  have hclA:∀ (m i:Nat) (o:Oper) (s:List (Nat×Nat)),m < (J9 l ss (ci.take kA)).length→ci[m]?=some i→l[i]?=some o→ss[i]?=some s→(J9 l ss (ci.take kA))[m]?=some (i,o,s):=fun m i o s hm hi ho hs =>
    a4y (ci.take kA) (fun i hi=>by
      obtain⟨h1,h2⟩:=hvalid _ (fun i hi=>List.mem_of_mem_take hi) i hi
      exact⟨_,_,List.getElem?_eq_getElem h1,List.getElem?_eq_getElem h2⟩) m i o s (by rw [List.getElem?_take,if_pos (by omega)];exact hi) ho hs
  have hzB:=hz.zero
  let FB:List (Nat×AV)→j9→j9→Prop:=fun cacc Zs Hr=>F8 P C N l.toArray Q (l.drop n) (a17 (cacc++full) (l.take n) 0 σ) (Zs++Hr)
  let FA:List (Nat×AV)→j9→j9→Prop:=a3B P C N σ (fun k=>bks.getD k []) (fun i (q:j9×(Nat→Bool×E9))=>q.1++T6 (qs.getD i []) H q.2 0) (fun k=>J9 l ss (lps.getD k [])) H full [] FB (J9 l ss (ci.drop kA)) kA
  have htoB : ∀ {k c1 Zs Hr ws listed cacc H'}, a1j P C N σ (fun k => bks.getD k []) (fun i (q : j9 × (Nat → Bool × E9)) => q.1 ++ T6 (qs.getD i []) H q.2 0) l ss lps H full FA al ci (J9 l ss (ci.take kA)) k c1 Zs Hr ws listed cacc H' → k = kA → (∀ j ∈ al.map Prod.fst, listed.getD j false = true) →
      a1j P C N σ (fun k=>bks.getD k []) (fun i (q:j9×(Nat→Bool×E9))=>q.1++T6 (qs.getD i []) H q.2 0) l ss lps H full FB [] ci (J9 l ss ci) k (c1++rA ws al) (Zs++(al.map fun p=>p.2.blk (ws p.1))) Hr ws listed cacc H':=fun {k c1 Zs Hr ws listed cacc H'} hiv hk hall =>
    hiv.toB hz hna (fun c Zs Hr h=>by rw [hdrop,hlA];exact h) (by rw [hlA];exact hk) (by rw [hlA,hlB];exact hkA') hall
  refine L9.b7p (fun i (q:j9×(Nat→Bool×E9))=>q.1++T6 (qs.getD i []) H q.2 0) hm n ss (al.map Prod.fst++(lps.flatten++ci)) hN hB0 full
    (fun listed cacc H'=>(∃ k c1 Zs Hr ws,a1j P C N σ (fun k=>bks.getD k []) (fun i (q:j9×(Nat→Bool×E9))=>q.1++T6 (qs.getD i []) H q.2 0) l ss lps H full FA al ci (J9 l ss (ci.take kA)) k c1 Zs Hr ws listed cacc H') ∨
      ((∀ j∈al.map Prod.fst,listed.getD j false=true)∧∃ k c1 Zs Hr ws,a1j P C N σ (fun k=>bks.getD k []) (fun i (q:j9×(Nat→Bool×E9))=>q.1++T6 (qs.getD i []) H q.2 0) l ss lps H full FB [] ci (J9 l ss ci) k c1 Zs Hr ws listed cacc H')) ?_ hp ?_ ?_ ?_ ?_
  · refine .inl ⟨0,[],[],H,fun _=>0,fun j _ hl=>(by rw [getD_replicate_false] at hl;cases hl),Nat.zero_le _,Nat.zero_le _,fun m i hi=>⟨fun hl => ?_,fun h=>by omega⟩,fun j _=>rfl,fun j _ _=>rfl,fun j _ => ?_,fun j _=>⟨?_,fun hl => ?_⟩,fun m i o s hm hi => ?_,?_,hF⟩
    · rw [getD_replicate_false] at hl;cases hl
    · rw [if_neg (by rw [getD_replicate_false];decide)];rfl
    · rw [if_neg (by rw [getD_replicate_false];decide)];rfl
    · rw [getD_replicate_false] at hl;cases hl
    · obtain⟨_,_,_,_,_,⟨hm0,_⟩,_⟩:=hz.lp m i (by omega) hi
      omega
    · rw [List.nil_append]
      congr 1
      exact(List.map_congr_left fun p _=>by simp only [getD_replicate_false];rfl)
  · rintro listed cacc H' i hiv hin hnc hun
    rw [List.mem_append,List.mem_append,not_or,not_or] at hnc
    rcases hiv with ⟨k,c1,Zs,Hr,ws,hiv⟩|⟨_,k,c1,Zs,Hr,ws,hiv⟩
    · exact hiv.b9q hq hin hnc.1 hnc.2.2 hun
    · exact hiv.b9q hq hin hnc.1 hnc.2.2 hun
  · rintro listed cacc H' i hiv hni
    rw [List.mem_append,List.mem_append,not_or,not_or] at hni
    rcases hiv with ⟨k,c1,Zs,Hr,ws,hiv⟩|⟨hall,k,c1,Zs,Hr,ws,hiv⟩
    · exact .inl ⟨k,c1,Zs,Hr,ws,hiv.pure hz hni.2.2 hni.1 (fun hx=>hni.2.1 ((hlpf i).2 hx))⟩
    · exact .inr ⟨fun j hj=>Z2 i (hall j hj),k,c1,Zs,Hr,ws,hiv.pure hzB hni.2.2 (by simp) (fun hx=>hni.2.1 ((hlpf i).2 hx))⟩
  · rintro listed cacc H' i o s hiv hic hol hs hun hw hlt
    rcases List.mem_append.1 hic with hk|hc
    · obtain⟨p,hp,rfl⟩:=List.mem_map.1 hk
      obtain⟨hg,hop⟩:=hal p hp o hol
      rcases hiv with ⟨k,c1,Zs,Hr,ws,hiv⟩|⟨hall,_⟩
      · obtain⟨F',h1,h2⟩:=hiv.alloc hz hna hp hun hlt
        refine⟨hg,A6.c2j h1 ((hop _ _).mono fun r H'' ⟨b,hr,hH⟩=>⟨_,hH,fun r0 h0 => ?_,by rw [hr];exact .inl ⟨k,c1,Zs,Hr,_,h2 b⟩⟩)⟩
        have h3:=List.all_eq_true.1 hnone p.1 (List.mem_append_left _ hk)
        rw [h0] at h3;cases h3
      · rw [hall p.1 hk] at hun;cases hun
    · rcases List.mem_append.1 hc with hlp|hc
      · obtain⟨m,hm,him⟩:=(hlpf i).1 hlp
        have hlz:=hz.lp m i hm him
        have h3:=List.all_eq_true.1 hnone i (List.mem_append_right _ hlp)
        rcases hiv with ⟨k,c1,Zs,Hr,ws,hiv⟩|⟨hall,k,c1,Zs,Hr,ws,hiv⟩
        · obtain⟨hg,hop⟩:=hiv.late hz hok' hm him hol hs hw hlt (hiv.b9q hq hlz.1 hlz.2.2.1 hlz.2.1 hun) (Option.isNone_iff_eq_none.1 h3)
          exact⟨hg,hop.mono fun r H' ⟨q1,q2⟩=>⟨q1,.inl ⟨k,c1,Zs,Hr,ws,q2⟩⟩⟩
        · obtain⟨hg,hop⟩:=hiv.late hzB hok' hm him hol hs hw hlt (hiv.b9q hq hlz.1 hlz.2.2.1 hlz.2.1 hun) (Option.isNone_iff_eq_none.1 h3)
          exact⟨hg,hop.mono fun r H' ⟨q1,q2⟩=>⟨q1,.inr ⟨fun j hj=>Z2 i (hall j hj),k,c1,Zs,Hr,ws,q2⟩⟩⟩
      · obtain⟨m,hm⟩:=List.mem_iff_getElem?.1 hc
        have hml:m < ci.length:=(List.getElem?_eq_some_iff.1 hm).1
        have hstepB : (∀ j ∈ al.map Prod.fst, listed.getD j false = true) → ∀ {k c1 Zs Hr ws}, a1j P C N σ (fun k => bks.getD k []) (fun i (q : j9 × (Nat → Bool × E9)) => q.1 ++ T6 (qs.getD i []) H q.2 0) l ss lps H full FB [] ci (J9 l ss ci) k c1 Zs Hr ws listed cacc H' →
            o.guard=none∧A6 P C N o (D8 σ (cacc++full) s (C3 o)) H' (fun r H'=>(∀ r0,p4 full i=some r0→r=r0)∧((∃ k c1 Zs Hr ws,a1j P C N σ (fun k=>bks.getD k []) (fun i (q:j9×(Nat→Bool×E9))=>q.1++T6 (qs.getD i []) H q.2 0) l ss lps H full FA al ci (J9 l ss (ci.take kA)) k c1 Zs Hr ws (listed.setIfInBounds i true) ((i,r)::cacc) H') ∨
              ((∀ j∈al.map Prod.fst,(listed.setIfInBounds i true).getD j false=true)∧∃ k c1 Zs Hr ws,a1j P C N σ (fun k=>bks.getD k []) (fun i (q:j9×(Nat→Bool×E9))=>q.1++T6 (qs.getD i []) H q.2 0) l ss lps H full FB [] ci (J9 l ss ci) k c1 Zs Hr ws (listed.setIfInBounds i true) ((i,r)::cacc) H'))):=fun hall {k c1 Zs Hr ws} hiv=>by
          have hkc:k < (J9 l ss ci).length:=by
            rw [hlB]
            rcases Nat.lt_or_ge k ci.length with h|h
            · exact h
            · have:=(hiv.ch m i hm).2 (by omega)
              rw [hun] at this;cases this
          obtain⟨hg,hop⟩:=hiv.chain hzB hok' (fun m i o s _=>hcl m i o s) (.inr rfl) hkc hnd (hcin i hc) hc hol hs hun hw hlt
          exact⟨hg,hop.mono fun r H' ⟨q1,c1',Zs',Hr',q2⟩=>⟨q1,.inr ⟨fun j hj=>Z2 i (hall j hj),k+1,c1',Zs',Hr',ws,q2⟩⟩⟩
        rcases hiv with ⟨k,c1,Zs,Hr,ws,hiv⟩|⟨hall,k,c1,Zs,Hr,ws,hiv⟩
        · rcases Nat.lt_or_ge k (J9 l ss (ci.take kA)).length with hkc|hkc
          · obtain⟨hg,hop⟩:=hiv.chain hz hok' hclA (.inl (Nat.le_of_eq hlA)) hkc hnd (hcin i hc) hc hol hs hun hw hlt
            exact⟨hg,hop.mono fun r H' ⟨q1,c1',Zs',Hr',q2⟩=>⟨q1,.inl ⟨k+1,c1',Zs',Hr',ws,q2⟩⟩⟩
          · have hke:k=kA:=by have:=hiv.kp;omega
            have hmk:kA≤m:=by
              rcases Nat.lt_or_ge m k with h|h
              · have:=(hiv.ch m i hm).2 h
                rw [hun] at this;cases this
              · omega
            have hall:∀ j∈al.map Prod.fst,listed.getD j false=true:=fun j hj=>hw j (hz.c2n m i hmk hm j hj)
            exact hstepB hall (htoB hiv hke hall)
        · exact hstepB hall hiv
  · rintro listed cacc H' hiv hall
    have hlist:∀ j∈al.map Prod.fst,listed.getD j false=true:=fun j hj=>hall j (hz.ksn j hj).1
    have hend:∀ {k c1 Zs Hr ws},a1j P C N σ (fun k=>bks.getD k []) (fun i (q:j9×(Nat→Bool×E9))=>q.1++T6 (qs.getD i []) H q.2 0) l ss lps H full FB [] ci (J9 l ss ci) k c1 Zs Hr ws listed cacc H'→F8 P C N l.toArray Q (l.drop n) (a17 (cacc++full) (l.take n) 0 σ) H':=fun {k c1 Zs Hr ws} hiv=>by
      have hk:=hiv.kle
      have hk':k=ci.length:=by
        rcases Nat.lt_or_ge k ci.length with h|h
        · have:=(hiv.ch k _ (List.getElem?_eq_getElem h)).1 (hall _ (hcin _ (List.getElem_mem h)))
          omega
        · omega
      have hpl:=hiv.pl
      rw [hk',List.drop_eq_nil_of_le (Nat.le_of_eq hlB),a3B] at hpl
      have h2:F8 P C N l.toArray Q (l.drop n) (a17 ((c1++rA ws [])++full) (l.take n) 0 σ) ((Zs ++ [])++Hr):=hpl.2 ws
      rw [hiv.H]
      rw [List.append_nil] at h2
      rw [a2F (b:=(c1++rA ws [])++full) fun j => ?_]
      · exact h2
      · rw [B1,B1,B1]
        by_cases hjl:a2V lps ci.length j
        · obtain⟨m,hm,him⟩:=hjl
          rw [(hiv.lp j ⟨m,hm,him⟩).1,if_pos (hall j (hz.lp m j hm him).1)]
          cases p4 c1 j<;>rfl
        · rw [hiv.oth j (by simp) hjl]
          cases p4 c1 j<;>rfl
    rcases hiv with ⟨k,c1,Zs,Hr,ws,hiv⟩|⟨_,k,c1,Zs,Hr,ws,hiv⟩
    · have hk':k=kA:=by
        have h1:=hiv.kp
        rw [hlA] at h1
        rcases Nat.lt_or_ge k kA with h|h
        · have hkl:k < ci.length:=by omega
          have:=(hiv.ch k _ (List.getElem?_eq_getElem hkl)).1 (hall _ (hcin _ (List.getElem_mem hkl)))
          omega
        · omega
      exact hend (htoB hiv hk' hlist)
    · exact hend hiv)
end Go.Ab
namespace Go.Ab
open Go.Fl Go.RowKit
open p9 (rep)
section rules
variable {P:Program} {C:Ctx} {N:Nat} {σ:y2} {H:j9} {d:Option Nat} {ty:TypeId} {ps:String} {af:Array Edge} {g:Option (Nat×Bool)} {K:AV→Prop} {KH:AV→j9→Prop} {x y z:Operand} {T T2 E S D U:TypeId} {o:Oper}
theorem j6.b9r {β:Type} {n:Nat} {s:p9 β} {ag:Bool} {a:J7 n β} (hn:n≤9223372036854775807) (hf:O3 P T=some (n,p9.size β,ag)) (hx:F1 C σ H x (.p a)) (k:K (.vc a.l)):j6 P N C ⟨d,.slice T x none none none,ty,ps,af,g⟩ σ H K :=
 .vk k (fun ρ I L hs=>by
  obtain⟨u,h2,b,o,cs,rfl,h3,h4⟩:=hx ρ I L hs
  refine .a8c hf h2 ⟨⟨some ⟨b,o,none⟩,by rw [a.h]⟩,cs,?_,h3⟩
  have hl:=h3.len
  rw [a.h] at hl ⊢
  exact Sl.a3q h4 hl (Nat.le_refl _) (by unfold maxLen;omega))
theorem b7s {m n by_ : Nat} {ρ : Env} {I : Im} {L : Lh} {zv : Value} {xs : List Value} {a0 : Option Addr} (hT : P.underlying T = some (.slice E)) (h1 : a8X P E by_ zv) (hz1 : zv.cells = #[zv]) (hone : zv.oneCell' = true) (hU : P.underlying U = some (.int .i64))
    (hx:ev ρ x=some (.slice a0 n n)) (hsl:Sl I 1 (.slice a0 n n) n xs) (hy:ev ρ y=some (i64 (m:Int))) (hb:(n+m)*by_≤140737488355328) (hn:n+m≤9223372036854775807) :
    OpX P N ⟨d,.call ⟨.builtin .append,#[x,y],#[T,U]⟩,ty,ps,af,g⟩ ρ I L (fun v' J X=>J=I∧((X = []∧m=0∧v' = .slice a0 n n)∨∃ Y,X = [Y]∧a1V E 1 v' (n+m) (xs++List.replicate m zv) Y)):=by
  obtain⟨inf,hi,hz,hsz,hs2⟩:=h1.get
  refine OpX.push fun a w ha hm => ?_
  have hzc:∀ q,Builtin.zeroCells zv.cells q=(List.replicate q zv).toArray:=fun q=>by
    apply Array.ext'
    simp [Builtin.zeroCells,hz1,Nat.mod_one]
    rw [List.map_const']
    simp
  have hw:IntKind.wrap .i64 (m:Int)=(m:Int):=wrap_i64 (by omega) (by omega)
  have hm00:¬((m:Int) < 0):=by omega
  have hw0:IntKind.wrap .i64 0=0:=wrap_i64 (by omega) (by omega)
  rw [←hs2] at hb
  have hmb:¬((m:Int)*(inf.bytes:Int)>281474976710656):=by
    have:m*inf.bytes≤(n+m)*inf.bytes:=Nat.mul_le_mul_right _ (by omega)
    have h2:((m*inf.bytes:Nat):Int)≤140737488355328:=Int.ofNat_le.2 (Nat.le_trans this hb)
    rw [Int.natCast_mul] at h2
    omega
  have hmb':¬(281474976710656 < (m:Int)*(inf.bytes:Int)):=hmb
  have hop:∀ r,(Builtin.append_ #[T,U] ty #[.slice a0 n n,i64 (m:Int)]).run P w=r→(execOp a.eval ⟨d,.call ⟨.builtin .append,#[x,y],#[T,U]⟩,ty,ps,af,g⟩).run P w=r.andThen fun v w' => .ok (.value v) w':=fun r hr=>by
    simp [execOp,resolve,invoke,builtin,ha.ev hx,ha.ev hy,hr]
  by_cases hm0:m=0
  · left
    subst hm0
    refine⟨.slice a0 n n,?_,a8,.inl ⟨a8,a8,a8⟩⟩
    rw [hop (.ok (.slice a0 n n) w)]
    · rfl
    · cases a0<;>simp [Builtin.append_,run_underlying hT,run_underlying hU,sizeOf,typeInfo,zeroValue,hi,hz,asInt,asIntOf,hw0,storeCells]
  · right
    have hlt:n < n+m:=by omega
    have hold:(Builtin.firstCells 1 n (.slice a0 n n)).run P w.drew = .ok xs.toArray w.drew:=by
      have hm':Mem I L w.drew:=⟨hm.im,hm.loc,hm.sep,hm.nodup⟩
      have:=(Src.sl (P:=P) (L:=L) hsl).cells w.drew hm' n (Nat.le_refl _)
      rw [←hsl.len,List.take_length] at this;exact this
    have hge:=grownCap_ge w (n+m) n E
    have hcm:grownCap w (n+m) n E≤maxLen:=grownCap_le_maxLen w _ _ E (by unfold maxLen;omega)
    have hfit:¬(281474976710656 < Builtin.nextslicecap (n+m) n*inf.bytes):=by have:=growslice_fits hlt hb;omega
    have hnle:¬(n+m≤n):=by omega
    have h63':¬(9223372036854775807 < ((n:Int)+(m:Int))):=by omega
    have hr : (Builtin.append_ #[T, U] ty #[.slice a0 n n, i64 (m : Int)]).run P w = .ok (.slice (some ⟨w.heap.size, 0, none⟩) (n + m) (grownCap w (n + m) n E))
        (w.drew.alloc (.cells (xs.toArray++(List.replicate m zv).toArray++Builtin.zeroCells zv.cells (grownCap w (n+m) n E - (n+m))) E)):=by
      simp [Builtin.append_,run_underlying hT,run_underlying hU,sizeOf,typeInfo,zeroValue,hi,hz,asInt,asIntOf,hw,hm00,hmb',hnle,h63',hfit,Question.forced,newRow,grownCap,hold,hsz,hzc,hm0]
    refine⟨.slice (some ⟨w.heap.size,0,none⟩) (n+m) (grownCap w (n+m) n E),w.drew.alloc (.cells (xs.toArray++(List.replicate m zv).toArray++Builtin.zeroCells zv.cells (grownCap w (n+m) n E - (n+m))) E),
      .cells (xs.toArray++(List.replicate m zv).toArray++Builtin.zeroCells zv.cells (grownCap w (n+m) n E - (n+m))) E,by rw [hop _ hr];rfl,rfl,rfl,rfl,rfl,rfl,.inr ⟨_,rfl,?_⟩⟩
    have hxl:xs.length=n*1:=hsl.len
    refine .inr ⟨w.heap.size,grownCap w (n+m) n E,(Builtin.zeroCells zv.cells (grownCap w (n+m) n E - (n+m))).toList,(0,0),a8,?_,?_,?_,hge,hcm,.inl a8⟩
    · congr 3
      apply Array.ext';simp
    · rw [List.length_append,hxl,List.length_replicate,Nat.add_mul];omega
    · rw [hzc]
      simp only [List.length_append,hxl,List.length_replicate]
      omega
theorem j6.b7t {α : Type} {r : p9 α} {i0 : Inhabited α} {by_ : Nat} {l : List α} {m : Int} {zv : Value} (hT : P.underlying T = some (.slice E)) (h1 : a8X P E by_ zv) (hz1 : zv.cells = #[zv]) (hone : zv.oneCell' = true) (hsz : p9.size α = 1)
    (hz:∀ I,rep I (default:α) [zv]) (hU:P.underlying U=some (.int .i64)) (hx:F1 C σ H x (.vc l)) (hy:F1 C σ H y (.v m)) (h0:0≤m) (hb:(l.length+m.toNat)*by_≤140737488355328) (hn:l.length+m.toNat≤9223372036854775807)
    (k:K (.v (l++List.replicate m.toNat (default:α)))):j6 P N C ⟨d,.call ⟨.builtin .append,#[x,y],#[T,U]⟩,ty,ps,af,g⟩ σ H K:=fun ρ I L hs=>by
  obtain⟨u,h2,⟨a0,rfl⟩,xs,hsl,hrl⟩:=hx ρ I L hs
  obtain⟨h3,_⟩:=hy.int hs
  have hm:m=((m.toNat:Nat):Int):=by omega
  rw [hm] at h3
  rw [hsz] at hsl
  refine OpX.frz fun a w ha hmm=>(b7s hT h1 hz1 hone hU h2 hsl h3 hb hn a w ha hmm).mono ?_
  rintro v' w' ⟨J,X,q1,q2,q3,q4,q5,rfl,hq⟩
  have hrz:∀ J',K9 J' (List.replicate m.toNat (default:α)) (List.replicate m.toNat zv):=fun J'=>by
    have:=a03 (hz J') m.toNat
    have e:∀ n,(List.replicate n [zv]).flatten=List.replicate n zv:=fun n=>by
      induction n with
      | zero=>rfl
      | succ n ih=>rw [List.replicate_succ,List.flatten_cons,ih,List.replicate_succ];rfl
    rwa [e] at this
  refine⟨J,X,q1,q2,q3,q4,q5,fun J' hle hp=>⟨a8,.v (l++List.replicate m.toNat default),?_,k⟩⟩
  rcases hq with ⟨rfl,hm0,rfl⟩|⟨Y,rfl,hown⟩
  · rw [hm0,List.replicate_zero,List.append_nil]
    exact⟨_,⟨_,rfl,xs,by rw [hsz];exact hsl.mono hle,hrl.mono hle⟩,rfl⟩
  · have hown':(E9.own E v' (l++List.replicate m.toNat (default:α))).a6b J Y:=⟨_,by rw [List.length_append,List.length_replicate,hsz];exact hown,hrl.append (hrz J)⟩
    exact W0 hown' hle (fun p hq=>hp p (by simp [hq]))
end rules
section forget
variable {P:Program} {C:Ctx} {N:Nat} {σ:y2} {H:j9}
end forget
def b7u (r:AV) (Hs:List E9):Prop:=a8r r∧∀ I J L,a2P I Hs L→a2P J Hs L
theorem a8r.raw {u:Value}:a8r (.raw u):=fun I J v h=>h
theorem b7u.own {E:TypeId} {α:Type} [p9 α] [b0k α] {u:Value} {l:List α}:b7u (.raw u) [.own E u l]:=⟨.raw,fun I J L h=>by
 obtain⟨X,R,rfl,⟨xs,h1,h2⟩,h3⟩:=h
 exact⟨X,R,a8,⟨xs,h1,h2.any⟩,h3⟩⟩
section calls
variable {P:Program} {C:Ctx} {N:Nat} {σ:y2} {H:j9} {G:Gl} (hG:G.p C.I0) {f:FuncId} {d:Option Nat} {args:Array Operand} {tys:Array TypeId} {ty:TypeId} {ps:String} {af:Array Edge} {g:Option (Nat×Bool)} {ags:List AV}
include hG
theorem A6.c0y {post : AV → List E9 → Prop} {K : AV → j9 → Prop} (h : G5 G P f ags [] post) (hv : a6Q C σ H args.toList ags) (hf : ∀ r Hs, post r Hs → b7u r Hs) (k : ∀ r Hs, post r Hs → K r (Hs.map (fun B => (true, B)) ++ H)) :
    A6 P C N ⟨d,.call ⟨.value (.func f),args,tys⟩,ty,ps,af,g⟩ σ H K:=fun ρ I L hs=>by
  obtain⟨vs,h1,h2⟩:=hv.get hs
  intro a w ha hst
  have hm:=hst.mem
  have hcs:∀ p∈L.flatten,I p.1=none:=hm.sep
  have hle0:Le I (I.with L.flatten):=Im.a1I hcs
  have hM:=h (I.with L.flatten) [] vs (G.mono (hs.V5.trans hle0) hG) (h2 _ hle0 (fun p hp=>Im.a1P hm.nodup hp)) rfl
  have hm2:Mem (I.with L.flatten) [] w:=⟨fun b o hb=>by
    rcases Im.a0b hb with h|h
    · exact hm.loc (b,o) h
    · exact hm.im b o h,by simp,by simp,by simp⟩
  rw [a1q hM.ok rfl (ha.ev (x := .func f) rfl) (ha.evL h1)]
  refine(hM.run w hm2).mono ?_
  rintro e w' ⟨v,J,L',rfl,hc,hle,hn,hm',hown,r,Hs',q1,q2,q3⟩
  obtain⟨f1,f2⟩:=hf r Hs' q3
  have hlt:∀ p∈L.flatten,p.1 < w.heap.size:=fun p hp=>y6 (hm.loc p hp)
  have hnew:∀ p∈L'.flatten,w.heap.size≤p.1:=fun p hp=>by simpa using hown p hp
  have hmem:Mem I (L'++L) w':=by
    refine⟨fun b o hb=>(hc.block b (y6 (hm.im b o hb)) (by simp)).trans (hm.im b o hb),fun p hp => ?_,fun p hp => ?_,?_⟩
    · simp only [List.flatten_append,List.mem_append] at hp
      rcases hp with hp|hp
      · exact hm'.loc p hp
      · exact(hc.block p.1 (hlt p hp) (by simp)).trans (hm.loc p hp)
    · simp only [List.flatten_append,List.mem_append] at hp
      rcases hp with hp|hp
      · cases hj:I p.1 with
        | none=>rfl
        | some o=>have:=y6 (hm.im p.1 o hj);have:=hnew p hp;omega
      · exact hm.sep p hp
    · simp only [List.flatten_append,List.map_append]
      refine List.nodup_append.2 ⟨hm'.nodup,hm.nodup,?_⟩
      rintro x hx y hy rfl
      obtain⟨p,hp,rfl⟩:=List.mem_map.1 hx
      obtain⟨q,hq,hqe⟩:=List.mem_map.1 hy
      have:=hnew p hp
      have:=hlt q hq
      omega
  refine⟨v,a8,I,L'++L,hst.step (by simpa using hc) (Le.refl I) (fun b h0 h1=>absurd h0 h1) hmem hnew,Le.refl I,r,_,f1 _ _ _ q1,?_,k r Hs' q3⟩
  exact((f2 J I L' q2).toT (fun p hp=>Nat.le_trans hst.S3.size (hnew p hp))).append hs.heap
end calls
end Go.Ab
