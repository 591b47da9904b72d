/- Plain Lean over any program, and walks of this seat's functions: contracts, each proved once (part 2). -/
import Derived.Test.YtmmclghiidoldaaGreatDoorZ1
import Derived.Laws.BytesArg
set_option maxRecDepth 1000000
set_option synthInstance.maxSize 1000000
set_option synthInstance.maxHeartbeats 10000000
set_option linter.unusedVariables false
set_option linter.unusedSimpArgs false
namespace Go.Ab
open Go.Fl Go.RowKit
open o7 (rep)
variable {P:Program} {C:Ctx} {N:Nat} {σ:x7} {H:j7} {K:AV→Prop} {KH:AV→j7→Prop} {d:Option Nat} {ty:TypeId} {ps:String} {af:Array Edge} {g:Option (Nat×Bool)}
variable {x y z:Operand} {T T2 E S D U:TypeId} {o:Oper}
theorem A0.ofP (h:j6 P N C o σ H (fun r=>KH r H)):A0 P C N o σ H KH:=fun ρ I L hs =>
 OpS.ofX (OpX.a3P (h ρ I L hs) fun v J X hle ⟨hX,r,h1,h2⟩=>by subst hX;exact⟨hle,r,H,h1,hs.heap.mono hle,h2⟩)
theorem A0.u0 (hC:Ctx.Ok C) {E:TypeId} {α:Type} {r:o7 α} {w:Value} {l:List α} {F:Bool×D6→j7} (h:u4 H (true,.own E w l) F) (k:A0 P C N o σ (F (true,.fz w (.v l))) KH):A0 P C N o σ H KH:=fun ρ I L hs a w0 ha hst=>by
 obtain⟨i,X,h1,h2,h3⟩:=h.get hs.heap
 have hst2:=hst.freeze h1 (a5z hC h2)
 have hle:Le I (I.with X):=Im.a1G (fun p hp=>hst.mem.sep p (D2 h1 hp))
 have hp:∀ p∈X,I.with X p.1=some p.2:=fun p hp=>Im.a1N (a0M hst.mem.nodup h1) hp
 refine Yld.mono (k ρ _ _ ⟨(hs.mono hle).env,h3 _ _ [] hle ⟨⟨rfl,W2 h2.1 hle hp⟩,by simp⟩,hs.U6.trans hle⟩ a w0 ha hst2) ?_
 rintro v w' ⟨J,L',q1,q2,q3⟩
 exact⟨J,L',q1,hle.trans q2,q3⟩
theorem A0.as (t:Nat) {w:Value} {a:AV} {b:Bool} {F:Bool×D6→j7} (ht:E9 σ t=some (.raw w)) (h:u4 H (b,.fz w a) F) (k:A0 P C N o ((t,a)::σ) H KH):A0 P C N o σ H KH :=
 fun ρ I L hs=>k ρ I L (hs.as t ht h)
theorem j6.E7 {α : Type} {r : o7 α} {i0 : Inhabited α} {n : Nat} {l : List α} {parts : Array (Nat × Operand)} (tE : G2 P E α) (hT : P.underlying T = some (.slice E)) (hp : a7g C σ H 0 parts.toList l) (hn : l.length = n) (hb : n * o7.size α ≤ 16777216) (k : K (.vc l)) :
    j6 P N C ⟨d,.buildSlice T n parts,ty,ps,af,g⟩ σ H K:=fun ρ I L hs=>by
  obtain⟨zs,hz1,hz2⟩:=tE.zero
  obtain⟨pv,vs,h1,h2,h3⟩:=hp.run hs
  subst hn
  have hl:=h3.len
  refine OpX.frz (.buildSlice hT tE.size hz1 (o7.len (hz2 I)) h1 h2 hl hb fun b J' hle hpp=>⟨rfl,.vc l,⟨⟨_,rfl⟩,vs,?_,h3.mono hle⟩,k⟩)
  refine(Own.made (e:=E) hl ?_).sl (fun p hp=>hpp p (by simpa using hp))
  have:1≤o7.size α:=Nat.one_le_iff_ne_zero.2 tE.pos
  have:=Nat.mul_le_mul_left l.length this
  unfold maxLen;omega
theorem D0.drop {ops:Array Oper} {Q:Exit→x7→j7→Prop} {os:List Oper} {B:Bool×D6} (k:D0 P C N ops Q os σ H):D0 P C N ops Q os σ (B::H):=fun ρ I L hs=>by
 obtain⟨X,R,rfl,h1,h2⟩:=hs.heap
 exact wpL.forget (X := [X]) (k ρ I R ⟨hs.env,h2,hs.U6⟩)
theorem J0.drop {Q:Exit→x7→j7→Prop} {c:Code} {B:Bool×D6} (k:J0 P C N c Q σ H):J0 P C N c Q σ (B::H):=fun ρ I L hs=>by
 obtain⟨X,R,rfl,h1,h2⟩:=hs.heap
 exact wpS.forget (X := [X]) (k ρ I R ⟨hs.env,h2,hs.U6⟩)
theorem j6.F1 {α β:Type} {r:o7 α} {s:o7 β} {w:Value} {l:j9 α β} (hx:E6 C σ H x (.ln w l)) (k:K (.ln w l)):j6 P N C ⟨d,.nilCheck x,ty,ps,af,g⟩ σ H K :=
 .vk k (fun ρ I L hs=>by
  obtain⟨u,h2,b,h3,rfl⟩:=hx ρ I L hs
  exact .mk ⟨b,h3,rfl⟩ fun a w ha hm=>by simp [execOp,ha.ev h2])
section c3i
variable {s:Y4} {i j:Int} (hT:P.underlying T=some .string) (hx:E6 C σ H x (.v s))
include hT hx
end c3i
def AV.b0k (c:Bool) (a:AV):AV := .pr (fun I u=>(c=true→E1 I a u)∧(c=false→u=undef)) (fun hle h=>⟨fun e=>(h.1 e).mono hle,h.2⟩)
theorem E6.ou {t:Nat} {a:AV} {c:Bool} (h:E9 σ t=some (.b0k c a)) (hc:c=true):E6 C σ H (.tmp t) a:=fun ρ I L hs=>by
 obtain⟨u,h1,h2⟩:=hs.env t _ h
 exact⟨u,h1,h2.1 hc⟩
section nested
variable {P:Program} {C:Ctx} {N:Nat} {ops:Array Oper} {Q:Exit→x7→j7→Prop} {rest:List Oper} {σ:x7} {H:j7}
theorem D0.goU {d : Nat} {op : Op} {ty : TypeId} {ps : String} {af : Array Edge} {j : Nat} {want : Bool} (dj : Nat) (hj : (ops[j]?).bind (·.dst) = some dj) {b : Bool} (hb : E6 C σ H (.tmp dj) (.v b)) {r : AV}
    (h:b=want→j6 P N C ⟨some d,op,ty,ps,af,none⟩ σ H (fun r'=>r'=r)) (k:D0 P C N ops Q rest ((d,.b0k (b == want) r)::σ) H) :
    D0 P C N ops Q (⟨some d,op,ty,ps,af,some (j,want)⟩::rest) σ H:=fun ρ I L hs=>by
  have hbv:=hb.bool hs
  by_cases e:b=want
  · refine .gt dj hj (by rw [←e];exact hbv) (OpS.ofX (OpX.a3P (h e ρ I L hs) fun v J X hle ⟨hX,r',hr,hk⟩ => ?_))
    subst hX;subst hk
    exact k _ _ _ (hs.put hle (r := .b0k (b == want) r') ⟨fun _=>hr,fun hc=>absurd e (by simpa using hc)⟩ (hs.heap.mono hle))
  · have e':b = !want:=by cases b<;>cases want<;>simp_all
    exact .gf dj hj (by rw [←e'];exact hbv) (k _ _ _ (hs.put (Le.refl I) (r := .b0k (b == want) r) ⟨fun hc=>absurd (by simpa using hc) e,fun _=>a8⟩ hs.heap))
theorem c15 {ρ : Env} {I : Im} {L : Lh} {Q : Exit → Env → Im → Lh → Prop} {d : Nat} {op : Op} {ty : TypeId} {ps : String} {af : Array Edge} {j : Nat} {want : Bool} (dj : Nat) (hj : (ops[j]?).bind (·.dst) = some dj) (hb : Fl.look ρ dj = some undef)
    (h:wpL P C N ops Q rest ((d,undef)::ρ) I L):wpL P C N ops Q (⟨some d,op,ty,ps,af,some (j,want)⟩::rest) ρ I L:=fun hd a w ha hs=>by
  obtain⟨hlt,hd'⟩:=a7V hd
  refine wpListIn_step fun K hK => ?_
  have hy:yielded ops a.tmps j=none:=by unfold yielded;rw [hj];simp only [Option.bind_some,ha.tmp dj _ hb];rfl
  rw [if_neg (by simp [Region.wanted,hy])]
  exact⟨fun _ _=>trivial,hK _ _ (h hd' _ _ (ha.put hlt undef) hs)⟩
theorem D0.gn {d : Nat} {op : Op} {ty : TypeId} {ps : String} {af : Array Edge} {j : Nat} {want : Bool} (dj : Nat) (hj : (ops[j]?).bind (·.dst) = some dj) {b c : Bool} (hb : E9 σ dj = some (.b0k c (.v b))) {r : AV}
    (h:c=true→b=want→j6 P N C ⟨some d,op,ty,ps,af,none⟩ σ H (fun r'=>r'=r)) (k:D0 P C N ops Q rest ((d,.b0k (c&&(b == want)) r)::σ) H) :
    D0 P C N ops Q (⟨some d,op,ty,ps,af,some (j,want)⟩::rest) σ H:=fun ρ I L hs=>by
  obtain⟨u,hu1,hu2,hu3⟩:=hs.env dj _ hb
  cases c with
  | false =>
    obtain rfl:=hu3 rfl
    exact c15 dj hj hu1 (k _ _ _ (hs.put (Le.refl I) (r := .b0k (false&&(b == want)) r) ⟨fun hc=>by simp at hc,fun _=>rfl⟩ hs.heap))
  | true =>
    have hbv:Fl.look ρ dj=some (.bool b):=by
      obtain⟨cs,rfl,rfl⟩:=hu2 rfl
      exact hu1
    by_cases e:b=want
    · refine .gt dj hj (by rw [←e];exact hbv) (OpS.ofX (OpX.a3P (h a8 e ρ I L hs) fun v J X hle ⟨hX,r',hr,hk⟩ => ?_))
      subst hX;subst hk
      exact k _ _ _ (hs.put hle (r := .b0k (true&&(b == want)) r') ⟨fun _=>hr,fun hc=>absurd e (by simpa using hc)⟩ (hs.heap.mono hle))
    · have e':b = !want:=by cases b<;>cases want<;>simp_all
      exact .gf dj hj (by rw [←e'];exact hbv) (k _ _ _ (hs.put (Le.refl I) (r := .b0k (true&&(b == want)) r) ⟨fun hc=>absurd (by simpa using hc) e,fun _=>a8⟩ hs.heap))
end nested
end Go.Ab
namespace Go.Ab
open Go.Fl Go.RowKit
open o7 (rep)
variable {P:Program} {C:Ctx} {N:Nat} {σ:x7} {H:j7} {K:AV→Prop} {KH:AV→j7→Prop} {d:Option Nat} {ty:TypeId} {ps:String} {af:Array Edge} {g:Option (Nat×Bool)}
variable {x y z:Operand} {T T2 E S D U:TypeId} {o:Oper}
theorem j6.bS1 {α γ1 : Type} {r : o7 α} {i0 : Inhabited α} {q1 : o7 γ1} {offs : List (Nat × Nat)} {parts : Array (Nat × Operand)} {i1 : Nat} {o1 : Operand} {c1 : γ1} (m1 : j9 α γ1) (hg : o7.agg α = true) (tT : G2 P T α) (hT : D4 P T = some offs) (mk : γ1 → α) (hm : ∀ c1, (m1.set c1 (default : α)) = mk c1) (hp : parts.toList = [(i1, o1)]) (h1 : offs[i1]? = some (m1.off, o7.size γ1)) (e1 : E6 C σ H o1 (.v c1)) (k : K (.v (mk c1))) :
    j6 P N C ⟨d,.build T parts,ty,ps,af,g⟩ σ H K :=
  .a4p (mk c1) hg tT hT (by rw [hp];exact(.cons m1 c1 h1 e1 .nil)) (hm c1) k
theorem j6.bS2 {α γ1 γ2 : Type} {r : o7 α} {i0 : Inhabited α} {q1 : o7 γ1} {q2 : o7 γ2} {offs : List (Nat × Nat)} {parts : Array (Nat × Operand)} {i1 : Nat} {o1 : Operand} {i2 : Nat} {o2 : Operand} {c1 : γ1} {c2 : γ2} (m1 : j9 α γ1) (m2 : j9 α γ2) (hg : o7.agg α = true) (tT : G2 P T α) (hT : D4 P T = some offs) (mk : γ1 → γ2 → α) (hm : ∀ c1 c2, (m2.set c2 (m1.set c1 (default : α))) = mk c1 c2) (hp : parts.toList = [(i1, o1), (i2, o2)]) (h1 : offs[i1]? = some (m1.off, o7.size γ1)) (h2 : offs[i2]? = some (m2.off, o7.size γ2)) (e1 : E6 C σ H o1 (.v c1)) (e2 : E6 C σ H o2 (.v c2)) (k : K (.v (mk c1 c2))) :
    j6 P N C ⟨d,.build T parts,ty,ps,af,g⟩ σ H K :=
  .a4p (mk c1 c2) hg tT hT (by rw [hp];exact(.cons m1 c1 h1 e1 (.cons m2 c2 h2 e2 .nil))) (hm c1 c2) k
theorem j6.bS3 {α γ1 γ2 γ3 : Type} {r : o7 α} {i0 : Inhabited α} {q1 : o7 γ1} {q2 : o7 γ2} {q3 : o7 γ3} {offs : List (Nat × Nat)} {parts : Array (Nat × Operand)} {i1 : Nat} {o1 : Operand} {i2 : Nat} {o2 : Operand} {i3 : Nat} {o3 : Operand} {c1 : γ1} {c2 : γ2} {c3 : γ3} (m1 : j9 α γ1) (m2 : j9 α γ2) (m3 : j9 α γ3) (hg : o7.agg α = true) (tT : G2 P T α) (hT : D4 P T = some offs) (mk : γ1 → γ2 → γ3 → α) (hm : ∀ c1 c2 c3, (m3.set c3 (m2.set c2 (m1.set c1 (default : α)))) = mk c1 c2 c3) (hp : parts.toList = [(i1, o1), (i2, o2), (i3, o3)]) (h1 : offs[i1]? = some (m1.off, o7.size γ1)) (h2 : offs[i2]? = some (m2.off, o7.size γ2)) (h3 : offs[i3]? = some (m3.off, o7.size γ3)) (e1 : E6 C σ H o1 (.v c1)) (e2 : E6 C σ H o2 (.v c2)) (e3 : E6 C σ H o3 (.v c3)) (k : K (.v (mk c1 c2 c3))) :
    j6 P N C ⟨d,.build T parts,ty,ps,af,g⟩ σ H K :=
  .a4p (mk c1 c2 c3) hg tT hT (by rw [hp];exact(.cons m1 c1 h1 e1 (.cons m2 c2 h2 e2 (.cons m3 c3 h3 e3 .nil)))) (hm c1 c2 c3) k
theorem j6.bS4 {α γ1 γ2 γ3 γ4 : Type} {r : o7 α} {i0 : Inhabited α} {q1 : o7 γ1} {q2 : o7 γ2} {q3 : o7 γ3} {q4 : o7 γ4} {offs : List (Nat × Nat)} {parts : Array (Nat × Operand)} {i1 : Nat} {o1 : Operand} {i2 : Nat} {o2 : Operand} {i3 : Nat} {o3 : Operand} {i4 : Nat} {o4 : Operand} {c1 : γ1} {c2 : γ2} {c3 : γ3} {c4 : γ4} (m1 : j9 α γ1) (m2 : j9 α γ2) (m3 : j9 α γ3) (m4 : j9 α γ4) (hg : o7.agg α = true) (tT : G2 P T α) (hT : D4 P T = some offs) (mk : γ1 → γ2 → γ3 → γ4 → α) (hm : ∀ c1 c2 c3 c4, (m4.set c4 (m3.set c3 (m2.set c2 (m1.set c1 (default : α))))) = mk c1 c2 c3 c4) (hp : parts.toList = [(i1, o1), (i2, o2), (i3, o3), (i4, o4)]) (h1 : offs[i1]? = some (m1.off, o7.size γ1)) (h2 : offs[i2]? = some (m2.off, o7.size γ2)) (h3 : offs[i3]? = some (m3.off, o7.size γ3)) (h4 : offs[i4]? = some (m4.off, o7.size γ4)) (e1 : E6 C σ H o1 (.v c1)) (e2 : E6 C σ H o2 (.v c2)) (e3 : E6 C σ H o3 (.v c3)) (e4 : E6 C σ H o4 (.v c4)) (k : K (.v (mk c1 c2 c3 c4))) :
    j6 P N C ⟨d,.build T parts,ty,ps,af,g⟩ σ H K :=
  .a4p (mk c1 c2 c3 c4) hg tT hT (by rw [hp];exact(.cons m1 c1 h1 e1 (.cons m2 c2 h2 e2 (.cons m3 c3 h3 e3 (.cons m4 c4 h4 e4 .nil))))) (hm c1 c2 c3 c4) k
theorem j6.bS0 {α:Type} {r:o7 α} {i0:Inhabited α} {offs:List (Nat×Nat)} (hg:o7.agg α=true) (tT:G2 P T α) (hT:D4 P T=some offs) (k:K (.v (default:α))):j6 P N C ⟨d,.build T #[],ty,ps,af,g⟩ σ H K := .a4p default hg tT hT .nil rfl k
theorem j6.A9 {β γ : Type} {s : o7 β} {q : o7 γ} {i off sz : Nat} {ag : Bool} {w : Value} (m : j9 β γ) (hf : p8 P T i = some (off, sz + 1, ag)) (ho : off = m.off) (hx : E6 C σ H x (.ln w (j9.id (α := β)))) (k : K (.ln w m)) :
    j6 P N C ⟨d,.fieldAddr T x i,ty,ps,af,g⟩ σ H K :=
  .vk k (fun ρ I L hs=>by
    obtain⟨u,h2,b,h3,rfl⟩:=hx ρ I L hs
    subst ho
    exact .fieldAddr hf h2 ⟨b,h3,by simp [j9.id]⟩)
theorem j6.c16 {β : Type} {s : o7 β} {n : Nat} {ag : Bool} {w : Value} {i : Int} (hf : L5 P T = some (n, o7.size β, ag)) (hx : E6 C σ H x (.ln w (j9.id (α := I8 n β)))) (hy : E6 C σ H y (.v i)) (h0 : 0 ≤ i) (h1 : i < n)
    (k:K (.ln w (j9.idx (α:=β) (n:=n) i.toNat (by omega)))):j6 P N C ⟨d,.indexAddr T x y,ty,ps,af,g⟩ σ H K :=
  .vk k (fun ρ I L hs=>by
    obtain⟨u,h2,b,h3,rfl⟩:=hx ρ I L hs
    exact .x8 hf h2 (hy.int hs).1 h0 h1 ⟨b,h3,by simp [j9.id,j9.idx]⟩)
theorem j6.ldF {α β : Type} {r : o7 α} {s : o7 β} {i : Inhabited β} {w : Value} {l : j9 α β} {a : α} {bb : Bool} {F : Bool × D6 → j7} (f : α → β) (tT : G2 P T β) (hx : E6 C σ H x (.ln w l)) (hH : u4 H (bb, .ob w a) F) (hf : ∀ x, l.get x = f x) (k : K (.v (f a))) :
    j6 P N C ⟨d,.load T x,ty,ps,af,g⟩ σ H K := .ldL tT hx hH (hf a▸k)
theorem A0.stF {α β : Type} {r : o7 α} {s : o7 β} {i : Inhabited β} {w : Value} {l : j9 α β} {a : α} {c : β} {bb : Bool} {F : Bool × D6 → j7} (f : β → α → α) (tT : G2 P T β) (hx : E6 C σ H x (.ln w l)) (hy : E6 C σ H y (.v c)) (hH : u4 H (bb, .ob w a) F) (hf : ∀ y x, l.set y x = f y x)
    (k:KH .any (F (bb,.ob w (f c a)))):A0 P C N ⟨d,.store T x y,ty,ps,af,g⟩ σ H KH := .stL tT hx hy hH (hf c a▸k)
theorem j6.b1B {α : Type} {r : o7 α} {i : Inhabited α} {w : Value} {ags : List α} {kk : Nat} {bb : Bool} {E' : TypeId} {F : Bool × D6 → j7} (tT : G2 P T α) (hx : E6 C σ H x (.el w kk (j9.id (α := α)))) (hH : u4 H (bb, .own E' w ags) F) (hk : kk < ags.length)
    (k:K (.v ags[kk])):j6 P N C ⟨d,.load T x,ty,ps,af,g⟩ σ H K := .ldE tT hx hH hk k
theorem A0.b0m {α : Type} {r : o7 α} {i : Inhabited α} {w : Value} {ags : List α} {c : α} {kk : Nat} {bb : Bool} {E' : TypeId} {F : Bool × D6 → j7} (tT : G2 P T α) (hx : E6 C σ H x (.el w kk (j9.id (α := α)))) (hy : E6 C σ H y (.v c))
    (hH:u4 H (bb,.own E' w ags) F) (hk:kk < ags.length) (k:KH .any (F (bb,.own E' w (ags.set kk c)))):A0 P C N ⟨d,.store T x y,ty,ps,af,g⟩ σ H KH := .stE tT hx hy hH hk k
theorem j6.A7 {β γ : Type} {s : o7 β} {q : o7 γ} {i off sz : Nat} {ag : Bool} {a : β} (m : j9 β γ) (f : β → γ) (hf : p8 P T i = some (off, sz + 1, ag)) (ho : off = m.off) (hm : ∀ x, m.get x = f x) (hx : E6 C σ H x (.p a)) (k : K (.p (f a))) :
    j6 P N C ⟨d,.fieldAddr T x i,ty,ps,af,g⟩ σ H K := .c4v m hf ho hx (hm a▸k)
end Go.Ab
namespace Go.Mac
open Go.Ab
structure u3 where
 Gate:Int
 E0:Int
def u3.f (x:u3):Int×Int×Unit:=(x.Gate,x.E0,())
instance:Inhabited u3:=⟨⟨default,default⟩⟩
instance:DecidableEq u3:=fun a b=>decidable_of_iff (a.Gate=b.Gate∧a.E0=b.E0) (by cases a;cases b;simp)
instance:o7 u3:=o7.via u3.f
instance:H4 u3:=H4.via u3.f rfl
def u3.l0:j9 u3 Int:=j9.via u3.f j9.fst (fun x=>x.Gate) (fun y x => { x with Gate:=y }) (fun _=>rfl) (fun _ _=>rfl)
def u3.l1:j9 u3 Int:=j9.via u3.f (j9.snd.comp j9.fst) (fun x=>x.E0) (fun y x => { x with E0:=y }) (fun _=>rfl) (fun _ _=>rfl)
structure j3 where
 Kind:Int
 Mask:UInt64
 P1:Int
 To:Int
 Name:Y4
 Number:Int
def j3.f (x:j3):Int×UInt64×Int×Int×Y4×Int×Unit:=(x.Kind,x.Mask,x.P1,x.To,x.Name,x.Number,())
instance:Inhabited j3:=⟨⟨default,default,default,default,default,default⟩⟩
instance:DecidableEq j3:=fun a b=>decidable_of_iff (a.Kind=b.Kind∧a.Mask=b.Mask∧a.P1=b.P1∧a.To=b.To∧a.Name=b.Name∧a.Number=b.Number) (by cases a;cases b;simp)
instance:o7 j3:=o7.via j3.f
instance:H4 j3:=H4.via j3.f rfl
def j3.l0:j9 j3 Int:=j9.via j3.f j9.fst (fun x=>x.Kind) (fun y x => { x with Kind:=y }) (fun _=>rfl) (fun _ _=>rfl)
def j3.l1:j9 j3 UInt64:=j9.via j3.f (j9.snd.comp j9.fst) (fun x=>x.Mask) (fun y x => { x with Mask:=y }) (fun _=>rfl) (fun _ _=>rfl)
def j3.l2:j9 j3 Int:=j9.via j3.f (j9.snd.comp (j9.snd.comp j9.fst)) (fun x=>x.P1) (fun y x => { x with P1:=y }) (fun _=>rfl) (fun _ _=>rfl)
def j3.l3:j9 j3 Int:=j9.via j3.f (j9.snd.comp (j9.snd.comp (j9.snd.comp j9.fst))) (fun x=>x.To) (fun y x => { x with To:=y }) (fun _=>rfl) (fun _ _=>rfl)
def j3.l4:j9 j3 Y4:=j9.via j3.f (j9.snd.comp (j9.snd.comp (j9.snd.comp (j9.snd.comp j9.fst)))) (fun x=>x.Name) (fun y x => { x with Name:=y }) (fun _=>rfl) (fun _ _=>rfl)
def j3.l5:j9 j3 Int:=j9.via j3.f (j9.snd.comp (j9.snd.comp (j9.snd.comp (j9.snd.comp (j9.snd.comp j9.fst))))) (fun x=>x.Number) (fun y x => { x with Number:=y }) (fun _=>rfl) (fun _ _=>rfl)
structure o5 where
 Q9:Bool
 a2P:j3
 G7:Int
 l9:(List UInt8)
 Y5:(List UInt8)
def o5.f (x:o5):Bool×j3×Int×(List UInt8)×(List UInt8)×Unit:=(x.Q9,x.a2P,x.G7,x.l9,x.Y5,())
instance:Inhabited o5:=⟨⟨default,default,default,default,default⟩⟩
instance:o7 o5:=o7.via o5.f
instance:H4 o5:=H4.via o5.f rfl
def o5.l0:j9 o5 Bool:=j9.via o5.f j9.fst (fun x=>x.Q9) (fun y x => { x with Q9:=y }) (fun _=>rfl) (fun _ _=>rfl)
def o5.l1:j9 o5 j3:=j9.via o5.f (j9.snd.comp j9.fst) (fun x=>x.a2P) (fun y x => { x with a2P:=y }) (fun _=>rfl) (fun _ _=>rfl)
def o5.l2:j9 o5 Int:=j9.via o5.f (j9.snd.comp (j9.snd.comp j9.fst)) (fun x=>x.G7) (fun y x => { x with G7:=y }) (fun _=>rfl) (fun _ _=>rfl)
def o5.l3:j9 o5 (List UInt8):=j9.via o5.f (j9.snd.comp (j9.snd.comp (j9.snd.comp j9.fst))) (fun x=>x.l9) (fun y x => { x with l9:=y }) (fun _=>rfl) (fun _ _=>rfl)
def o5.l4:j9 o5 (List UInt8):=j9.via o5.f (j9.snd.comp (j9.snd.comp (j9.snd.comp (j9.snd.comp j9.fst)))) (fun x=>x.Y5) (fun y x => { x with Y5:=y }) (fun _=>rfl) (fun _ _=>rfl)
structure p9 where
 l9:(List UInt8)
 l8:(List j3)
 Proof:(I8 32 UInt8)
def p9.f (x:p9):(List UInt8)×(List j3)×(I8 32 UInt8)×Unit:=(x.l9,x.l8,x.Proof,())
instance:Inhabited p9:=⟨⟨default,default,default⟩⟩
instance:o7 p9:=o7.via p9.f
instance:H4 p9:=H4.via p9.f rfl
def p9.l0:j9 p9 (List UInt8):=j9.via p9.f j9.fst (fun x=>x.l9) (fun y x => { x with l9:=y }) (fun _=>rfl) (fun _ _=>rfl)
def p9.l1:j9 p9 (List j3):=j9.via p9.f (j9.snd.comp j9.fst) (fun x=>x.l8) (fun y x => { x with l8:=y }) (fun _=>rfl) (fun _ _=>rfl)
def p9.l2:j9 p9 (I8 32 UInt8):=j9.via p9.f (j9.snd.comp (j9.snd.comp j9.fst)) (fun x=>x.Proof) (fun y x => { x with Proof:=y }) (fun _=>rfl) (fun _ _=>rfl)
structure u1 where
 Request:u3
 D3:Int
 A6:Int
 j8:(List o5)
 Proof:(I8 32 UInt8)
 j4:(List p9)
def u1.f (x:u1):u3×Int×Int×(List o5)×(I8 32 UInt8)×(List p9)×Unit:=(x.Request,x.D3,x.A6,x.j8,x.Proof,x.j4,())
instance:Inhabited u1:=⟨⟨default,default,default,default,default,default⟩⟩
instance:o7 u1:=o7.via u1.f
instance:H4 u1:=H4.via u1.f rfl
def u1.l0:j9 u1 u3:=j9.via u1.f j9.fst (fun x=>x.Request) (fun y x => { x with Request:=y }) (fun _=>rfl) (fun _ _=>rfl)
def u1.l1:j9 u1 Int:=j9.via u1.f (j9.snd.comp j9.fst) (fun x=>x.D3) (fun y x => { x with D3:=y }) (fun _=>rfl) (fun _ _=>rfl)
def u1.l2:j9 u1 Int:=j9.via u1.f (j9.snd.comp (j9.snd.comp j9.fst)) (fun x=>x.A6) (fun y x => { x with A6:=y }) (fun _=>rfl) (fun _ _=>rfl)
def u1.l3:j9 u1 (List o5):=j9.via u1.f (j9.snd.comp (j9.snd.comp (j9.snd.comp j9.fst))) (fun x=>x.j8) (fun y x => { x with j8:=y }) (fun _=>rfl) (fun _ _=>rfl)
def u1.l4:j9 u1 (I8 32 UInt8):=j9.via u1.f (j9.snd.comp (j9.snd.comp (j9.snd.comp (j9.snd.comp j9.fst)))) (fun x=>x.Proof) (fun y x => { x with Proof:=y }) (fun _=>rfl) (fun _ _=>rfl)
def u1.l5:j9 u1 (List p9):=j9.via u1.f (j9.snd.comp (j9.snd.comp (j9.snd.comp (j9.snd.comp (j9.snd.comp j9.fst))))) (fun x=>x.j4) (fun y x => { x with j4:=y }) (fun _=>rfl) (fun _ _=>rfl)
structure u7 where
 Number:Int
 Key:(I8 32 UInt8)
def u7.f (x:u7):Int×(I8 32 UInt8)×Unit:=(x.Number,x.Key,())
instance:Inhabited u7:=⟨⟨default,default⟩⟩
instance:o7 u7:=o7.via u7.f
instance:H4 u7:=H4.via u7.f rfl
def u7.l0:j9 u7 Int:=j9.via u7.f j9.fst (fun x=>x.Number) (fun y x => { x with Number:=y }) (fun _=>rfl) (fun _ _=>rfl)
def u7.l1:j9 u7 (I8 32 UInt8):=j9.via u7.f (j9.snd.comp j9.fst) (fun x=>x.Key) (fun y x => { x with Key:=y }) (fun _=>rfl) (fun _ _=>rfl)
structure C8 where
 Live:(List u7)
 c17:Int
def C8.f (x:C8):(List u7)×Int×Unit:=(x.Live,x.c17,())
instance:Inhabited C8:=⟨⟨default,default⟩⟩
instance:o7 C8:=o7.via C8.f
instance:H4 C8:=H4.via C8.f rfl
def C8.l0:j9 C8 (List u7):=j9.via C8.f j9.fst (fun x=>x.Live) (fun y x => { x with Live:=y }) (fun _=>rfl) (fun _ _=>rfl)
def C8.l1:j9 C8 Int:=j9.via C8.f (j9.snd.comp j9.fst) (fun x=>x.c17) (fun y x => { x with c17:=y }) (fun _=>rfl) (fun _ _=>rfl)
structure y3 where
 Key:(I8 32 UInt8)
 Message:(List UInt8)
 Tag:(I8 32 UInt8)
def y3.f (x:y3):(I8 32 UInt8)×(List UInt8)×(I8 32 UInt8)×Unit:=(x.Key,x.Message,x.Tag,())
instance:Inhabited y3:=⟨⟨default,default,default⟩⟩
instance:o7 y3:=o7.via y3.f
instance:H4 y3:=H4.via y3.f rfl
def y3.l0:j9 y3 (I8 32 UInt8):=j9.via y3.f j9.fst (fun x=>x.Key) (fun y x => { x with Key:=y }) (fun _=>rfl) (fun _ _=>rfl)
def y3.l1:j9 y3 (List UInt8):=j9.via y3.f (j9.snd.comp j9.fst) (fun x=>x.Message) (fun y x => { x with Message:=y }) (fun _=>rfl) (fun _ _=>rfl)
def y3.l2:j9 y3 (I8 32 UInt8):=j9.via y3.f (j9.snd.comp (j9.snd.comp j9.fst)) (fun x=>x.Tag) (fun y x => { x with Tag:=y }) (fun _=>rfl) (fun _ _=>rfl)
structure m9 where
 Key:(I8 32 UInt8)
 E0:Int
 Plain:(List UInt8)
 Y5:(List UInt8)
def m9.f (x:m9):(I8 32 UInt8)×Int×(List UInt8)×(List UInt8)×Unit:=(x.Key,x.E0,x.Plain,x.Y5,())
instance:Inhabited m9:=⟨⟨default,default,default,default⟩⟩
instance:o7 m9:=o7.via m9.f
instance:H4 m9:=H4.via m9.f rfl
def m9.l0:j9 m9 (I8 32 UInt8):=j9.via m9.f j9.fst (fun x=>x.Key) (fun y x => { x with Key:=y }) (fun _=>rfl) (fun _ _=>rfl)
def m9.l1:j9 m9 Int:=j9.via m9.f (j9.snd.comp j9.fst) (fun x=>x.E0) (fun y x => { x with E0:=y }) (fun _=>rfl) (fun _ _=>rfl)
def m9.l2:j9 m9 (List UInt8):=j9.via m9.f (j9.snd.comp (j9.snd.comp j9.fst)) (fun x=>x.Plain) (fun y x => { x with Plain:=y }) (fun _=>rfl) (fun _ _=>rfl)
def m9.l3:j9 m9 (List UInt8):=j9.via m9.f (j9.snd.comp (j9.snd.comp (j9.snd.comp j9.fst))) (fun x=>x.Y5) (fun y x => { x with Y5:=y }) (fun _=>rfl) (fun _ _=>rfl)
structure m0 where
 K1:Bool
 a4f:(I8 32 UInt8)
 F7:Int
 G4:(List y3)
 x9:(List m9)
def m0.f (x:m0):Bool×(I8 32 UInt8)×Int×(List y3)×(List m9)×Unit:=(x.K1,x.a4f,x.F7,x.G4,x.x9,())
instance:Inhabited m0:=⟨⟨default,default,default,default,default⟩⟩
instance:o7 m0:=o7.via m0.f
instance:H4 m0:=H4.via m0.f rfl
def m0.l0:j9 m0 Bool:=j9.via m0.f j9.fst (fun x=>x.K1) (fun y x => { x with K1:=y }) (fun _=>rfl) (fun _ _=>rfl)
def m0.l1:j9 m0 (I8 32 UInt8):=j9.via m0.f (j9.snd.comp j9.fst) (fun x=>x.a4f) (fun y x => { x with a4f:=y }) (fun _=>rfl) (fun _ _=>rfl)
def m0.l2:j9 m0 Int:=j9.via m0.f (j9.snd.comp (j9.snd.comp j9.fst)) (fun x=>x.F7) (fun y x => { x with F7:=y }) (fun _=>rfl) (fun _ _=>rfl)
def m0.l3:j9 m0 (List y3):=j9.via m0.f (j9.snd.comp (j9.snd.comp (j9.snd.comp j9.fst))) (fun x=>x.G4) (fun y x => { x with G4:=y }) (fun _=>rfl) (fun _ _=>rfl)
def m0.l4:j9 m0 (List m9):=j9.via m0.f (j9.snd.comp (j9.snd.comp (j9.snd.comp (j9.snd.comp j9.fst)))) (fun x=>x.x9) (fun y x => { x with x9:=y }) (fun _=>rfl) (fun _ _=>rfl)
structure y8 where
 Name:Y4
 b3s:Int
def y8.f (x:y8):Y4×Int×Unit:=(x.Name,x.b3s,())
instance:Inhabited y8:=⟨⟨default,default⟩⟩
instance:o7 y8:=o7.via y8.f
instance:H4 y8:=H4.via y8.f rfl
def y8.l0:j9 y8 Y4:=j9.via y8.f j9.fst (fun x=>x.Name) (fun y x => { x with Name:=y }) (fun _=>rfl) (fun _ _=>rfl)
def y8.l1:j9 y8 Int:=j9.via y8.f (j9.snd.comp j9.fst) (fun x=>x.b3s) (fun y x => { x with b3s:=y }) (fun _=>rfl) (fun _ _=>rfl)
structure u9 where
 G7:Int
 Key:(I8 32 UInt8)
 a1I:(List y8)
def u9.f (x:u9):Int×(I8 32 UInt8)×(List y8)×Unit:=(x.G7,x.Key,x.a1I,())
instance:Inhabited u9:=⟨⟨default,default,default⟩⟩
instance:o7 u9:=o7.via u9.f
instance:H4 u9:=H4.via u9.f rfl
def u9.l0:j9 u9 Int:=j9.via u9.f j9.fst (fun x=>x.G7) (fun y x => { x with G7:=y }) (fun _=>rfl) (fun _ _=>rfl)
def u9.l1:j9 u9 (I8 32 UInt8):=j9.via u9.f (j9.snd.comp j9.fst) (fun x=>x.Key) (fun y x => { x with Key:=y }) (fun _=>rfl) (fun _ _=>rfl)
def u9.l2:j9 u9 (List y8):=j9.via u9.f (j9.snd.comp (j9.snd.comp j9.fst)) (fun x=>x.a1I) (fun y x => { x with a1I:=y }) (fun _=>rfl) (fun _ _=>rfl)
structure x6 where
 D3:Int
 A6:Int
 j8:(List o5)
 Tag:(I8 32 UInt8)
def x6.f (x:x6):Int×Int×(List o5)×(I8 32 UInt8)×Unit:=(x.D3,x.A6,x.j8,x.Tag,())
instance:Inhabited x6:=⟨⟨default,default,default,default⟩⟩
instance:o7 x6:=o7.via x6.f
instance:H4 x6:=H4.via x6.f rfl
def x6.l0:j9 x6 Int:=j9.via x6.f j9.fst (fun x=>x.D3) (fun y x => { x with D3:=y }) (fun _=>rfl) (fun _ _=>rfl)
def x6.l1:j9 x6 Int:=j9.via x6.f (j9.snd.comp j9.fst) (fun x=>x.A6) (fun y x => { x with A6:=y }) (fun _=>rfl) (fun _ _=>rfl)
def x6.l2:j9 x6 (List o5):=j9.via x6.f (j9.snd.comp (j9.snd.comp j9.fst)) (fun x=>x.j8) (fun y x => { x with j8:=y }) (fun _=>rfl) (fun _ _=>rfl)
def x6.l3:j9 x6 (I8 32 UInt8):=j9.via x6.f (j9.snd.comp (j9.snd.comp (j9.snd.comp j9.fst))) (fun x=>x.Tag) (fun y x => { x with Tag:=y }) (fun _=>rfl) (fun _ _=>rfl)
structure p6 where
 l9:(List UInt8)
 l8:(List j3)
 Tag:(I8 32 UInt8)
def p6.f (x:p6):(List UInt8)×(List j3)×(I8 32 UInt8)×Unit:=(x.l9,x.l8,x.Tag,())
instance:Inhabited p6:=⟨⟨default,default,default⟩⟩
instance:o7 p6:=o7.via p6.f
instance:H4 p6:=H4.via p6.f rfl
def p6.l0:j9 p6 (List UInt8):=j9.via p6.f j9.fst (fun x=>x.l9) (fun y x => { x with l9:=y }) (fun _=>rfl) (fun _ _=>rfl)
def p6.l1:j9 p6 (List j3):=j9.via p6.f (j9.snd.comp j9.fst) (fun x=>x.l8) (fun y x => { x with l8:=y }) (fun _=>rfl) (fun _ _=>rfl)
def p6.l2:j9 p6 (I8 32 UInt8):=j9.via p6.f (j9.snd.comp (j9.snd.comp j9.fst)) (fun x=>x.Tag) (fun y x => { x with Tag:=y }) (fun _=>rfl) (fun _ _=>rfl)
structure p5 where
 A:m0
 Ring:C8
 C:u9
 Pass:x6
 L7:(List p6)
 Request:u3
 G0:Y4
 Minute:Int
def p5.f (x:p5):m0×C8×u9×x6×(List p6)×u3×Y4×Int×Unit:=(x.A,x.Ring,x.C,x.Pass,x.L7,x.Request,x.G0,x.Minute,())
instance:Inhabited p5:=⟨⟨default,default,default,default,default,default,default,default⟩⟩
instance:o7 p5:=o7.via p5.f
instance:H4 p5:=H4.via p5.f rfl
def p5.l0:j9 p5 m0:=j9.via p5.f j9.fst (fun x=>x.A) (fun y x => { x with A:=y }) (fun _=>rfl) (fun _ _=>rfl)
def p5.l3:j9 p5 x6:=j9.via p5.f (j9.snd.comp (j9.snd.comp (j9.snd.comp j9.fst))) (fun x=>x.Pass) (fun y x => { x with Pass:=y }) (fun _=>rfl) (fun _ _=>rfl)
def p5.l4:j9 p5 (List p6):=j9.via p5.f (j9.snd.comp (j9.snd.comp (j9.snd.comp (j9.snd.comp j9.fst)))) (fun x=>x.L7) (fun y x => { x with L7:=y }) (fun _=>rfl) (fun _ _=>rfl)
def p5.l5:j9 p5 u3:=j9.via p5.f (j9.snd.comp (j9.snd.comp (j9.snd.comp (j9.snd.comp (j9.snd.comp j9.fst))))) (fun x=>x.Request) (fun y x => { x with Request:=y }) (fun _=>rfl) (fun _ _=>rfl)
def p5.l6:j9 p5 Y4:=j9.via p5.f (j9.snd.comp (j9.snd.comp (j9.snd.comp (j9.snd.comp (j9.snd.comp (j9.snd.comp j9.fst)))))) (fun x=>x.G0) (fun y x => { x with G0:=y }) (fun _=>rfl) (fun _ _=>rfl)
structure y4 where
 a8q:(List (I8 32 UInt8))
 b3t:(I8 32 UInt8)
def y4.f (x:y4):(List (I8 32 UInt8))×(I8 32 UInt8)×Unit:=(x.a8q,x.b3t,())
instance:Inhabited y4:=⟨⟨default,default⟩⟩
instance:o7 y4:=o7.via y4.f
instance:H4 y4:=H4.via y4.f rfl
def y4.l0:j9 y4 (List (I8 32 UInt8)):=j9.via y4.f j9.fst (fun x=>x.a8q) (fun y x => { x with a8q:=y }) (fun _=>rfl) (fun _ _=>rfl)
def y4.l1:j9 y4 (I8 32 UInt8):=j9.via y4.f (j9.snd.comp j9.fst) (fun x=>x.b3t) (fun y x => { x with b3t:=y }) (fun _=>rfl) (fun _ _=>rfl)
structure y1 where
 a3S:Int
 a3t:Int
 Minute:Int
 G0:Y4
def y1.f (x:y1):Int×Int×Int×Y4×Unit:=(x.a3S,x.a3t,x.Minute,x.G0,())
instance:Inhabited y1:=⟨⟨default,default,default,default⟩⟩
instance:o7 y1:=o7.via y1.f
instance:H4 y1:=H4.via y1.f rfl
def y1.l0:j9 y1 Int:=j9.via y1.f j9.fst (fun x=>x.a3S) (fun y x => { x with a3S:=y }) (fun _=>rfl) (fun _ _=>rfl)
def y1.l1:j9 y1 Int:=j9.via y1.f (j9.snd.comp j9.fst) (fun x=>x.a3t) (fun y x => { x with a3t:=y }) (fun _=>rfl) (fun _ _=>rfl)
def y1.l2:j9 y1 Int:=j9.via y1.f (j9.snd.comp (j9.snd.comp j9.fst)) (fun x=>x.Minute) (fun y x => { x with Minute:=y }) (fun _=>rfl) (fun _ _=>rfl)
def y1.l3:j9 y1 Y4:=j9.via y1.f (j9.snd.comp (j9.snd.comp (j9.snd.comp j9.fst))) (fun x=>x.G0) (fun y x => { x with G0:=y }) (fun _=>rfl) (fun _ _=>rfl)
structure b3u where
 P1:Int
 To:Int
structure b6Y where
 c5r:Bool
 c5e:UInt64
 c5f:UInt64
 c5s:UInt64
 P1:Int
 To:Int
 c5g:(List b3u)
 G0:Y4
structure m5 where
 L:(List Int)
 At:Int
def m5.f (x:m5):(List Int)×Int×Unit:=(x.L,x.At,())
instance:Inhabited m5:=⟨⟨default,default⟩⟩
instance:o7 m5:=o7.via m5.f
instance:H4 m5:=H4.via m5.f rfl
def m5.l0:j9 m5 (List Int):=j9.via m5.f j9.fst (fun x=>x.L) (fun y x => { x with L:=y }) (fun _=>rfl) (fun _ _=>rfl)
def m5.l1:j9 m5 Int:=j9.via m5.f (j9.snd.comp j9.fst) (fun x=>x.At) (fun y x => { x with At:=y }) (fun _=>rfl) (fun _ _=>rfl)
structure C3 where
 G7:Int
 Key:(I8 32 UInt8)
 l9:(List UInt8)
def C3.f (x:C3):Int×(I8 32 UInt8)×(List UInt8)×Unit:=(x.G7,x.Key,x.l9,())
instance:Inhabited C3:=⟨⟨default,default,default⟩⟩
instance:o7 C3:=o7.via C3.f
instance:H4 C3:=H4.via C3.f rfl
def C3.l0:j9 C3 Int:=j9.via C3.f j9.fst (fun x=>x.G7) (fun y x => { x with G7:=y }) (fun _=>rfl) (fun _ _=>rfl)
def C3.l1:j9 C3 (I8 32 UInt8):=j9.via C3.f (j9.snd.comp j9.fst) (fun x=>x.Key) (fun y x => { x with Key:=y }) (fun _=>rfl) (fun _ _=>rfl)
def C3.l2:j9 C3 (List UInt8):=j9.via C3.f (j9.snd.comp (j9.snd.comp j9.fst)) (fun x=>x.l9) (fun y x => { x with l9:=y }) (fun _=>rfl) (fun _ _=>rfl)
structure B0 where
 a3u:Int
 a6M:Int
def B0.f (x:B0):Int×Int×Unit:=(x.a3u,x.a6M,())
instance:Inhabited B0:=⟨⟨default,default⟩⟩
instance:o7 B0:=o7.via B0.f
instance:H4 B0:=H4.via B0.f rfl
def B0.l0:j9 B0 Int:=j9.via B0.f j9.fst (fun x=>x.a3u) (fun y x => { x with a3u:=y }) (fun _=>rfl) (fun _ _=>rfl)
def B0.l1:j9 B0 Int:=j9.via B0.f (j9.snd.comp j9.fst) (fun x=>x.a6M) (fun y x => { x with a6M:=y }) (fun _=>rfl) (fun _ _=>rfl)
structure A8 where
 a3S:Int
 a3t:Int
 Minute:Int
 G0:Y4
def A8.f (x:A8):Int×Int×Int×Y4×Unit:=(x.a3S,x.a3t,x.Minute,x.G0,())
instance:Inhabited A8:=⟨⟨default,default,default,default⟩⟩
instance:o7 A8:=o7.via A8.f
instance:H4 A8:=H4.via A8.f rfl
def A8.l0:j9 A8 Int:=j9.via A8.f j9.fst (fun x=>x.a3S) (fun y x => { x with a3S:=y }) (fun _=>rfl) (fun _ _=>rfl)
def A8.l1:j9 A8 Int:=j9.via A8.f (j9.snd.comp j9.fst) (fun x=>x.a3t) (fun y x => { x with a3t:=y }) (fun _=>rfl) (fun _ _=>rfl)
def A8.l2:j9 A8 Int:=j9.via A8.f (j9.snd.comp (j9.snd.comp j9.fst)) (fun x=>x.Minute) (fun y x => { x with Minute:=y }) (fun _=>rfl) (fun _ _=>rfl)
def A8.l3:j9 A8 Y4:=j9.via A8.f (j9.snd.comp (j9.snd.comp (j9.snd.comp j9.fst))) (fun x=>x.G0) (fun y x => { x with G0:=y }) (fun _=>rfl) (fun _ _=>rfl)
structure m7 where
 B:(List UInt8)
 Used:Int
 E:Int
def m7.f (x:m7):(List UInt8)×Int×Int×Unit:=(x.B,x.Used,x.E,())
instance:Inhabited m7:=⟨⟨default,default,default⟩⟩
instance:o7 m7:=o7.via m7.f
instance:H4 m7:=H4.via m7.f rfl
def m7.l0:j9 m7 (List UInt8):=j9.via m7.f j9.fst (fun x=>x.B) (fun y x => { x with B:=y }) (fun _=>rfl) (fun _ _=>rfl)
def m7.l1:j9 m7 Int:=j9.via m7.f (j9.snd.comp j9.fst) (fun x=>x.Used) (fun y x => { x with Used:=y }) (fun _=>rfl) (fun _ _=>rfl)
def m7.l2:j9 m7 Int:=j9.via m7.f (j9.snd.comp (j9.snd.comp j9.fst)) (fun x=>x.E) (fun y x => { x with E:=y }) (fun _=>rfl) (fun _ _=>rfl)
structure O0 where
 H:(I8 8 UInt32)
 Rest:(List UInt8)
 Len:Int
def O0.f (x:O0):(I8 8 UInt32)×(List UInt8)×Int×Unit:=(x.H,x.Rest,x.Len,())
instance:o7 O0:=o7.via O0.f
end Go.Mac
namespace Go.Ab
open Go.Fl Go.RowKit
open o7 (rep)
def Clo (P:Program) {ι:Type} (ags:ι→List AV) (r:ι→AV) (I:Im) (u:Value):Prop :=
 ∃ f fi ca,u = .func (.func f) fi ca∧∀ J,Le I J→∀ i vs,S6 J (ags i) vs→Fun P f (fi++vs.toArray++ca) J (fun v K=>E1 K (r i) v)
theorem Clo.mono {P:Program} {ι:Type} {ags:ι→List AV} {r:ι→AV} {I J:Im} {u:Value} (hle:Le I J) (h:Clo P ags r I u):Clo P ags r J u:=by
 obtain⟨f,fi,ca,h1,h2⟩:=h
 exact⟨f,fi,ca,h1,fun K hk=>h2 K (hle.trans hk)⟩
def AV.clo (P:Program) {ι:Type} (ags:ι→List AV) (r:ι→AV):AV := .pr (Clo P ags r) Clo.mono
def AV.a8r (P:Program) {α β:Type} [o7 α] [o7 β] (g:α→β):AV := .clo P (fun x:α => [.v x]) (fun x => .v (g x))
theorem b1D {P : Program} {f : FuncId} {fi ca : Array Value} (ok : a6x P f) {a : Act} {w : World} {o : Oper} {F : Operand} {args : Array Operand} {tys : Array TypeId} (ho : o.op = .call ⟨.value F, args, tys⟩)
    (hF:a.eval F = .func (.func f) fi ca) {vs:List Value} (hv:args.toList.map a.eval=vs):(execOp a.eval o).run P w = .ok (.enter f (fi++vs.toArray++ca)) w:=by
  obtain⟨fn,h1,h2,h3⟩:=ok.ok
  subst hv
  have hargs:args.map a.eval=(args.toList.map a.eval).toArray:=by cases args;simp
  have h2':¬fn.name = "runtime.NumGoroutine" := by simpa using h2
  have h3':fn.body≠none:=by intro e;simp [e] at h3
  simp [execOp,ho,resolve,Deferred.ofValue,hF,invoke,callFunc,program,Sem.run,h1,h2',h3',←hargs]
theorem OpX.c1l {P : Program} {N : Nat} {ρ : Env} {I : Im} {L : Lh} {f : FuncId} {fi ca : Array Value} {d : Option Nat} {F : Operand} {args : Array Operand} {tys : Array TypeId} {ty : TypeId} {ps : String} {af : Array Edge} {g : Option (Nat × Bool)} {vs : List Value}
    {post:Value→Im→Prop} {K:Value→Im→Lh→Prop} (hF:ev ρ F=some (.func (.func f) fi ca)) (hv:evL ρ args.toList=some vs) (h:Fun P f (fi++vs.toArray++ca) I post)
    (k:∀ v J,Le I J→post v J→K v J []):OpX P N ⟨d,.call ⟨.value F,args,tys⟩,ty,ps,af,g⟩ ρ I L K:=fun a w ha hm=>by
  rw [b1D h.ok rfl (ha.ev hF) (ha.evL hv)]
  refine(h.run w hm.drop).mono ?_
  rintro e w' ⟨v,J,rfl,hc,hle,hn,hm',hp⟩
  refine⟨v,rfl,J,[],hc,hle,hn,?_,by simp,k v J hle hp⟩
  have hlt:∀ p∈L.flatten,p.1 < w.heap.size:=fun p hp=>y7 (hm.loc p hp)
  refine⟨hm'.im,fun p hp=>(hc.block p.1 (hlt p hp) (by simp)).trans (hm.loc p hp),fun p hp => ?_,hm.nodup⟩
  cases hj:J p.1 with
  | none=>rfl
  | some o=>exact absurd (hn p.1 (hm.sep p hp) (by simp [hj])) (by have:=hlt p hp;omega)
section clo
variable {P:Program} {C:Ctx} {N:Nat} {σ:x7} {H:j7} {G:Gl} {f:FuncId} {d:Option Nat} {args:Array Operand} {tys:Array TypeId} {ty:TypeId} {ps:String} {af:Array Edge} {g:Option (Nat×Bool)} {K:AV→Prop}
theorem j6.b5d {ι : Type} {ags : ι → List AV} {r : ι → AV} {t : Nat} (i : ι) (ht : E9 σ t = some (.clo P ags r)) (hv : a19 C σ H args.toList (ags i)) (k : K (r i)) :
    j6 P N C ⟨d,.call ⟨.value (.tmp t),args,tys⟩,ty,ps,af,g⟩ σ H K:=fun ρ I L hs=>by
  obtain⟨u,h1,f,fi,ca,rfl,h2⟩:=hs.env t _ ht
  obtain⟨vs,h3,h4⟩:=hv.get hs
  exact OpX.c1l (F := .tmp t) h1 h3 (h2 I (Le.refl I) i vs h4) fun v J hle h5=>⟨rfl,r i,h5,k⟩
theorem j6.a4y {α β : Type} [o7 α] [o7 β] {g1 : α → β} {x : α} {t : Nat} {a : Operand} (ht : E9 σ t = some (.a8r P g1)) (ha : E6 C σ H a (.v x)) (k : K (.v (g1 x))) :
    j6 P N C ⟨d,.call ⟨.value (.tmp t),#[a],tys⟩,ty,ps,af,g⟩ σ H K := .b5d (ags:=fun x:α => [.v x]) (r:=fun x => .v (g1 x)) x ht (.cons ha .nil) k
theorem S6.append {I:Im}:∀ {ags bs:List AV} {vs ws:List Value},S6 I ags vs→S6 I bs ws→S6 I (ags++bs) (vs++ws)
 | [],_,_,_,h,k=>by simp [S6] at h;subst h;simpa using k
 | a::ags,_,_,_,h,k=>by obtain⟨v,r,rfl,h2,h3⟩:=h;exact⟨v,r++_,rfl,h2,h3.append k⟩
theorem j6.c1m (hG : G.p C.I0) {ι : Type} {ags : ι → List AV} {r : ι → AV} {caps : List AV} (h : ∀ i, p4 G P f (ags i ++ caps) (fun x => x = r i)) (hv : a19 C σ H args.toList caps) (k : K (.clo P ags r)) :
    j6 P N C ⟨d,.makeFunc (.func f) #[] args,ty,ps,af,g⟩ σ H K := .C0 (.clo P ags r) (fun ρ I L hs=>fun a w ha hm=>by
      obtain⟨vs,h1,h2⟩:=hv.get hs
      have e:=ha.evL h1
      have hargs:args.map a.eval=vs.toArray:=by rw [←e];cases args;simp
      refine⟨.func (.func f) #[] vs.toArray,⟨f,#[],vs.toArray,rfl,fun J hle i ws hw => ?_⟩,by simp [execOp,Instr.makeFunc,hargs]⟩
      have h3:=h i J (ws++vs) (G.mono (hs.U6.trans hle) hG) (hw.append (h2.mono hle))
      simp only [List.append_toArray]
      exact h3.mono fun v K _ ⟨x,h4,h5⟩=>h5▸h4) k
theorem j6.b0n (hG : G.p C.I0) {α β : Type} [o7 α] [o7 β] {g1 : α → β} {caps : List AV} (h : ∀ x, p4 G P f (.v x :: caps) (fun r => r = .v (g1 x))) (hv : a19 C σ H args.toList caps) (k : K (.a8r P g1)) :
    j6 P N C ⟨d,.makeFunc (.func f) #[] args,ty,ps,af,g⟩ σ H K := .c1m hG (ags:=fun x:α => [.v x]) (r:=fun x => .v (g1 x)) h hv k
theorem E6.c4z (hG:G.p C.I0) {ι:Type} {ags:ι→List AV} {r:ι→AV} (h:∀ i,p4 G P f (ags i) (fun x=>x=r i)):E6 C σ H (.func f) (.clo P ags r):=fun ρ I L hs =>
 ⟨_,rfl,f,#[],#[],rfl,fun J hle i ws hw=>by
  simp only [Array.empty_append,Array.append_empty]
  exact(h i J ws (G.mono (hs.U6.trans hle) hG) hw).mono fun v K _ ⟨x,h4,h5⟩=>h5▸h4⟩
end clo
end Go.Ab
namespace Go.Ab
open Go.Fl Go.RowKit
open o7 (rep)
section rules
variable {P:Program} {C:Ctx} {N:Nat} {σ:x7} {H:j7} {d:Option Nat} {ty:TypeId} {ps:String} {af:Array Edge} {g:Option (Nat×Bool)} {K:AV→Prop} {KH:AV→j7→Prop} {x y z:Operand} {T T2 E S D U:TypeId}
theorem a7i:∀ (l:List UInt8) (s:ByteArray),(l.map (fun c=>(c.toNat:Int))).foldl (fun r n=>r.push (UInt8.ofNat n.toNat)) s=⟨s.data++l.toArray⟩
 | [],s=>by simp
 | c::l,s=>by
  rw [List.map_cons,List.foldl_cons,a7i l]
  simp [ByteArray.push]
theorem j6.b1E {l : List UInt8} (hS : P.underlying S = some (.slice E)) (hE : P.underlying E = some (.int .u8)) (hD : P.underlying D = some .string) (hx : E6 C σ H x (.v l)) (k : K (.v (Y4.mk l))) :
    j6 P N C ⟨d,.convert S D x,ty,ps,af,g⟩ σ H K :=
  .vk k (fun ρ I L hs => .mk ⟨[.string ⟨l.toArray⟩], ⟨⟨_, rfl, by simp⟩, by
      obtain⟨u,h1,xs,⟨a,c,rfl,h2,h3,h4,_⟩,_⟩:=hx.sl hs
      unfold maxLen at h4;show l.length≤_;omega⟩,rfl⟩ fun ac w ha hm=>by
    obtain⟨u,h1,xs,hsl,hl⟩:=hx.sl hs
    obtain rfl:=a2N.1 hl
    obtain⟨a,c,rfl,h2,h3,h4,h5,h6⟩:=hsl
    have hrun:(convert S D (.slice a l.length c)).run P w = .ok (.string ⟨l.toArray⟩) w:=by
      rw [run_convert_bytes_string w S D E a l.length c hS hE hD]
      cases a with
      | none =>
        have hc:=h5 rfl
        have:l = []:=List.eq_nil_of_length_eq_zero (by omega)
        subst this
        simp [Conv.bytesToString];rfl
      | some ad =>
        have hload:(loadCells ad l.length).run P w = .ok ((l.map (fun c=>(c.toNat:Int))).map (Value.int .u8)).toArray w:=by
          have h7:=run_loadCells_list (P:=P) w ad (x5 l) (fun j v hj=>by
            have hne:x5 l ≠ []:=by intro e;simp [e] at hj
            obtain⟨b,o,hab,hcl⟩:=h6 hne
            cases hab
            have:=hcl.cell hm hj
            have hplain:(⟨b,o,none⟩:Addr).add j=⟨b,o+j,none⟩:=by unfold Addr.add;split<;>simp_all
            rw [hplain];exact this)
          have e1:(x5 l).length=l.length:=by simp [x5]
          have e2:(l.map (fun c=>(c.toNat:Int))).map (Value.int .u8)=x5 l:=by simp [x5,Fl.u8]
          rw [e1] at h7
          rw [e2];exact h7
        rw [run_bytesToString w ad l.length c _ hload,a7i]
        simp [ByteArray.empty,ByteArray.emptyWithCapacity]
        rfl
    simp [execOp,ha.ev h1,hrun,asV,o7.agg])
theorem j6.b3v {α : Type} {r : o7 α} {l : List α} (hT : P.underlying T = some (.slice E)) (hx : E6 C σ H x (.v l)) (k : ∀ c : Bool, (c = true → l = []) → K (.v c)) :
    j6 P N C ⟨d,.binOp .eql T x (.const (.slice none 0 0)) T2,ty,ps,af,g⟩ σ H K:=fun ρ I L hs=>by
  obtain⟨u,h1,xs,⟨a,c,rfl,h2,h3,h4,h5,h6⟩,hl⟩:=hx.sl hs
  refine .C0 (H7.b4C hT h1 a8 ⟨a8,.v a.isNone,⟨_,a8,a8⟩,k _ fun e => ?_⟩)
  have:=h5 (by simpa using e)
  exact List.eq_nil_of_length_eq_zero (by omega)
def S0 {n:Nat} {α:Type} (a:I8 n α) (m:List α):I8 n α:=⟨m.take n++a.l.drop m.length,by simp;omega⟩
theorem A0.b7R {α β : Type} {n : Nat} {r : o7 α} {s : o7 β} {i0 : Inhabited β} {w : Value} {l : j9 α (I8 n β)} {a : α} {m : List β} {bb : Bool} {F : Bool × D6 → j7} (tE : G2 P E β) (hT : P.underlying T = some (.slice E)) (hx : E6 C σ H x (.sv w l))
    (hH:u4 H (bb,.ob w a) F) (hy:a81 P C σ H y m) (hb:m.length≤9223372036854775807) (k:KH (.v ((min m.length n:Nat):Int)) (F (bb,.ob w (l.set (S0 (l.get a) m) a)))) :
    A0 P C N ⟨d,.call ⟨.builtin .copy,#[x,y],#[T,U]⟩,ty,ps,af,g⟩ σ H KH:=fun ρ I L hs=>by
  obtain⟨u,h1,b,h0,rfl⟩:=hx ρ I L hs
  obtain⟨v,news,h2,h3,h4⟩:=hy ρ I L hs
  obtain⟨j,X,h5,h6,h7⟩:=hH.get hs.heap
  obtain⟨b2,T',cs,rfl,rfl,h9⟩:=h6.1
  cases h0
  intro ac w0 ha hst
  have hmem:=hst.mem
  generalize hmn:min m.length n=q at k
  have hsz:=tE.size.run w0
  have hfc:=h3.cells w0 hmem q (by omega)
  have hl4:=h4.len
  have hget:=l.a5y h9
  have hfits:=l.fits
  have hfits2:l.off+n*o7.size β≤o7.size α:=hfits
  have hcl:=o7.len h9
  have hsegl:(H9 cs l.off (n*o7.size β)).length=n*o7.size β:=by
    simp only [H9,List.length_take,List.length_drop];omega
  have hal:(l.get a).l.length=n:=(l.get a).h
  have hlist:m.take n=m.take q:=by rw [←hmn,List.take_eq_take_iff];omega
  have hdrop:(l.get a).l.drop m.length=(l.get a).l.drop q:=by
    by_cases h:m.length≤n
    · rw [←hmn,Nat.min_eq_left h]
    · rw [List.drop_eq_nil_of_le (by omega),List.drop_eq_nil_of_le (by omega)]
  have hnl:(news.take (q*o7.size β)).length=q*o7.size β:=by
    rw [List.length_take,hl4];exact Nat.min_eq_left (Nat.mul_le_mul_right _ (by omega))
  have hqn:q*o7.size β≤n*o7.size β:=Nat.mul_le_mul_right _ (by omega)
  have hrep:K0 I (m.take n++(l.get a).l.drop m.length) (C7 (H9 cs l.off (n*o7.size β)) 0 (news.take (q*o7.size β))):=by
    rw [hlist,hdrop]
    have h10:=h4.cut 0 q (by omega)
    have h11:=K0.cut (show K0 I (l.get a).l _ from hget) q n (by omega)
    simp only [List.drop_zero,Nat.zero_mul] at h10 h11
    rw [List.take_of_length_le (show(l.get a).l.length≤n by omega)] at h11
    rw [List.take_of_length_le (show(H9 cs l.off (o7.size (I8 n β))).length≤n*o7.size β from Nat.le_of_eq hsegl)] at h11
    simp only [C7,List.take_zero,List.nil_append,Nat.zero_add]
    rw [hnl]
    exact h10.append h11
  have hbh:=hst.mem.loc (b,row cs T') (D2 h5 (by simp))
  have hall:∀ u∈news.take (q*o7.size β),u.oneCell'=true:=fun u hu=>List.all_eq_true.1 h4.flat u (List.mem_of_mem_take hu)
  have hfit:l.off+(news.take (q*o7.size β)).length≤cs.length:=by rw [hnl,hcl];omega
  have hst2:=T1 P b l.off T' (0,0) (news.take (q*o7.size β)) 0 cs.toArray w0 hbh (by simpa using hfit) hall (fun j hj=>by omega)
  have hr:(execOp ac.eval ⟨d,.call ⟨.builtin .copy,#[x,y],#[T,U]⟩,ty,ps,af,g⟩).run P w0 = .ok (.value (goInt q)) (w0.setRow b (C7 cs l.off (news.take (q*o7.size β))).toArray):=by
    simp [execOp,resolve,invoke,builtin,Builtin.copy_,run_underlying hT,h3.len w0,hsz,ha.ev h1,ha.ev h2,hmn,hfc]
    simp only [Nat.add_zero] at hst2
    simp [hst2,C7]
  rw [hr]
  have hset:rep I (l.set (S0 (l.get a) m) a) (C7 cs l.off (news.take (q*o7.size β))):=by
    have h12:=l.a6K (y:=S0 (l.get a) m) h9 (show rep I (S0 (l.get a) m) _ from hrep)
    rw [a3c (by rw [hnl,Nat.zero_add];exact hqn) (by rw [hcl];exact hfits2)] at h12
    exact h12
  refine⟨I,_,a7Q hst h5 _,Le.refl I,.v ((q:Nat):Int),_,⟨_,⟨rfl,by omega,by omega⟩,rfl⟩,h7 I (bb,.ob (ptr b 0) (l.set (S0 (l.get a) m) a)) [(b,row _ T')] (Le.refl I) ⟨⟨b,T',_,rfl,rfl,hset⟩,fun hbb p hp => ?_⟩,k⟩
  have:=h6.2 hbb _ (List.mem_singleton.2 rfl)
  simp only [List.mem_singleton] at hp
  subst hp;exact this
end rules
end Go.Ab
namespace Go.Ab
open Go.Fl Go.RowKit
open o7 (rep)
structure b6e (P : Program) (C : Ctx) (N n : Nat) (l : List Oper) (ci : List Nat) (σ0 : x7) (accP : List (Nat × AV)) (Inv : Array Bool → List (Nat × AV) → j7 → Prop) (ρ0 : Env) (I : Im)
    (listed:Array Bool) (cacc:List (Nat×AV)) (H:j7) (J:Im) (L:Lh) (vs:Nat→Value) (a:Act) (w:World):Prop where
  head:HeadInv .any l.toArray n listed
  le:Le I J
  U6:Le C.I0 J
  st:St C J L w
  heap:U0 C.w0.heap.size J H L
  pl:Inv listed cacc H
  keys:∀ j r,o9 cacc j=some r→j∈ci
  fresh:∀ j r,o9 cacc j=some r→listed.getD j false=true
  prom:∀ j r r0,o9 cacc j=some r→o9 accP j=some r0→r=r0
  b7O:∀ j,j∈ci→listed.getD j false=true→∃ r,o9 cacc j=some r
  val:∀ j,j < n→listed.getD j false=true→∃ r,o9 (cacc++accP) j=some r∧E1 J r (vs j)
  defers:a.defers = []
  size:a.tmps.size=N
  a4l:∀ j d,j < n→listed.getD j false=true→(l.toArray[j]?).bind (·.dst)=some d→a.tmps[d]?=some (vs j)
  a6A:∀ t v,Fl.look ρ0 t=some v→(∀ j,j < n→listed.getD j false=true→(l.toArray[j]?).bind (·.dst)≠some t)→a.tmps[t]?=some v
section
variable {P:Program} {C:Ctx} {N n:Nat} {l:List Oper} {ci:List Nat} {ss:List (List (Nat×Nat))} {σ0:x7} {ι:Type 1} {HT:Nat→ι→j7} {accP:List (Nat×AV)} {Inv:Array Bool→List (Nat×AV)→j7→Prop} {ρ0:Env} {I:Im} {L0:Lh} {H0:j7}
theorem b6e.step {listed : Array Bool} {cacc : List (Nat × AV)} {H : j7} {J : Im} {L : Lh} {vs : Nat → Value} {a : Act} {w : World} {Q' : Exit → Act → World → Prop}
    (h0:Z2 C I L0 σ0 H0 ρ0) (hN:K2 N l=true) (hok:∀ i,i < n→a1n l.toArray n ss i=true) (hdst:a6c l.toArray n=true)
    (hfam:∀ listed cacc H i,Inv listed cacc H→i < n→i∉ci→listed.getD i false=false→∃ q,H=HT i q) (hpure:∀ listed cacc H i,Inv listed cacc H→i∉ci→Inv (listed.setIfInBounds i true) cacc H)
    (hstep:∀ listed cacc H i o s,Inv listed cacc H→i∈ci→l[i]?=some o→ss[i]?=some s→listed.getD i false=false→(∀ j,Region.waitsFor .any l.toArray i j=true→listed.getD j false=true)→i < listed.size →
      o.guard=none∧A0 P C N o (E3 σ0 (cacc++accP) s (C6 o)) H (fun r H'=>(∀ r0,o9 accP i=some r0→r=r0)∧Inv (listed.setIfInBounds i true) ((i,r)::cacc) H'))
    (hp:∀ i o s,i < n→i∉ci→l[i]?=some o→ss[i]?=some s→∃ r,o9 accP i=some r∧a2v P N C σ0 (HT i) accP o s r)
    (inv:b6e P C N n l ci σ0 accP Inv ρ0 I listed cacc H J L vs a w) {i:Nat} (hr:i∈Region.ready .any l.toArray listed) (hin:i < n)
    {K:Act→World→Prop} (hK:∀ cacc H J L vs a' w,b6e P C N n l ci σ0 accP Inv ρ0 I (listed.setIfInBounds i true) cacc H J L vs a' w→K a' w) :
    wpOpIn C.fen 0 P l.toArray Q' i K a w:=by
  obtain⟨hun,o,ho,hall⟩:=mem_ready.1 hr
  have hol:l[i]?=some o:=by simpa using ho
  have hok':=hok i hin
  unfold a1n at hok'
  simp only [ho] at hok'
  cases hs:ss[i]? with
  | none=>simp [hs] at hok'
  | some s =>
  simp only [hs,Bool.and_eq_true] at hok'
  obtain⟨hreads,hguard⟩:=hok'
  have hdN:∀ d,o.dst=some d→d < N:=fun d hod=>by
    have:=List.all_eq_true.1 hN o (List.mem_of_getElem? hol)
    rw [hod] at this
    simpa [Nat.blt_eq] using this
  have hlisted:∀ j,Region.waitsFor .any l.toArray i j=true→listed.getD j false=true:=fun j hw=>by
    obtain⟨e,he,hb,heq⟩:=X8 ho hw
    exact heq▸hall e he hb
  have hilt:i < listed.size:=by
    rcases Nat.lt_or_ge i listed.size with h'|h'
    · exact h'
    · simp [Array.getElem?_eq_none h'] at hun
  have hiun:listed.getD i false=false:=getD_both hun
  have hnot:∀ j,Region.waitsFor .any l.toArray j i=true→listed.getD j false=true→False:=fun j hw hl=>by
    obtain⟨oj,hoj,e,he,hb,heq⟩:=Region.waitsFor_spec hw
    have:=inv.head.closed j oj hoj hl e he hb
    rw [heq,hiun] at this
    cases this
  let g:Nat→Option Value:=fun t=>match J8 s t with|some j=>some (vs j)|none=>Fl.look ρ0 t
  have hsrcl:∀ t∈C6 o,∀ j,J8 s t=some j→j < n∧listed.getD j false=true∧(l.toArray[j]?).bind (·.dst)=some t:=fun t ht j hj=>by
    have hro:=List.all_eq_true.1 hreads t ht
    unfold a0V at hro
    simp only [hj,Bool.and_eq_true,beq_iff_eq] at hro
    exact⟨by simpa [Nat.blt_eq] using hro.1.1,hlisted j hro.2,hro.1.2⟩
  have hfits:Fits N (a0W g (C6 o)) a:=by
    refine⟨inv.defers,inv.size,fun t v hv => ?_⟩
    obtain⟨hmem,hg⟩:=a1q hv
    cases hsrc:J8 s t with
    | some j =>
      obtain⟨h1,h2,h3⟩:=hsrcl t hmem j hsrc
      have hgv:vs j=v:=by simpa [g,hsrc] using hg
      rw [←hgv]
      exact inv.a4l j t h1 h2 h3
    | none =>
      have hro:=List.all_eq_true.1 hreads t hmem
      unfold a0V at hro
      simp only [hsrc] at hro
      refine inv.a6A t v (by simpa [g,hsrc] using hg) fun j hj hl hdj => ?_
      have h1:=List.all_eq_true.1 hro j (List.mem_range.2 hj)
      simp only [hdj,beq_self_eq_true,Bool.not_true,Bool.false_or,Bool.or_eq_true,beq_iff_eq] at h1
      rcases h1 with h1|h1
      · subst h1;rw [hiun] at hl;cases hl
      · exact hnot j h1 hl
  have henv:∀ t b,E9 (E3 σ0 (cacc++accP) s (C6 o)) t=some b→∃ u,Fl.look (a0W g (C6 o)) t=some u∧E1 J b u:=fun t b hb=>by
    obtain⟨hmem,hb2⟩:=a1u hb
    cases hsrc:J8 s t with
    | some j =>
      simp only [hsrc] at hb2
      obtain⟨h1,h2,_⟩:=hsrcl t hmem j hsrc
      obtain⟨r,h3,h4⟩:=inv.val j h1 h2
      rw [hb2] at h3
      cases h3
      exact⟨vs j,by rw [O2 hmem];simp [g,hsrc],h4⟩
    | none =>
      simp only [hsrc] at hb2
      obtain⟨u,h1,h2⟩:=h0.env t b hb2
      exact⟨u,by rw [O2 hmem];simpa [g,hsrc] using h1,h2.mono inv.le⟩
  have hR:Z2 C J L (E3 σ0 (cacc++accP) s (C6 o)) H (a0W g (C6 o)):=⟨henv,inv.heap,inv.U6⟩
  have hput:∀ j,j≠i→(listed.setIfInBounds i true).getD j false=listed.getD j false:=fun j hj=>getD_set_ne false (Ne.symm hj)
  have hdne:∀ j,j < n→j≠i→∀ d',(l.toArray[j]?).bind (·.dst)=some d'→o.dst≠some d':=by
    intro j hj hji d' hd' hod
    have hdi:(l.toArray[i]?).bind (·.dst)=some d':=by rw [ho];exact hod
    rcases Nat.lt_or_gt_of_ne hji with h1|h1
    · have:=List.all_eq_true.1 (List.all_eq_true.1 hdst i (List.mem_range.2 hin)) j (List.mem_range.2 h1)
      rw [hdi,hd'] at this
      simp at this
    · have:=List.all_eq_true.1 (List.all_eq_true.1 hdst j (List.mem_range.2 hj)) i (List.mem_range.2 h1)
      rw [hdi,hd'] at this
      simp at this
  -- what a finished operation does
  have fin : ∀ v J' L' H' cacc' w' r, Le J J' → St C J' L' w' → U0 C.w0.heap.size J' H' L' → E1 J' r v → o9 (cacc' ++ accP) i = some r → (∀ j, j ≠ i → o9 (cacc' ++ accP) j = o9 (cacc ++ accP) j) →
      Inv (listed.setIfInBounds i true) cacc' H'→(∀ j r,o9 cacc' j=some r→j∈ci)→(∀ j r r0,o9 cacc' j=some r→o9 accP j=some r0→r=r0)→(∀ j,j∈ci→(listed.setIfInBounds i true).getD j false=true→∃ r,o9 cacc' j=some r)→(∀ j r,o9 cacc' j=some r→(listed.setIfInBounds i true).getD j false=true)→K (a.put o.dst v) w':=by
    intro v J' L' H' cacc' w' r hle hst hH hv hri hrj hpl hkeys hprom hproL hfresh
    refine hK cacc' H' J' L' (fun j=>if j=i then v else vs j) _ _ ⟨inv.head.set hr hin,inv.le.trans hle,inv.U6.trans hle,hst,hH,hpl,hkeys,hfresh,hprom,hproL,fun j hj hl => ?_,?_,?_,fun j d' hj hl hd' => ?_,fun t u hu hno => ?_⟩
    · by_cases hji:j=i
      · subst hji
        exact⟨r,hri,by simpa using hv⟩
      · rw [hput j hji] at hl
        obtain⟨q,h1,h2⟩:=inv.val j hj hl
        exact⟨q,(hrj j hji).trans h1,by simpa [hji] using h2.mono hle⟩
    · rw [put_defers];exact inv.defers
    · rw [b1A];exact inv.size
    · by_cases hji:j=i
      · subst hji
        have hod:o.dst=some d':=by rw [ho] at hd';exact hd'
        rw [hod,put_eq _ _ (by rw [inv.size];exact hdN d' hod),if_pos rfl]
      · rw [hput j hji] at hl
        rw [b0j _ _ (hdne j hj hji d' hd'),if_neg hji]
        exact inv.a4l j d' hj hl hd'
    · rw [b0j _ _ (fun hod=>hno i hin (G3 hilt) (by rw [ho];exact hod))]
      refine inv.a6A t u hu fun j hj hl=>hno j hj ?_
      by_cases hji:j=i
      · subst hji;rw [hiun] at hl;cases hl
      · rw [hput j hji];exact hl
  -- the guard
  have hgrd:∀ gi want,o.guard=some (gi,want)→∀ b,o9 accP gi=some (.v b)→yielded l.toArray a.tmps gi=some b:=fun gi want hg b hb=>by
    rw [hg] at hguard
    simp only [Bool.and_eq_true] at hguard
    have hgn:gi < n:=by simpa [Nat.blt_eq] using hguard.1.1
    have hgl:=hlisted gi hguard.1.2
    obtain⟨r,h1,h2⟩:=inv.val gi hgn hgl
    have hr2:r = .v b:=by
      rw [B3] at h1
      cases hc:o9 cacc gi with
      | some q =>
        rw [hc] at h1
        cases h1
        exact inv.prom gi _ _ hc hb
      | none =>
        rw [hc] at h1
        simp only at h1
        rw [hb] at h1
        exact(Option.some.inj h1).symm
    subst hr2
    obtain⟨cs,rfl,hvs⟩:=h2
    obtain⟨dg,hdg0⟩:=Option.isSome_iff_exists.1 hguard.2
    obtain⟨og,hog,hdg⟩:=Option.bind_eq_some_iff.1 hdg0
    have htg:=inv.a4l gi dg hgn hgl (by rw [hog];exact hdg)
    rw [hvs] at htg
    unfold yielded
    rw [hog]
    simp only [Option.bind_some,hdg,htg]
    rfl
  unfold wpOpIn
  simp only [ho]
  by_cases hic:i∈ci
  · obtain⟨hgn,hop⟩:=hstep listed cacc H i o s inv.pl hic hol hs hiun hlisted hilt
    have hcn:o9 cacc i=none:=by
      cases hc:o9 cacc i with
      | none=>rfl
      | some q=>exact absurd (inv.fresh i q hc) (by rw [hiun];decide)
    have hself:∀ r,o9 (((i,r)::cacc)++accP) i=some r:=fun r=>by rw [B3,y2,if_pos rfl]
    have hoth:∀ r j,j≠i→o9 (((i,r)::cacc)++accP) j=o9 (cacc++accP) j:=fun r j hj=>by rw [B3,B3,y2,if_neg (Ne.symm hj)]
    have hkeys:∀ r,∀ j q,o9 ((i,r)::cacc) j=some q→j∈ci:=fun r j q hq=>by
      rw [y2] at hq
      by_cases e:i=j
      · subst e;exact hic
      · rw [if_neg e] at hq;exact inv.keys j q hq
    have hfresh:∀ r,∀ j q,o9 ((i,r)::cacc) j=some q→(listed.setIfInBounds i true).getD j false=true:=fun r j q hq=>by
      rw [y2] at hq
      by_cases e:i=j
      · subst e;exact G3 hilt
      · rw [if_neg e] at hq;rw [hput j (Ne.symm e)];exact inv.fresh j q hq
    have hprom:∀ r,(∀ r0,o9 accP i=some r0→r=r0)→∀ j q r0,o9 ((i,r)::cacc) j=some q→o9 accP j=some r0→q=r0:=fun r hr0 j q r0 hq h0=>by
      rw [y2] at hq
      by_cases e:i=j
      · subst e;rw [if_pos rfl] at hq;cases hq;exact hr0 r0 h0
      · rw [if_neg e] at hq;exact inv.prom j q r0 hq h0
    have hproL:∀ r,∀ j,j∈ci→(listed.setIfInBounds i true).getD j false=true→∃ q,o9 ((i,r)::cacc) j=some q:=fun r j hj hl=>by
      by_cases e:i=j
      · subst e;exact⟨r,by rw [y2,if_pos rfl]⟩
      · rw [hput j (Ne.symm e)] at hl
        obtain⟨q,hq⟩:=inv.b7O j hj hl
        exact⟨q,by rw [y2,if_neg e];exact hq⟩
    rw [if_pos (by simp [Region.wanted,hgn])]
    refine Yld.wp ((hop _ J L hR a w hfits inv.st).mono ?_)
    rintro v w' ⟨J',L',hst,hle,r,H',h1,h2,h3,h4⟩
    exact fin v J' L' H' ((i,r)::cacc) w' r hle hst h2 h1 (hself r) (hoth r) h4 (hkeys r) (hprom r h3) (hproL r) (hfresh r)
  · obtain⟨r,hri,hd⟩:=hp i o s hin hic hol hs
    have hcn:∀ j,j∉ci→o9 cacc j=none:=fun j hj=>by
      cases hc:o9 cacc j with
      | none=>rfl
      | some q=>exact absurd (inv.keys j q hc) hj
    have hself:o9 (cacc++accP) i=some r:=by rw [B3,hcn i hic];exact hri
    have hRq:Z2 C J L (E3 σ0 accP s (C6 o)) H (a0W g (C6 o)):=hR.sub fun t b hb=>by
      obtain⟨hmem,hb2⟩:=a1u hb
      refine a4W ?_ hmem
      cases hsrc:J8 s t with
      | none=>simp only [hsrc] at hb2 ⊢;exact hb2
      | some j =>
        simp only [hsrc] at hb2 ⊢
        rw [B3]
        cases hc:o9 cacc j with
        | none=>exact hb2
        | some q=>exact congrArg some (inv.prom j q b hc hb2)
    have hproL:∀ j,j∈ci→(listed.setIfInBounds i true).getD j false=true→∃ q,o9 cacc j=some q:=fun j hj hl=>by
      have:j≠i:=by rintro rfl;exact hic hj
      rw [hput j this] at hl;exact inv.b7O j hj hl
    have hfresh:∀ j q,o9 cacc j=some q→(listed.setIfInBounds i true).getD j false=true:=fun j q hq=>by
      have:j≠i:=by rintro rfl;exact hic (inv.keys j q hq)
      rw [hput j this];exact inv.fresh j q hq
    obtain⟨Hp,hHp⟩:=hfam _ _ _ i inv.pl hin hic hiun
    have hdH:=hd Hp
    rw [←hHp] at hdH
    unfold a5g at hdH
    have run:∀ (c:AV),j6 P N C o (E3 σ0 accP s (C6 o)) H (fun r'=>r'=c)→(∀ J' u,E1 J' c u→E1 J' r u)→o.wpIn C.fen 0 P a w K Q':=fun c h hcr=>by
      refine Yld.wp ((h _ J L hRq a w hfits inv.st.mem).mono ?_)
      rintro v w' ⟨J',X,hc,hle,hn,hm,hX,rfl,r',h1,rfl⟩
      have hst:=(inv.st.step hc hle hn hm hX)
      rw [List.nil_append] at hst
      exact fin v J' L H cacc w' r hle hst (inv.heap.mono hle) (hcr _ _ h1) hself (fun j hj=>rfl) (hpure _ _ _ i inv.pl hic) inv.keys inv.prom hproL hfresh
    cases hg:o.guard with
    | none =>
      rw [hg] at hdH
      rw [if_pos (by simp [Region.wanted,hg])]
      exact run r hdH (fun _ _ h=>h)
    | some gw =>
      obtain⟨gi,want⟩:=gw
      rw [hg] at hdH
      obtain⟨b,c,hb,rfl,h2⟩:=hdH
      have hy:=hgrd gi want hg b hb
      by_cases hbw:b=want
      · rw [if_pos (by simp [Region.wanted,hg,hy,hbw])]
        exact run c (h2 hbw) (fun _ _ h _=>h)
      · have hwf:¬Region.wanted o (yielded l.toArray a.tmps)=true:=by simpa [Region.wanted,hg,hy] using hbw
        rw [if_neg hwf]
        refine⟨fun _ _=>trivial,?_⟩
        exact fin undef J L H cacc w (.opt (b == want) c) (Le.refl J) inv.st inv.heap (fun hc=>absurd (by simpa using hc) hbw) hself (fun j hj=>rfl) (hpure _ _ _ i inv.pl hic) inv.keys inv.prom hproL hfresh
theorem b5e {Q' : Exit → Act → World → Prop} (h0 : Z2 C I L0 σ0 H0 ρ0) (hN : K2 N l = true) (hback : a0c l.toArray = true) (hok : ∀ i, i < n → a1n l.toArray n ss i = true) (hdst : a6c l.toArray n = true)
    (hfam:∀ listed cacc H i,Inv listed cacc H→i < n→i∉ci→listed.getD i false=false→∃ q,H=HT i q) (hpure:∀ listed cacc H i,Inv listed cacc H→i∉ci→Inv (listed.setIfInBounds i true) cacc H)
    (hstep:∀ listed cacc H i o s,Inv listed cacc H→i∈ci→l[i]?=some o→ss[i]?=some s→listed.getD i false=false→(∀ j,Region.waitsFor .any l.toArray i j=true→listed.getD j false=true)→i < listed.size →
      o.guard=none∧A0 P C N o (E3 σ0 (cacc++accP) s (C6 o)) H (fun r H'=>(∀ r0,o9 accP i=some r0→r=r0)∧Inv (listed.setIfInBounds i true) ((i,r)::cacc) H'))
    (hp:∀ i o s,i < n→i∉ci→l[i]?=some o→ss[i]?=some s→∃ r,o9 accP i=some r∧a2v P N C σ0 (HT i) accP o s r)
    (hle:n≤l.length) (htail:n=l.length∨(Region.sinkB .any l.toArray n=true∧Region.chainB .any l.toArray n=true)) (hseq:Region.seqB .any l.toArray (l.length - n) n (K9 l.length n)=true)
    (hfin:∀ listed cacc H J L vs a w,b6e P C N n l ci σ0 accP Inv ρ0 I listed cacc H J L vs a w→(∀ j,j < n→listed.getD j false=true)→wpListIn C.fen 0 P l.toArray Q' (l.drop n) a w) :
    ∀ (m:Nat) (listed:Array Bool) cacc H J L vs a w,b6e P C N n l ci σ0 accP Inv ρ0 I listed cacc H J L vs a w→unl listed n=m→wpAnyIn C.fen 0 P .any l.toArray Q' (m+(l.length - n)) listed a w
  | 0,listed,cacc,H,J,L,vs,a,w,inv,hm=>by
    have hsz:listed.size=l.length:=by simpa using inv.head.size
    have hall:∀ j,j < n→listed.getD j false=true:=fun j hj=>a3K (by omega) (a1O hm j hj)
    have heq:listed=K9 l.length n:=by
      refine Array.ext (by simp [K9,hsz]) fun j h1 h2 => ?_
      have e1:(K9 l.length n)[j]'h2=Nat.blt j n:=by simp [K9]
      rw [e1]
      by_cases hj:j < n
      · have:=hall j hj
        simp [h1] at this
        rw [this]
        exact(Nat.blt_eq▸hj:Nat.blt j n=true).symm
      · have:=inv.head.tail j (by omega) (by simp;omega)
        simp [h1] at this
        rw [this]
        cases hb:Nat.blt j n
        · rfl
        · exact absurd (Nat.blt_eq▸hb:j < n) hj
    have hw:=hfin listed cacc H J L vs a w inv hall
    have h2:=Y7 (md := .any) (Q':=Q') (l.drop n) n listed a w (fun j=>by simp [List.getElem?_drop]) (by rw [heq];simpa using hseq) hw
    simpa using h2
  | m+1,listed,cacc,H,J,L,vs,a,w,inv,hm=>by
    have hsz:listed.size=l.length:=by simpa using inv.head.size
    obtain⟨i,hin,hi,hlt⟩:=a5Z hm
    have hr:=V1 hback (by simpa using inv.head.size) hi hlt
    rw [show m+1+(l.length - n)=(m+(l.length - n))+1 by omega]
    refine⟨fun h0=>(by rw [h0] at hr;cases hr),fun j hj => ?_⟩
    have hjn:j < n:=by
      rcases Nat.lt_or_ge j n with h|h
      · exact h
      · rcases htail with ht|⟨hs,hc⟩
        · obtain⟨_,o,ho,_⟩:=mem_ready.1 hj
          have:=(Array.getElem?_eq_some_iff.1 ho).1
          simp at this
          omega
        · have hnl:n < l.toArray.size:=by
            obtain⟨_,o,ho,_⟩:=mem_ready.1 hj
            have:=(Array.getElem?_eq_some_iff.1 ho).1
            omega
          exact absurd hj (tail_waits hs hc hnl inv.head _ i rfl hin hi j h)
    refine inv.step h0 hN hok hdst hfam hpure hstep hp hj hjn fun cacc' H' J' L' vs' a' w' inv' => ?_
    refine b5e h0 hN hback hok hdst hfam hpure hstep hp hle htail hseq hfin m _ cacc' H' J' L' vs' a' w' inv' ?_
    have hu:=(mem_ready.1 hj).1
    have:=a4P hu hjn
    omega
end
theorem J0.b7S {P : Program} {C : Ctx} {N : Nat} {Q : Exit → x7 → j7 → Prop} {σ : x7} {H : j7} {id : Nat} {l : List Oper} {ι : Type 1} (HT : Nat → ι → j7) (hm : P.follows .mixedOrders = true) (n : Nat) (ss : List (List (Nat × Nat))) (ci : List Nat)
    (hN:K2 N l=true) (hB:a2u l.toArray n ss=true) (full:List (Nat×AV)) (Inv:Array Bool→List (Nat×AV)→j7→Prop) (h00:Inv (Array.replicate l.toArray.size false) [] H)
    (hp:∀ i o s,i < n→i∉ci→l[i]?=some o→ss[i]?=some s→∃ r,o9 full i=some r∧a2v P N C σ (HT i) full o s r)
    (hfam:∀ listed cacc H i,Inv listed cacc H→i < n→i∉ci→listed.getD i false=false→∃ q,H=HT i q) (hpure:∀ listed cacc H i,Inv listed cacc H→i∉ci→Inv (listed.setIfInBounds i true) cacc H)
    (hstep:∀ listed cacc H i o s,Inv listed cacc H→i∈ci→l[i]?=some o→ss[i]?=some s→listed.getD i false=false→(∀ j,Region.waitsFor .any l.toArray i j=true→listed.getD j false=true)→i < listed.size →
      o.guard=none∧A0 P C N o (E3 σ (cacc++full) s (C6 o)) H (fun r H'=>(∀ r0,o9 full i=some r0→r=r0)∧Inv (listed.setIfInBounds i true) ((i,r)::cacc) H'))
    (hfinal:∀ listed cacc H',Inv listed cacc H'→(∀ j,j < n→listed.getD j false=true)→D0 P C N l.toArray Q (l.drop n) (a2a (cacc++full) (l.take n) 0 σ) H') :
    J0 P C N (.region id l.toArray true) Q σ H:=fun ρ I L hs a w ha hst=>by
  have hB0:=hB
  simp only [a2u,Bool.and_eq_true,Bool.or_eq_true] at hB
  obtain⟨⟨⟨⟨⟨hle,hback⟩,hok⟩,hdst⟩,htail⟩,hseq⟩:=hB
  have hle':n≤l.length:=by simpa using Nat.le_of_ble_eq_true hle
  have hok':∀ i,i < n→a1n l.toArray n ss i=true:=fun i hi=>List.all_eq_true.1 hok i (List.mem_range.2 hi)
  have hs':St C I L { w with drawn:=w.drawn+1 }:=⟨⟨hst.mem.im,hst.mem.loc,hst.mem.sep,hst.mem.nodup⟩,⟨hst.S5.os,hst.S5.tape,hst.S5.output,hst.S5.size,hst.S5.block⟩,hst.own,hst.U6,hst.new⟩
  refine wpIn_region_any hm ?_
  have inv0:b6e P C N n l ci σ full Inv ρ I (Array.replicate l.toArray.size false) [] H I L (fun _=>undef) a { w with drawn:=w.drawn+1 }:=by
    have hnl:∀ j,(Array.replicate l.toArray.size false).getD j false=true→False:=fun j hl=>by rw [getD_replicate_false] at hl;cases hl
    refine⟨⟨by simp,fun j oj _ hl=>(hnl j hl).elim,fun t _ ht=>getD_in (by simpa using ht) (getD_replicate_false _ _)⟩,Le.refl _,hs.U6,hs',hs.heap,h00,fun j r hj=>by simp [o9] at hj,fun j r hj=>by simp [o9] at hj,fun j r r0 hj=>by simp [o9] at hj,fun j _ hl=>(hnl j hl).elim,fun j _ hl=>(hnl j hl).elim,ha.defers,ha.size,fun j d _ hl=>(hnl j hl).elim,fun t v hv _=>ha.tmp t v hv⟩
  have hunl:unl (Array.replicate l.toArray.size false) n=n:=by
    have key:∀ k,k≤l.toArray.size→unl (Array.replicate l.toArray.size false) k=k:=by
      intro k
      induction k with
      | zero=>intro _;rfl
      | succ k ih =>
        intro hk
        rw [unl,ih (by omega),if_pos (getD_in (by simp at hk ⊢;omega) (getD_replicate_false _ _))]
    exact key n (by simpa using hle')
  have hmain:=b5e (Q':=a5a C N (qA C Q)) hs hN hback hok' hdst hfam hpure hstep hp hle'
    (by rcases htail with h | h
        · exact .inl (by simpa using h)
        · exact .inr h) (by simpa using hseq)
    (fun listed cacc H' J L' vs a' w' inv hall=>by
      have hpl:=hfinal listed cacc H' inv.pl hall
      have hNd:K2 N (l.drop n)=true:=by
        simp only [K2,List.all_eq_true] at hN ⊢
        exact fun o ho=>hN o (List.mem_of_mem_drop ho)
      have hR:Z2 C J L' σ H' ρ:=⟨fun t b hb=>by obtain⟨u,h1,h2⟩:=hs.env t b hb;exact⟨u,h1,h2.mono inv.le⟩,inv.heap,inv.U6⟩
      have hget:∀ i o,(l.take n)[i]?=some o→i < n∧l[i]?=some o:=fun i o ho=>by
        have h1:=(List.getElem?_eq_some_iff.1 ho).1
        have hin:i < n:=by rw [List.length_take] at h1;omega
        rw [List.getElem?_take,if_pos hin] at ho
        exact⟨hin,ho⟩
      refine hpl (a83 vs (l.take n) 0 ρ) J L' (a7S (l.take n) 0 σ ρ hR fun i o ho => ?_) hNd a' w' (a4X inv.defers inv.size (l.take n) 0 ρ (fun i o d ho hdd => ?_) fun t v hv hno=>inv.a6A t v hv fun j hj _ hdj => ?_) inv.st
      · obtain⟨hin,_⟩:=hget i o ho
        rw [Nat.zero_add]
        exact inv.val i hin (hall i hin)
      · obtain⟨hin,ho2⟩:=hget i o ho
        rw [Nat.zero_add]
        exact inv.a4l i d hin (hall i hin) (by simp [ho2,hdd])
      · have hjl:j < l.length:=by omega
        have:(l.take n)[j]?=some l[j]:=by rw [List.getElem?_take,if_pos hj];exact List.getElem?_eq_getElem hjl
        refine hno j l[j] this ?_
        simpa [hjl] using hdj)
    n _ _ _ _ _ _ _ _ inv0 hunl
  rw [show n+(l.length - n)=l.toArray.size by simp;omega] at hmain
  exact hmain
theorem J0.c3j {P : Program} {C : Ctx} {N : Nat} {Q : Exit → x7 → j7 → Prop} {σ : x7} {H : j7} {id : Nat} {l : List Oper} {ι : Type 1} (HT : ι → j7) (hm : P.follows .mixedOrders = true) (n : Nat) (ss : List (List (Nat × Nat))) (ci : List Nat)
    (hN:K2 N l=true) (hB:a2u l.toArray n ss=true) (full:List (Nat×AV)) (Inv:Array Bool→List (Nat×AV)→j7→Prop) (h00:Inv (Array.replicate l.toArray.size false) [] H)
    (hp:∀ i o s,i < n→i∉ci→l[i]?=some o→ss[i]?=some s→∃ r,o9 full i=some r∧a2v P N C σ HT full o s r)
    (hfam:∀ listed cacc H,Inv listed cacc H→∃ q,H=HT q) (hpure:∀ listed cacc H i,Inv listed cacc H→i∉ci→Inv (listed.setIfInBounds i true) cacc H)
    (hstep:∀ listed cacc H i o s,Inv listed cacc H→i∈ci→l[i]?=some o→ss[i]?=some s→listed.getD i false=false→(∀ j,Region.waitsFor .any l.toArray i j=true→listed.getD j false=true)→i < listed.size →
      o.guard=none∧A0 P C N o (E3 σ (cacc++full) s (C6 o)) H (fun r H'=>(∀ r0,o9 full i=some r0→r=r0)∧Inv (listed.setIfInBounds i true) ((i,r)::cacc) H'))
    (hfinal:∀ listed cacc H',Inv listed cacc H'→(∀ j,j < n→listed.getD j false=true)→D0 P C N l.toArray Q (l.drop n) (a2a (cacc++full) (l.take n) 0 σ) H') :
    J0 P C N (.region id l.toArray true) Q σ H :=
  J0.b7S (fun _=>HT) hm n ss ci hN hB full Inv h00 hp (fun listed cacc H i h _ _ _=>hfam listed cacc H h) hpure hstep hfinal
end Go.Ab
namespace Go.Ab
open Go.Fl Go.RowKit
open o7 (rep)
structure AT where
 α:Type
 r:o7 α
 d:α
def AT.res (t:AT) (b:Nat):AV := @AV.ln t.α t.α t.r t.r (ptr b 0) (@j9.id t.α t.r)
def AT.blk (t:AT) (b:Nat):Bool×D6:=(true,@D6.ob t.α t.r (ptr b 0) t.d)
def X3:Bool×D6:=(true,.fz undef .any)
def hA (listed:Nat→Bool) (ws:Nat→Nat) (al:List (Nat×AT)):j7:=al.map fun p=>bif listed p.1 then p.2.blk (ws p.1) else X3
theorem J0.c4A {P:Program} {C:Ctx} {N:Nat} {Q:Exit→x7→j7→Prop} {σ:x7} {H:j7} {c:Code} (k:J0 P C N c Q σ (X3::H)):J0 P C N c Q σ H:=fun ρ I L hs =>
 wpS.pad (k ρ I ([]::L) ⟨hs.env,⟨[],L,rfl,⟨⟨rfl,trivial⟩,fun _ p hp=>by cases hp⟩,hs.heap⟩,hs.U6⟩)
theorem a6d {L:Lh} {i:Nat} (h:L[i]?=some []) (X:List (Nat×Obj)):(L.set i X).flatten.Perm (X++L.flatten):=by
 obtain⟨h1,h2⟩:=Y6 L i [] h X
 rw [h1,h2,List.nil_append,←List.append_assoc,←List.append_assoc]
 exact List.Perm.append_right _ List.perm_append_comm
theorem b3w {C:Ctx} {I:Im} {L M:Lh} {w:World} (h:St C I L w) (hp:M.flatten.Perm L.flatten):St C I M w :=
 ⟨⟨h.mem.im,fun p hq=>h.mem.loc p (hp.mem_iff.1 hq),fun p hq=>h.mem.sep p (hp.mem_iff.1 hq),(hp.map Prod.fst).nodup_iff.2 h.mem.nodup⟩,h.S5,fun p hq=>h.own p (hp.mem_iff.1 hq),h.U6,h.new⟩
theorem A0.c3k {P : Program} {C : Ctx} {N : Nat} {o : Oper} {σ : x7} {H : j7} {K : AV → j7 → Prop} {F : Bool × D6 → j7} (hh : u4 H X3 F)
    (h:A0 P C N o σ H (fun r H'=>∃ B,H'=B::H∧K r (F B))):A0 P C N o σ H K:=fun ρ I L hs a w ha hst=>by
  refine(h ρ I L hs a w ha hst).mono ?_
  rintro v w' ⟨J,L',q1,q2,r,H',q3,q4,B,rfl,q5⟩
  obtain⟨X,R,rfl,h1,h2⟩:=q4
  obtain⟨j,Y,h3,h4,h5⟩:=hh.get h2
  have hY:Y = []:=h4.1.1
  subst hY
  exact⟨J,R.set j X,b3w q1 (a6d h3 X),q2,r,F B,q3,h5 J B X (Le.refl J) h1,q5⟩
def rA (ws:Nat→Nat) (al:List (Nat×AT)):List (Nat×AV):=al.map fun p=>(p.1,p.2.res (ws p.1))
def upd (ws:Nat→Nat) (i b:Nat):Nat→Nat:=fun j=>if j=i then b else ws j
theorem a8s {ws:Nat→Nat}:∀ {al:List (Nat×AT)} {p:Nat×AT},(al.map Prod.fst).Nodup→p∈al→o9 (rA ws al) p.1=some (p.2.res (ws p.1))
 | q::al,p,hn,hp=>by
  rw [List.map_cons,List.nodup_cons] at hn
  show o9 ((q.1,q.2.res (ws q.1))::rA ws al) p.1=_
  rw [y2]
  rcases List.mem_cons.1 hp with rfl|hp
  ·rw [if_pos rfl]
  ·rw [if_neg (fun e=>hn.1 (by rw [e];exact List.mem_map_of_mem hp))]
   exact a8s hn.2 hp
theorem U2 {ws:Nat→Nat}:∀ {al:List (Nat×AT)} {j:Nat},j∉al.map Prod.fst→o9 (rA ws al) j=none
 | [],j,_=>rfl
 | q::al,j,h=>by
  show o9 ((q.1,q.2.res (ws q.1))::rA ws al) j=_
  rw [List.map_cons,List.mem_cons,not_or] at h
  rw [y2,if_neg (fun e=>h.1 e.symm)]
  exact U2 h.2
theorem a2x {ws ws':Nat→Nat} {j:Nat} (h:ws j=ws' j):∀ {al:List (Nat×AT)},o9 (rA ws al) j=o9 (rA ws' al) j
 | []=>rfl
 | q::al=>by
  show o9 ((q.1,q.2.res (ws q.1))::rA ws al) j=o9 ((q.1,q.2.res (ws' q.1))::rA ws' al) j
  rw [y2,y2]
  by_cases e:q.1=j
  ·subst e;rw [if_pos rfl,if_pos rfl,h]
  ·rw [if_neg e,if_neg e];exact a2x h
theorem b5f {f:Nat→Bool} {ws:Nat→Nat} {q:Nat×AT} {al:List (Nat×AT)}:hA f ws (q::al)=(bif f q.1 then q.2.blk (ws q.1) else X3)::hA f ws al:=rfl
theorem a1U {f g:Nat→Bool} {ws ws':Nat→Nat}:∀ {al:List (Nat×AT)},(∀ p∈al,f p.1=g p.1∧ws p.1=ws' p.1)→hA f ws al=hA g ws' al
 | [],_=>rfl
 | q::al,h=>by
  have h1:=h q List.mem_cons_self
  show(bif f q.1 then q.2.blk (ws q.1) else X3)::hA f ws al=(bif g q.1 then q.2.blk (ws' q.1) else X3)::hA g ws' al
  rw [h1.1,h1.2,a1U fun p hp=>h p (List.mem_cons_of_mem _ hp)]
theorem b3x {f:Nat→Bool} {ws:Nat→Nat} {al:List (Nat×AT)} (h:∀ p∈al,f p.1=true):hA f ws al=al.map fun p=>p.2.blk (ws p.1) :=
 List.map_congr_left fun p hp=>by rw [h p hp];rfl
theorem b0o {f : Nat → Bool} {ws : Nat → Nat} {H0 : j7} {p : Nat × AT} : ∀ {al : List (Nat × AT)}, (al.map Prod.fst).Nodup → p ∈ al → f p.1 = false →
    ∃ F,u4 (hA f ws al++H0) X3 F∧∀ b,F (p.2.blk b)=hA (fun j=>if j=p.1 then true else f j) (upd ws p.1 b) al++H0
  | q::al,hn,hp,hf=>by
    rw [List.map_cons,List.nodup_cons] at hn
    rcases List.mem_cons.1 hp with rfl|hp
    · refine⟨fun X=>X::(hA f ws al++H0),?_,fun b => ?_⟩
      · show u4 ((bif f p.1 then p.2.blk (ws p.1) else X3)::(hA f ws al++H0)) X3 _
        rw [hf];exact .z
      · rw [b5f,List.cons_append,if_pos rfl]
        show p.2.blk b::(hA f ws al++H0)=_
        rw [a1U (g:=fun j=>if j=p.1 then true else f j) (ws':=upd ws p.1 b) fun q hq => ?_]
        · simp [upd]
        · have:q.1≠p.1:=fun e=>hn.1 (by rw [←e];exact List.mem_map_of_mem hq)
          simp [upd,this]
    · obtain⟨F,h1,h2⟩:=b0o (H0:=H0) (ws:=ws) hn.2 hp hf
      have hne:q.1≠p.1:=fun e=>hn.1 (by rw [e];exact List.mem_map_of_mem hp)
      refine⟨fun X=>(bif f q.1 then q.2.blk (ws q.1) else X3)::F X,.s h1,fun b => ?_⟩
      rw [b5f,List.cons_append,if_neg hne]
      show _::F (p.2.blk b)=_
      rw [h2 b]
      simp [upd,hne]
def a3v (ops:Array Oper) (n:Nat) (ss:List (List (Nat×Nat))) (ks ci:List Nat):Bool :=
 W3 ops n ss ci&&ci.all (fun i=>match ops[i]? with|some o=>o.guard.isNone|none=>false)&&ks.all (fun i=>Nat.blt i n && !(ci.contains i)) &&
 (match ci with|i::_=>ks.all (fun j=>Region.waitsFor .any ops i j) | []=>true)
def a6N (P : Program) (C : Ctx) (N : Nat) {ι : Type 1} (HT : ι → j7) (σ : x7) (full : List (Nat × AV)) (F : List (Nat × AV) → j7 → Prop) (cl : List (Nat × Oper × List (Nat × Nat))) (al : List (Nat × AT)) (ci : List Nat) (H0 : j7)
    (listed:Array Bool) (cacc:List (Nat×AV)) (H:j7):Prop :=
  ((∀ i∈ci,listed.getD i false=false)∧∃ ws,(∀ j,o9 cacc j=if listed.getD j false=true then o9 (rA ws al) j else none)∧H=hA (fun j=>listed.getD j false) ws al++H0) ∨
  ((∀ p∈al,listed.getD p.1 false=true)∧∃ k c1,k≤ci.length∧(∀ m i,ci[m]?=some i→(listed.getD i false=true↔m < k))∧(∀ j,o9 cacc j=o9 c1 j)∧V8 P C N σ HT full F (cl.drop k) c1 H)
section
variable {P:Program} {C:Ctx} {N n:Nat} {ι:Type 1} {HT:ι→j7} {σ:x7} {full:List (Nat×AV)} {F:List (Nat×AV)→j7→Prop} {l:List Oper} {ss:List (List (Nat×Nat))} {al:List (Nat×AT)} {ci:List Nat} {H0:j7} {listed:Array Bool} {cacc:List (Nat×AV)} {H:j7}
theorem a6N.pure {i:Nat} (h:a6N P C N HT σ full F (I7 l ss ci) al ci H0 listed cacc H) (h1:i∉ci) (h2:i∉al.map Prod.fst):a6N P C N HT σ full F (I7 l ss ci) al ci H0 (listed.setIfInBounds i true) cacc H:=by
 have hput:∀ j,j≠i→(listed.setIfInBounds i true).getD j false=listed.getD j false:=fun j hj=>getD_set_ne false (Ne.symm hj)
 rcases h with ⟨ha,ws,hb,hc⟩|⟨ha,k,c1,hk,hb,hc,hd⟩
 ·refine .inl ⟨fun j hj=>by rw [hput j (fun e=>h1 (e▸hj))];exact ha j hj,ws,fun j => ?_,?_⟩
  ·by_cases e:j=i
   ·subst e
    rw [hb j,U2 h2];simp
   ·rw [hput j e];exact hb j
  ·rw [hc,a1U fun p hp=>⟨?_,rfl⟩]
   exact(hput p.1 (fun e=>h2 (e▸List.mem_map_of_mem hp))).symm
 ·refine .inr ⟨fun p hp=>by rw [hput p.1 (fun e=>h2 (e▸List.mem_map_of_mem hp))];exact ha p hp,k,c1,hk,fun m j hj => ?_,hc,hd⟩
  rw [hput j (fun e=>h1 (e▸List.mem_of_getElem? hj))];exact hb m j hj
theorem a6N.chained {i : Nat} (hch : a3v l.toArray n ss (al.map Prod.fst) ci = true) (hplan : ∀ ws, V8 P C N σ HT full F (I7 l ss ci) (rA ws al) ((al.map fun p => p.2.blk (ws p.1)) ++ H0))
    (h:a6N P C N HT σ full F (I7 l ss ci) al ci H0 listed cacc H) (hi:i∈ci) (hw:∀ j,Region.waitsFor .any l.toArray i j=true→listed.getD j false=true) :
    (∀ p∈al,listed.getD p.1 false=true)∧∃ k c1,k≤ci.length∧(∀ m i,ci[m]?=some i→(listed.getD i false=true↔m < k))∧(∀ j,o9 cacc j=o9 c1 j)∧V8 P C N σ HT full F ((I7 l ss ci).drop k) c1 H:=by
  rcases h with ⟨ha,ws,hb,hc⟩|h
  · simp only [a3v,Bool.and_eq_true] at hch
    obtain⟨⟨⟨hch,_⟩,hks⟩,hfirst⟩:=hch
    obtain⟨m,hm⟩:=List.mem_iff_getElem?.1 hi
    have hml:m < ci.length:=(List.getElem?_eq_some_iff.1 hm).1
    unfold W3 at hch
    cases m with
    | succ mj =>
      have h1:=List.all_eq_true.1 hch (mj+1) (List.mem_range.2 hml)
      simp only [hm,Bool.and_eq_true] at h1
      cases hj:ci[mj]? with
      | none=>simp [hj] at h1
      | some j =>
        simp only [hj,Bool.and_eq_true] at h1
        have h2:=hw j h1.2.2
        rw [ha j (List.mem_of_getElem? hj)] at h2;cases h2
    | zero =>
      cases hci:ci with
      | nil=>rw [hci] at hml;exact absurd hml (by simp)
      | cons c r =>
        rw [hci] at hm hfirst
        have hci2:c=i:=by simpa using hm
        subst hci2
        have hall:∀ p∈al,listed.getD p.1 false=true:=fun p hp=>hw p.1 (List.all_eq_true.1 hfirst p.1 (List.mem_map_of_mem hp))
        refine⟨hall,0,rA ws al,Nat.zero_le _,fun m j hj=>⟨fun hl => ?_,fun h=>by omega⟩,fun j => ?_,?_⟩
        · rw [ha j (by rw [hci];exact List.mem_of_getElem? hj)] at hl;cases hl
        · rw [hb j]
          split
          · rfl
          · rename_i hn
            refine(U2 fun hj => ?_).symm
            obtain⟨p,hp,rfl⟩:=List.mem_map.1 hj
            exact hn (hall p hp)
        · rw [List.drop_zero,←hci,hc,b3x hall]
          exact hplan ws
  · exact h
theorem a6N.alloc {p : Nat × AT} (hn : (al.map Prod.fst).Nodup) (hp : p ∈ al) (hd : p.1 ∉ ci) (h : a6N P C N HT σ full F (I7 l ss ci) al ci H0 listed cacc H) (hun : listed.getD p.1 false = false) (hlt : p.1 < listed.size) :
    ∃ F',u4 H X3 F'∧∀ b,a6N P C N HT σ full F (I7 l ss ci) al ci H0 (listed.setIfInBounds p.1 true) ((p.1,p.2.res b)::cacc) (F' (p.2.blk b)):=by
  have hput:∀ j,j≠p.1→(listed.setIfInBounds p.1 true).getD j false=listed.getD j false:=fun j hj=>getD_set_ne false (Ne.symm hj)
  have hset:(listed.setIfInBounds p.1 true).getD p.1 false=true:=G3 hlt
  rcases h with ⟨ha,ws,hb,hc⟩|⟨ha,_⟩
  · obtain⟨F',h1,h2⟩:=b0o (f:=fun j=>listed.getD j false) (ws:=ws) (H0:=H0) hn hp hun
    refine⟨F',hc▸h1,fun b => .inl ⟨fun j hj=>by rw [hput j (fun e=>hd (e▸hj))];exact ha j hj,upd ws p.1 b,fun j => ?_,?_⟩⟩
    · rw [y2]
      by_cases e:p.1=j
      · subst e
        rw [if_pos rfl,if_pos hset,a8s hn hp]
        simp [upd]
      · rw [if_neg e,hput j (Ne.symm e),hb j,a2x (ws:=ws) (ws':=upd ws p.1 b) (by simp [upd,Ne.symm e])]
    · rw [h2 b]
      congr 1
      refine a1U fun q hq=>⟨?_,rfl⟩
      by_cases e:q.1=p.1
      · rw [e,if_pos rfl,hset]
      · rw [if_neg e,hput _ e]
  · rw [ha p hp] at hun;cases hun
theorem a6N.chain {i : Nat} {o : Oper} {s : List (Nat × Nat)} (hch : a3v l.toArray n ss (al.map Prod.fst) ci = true) (hcl : ∀ (m i : Nat) (o : Oper) (s : List (Nat × Nat)), ci[m]? = some i → l[i]? = some o → ss[i]? = some s → (I7 l ss ci)[m]? = some (i, o, s)) (hnd : ci.Nodup)
    (hplan:∀ ws,V8 P C N σ HT full F (I7 l ss ci) (rA ws al) ((al.map fun p=>p.2.blk (ws p.1))++H0))
    (h:a6N P C N HT σ full F (I7 l ss ci) al ci H0 listed cacc H) (hi:i∈ci) (hol:l[i]?=some o) (hs:ss[i]?=some s) (hun:listed.getD i false=false) (hw:∀ j,Region.waitsFor .any l.toArray i j=true→listed.getD j false=true) (hlt:i < listed.size) :
    o.guard=none∧A0 P C N o (E3 σ (cacc++full) s (C6 o)) H (fun r H'=>(∀ r0,o9 full i=some r0→r=r0)∧a6N P C N HT σ full F (I7 l ss ci) al ci H0 (listed.setIfInBounds i true) ((i,r)::cacc) H'):=by
  obtain⟨hall,k,c1,hk,hb,hc,hpl⟩:=h.chained hch hplan hi hw
  simp only [a3v,Bool.and_eq_true] at hch
  obtain⟨⟨⟨hch,hgs⟩,hks⟩,_⟩:=hch
  have hg:o.guard=none:=by
    have:=List.all_eq_true.1 hgs i hi
    simp only [show l.toArray[i]?=some o by simpa using hol] at this
    exact Option.isNone_iff_eq_none.1 this
  have hput:∀ j,j≠i→(listed.setIfInBounds i true).getD j false=listed.getD j false:=fun j hj=>getD_set_ne false (Ne.symm hj)
  obtain⟨m,hm⟩:=List.mem_iff_getElem?.1 hi
  have hml:m < ci.length:=(List.getElem?_eq_some_iff.1 hm).1
  have hmk:¬m < k:=fun h=>by have:=(hb m i hm).2 h;rw [hun] at this;cases this
  have hkm:m≤k:=by
    unfold W3 at hch
    cases m with
    | zero=>omega
    | succ mj =>
      have h1:=List.all_eq_true.1 hch (mj+1) (List.mem_range.2 hml)
      simp only [hm,Bool.and_eq_true] at h1
      cases hj:ci[mj]? with
      | none=>simp [hj] at h1
      | some j =>
        simp only [hj,Bool.and_eq_true] at h1
        have:=(hb mj j hj).1 (hw j h1.2.2)
        omega
  obtain rfl:m=k:=by omega
  have hcc:=hcl m i o s hm hol hs
  have hdrop:(I7 l ss ci).drop m=(i,o,s)::(I7 l ss ci).drop (m+1):=by
    have hlt:=(List.getElem?_eq_some_iff.1 hcc).1
    rw [List.drop_eq_getElem_cons hlt]
    congr 1
    rw [List.getElem?_eq_getElem hlt] at hcc
    exact Option.some.inj hcc
  rw [hdrop,V8] at hpl
  replace hpl:=hpl.2
  have henv:E3 σ (cacc++full) s (C6 o)=E3 σ (c1++full) s (C6 o):=a4w (fun t j _=>by rw [B3,B3,hc j]) _
  refine⟨hg,?_⟩
  rw [henv]
  have hnext:∀ r H',V8 P C N σ HT full F ((I7 l ss ci).drop (m+1)) ((i,r)::c1) H'→a6N P C N HT σ full F (I7 l ss ci) al ci H0 (listed.setIfInBounds i true) ((i,r)::cacc) H':=fun r H' hq=>by
    refine .inr ⟨fun p hp => ?_,m+1,(i,r)::c1,by omega,fun m' i' hm' => ?_,fun j=>by rw [y2,y2,hc j],hq⟩
    · by_cases e:p.1=i
      · rw [e];exact G3 hlt
      · rw [hput _ e];exact hall p hp
    · by_cases e:i'=i
      · subst e
        have h1:=(List.getElem?_eq_some_iff.1 hm')
        have h2:=(List.getElem?_eq_some_iff.1 hm)
        have:m'=m:=(List.getElem_inj (h₀:=h1.1) (h₁:=h2.1) hnd).1 (by rw [h1.2,h2.2])
        subst this
        exact⟨fun _=>by omega,fun _=>G3 hlt⟩
      · rw [hput i' e,hb m' i' hm']
        have:m'≠m:=by rintro rfl;rw [hm] at hm';exact e (Option.some.inj hm').symm
        omega
  cases hr:o9 full i with
  | none =>
    rw [hg,hr] at hpl
    exact hpl.mono fun r H' hq=>⟨fun r0 h0=>(by cases h0),hnext r H' hq⟩
  | some r0 =>
    rw [hg,hr] at hpl
    exact hpl.mono fun r H' ⟨e,hq⟩=>⟨fun q h0=>by cases h0;exact e,by subst e;exact hnext _ H' hq⟩
end
theorem a2y {a b:List (Nat×AV)} (h:∀ j,o9 a j=o9 b j):∀ (os:List Oper) (k:Nat) (σ:x7),a2a a os k σ=a2a b os k σ
 | [],_,_=>rfl
 | o::os,k,σ=>by
  simp only [a2a,h k]
  cases o.dst with
  | none=>exact a2y h os _ _
  | some d =>
   cases o9 b k with
   | none=>exact a2y h os _ _
   | some r=>exact a2y h os _ _
theorem b5g {G:j7}:∀ (bs:List Bool) (k:Nat),U1 bs (G.drop k) (fun j=>G.getD j X3) k=G.drop k
 | [],_=>by simp [U1]
 | b::bs,k=>by
  cases hd:G.drop k with
  | nil=>rfl
  | cons B R =>
   have hB:G.getD k X3=B:=by
    have h1:G[k]?=some B:=by
     have:=congrArg (fun l:j7=>l[0]?) hd
     simpa using this
    simp [List.getD,h1]
   have hR:G.drop (k+1)=R:=by
    rw [←List.drop_drop,hd];rfl
   show(bif b then G.getD k X3 else B)::U1 bs R (fun j=>G.getD j X3) (k+1)=B::R
   rw [hB,←hR,b5g bs (k+1)]
   cases b<;>rfl
theorem J0.c19 {P:Program} {C:Ctx} {N:Nat} {Q:Exit→x7→j7→Prop} {σ:x7} {H:j7} {c:Code}:∀ {al:List (Nat×AT)},J0 P C N c Q σ ((al.map fun _=>X3)++H)→J0 P C N c Q σ H
 | [],h=>h
 | _::al,h=>J0.c19 (al:=al) (J0.c4A h)
theorem J0.c3l {P : Program} {C : Ctx} {N : Nat} {Q : Exit → x7 → j7 → Prop} {σ : x7} {H : j7} {id : Nat} {l : List Oper} (bs : List Bool) (al : List (Nat × AT)) (hm : P.follows .mixedOrders = true) (n : Nat) (ss : List (List (Nat × Nat))) (ci : List Nat)
    (hN:K2 N l=true) (hB:a2u l.toArray n ss=true) (hss:Nat.ble n ss.length=true) (hC:a3v l.toArray n ss (al.map Prod.fst) ci=true) (hnd:ci.Nodup) (hna:(al.map Prod.fst).Nodup)
    (hal:∀ p∈al,∀ o,l[p.1]?=some o→o.guard=none∧∀ σ' H',A0 P C N o σ' H' (fun r H''=>∃ b,r=p.2.res b∧H''=p.2.blk b::H'))
    (h:a2w P N C σ (fun q:j7×(Nat→Bool×D6)=>q.1++U1 bs H q.2 0) (al.map Prod.fst++ci) (fun accP=>((al.map Prod.fst).all fun i=>(o9 accP i).isNone)=true ∧
      ∀ ws:Nat→Nat,V8 P C N σ (fun q:j7×(Nat→Bool×D6)=>q.1++U1 bs H q.2 0) accP (fun cacc H'=>D0 P C N l.toArray Q (l.drop n) (a2a (cacc++accP) (l.take n) 0 σ) H') (I7 l ss ci) (rA ws al) ((al.map fun p=>p.2.blk (ws p.1))++H)) (l.take n) ss 0 []) :
    J0 P C N (.region id l.toArray true) Q σ H := .c19 (al:=al) (by
  have hB0:=hB
  simp only [a2u,Bool.and_eq_true,Bool.or_eq_true] at hB
  obtain⟨⟨⟨⟨⟨hle,hback⟩,hok⟩,hdst⟩,htail⟩,hseq⟩:=hB
  have hle':n≤l.length:=by simpa using Nat.le_of_ble_eq_true hle
  have hok':∀ i,i < n→a1n l.toArray n ss i=true:=fun i hi=>List.all_eq_true.1 hok i (List.mem_range.2 hi)
  have hssl:=Nat.le_of_ble_eq_true hss
  obtain⟨full,⟨hnone,hF⟩,_,hd⟩:=a2O (l.take n) ss 0 [] (fun j r hj=>by simp [o9] at hj) h
  have hC2:=hC
  simp only [a3v,Bool.and_eq_true] at hC2
  obtain⟨⟨⟨hC',_⟩,hks⟩,_⟩:=hC2
  unfold W3 at hC'
  have hcin:∀ i∈ci,i < n:=fun i hi=>by
    obtain⟨m,hm⟩:=List.mem_iff_getElem?.1 hi
    have h1:=List.all_eq_true.1 hC' m (List.mem_range.2 (List.getElem?_eq_some_iff.1 hm).1)
    simp only [hm,Bool.and_eq_true] at h1
    simpa [Nat.blt_eq] using h1.1
  have hkin:∀ i∈al.map Prod.fst,i < n∧i∉ci:=fun i hi=>by
    have h1:=List.all_eq_true.1 hks i hi
    simp only [Bool.and_eq_true,Bool.not_eq_true',List.contains_eq_mem,decide_eq_false_iff_not] at h1
    exact⟨by simpa [Nat.blt_eq] using h1.1,h1.2⟩
  have hcl:=a4x (l:=l) (ss:=ss) ci (fun i hi=>⟨_,_,List.getElem?_eq_getElem (Nat.lt_of_lt_of_le (hcin i hi) hle'),List.getElem?_eq_getElem (Nat.lt_of_lt_of_le (hcin i hi) hssl)⟩)
  have hp:∀ i o s,i < n→i∉al.map Prod.fst++ci→l[i]?=some o→ss[i]?=some s→∃ r,o9 full i=some r∧a2v P N C σ (fun q:j7×(Nat→Bool×D6)=>q.1++U1 bs H q.2 0) full o s r:=fun i o s hi hic ho hsi=>by
    obtain⟨r,acc',h1,h2,h3⟩:=hd i o s (by rw [List.getElem?_take,if_pos hi];exact ho) hsi (by simpa using hic)
    rw [Nat.zero_add] at h1 h3
    refine⟨r,h1,fun H' => ?_⟩
    have hoi:=hok' i hi
    unfold a1n at hoi
    have ho':l.toArray[i]?=some o:=by simpa using ho
    simp only [ho',hsi,Bool.and_eq_true] at hoi
    have hback':∀ j,Region.waitsFor .any l.toArray i j=true→j < i:=fun j hw=>by
      obtain⟨e,he,hb,heq⟩:=X8 ho' hw
      have hil:i < l.toArray.size:=(Array.getElem?_eq_some_iff.1 ho').1
      have h4:=List.all_eq_true.1 hback i (List.mem_range.2 hil)
      simp only [ho',Array.all_eq_true_iff_forall_mem] at h4
      have h5:=h4 e he
      rw [hb] at h5
      have:e.on < i:=by simpa [Nat.blt_eq] using h5
      omega
    -- sources that are no operand are looked at too
    have henv:∀ t∈C6 o,∀ j,J8 s t=some j→o9 acc' j=o9 full j:=fun t ht j hj=>by
      have h6:=List.all_eq_true.1 hoi.1 t ht
      unfold a0V at h6
      simp only [hj,Bool.and_eq_true] at h6
      exact h3 j (hback' j h6.2)
    have hdd:=h2 H'
    unfold a5g at hdd ⊢
    have he:∀ ts,(∀ t∈ts,t∈C6 o)→E3 σ acc' s ts=E3 σ full s ts:=by
      intro ts
      induction ts with
      | nil=>intro _;rfl
      | cons t ts ih =>
        intro hts
        simp only [E3]
        cases hsrc:J8 s t with
        | none=>simp only [ih (fun u hu=>hts u (List.mem_cons_of_mem _ hu))]
        | some j=>simp only [henv t (hts t List.mem_cons_self) j hsrc,ih (fun u hu=>hts u (List.mem_cons_of_mem _ hu))]
    rw [←he _ (fun t ht=>ht)]
    cases hg:o.guard with
    | none=>rw [hg] at hdd;exact hdd
    | some p =>
      obtain⟨g,want⟩:=p
      rw [hg] at hdd
      have h6:=hoi.2
      rw [hg] at h6
      simp only [Bool.and_eq_true] at h6
      simp only at hdd ⊢
      rw [←h3 g (hback' g h6.1.2)];exact hdd
  refine J0.c3j (fun q:j7×(Nat→Bool×D6)=>q.1++U1 bs H q.2 0) hm n ss (al.map Prod.fst++ci) hN hB0 full
    (a6N P C N (fun q:j7×(Nat→Bool×D6)=>q.1++U1 bs H q.2 0) σ full (fun cacc H'=>D0 P C N l.toArray Q (l.drop n) (a2a (cacc++full) (l.take n) 0 σ) H') (I7 l ss ci) al ci H) ?_ hp ?_ ?_ ?_ ?_
  · refine .inl ⟨fun i _=>getD_replicate_false _ _,fun _=>0,fun j => ?_,?_⟩
    · rw [if_neg (by rw [getD_replicate_false];decide)];rfl
    · congr 1
      exact(List.map_congr_left fun p _=>by simp only [getD_replicate_false];rfl)
  · rintro listed cacc H' (⟨_,ws,_,rfl⟩|⟨_,k,c1,_,_,_,hq⟩)
    · refine⟨(hA (fun j=>listed.getD j false) ws al,fun j=>H.getD j X3),?_⟩
      have:=b5g (G:=H) bs 0
      rw [List.drop_zero] at this
      simp only [this]
    · exact hq.tail
  · exact fun listed cacc H' i hi hni=>hi.pure (fun e=>hni (List.mem_append_right _ e)) (fun e=>hni (List.mem_append_left _ e))
  · intro listed cacc H' i o s hi hic hol hs hun hw hlt
    rcases List.mem_append.1 hic with hk|hc
    · obtain⟨p,hp,rfl⟩:=List.mem_map.1 hk
      obtain⟨hg,hop⟩:=hal p hp o hol
      obtain⟨F',h1,h2⟩:=hi.alloc hna hp (hkin _ hk).2 hun hlt
      refine⟨hg,A0.c3k h1 ((hop _ _).mono fun r H'' ⟨b,hr,hH⟩=>⟨_,hH,fun r0 h0 => ?_,by rw [hr];exact h2 b⟩)⟩
      have h3:=List.all_eq_true.1 hnone p.1 hk
      rw [h0] at h3;cases h3
    · exact hi.chain hC hcl hnd hF hc hol hs hun hw hlt
  · intro listed cacc H' hi hall
    have hfin:∃ c1,(∀ j,o9 cacc j=o9 c1 j)∧D0 P C N l.toArray Q (l.drop n) (a2a (c1++full) (l.take n) 0 σ) H':=by
      have hlen:∀ c:List Nat,(I7 l ss c).length≤c.length:=by
        intro c
        induction c with
        | nil=>exact Nat.le_refl _
        | cons i c ih =>
          simp only [I7]
          split
          · simpa using ih
          · exact Nat.le_succ_of_le ih
      rcases hi with ⟨ha,ws,hb,hc⟩|⟨ha,k,c1,hk,hb,hc,hq⟩
      · have hci:ci = []:=by
          cases hci:ci with
          | nil=>rfl
          | cons c r =>
            have h1:=hall c (hcin c (by rw [hci];exact List.mem_cons_self))
            rw [ha c (by rw [hci];exact List.mem_cons_self)] at h1;cases h1
        refine⟨rA ws al,fun j => ?_,?_⟩
        · rw [hb j]
          split
          · rfl
          · rename_i hn
            refine(U2 fun hj=>hn (hall j (hkin j hj).1)).symm
        · have hq:=hF ws
          have e:I7 l ss ci = []:=by
            have:=hlen ci
            rw [hci] at this ⊢;rfl
          rw [e,V8] at hq
          rw [hc,b3x fun p hp=>hall p.1 (hkin _ (List.mem_map_of_mem hp)).1]
          exact hq.2
      · have hk':k=ci.length:=by
          rcases Nat.lt_or_ge k ci.length with h|h
          · have:=(hb k _ (List.getElem?_eq_getElem h)).1 (hall _ (hcin _ (List.getElem_mem h)))
            omega
          · omega
        rw [hk',List.drop_eq_nil_of_le (hlen ci),V8] at hq
        exact⟨c1,hc,hq.2⟩
    obtain⟨c1,h1,h2⟩:=hfin
    rw [a2y (b:=c1++full) fun j=>by rw [B3,B3,h1 j]]
    exact h2)
theorem U0.c1n {n0:Nat} {I:Im}:∀ (m:Nat) {H:j7} {L:Lh},U0 n0 I H L→U0 n0 I (H.drop m) (L.drop m)
 | 0,_,_,h=>h
 | m+1,[],_,h=>by simp only [U0] at h;subst h;exact(show U0 n0 I [] [] from rfl)
 | m+1,B::H,_,h=>by obtain⟨X,R,rfl,h1,h2⟩:=h;exact U0.c1n m h2
theorem a6O {L:Lh} {m:Nat} {p:Nat×Obj} (h:p∈(L.drop m).flatten):p∈L.flatten:=by
 rw [←List.take_append_drop m L,List.flatten_append];exact List.mem_append_right _ h
theorem E4.a5B {G : Gl} {P : Program} {f : FuncId} {fn : Func} {c : Code} {ags : List AV} {Hs : List D6} {post : AV → List D6 → Prop} (hf : P.funcs[f]? = some fn) (hb : fn.body = some c) (hn : (fn.name == "runtime.NumGoroutine") = false)
    (N:Nat) (hN:fn.ntmps=N) (hl:Nat.ble ags.length N=true) (σ:x7) (hσ:b0e ags 0=σ) (H0:j7) (hH:a8m Hs=H0)
    (h:∀ C:Ctx,Ctx.Ok C→G.p C.I0→J0 P C N c (a7H P fn C (fun r H=>∃ m:Nat,post r ((H.drop m).map Prod.snd))) σ H0):E4 G P f ags Hs post:=fun I L vs hG hvs hL =>
  ⟨⟨fn,hf,hn,by simp [hb]⟩,fun w hm=>a1o hf hb N hN (by rw [hvs.len];exact hl) hm (M:=L.flatten.map Prod.fst) (fun p hp=>List.mem_map_of_mem hp)
    ((h ⟨w, L.flatten.map Prod.fst, I, none⟩ (fun k hk => by
        obtain⟨p,hp,rfl⟩:=List.mem_map.1 hk
        exact y7 (hm.loc p hp)) hG (a0D vs 0) I L ⟨by rw [←hσ];exact hvs.env 0,by rw [←hH,a4u];exact hL.toH,Le.refl I⟩).mono fun e ρ J L hq=>a7H.q hq)
    fun v J L' w' hs hp=>by
      obtain⟨r,H,h1,h2,m,h3⟩:=hp
      refine⟨v,J,L'.drop m,a8,hs.S5,hs.U6,fun b h0 h1=>hs.new b h0 h1,⟨hs.mem.im,fun p hp=>hs.mem.loc p (a6O hp),fun p hp=>hs.mem.sep p (a6O hp),?_⟩,fun p hp=>hs.own p (a6O hp),r,_,h1,(h2.c1n m).toK,h3⟩
      have:=hs.mem.nodup
      rw [←List.take_append_drop m L',List.flatten_append,List.map_append,List.nodup_append] at this
      exact this.2.1⟩
theorem J0.a0H {P:Program} {C:Ctx} {N:Nat} {Q:Exit→x7→j7→Prop} {σ:x7} {H:j7} {c:Code} (E:TypeId) (α:Type) [r:o7 α] (k:J0 P C N c Q σ ((true,.own E (.slice none 0 0) ([]:List α))::H)):J0 P C N c Q σ H:=fun ρ I L hs =>
 wpS.pad (k ρ I ([]::L) ⟨hs.env,⟨[],L,rfl,⟨⟨[],a1T.nil E _,rfl⟩,fun _ p hp=>by cases hp⟩,hs.heap⟩,hs.U6⟩)
theorem D0.a0H {P:Program} {C:Ctx} {N:Nat} {ops:Array Oper} {Q:Exit→x7→j7→Prop} {os:List Oper} {σ:x7} {H:j7} (E:TypeId) (α:Type) [r:o7 α] (k:D0 P C N ops Q os σ ((true,.own E (.slice none 0 0) ([]:List α))::H)):D0 P C N ops Q os σ H:=fun ρ I L hs =>
 wpL.pad (k ρ I ([]::L) ⟨hs.env,⟨[],L,rfl,⟨⟨[],a1T.nil E _,rfl⟩,fun _ p hp=>by cases hp⟩,hs.heap⟩,hs.U6⟩)
theorem j6.a52 {P : Program} {C : Ctx} {N : Nat} {σ : x7} {H : j7} {d : Option Nat} {ty : TypeId} {ps : String} {af : Array Edge} {g : Option (Nat × Bool)} {K : AV → Prop} {x y : Operand} {T T2 : TypeId} {m c : UInt64} (hx : E6 C σ H x (.v m)) (hy : E6 C σ H y (.v c)) (h0 : 0 ≤ c.toNat) (h1 : c.toNat < 64) (k : K (.v (m >>> c))) :
    j6 P N C ⟨d,.binOp .shr T x y T2,ty,ps,af,g⟩ σ H K :=
  .vk k (fun ρ I L hs=>H7.a52 c.toNat (hx.a1j hs) (hy.a1j hs) rfl h1 ⟨[Fl.u64 (m >>> c)],rfl,by rw [UInt64.ofNat_toNat];rfl⟩)
theorem j6.a2p {P : Program} {C : Ctx} {N : Nat} {σ : x7} {H : j7} {d : Option Nat} {ty : TypeId} {ps : String} {af : Array Edge} {g : Option (Nat × Bool)} {K : AV → Prop} {x : Operand} {S D : TypeId} {ds : TypeDesc} {m : UInt64} (hS : P.underlying S = some ds) (hD : P.underlying D = some (.int .u8)) (hx : E6 C σ H x (.v m)) (k : K (.v m.toUInt8)) :
    j6 P N C ⟨d,.convert S D x,ty,ps,af,g⟩ σ H K :=
  .vk k (fun ρ I L hs=>H7.a2p hS hD (hx.a1j hs) ⟨[Fl.u8 m.toUInt8],rfl,rfl⟩)
end Go.Ab
namespace Go.Ab
open Go.Fl Go.RowKit
open o7 (rep)
structure V3 where
 v:Value
instance:Inhabited V3:=⟨⟨.slice none 0 0⟩⟩
instance:o7 V3 where
 size:=1
 agg:=false
 rep _ x cs:=cs = [x.v]∧x.v.oneCell'=true
 len h:=by simp [h.1]
 mono _ h:=h
 one _:=rfl
 flat h:=by simp [h.1,a0Z,h.2]
instance:H4 V3:=⟨[.slice none 0 0],fun _=>⟨rfl,rfl⟩⟩
structure GS (α:Type) where
 E:TypeId
 l:List α
section rules
variable {P:Program} {C:Ctx} {N:Nat} {σ:x7} {H:j7} {d:Option Nat} {ty:TypeId} {ps:String} {af:Array Edge} {g:Option (Nat×Bool)} {K:AV→Prop} {KH:AV→j7→Prop} {x y z:Operand} {T T2 E S D U:TypeId} {o:Oper}
theorem j6.raw {s:V3} (h:j6 P N C o σ H (fun r=>r = .v s)) (k:K (.raw s.v)):j6 P N C o σ H K:=fun ρ I L hs a w ha hm=>by
 refine(h ρ I L hs a w ha hm).mono ?_
 rintro v w' ⟨J,X,q1,q2,q3,q4,q5,q6,r,q7,rfl⟩
 obtain⟨cs,⟨rfl,_⟩,rfl⟩:=q7
 exact⟨J,X,q1,q2,q3,q4,q5,q6,.raw s.v,a8,k⟩
theorem j6.ldR {α : Type} {r : o7 α} {w : Value} {l : j9 α V3} {a : α} {bb : Bool} {F : Bool × D6 → j7} (f : α → V3) (tT : G2 P T V3) (hx : E6 C σ H x (.ln w l)) (hH : u4 H (bb, .ob w a) F) (hf : ∀ x, l.get x = f x) (k : K (.raw (f a).v)) :
    j6 P N C ⟨d,.load T x,ty,ps,af,g⟩ σ H K := .raw (.ldF f tT hx hH hf rfl) k
theorem J0.name {Q:Exit→x7→j7→Prop} (t:Nat) {a:AV} {c:Code} (ht:E9 σ t=some a) (k:∀ w,J0 P C N c Q ((t,.raw w)::σ) ((true,.fz w a)::H)):J0 P C N c Q σ H:=fun ρ I L hs=>by
 obtain⟨u,h1,h2⟩:=hs.env t _ ht
 refine wpS.pad (k u ρ I ([]::L) ⟨fun s b hb => ?_,⟨[],L,rfl,⟨⟨rfl,h2⟩,fun _ p hp=>by cases hp⟩,hs.heap⟩,hs.U6⟩)
 rw [I9] at hb
 by_cases e:t=s
 ·subst e;simp at hb;subst hb;exact⟨u,h1,rfl⟩
 ·rw [if_neg e] at hb;exact hs.env s b hb
theorem E6.fzA {t:Nat} {w:Value} {a:AV} {b:Bool} {F:Bool×D6→j7} (ht:E9 σ t=some (.raw w)) (hH:u4 H (b,.fz w a) F):E6 C σ H (.tmp t) a:=fun ρ I L hs=>by
 obtain⟨u,h1,rfl⟩:=hs.env t _ ht
 obtain⟨i,X,h2,h3,_⟩:=hH.get hs.heap
 exact⟨_,h1,h3.1.2⟩
theorem J0.conv {Q:Exit→x7→j7→Prop} (t:Nat) {a:AV} (a':AV) {c:Code} (ht:E9 σ t=some a) (h:∀ n0 I L u,U0 n0 I H L→E1 I a u→E1 I a' u) (k:J0 P C N c Q ((t,a')::σ) H):J0 P C N c Q σ H:=fun ρ I L hs=>by
 refine k ρ I L ⟨fun s b hb => ?_,hs.heap,hs.U6⟩
 rw [I9] at hb
 by_cases e:t=s
 ·subst e;simp at hb;subst hb
  obtain⟨u,h1,h2⟩:=hs.env t _ ht
  exact⟨u,h1,h _ I L u hs.heap h2⟩
 ·rw [if_neg e] at hb;exact hs.env s b hb
theorem J0.c3m {Q : Exit → x7 → j7 → Prop} (t : Nat) {a A B : AV} (f : Value → Value → AV) {c : Code} (h : ∀ I u, E1 I a u → ∃ x y, E1 I (f x y) u ∧ E1 I A x ∧ E1 I B y) (ht : E9 σ t = some a)
    (k:∀ x y,J0 P C N c Q ((t,f x y)::σ) ((true,.fz x A)::(true,.fz y B)::H)):J0 P C N c Q σ H:=fun ρ I L hs=>by
  obtain⟨u,h1,h2⟩:=hs.env t _ ht
  obtain⟨x,y,h3,h4,h5⟩:=h I u h2
  refine wpS.pad (wpS.pad (k x y ρ I ([] :: []::L) ⟨fun s b hb => ?_,⟨[],_,rfl,⟨⟨rfl,h4⟩,fun _ p hp=>by cases hp⟩,⟨[],L,rfl,⟨⟨rfl,h5⟩,fun _ p hp=>by cases hp⟩,hs.heap⟩⟩,hs.U6⟩))
  rw [I9] at hb
  by_cases e:t=s
  · subst e;simp at hb;subst hb;exact⟨u,h1,h3⟩
  · rw [if_neg e] at hb;exact hs.env s b hb
end rules
def Sel (H:j7) (Hs:List D6):Prop:=∀ n0 I L,U0 n0 I H L→∃ L' R,(L'.flatten++R).Perm L.flatten∧a2K I Hs L'
theorem Sel.nil {H:j7}:Sel H []:=fun n0 I L h=>⟨[],L.flatten,by simp,rfl⟩
theorem Sel.cons {H:j7} {b:Bool} {B:D6} {Hs:List D6} {F:Bool×D6→j7} (hh:u4 H (b,B) F) (h:Sel (F X3) Hs):Sel H (B::Hs):=fun n0 I L hL=>by
 obtain⟨i,X,h1,h2,h3⟩:=hh.get hL
 have h4:=h3 I X3 [] (Le.refl I) ⟨⟨rfl,trivial⟩,fun _ p hp=>by cases hp⟩
 obtain⟨L',R,h5,h6⟩:=h n0 I _ h4
 refine⟨X::L',R,?_,X,L',a8,h2.1,h6⟩
 have h7:(L.set i [])[i]?=some []:=by
  have hi:=(List.getElem?_eq_some_iff.1 h1).1
  simp [hi]
 have h8:=a6d h7 X
 have h9:(L.set i []).set i X=L:=by
  obtain⟨hi,e⟩:=List.getElem?_eq_some_iff.1 h1
  rw [List.set_set,←e,List.set_getElem_self]
 rw [h9] at h8
 rw [List.flatten_cons,List.append_assoc]
 exact(List.Perm.append_left X h5).trans h8.symm
theorem E4.P8 {G : Gl} {P : Program} {f : FuncId} {fn : Func} {c : Code} {ags : List AV} {Hs : List D6} {post : AV → List D6 → Prop} (hf : P.funcs[f]? = some fn) (hb : fn.body = some c) (hn : (fn.name == "runtime.NumGoroutine") = false)
    (N:Nat) (hN:fn.ntmps=N) (hl:Nat.ble ags.length N=true) (σ:x7) (hσ:b0e ags 0=σ) (H0:j7) (hH:a8m Hs=H0)
    (h:∀ C:Ctx,Ctx.Ok C→G.p C.I0→J0 P C N c (a7H P fn C (fun r H=>∃ Hs',Sel H Hs'∧post r Hs')) σ H0):E4 G P f ags Hs post:=fun I L vs hG hvs hL =>
  ⟨⟨fn,hf,hn,by simp [hb]⟩,fun w hm=>a1o hf hb N hN (by rw [hvs.len];exact hl) hm (M:=L.flatten.map Prod.fst) (fun p hp=>List.mem_map_of_mem hp)
    ((h ⟨w, L.flatten.map Prod.fst, I, none⟩ (fun k hk => by
        obtain⟨p,hp,rfl⟩:=List.mem_map.1 hk
        exact y7 (hm.loc p hp)) hG (a0D vs 0) I L ⟨by rw [←hσ];exact hvs.env 0,by rw [←hH,a4u];exact hL.toH,Le.refl I⟩).mono fun e ρ J L hq=>a7H.q hq)
    fun v J L' w' hs hp=>by
      obtain⟨r,H,h1,h2,Hs',h3,h4⟩:=hp
      obtain⟨L2,R,h5,h6⟩:=h3 _ J L' h2
      have hin:∀ p∈L2.flatten,p∈L'.flatten:=fun p hp=>h5.mem_iff.1 (List.mem_append_left _ hp)
      refine⟨v,J,L2,a8,hs.S5,hs.U6,fun b h0 h1=>hs.new b h0 h1,⟨hs.mem.im,fun p hp=>hs.mem.loc p (hin p hp),fun p hp=>hs.mem.sep p (hin p hp),?_⟩,fun p hp=>hs.own p (hin p hp),r,_,h1,h6,h4⟩
      have:=(h5.map Prod.fst).nodup_iff.2 hs.mem.nodup
      rw [List.map_append,List.nodup_append] at this
      exact this.1⟩
theorem E4.mono {G:Gl} {P:Program} {f:FuncId} {ags:List AV} {Hs:List D6} {post post':AV→List D6→Prop} (h:E4 G P f ags Hs post) (hp:∀ r Hs,post r Hs→post' r Hs):E4 G P f ags Hs post':=fun I L vs hG hvs hL=>by
 have hM:=h I L vs hG hvs hL
 refine⟨hM.ok,fun w hm=>(hM.run w hm).mono ?_⟩
 rintro e w' ⟨v,J,L',rfl,q1,q2,q3,q4,q5,r,Hs',q6,q7,q8⟩
 exact⟨v,J,L',a8,q1,q2,q3,q4,q5,r,Hs',q6,q7,hp r Hs' q8⟩
end Go.Ab
namespace Go.Ab
open Go.Fl Go.RowKit
open o7 (rep)
def leB:List Bool→List Bool→Bool
 | [],_=>true
 | a::ags,[] => !a&&leB ags []
 | a::ags,b::bs=>(!a||b)&&leB ags bs
theorem a3w (H:j7) (f:Nat→Bool×D6) (k:Nat):U1 [] H f k=H:=by simp [U1]
theorem b0p:∀ {a b:List Bool},leB a b=true→∀ (H:j7) (f:Nat→Bool×D6) (k:Nat),∃ f',U1 a H f k=U1 b H f' k
  | a,b,h,[],f,k=>⟨f,by cases a<;>cases b<;>simp [U1]⟩
  | [], b, h, B :: H, f, k => ⟨fun j => (B :: H).getD (j - k) X3, by
      rw [a3w]
      have key:∀ (b:List Bool) (G:j7) (j:Nat),(∀ m,m < G.length→(B::H).getD (j+m - k) X3=G.getD m X3)→G=U1 b G (fun j=>(B::H).getD (j - k) X3) j:=by
        intro b
        induction b with
        | nil=>intro G j _;rw [a3w]
        | cons x b ih =>
          intro G j hG
          cases G with
          | nil=>simp [U1]
          | cons A G =>
            have h0:=hG 0 (by simp)
            simp only [U1]
            have h1:(bif x then (B::H).getD (j - k) X3 else A)=A:=by
              cases x
              · rfl
              · simpa using h0
            rw [h1,←ih G (j+1) (fun m hm=>by
              have:=hG (m+1) (by simp;omega)
              rw [show j+1+m - k=j+(m+1) - k by omega,this];simp)]
      exact key b (B::H) k (fun m hm=>by rw [show k+m - k=m by omega])⟩
  | x::a,[],h,B::H,f,k=>by
    simp only [leB,Bool.and_eq_true,Bool.not_eq_true'] at h
    obtain⟨f',hf'⟩:=b0p (b := []) h.2 H f (k+1)
    rw [a3w] at hf'
    exact⟨f,by rw [a3w];simp only [U1,h.1,cond_false,hf']⟩
  | x::a,y::b,h,B::H,f,k=>by
    simp only [leB,Bool.and_eq_true] at h
    obtain⟨f',hf'⟩:=b0p h.2 H f (k+1)
    have hcongr:∀ (b:List Bool) (H:j7) (f g:Nat→Bool×D6) (k:Nat),(∀ j,k≤j→f j=g j)→U1 b H f k=U1 b H g k:=by
      intro b
      induction b with
      | nil=>intro H f g k _;rw [a3w,a3w]
      | cons x b ih =>
        intro H f g k hfg
        cases H with
        | nil=>simp [U1]
        | cons A H=>simp only [U1];rw [hfg k (Nat.le_refl _),ih H f g (k+1) (fun j hj=>hfg j (by omega))]
    refine⟨fun j=>if j=k then (bif x then f k else B) else f' j,?_⟩
    simp only [U1,if_true]
    rw [hf',hcongr b H f' (fun j=>if j=k then (bif x then f k else B) else f' j) (k+1) (fun j hj=>by rw [if_neg (by omega)])]
    cases x with
    | false=>cases y<;>rfl
    | true =>
      have:y=true:=by simpa using h.1
      subst this;rfl
def a5C (P:Program) (N:Nat) (C:Ctx) (σ0:x7) {ι:Type 1} (HT:Nat→ι→j7) (ci:List Nat) (F:List (Nat×AV)→Prop):List Oper→List (List (Nat×Nat))→Nat→List (Nat×AV)→Prop
 | [],_,_,acc=>F acc
 | o::os,s::ss,k,acc=>bif ci.contains k then a5C P N C σ0 HT ci F os ss (k+1) acc∨∃ r,a5C P N C σ0 HT ci F os ss (k+1) ((k,r)::acc) else ∃ r,a2v P N C σ0 (HT k) acc o s r∧a5C P N C σ0 HT ci F os ss (k+1) ((k,r)::acc)
 | _,[],_,_=>False
theorem a4z {P : Program} {N : Nat} {C : Ctx} {σ0 : x7} {ι : Type 1} {HT : Nat → ι → j7} {ci : List Nat} {F : List (Nat × AV) → Prop} : ∀ (os : List Oper) (ss : List (List (Nat × Nat))) (k : Nat) (acc : List (Nat × AV)), (∀ j r, o9 acc j = some r → j < k) → a5C P N C σ0 HT ci F os ss k acc →
    ∃ full,F full∧(∀ j,j < k→o9 full j=o9 acc j) ∧
      ∀ i o s,os[i]?=some o→ss[i]?=some s→k+i∉ci→∃ r acc',o9 full (k+i)=some r∧a2v P N C σ0 (HT (k+i)) acc' o s r∧∀ j,j < k+i→o9 acc' j=o9 full j
  | [],ss,k,acc,hacc,h=>⟨acc,by cases ss<;>exact h,fun _ _=>rfl,fun i o s ho=>by simp at ho⟩
  | o::os,[],k,acc,_,h=>h.elim
  | o::os,s::ss,k,acc,hacc,h=>by
    simp only [a5C] at h
    have hacc2:∀ r,∀ j q,o9 ((k,r)::acc) j=some q→j < k+1:=fun r j q hj=>by
      rw [y2] at hj
      by_cases e:k=j
      · omega
      · rw [if_neg e] at hj;have:=hacc j q hj;omega
    cases hc:ci.contains k with
    | true =>
      rw [hc] at h
      simp only [cond_true] at h
      have fin : ∀ acc2, (∀ j, j < k → o9 acc2 j = o9 acc j) → (∀ j r, o9 acc2 j = some r → j < k + 1) → a5C P N C σ0 HT ci F os ss (k + 1) acc2 → ∃ full, F full ∧ (∀ j, j < k → o9 full j = o9 acc j) ∧
          ∀ i o' s',(o::os)[i]?=some o'→(s::ss)[i]?=some s'→k+i∉ci→∃ r acc',o9 full (k+i)=some r∧a2v P N C σ0 (HT (k+i)) acc' o' s' r∧∀ j,j < k+i→o9 acc' j=o9 full j:=fun acc2 ha hb h=>by
        obtain⟨full,hF,h1,h3⟩:=a4z os ss (k+1) acc2 hb h
        refine⟨full,hF,fun j hj=>(h1 j (by omega)).trans (ha j hj),fun i o' s' ho hs hni => ?_⟩
        cases i with
        | zero=>exact absurd (by simpa using hc) hni
        | succ i =>
          have e:k+(i+1)=k+1+i:=by omega
          rw [e]
          exact h3 i o' s' (by simpa using ho) (by simpa using hs) (by rw [←e];exact hni)
      rcases h with h|⟨r,h⟩
      · exact fin acc (fun _ _=>rfl) (fun j r hj=>Nat.lt_succ_of_lt (hacc j r hj)) h
      · exact fin ((k,r)::acc) (fun j hj=>by rw [y2,if_neg (by omega)]) (hacc2 r) h
    | false =>
      rw [hc] at h
      simp only [cond_false] at h
      obtain⟨r,hd,h⟩:=h
      obtain⟨full,hF,h1,h3⟩:=a4z os ss (k+1) ((k,r)::acc) (hacc2 r) h
      refine⟨full,hF,fun j hj=>by rw [h1 j (by omega),y2,if_neg (by omega)],fun i o' s' ho hs hni => ?_⟩
      cases i with
      | zero =>
        simp only [List.getElem?_cons_zero,Option.some.injEq] at ho hs
        subst ho;subst hs
        refine⟨r,acc,by rw [Nat.add_zero,h1 k (by omega),y2,if_pos rfl],hd,fun j hj => ?_⟩
        rw [Nat.add_zero] at hj
        rw [h1 j (by omega),y2,if_neg (by omega)]
      | succ i =>
        have e:k+(i+1)=k+1+i:=by omega
        rw [e]
        exact h3 i o' s' (by simpa using ho) (by simpa using hs) (by rw [←e];exact hni)
def c1o (ops:Array Oper) (n:Nat) (ks ci:List Nat) (bks qs:List (List Bool)):Bool :=
 (List.range n).all fun i=>ks.contains i||ci.contains i||(List.range (ci.length+1)).all fun k=>(List.range k).any (fun m=>match ci[m]? with|some j=>Region.waitsFor .any ops j i|none=>false)||leB (bks.getD k []) (qs.getD i [])
theorem a0d {σ0:x7} {a b:List (Nat×AV)} {s:List (Nat×Nat)}:∀ {ts:List Nat},(∀ t∈ts,∀ j,J8 s t=some j→o9 a j=o9 b j)→E3 σ0 a s ts=E3 σ0 b s ts
 | [],_=>rfl
 | t::ts,h=>by
  simp only [E3]
  have h1:=a0d (σ0:=σ0) (fun u hu=>h u (List.mem_cons_of_mem _ hu))
  cases hs:J8 s t with
  | none=>simp only [h1]
  | some j=>simp only [h t List.mem_cons_self j hs,h1]
def b7T (P:Program) (N:Nat) (C:Ctx) (σ0:x7) {ι:Type 1} (HT:ι→j7) (acc:List (Nat×AV)) (o:Oper) (s:List (Nat×Nat)) (r:AV):Prop:=∀ Hp,j6 P N C o (E3 σ0 acc s (C6 o)) (HT Hp) (fun r'=>r'=r)
def prom (P:Program) (N:Nat) (C:Ctx) (σ0:x7) {ι:Type 1} (HT:Nat→ι→j7) (accP:List (Nat×AV)):List (Nat×Oper×List (Nat×Nat))→List (Nat×AV)→(List (Nat×AV)→Prop)→Prop
 | [],c,K=>K c
 | (i,o,s)::rest,c,K=>∃ r,b7T P N C σ0 (HT i) (c++accP) o s r∧prom P N C σ0 HT accP rest ((i,r)::c) K
def Y0 (ss:List (List (Nat×Nat))) (i:Nat) (L:List Nat):Bool:=match ss[i]? with|some s=>s.all (fun p => !(L.contains p.2))|none=>true
theorem a1V {ss:List (List (Nat×Nat))} {i:Nat} {L:List Nat} {s:List (Nat×Nat)} (h:Y0 ss i L=true) (hs:ss[i]?=some s) {t j:Nat} (hj:J8 s t=some j):j∉L:=by
 unfold Y0 at h
 rw [hs] at h
 have h2:=List.all_eq_true.1 h (t,j) (b6c hj)
 simpa using h2
def b1F (ss:List (List (Nat×Nat))):List Nat→Bool
 | []=>true
 | i::r=>Y0 ss i (i::r) && !(r.contains i)&&b1F ss r
theorem a4Y {P : Program} {N : Nat} {C : Ctx} {σ0 : x7} {ι : Type 1} {HT : Nat → ι → j7} {accP : List (Nat × AV)} {l : List Oper} {ss : List (List (Nat × Nat))} {K : List (Nat × AV) → Prop} : ∀ {L : List Nat} {c : List (Nat × AV)}, b1F ss L = true → prom P N C σ0 HT accP (I7 l ss L) c K →
    ∃ c',K c'∧(∀ j,j∉L→o9 c' j=o9 c j)∧∀ i o s,i∈L→l[i]?=some o→ss[i]?=some s→∃ r,o9 c' i=some r∧b7T P N C σ0 (HT i) (c'++accP) o s r
  | [],c,_,h=>⟨c,h,fun _ _=>rfl,fun i o s hi=>by cases hi⟩
  | i::L,c,hL,h=>by
    simp only [b1F,Bool.and_eq_true,Bool.not_eq_true',List.contains_eq_mem,decide_eq_false_iff_not] at hL
    obtain⟨⟨h1,h2⟩,h3⟩:=hL
    cases ho:l[i]? with
    | none =>
      simp only [I7,ho] at h
      obtain⟨c',k1,k2,k3⟩:=a4Y h3 h
      exact⟨c',k1,fun j hj=>k2 j (fun hx=>hj (List.mem_cons_of_mem _ hx)),fun i' o s hi ho' hs=>by
        rcases List.mem_cons.1 hi with rfl|hi
        · rw [ho] at ho';cases ho'
        · exact k3 i' o s hi ho' hs⟩
    | some o =>
      cases hs:ss[i]? with
      | none =>
        simp only [I7,ho,hs] at h
        obtain⟨c',k1,k2,k3⟩:=a4Y h3 h
        exact⟨c',k1,fun j hj=>k2 j (fun hx=>hj (List.mem_cons_of_mem _ hx)),fun i' o s hi ho' hs'=>by
          rcases List.mem_cons.1 hi with rfl|hi
          · rw [hs] at hs';cases hs'
          · exact k3 i' o s hi ho' hs'⟩
      | some s =>
        simp only [I7,ho,hs,prom] at h
        obtain⟨r,hd,h⟩:=h
        obtain⟨c',k1,k2,k3⟩:=a4Y h3 h
        refine⟨c',k1,fun j hj => ?_,fun i' o' s' hi ho' hs' => ?_⟩
        · rw [List.mem_cons,not_or] at hj
          rw [k2 j hj.2,y2,if_neg (Ne.symm hj.1)]
        · rcases List.mem_cons.1 hi with rfl|hi
          · rw [ho] at ho';cases ho'
            rw [hs] at hs';cases hs'
            refine⟨r,by rw [k2 i' h2,y2,if_pos rfl],fun Hp => ?_⟩
            have he:E3 σ0 (c'++accP) s (C6 o)=E3 σ0 (c++accP) s (C6 o):=a0d fun t _ j hj=>by
              have hj2:=a1V h1 hs hj
              rw [List.mem_cons,not_or] at hj2
              rw [B3,B3,k2 j hj2.2,y2,if_neg (Ne.symm hj2.1)]
            rw [he];exact hd Hp
          · exact k3 i' o' s' hi ho' hs'
section
variable (P:Program) (C:Ctx) (N:Nat) (σ0:x7) (bs:Nat→List Bool) (HT:Nat→(j7×(Nat→Bool×D6))→j7) (lps:Nat→List (Nat×Oper×List (Nat×Nat))) (H0:j7) (accP:List (Nat×AV)) (al:List (Nat×AT)) (F:List (Nat×AV)→j7→j7→Prop)
def a3x:List (Nat×Oper×List (Nat×Nat))→Nat→List (Nat×AV)→j7→j7→Prop
 | [],k,cacc,Zs,Hr=>(∃ f,Hr=U1 (bs k) H0 f 0)∧∀ ws:Nat→Nat,F (cacc++rA ws al) (Zs++(al.map fun p=>p.2.blk (ws p.1))) Hr
 | (i,o,s)::rest,k,cacc,Zs,Hr=>(∃ f,Hr=U1 (bs k) H0 f 0)∧∀ Ys:j7,
  match o9 accP i with
  | none=>A0 P C N o (E3 σ0 (cacc++accP) s (C6 o)) (Zs++(Ys++Hr)) (fun r H'=>∃ Zs' Hr',H'=Zs'++(Ys++Hr')∧prom P N C σ0 HT accP (lps (k+1)) ((i,r)::cacc) (fun c=>a3x rest (k+1) c Zs' Hr'))
  | some r0=>A0 P C N o (E3 σ0 (cacc++accP) s (C6 o)) (Zs++(Ys++Hr)) (fun r H'=>r=r0∧∃ Zs' Hr',H'=Zs'++(Ys++Hr')∧prom P N C σ0 HT accP (lps (k+1)) ((i,r0)::cacc) (fun c=>a3x rest (k+1) c Zs' Hr'))
end
theorem a3x.fam {P : Program} {C : Ctx} {N : Nat} {σ0 : x7} {bs : Nat → List Bool} {HT : Nat → (j7 × (Nat → Bool × D6)) → j7} {lps : Nat → List (Nat × Oper × List (Nat × Nat))} {H0 : j7} {accP : List (Nat × AV)} {al : List (Nat × AT)} {F : List (Nat × AV) → j7 → j7 → Prop} {l : List (Nat × Oper × List (Nat × Nat))} {k : Nat} {cacc : List (Nat × AV)} {Zs Hr : j7}
    (h:a3x P C N σ0 bs HT lps H0 accP al F l k cacc Zs Hr):∃ f,Hr=U1 (bs k) H0 f 0:=by
  cases l with
  | nil=>exact h.1
  | cons p l=>exact h.1
def a2l (ops:Array Oper) (i:Nat):Bool:=match ops[i]? with|some o=>o.guard.isNone|none=>false
def a8u (ops:Array Oper) (n:Nat) (ss:List (List (Nat×Nat))) (ks ci:List Nat) (lps:List (List Nat)) (kA:Nat):Bool :=
 W3 ops n ss ci&&ci.all (a2l ops)&&ks.all (fun i=>Nat.blt i n && !(ci.contains i))&&(ci.take kA).all (fun i=>Y0 ss i ks)&&(ci.drop kA).all (fun i=>ks.all (fun j=>Region.waitsFor .any ops i j)) &&
 (List.range (ci.length+1)).all (fun m=>(lps.getD m []).all (fun i=>Nat.blt i n && !(ci.contains i) && !(ks.contains i)&&a2l ops i&&Y0 ss i ks &&
  (match m with|0=>false|m'+1=>(match ci[m']? with|some j=>Region.waitsFor .any ops i j|none=>false)||(lps.getD m []).any (fun j=>Region.waitsFor .any ops i j)) &&
  (List.range (ci.length+1)).all (fun m2=>Nat.ble m2 m||(match m2 with|0=>true|m3+1=>match ci[m3]? with|some j=>Y0 ss i [j]|none=>true)&&Y0 ss i (lps.getD m2 []) && !((lps.getD m2 []).contains i)))&&b1F ss (lps.getD m []))
def a2Q (lps:List (List Nat)) (q i:Nat):Prop:=∃ m,m≤q∧i∈lps.getD m []
structure a1k (P : Program) (C : Ctx) (N : Nat) (σ : x7) (bs : Nat → List Bool) (HT : Nat → (j7 × (Nat → Bool × D6)) → j7) (l : List Oper) (ss : List (List (Nat × Nat))) (lps : List (List Nat)) (H0 : j7) (full : List (Nat × AV)) (F : List (Nat × AV) → j7 → j7 → Prop) (al : List (Nat × AT)) (ci : List Nat) (cp : List (Nat × Oper × List (Nat × Nat)))
    (k:Nat) (c1:List (Nat×AV)) (Zs Hr:j7) (ws:Nat→Nat) (listed:Array Bool) (cacc:List (Nat×AV)) (H:j7):Prop where
  w:∀ j∈ci,listed.getD j false=true→∀ i,Region.waitsFor .any l.toArray j i=true→listed.getD i false=true
  kle:k≤ci.length
  kp:k≤cp.length
  ch:∀ m i,ci[m]?=some i→(listed.getD i false=true↔m < k)
  al0:∀ j,j∈al.map Prod.fst→o9 c1 j=none
  oth:∀ j,j∉al.map Prod.fst→¬a2Q lps ci.length j→o9 cacc j=o9 c1 j
  al1:∀ j,j∈al.map Prod.fst→o9 cacc j=if listed.getD j false=true then o9 (rA ws al) j else none
  lp:∀ j,a2Q lps ci.length j→o9 cacc j=(if listed.getD j false=true then o9 c1 j else none)∧(listed.getD j false=true→a2Q lps k j)
  due:∀ m i o s,m≤k→i∈lps.getD m []→l[i]?=some o→ss[i]?=some s→∃ r,o9 c1 i=some r∧b7T P N C σ (HT i) (c1++full) o s r
  H:H=Zs++(hA (fun j=>listed.getD j false) ws al++Hr)
  pl:a3x P C N σ bs HT (fun k=>I7 l ss (lps.getD k [])) H0 full al F (cp.drop k) k c1 Zs Hr
theorem Z4 {listed:Array Bool} (i:Nat) {j:Nat} (h:listed.getD j false=true):(listed.setIfInBounds i true).getD j false=true:=by
 by_cases e:j=i
 ·subst e
  rcases Nat.lt_or_ge j listed.size with h2|h2
  ·exact G3 h2
  ·simp [Array.getElem?_eq_none h2] at h
 ·rw [getD_set_ne false (Ne.symm e)];exact h
section
variable {P:Program} {C:Ctx} {N n:Nat} {σ:x7} {bs:Nat→List Bool} {HT:Nat→(j7×(Nat→Bool×D6))→j7} {lps:List (List Nat)} {full:List (Nat×AV)} {F:List (Nat×AV)→j7→j7→Prop} {l:List Oper} {cp:List (Nat×Oper×List (Nat×Nat))} {kA:Nat} {ss:List (List (Nat×Nat))} {al:List (Nat×AT)} {ci:List Nat} {H0:j7} {listed:Array Bool} {cacc c1:List (Nat×AV)} {H Zs Hr:j7} {k:Nat} {ws:Nat→Nat}
structure OkZ (l:List Oper) (n:Nat) (ss:List (List (Nat×Nat))) (ks ci:List Nat) (lps:List (List Nat)) (kA:Nat):Prop where
 chain:W3 l.toArray n ss ci=true
 cg:∀ i∈ci,a2l l.toArray i=true
 ksn:∀ i∈ks,i < n∧i∉ci
 c4C:∀ m i,m < kA→ci[m]?=some i→Y0 ss i ks=true
 c3p:∀ m i,kA≤m→ci[m]?=some i→∀ j∈ks,Region.waitsFor .any l.toArray i j=true
 lp:∀ m i,m≤ci.length→i∈lps.getD m []→i < n∧i∉ci∧i∉ks∧a2l l.toArray i=true∧Y0 ss i ks=true∧(m≠0∧∃ j,Region.waitsFor .any l.toArray i j=true∧((∃ m',m=m'+1∧ci[m']?=some j)∨j∈lps.getD m [])) ∧
  ∀ m2,m < m2→m2≤ci.length→(∀ m3 j,m2=m3+1→ci[m3]?=some j→Y0 ss i [j]=true)∧Y0 ss i (lps.getD m2 [])=true∧i∉lps.getD m2 []
 late:∀ m,m≤ci.length→b1F ss (lps.getD m [])=true
theorem okZ {ks:List Nat} (h:a8u l.toArray n ss ks ci lps kA=true):OkZ l n ss ks ci lps kA:=by
 simp only [a8u,Bool.and_eq_true] at h
 obtain⟨⟨⟨⟨⟨h1,h2⟩,h3⟩,h4⟩,h4b⟩,h5⟩:=h
 refine⟨h1,fun i hi=>List.all_eq_true.1 h2 i hi,fun i hi => ?_,fun m i hm hi=>List.all_eq_true.1 h4 i (List.mem_of_getElem? (i:=m) (by rw [List.getElem?_take,if_pos hm];exact hi)),
  fun m i hm hi j hj=>List.all_eq_true.1 (List.all_eq_true.1 h4b i (List.mem_of_getElem? (i:=m - kA) (by rw [List.getElem?_drop,show kA+(m - kA)=m by omega];exact hi))) j hj,fun m i hm hi => ?_,fun m hm => ?_⟩
 ·have:=List.all_eq_true.1 h3 i hi
  simp only [Bool.and_eq_true,Bool.not_eq_true',List.contains_eq_mem,decide_eq_false_iff_not] at this
  exact⟨by simpa [Nat.blt_eq] using this.1,this.2⟩
 ·have h6:=List.all_eq_true.1 h5 m (List.mem_range.2 (by omega))
  rw [Bool.and_eq_true] at h6
  have h7:=List.all_eq_true.1 h6.1 i hi
  simp only [Bool.and_eq_true,Bool.not_eq_true',List.contains_eq_mem,decide_eq_false_iff_not] at h7
  obtain⟨⟨⟨⟨⟨⟨a1,a2⟩,a3⟩,a4⟩,a5⟩,a6⟩,a7⟩:=h7
  refine⟨by simpa [Nat.blt_eq] using a1,a2,a3,a4,a5,?_,fun m2 hlt hle => ?_⟩
  ·cases m with
   | zero=>cases a6
   | succ m' =>
    simp only [Bool.or_eq_true] at a6
    refine⟨by omega,?_⟩
    rcases a6 with a6|a6
    ·cases hc:ci[m']? with
     | none=>rw [hc] at a6;cases a6
     | some j=>rw [hc] at a6;exact⟨j,a6,.inl ⟨m',rfl,hc⟩⟩
    ·obtain⟨j,hj,hw⟩:=List.any_eq_true.1 a6
     exact⟨j,hw,.inr hj⟩
  ·have h8:=List.all_eq_true.1 a7 m2 (List.mem_range.2 (by omega))
   simp only [Bool.or_eq_true,Bool.and_eq_true,Bool.not_eq_true',decide_eq_false_iff_not] at h8
   rcases h8 with h8|h8
   ·have:=Nat.le_of_ble_eq_true h8;omega
   ·refine⟨fun m3 j e hj => ?_,h8.1.2,h8.2⟩
    subst e
    have:=h8.1.1
    simp only [hj] at this
    exact this
 ·have h6:=List.all_eq_true.1 h5 m (List.mem_range.2 (by omega))
  rw [Bool.and_eq_true] at h6
  exact h6.2
theorem a7j (i:Nat):Y0 ss i []=true:=by
 unfold Y0
 cases ss[i]? with
 | none=>rfl
 | some s=>simp
theorem OkZ.zero {ks:List Nat} (h:OkZ l n ss ks ci lps kA):OkZ l n ss (([]:List (Nat×AT)).map Prod.fst) ci lps ci.length:=by
 refine⟨h.chain,h.cg,fun i hi=>(by cases hi),fun m i _ _=>a7j i,fun m i hm hi => ?_,fun m i hm hi => ?_,h.late⟩
 ·have:=(List.getElem?_eq_some_iff.1 hi).1;omega
 ·obtain⟨b1,b2,b3,b4,b5,b6,b7⟩:=h.lp m i hm hi
  exact⟨b1,b2,by simp,b4,a7j i,b6,b7⟩
theorem b3y {q q' j:Nat} (h:a2Q lps q j) (hq:q≤q'):a2Q lps q' j:=by obtain⟨m,h1,h2⟩:=h;exact⟨m,Nat.le_trans h1 hq,h2⟩
theorem a9r (hz:OkZ l n ss (al.map Prod.fst) ci lps kA) {m q j:Nat} (hm:m≤ci.length) (hq:q≤ci.length) (h:j∈lps.getD m []) (hl:a2Q lps q j):m≤q:=by
 obtain⟨m2,h1,h2⟩:=hl
 rcases Nat.lt_or_ge m2 m with h3|h3
 ·exact absurd h ((hz.lp m2 j (by omega) h2).2.2.2.2.2.2 m h3 hm).2.2
 ·omega
theorem a1k.pure (hz:OkZ l n ss (al.map Prod.fst) ci lps kA) {i:Nat} (h:a1k P C N σ bs HT l ss lps H0 full F al ci cp k c1 Zs Hr ws listed cacc H) (h1:i∉ci) (h2:i∉al.map Prod.fst) (h3:¬a2Q lps ci.length i):a1k P C N σ bs HT l ss lps H0 full F al ci cp k c1 Zs Hr ws (listed.setIfInBounds i true) cacc H:=by
 have hput:∀ j,j≠i→(listed.setIfInBounds i true).getD j false=listed.getD j false:=fun j hj=>getD_set_ne false (Ne.symm hj)
 refine⟨fun j hj hl q hq=>Z4 i (h.w j hj (by rwa [hput j (fun e=>h1 (e▸hj))] at hl) q hq),h.kle,h.kp,fun m j hj => ?_,h.al0,h.oth,fun j hj => ?_,fun j hj => ?_,h.due,?_,h.pl⟩
 ·rw [hput j (fun e=>h1 (e▸List.mem_of_getElem? hj))];exact h.ch m j hj
 ·rw [hput j (fun e=>h2 (e▸hj))];exact h.al1 j hj
 ·rw [hput j (fun e=>h3 (e▸hj))];exact h.lp j hj
 ·rw [h.H]
  congr 2
  exact a1U fun p hp=>⟨(hput p.1 (fun e=>h2 (e▸List.mem_map_of_mem hp))).symm,rfl⟩
theorem a1k.alloc (hz : OkZ l n ss (al.map Prod.fst) ci lps kA) {p : Nat × AT} (hn : (al.map Prod.fst).Nodup) (hp : p ∈ al) (h : a1k P C N σ bs HT l ss lps H0 full F al ci cp k c1 Zs Hr ws listed cacc H) (hun : listed.getD p.1 false = false) (hlt : p.1 < listed.size) :
    ∃ F',u4 H X3 F'∧∀ b,a1k P C N σ bs HT l ss lps H0 full F al ci cp k c1 Zs Hr (upd ws p.1 b) (listed.setIfInBounds p.1 true) ((p.1,p.2.res b)::cacc) (F' (p.2.blk b)):=by
  have hput:∀ j,j≠p.1→(listed.setIfInBounds p.1 true).getD j false=listed.getD j false:=fun j hj=>getD_set_ne false (Ne.symm hj)
  have hset:(listed.setIfInBounds p.1 true).getD p.1 false=true:=G3 hlt
  have hpm:p.1∈al.map Prod.fst:=List.mem_map_of_mem hp
  have hd:p.1∉ci:=(hz.ksn p.1 hpm).2
  have hlp:¬a2Q lps ci.length p.1:=fun ⟨m,hm,hx⟩=>(hz.lp m p.1 hm hx).2.2.1 hpm
  obtain⟨F',h1,h2⟩:=b0o (f:=fun j=>listed.getD j false) (ws:=ws) (H0:=Hr) hn hp hun
  have hH:=h.H
  subst hH
  refine⟨fun X=>Zs++F' X,u4.app h1,fun b=>⟨fun j hj hl q hq=>Z4 p.1 (h.w j hj (by rwa [hput j (fun e=>hd (e▸hj))] at hl) q hq),h.kle,h.kp,fun m j hj => ?_,h.al0,fun j hj hj2 => ?_,fun j hj => ?_,fun j hj => ?_,h.due,?_,h.pl⟩⟩
  · rw [hput j (fun e=>hd (e▸List.mem_of_getElem? hj))];exact h.ch m j hj
  · rw [y2,if_neg (fun e:p.1=j=>hj (e▸hpm))];exact h.oth j hj hj2
  · rw [y2]
    by_cases e:p.1=j
    · subst e
      rw [if_pos rfl,if_pos hset,a8s hn hp]
      simp [upd]
    · rw [if_neg e,hput j (Ne.symm e),h.al1 j hj,a2x (ws:=ws) (ws':=upd ws p.1 b) (by simp [upd,Ne.symm e])]
  · have hne:p.1≠j:=fun e=>hlp (e▸hj)
    rw [y2,if_neg hne,hput j (Ne.symm hne)];exact h.lp j hj
  · show Zs++F' (p.2.blk b)=_
    rw [h2 b]
    congr 2
    refine a1U fun q hq=>⟨?_,rfl⟩
    by_cases e:q.1=p.1
    · rw [e,if_pos rfl,hset]
    · rw [if_neg e,hput _ e]
theorem a1k.env (h : a1k P C N σ bs HT l ss lps H0 full F al ci cp k c1 Zs Hr ws listed cacc H) {i : Nat} {o : Oper} {s : List (Nat × Nat)} (hok : a1n l.toArray n ss i = true) (hol : l[i]? = some o) (hs : ss[i]? = some s) (hsf : Y0 ss i (al.map Prod.fst) = true) (hw : ∀ j, Region.waitsFor .any l.toArray i j = true → listed.getD j false = true) :
    E3 σ (cacc++full) s (C6 o)=E3 σ (c1++full) s (C6 o):=a0d fun t ht j hj=>by
  unfold a1n at hok
  have ho':l.toArray[i]?=some o:=by simpa using hol
  simp only [ho',hs,Bool.and_eq_true] at hok
  have h6:=List.all_eq_true.1 hok.1 t ht
  unfold a0V at h6
  simp only [hj,Bool.and_eq_true] at h6
  have hlj:=hw j h6.2
  rw [B3,B3]
  by_cases hjl:a2Q lps ci.length j
  · rw [(h.lp j hjl).1,if_pos hlj]
  · rw [h.oth j (a1V hsf hs hj) hjl]
theorem a1k.late (hz : OkZ l n ss (al.map Prod.fst) ci lps kA) (hok : ∀ i, i < n → a1n l.toArray n ss i = true) {m i : Nat} {o : Oper} {s : List (Nat × Nat)} (hm : m ≤ ci.length) (him : i ∈ lps.getD m [])
    (h:a1k P C N σ bs HT l ss lps H0 full F al ci cp k c1 Zs Hr ws listed cacc H) (hol:l[i]?=some o) (hs:ss[i]?=some s) (hw:∀ j,Region.waitsFor .any l.toArray i j=true→listed.getD j false=true) (hlt:i < listed.size) (hfam:∃ q,H=HT i q) (hnone:o9 full i=none) :
    o.guard=none∧A0 P C N o (E3 σ (cacc++full) s (C6 o)) H (fun r H'=>(∀ r0,o9 full i=some r0→r=r0)∧a1k P C N σ bs HT l ss lps H0 full F al ci cp k c1 Zs Hr ws (listed.setIfInBounds i true) ((i,r)::cacc) H'):=by
  obtain⟨b1,b2,b3,b4,b5,⟨hm0,j,hwj,hcase⟩,b7⟩:=hz.lp m i hm him
  have hmk:m≤k:=by
    rcases hcase with ⟨m',e,hc⟩|hj
    · have:=(h.ch m' j hc).1 (hw j hwj);omega
    · exact a9r hz hm h.kle hj ((h.lp j ⟨m,hm,hj⟩).2 (hw j hwj))
  obtain⟨r,hr1,hr2⟩:=h.due m i o s hmk him hol hs
  have hg:o.guard=none:=by
    unfold a2l at b4
    simp only [show l.toArray[i]?=some o by simpa using hol] at b4
    exact Option.isNone_iff_eq_none.1 b4
  refine⟨hg,?_⟩
  rw [h.env (hok i b1) hol hs b5 hw]
  obtain⟨q,rfl⟩:=hfam
  have hput:∀ j,j≠i→(listed.setIfInBounds i true).getD j false=listed.getD j false:=fun j hj=>getD_set_ne false (Ne.symm hj)
  have hset:(listed.setIfInBounds i true).getD i false=true:=G3 hlt
  have hil:a2Q lps ci.length i:=⟨m,hm,him⟩
  refine A0.ofP (fun ρ I L hs' a w ha hm'=>(hr2 q ρ I L hs' a w ha hm').mono ?_)
  rintro v w' ⟨J,X,q1,q2,q3,q4,q5,rfl,r',q6,rfl⟩
  refine⟨J,[],q1,q2,q3,q4,q5,a8,r',q6,fun r0 h0=>(by rw [hnone] at h0;cases h0),⟨fun j hj hl q hq=>Z4 i (h.w j hj (by rwa [hput j (fun e=>b2 (e▸hj))] at hl) q hq),h.kle,h.kp,fun m2 j hj => ?_,h.al0,fun j hj hj2 => ?_,fun j hj => ?_,fun j hj => ?_,h.due,?_,h.pl⟩⟩
  · rw [hput j (fun e=>b2 (e▸List.mem_of_getElem? hj))];exact h.ch m2 j hj
  · rw [y2,if_neg (fun e:i=j=>hj2 (e▸hil))];exact h.oth j hj hj2
  · have hne:i≠j:=fun e=>b3 (e▸hj)
    rw [y2,if_neg hne,hput j (Ne.symm hne)];exact h.al1 j hj
  · by_cases e2:i=j
    · subst e2
      rw [y2,if_pos rfl,if_pos hset,hr1]
      exact⟨a8,fun _=>⟨m,hmk,him⟩⟩
    · rw [y2,if_neg e2,hput j (Ne.symm e2)];exact h.lp j hj
  · rw [h.H]
    congr 2
    exact a1U fun p hp=>⟨(hput p.1 (fun e=>b3 (e▸List.mem_map_of_mem hp))).symm,rfl⟩
theorem a1k.chain (hz : OkZ l n ss (al.map Prod.fst) ci lps kA) (hok : ∀ i, i < n → a1n l.toArray n ss i = true) {i : Nat} {o : Oper} {s : List (Nat × Nat)} (hcl : ∀ (m i : Nat) (o : Oper) (s : List (Nat × Nat)), m < cp.length → ci[m]? = some i → l[i]? = some o → ss[i]? = some s → cp[m]? = some (i, o, s)) (hkA : cp.length ≤ kA ∨ kA = ci.length) (hkc : k < cp.length) (hnd : ci.Nodup) (hin : i < n)
    (h:a1k P C N σ bs HT l ss lps H0 full F al ci cp k c1 Zs Hr ws listed cacc H) (hi:i∈ci) (hol:l[i]?=some o) (hs:ss[i]?=some s) (hun:listed.getD i false=false) (hw:∀ j,Region.waitsFor .any l.toArray i j=true→listed.getD j false=true) (hlt:i < listed.size) :
    o.guard=none∧A0 P C N o (E3 σ (cacc++full) s (C6 o)) H (fun r H'=>(∀ r0,o9 full i=some r0→r=r0)∧∃ c1' Zs' Hr',a1k P C N σ bs HT l ss lps H0 full F al ci cp (k+1) c1' Zs' Hr' ws (listed.setIfInBounds i true) ((i,r)::cacc) H'):=by
  have hg:o.guard=none:=by
    have:=hz.cg i hi
    unfold a2l at this
    simp only [show l.toArray[i]?=some o by simpa using hol] at this
    exact Option.isNone_iff_eq_none.1 this
  have hia:i∉al.map Prod.fst:=fun hx=>(hz.ksn i hx).2 hi
  have hilp:¬a2Q lps ci.length i:=fun ⟨m,hm,hx⟩=>(hz.lp m i hm hx).2.1 hi
  have hput:∀ j,j≠i→(listed.setIfInBounds i true).getD j false=listed.getD j false:=fun j hj=>getD_set_ne false (Ne.symm hj)
  obtain⟨m,hm⟩:=List.mem_iff_getElem?.1 hi
  have hml:m < ci.length:=(List.getElem?_eq_some_iff.1 hm).1
  have hmk:¬m < k:=fun hx=>by have:=(h.ch m i hm).2 hx;rw [hun] at this;cases this
  have hkm:m≤k:=by
    have hch:=hz.chain
    unfold W3 at hch
    cases m with
    | zero=>omega
    | succ mj =>
      have h1:=List.all_eq_true.1 hch (mj+1) (List.mem_range.2 hml)
      simp only [hm,Bool.and_eq_true] at h1
      cases hj:ci[mj]? with
      | none=>simp [hj] at h1
      | some j =>
        simp only [hj,Bool.and_eq_true] at h1
        have:=(h.ch mj j hj).1 (hw j h1.2.2)
        omega
  obtain rfl:m=k:=by omega
  have hcc:=hcl m i o s hkc hm hol hs
  have hdrop:cp.drop m=(i,o,s)::cp.drop (m+1):=by
    have hlt:=(List.getElem?_eq_some_iff.1 hcc).1
    rw [List.drop_eq_getElem_cons hlt]
    congr 1
    rw [List.getElem?_eq_getElem hlt] at hcc
    exact Option.some.inj hcc
  have hpl:=h.pl
  rw [hdrop,a3x] at hpl
  replace hpl:=hpl.2 (hA (fun j=>listed.getD j false) ws al)
  refine⟨hg,?_⟩
  rw [h.env (hok i hin) hol hs (hz.c4C m i (by omega) hm) hw]
  have hnext : ∀ r Zs' Hr', prom P N C σ HT full (I7 l ss (lps.getD (m + 1) [])) ((i, r) :: c1) (fun c => a3x P C N σ bs HT (fun k => I7 l ss (lps.getD k [])) H0 full al F (cp.drop (m + 1)) (m + 1) c Zs' Hr') →
      ∃ c1' Zs'' Hr'',a1k P C N σ bs HT l ss lps H0 full F al ci cp (m+1) c1' Zs'' Hr'' ws (listed.setIfInBounds i true) ((i,r)::cacc) (Zs'++(hA (fun j=>listed.getD j false) ws al++Hr')):=fun r Zs' Hr' hq=>by
    obtain⟨c',k1,k2,k3⟩:=a4Y (hz.late (m+1) (by omega)) hq
    have hLlp:∀ j,j∈lps.getD (m+1) []→a2Q lps ci.length j:=fun j hj=>⟨m+1,by omega,hj⟩
    refine⟨c',Zs',Hr',fun j hj hl q hwq => ?_,by omega,by omega,fun m' i' hm' => ?_,fun j hj => ?_,fun j hj hj2 => ?_,fun j hj => ?_,fun j hj => ?_,fun m2 i2 o2 s2 hm2 hi2 ho2 hs2 => ?_,?_,k1⟩
    · by_cases e:j=i
      · subst e;exact Z4 j (hw q hwq)
      · exact Z4 i (h.w j hj (by rwa [hput j e] at hl) q hwq)
    · by_cases e:i'=i
      · subst e
        have h1:=(List.getElem?_eq_some_iff.1 hm')
        have h2:=(List.getElem?_eq_some_iff.1 hm)
        have:m'=m:=(List.getElem_inj (h₀:=h1.1) (h₁:=h2.1) hnd).1 (by rw [h1.2,h2.2])
        subst this
        exact⟨fun _=>by omega,fun _=>G3 hlt⟩
      · rw [hput i' e,h.ch m' i' hm']
        have:m'≠m:=by rintro rfl;rw [hm] at hm';exact e (Option.some.inj hm').symm
        omega
    · rw [k2 j (fun hx=>(hz.lp (m+1) j (by omega) hx).2.2.1 hj),y2,if_neg (fun e=>hia (by rw [e];exact hj))];exact h.al0 j hj
    · rw [k2 j (fun hx=>hj2 (hLlp j hx)),y2,y2,h.oth j hj hj2]
    · have hji:j≠i:=fun e=>hia (e▸hj)
      rw [y2,if_neg (Ne.symm hji),hput j hji];exact h.al1 j hj
    · have hji:j≠i:=fun e=>hilp (e▸hj)
      rw [y2,if_neg (Ne.symm hji),hput j hji,(h.lp j hj).1]
      refine⟨?_,fun hl=>b3y ((h.lp j hj).2 hl) (Nat.le_succ _)⟩
      split
      · rename_i hl
        have hkk:=(h.lp j hj).2 hl
        rw [k2 j (fun hx=>by have:=a9r hz (by omega) (by omega) hx hkk;omega),y2,if_neg (Ne.symm hji)]
      · rfl
    · rcases Nat.lt_or_ge m m2 with hlt2|hge2
      · obtain rfl:m2=m+1:=by omega
        exact k3 i2 o2 s2 hi2 ho2 hs2
      · obtain⟨r2,d1,d2⟩:=h.due m2 i2 o2 s2 hge2 hi2 ho2 hs2
        obtain⟨e1,e2,e3⟩:=(hz.lp m2 i2 (by omega) hi2).2.2.2.2.2.2 (m+1) (by omega) (by omega)
        have hi2i:i2≠i:=fun e=>(hz.lp m2 i2 (by omega) hi2).2.1 (e▸hi)
        refine⟨r2,by rw [k2 i2 e3,y2,if_neg (Ne.symm hi2i)];exact d1,fun Hp => ?_⟩
        have he:E3 σ (c'++full) s2 (C6 o2)=E3 σ (c1++full) s2 (C6 o2):=a0d fun t _ j hj=>by
          have hj1:=a1V (e1 m i rfl hm) hs2 hj
          have hj2:=a1V e2 hs2 hj
          have hji:j≠i:=fun e=>hj1 (by simp [e])
          rw [B3,B3,k2 j hj2,y2,if_neg (Ne.symm hji)]
        rw [he];exact d2 Hp
    · congr 2
      exact a1U fun p hp=>⟨(hput p.1 (fun e=>hia (e▸List.mem_map_of_mem hp))).symm,rfl⟩
  have hH:=h.H
  subst hH
  cases hr:o9 full i with
  | none =>
    rw [hr] at hpl
    exact hpl.mono fun r H' ⟨Zs',Hr',e,hq⟩=>⟨fun r0 h0=>(by cases h0),e▸hnext r Zs' Hr' hq⟩
  | some r0 =>
    rw [hr] at hpl
    exact hpl.mono fun r H' ⟨er,Zs',Hr',e,hq⟩=>⟨fun q h0=>by cases h0;exact er,by subst er;exact e▸hnext _ Zs' Hr' hq⟩
theorem a1k.toB {F2 : List (Nat × AV) → j7 → j7 → Prop} {cp2 : List (Nat × Oper × List (Nat × Nat))} (hz : OkZ l n ss (al.map Prod.fst) ci lps kA) (hnal : (al.map Prod.fst).Nodup)
    (hF:∀ c Zs Hr,F c Zs Hr→a3x P C N σ bs HT (fun k=>I7 l ss (lps.getD k [])) H0 full [] F2 (cp2.drop cp.length) cp.length c Zs Hr)
    (h:a1k P C N σ bs HT l ss lps H0 full F al ci cp k c1 Zs Hr ws listed cacc H) (hk:k=cp.length) (hcp:cp.length≤cp2.length) (hall:∀ j∈al.map Prod.fst,listed.getD j false=true) :
    a1k P C N σ bs HT l ss lps H0 full F2 [] ci cp2 k (c1++rA ws al) (Zs++(al.map fun p=>p.2.blk (ws p.1))) Hr ws listed cacc H:=by
  subst hk
  have hpl:=h.pl
  rw [List.drop_length,a3x] at hpl
  refine⟨h.w,h.kle,hcp,h.ch,fun j hj=>(by cases hj),fun j _ hj2 => ?_,fun j hj=>(by cases hj),fun j hj => ?_,fun m i o s hm hi ho hs => ?_,?_,hF _ _ _ (hpl.2 ws)⟩
  · rw [B3]
    by_cases hja:j∈al.map Prod.fst
    · rw [h.al0 j hja,h.al1 j hja,if_pos (hall j hja)]
    · rw [h.oth j hja hj2,U2 hja]
      cases o9 c1 j<;>rfl
  · have hja:j∉al.map Prod.fst:=fun hx=>by
      obtain⟨m,hm,hi⟩:=hj
      exact(hz.lp m j hm hi).2.2.1 hx
    rw [B3,(h.lp j hj).1,U2 hja]
    refine⟨?_,(h.lp j hj).2⟩
    cases o9 c1 j<;>rfl
  · obtain⟨r,d1,d2⟩:=h.due m i o s hm hi ho hs
    have hsf:=(hz.lp m i (Nat.le_trans hm h.kle) hi).2.2.2.2.1
    refine⟨r,by rw [B3,d1],fun Hp => ?_⟩
    have he:E3 σ ((c1++rA ws al)++full) s (C6 o)=E3 σ (c1++full) s (C6 o):=a0d fun t _ j hj=>by
      have hj2:=a1V hsf hs hj
      rw [B3,B3,B3,U2 hj2]
      cases o9 c1 j<;>rfl
    rw [he];exact d2 Hp
  · rw [h.H,b3x fun p hp=>hall p.1 (List.mem_map_of_mem hp),List.append_assoc]
    rfl
theorem a1k.c0d {bks qs : List (List Bool)} {ks : List Nat} {i : Nat} (hq : c1o l.toArray n ks ci bks qs = true) (h : a1k P C N σ (fun k => bks.getD k []) HT l ss lps H0 full F al ci cp k c1 Zs Hr ws listed cacc H) (hin : i < n) (hna1 : i ∉ ks) (hnc : i ∉ ci) (hun : listed.getD i false = false) :
    ∃ q:j7×(Nat→Bool×D6),H=q.1++U1 (qs.getD i []) H0 q.2 0:=by
  obtain⟨f,hf⟩:=h.pl.fam
  have hk:=h.kle
  have hle:leB (bks.getD k []) (qs.getD i [])=true:=by
    have h1:=List.all_eq_true.1 hq i (List.mem_range.2 hin)
    simp only [Bool.or_eq_true,List.contains_eq_mem,decide_eq_true_eq] at h1
    rcases h1 with (h1|h1)|h1
    · exact absurd h1 hna1
    · exact absurd h1 hnc
    · have h2:=List.all_eq_true.1 h1 k (List.mem_range.2 (by omega))
      simp only [Bool.or_eq_true] at h2
      rcases h2 with h2|h2
      · obtain⟨m,hm,hw⟩:=List.any_eq_true.1 h2
        have hmk:=List.mem_range.1 hm
        cases hci:ci[m]? with
        | none=>rw [hci] at hw;cases hw
        | some j =>
          rw [hci] at hw
          have h3:=h.w j (List.mem_of_getElem? hci) ((h.ch m j hci).2 hmk) i hw
          rw [hun] at h3;cases h3
      · exact h2
  obtain⟨f',hf'⟩:=b0p hle H0 f 0
  exact⟨(Zs++hA (fun j=>listed.getD j false) ws al,f'),by rw [h.H,hf,hf',List.append_assoc]⟩
theorem b1G (a b:List Nat):I7 l ss (a++b)=I7 l ss a++I7 l ss b:=by
 induction a with
 | nil=>rfl
 | cons i a ih =>
  simp only [List.cons_append,I7,ih]
  split<;>rfl
theorem a4A:∀ (c:List Nat),(∀ i∈c,i < l.length∧i < ss.length)→(I7 l ss c).length=c.length
 | [],_=>rfl
 | i::c,h=>by
  obtain⟨h1,h2⟩:=h i List.mem_cons_self
  simp only [I7,List.getElem?_eq_getElem h1,List.getElem?_eq_getElem h2,List.length_cons]
  rw [a4A c (fun j hj=>h j (List.mem_cons_of_mem _ hj))]
end
theorem J0.a0O {P : Program} {C : Ctx} {N : Nat} {Q : Exit → x7 → j7 → Prop} {σ : x7} {H : j7} {id : Nat} {l : List Oper} (bks : List (List Bool)) (qs : List (List Bool)) (lps : List (List Nat)) (al : List (Nat × AT)) (kA : Nat) (hm : P.follows .mixedOrders = true) (n : Nat) (ss : List (List (Nat × Nat))) (ci : List Nat)
    (hN:K2 N l=true) (hB:a2u l.toArray n ss=true) (hss:Nat.ble n ss.length=true) (hC:a8u l.toArray n ss (al.map Prod.fst) ci lps kA=true) (hkA:Nat.ble kA ci.length=true) (hnd:ci.Nodup) (hna:(al.map Prod.fst).Nodup)
    (hal:∀ p∈al,∀ o,l[p.1]?=some o→o.guard=none∧∀ σ' H',A0 P C N o σ' H' (fun r H''=>∃ b,r=p.2.res b∧H''=p.2.blk b::H'))
    (hq:c1o l.toArray n (al.map Prod.fst) ci bks qs=true) (hlen:Nat.ble lps.length (ci.length+1)=true)
    (h:a5C P N C σ (fun i (q:j7×(Nat→Bool×D6))=>q.1++U1 (qs.getD i []) H q.2 0) (al.map Prod.fst++(lps.flatten++ci)) (fun accP=>((al.map Prod.fst++lps.flatten).all fun i=>(o9 accP i).isNone)=true ∧
      a3x P C N σ (fun k=>bks.getD k []) (fun i (q:j7×(Nat→Bool×D6))=>q.1++U1 (qs.getD i []) H q.2 0) (fun k=>I7 l ss (lps.getD k [])) H accP al
        (a3x P C N σ (fun k=>bks.getD k []) (fun i (q:j7×(Nat→Bool×D6))=>q.1++U1 (qs.getD i []) H q.2 0) (fun k=>I7 l ss (lps.getD k [])) H accP []
          (fun cacc Zs Hr=>D0 P C N l.toArray Q (l.drop n) (a2a (cacc++accP) (l.take n) 0 σ) (Zs++Hr)) (I7 l ss (ci.drop kA)) kA) (I7 l ss (ci.take kA)) 0 [] [] H) (l.take n) ss 0 []) :
    J0 P C N (.region id l.toArray true) Q σ H := .c19 (al:=al) (by
  have hB0:=hB
  simp only [a2u,Bool.and_eq_true,Bool.or_eq_true] at hB
  obtain⟨⟨⟨⟨⟨hle,hback⟩,hok⟩,hdst⟩,htail⟩,hseq⟩:=hB
  have hle':n≤l.length:=by simpa using Nat.le_of_ble_eq_true hle
  have hok':∀ i,i < n→a1n l.toArray n ss i=true:=fun i hi=>List.all_eq_true.1 hok i (List.mem_range.2 hi)
  have hssl:=Nat.le_of_ble_eq_true hss
  obtain⟨full,⟨hnone,hF⟩,_,hd⟩:=a4z (l.take n) ss 0 [] (fun j r hj=>by simp [o9] at hj) h
  have hz:=okZ hC
  have hC':=hz.chain
  unfold W3 at hC'
  have hcin:∀ i∈ci,i < n:=fun i hi=>by
    obtain⟨m,hm⟩:=List.mem_iff_getElem?.1 hi
    have h1:=List.all_eq_true.1 hC' m (List.mem_range.2 (List.getElem?_eq_some_iff.1 hm).1)
    simp only [hm,Bool.and_eq_true] at h1
    simpa [Nat.blt_eq] using h1.1
  have hlpf:∀ i,i∈lps.flatten↔a2Q lps ci.length i:=fun i=>by
    have hll:=Nat.le_of_ble_eq_true hlen
    constructor
    · intro hi
      obtain⟨L,hL,hi⟩:=List.mem_flatten.1 hi
      obtain⟨m,hm,rfl⟩:=List.getElem_of_mem hL
      exact⟨m,by omega,by simpa [List.getD,hm] using hi⟩
    · rintro⟨m,_,hi⟩
      by_cases hm2:m < lps.length
      · simp [List.getD,hm2] at hi
        exact List.mem_flatten.2 ⟨_,List.getElem_mem hm2,hi⟩
      · simp [List.getD,hm2] at hi
  have hcl:=a4x (l:=l) (ss:=ss) ci (fun i hi=>⟨_,_,List.getElem?_eq_getElem (Nat.lt_of_lt_of_le (hcin i hi) hle'),List.getElem?_eq_getElem (Nat.lt_of_lt_of_le (hcin i hi) hssl)⟩)
  have hp:∀ i o s,i < n→i∉al.map Prod.fst++(lps.flatten++ci)→l[i]?=some o→ss[i]?=some s→∃ r,o9 full i=some r∧a2v P N C σ (fun q:j7×(Nat→Bool×D6)=>q.1++U1 (qs.getD i []) H q.2 0) full o s r:=fun i o s hi hic ho hsi=>by
    obtain⟨r,acc',h1,h2,h3⟩:=hd i o s (by rw [List.getElem?_take,if_pos hi];exact ho) hsi (by simpa using hic)
    rw [Nat.zero_add] at h1 h2 h3
    refine⟨r,h1,fun H' => ?_⟩
    have hoi:=hok' i hi
    unfold a1n at hoi
    have ho':l.toArray[i]?=some o:=by simpa using ho
    simp only [ho',hsi,Bool.and_eq_true] at hoi
    have hback':∀ j,Region.waitsFor .any l.toArray i j=true→j < i:=fun j hw=>by
      obtain⟨e,he,hb,heq⟩:=X8 ho' hw
      have hil:i < l.toArray.size:=(Array.getElem?_eq_some_iff.1 ho').1
      have h4:=List.all_eq_true.1 hback i (List.mem_range.2 hil)
      simp only [ho',Array.all_eq_true_iff_forall_mem] at h4
      have h5:=h4 e he
      rw [hb] at h5
      have:e.on < i:=by simpa [Nat.blt_eq] using h5
      omega
    have henv:∀ t∈C6 o,∀ j,J8 s t=some j→o9 acc' j=o9 full j:=fun t ht j hj=>by
      have h6:=List.all_eq_true.1 hoi.1 t ht
      unfold a0V at h6
      simp only [hj,Bool.and_eq_true] at h6
      exact h3 j (hback' j h6.2)
    have hdd:=h2 H'
    unfold a5g at hdd ⊢
    rw [←a0d henv]
    cases hg:o.guard with
    | none=>rw [hg] at hdd;exact hdd
    | some p =>
      obtain⟨g,want⟩:=p
      rw [hg] at hdd
      have h6:=hoi.2
      rw [hg] at h6
      simp only [Bool.and_eq_true] at h6
      simp only at hdd ⊢
      rw [←h3 g (hback' g h6.1.2)];exact hdd
  have hkA':=Nat.le_of_ble_eq_true hkA
  have hvalid:∀ c:List Nat,(∀ i∈c,i∈ci)→∀ i∈c,i < l.length∧i < ss.length:=fun c hc i hi=>⟨Nat.lt_of_lt_of_le (hcin i (hc i hi)) hle',Nat.lt_of_lt_of_le (hcin i (hc i hi)) hssl⟩
  have hlA:(I7 l ss (ci.take kA)).length=kA:=by
    rw [a4A _ (hvalid _ (fun i hi=>List.mem_of_mem_take hi)),List.length_take];omega
  have hlB:(I7 l ss ci).length=ci.length:=a4A _ (hvalid _ (fun i hi=>hi))
  have hdrop:(I7 l ss ci).drop (I7 l ss (ci.take kA)).length=I7 l ss (ci.drop kA):=by
    have:=b1G (l:=l) (ss:=ss) (ci.take kA) (ci.drop kA)
    rw [List.take_append_drop] at this
    rw [this,List.drop_left]
  have hclA:∀ (m i:Nat) (o:Oper) (s:List (Nat×Nat)),m < (I7 l ss (ci.take kA)).length→ci[m]?=some i→l[i]?=some o→ss[i]?=some s→(I7 l ss (ci.take kA))[m]?=some (i,o,s):=fun m i o s hm hi ho hs =>
    a4x (ci.take kA) (fun i hi=>by
      obtain⟨h1,h2⟩:=hvalid _ (fun i hi=>List.mem_of_mem_take hi) i hi
      exact⟨_,_,List.getElem?_eq_getElem h1,List.getElem?_eq_getElem h2⟩) m i o s (by rw [List.getElem?_take,if_pos (by omega)];exact hi) ho hs
  have hzB:=hz.zero
  let FB:List (Nat×AV)→j7→j7→Prop:=fun cacc Zs Hr=>D0 P C N l.toArray Q (l.drop n) (a2a (cacc++full) (l.take n) 0 σ) (Zs++Hr)
  let FA:List (Nat×AV)→j7→j7→Prop:=a3x P C N σ (fun k=>bks.getD k []) (fun i (q:j7×(Nat→Bool×D6))=>q.1++U1 (qs.getD i []) H q.2 0) (fun k=>I7 l ss (lps.getD k [])) H full [] FB (I7 l ss (ci.drop kA)) kA
  have htoB : ∀ {k c1 Zs Hr ws listed cacc H'}, a1k P C N σ (fun k => bks.getD k []) (fun i (q : j7 × (Nat → Bool × D6)) => q.1 ++ U1 (qs.getD i []) H q.2 0) l ss lps H full FA al ci (I7 l ss (ci.take kA)) k c1 Zs Hr ws listed cacc H' → k = kA → (∀ j ∈ al.map Prod.fst, listed.getD j false = true) →
      a1k P C N σ (fun k=>bks.getD k []) (fun i (q:j7×(Nat→Bool×D6))=>q.1++U1 (qs.getD i []) H q.2 0) l ss lps H full FB [] ci (I7 l ss ci) k (c1++rA ws al) (Zs++(al.map fun p=>p.2.blk (ws p.1))) Hr ws listed cacc H':=fun {k c1 Zs Hr ws listed cacc H'} hiv hk hall =>
    hiv.toB hz hna (fun c Zs Hr h=>by rw [hdrop,hlA];exact h) (by rw [hlA];exact hk) (by rw [hlA,hlB];exact hkA') hall
  refine J0.b7S (fun i (q:j7×(Nat→Bool×D6))=>q.1++U1 (qs.getD i []) H q.2 0) hm n ss (al.map Prod.fst++(lps.flatten++ci)) hN hB0 full
    (fun listed cacc H'=>(∃ k c1 Zs Hr ws,a1k P C N σ (fun k=>bks.getD k []) (fun i (q:j7×(Nat→Bool×D6))=>q.1++U1 (qs.getD i []) H q.2 0) l ss lps H full FA al ci (I7 l ss (ci.take kA)) k c1 Zs Hr ws listed cacc H') ∨
      ((∀ j∈al.map Prod.fst,listed.getD j false=true)∧∃ k c1 Zs Hr ws,a1k P C N σ (fun k=>bks.getD k []) (fun i (q:j7×(Nat→Bool×D6))=>q.1++U1 (qs.getD i []) H q.2 0) l ss lps H full FB [] ci (I7 l ss ci) k c1 Zs Hr ws listed cacc H')) ?_ hp ?_ ?_ ?_ ?_
  · refine .inl ⟨0,[],[],H,fun _=>0,fun j _ hl=>(by rw [getD_replicate_false] at hl;cases hl),Nat.zero_le _,Nat.zero_le _,fun m i hi=>⟨fun hl => ?_,fun h=>by omega⟩,fun j _=>rfl,fun j _ _=>rfl,fun j _ => ?_,fun j _=>⟨?_,fun hl => ?_⟩,fun m i o s hm hi => ?_,?_,hF⟩
    · rw [getD_replicate_false] at hl;cases hl
    · rw [if_neg (by rw [getD_replicate_false];decide)];rfl
    · rw [if_neg (by rw [getD_replicate_false];decide)];rfl
    · rw [getD_replicate_false] at hl;cases hl
    · obtain⟨_,_,_,_,_,⟨hm0,_⟩,_⟩:=hz.lp m i (by omega) hi
      omega
    · rw [List.nil_append]
      congr 1
      exact(List.map_congr_left fun p _=>by simp only [getD_replicate_false];rfl)
  · rintro listed cacc H' i hiv hin hnc hun
    rw [List.mem_append,List.mem_append,not_or,not_or] at hnc
    rcases hiv with ⟨k,c1,Zs,Hr,ws,hiv⟩|⟨_,k,c1,Zs,Hr,ws,hiv⟩
    · exact hiv.c0d hq hin hnc.1 hnc.2.2 hun
    · exact hiv.c0d hq hin hnc.1 hnc.2.2 hun
  · rintro listed cacc H' i hiv hni
    rw [List.mem_append,List.mem_append,not_or,not_or] at hni
    rcases hiv with ⟨k,c1,Zs,Hr,ws,hiv⟩|⟨hall,k,c1,Zs,Hr,ws,hiv⟩
    · exact .inl ⟨k,c1,Zs,Hr,ws,hiv.pure hz hni.2.2 hni.1 (fun hx=>hni.2.1 ((hlpf i).2 hx))⟩
    · exact .inr ⟨fun j hj=>Z4 i (hall j hj),k,c1,Zs,Hr,ws,hiv.pure hzB hni.2.2 (by simp) (fun hx=>hni.2.1 ((hlpf i).2 hx))⟩
  · rintro listed cacc H' i o s hiv hic hol hs hun hw hlt
    rcases List.mem_append.1 hic with hk|hc
    · obtain⟨p,hp,rfl⟩:=List.mem_map.1 hk
      obtain⟨hg,hop⟩:=hal p hp o hol
      rcases hiv with ⟨k,c1,Zs,Hr,ws,hiv⟩|⟨hall,_⟩
      · obtain⟨F',h1,h2⟩:=hiv.alloc hz hna hp hun hlt
        refine⟨hg,A0.c3k h1 ((hop _ _).mono fun r H'' ⟨b,hr,hH⟩=>⟨_,hH,fun r0 h0 => ?_,by rw [hr];exact .inl ⟨k,c1,Zs,Hr,_,h2 b⟩⟩)⟩
        have h3:=List.all_eq_true.1 hnone p.1 (List.mem_append_left _ hk)
        rw [h0] at h3;cases h3
      · rw [hall p.1 hk] at hun;cases hun
    · rcases List.mem_append.1 hc with hlp|hc
      · obtain⟨m,hm,him⟩:=(hlpf i).1 hlp
        have hlz:=hz.lp m i hm him
        have h3:=List.all_eq_true.1 hnone i (List.mem_append_right _ hlp)
        rcases hiv with ⟨k,c1,Zs,Hr,ws,hiv⟩|⟨hall,k,c1,Zs,Hr,ws,hiv⟩
        · obtain⟨hg,hop⟩:=hiv.late hz hok' hm him hol hs hw hlt (hiv.c0d hq hlz.1 hlz.2.2.1 hlz.2.1 hun) (Option.isNone_iff_eq_none.1 h3)
          exact⟨hg,hop.mono fun r H' ⟨q1,q2⟩=>⟨q1,.inl ⟨k,c1,Zs,Hr,ws,q2⟩⟩⟩
        · obtain⟨hg,hop⟩:=hiv.late hzB hok' hm him hol hs hw hlt (hiv.c0d hq hlz.1 hlz.2.2.1 hlz.2.1 hun) (Option.isNone_iff_eq_none.1 h3)
          exact⟨hg,hop.mono fun r H' ⟨q1,q2⟩=>⟨q1,.inr ⟨fun j hj=>Z4 i (hall j hj),k,c1,Zs,Hr,ws,q2⟩⟩⟩
      · obtain⟨m,hm⟩:=List.mem_iff_getElem?.1 hc
        have hml:m < ci.length:=(List.getElem?_eq_some_iff.1 hm).1
        have hstepB : (∀ j ∈ al.map Prod.fst, listed.getD j false = true) → ∀ {k c1 Zs Hr ws}, a1k P C N σ (fun k => bks.getD k []) (fun i (q : j7 × (Nat → Bool × D6)) => q.1 ++ U1 (qs.getD i []) H q.2 0) l ss lps H full FB [] ci (I7 l ss ci) k c1 Zs Hr ws listed cacc H' →
            o.guard=none∧A0 P C N o (E3 σ (cacc++full) s (C6 o)) H' (fun r H'=>(∀ r0,o9 full i=some r0→r=r0)∧((∃ k c1 Zs Hr ws,a1k P C N σ (fun k=>bks.getD k []) (fun i (q:j7×(Nat→Bool×D6))=>q.1++U1 (qs.getD i []) H q.2 0) l ss lps H full FA al ci (I7 l ss (ci.take kA)) k c1 Zs Hr ws (listed.setIfInBounds i true) ((i,r)::cacc) H') ∨
              ((∀ j∈al.map Prod.fst,(listed.setIfInBounds i true).getD j false=true)∧∃ k c1 Zs Hr ws,a1k P C N σ (fun k=>bks.getD k []) (fun i (q:j7×(Nat→Bool×D6))=>q.1++U1 (qs.getD i []) H q.2 0) l ss lps H full FB [] ci (I7 l ss ci) k c1 Zs Hr ws (listed.setIfInBounds i true) ((i,r)::cacc) H'))):=fun hall {k c1 Zs Hr ws} hiv=>by
          have hkc:k < (I7 l ss ci).length:=by
            rw [hlB]
            rcases Nat.lt_or_ge k ci.length with h|h
            · exact h
            · have:=(hiv.ch m i hm).2 (by omega)
              rw [hun] at this;cases this
          obtain⟨hg,hop⟩:=hiv.chain hzB hok' (fun m i o s _=>hcl m i o s) (.inr rfl) hkc hnd (hcin i hc) hc hol hs hun hw hlt
          exact⟨hg,hop.mono fun r H' ⟨q1,c1',Zs',Hr',q2⟩=>⟨q1,.inr ⟨fun j hj=>Z4 i (hall j hj),k+1,c1',Zs',Hr',ws,q2⟩⟩⟩
        rcases hiv with ⟨k,c1,Zs,Hr,ws,hiv⟩|⟨hall,k,c1,Zs,Hr,ws,hiv⟩
        · rcases Nat.lt_or_ge k (I7 l ss (ci.take kA)).length with hkc|hkc
          · obtain⟨hg,hop⟩:=hiv.chain hz hok' hclA (.inl (Nat.le_of_eq hlA)) hkc hnd (hcin i hc) hc hol hs hun hw hlt
            exact⟨hg,hop.mono fun r H' ⟨q1,c1',Zs',Hr',q2⟩=>⟨q1,.inl ⟨k+1,c1',Zs',Hr',ws,q2⟩⟩⟩
          · have hke:k=kA:=by have:=hiv.kp;omega
            have hmk:kA≤m:=by
              rcases Nat.lt_or_ge m k with h|h
              · have:=(hiv.ch m i hm).2 h
                rw [hun] at this;cases this
              · omega
            have hall:∀ j∈al.map Prod.fst,listed.getD j false=true:=fun j hj=>hw j (hz.c3p m i hmk hm j hj)
            exact hstepB hall (htoB hiv hke hall)
        · exact hstepB hall hiv
  · rintro listed cacc H' hiv hall
    have hlist:∀ j∈al.map Prod.fst,listed.getD j false=true:=fun j hj=>hall j (hz.ksn j hj).1
    have hend:∀ {k c1 Zs Hr ws},a1k P C N σ (fun k=>bks.getD k []) (fun i (q:j7×(Nat→Bool×D6))=>q.1++U1 (qs.getD i []) H q.2 0) l ss lps H full FB [] ci (I7 l ss ci) k c1 Zs Hr ws listed cacc H'→D0 P C N l.toArray Q (l.drop n) (a2a (cacc++full) (l.take n) 0 σ) H':=fun {k c1 Zs Hr ws} hiv=>by
      have hk:=hiv.kle
      have hk':k=ci.length:=by
        rcases Nat.lt_or_ge k ci.length with h|h
        · have:=(hiv.ch k _ (List.getElem?_eq_getElem h)).1 (hall _ (hcin _ (List.getElem_mem h)))
          omega
        · omega
      have hpl:=hiv.pl
      rw [hk',List.drop_eq_nil_of_le (Nat.le_of_eq hlB),a3x] at hpl
      have h2:D0 P C N l.toArray Q (l.drop n) (a2a ((c1++rA ws [])++full) (l.take n) 0 σ) ((Zs ++ [])++Hr):=hpl.2 ws
      rw [hiv.H]
      rw [List.append_nil] at h2
      rw [a2y (b:=(c1++rA ws [])++full) fun j => ?_]
      · exact h2
      · rw [B3,B3,B3]
        by_cases hjl:a2Q lps ci.length j
        · obtain⟨m,hm,him⟩:=hjl
          rw [(hiv.lp j ⟨m,hm,him⟩).1,if_pos (hall j (hz.lp m j hm him).1)]
          cases o9 c1 j<;>rfl
        · rw [hiv.oth j (by simp) hjl]
          cases o9 c1 j<;>rfl
    rcases hiv with ⟨k,c1,Zs,Hr,ws,hiv⟩|⟨_,k,c1,Zs,Hr,ws,hiv⟩
    · have hk':k=kA:=by
        have h1:=hiv.kp
        rw [hlA] at h1
        rcases Nat.lt_or_ge k kA with h|h
        · have hkl:k < ci.length:=by omega
          have:=(hiv.ch k _ (List.getElem?_eq_getElem hkl)).1 (hall _ (hcin _ (List.getElem_mem hkl)))
          omega
        · omega
      exact hend (htoB hiv hk' hlist)
    · exact hend hiv)
end Go.Ab
namespace Go.Ab
open Go.Fl Go.RowKit
open o7 (rep)
section rules
variable {P:Program} {C:Ctx} {N:Nat} {σ:x7} {H:j7} {d:Option Nat} {ty:TypeId} {ps:String} {af:Array Edge} {g:Option (Nat×Bool)} {K:AV→Prop} {KH:AV→j7→Prop} {x y z:Operand} {T T2 E S D U:TypeId} {o:Oper}
theorem j6.c0e {β:Type} {n:Nat} {s:o7 β} {ag:Bool} {a:I8 n β} (hn:n≤9223372036854775807) (hf:L5 P T=some (n,o7.size β,ag)) (hx:E6 C σ H x (.p a)) (k:K (.vc a.l)):j6 P N C ⟨d,.slice T x none none none,ty,ps,af,g⟩ σ H K :=
 .vk k (fun ρ I L hs=>by
  obtain⟨u,h2,b,o,cs,rfl,h3,h4⟩:=hx ρ I L hs
  refine .a74 hf h2 ⟨⟨some ⟨b,o,none⟩,by rw [a.h]⟩,cs,?_,h3⟩
  have hl:=h3.len
  rw [a.h] at hl ⊢
  exact Sl.a3o h4 hl (Nat.le_refl _) (by unfold maxLen;omega))
theorem b7U {m n by_ : Nat} {ρ : Env} {I : Im} {L : Lh} {zv : Value} {xs : List Value} {a0 : Option Addr} (hT : P.underlying T = some (.slice E)) (h1 : a8W P E by_ zv) (hz1 : zv.cells = #[zv]) (hone : zv.oneCell' = true) (hU : P.underlying U = some (.int .i64))
    (hx:ev ρ x=some (.slice a0 n n)) (hsl:Sl I 1 (.slice a0 n n) n xs) (hy:ev ρ y=some (i64 (m:Int))) (hb:(n+m)*by_≤140737488355328) (hn:n+m≤9223372036854775807) :
    OpX P N ⟨d,.call ⟨.builtin .append,#[x,y],#[T,U]⟩,ty,ps,af,g⟩ ρ I L (fun v' J X=>J=I∧((X = []∧m=0∧v' = .slice a0 n n)∨∃ Y,X = [Y]∧a1T E 1 v' (n+m) (xs++List.replicate m zv) Y)):=by
  obtain⟨inf,hi,hz,hsz,hs2⟩:=h1.get
  refine OpX.push fun a w ha hm => ?_
  have hzc:∀ q,Builtin.zeroCells zv.cells q=(List.replicate q zv).toArray:=fun q=>by
    apply Array.ext'
    simp [Builtin.zeroCells,hz1,Nat.mod_one]
    rw [List.map_const']
    simp
  have hw:IntKind.wrap .i64 (m:Int)=(m:Int):=wrap_i64 (by omega) (by omega)
  have hm00:¬((m:Int) < 0):=by omega
  have hw0:IntKind.wrap .i64 0=0:=wrap_i64 (by omega) (by omega)
  rw [←hs2] at hb
  have hmb:¬((m:Int)*(inf.bytes:Int)>281474976710656):=by
    have:m*inf.bytes≤(n+m)*inf.bytes:=Nat.mul_le_mul_right _ (by omega)
    have h2:((m*inf.bytes:Nat):Int)≤140737488355328:=Int.ofNat_le.2 (Nat.le_trans this hb)
    rw [Int.natCast_mul] at h2
    omega
  have hmb':¬(281474976710656 < (m:Int)*(inf.bytes:Int)):=hmb
  have hop:∀ r,(Builtin.append_ #[T,U] ty #[.slice a0 n n,i64 (m:Int)]).run P w=r→(execOp a.eval ⟨d,.call ⟨.builtin .append,#[x,y],#[T,U]⟩,ty,ps,af,g⟩).run P w=r.andThen fun v w' => .ok (.value v) w':=fun r hr=>by
    simp [execOp,resolve,invoke,builtin,ha.ev hx,ha.ev hy,hr]
  by_cases hm0:m=0
  · left
    subst hm0
    refine⟨.slice a0 n n,?_,a8,.inl ⟨a8,a8,a8⟩⟩
    rw [hop (.ok (.slice a0 n n) w)]
    · rfl
    · cases a0<;>simp [Builtin.append_,run_underlying hT,run_underlying hU,sizeOf,typeInfo,zeroValue,hi,hz,asInt,asIntOf,hw0,storeCells]
  · right
    have hlt:n < n+m:=by omega
    have hold:(Builtin.firstCells 1 n (.slice a0 n n)).run P w.drew = .ok xs.toArray w.drew:=by
      have hm':Mem I L w.drew:=⟨hm.im,hm.loc,hm.sep,hm.nodup⟩
      have:=(Src.sl (P:=P) (L:=L) hsl).cells w.drew hm' n (Nat.le_refl _)
      rw [←hsl.len,List.take_length] at this;exact this
    have hge:=grownCap_ge w (n+m) n E
    have hcm:grownCap w (n+m) n E≤maxLen:=grownCap_le_maxLen w _ _ E (by unfold maxLen;omega)
    have hfit:¬(281474976710656 < Builtin.nextslicecap (n+m) n*inf.bytes):=by have:=growslice_fits hlt hb;omega
    have hnle:¬(n+m≤n):=by omega
    have h63':¬(9223372036854775807 < ((n:Int)+(m:Int))):=by omega
    have hr : (Builtin.append_ #[T, U] ty #[.slice a0 n n, i64 (m : Int)]).run P w = .ok (.slice (some ⟨w.heap.size, 0, none⟩) (n + m) (grownCap w (n + m) n E))
        (w.drew.alloc (.cells (xs.toArray++(List.replicate m zv).toArray++Builtin.zeroCells zv.cells (grownCap w (n+m) n E - (n+m))) E)):=by
      simp [Builtin.append_,run_underlying hT,run_underlying hU,sizeOf,typeInfo,zeroValue,hi,hz,asInt,asIntOf,hw,hm00,hmb',hnle,h63',hfit,Question.forced,newRow,grownCap,hold,hsz,hzc,hm0]
    refine⟨.slice (some ⟨w.heap.size,0,none⟩) (n+m) (grownCap w (n+m) n E),w.drew.alloc (.cells (xs.toArray++(List.replicate m zv).toArray++Builtin.zeroCells zv.cells (grownCap w (n+m) n E - (n+m))) E),
      .cells (xs.toArray++(List.replicate m zv).toArray++Builtin.zeroCells zv.cells (grownCap w (n+m) n E - (n+m))) E,by rw [hop _ hr];rfl,rfl,rfl,rfl,rfl,rfl,.inr ⟨_,rfl,?_⟩⟩
    have hxl:xs.length=n*1:=hsl.len
    refine .inr ⟨w.heap.size,grownCap w (n+m) n E,(Builtin.zeroCells zv.cells (grownCap w (n+m) n E - (n+m))).toList,(0,0),a8,?_,?_,?_,hge,hcm,.inl a8⟩
    · congr 3
      apply Array.ext';simp
    · rw [List.length_append,hxl,List.length_replicate,Nat.add_mul];omega
    · rw [hzc]
      simp only [List.length_append,hxl,List.length_replicate]
      omega
theorem j6.b7V {α : Type} {r : o7 α} {i0 : Inhabited α} {by_ : Nat} {l : List α} {m : Int} {zv : Value} (hT : P.underlying T = some (.slice E)) (h1 : a8W P E by_ zv) (hz1 : zv.cells = #[zv]) (hone : zv.oneCell' = true) (hsz : o7.size α = 1)
    (hz:∀ I,rep I (default:α) [zv]) (hU:P.underlying U=some (.int .i64)) (hx:E6 C σ H x (.vc l)) (hy:E6 C σ H y (.v m)) (h0:0≤m) (hb:(l.length+m.toNat)*by_≤140737488355328) (hn:l.length+m.toNat≤9223372036854775807)
    (k:K (.v (l++List.replicate m.toNat (default:α)))):j6 P N C ⟨d,.call ⟨.builtin .append,#[x,y],#[T,U]⟩,ty,ps,af,g⟩ σ H K:=fun ρ I L hs=>by
  obtain⟨u,h2,⟨a0,rfl⟩,xs,hsl,hrl⟩:=hx ρ I L hs
  obtain⟨h3,_⟩:=hy.int hs
  have hm:m=((m.toNat:Nat):Int):=by omega
  rw [hm] at h3
  rw [hsz] at hsl
  refine OpX.frz fun a w ha hmm=>(b7U hT h1 hz1 hone hU h2 hsl h3 hb hn a w ha hmm).mono ?_
  rintro v' w' ⟨J,X,q1,q2,q3,q4,q5,rfl,hq⟩
  have hrz:∀ J',K0 J' (List.replicate m.toNat (default:α)) (List.replicate m.toNat zv):=fun J'=>by
    have:=a02 (hz J') m.toNat
    have e:∀ n,(List.replicate n [zv]).flatten=List.replicate n zv:=fun n=>by
      induction n with
      | zero=>rfl
      | succ n ih=>rw [List.replicate_succ,List.flatten_cons,ih,List.replicate_succ];rfl
    rwa [e] at this
  refine⟨J,X,q1,q2,q3,q4,q5,fun J' hle hp=>⟨a8,.v (l++List.replicate m.toNat default),?_,k⟩⟩
  rcases hq with ⟨rfl,hm0,rfl⟩|⟨Y,rfl,hown⟩
  · rw [hm0,List.replicate_zero,List.append_nil]
    exact⟨_,⟨_,rfl,xs,by rw [hsz];exact hsl.mono hle,hrl.mono hle⟩,rfl⟩
  · have hown':(D6.own E v' (l++List.replicate m.toNat (default:α))).a4e J Y:=⟨_,by rw [List.length_append,List.length_replicate,hsz];exact hown,hrl.append (hrz J)⟩
    exact W2 hown' hle (fun p hq=>hp p (by simp [hq]))
end rules
section forget
variable {P:Program} {C:Ctx} {N:Nat} {σ:x7} {H:j7}
end forget
def b7W (r:AV) (Hs:List D6):Prop:=a8n r∧∀ I J L,a2K I Hs L→a2K J Hs L
theorem a8n.raw {u:Value}:a8n (.raw u):=fun I J v h=>h
theorem b7W.own {E:TypeId} {α:Type} [o7 α] [b0g α] {u:Value} {l:List α}:b7W (.raw u) [.own E u l]:=⟨.raw,fun I J L h=>by
 obtain⟨X,R,rfl,⟨xs,h1,h2⟩,h3⟩:=h
 exact⟨X,R,a8,⟨xs,h1,h2.any⟩,h3⟩⟩
section calls
variable {P:Program} {C:Ctx} {N:Nat} {σ:x7} {H:j7} {G:Gl} (hG:G.p C.I0) {f:FuncId} {d:Option Nat} {args:Array Operand} {tys:Array TypeId} {ty:TypeId} {ps:String} {af:Array Edge} {g:Option (Nat×Bool)} {ags:List AV}
include hG
theorem A0.c1p {post : AV → List D6 → Prop} {K : AV → j7 → Prop} (h : E4 G P f ags [] post) (hv : a6L C σ H args.toList ags) (hf : ∀ r Hs, post r Hs → b7W r Hs) (k : ∀ r Hs, post r Hs → K r (Hs.map (fun B => (true, B)) ++ H)) :
    A0 P C N ⟨d,.call ⟨.value (.func f),args,tys⟩,ty,ps,af,g⟩ σ H K:=fun ρ I L hs=>by
  obtain⟨vs,h1,h2⟩:=hv.get hs
  intro a w ha hst
  have hm:=hst.mem
  have hcs:∀ p∈L.flatten,I p.1=none:=hm.sep
  have hle0:Le I (I.with L.flatten):=Im.a1G hcs
  have hM:=h (I.with L.flatten) [] vs (G.mono (hs.U6.trans hle0) hG) (h2 _ hle0 (fun p hp=>Im.a1N hm.nodup hp)) rfl
  have hm2:Mem (I.with L.flatten) [] w:=⟨fun b o hb=>by
    rcases Im.a0b hb with h|h
    · exact hm.loc (b,o) h
    · exact hm.im b o h,by simp,by simp,by simp⟩
  rw [a1p hM.ok rfl (ha.ev (x := .func f) rfl) (ha.evL h1)]
  refine(hM.run w hm2).mono ?_
  rintro e w' ⟨v,J,L',rfl,hc,hle,hn,hm',hown,r,Hs',q1,q2,q3⟩
  obtain⟨f1,f2⟩:=hf r Hs' q3
  have hlt:∀ p∈L.flatten,p.1 < w.heap.size:=fun p hp=>y7 (hm.loc p hp)
  have hnew:∀ p∈L'.flatten,w.heap.size≤p.1:=fun p hp=>by simpa using hown p hp
  have hmem:Mem I (L'++L) w':=by
    refine⟨fun b o hb=>(hc.block b (y7 (hm.im b o hb)) (by simp)).trans (hm.im b o hb),fun p hp => ?_,fun p hp => ?_,?_⟩
    · simp only [List.flatten_append,List.mem_append] at hp
      rcases hp with hp|hp
      · exact hm'.loc p hp
      · exact(hc.block p.1 (hlt p hp) (by simp)).trans (hm.loc p hp)
    · simp only [List.flatten_append,List.mem_append] at hp
      rcases hp with hp|hp
      · cases hj:I p.1 with
        | none=>rfl
        | some o=>have:=y7 (hm.im p.1 o hj);have:=hnew p hp;omega
      · exact hm.sep p hp
    · simp only [List.flatten_append,List.map_append]
      refine List.nodup_append.2 ⟨hm'.nodup,hm.nodup,?_⟩
      rintro x hx y hy rfl
      obtain⟨p,hp,rfl⟩:=List.mem_map.1 hx
      obtain⟨q,hq,hqe⟩:=List.mem_map.1 hy
      have:=hnew p hp
      have:=hlt q hq
      omega
  refine⟨v,a8,I,L'++L,hst.step (by simpa using hc) (Le.refl I) (fun b h0 h1=>absurd h0 h1) hmem hnew,Le.refl I,r,_,f1 _ _ _ q1,?_,k r Hs' q3⟩
  exact((f2 J I L' q2).toT (fun p hp=>Nat.le_trans hst.S5.size (hnew p hp))).append hs.heap
end calls
end Go.Ab
namespace Go.Fl
open Go.RowKit
theorem a84 {P : Program} {l : Nat} {a : Act} {w : World} {o : Oper} {F : Operand} {args : Array Operand} {tys : Array TypeId} (ho : o.op = .call ⟨.value F, args, tys⟩)
    (hF:a.eval F = .func (.yield l) #[] #[]) {vs:List Value} (hv:args.toList.map a.eval=vs):(execOp a.eval o).run P w=(Instr.yield l vs.toArray).run P w:=by
  subst hv
  have hargs:args.map a.eval=(args.toList.map a.eval).toArray:=by cases args;simp
  simp [execOp,ho,resolve,Deferred.ofValue,hF,invoke,callFunc,←hargs]
def a0I (P:Program) (l:Nat) (args:Array Value) (I:Im) (L:Lh) (post:Value→Im→Lh→Prop):Prop :=
 ∀ w,Mem I L w→∃ f tmps assign body,(Instr.yield l args).run P w = .ok (.round l f tmps assign body) w∧RoundIn Fence.wide 0 P l f tmps assign body w fun e w'=>∃ v J L',e = .returned v∧Chg (L.flatten.map Prod.fst) w w'∧Le I J∧a66 w.heap.size I J∧Mem J L' w' ∧
  (∀ p∈L'.flatten,w.heap.size≤p.1∨p.1∈L.flatten.map Prod.fst)∧post v J L'
theorem St.c2c {C : Ctx} {I J : Im} {L : Lh} {w w' : World} {i : Nat} {c c' : List (Nat × Obj)} (hs : St C I L w) (hc : L[i]? = some c) (hch : Chg (c.map Prod.fst) w w') (hle : Le I J) (hn : a66 w.heap.size I J) (hm' : Mem J [c'] w')
    (hown:∀ p∈c',w.heap.size≤p.1∨p.1∈c.map Prod.fst):St C J (L.set i c') w':=by
  have hm:=hs.mem
  have hsplit:=fun c'=>Y6 L i c hc c'
  have hlt:∀ p∈L.flatten,p.1 < w.heap.size:=fun p hp=>y7 (hm.loc p hp)
  have hnd:=hm.nodup
  rw [(hsplit c').1] at hnd
  have hoth:∀ p,p∈(L.take i).flatten∨p∈(L.drop (i+1)).flatten→p∈L.flatten∧p.1∉c.map Prod.fst:=by
    intro p hp
    rw [(hsplit c').1]
    simp only [List.map_append,List.nodup_append] at hnd
    rcases hp with hp|hp
    · exact⟨by simp [hp],fun hx=>hnd.2.2 p.1 (List.mem_map_of_mem hp) p.1 (by simp only [List.mem_append];exact .inl hx) rfl⟩
    · exact⟨by simp [hp],fun hx=>hnd.2.1.2.2 p.1 hx p.1 (List.mem_map_of_mem hp) rfl⟩
  have hcas:∀ p∈(L.set i c').flatten,p∈c'∨(p∈(L.take i).flatten∨p∈(L.drop (i+1)).flatten):=by
    intro p hp
    rw [(hsplit c').2] at hp
    simp only [List.mem_append] at hp
    rcases hp with hp|hp|hp
    · exact .inr (.inl hp)
    · exact .inl hp
    · exact .inr (.inr hp)
  have hcM:∀ k∈c.map Prod.fst,k < C.w0.heap.size→k∈C.M:=by
    intro k hk hlt0
    obtain⟨p,hp,rfl⟩:=List.mem_map.1 hk
    rcases hs.own p (D2 hc hp) with h1|h1
    · omega
    · exact h1
  have hchg:Chg C.M C.w0 w':=by
    refine⟨hch.os.trans hs.S5.os,hch.tape.trans hs.S5.tape,hch.output.trans hs.S5.output,Nat.le_trans hs.S5.size hch.size,fun k hk hkm => ?_⟩
    rw [hch.block k (Nat.lt_of_lt_of_le hk hs.S5.size) (fun hx=>hkm (hcM k hx hk))]
    exact hs.S5.block k hk hkm
  refine⟨⟨hm'.im,fun p hp => ?_,fun p hp => ?_,?_⟩,hchg,fun p hp => ?_,hs.U6.trans hle,fun b h0 h1 => ?_⟩
  · rcases hcas p hp with h1|h1
    · exact hm'.loc p (by simpa using h1)
    · obtain⟨h2,h3⟩:=hoth p h1
      exact(hch.block p.1 (hlt p h2) h3).trans (hm.loc p h2)
  · rcases hcas p hp with h1|h1
    · exact hm'.sep p (by simpa using h1)
    · obtain⟨h2,h3⟩:=hoth p h1
      cases hj:J p.1 with
      | none=>rfl
      | some o=>exact absurd (hn p.1 (hm.sep p h2) (by simp [hj])) (by have:=hlt p h2;omega)
  · rw [(hsplit c').2]
    have hc'nd:=hm'.nodup
    simp only [List.map_append,List.nodup_append] at hnd ⊢
    refine⟨hnd.1,⟨by simpa using hc'nd,hnd.2.1.2.1,?_⟩,?_⟩
    · rintro x hx y hy rfl
      obtain⟨p,hp,rfl⟩:=List.mem_map.1 hx
      obtain⟨q,hq,hqe⟩:=List.mem_map.1 hy
      obtain⟨h2,h3⟩:=hoth q (.inr hq)
      rcases hown p hp with h4|h4
      · have:=hlt q h2;omega
      · exact h3 (hqe▸h4)
    · rintro x hx y hy rfl
      obtain⟨q,hq,rfl⟩:=List.mem_map.1 hx
      obtain⟨h2,h3⟩:=hoth q (.inl hq)
      simp only [List.mem_append] at hy
      rcases hy with hy|hy
      · obtain⟨p,hp,hpe⟩:=List.mem_map.1 hy
        rcases hown p hp with h4|h4
        · have:=hlt q h2;omega
        · exact h3 (hpe▸h4)
      · exact hnd.2.2 q.1 hx q.1 (by simp only [List.mem_append];exact .inr hy) rfl
  · rcases hcas p hp with h1|h1
    · rcases hown p h1 with h2|h2
      · exact .inl (Nat.le_trans hs.S5.size h2)
      · obtain⟨q,hq,hqe⟩:=List.mem_map.1 h2
        rw [←hqe]
        exact hs.own q (D2 hc hq)
    · exact hs.own p (hoth p h1).1
  · cases hi:I b with
    | none=>exact Nat.le_trans hs.S5.size (hn b hi h1)
    | some o=>exact hs.new b h0 (by simp [hi])
theorem Mem.chunk {I:Im} {L:Lh} {w:World} {i:Nat} {c:List (Nat×Obj)} (hm:Mem I L w) (hc:L[i]?=some c):Mem I [c] w :=
 ⟨hm.im,fun p hp=>hm.loc p (D2 hc (by simpa using hp)),fun p hp=>hm.sep p (D2 hc (by simpa using hp)),by simpa using a0M hm.nodup hc⟩
section
variable {P:Program} {C:Ctx} {N:Nat} {ρ:Env} {I:Im} {L:Lh} {d:Option Nat} {F:Operand} {args:Array Operand} {tys:Array TypeId} {ty:TypeId} {ps:String} {af:Array Edge} {g:Option (Nat×Bool)} {vs:List Value}
theorem OpS.b3z {l : Nat} {post : Value → Im → Lh → Prop} {K : Value → Im → Lh → Prop} (i : Nat) {c : List (Nat × Obj)} (hc : L[i]? = some c) (hF : ev ρ F = some (.func (.yield l) #[] #[])) (hv : evL ρ args.toList = some vs)
    (h:a0I P l vs.toArray I [c] post) (k:∀ v J c' (w:World),Le I J→post v J [c']→(∀ p∈c',w.heap.size≤p.1∨p.1∈c.map Prod.fst)→C.w0.heap.size≤w.heap.size→K v J (L.set i c')) (hshape:∀ v J L',post v J L'→∃ c',L' = [c']) :
    OpS P C N ⟨d,.call ⟨.value F,args,tys⟩,ty,ps,af,g⟩ ρ I L K:=fun a w ha hs=>by
  rw [a84 rfl (ha.ev hF) (ha.evL hv)]
  obtain⟨f,tmps,as_,body,hy,hR⟩:=h w (hs.mem.chunk hc)
  rw [hy]
  refine RoundIn.mono hR ?_
  rintro e w' ⟨v,J,L',rfl,hch,hle,hn,hm',hown,hp⟩
  obtain⟨c',rfl⟩:=hshape v J L' hp
  have hch':Chg (c.map Prod.fst) w w':=by simpa using hch
  have hown':∀ p∈c',w.heap.size≤p.1∨p.1∈c.map Prod.fst:=fun p hq=>by simpa using hown p (by simpa using hq)
  exact⟨v,a8,J,L.set i c',hs.c2c hc hch' hle hn hm' hown',k v J c' w hle hp hown' hs.S5.size⟩
end
abbrev a4B (D l:Nat) (r:Loop):List (Nat×Obj) := [(D,.deferred (some [])),(l,.loop r)]
theorem Chg.putObj {M:List Nat} {w0 w:World} {l:Nat} (h:Chg M w0 w) (hl:l∈M∨w0.heap.size≤l) (o:Obj):Chg M w0 (w.putObj l o) :=
 ⟨h.os,h.tape,h.output,by rw [World.putObj_size];exact h.size,fun k hk hm=>by
  have hkl:k≠l:=fun e=>by
   subst e
   rcases hl with hl|hl
   ·exact hm hl
   ·omega
  rw [World.putObj_heap_other hkl];exact h.block k hk hm⟩
theorem Chg.alloc {M:List Nat} {w0 w:World} (h:Chg M w0 w) (o:Obj):Chg M w0 (w.alloc o) :=
 ⟨h.os,h.tape,h.output,by have:=h.size;simp;omega,fun k hk hm=>by
  have h1:k < w.heap.size:=Nat.lt_of_lt_of_le hk h.size
  rw [heap_alloc_old w _ h1];exact h.block k hk hm⟩
theorem Mem.c3q {I:Im} {Y:List (Nat×Obj)} {D l:Nat} {r r':Loop} {w:World} (hm:Mem I [Y++a4B D l r] w):Mem I [Y++a4B D l r'] (w.putObj l (.loop r')):=by
 have hnd:=hm.nodup
 have hl:w.heap[l]?=some (.loop r):=hm.loc (l,.loop r) (by simp)
 have hlt:=y7 hl
 have hne:∀ p∈Y,p.1≠l:=fun p hp e=>by
  simp only [List.flatten_cons,List.flatten_nil,List.append_nil,List.map_append,List.nodup_append] at hnd
  exact hnd.2.2 p.1 (List.mem_map_of_mem hp) l (by simp) e
 have hDl:D≠l:=fun e=>by
  simp only [List.flatten_cons,List.flatten_nil,List.append_nil,List.map_append,List.nodup_append] at hnd
  simp [e] at hnd
 refine⟨fun b o hb => ?_,fun p hp => ?_,fun p hp => ?_,?_⟩
 ·have hbl:b≠l:=fun e=>by
   have:=hm.sep (l,.loop r) (by simp)
   rw [e] at hb;rw [hb] at this;cases this
  rw [World.putObj_heap_other hbl];exact hm.im b o hb
 ·simp only [List.flatten_cons,List.flatten_nil,List.append_nil,List.mem_append,List.mem_cons,List.not_mem_nil,or_false] at hp
  rcases hp with hp|rfl|rfl
  ·rw [World.putObj_heap_other (hne p hp)];exact hm.loc p (by simp [hp])
  ·rw [World.putObj_heap_other hDl];exact hm.loc (D,.deferred (some [])) (by simp)
  ·exact World.putObj_heap_same hlt
 ·simp only [List.flatten_cons,List.flatten_nil,List.append_nil,List.mem_append,List.mem_cons,List.not_mem_nil,or_false] at hp
  rcases hp with hp|rfl|rfl
  ·exact hm.sep p (by simp [hp])
  ·exact hm.sep (D,.deferred (some [])) (by simp)
  ·exact hm.sep (l,.loop r) (by simp)
 ·simpa using hnd
theorem Mem.b5h {I:Im} {L M:Lh} {w:World} (hm:Mem I L w) (e:M.flatten=L.flatten):Mem I M w:=⟨hm.im,by rw [e];exact hm.loc,by rw [e];exact hm.sep,by rw [e];exact hm.nodup⟩
theorem Mem.left {I:Im} {Y Z:List (Nat×Obj)} {w:World} (hm:Mem I [Y++Z] w):Mem I [Y] w :=
 ⟨hm.im,fun p hp=>hm.loc p (by simp at hp ⊢;exact .inl hp),fun p hp=>hm.sep p (by simp at hp ⊢;exact .inl hp),by
  have:=hm.nodup
  simp only [List.flatten_cons,List.flatten_nil,List.append_nil,List.map_append,List.nodup_append] at this ⊢
  exact this.1⟩
theorem St.c3r {I:Im} {L:Lh} {w:World} (l:Option Nat) (hm:Mem I L w):St ⟨w,L.flatten.map Prod.fst,I,l⟩ I L w :=
 ⟨hm,Chg.refl _ _,fun p hp => .inr (List.mem_map_of_mem hp),Le.refl _,fun b h0 h1=>absurd h0 h1⟩
def R3 (ps:List Nat) (vs:List Value) (ρ:Env):Env:=(ps.zip vs).foldl (fun ρ p=>p::ρ) ρ
theorem Fits.params {N:Nat}:∀ {ps:List Nat} {vs:List Value} {ρ:Env} {t:Array Value},Fits N ρ ⟨t,[]⟩→(∀ p∈ps,p < N)→Fits N (R3 ps vs ρ) ⟨(ps.zip vs).foldl (fun t (p:Nat×Value)=>t.setIfInBounds p.1 p.2) t,[]⟩
 | [],vs,ρ,t,h,_=>by simpa [R3] using h
 | p::ps,[],ρ,t,h,_=>by simpa [R3] using h
 | p::ps,v::vs,ρ,t,h,hp=>by
  have h1:=h.put (d:=p) (hp p List.mem_cons_self) v
  have h2:=Fits.params (ps:=ps) (vs:=vs) (ρ:=(p,v)::ρ) (t:=t.setIfInBounds p v) (by simpa [Act.put] using h1) (fun q hq=>hp q (List.mem_cons_of_mem _ hq))
  simpa [R3] using h2
theorem a0I.round {P : Program} {N D l fn : Nat} {ps : Array Tmp} {assign body : Code} {tm : Array Value} {ρ : Env} {I' : Im} {Y : List (Nat × Obj)} {vs : List Value} {J' : Im → List (Nat × Obj) → Prop} {Jx : Nat → Im → List (Nat × Obj) → Prop}
    (hps:∀ p∈ps.toList,p < N) (hsz:vs.length=ps.size) (ha:Fits N ρ ⟨tm,[]⟩) (rec_:LoopState→Option Code→Loop) (hrec:rec_=fun st pe => { state:=st,pending:=pe,fn:=fn,tmps:=tm,params:=ps,assign:=assign,body:=body,defers:=D })
    (round:∀ (w1:World),Mem I' [Y] w1→∃ L1,L1.flatten=Y∧wpS P ⟨w1,L1.flatten.map Prod.fst,I',some l⟩ N assign (fun e ρ2 I2 L2=>e = .normal∧∀ w3,Mem I2 L2 w3 →
      wpS P ⟨w3,L2.flatten.map Prod.fst,I2,some l⟩ N body (fun e' ρ3 I3 L3=>(e' = .normal∧J' I3 L3.flatten)∨∃ id,e' = .exit id∧Jx id I3 L3.flatten) ρ2 I2 L2) (R3 ps.toList vs ρ) I' L1) :
    a0I P l vs.toArray I' [Y++a4B D l (rec_ .ready none)] (fun v I3 L'=>∃ Y3,(v = .bool true∧J' I3 Y3∧L' = [Y3++a4B D l (rec_ .ready none)])∨∃ id,v = .bool false∧Jx id I3 Y3∧L' = [Y3++a4B D l (rec_ .done (some (.exit id)))]):=by
  intro w1 hm1
  have hl1:w1.heap[l]?=some (.loop (rec_ .ready none)):=hm1.loc (l,.loop (rec_ .ready none)) (by simp)
  have hD1:w1.heap[D]?=some (.deferred (some [])):=hm1.loc (D,.deferred (some [])) (by simp)
  have hlt1:=y7 hl1
  have hDt1:=y7 hD1
  have hnd1:=hm1.nodup
  simp only [List.flatten_cons,List.flatten_nil,List.append_nil,List.map_append,List.nodup_append] at hnd1
  have hDl:D≠l:=fun e=>by have:=hnd1.2.1;simp [e] at this
  have hYl:∀ p∈Y,p.1≠l∧p.1≠D:=fun p hp=>⟨fun e=>hnd1.2.2 p.1 (List.mem_map_of_mem hp) l (by simp) e,fun e=>hnd1.2.2 p.1 (List.mem_map_of_mem hp) D (by simp) e⟩
  have hIl:I' l=none:=hm1.sep (l,.loop (rec_ .ready none)) (by simp)
  have hID:I' D=none:=hm1.sep (D,.deferred (some [])) (by simp)
  have hy:=run_yield (P:=P) (args:=vs.toArray) hl1 (by rw [hrec];simpa using hsz)
  rw [hrec] at hy
  refine⟨fn,_,assign,body,hy,roundIn_of_wpIn trivial ?_⟩
  obtain⟨L1,rfl,hw1⟩:=round w1 hm1.left
  have hst1:St ⟨w1,L1.flatten.map Prod.fst,I',some l⟩ I' L1 w1:=St.c3r (some l) (hm1.left.b5h (by simp))
  have hfit1:Fits N (R3 ps.toList vs ρ) ⟨(ps.zip vs.toArray).foldl (fun t (p,v)=>t.setIfInBounds p v) tm,[]⟩:=by
    have h1:=Fits.params (ps:=ps.toList) (vs:=vs) ha hps
    have e:(ps.zip vs.toArray).foldl (fun t (p,v)=>t.setIfInBounds p v) tm=(ps.toList.zip vs).foldl (fun t (p:Nat×Value)=>t.setIfInBounds p.1 p.2) tm:=by
      rw [←Array.foldl_toList,Array.toList_zip]
    rw [e];exact h1
  refine wpIn_mono (hw1 _ w1 hfit1 hst1) ?_
  rintro e a2 w2 ⟨ρ2,I2,L2,hf2,hs2,rfl,hbody⟩
  -- the record is still ags it was
  have hnotl2:∀ p∈L2.flatten,p.1≠l∧p.1≠D:=fun p hp=>by
    rcases hs2.own p hp with h|h
    · have h':w1.heap.size≤p.1:=h
      exact⟨by omega,by omega⟩
    · obtain⟨q,hq,hqe⟩:=List.mem_map.1 h
      rw [←hqe];exact hYl q hq
  have hl2:w2.heap[l]?=some (.loop (rec_ .ready none)):=(hs2.S5.block l hlt1 (fun hx=>by obtain⟨q,hq,hqe⟩:=List.mem_map.1 hx;exact(hYl q hq).1 hqe)).trans hl1
  have hD2:w2.heap[D]?=some (.deferred (some [])):=(hs2.S5.block D hDt1 (fun hx=>by obtain⟨q,hq,hqe⟩:=List.mem_map.1 hx;exact(hYl q hq).2 hqe)).trans hD1
  have hI2l:I2 l=none:=by
    cases h:I2 l with
    | none=>rfl
    | some o=>have h':w1.heap.size≤l:=hs2.new l hIl (by simp [h]);omega
  have hI2D:I2 D=none:=by
    cases h:I2 D with
    | none=>rfl
    | some o=>have h':w1.heap.size≤D:=hs2.new D hID (by simp [h]);omega
  have hbr:=run_beginRound (P:=P) hl2 (by rw [hrec])
  refine⟨_,hbr,?_⟩
  have hm3:Mem I2 (L2:Lh) (w2.putObj l (.loop { rec_ .ready none with state := .busy })):=by
    refine⟨fun b o hb => ?_,fun p hp => ?_,hs2.mem.sep,hs2.mem.nodup⟩
    · rw [World.putObj_heap_other (fun e=>by rw [e,hI2l] at hb;cases hb)];exact hs2.mem.im b o hb
    · rw [World.putObj_heap_other (hnotl2 p hp).1];exact hs2.mem.loc p hp
  have hst3:=St.c3r (some l) hm3
  have hl3:(w2.putObj l (.loop { rec_ .ready none with state := .busy })).heap[l]?=some (.loop { rec_ .ready none with state := .busy }):=World.putObj_heap_same (y7 hl2)
  have hD3:(w2.putObj l (.loop { rec_ .ready none with state := .busy })).heap[D]?=some (.deferred (some [])):=(World.putObj_heap_other hDl).trans hD2
  refine wpIn_mono (hbody _ hm3 a2 _ hf2 hst3) ?_
  rintro e a4 w4 ⟨ρ3,I3,L3,hf4,hs4,hq⟩
  have hc4:=hs4.S5
  have hlt3:l < (w2.putObj l (.loop { rec_ .ready none with state := .busy })).heap.size:=y7 hl3
  have hDt3:D < (w2.putObj l (.loop { rec_ .ready none with state := .busy })).heap.size:=y7 hD3
  have hl4:w4.heap[l]?=some (.loop { rec_ .ready none with state := .busy }):=(hc4.block l hlt3 (fun hx=>by obtain⟨q,hq,hqe⟩:=List.mem_map.1 hx;exact(hnotl2 q hq).1 hqe)).trans hl3
  have hD4:w4.heap[D]?=some (.deferred (some [])):=(hc4.block D hDt3 (fun hx=>by obtain⟨q,hq,hqe⟩:=List.mem_map.1 hx;exact(hnotl2 q hq).2 hqe)).trans hD3
  have hsz13:w1.heap.size≤(w2.putObj l (.loop { rec_ .ready none with state := .busy })).heap.size:=by rw [World.putObj_size];exact hs2.S5.size
  have hnotl3:∀ p∈L3.flatten,p.1≠l∧p.1≠D:=fun p hp=>by
    rcases hs4.own p hp with h|h
    · have h':(w2.putObj l (.loop { rec_ .ready none with state := .busy })).heap.size≤p.1:=h
      exact⟨by omega,by omega⟩
    · obtain⟨q,hq,hqe⟩:=List.mem_map.1 h
      rw [←hqe];exact hnotl2 q hq
  have hI3l:I3 l=none:=by
    cases h:I3 l with
    | none=>rfl
    | some o=>have h':(w2.putObj l (.loop { rec_ .ready none with state := .busy })).heap.size≤l:=hs4.new l hI2l (by simp [h]);omega
  have hI3D:I3 D=none:=by
    cases h:I3 D with
    | none=>rfl
    | some o=>have h':(w2.putObj l (.loop { rec_ .ready none with state := .busy })).heap.size≤D:=hs4.new D hI2D (by simp [h]);omega
  have hm4:Mem I3 [L3.flatten++a4B D l { rec_ .ready none with state := .busy }] w4:=by
    refine⟨hs4.mem.im,fun p hp => ?_,fun p hp => ?_,?_⟩
    · simp only [List.flatten_cons,List.flatten_nil,List.append_nil,List.mem_append,List.mem_cons,List.not_mem_nil,or_false] at hp
      rcases hp with hp|rfl|rfl
      · exact hs4.mem.loc p hp
      · exact hD4
      · exact hl4
    · simp only [List.flatten_cons,List.flatten_nil,List.append_nil,List.mem_append,List.mem_cons,List.not_mem_nil,or_false] at hp
      rcases hp with hp|rfl|rfl
      · exact hs4.mem.sep p hp
      · exact hI3D
      · exact hI3l
    · simp only [List.flatten_cons,List.flatten_nil,List.append_nil,List.map_append,List.map_cons,List.map_nil]
      refine List.nodup_append.2 ⟨hs4.mem.nodup,by simp [hDl],?_⟩
      rintro x hx y hy rfl
      obtain⟨q,hq,hqe⟩:=List.mem_map.1 hx
      simp only [List.mem_cons,List.not_mem_nil,or_false] at hy
      rcases hy with hy|hy
      · exact(hnotl3 q hq).2 (hqe.trans hy)
      · exact(hnotl3 q hq).1 (hqe.trans hy)
  have hZ:∀ k,k∈L1.flatten.map Prod.fst→k∈([L1.flatten++a4B D l (rec_ .ready none)]:Lh).flatten.map Prod.fst:=fun k hk=>by simp at hk ⊢;exact .inl hk
  have hlZ:l∈([L1.flatten++a4B D l (rec_ .ready none)]:Lh).flatten.map Prod.fst:=by simp
  have hchg14:Chg (([L1.flatten++a4B D l (rec_ .ready none)]:Lh).flatten.map Prod.fst) w1 w4:=by
    have h12:Chg (([L1.flatten++a4B D l (rec_ .ready none)]:Lh).flatten.map Prod.fst) w1 w2:=hs2.S5.mono (fun k hk _=>hZ k hk)
    have h13:=h12.putObj (.inl hlZ) (.loop { rec_ .ready none with state := .busy })
    refine⟨hc4.os.trans h13.os,hc4.tape.trans h13.tape,hc4.output.trans h13.output,Nat.le_trans h13.size hc4.size,fun k hk hm => ?_⟩
    rw [hc4.block k (Nat.lt_of_lt_of_le hk h13.size) (fun hx => ?_)]
    · exact h13.block k hk hm
    · obtain⟨q,hq,hqe⟩:=List.mem_map.1 hx
      rcases hs2.own q hq with h|h
      · have h':w1.heap.size≤q.1:=h
        omega
      · exact hm (hZ k (hqe▸h))
  have hown4:∀ p∈L3.flatten,w1.heap.size≤p.1∨p.1∈([L1.flatten++a4B D l (rec_ .ready none)]:Lh).flatten.map Prod.fst:=fun p hp=>by
    rcases hs4.own p hp with h|h
    · exact .inl (Nat.le_trans hsz13 h)
    · obtain⟨q,hq,hqe⟩:=List.mem_map.1 h
      rw [←hqe]
      rcases hs2.own q hq with h|h
      · exact .inl h
      · exact .inr (hZ _ h)
  have hnew4:a66 w1.heap.size I' I3:=fun b h0 h1=>by
    cases h:I2 b with
    | none=>exact Nat.le_trans hsz13 (hs4.new b h h1)
    | some o=>exact hs2.new b h0 (by simp [h])
  have hle4:Le I' I3:=hs2.U6.trans hs4.U6
  have fin : ∀ jump : Option Code, (Instr.endRound l jump).run P w4 = .ok (.bool jump.isNone) (w4.putObj l (.loop (rec_ (if jump.isNone then .ready else .done) jump))) ∧
      Mem I3 [L3.flatten++a4B D l (rec_ (if jump.isNone then .ready else .done) jump)] (w4.putObj l (.loop (rec_ (if jump.isNone then .ready else .done) jump))):=fun jump=>by
    have h:=run_endRound (P:=P) jump hl4
    rw [hrec] at h ⊢
    exact⟨h,by have:=hm4.c3q (r':=rec_ (if jump.isNone then .ready else .done) jump);rw [hrec] at this;exact this⟩
  have hown5:∀ (r:Loop),∀ p∈([L3.flatten++a4B D l r]:Lh).flatten,w1.heap.size≤p.1∨p.1∈([L1.flatten++a4B D l (rec_ .ready none)]:Lh).flatten.map Prod.fst:=fun r p hp=>by
    simp only [List.flatten_cons,List.flatten_nil,List.append_nil,List.mem_append,List.mem_cons,List.not_mem_nil,or_false] at hp
    rcases hp with hp|rfl|rfl
    · exact hown4 p hp
    · exact .inr (by simp)
    · exact .inr (by simp)
  rcases hq with ⟨rfl,hJ⟩|⟨id,rfl,hJ⟩
  · obtain⟨h1,h2⟩:=fin none
    exact⟨_,_,h1,_,I3,_,a8,hchg14.putObj (.inl hlZ) _,hle4,hnew4,h2,hown5 _,L3.flatten,.inl ⟨a8,hJ,a8⟩⟩
  · obtain⟨h1,h2⟩:=fin (some (.exit id))
    exact⟨_,_,h1,_,I3,_,a8,hchg14.putObj (.inl hlZ) _,hle4,hnew4,h2,hown5 _,L3.flatten,.inr ⟨id,a8,hJ,a8⟩⟩
end Go.Fl
namespace Go.Fl
open Go.RowKit
abbrev bare (a:Act):Act := { a with defers := [] }
def Marks (C:Ctx) (I:Im) (L:Lh) (w:World) (ds:List Deferred):Prop :=
 ds = []∨∃ D,ds = [{ target := .collected D,args := #[] }]∧w.heap[D]?=some (.deferred (some []))∧C.w0.heap.size≤D∧I D=none∧∀ p∈L.flatten,p.1≠D
def b7X (C:Ctx) (N:Nat) (Q:Exit→Env→Im→Lh→Prop):Exit→Act→World→Prop :=
 fun e a w=>∃ ρ I L,Fits N ρ (bare a)∧Marks C I L w a.defers∧St C I L w∧Q e ρ I L
def wpC (P:Program) (C:Ctx) (N:Nat) (c:Code) (Q:Exit→Env→Im→Lh→Prop) (ρ:Env) (I:Im) (L:Lh):Prop :=
 ∀ a w,Fits N ρ a→St C I L w→c.wpIn C.fen 0 P (b7X C N Q) a w
def wpD (P:Program) (C:Ctx) (N:Nat) (c:Code) (Q:Exit→Env→Im→Lh→Prop) (ρ:Env) (I:Im) (L:Lh):Prop :=
 ∀ a w,Fits N ρ (bare a)→Marks C I L w a.defers→St C I L w→c.wpIn C.fen 0 P (b7X C N Q) a w
theorem Fits.bare {N:Nat} {ρ:Env} {a:Act} (h:Fits N ρ a):Fits N ρ (bare a):=⟨rfl,h.size,h.tmp⟩
section
variable {P:Program} {C:Ctx} {N:Nat} {Q:Exit→Env→Im→Lh→Prop} {ρ:Env} {I:Im} {L:Lh}
theorem wpC.mono {Q':Exit→Env→Im→Lh→Prop} {c:Code} (h:wpC P C N c Q ρ I L) (hq:∀ e ρ I L,Q e ρ I L→Q' e ρ I L):wpC P C N c Q' ρ I L :=
 fun a w ha hw=>wpIn_mono (h a w ha hw) fun _ _ _ ⟨ρ,I,L,h1,h2,h3,h4⟩=>⟨ρ,I,L,h1,h2,h3,hq _ _ _ _ h4⟩
theorem wpC.c4D {x y:Code} (h:wpS P C N x (a9f (wpC P C N y Q) Q) ρ I L):wpC P C N (.seq x y) Q ρ I L:=fun a w ha hw=>by
 refine wpIn_seq (wpIn_mono (h a w ha hw) fun e a w hq => ?_)
 obtain⟨ρ,I,L,h1,h2,h3⟩:=hq
 cases e with
 | normal=>exact h3 a w h1 h2
 | _=>exact⟨ρ,I,L,h1.bare,.inl h1.defers,h2,h3⟩
theorem wpC.c4E {x y:Code} (h:wpC P C N x (a9f (wpD P C N y Q) Q) ρ I L):wpC P C N (.seq x y) Q ρ I L:=fun a w ha hw=>by
 refine wpIn_seq (wpIn_mono (h a w ha hw) fun e a w hq => ?_)
 obtain⟨ρ,I,L,h1,h2,h3,h4⟩:=hq
 cases e with
 | normal=>exact h4 a w h1 h2 h3
 | _=>exact⟨ρ,I,L,h1,h2,h3,h4⟩
theorem wpC.block {id:Nat} {c:Code} (h:wpC P C N c (a3J id Q) ρ I L):wpC P C N (.block id c) Q ρ I L:=fun a w ha hw=>by
 refine wpIn_block (wpIn_mono (h a w ha hw) fun e a w hq => ?_)
 obtain⟨ρ,I,L,h1,h2,h3,h4⟩:=hq
 cases e with
 | exit i =>
  by_cases hi:i=id
  ·subst hi
   simp only [Exit.inBlock,if_true]
   exact⟨ρ,I,L,h1,h2,h3,by simpa [a3J] using h4⟩
  ·have hb:Nat.beq i id=false:=a5q hi
   simp only [Exit.inBlock,if_neg hi]
   exact⟨ρ,I,L,h1,h2,h3,by simpa [a3J,hb] using h4⟩
 | _=>exact⟨ρ,I,L,h1,h2,h3,h4⟩
theorem wpD.seq {x y:Code} (h:wpD P C N x (a9f (wpD P C N y Q) Q) ρ I L):wpD P C N (.seq x y) Q ρ I L:=fun a w ha hm hw=>by
 refine wpIn_seq (wpIn_mono (h a w ha hm hw) fun e a w hq => ?_)
 obtain⟨ρ,I,L,h1,h2,h3,h4⟩:=hq
 cases e with
 | normal=>exact h4 a w h1 h2 h3
 | _=>exact⟨ρ,I,L,h1,h2,h3,h4⟩
theorem wpD.ret (h:Q .ret ρ I L):wpD P C N .ret Q ρ I L:=fun a w ha hm hw=>wpIn_ret ⟨ρ,I,L,ha,hm,hw,h⟩
def b3A (P:Program) (C:Ctx) (N:Nat) (ops:Array Oper) (Q:Exit→Env→Im→Lh→Prop) (l:List Oper) (ρ:Env) (I:Im) (L:Lh):Prop :=
 K2 N l=true→∀ a w,Fits N ρ (bare a)→Marks C I L w a.defers→St C I L w→wpListIn C.fen 0 P ops (b7X C N Q) l a w
theorem b3A.nil {ops:Array Oper} (h:Q .normal ρ I L):b3A P C N ops Q [] ρ I L:=fun _ a w ha hm hs=>wpListIn_nil ⟨ρ,I,L,ha,hm,hs,h⟩
theorem b3A.x {ops : Array Oper} {rest : List Oper} {d : Nat} {op : Op} {ty : TypeId} {ps : String} {af : Array Edge}
    (h:OpX P N ⟨some d,op,ty,ps,af,none⟩ ρ I L (fun v J X=>b3A P C N ops Q rest ((d,v)::ρ) J (X++L))) :
    b3A P C N ops Q (⟨some d,op,ty,ps,af,none⟩::rest) ρ I L:=fun hd a w ha hm hs=>by
  obtain⟨hlt,hd'⟩:=a7V hd
  refine wpListIn_plain rfl fun K hK=>Yld.wp ?_
  have h1:Yld P ((execOp a.eval ⟨some d,op,ty,ps,af,none⟩).run P w) _:=h (bare a) w ha hs.mem
  refine h1.mono ?_
  rintro v w' ⟨J,X,hc,hle,hn,hm',hX,hk⟩
  refine hK _ _ (hk hd' _ _ (ha.put hlt v) ?_ (hs.step hc hle hn hm' hX))
  rcases hm with hm|⟨D,h1,h2,h3,h4,h5⟩
  · exact .inl hm
  · have hDlt:=y7 h2
    refine .inr ⟨D,h1,(hc.block D hDlt (by simp)).trans h2,h3,?_,fun p hp e => ?_⟩
    · cases hj:J D with
      | none=>rfl
      | some o=>exact absurd (hn D h4 (by simp [hj])) (by omega)
    · simp only [List.flatten_append,List.mem_append] at hp
      rcases hp with hp|hp
      · have:=hX p hp;omega
      · exact h5 p hp e
theorem wpD.region {id:Nat} {l:List Oper} (hd:K2 N l=true) (h:b3A P C N l.toArray Q l ρ I L):wpD P C N (.region id l.toArray false) Q ρ I L:=fun a w ha hm hs =>
 wpIn_region_lit (h hd a w ha hm hs)
end
theorem a0I.mono {P:Program} {l:Nat} {args:Array Value} {I:Im} {L:Lh} {post post':Value→Im→Lh→Prop} (h:a0I P l args I L post) (hp:∀ v J L',Le I J→post v J L'→post' v J L'):a0I P l args I L post':=fun w hm=>by
 obtain⟨f,t,as_,b,h1,h2⟩:=h w hm
 refine⟨f,t,as_,b,h1,RoundIn.mono h2 ?_⟩
 rintro e w' ⟨v,J,L',a1,a2,a3,a4,a5,a6,a7⟩
 exact⟨v,J,L',a1,a2,a3,a4,a5,a6,hp _ _ _ a3 a7⟩
theorem Mem.perm {I:Im} {L M:Lh} {w:World} (hm:Mem I L w) (e:M.flatten.Perm L.flatten):Mem I M w :=
 ⟨hm.im,fun p hp=>hm.loc p (e.mem_iff.1 hp),fun p hp=>hm.sep p (e.mem_iff.1 hp),(e.map Prod.fst).nodup_iff.2 hm.nodup⟩
theorem a0I.perm {P:Program} {l:Nat} {args:Array Value} {I:Im} {L M:Lh} {post:Value→Im→Lh→Prop} (h:a0I P l args I M post) (e:M.flatten.Perm L.flatten):a0I P l args I L post:=fun w hm=>by
 obtain⟨f,t,as_,b,h1,h2⟩:=h w (hm.perm e)
 have hk:∀ k,k∈M.flatten.map Prod.fst↔k∈L.flatten.map Prod.fst:=fun k=>(e.map Prod.fst).mem_iff
 refine⟨f,t,as_,b,h1,RoundIn.mono h2 ?_⟩
 rintro e' w' ⟨v,J,L',a1,a2,a3,a4,a5,a6,a7⟩
 exact⟨v,J,L',a1,a2.mono (fun k hk' _=>(hk k).1 hk'),a3,a4,a5,fun p hp=>(a6 p hp).imp id (hk _).1,a7⟩
abbrev Chunk:=List (Nat×Obj)
theorem wpC.range {P : Program} {C : Ctx} {N : Nat} {Q : Exit → Env → Im → Lh → Prop} {ρ : Env} {I : Im} {L : Lh} {g : Operand} {ps : Array Tmp} {assign body : Code} {gf : Nat} {lb : Array Value} (vs : Nat → Im → List Value → Prop) (J : Nat → Im → Chunk → Prop) (xid : Nat) (Jx : Im → Chunk → Prop)
    (hrd:C.rd=none) (hg:ev ρ g=some (.func (.func gf) #[] lb)) (hok:a6x P gf) (hps:∀ p∈ps.toList,p < N) (hsz:∀ k I us,vs k I us→us.length=ps.size)
    (hmono:∀ k I1 I2 Y,Le I1 I2→J k I1 Y→J k I2 Y) (hmonox:∀ I1 I2 Y,Le I1 I2→Jx I1 Y→Jx I2 Y) (h0:J 0 I L.flatten)
    (round:∀ l k I' Y us,Le I I'→J k I' Y→vs k I' us→∃ L1:Lh,L1.flatten.Perm Y∧∀ w1,Mem I' L1 w1→wpS P ⟨w1,L1.flatten.map Prod.fst,I',some l⟩ N assign (fun e ρ2 I2 L2=>e = .normal∧∀ w3,Mem I2 L2 w3 →
      wpS P ⟨w3,L2.flatten.map Prod.fst,I2,some l⟩ N body (fun e' ρ3 I3 L3=>(e' = .normal∧J (k+1) I3 L3.flatten)∨(e' = .exit xid∧Jx I3 L3.flatten)) ρ2 I2 L2) (R3 ps.toList us ρ) I' L1)
    (iter:∀ (l:Nat) (K:Nat→Im→Chunk→Prop) (Kx:Im→Chunk→Prop) (Z:Chunk),(∀ k I1 I2 Z,Le I1 I2→K k I1 Z→K k I2 Z)→(∀ I1 I2 Z,Le I1 I2→Kx I1 Z→Kx I2 Z) →
      (∀ k I' Z,Le I I'→K k I' Z→∃ Y,J k I' Y)→K 0 I Z →
      (∀ k I' Z us,Le I I'→K k I' Z→vs k I' us→a0I P l us.toArray I' [Z] (fun v I3 L'=>∃ Z3,L' = [Z3]∧((v = .bool true∧K (k+1) I3 Z3)∨(v = .bool false∧Kx I3 Z3)))) →
      a9U P gf (#[.func (.yield l) #[] #[]]++lb) I [Z] (fun v I3 L'=>∃ Z3,L' = [Z3]∧Kx I3 Z3))
    (done:∀ I3 Y,Le I I3→Jx I3 Y→((∀ q∈L.flatten,C.w0.heap.size≤q.1)→∀ p∈Y,C.w0.heap.size≤p.1)→∃ L3:Lh,L3.flatten.Perm Y∧Q (.exit xid) ρ I3 L3) :
    wpC P C N (.rangeFunc g ps assign body) Q ρ I L:=fun a w ha hs=>by
  obtain⟨w0,M,I0,rd⟩:=C
  have hrd':rd=none:=hrd
  subst hrd'
  refine wpIn_rangeFunc ?_
  intro fn hfn
  obtain⟨rec_,hrec⟩:∃ rec_:LoopState→Option Code→Loop,rec_=fun st pe => { state:=st,pending:=pe,fn:=fn,tmps:=a.tmps,params:=ps,assign:=assign,body:=body,defers:=w.heap.size }:=⟨_,rfl⟩
  obtain⟨W1,hW1⟩:∃ W1,(w.alloc (.deferred (some []))).alloc (.loop (rec_ .ready none))=W1:=⟨_,rfl⟩
  have hsz1:W1.heap.size=w.heap.size+2:=by rw [←hW1];simp
  have hL1:W1.heap[w.heap.size+1]?=some (.loop (rec_ .ready none)):=by
    rw [←hW1];have:=World.alloc_heap_new (w.alloc (.deferred (some []))) (.loop (rec_ .ready none));rwa [World.size_alloc] at this
  have hK1:W1.heap[w.heap.size]?=some (.deferred (some [])):=by
    rw [←hW1];exact(heap_alloc_old _ _ (by simp)).trans (World.alloc_heap_new w _)
  have hold:∀ b,b < w.heap.size→W1.heap[b]?=w.heap[b]?:=fun b hb=>by
    rw [←hW1];exact(heap_alloc_old _ _ (by simp;omega)).trans (heap_alloc_old _ _ hb)
  have hI:∀ b,w.heap.size≤b→I b=none:=fun b hb=>by
    cases h:I b with
    | none=>rfl
    | some o=>have:=y7 (hs.mem.im b o h);omega
  have hltL:∀ p∈L.flatten,p.1 < w.heap.size:=fun p hp=>y7 (hs.mem.loc p hp)
  have hm1:Mem I [L.flatten++a4B w.heap.size (w.heap.size+1) (rec_ .ready none)] W1:=by
    refine⟨fun b o hb => ?_,fun p hp => ?_,fun p hp => ?_,?_⟩
    · rw [hold b (y7 (hs.mem.im b o hb))];exact hs.mem.im b o hb
    · simp only [List.flatten_cons,List.flatten_nil,List.append_nil,List.mem_append,List.mem_cons,List.not_mem_nil,or_false] at hp
      rcases hp with hp|rfl|rfl
      · rw [hold _ (hltL p hp)];exact hs.mem.loc p hp
      · exact hK1
      · exact hL1
    · simp only [List.flatten_cons,List.flatten_nil,List.append_nil,List.mem_append,List.mem_cons,List.not_mem_nil,or_false] at hp
      rcases hp with hp|rfl|rfl
      · exact hs.mem.sep p hp
      · exact hI _ (Nat.le_refl _)
      · exact hI _ (by simp)
    · simp only [List.flatten_cons,List.flatten_nil,List.append_nil,List.map_append,List.map_cons,List.map_nil]
      refine List.nodup_append.2 ⟨hs.mem.nodup,by simp,?_⟩
      rintro x hx y hy rfl
      obtain⟨q,hq,hqe⟩:=List.mem_map.1 hx
      have:=hltL q hq
      simp only [List.mem_cons,List.not_mem_nil,or_false] at hy
      omega
  have hfun:=iter (w.heap.size+1) (fun k I' Z=>∃ Y,Z=Y++a4B w.heap.size (w.heap.size+1) (rec_ .ready none)∧J k I' Y)
    (fun I' Z=>∃ Y,Z=Y++a4B w.heap.size (w.heap.size+1) (rec_ .done (some (.exit xid)))∧Jx I' Y) _
    (fun k I1 I2 Z hle ⟨Y,e,h⟩=>⟨Y,e,hmono k I1 I2 Y hle h⟩) (fun I1 I2 Z hle ⟨Y,e,h⟩=>⟨Y,e,hmonox I1 I2 Y hle h⟩) (fun k I' Z _ ⟨Y,e,h⟩=>⟨Y,h⟩) ⟨L.flatten,rfl,h0⟩
    (by
      rintro k I' Z us hle ⟨Y,rfl,hJ⟩ hvs
      obtain⟨L1,hperm,hr⟩:=round (w.heap.size+1) k I' Y us hle hJ hvs
      have hab:Fits N ρ ⟨a.tmps,[]⟩:=ha.bare
      have hy:=a0I.round (P:=P) (N:=N) (D:=w.heap.size) (l:=w.heap.size+1) (fn:=fn) (ps:=ps) (assign:=assign) (body:=body) (tm:=a.tmps) (ρ:=ρ) (I':=I') (Y:=L1.flatten) (vs:=us)
        (J':=fun I3 Y3=>J (k+1) I3 Y3) (Jx:=fun id I3 Y3=>id=xid∧Jx I3 Y3) hps (hsz k I' us hvs) hab rec_ hrec
        (fun w1 hm=>⟨L1,rfl,(hr w1 (hm.b5h (by simp))).mono fun e ρ2 I2 L2 ⟨h1,h2⟩=>⟨h1,fun w3 h3=>(h2 w3 h3).mono fun e' ρ3 I3 L3 h4=>by
          rcases h4 with h4|⟨h4,h5⟩
          · exact .inl h4
          · exact .inr ⟨xid,h4,a8,h5⟩⟩⟩)
      refine a0I.mono (a0I.perm hy (by simpa using hperm.append_right _)) ?_
      rintro v J3 L' _ ⟨Y3,⟨h1,h2,h3⟩|⟨id,h1,⟨h4,h5⟩,h3⟩⟩
      · exact⟨_,h3,.inl ⟨h1,Y3,a8,h2⟩⟩
      · subst h4;exact⟨_,h3,.inr ⟨h1,Y3,rfl,h5⟩⟩)
  refine⟨w.heap.size+1,[{ target := .collected w.heap.size,args := #[] }],W1,{ target := .fn (.func gf) lb,args := #[.func (.yield (w.heap.size+1)) #[] #[]] },W1,gf,
    #[.func (.yield (w.heap.size+1)) #[] #[]]++lb,W1,?_,?_,fun _ _=>trivial,?_,fun hd=>(by cases hd),?_⟩
  · rw [←hW1,hrec];exact run_enterLoop_outer _ _ _ _ _
  · simp only [resolve,ha.ev hg]
    simp [go_sem]
  · obtain⟨f',h1,h2,h3⟩:=hok.ok
    have h2':¬f'.name = "runtime.NumGoroutine" := by simpa using h2
    have h3':f'.body≠none:=by intro e;simp [e] at h3
    simp [invoke,callFunc,program,Sem.run,h1,h2',h3']
  · refine(callsIn_wide.2 (Calls.mono (hfun.run W1 hm1) ?_):CallsIn Fence.wide (0 - 1) P gf _ W1 _)
    rintro e w2 ⟨v,I3,L',rfl,hch,hle,hn,hm2,hown,Z3,rfl,Y3,rfl,hJx⟩
    have hl2:w2.heap[w.heap.size+1]?=some (.loop (rec_ .done (some (.exit xid)))):=hm2.loc (w.heap.size+1,_) (by simp)
    have hend:(Instr.endLoop (w.heap.size+1)).run P w2 = .ok (some (.exit xid)) (w2.putObj (w.heap.size+1) (.loop { rec_ .done (some (.exit xid)) with state := .exhausted })):=by
      have h:=run_endLoop (P:=P) hl2 (by rw [hrec];simp)
      rw [hrec] at h ⊢
      exact h
    have hm4:=hm2.c3q (r' := { rec_ .done (some (.exit xid)) with state := .exhausted })
    refine⟨some (.exit xid),_,hend,?_⟩
    have hown3:∀ p∈Y3,w0.heap.size≤p.1∨p.1∈L.flatten.map Prod.fst:=fun p hp=>by
      have hsw:w0.heap.size≤w.heap.size:=hs.S5.size
      rcases hown p (by simp [hp]) with h|h
      · exact .inl (by omega)
      · simp only [List.flatten_cons,List.flatten_nil,List.append_nil,List.map_append,List.map_cons,List.map_nil,List.mem_append,List.mem_cons,List.not_mem_nil,or_false] at h
        rcases h with h|h|h
        · exact .inr h
        · exact .inl (by omega)
        · exact .inl (by omega)
    obtain⟨L3,hp3,hq⟩:=done I3 Y3 hle hJx (fun hL p hp=>(hown3 p hp).elim id fun h=>by
      obtain⟨q,hq,hqe⟩:=List.mem_map.1 h
      rw [←hqe];exact hL q hq)
    have hnd:=hm4.nodup
    simp only [List.flatten_cons,List.flatten_nil,List.append_nil,List.map_append,List.map_cons,List.map_nil,List.nodup_append] at hnd
    have hchg1:Chg M w0 W1:=by rw [←hW1];exact(hs.S5.alloc _).alloc _
    have hchg2:Chg M w0 w2:=by
      refine⟨hch.os.trans hchg1.os,hch.tape.trans hchg1.tape,hch.output.trans hchg1.output,Nat.le_trans hchg1.size hch.size,fun k hk hkm => ?_⟩
      rw [hch.block k (Nat.lt_of_lt_of_le hk hchg1.size) (fun hx => ?_)]
      · exact hchg1.block k hk hkm
      · have hsw:w0.heap.size≤w.heap.size:=hs.S5.size
        have hk':k < w0.heap.size:=hk
        simp only [List.flatten_cons,List.flatten_nil,List.append_nil,List.map_append,List.map_cons,List.map_nil,List.mem_append,List.mem_cons,List.not_mem_nil,or_false] at hx
        rcases hx with h|h|h
        · obtain⟨q,hq,hqe⟩:=List.mem_map.1 h
          rcases hs.own q hq with h1|h1
          · have h1':w0.heap.size≤q.1:=h1
            omega
          · exact hkm (hqe▸h1)
        · omega
        · omega
    have hsw:w0.heap.size≤w.heap.size:=hs.S5.size
    have hst:St ⟨w0,M,I0,none⟩ I3 L3 (w2.putObj (w.heap.size+1) (.loop { rec_ .done (some (.exit xid)) with state := .exhausted })):=by
      refine⟨(hm4.left).perm (by simpa using hp3),hchg2.putObj (.inr (by omega)) _,fun p hp => ?_,hs.U6.trans hle,fun b h0' h1' => ?_⟩
      · rcases hown3 p (hp3.mem_iff.1 hp) with h|h
        · exact .inl h
        · obtain⟨q,hq,hqe⟩:=List.mem_map.1 h
          rw [←hqe];exact hs.own q hq
      · cases h:I b with
        | none =>
          have h2:=hn b h h1'
          have:w0.heap.size≤b:=by omega
          exact this
        | some o=>exact hs.new b h0' (by simp [h])
    refine wpIn_exit ⟨ρ,I3,L3,ha.bare,.inr ⟨w.heap.size,by simp [ha.defers],hm4.loc (w.heap.size,.deferred (some [])) (by simp),hsw,hm4.sep (w.heap.size,.deferred (some [])) (by simp),fun p hp e => ?_⟩,hst,hq⟩
    exact hnd.2.2 p.1 (List.mem_map_of_mem (hp3.mem_iff.1 hp)) w.heap.size (by simp) e
theorem b1I {P : Program} {f : FuncId} {fn : Func} {c : Code} {l : List Value} {I : Im} {L : Lh} {M : List Nat} {w : World} {post : Value → Im → Lh → Prop} {R : Ending → World → Prop}
    (hf:P.funcs[f]?=some fn) (hb:fn.body=some c) (N:Nat) (hN:fn.ntmps=N) (hl:Nat.ble l.length N=true) (hm:Mem I L w) (hM:∀ p∈L.flatten,p.1∈M)
    (h:wpC P ⟨w,M,I,none⟩ N c (b5K P fn post) (a0D l 0) I L) (hR:∀ v J L' w',St ⟨w,M,I,none⟩ J L' w'→post v J L'→R (.returned v) w'):Calls P f l.toArray w R:=by
  refine callsIn_wide.1 (callsIn_of_wp_marks (F:=Fence.wide) (n:=0) hf hb trivial (wpIn_mono (h _ w ?_ ?_) ?_) rfl)
  · have hl':l.length≤N:=Nat.le_of_ble_eq_true hl
    refine⟨rfl,by simp [hN];omega,fun t v hv => ?_⟩
    obtain⟨_,h2⟩:=a4k l 0 t v hv
    have hlt:t < l.length:=(List.getElem?_eq_some_iff.1 (by simpa using h2)).1
    rw [Array.getElem?_append_left (by simpa using hlt)]
    simpa using h2
  · exact⟨hm,Chg.refl _ _,fun p hp => .inr (hM p hp),Le.refl _,fun b h0 h1=>absurd h0 h1⟩
  · rintro e a w' ⟨ρ,J,L',hfit,hmk,hst,hq⟩
    have fin:(∃ v,Fin P fn ρ J L' v∧post v J L')→LeavesInM Fence.wide 0 P fn a.tmps R a.defers .returning w':=by
      rintro⟨v,hfin,hp⟩
      rcases hmk with hd|⟨D,hd,hD,hDs,hDI,hDL⟩
      · rw [hd]
        exact⟨v,hfin N (bare a) w' hfit hst.mem,hR v J L' w' hst hp⟩
      · rw [hd]
        have hst':St ⟨w,M,I,none⟩ J L' (w'.putObj D (.deferred none)):=by
          refine⟨⟨fun b o hb => ?_,fun p hp => ?_,hst.mem.sep,hst.mem.nodup⟩,hst.S5.putObj (.inr hDs) _,hst.own,hst.U6,hst.new⟩
          · rw [World.putObj_heap_other (fun e=>by rw [e,hDI] at hb;cases hb)];exact hst.mem.im b o hb
          · rw [World.putObj_heap_other (hDL p hp)];exact hst.mem.loc p hp
        exact⟨by simp,.inl ⟨D,_,rfl,run_takeDeferred hD,v,hfin N (bare a) _ hfit hst'.mem,hR v J L' _ hst' hp⟩⟩
    cases e with
    | normal=>exact fin hq
    | ret=>exact fin hq
    | _=>exact hq.elim
end Go.Fl
namespace Go.Ab
open Go.Fl Go.RowKit
open o7 (rep)
def Cap (f:FuncId) (ags:List AV) (I:Im) (u:Value):Prop:=∃ vs,u = .func (.func f) #[] vs.toArray∧S6 I ags vs
theorem S6.b1t {I J:Im} (hle:Le I J):∀ {ags:List AV} {vs:List Value},S6 I ags vs→S6 J ags vs
 | [],_,h=>h
 | a::ags,_,h=>by obtain⟨v,r,h1,h2,h3⟩:=h;exact⟨v,r,h1,h2.mono hle,h3.b1t hle⟩
theorem Cap.mono {f:FuncId} {ags:List AV} {I J:Im} {u:Value} (hle:Le I J) (h:Cap f ags I u):Cap f ags J u:=by
 obtain⟨vs,h1,h2⟩:=h;exact⟨vs,h1,h2.b1t hle⟩
def AV.cap (f:FuncId) (ags:List AV):AV := .pr (Cap f ags) Cap.mono
theorem j6.c3t {P : Program} {C : Ctx} {N : Nat} {σ : x7} {H : j7} {f : FuncId} {d : Option Nat} {args : Array Operand} {ty : TypeId} {ps : String} {af : Array Edge} {g : Option (Nat × Bool)} {K : AV → Prop} {caps : List AV}
    (hv:a19 C σ H args.toList caps) (k:K (.cap f caps)):j6 P N C ⟨d,.makeFunc (.func f) #[] args,ty,ps,af,g⟩ σ H K := .C0 (.cap f caps) (fun ρ I L hs=>fun a w ha hm=>by
      obtain⟨vs,h1,h2⟩:=hv.get hs
      have e:=ha.evL h1
      have hargs:args.map a.eval=vs.toArray:=by rw [←e];cases args;simp
      exact⟨.func (.func f) #[] vs.toArray,⟨vs,rfl,h2⟩,by simp [execOp,Instr.makeFunc,hargs]⟩) k
theorem j6.b1d {P : Program} {C : Ctx} {N : Nat} {σ : x7} {H : j7} {d : Option Nat} {ty : TypeId} {ps : String} {af : Array Edge} {g : Option (Nat × Bool)} {K : AV → Prop} {x y : Operand} {T T2 : TypeId} {m n : UInt64} (hx : E6 C σ H x (.v m)) (hy : E6 C σ H y (.v n)) (k : K (.v (m * n))) :
    j6 P N C ⟨d,.binOp .mul T x y T2,ty,ps,af,g⟩ σ H K := .vk k (fun ρ I L hs => .b1d (hx.a1j hs) (hy.a1j hs) ⟨_,rfl,rfl⟩)
theorem j6.a7Y {P : Program} {C : Ctx} {N : Nat} {σ : x7} {H : j7} {d : Option Nat} {ty : TypeId} {ps : String} {af : Array Edge} {g : Option (Nat × Bool)} {K : AV → Prop} {x : Operand} {S D : TypeId} {ds : TypeDesc} {m : UInt8} (hS : P.underlying S = some ds) (hD : P.underlying D = some (.int .u64))
    (hx:E6 C σ H x (.v m)) (k:K (.v m.toUInt64)):j6 P N C ⟨d,.convert S D x,ty,ps,af,g⟩ σ H K := .vk k (fun ρ I L hs=>H7.a7Y hS hD (hx.by8 hs) ⟨[Fl.u64 m.toUInt64],rfl,rfl⟩)
def b7Y (P:Program) (l:Nat) (I0:Im) (ags:List AV) (B:D6) (post:AV→D6→Prop):Prop :=
 ∀ I X vs,Le I0 I→S6 I ags vs→B.a4e I X→a0I P l vs.toArray I [X] (fun v J L'=>∃ r B' X',L' = [X']∧E1 J r v∧B'.a4e J X'∧post r B')
structure Iter where
 K:Nat→Im→Chunk→Prop
 Kx:Im→Chunk→Prop
 mono:∀ k I J Z,Le I J→K k I Z→K k J Z
 c3u:∀ I J Z,Le I J→Kx I Z→Kx J Z
structure c0f where
 it:Iter
 st:Option Nat
def c0f.ub (I:Im) (x:c0f) (X:Chunk):Prop:=match x.st with|some k=>x.it.K k I X|none=>x.it.Kx I X
instance:UB c0f where
 ub I _ x X:=x.ub I X
 mono:=by
  rintro I J w ⟨it,st⟩ X hle h
  cases st with
  | none=>exact it.c3u _ _ _ hle h
  | some k=>exact it.mono _ _ _ _ hle h
abbrev itB (it:Iter) (st:Option Nat):D6 := .usr undef (c0f.mk it st)
theorem A0.b3z {P : Program} {C : Ctx} {N : Nat} {σ : x7} {H : j7} {d : Option Nat} {t : Nat} {args : Array Operand} {tys : Array TypeId} {ty : TypeId} {ps : String} {af : Array Edge} {g : Option (Nat × Bool)} {l : Nat} {I0 : Im} {ags : List AV}
    {post:AV→D6→Prop} {K:AV→j7→Prop} {b:Bool} {B:D6} {F:Bool×D6→j7} (hI:Le I0 C.I0) (h:b7Y P l I0 ags B post) (hF:E9 σ t=some (.raw (.func (.yield l) #[] #[]))) (hH:u4 H (b,B) F) (hv:a19 C σ H args.toList ags)
    (k:∀ r B',post r B'→K r (F (b,B'))):A0 P C N ⟨d,.call ⟨.value (.tmp t),args,tys⟩,ty,ps,af,g⟩ σ H K:=fun ρ I L hs=>by
  obtain⟨vs,h1,h2⟩:=hv.get hs
  obtain⟨i,X,h3,h4,h5⟩:=hH.get hs.heap
  obtain⟨u,h6,rfl⟩:=hs.env t _ hF
  refine OpS.b3z (l:=l) (F := .tmp t) i h3 h6 h1 (h I X vs (hI.trans hs.U6) h2 h4.1) ?_ ?_
  · intro v J c' w hle ⟨r,B',X',q1,q2,q3,q5⟩ q4 hsz
    cases q1
    refine⟨hle,r,_,q2,h5 J (b,B') c' hle ⟨q3,fun hb p hp => ?_⟩,k r B' q5⟩
    rcases q4 p hp with h6|h6
    · exact Nat.le_trans hsz h6
    · obtain⟨q,hq,hqe⟩:=List.mem_map.1 h6
      rw [←hqe];exact h4.2 hb q hq
  · intro v J L' ⟨r,B',X',q1,q2,q3,q5⟩
    exact⟨X',q1⟩
def Gl.over (G:Gl) (I0:Im):Gl:=⟨fun J=>G.p J∧Le I0 J,fun hle h=>⟨G.mono hle h.1,h.2.trans hle⟩⟩
def c1r (G:Gl) (P:Program) (gf:FuncId) (caps:List AV) (vs:Nat→List AV) (bound:Nat):Prop :=
 a6x P gf∧∀ (I0:Im) (l:Nat) (it:Iter),
  (∀ k,k≤bound→b7Y P l I0 (vs k) (itB it (some k)) (fun r B'=>∃ b:Bool,r = .v b∧B'=itB it (if b then some (k+1) else none)∧(b=true→k+1≤bound))) →
  E4 (G.over I0) P gf (.raw (.func (.yield l) #[] #[])::caps) [itB it (some 0)] (fun _ Hs=>Hs = [itB it none])
def wpE (P:Program) (C:Ctx) (N:Nat) (c:Code) (Q:Exit→x7→j7→Prop) (σ:x7) (H:j7):Prop:=∀ ρ I L,Z2 C I L σ H ρ→wpC P C N c (qA C Q) ρ I L
def wpF (P:Program) (C:Ctx) (N:Nat) (c:Code) (Q:Exit→x7→j7→Prop) (σ:x7) (H:j7):Prop:=∀ ρ I L,Z2 C I L σ H ρ→wpD P C N c (qA C Q) ρ I L
def wpG (P:Program) (C:Ctx) (N:Nat) (ops:Array Oper) (Q:Exit→x7→j7→Prop) (l:List Oper) (σ:x7) (H:j7):Prop:=∀ ρ I L,Z2 C I L σ H ρ→b3A P C N ops (qA C Q) l ρ I L
section
variable {P:Program} {C:Ctx} {N:Nat} {Q:Exit→x7→j7→Prop} {σ:x7} {H:j7}
theorem wpE.c2d {x y:Code} (h:J0 P C N x (a58 (wpE P C N y Q) Q) σ H):wpE P C N (.seq x y) Q σ H:=fun ρ I L hs=>by
 refine .c4D ((h ρ I L hs).mono fun e ρ I L ⟨σ,H,h1,h2⟩ => ?_)
 cases e with
 | normal=>exact h2 ρ I L h1
 | _=>exact⟨σ,H,h1,h2⟩
theorem wpE.c4F {x y:Code} (h:wpE P C N x (a58 (wpF P C N y Q) Q) σ H):wpE P C N (.seq x y) Q σ H:=fun ρ I L hs=>by
 refine .c4E ((h ρ I L hs).mono fun e ρ I L ⟨σ,H,h1,h2⟩ => ?_)
 cases e with
 | normal=>exact h2 ρ I L h1
 | _=>exact⟨σ,H,h1,h2⟩
theorem wpE.block {id:Nat} {c:Code} (h:wpE P C N c (a3d id Q) σ H):wpE P C N (.block id c) Q σ H:=fun ρ I L hs=>by
 refine .block ((h ρ I L hs).mono fun e ρ I L ⟨σ,H,h1,h2⟩ => ?_)
 cases e with
 | exit i =>
  cases hb:Nat.beq i id with
  | true=>simp only [a3d,a3J,hb,cond_true] at h2 ⊢;exact⟨σ,H,h1,h2⟩
  | false=>simp only [a3d,a3J,hb,cond_false] at h2 ⊢;exact⟨σ,H,h1,h2⟩
 | _=>exact⟨σ,H,h1,h2⟩
theorem wpF.seq {x y:Code} (h:wpF P C N x (a58 (wpF P C N y Q) Q) σ H):wpF P C N (.seq x y) Q σ H:=fun ρ I L hs=>by
 refine .seq (fun a w ha hm hw=>wpIn_mono (h ρ I L hs a w ha hm hw) fun e a w ⟨ρ,I,L,q1,q2,q3,σ,H,h1,h2⟩=>⟨ρ,I,L,q1,q2,q3,?_⟩)
 cases e with
 | normal=>exact h2 ρ I L h1
 | _=>exact⟨σ,H,h1,h2⟩
theorem wpF.ret (h:Q .ret σ H):wpF P C N .ret Q σ H:=fun ρ I L hs => .ret ⟨σ,H,hs,h⟩
theorem wpF.region {id:Nat} {l:List Oper} (hd:K2 N l=true) (h:wpG P C N l.toArray Q l σ H):wpF P C N (.region id l.toArray false) Q σ H:=fun ρ I L hs => .region hd (h ρ I L hs)
theorem wpG.nil {ops:Array Oper} (h:Q .normal σ H):wpG P C N ops Q [] σ H:=fun ρ I L hs => .nil ⟨σ,H,hs,h⟩
theorem wpG.p {ops : Array Oper} {rest : List Oper} {d : Nat} {op : Op} {ty : TypeId} {ps : String} {af : Array Edge}
    (h:j6 P N C ⟨some d,op,ty,ps,af,none⟩ σ H (fun r=>wpG P C N ops Q rest ((d,r)::σ) H)) :
    wpG P C N ops Q (⟨some d,op,ty,ps,af,none⟩::rest) σ H:=fun ρ I L hs =>
  .x (OpX.a3P (h ρ I L hs) fun v J X hle ⟨hX,r,hr,hk⟩=>by subst hX;exact hk _ _ _ (hs.put hle hr (hs.heap.mono hle)))
end
def c1s (H:j7):j7:=H.map fun B=>(false,B.2)
theorem U0.c3v {n0 n1:Nat} {I:Im}:∀ {H:j7} {L:Lh},U0 n0 I H L→U0 n1 I (c1s H) L
 | [],_,h=>h
 | B::H,_,h=>by obtain⟨X,R,h1,h2,h3⟩:=h;exact⟨X,R,h1,⟨h2.1,fun e=>by cases e⟩,h3.c3v⟩
def b3B (ps:List Nat) (ags:List AV) (σ:x7):x7:=(ps.zip ags).foldl (fun σ p=>p::σ) σ
theorem Z2.params {C C':Ctx} {I I':Im} {L L':Lh} {H H':j7} (hle:Le I I') (hH:U0 C'.w0.heap.size I' H' L') (hI:Le C'.I0 I'):∀ {ps:List Nat} {ags:List AV} {vs:List Value} {σ:x7} {ρ:Env},Z2 C I L σ H ρ→S6 I' ags vs→Z2 C' I' L' (b3B ps ags σ) H' (R3 ps vs ρ):=by
 have base:∀ {σ:x7} {ρ:Env},Z2 C I L σ H ρ→Z2 C' I' L' σ H' ρ:=fun hs=>⟨fun t a ht=>by obtain⟨u,q1,q2⟩:=hs.env t a ht;exact⟨u,q1,q2.mono hle⟩,hH,hI⟩
 have main:∀ {ps:List Nat} {ags:List AV} {vs:List Value} {σ:x7} {ρ:Env},Z2 C' I' L' σ H' ρ→S6 I' ags vs→Z2 C' I' L' (b3B ps ags σ) H' (R3 ps vs ρ):=by
  intro ps
  induction ps with
  | nil=>intro ags vs σ ρ hs _;simpa [b3B,R3] using hs
  | cons p ps ih =>
   intro ags vs σ ρ hs hv
   cases ags with
   | nil=>cases (show vs = [] from hv);simpa [b3B,R3] using hs
   | cons a ags =>
    obtain⟨v,r,rfl,h2,h3⟩:=hv
    have:=ih (hs.put (Le.refl _) (d:=p) h2 hs.heap) h3
    simpa [b3B,R3] using this
 intro ps ags vs σ ρ hs hv
 exact main (base hs) hv
theorem a2K.le {I J:Im} (hle:Le I J):∀ {Hs:List D6} {L:Lh},a2K I Hs L→a2K J Hs L
 | [],_,h=>h
 | B::Hs,_,h=>by obtain⟨X,R,h1,h2,h3⟩:=h;exact⟨X,R,h1,D6.mono hle h2,a2K.le hle h3⟩
theorem wpE.range {G : Gl} {P : Program} {C : Ctx} {N : Nat} {Q : Exit → x7 → j7 → Prop} {σ : x7} {H : j7} {t : Nat} {ps : Array Tmp} {assign body : Code} {gf : Nat} {caps : List AV} {vs : Nat → List AV} {bound : Nat} (Hs : Nat → List D6) (Hx : List D6) (xid : Nat)
    (hrd:C.rd=none) (hG:G.p C.I0) (hg:E9 σ t=some (.cap gf caps)) (hit:c1r G P gf caps vs bound) (hps:∀ p∈ps.toList,p < N) (hsz:∀ k,(vs k).length=ps.size)
    (h0:Sel H (Hs 0)) (hall:H.all (·.1)=true)
    (round:∀ k,k≤bound→∀ C1:Ctx,Ctx.Ok C1→G.p C1.I0→J0 P C1 N assign (fun e σ2 H2=>e = .normal∧∀ C2:Ctx,Ctx.Ok C2→G.p C2.I0→J0 P C2 N body (fun e' _ H3=>(e' = .normal∧k+1≤bound∧Sel H3 (Hs (k+1)))∨(e' = .exit xid∧Sel H3 Hx)) σ2 (c1s H2))
      (b3B ps.toList (vs k) σ) ((Hs k).map (fun B=>(false,B)) ++ [(false,.none_)]))
    (done:Q (.exit xid) σ (Hx.map (fun B=>(true,B)) ++ [(false,.none_)])):wpE P C N (.rangeFunc (.tmp t) ps assign body) Q σ H:=fun ρ I L hs=>by
  obtain⟨u,hu,us,rfl,hcap⟩:=hs.env t _ hg
  obtain⟨L0,R0,hp0,hk0⟩:=h0 _ I L hs.heap
  have hlen:∀ {ags:List AV} {us:List Value} {I:Im},S6 I ags us→us.length=ags.length:=fun h=>S6.len h
  have hL:∀ q∈L.flatten,C.w0.heap.size≤q.1:=by
    have h1:=hs.heap
    clear hp0 hs h0 round
    revert L
    induction H with
    | nil=>intro L h1;have:L = []:=h1;subst this;simp
    | cons B H ih =>
      intro L h1
      obtain⟨X,R,rfl,h2,h3⟩:=h1
      simp only [List.all_cons,Bool.and_eq_true] at hall
      intro q hq
      simp only [List.flatten_cons,List.mem_append] at hq
      rcases hq with hq|hq
      · exact h2.2 hall.1 q hq
      · exact ih hall.2 R h3 q hq
  have stt:∀ {Hs:List D6} {I':Im} {Y:Chunk} {L1:Lh} {R:Chunk} (n:Nat),(L1.flatten++R).Perm Y→a2K I' Hs L1→U0 n I' (Hs.map (fun B=>(false,B)) ++ [(false,.none_)]) (L1 ++ [R]):=fun n h1 h2 =>
    U0.append h2.toH ⟨_,[],rfl,⟨trivial,fun e=>by cases e⟩,rfl⟩
  refine wpC.range (fun k I' ws=>S6 I' (vs k) ws) (fun k I' Y=>k≤bound∧∃ (L1:Lh) (R:Chunk),(L1.flatten++R).Perm Y∧a2K I' (Hs k) L1) xid (fun I' Y=>∃ (L1:Lh) (R:Chunk),(L1.flatten++R).Perm Y∧a2K I' Hx L1)
    hrd hu hit.1 hps (fun k I us h=>by rw [hlen h,hsz]) (fun k I1 I2 Y hle ⟨h1,L1,R,h2,h3⟩=>⟨h1,L1,R,h2,a2K.le hle h3⟩) (fun I1 I2 Y hle ⟨L1,R,h2,h3⟩=>⟨L1,R,h2,a2K.le hle h3⟩)
    ⟨Nat.zero_le _,L0,R0,hp0,hk0⟩ ?_ ?_ ?_
  · -- a round
    rintro l k I' Y ws hle ⟨hkb,L1,R,hp1,hk1⟩ hws
    refine⟨L1 ++ [R],by simpa using hp1,fun w1 hm1 => ?_⟩
    have hok:∀ {I:Im} {L:Lh} {w:World},Mem I L w→Ctx.Ok ⟨w,L.flatten.map Prod.fst,I,some l⟩:=fun hm k hk=>by
      obtain⟨p,hp,rfl⟩:=List.mem_map.1 hk
      exact y7 (hm.loc p hp)
    have hr:=round k hkb ⟨w1,(L1 ++ [R]).flatten.map Prod.fst,I',some l⟩ (hok hm1) (G.mono (hs.U6.trans hle) hG)
    have hrs:Z2 ⟨w1,(L1 ++ [R]).flatten.map Prod.fst,I',some l⟩ I' (L1 ++ [R]) (b3B ps.toList (vs k) σ) ((Hs k).map (fun B=>(false,B)) ++ [(false,.none_)]) (R3 ps.toList ws ρ) :=
      Z2.params hle (stt _ hp1 hk1) (Le.refl _) hs hws
    refine(hr _ I' _ hrs).mono ?_
    rintro e ρ2 I2 L2 ⟨σ2,H2,hr2,rfl,hb⟩
    refine⟨a8,fun w3 hm3 => ?_⟩
    have hb2:=hb ⟨w3,L2.flatten.map Prod.fst,I2,some l⟩ (hok hm3) (G.mono ((hs.U6.trans hle).trans hr2.U6) hG)
    refine(hb2 ρ2 I2 L2 ⟨hr2.env,hr2.heap.c3v,Le.refl _⟩).mono ?_
    rintro e' ρ3 I3 L3 ⟨σ3,H3,hr3,⟨rfl,hk',hsel⟩|⟨rfl,hsel⟩⟩
    · obtain⟨L4,R4,q1,q2⟩:=hsel _ I3 L3 hr3.heap
      exact .inl ⟨a8,hk',L4,R4,q1,q2⟩
    · obtain⟨L4,R4,q1,q2⟩:=hsel _ I3 L3 hr3.heap
      exact .inr ⟨a8,L4,R4,q1,q2⟩
  · -- the iterator
    intro l K Kx Z hm hmx hKJ hK0 hy
    have hit2:=hit.2 I l ⟨K,Kx,hm,hmx⟩ (fun k hkb I' X ws hle hws hB=>by
      have hB':K k I' X:=hB
      refine a0I.mono (hy k I' X ws hle hB' hws) ?_
      rintro v J L' hle' ⟨Z3,rfl,⟨rfl,h1⟩|⟨rfl,h1⟩⟩
      · obtain⟨Y,h2,_⟩:=hKJ (k+1) J Z3 (hle.trans hle') h1
        exact⟨.v true,itB ⟨K,Kx,hm,hmx⟩ (some (k+1)),Z3,a8,⟨_,a8,a8⟩,h1,.intro true ⟨a8,a8,fun _=>h2⟩⟩
      · exact⟨.v false,itB ⟨K,Kx,hm,hmx⟩ none,Z3,rfl,⟨_,rfl,rfl⟩,h1,.intro false ⟨rfl,rfl,fun e=>by cases e⟩⟩)
    have hM:=hit2 I [Z] (.func (.yield l) #[] #[]::us) ⟨G.mono hs.U6 hG,Le.refl _⟩ ⟨_,us,rfl,rfl,hcap⟩ ⟨Z,[],rfl,hK0,rfl⟩
    have hargs:(#[.func (.yield l) #[] #[]]++us.toArray:Array Value)=(.func (.yield l) #[] #[]::us).toArray:=by simp
    rw [hargs]
    refine⟨hM.ok,fun w0 hm0=>(hM.run w0 hm0).mono ?_⟩
    rintro e w' ⟨v,J,L',rfl,q1,q2,q3,q4,q5,r,Hs',q6,q7,rfl⟩
    obtain⟨X',R',rfl,q8,q9⟩:=q7
    have q9':R' = []:=q9
    subst q9'
    exact⟨v,J,_,a8,q1,q2,q3,q4,q5,X',a8,q8⟩
  · -- behind it
    rintro I3 Y hle ⟨L1,R,hp1,hk1⟩ hfr
    have hfr':=hfr hL
    refine⟨L1 ++ [R],by simpa using hp1,σ,_,⟨fun t a ht=>by obtain⟨u,q1,q2⟩:=hs.env t a ht;exact⟨u,q1,q2.mono hle⟩,?_,hs.U6.trans hle⟩,done⟩
    exact U0.append (hk1.toT (fun p hp=>hfr' p (hp1.mem_iff.1 (List.mem_append_left _ hp)))) ⟨_,[],rfl,⟨trivial,fun e=>by cases e⟩,rfl⟩
theorem E6.b3C {C:Ctx} {σ:x7} {H:j7} {α:Type} {r:o7 α} {t:Nat} {w:Value} {E:TypeId} {l:List α} {b:Bool} {F:Bool×D6→j7} (ht:E9 σ t=some (.raw w)) (hH:u4 H (b,.own E w l) F):E6 C σ H (.tmp t) (.v (V3.mk w)):=fun ρ I L hs=>by
 obtain⟨u,h1,rfl⟩:=hs.env t _ ht
 obtain⟨i,X,h2,h3,_⟩:=hH.get hs.heap
 obtain⟨xs,h4,_⟩:=h3.1
 obtain⟨a,c,rfl⟩:=h4.shape
 exact⟨_,h1,_,⟨a8,a8⟩,a8⟩
theorem E4.b0q {G:Gl} {P:Program} {f:FuncId} {ags:List AV} {E:TypeId} {α:Type} [r:o7 α] {l:List α} (h:E4 G P f ags [] (fun r Hs=>∃ u,r = .raw u∧Hs = [.own E u l])):p4 G P f ags (fun r=>r = .v l):=fun I vs hG hvs=>by
 have hM:=h I [] vs hG hvs rfl
 refine⟨hM.ok,fun w hm=>(hM.run w hm).mono ?_⟩
 rintro e w' ⟨v,J,L',rfl,q1,q2,q3,q4,q5,r,Hs',q6,q7,u,rfl,rfl⟩
 obtain⟨X,R,rfl,q8,q9⟩:=q7
 have q9':R = []:=q9
 subst q9'
 have q6':v=u:=q6
 subst q6'
 have hle:Le J (J.with X):=Im.a1G fun p hp=>q4.sep p (by simpa using hp)
 refine⟨v,J.with X,rfl,by simpa using q1,q2.trans hle,fun b h0 h1 => ?_,(q4.freeze (i:=0) (c:=X) rfl).drop,.v l,W2 q8 hle (fun p hp=>Im.a1N (by simpa using q4.nodup) hp),rfl⟩
 cases hj:J.with X b with
 | none=>exact absurd hj h1
 | some o =>
  rcases Im.a0b hj with h2|h2
  ·rcases q5 (b,o) (by simpa using h2) with h3|h3
   ·exact h3
   ·cases h3
  ·exact q3 b h0 (by simp [h2])
theorem E4.c0g {G : Gl} {P : Program} {f : FuncId} {fn : Func} {c : Code} {ags : List AV} {Hs : List D6} {post : AV → List D6 → Prop} (hf : P.funcs[f]? = some fn) (hb : fn.body = some c) (hn : (fn.name == "runtime.NumGoroutine") = false)
    (N:Nat) (hN:fn.ntmps=N) (hl:Nat.ble ags.length N=true) (σ:x7) (hσ:b0e ags 0=σ) (H0:j7) (hH:a8m Hs=H0)
    (h:∀ C:Ctx,Ctx.Ok C→C.rd=none→G.p C.I0→wpE P C N c (a7H P fn C (fun r H=>∃ Hs',Sel H Hs'∧post r Hs')) σ H0):E4 G P f ags Hs post:=fun I L vs hG hvs hL =>
  ⟨⟨fn,hf,hn,by simp [hb]⟩,fun w hm=>b1I hf hb N hN (by rw [hvs.len];exact hl) hm (M:=L.flatten.map Prod.fst) (fun p hp=>List.mem_map_of_mem hp)
    ((h ⟨w, L.flatten.map Prod.fst, I, none⟩ (fun k hk => by
        obtain⟨p,hp,rfl⟩:=List.mem_map.1 hk
        exact y7 (hm.loc p hp)) rfl hG (a0D vs 0) I L ⟨by rw [←hσ];exact hvs.env 0,by rw [←hH,a4u];exact hL.toH,Le.refl I⟩).mono fun e ρ J L hq=>a7H.q hq)
    fun v J L' w' hs hp=>by
      obtain⟨r,H,h1,h2,Hs',h3,h4⟩:=hp
      obtain⟨L2,R,h5,h6⟩:=h3 _ J L' h2
      have hin:∀ p∈L2.flatten,p∈L'.flatten:=fun p hp=>h5.mem_iff.1 (List.mem_append_left _ hp)
      refine⟨v,J,L2,a8,hs.S5,hs.U6,fun b h0 h1=>hs.new b h0 h1,⟨hs.mem.im,fun p hp=>hs.mem.loc p (hin p hp),fun p hp=>hs.mem.sep p (hin p hp),?_⟩,fun p hp=>hs.own p (hin p hp),r,_,h1,h6,h4⟩
      have:=(h5.map Prod.fst).nodup_iff.2 hs.mem.nodup
      rw [List.map_append,List.nodup_append] at this
      exact this.1⟩
end Go.Ab
namespace Go.Ab
open Go.Fl Go.RowKit
open o7 (rep)
universe u
class TyI (P:Program) (T:TypeId) (α:outParam Type) (r:outParam (o7 α)) (i:outParam (Inhabited α)):Prop where h:G2 P T α
class UnI (P:Program) (T:TypeId) (d:outParam TypeDesc):Prop where h:P.underlying T=some d
class SlI (P:Program) (T:TypeId) (E:outParam TypeId) (α:outParam Type) (n:outParam Nat) (r:outParam (o7 α)) (i:outParam (Inhabited α)):Prop where h:SlT P T E α n
class FdI (P:Program) (T:TypeId) (i:Nat) (β:outParam Type) (s:outParam (o7 β)) (γ:outParam Type) (q:outParam (o7 γ)) (m:outParam (j9 β γ)) (f:outParam (β→γ)):Prop where
 h:∃ sz,p8 P T i=some (m.off,sz+1,o7.agg γ)∧sz+1=o7.size γ
 e:∀ x,m.get x=f x
 b:o7.agg β=true
class LnI {β γ:Type} {s:o7 β} {q:o7 γ} (m:j9 β γ) (f:outParam (β→γ)) (g:outParam (γ→β→β)):Prop where
 e:∀ x,m.get x=f x
 u:∀ y x,m.set y x=g y x
abbrev TyJ (P:Program) (T:TypeId) (α:Type) [r:o7 α] [i:Inhabited α]:Prop:=TyI P T α r i
abbrev SlJ (P:Program) (T E:TypeId) (α:Type) (n:Nat) [r:o7 α] [i:Inhabited α]:Prop:=SlI P T E α n r i
abbrev FdJ (P:Program) (T:TypeId) (i:Nat) {β γ:Type} [s:o7 β] [q:o7 γ] (m:j9 β γ) (f:β→γ):Prop:=FdI P T i β s γ q m f
theorem FdI.mk' {P:Program} {T:TypeId} {i:Nat} {β:Type} {s:o7 β} {γ:Type} {q:o7 γ} {m:j9 β γ} {f:β→γ} {off sz:Nat} {ag:Bool} (hf:p8 P T i=some (off,sz+1,ag)) (ho:off=m.off) (hz:sz+1=o7.size γ) (hg:ag=o7.agg γ) (e:∀ x,m.get x=f x) (b:o7.agg β=true):FdI P T i β s γ q m f:=by
 subst ho;subst hg
 exact⟨⟨sz,hf,hz⟩,e,b⟩
@[reducible] def lookW:x7→Nat→Option AV
 | [],_=>none
 | (s,a)::r,t=>match Nat.beq s t with|true=>some a|false=>lookW r t
theorem a6f:∀ (σ:x7) (t:Nat),lookW σ t=E9 σ t
 | [],_=>rfl
 | (s,a)::r,t=>by
  unfold lookW E9
  cases Nat.beq s t with
  | true=>rfl
  | false=>exact a6f r t
@[reducible] def b3D:List Oper→Nat→Option Nat
 | [],_=>none
 | o::_,0=>o.dst
 | _::l,n+1=>b3D l n
theorem b0r:∀ (l:List Oper) (n:Nat),b3D l n=(l.toArray[n]?).bind (·.dst)
 | [],_=>by simp [b3D]
 | _::_,0=>by simp [b3D]
 | _::l,n+1=>by
  have:=b0r l n
  simp only [b3D]
  simpa using this
@[reducible] def b7Z (N:Nat):List Oper→Bool
 | []=>true
 | o::l=>match o.dst with|none=>b7Z N l|some d=>match Nat.ble (d+1) N with|true=>b7Z N l|false=>false
theorem b5i {N:Nat}:∀ {l:List Oper},b7Z N l=true→K2 N l=true
 | [],_=>by rfl
 | o::l,h=>by
  have ih:=b5i (N:=N) (l:=l)
  unfold b7Z at h
  cases ho:o.dst with
  | none=>simp_all [K2]
  | some d =>
   rw [ho] at h
   simp only at h
   split at h
   ·rename_i hb
    have:=Nat.le_of_ble_eq_true hb
    simp_all [K2]
    try omega
   ·cases h
@[reducible] def c2e:List UInt8→Nat→Bool
 | [],_=>true
 | _::l,n+1=>c2e l n
 | _::_,0=>false
theorem b5j:∀ {l:List UInt8} {n:Nat},c2e l n=true→l.length≤n
 | [],_,_=>by simp
 | _::l,n+1,h=>by
  have:=b5j (l:=l) (n:=n) h
  simp;omega
 | _::_,0,h=>by cases h
class EqS {α:Type u} (x:Option α) (a:outParam α):Prop where h:x=some a
instance {α:Type u} {a:α}:EqS (no_index (some a)) a:=⟨rfl⟩
class TrB (b:Bool):Prop where h:b=true
instance:TrB (no_index true):=⟨rfl⟩
class AsC (c:Bool) (a:AV) (b:outParam AV):Prop where h:∀ I u,c=true→E1 I a u→E1 I b u
instance (priority:=low) {c:Bool} {a:AV}:AsC c a a:=⟨fun _ _ _ h=>h⟩
instance {c:Bool} {a:AV}:AsC c (.opt c a) a:=⟨fun _ _ e h=>h e⟩
class VaQ (a:AV) (α:outParam Type) (r:outParam (o7 α)) (x:outParam α):Prop where h:∀ I u,E1 I a u→E1 I (.v x) u
instance {α:Type} {r:o7 α} {x:α}:VaQ (.v x) α r x:=⟨fun _ _ h=>h⟩
class EvQ (c:Bool) (σ:x7) (x:Operand) (a:outParam AV):Prop where h:∀ C H,c=true→E6 C σ H x a
class EvV (c:Bool) (σ:x7) (x:Operand) (α:outParam Type) (r:outParam (o7 α)) (v:outParam α):Prop where h:∀ C H,c=true→E6 C σ H x (.v v)
section
variable {P:Program} {σ:x7} {x y z:Operand} {c bo:Bool} {n:Nat}
instance {t:Nat} {a b:AV} [h:EqS (lookW σ t) a] [k:AsC c a b]:EvQ c σ (.tmp t) b:=⟨fun C H e ρ I L hs=>by
 obtain⟨u,h1,h2⟩:=hs.env t a ((a6f σ t).symm.trans h.h)
 exact⟨u,h1,k.h I u e h2⟩⟩
instance:EvQ c σ (.const (.bool bo)) (.v bo):=⟨fun _ _ _ => .b⟩
instance [h:TrB (Nat.ble n 9223372036854775807)]:EvQ c σ (.const (.int .i64 (no_index (@OfNat.ofNat Int n _)))) (.v (@OfNat.ofNat Int n _)):=⟨fun _ _ _ => .i (by
 have:=Nat.le_of_ble_eq_true h.h
 simp only [Bool.and_eq_true,decide_eq_true_eq]
 show -9223372036854775808≤(n:Int)∧(n:Int)≤9223372036854775807
 omega)⟩
instance {l:List UInt8} [h:TrB (c2e l 10000)]:EvQ c σ (.const (.string (ByteArray.mk (List.toArray l)))) (.v (Y4.mk l)):=⟨fun _ _ _ => .s l (by simp) (Nat.le_trans (b5j h.h) (by decide))⟩
instance [h:TrB (Nat.ble n 255)]:EvQ c σ (.const (.int .u8 (no_index (@OfNat.ofNat Int n _)))) (.v (@OfNat.ofNat UInt8 n _)):=⟨fun _ _ _ => .u8 _ (by
 have:=Nat.le_of_ble_eq_true h.h
 show(n:Int)=_
 have:(OfNat.ofNat n:UInt8).toNat=n % 2^8:=UInt8.toNat_ofNat'
 omega)⟩
instance [h:TrB (Nat.ble n 18446744073709551615)]:EvQ c σ (.const (.int .u64 (no_index (@OfNat.ofNat Int n _)))) (.v (@OfNat.ofNat UInt64 n _)):=⟨fun _ _ _ => .u64 _ (by
 have:=Nat.le_of_ble_eq_true h.h
 show(n:Int)=_
 have:(OfNat.ofNat n:UInt64).toNat=n % 2^64:=UInt64.toNat_ofNat'
 omega)⟩
instance {a:AV} {α:Type} {r:o7 α} {v:α} [h:EvQ c σ x a] [k:VaQ a α r v]:EvV c σ x α r v:=⟨fun C H e ρ I L hs=>by
 obtain⟨u,h1,h2⟩:=h.h C H e ρ I L hs
 exact⟨u,h1,k.h I u h2⟩⟩
end
class HoQ (H:j7) (w:Value) (B:outParam (Bool×D6)) (F:outParam (Bool×D6→j7)):Prop where h:u4 H B F
instance (priority:=low) {A B:Bool×D6} {H:j7} {w:Value} {F:Bool×D6→j7} [k:HoQ H w B F]:HoQ (A::H) w B (fun X=>A::F X):=⟨.s k.h⟩
instance {g:Bool} {α:Type} {r:o7 α} {a:α} {H:j7} {w:Value}:HoQ ((g,.ob w a)::H) w (g,.ob w a) (fun X=>X::H):=⟨.z⟩
instance {g:Bool} {α:Type} {r:o7 α} {E:TypeId} {a:List α} {H:j7} {w:Value}:HoQ ((g,.own E w a)::H) w (g,.own E w a) (fun X=>X::H):=⟨.z⟩
class OpQ (G:Gl) (P:Program) (c:Bool) (o:Oper) (σ:x7) (H:j7) (r:outParam AV):Prop where h:∀ N C,G.p C.I0→c=true→j6 P N C o σ H (fun a=>a=r)
class LdQ (P:Program) (T:TypeId) (a:AV) (H:j7) (r:outParam AV):Prop where h:∀ N C σ x d ty ps af g,E6 C σ H x a→j6 P N C ⟨d,.load T x,ty,ps,af,g⟩ σ H (fun a=>a=r)
class FaQ (P:Program) (T:TypeId) (i:Nat) (a:AV) (r:outParam AV):Prop where h:∀ N C σ H x d ty ps af g,E6 C σ H x a→j6 P N C ⟨d,.fieldAddr T x i,ty,ps,af,g⟩ σ H (fun a=>a=r)
section
variable {G:Gl} {P:Program} {N:Nat} {c:Bool} {σ:x7} {H:j7} {d:Option Nat} {ty:TypeId} {ps:String} {af:Array Edge} {g:Option (Nat×Bool)} {x y z:Operand} {T T2 E:TypeId} {bo:Bool} {a b:AV}
instance {α:Type} {r:o7 α} {i:Inhabited α} {a:α} [t:TyI P T α r i]:LdQ P T (.p a) H (.v a):=⟨fun N C σ x d ty ps af g h => .G6 t.h h rfl⟩
instance {α:Type} {r:o7 α} {i:Inhabited α} {w:Value} {a:α} {bb:Bool} {F:Bool×D6→j7} [t:TyI P T α r i] [k:HoQ H w (bb,.ob w a) F]:LdQ P T (.ln w (j9.id (α:=α))) H (.v a):=⟨fun N C σ x d ty ps af g h => .S4 t.h h k.h rfl⟩
instance (priority:=low) {α β:Type} {r:o7 α} {s:o7 β} {i:Inhabited β} {w:Value} {l:j9 α β} {a:α} {bb:Bool} {F:Bool×D6→j7} {f:α→β} {f':β→α→α} [t:TyI P T β s i] [n:LnI l f f'] [k:HoQ H w (bb,.ob w a) F]:LdQ P T (.ln w l) H (.v (f a)):=⟨fun N C σ x d ty ps af g h => .ldF f t.h h k.h n.e rfl⟩
instance {β γ:Type} {s:o7 β} {q:o7 γ} {i:Nat} {a:β} {m:j9 β γ} {f:β→γ} [n:FdI P T i β s γ q m f]:FaQ P T i (.p a) (.p (f a)):=⟨fun N C σ H x d ty ps af g h=>by
 obtain⟨sz,k,_⟩:=n.h
 exact .A7 m f k a8 n.e h a8⟩
instance {β γ:Type} {s:o7 β} {q:o7 γ} {i:Nat} {w:Value} {m:j9 β γ} {f:β→γ} [n:FdI P T i β s γ q m f]:FaQ P T i (.ln w (j9.id (α:=β))) (.ln w m):=⟨fun N C σ H x d ty ps af g h=>by
 obtain⟨sz,k,_⟩:=n.h
 exact .A9 m k a8 h a8⟩
instance {α β:Type} {r:o7 α} {s:o7 β} {w:Value} {l:j9 α β} [h:EvQ c σ x (.ln w l)]:OpQ G P c ⟨d,.nilCheck x,ty,ps,af,g⟩ σ H (.ln w l):=⟨fun N C hG e => .F1 (h.h C H e) rfl⟩
instance (priority:=low) {α β γ:Type} {r:o7 α} {s:o7 β} {q:o7 γ} {i:Nat} {w:Value} {l:j9 α β} {m:j9 β γ} {f:β→γ} [n:FdI P T i β s γ q m f]:FaQ P T i (.ln w l) (.ln w (l.comp m)):=⟨fun N C σ H x d ty ps af g h=>by
 obtain⟨sz,k,_⟩:=n.h
 exact .c0a m k a8 h a8⟩
instance {β γ δ:Type} {r:o7 β} {s:o7 γ} {q:o7 δ} {l:j9 β γ} {m:j9 γ δ} {f:β→γ} {f':γ→β→β} {k:γ→δ} {k':δ→γ→γ} [a:LnI l f f'] [b:LnI m k k']:LnI (l.comp m) (fun x=>k (f x)) (fun y x=>f' (k' y (f x)) x):=⟨fun x=>by
 show m.get (l.get x)=_
 rw [a.e,b.e],fun y x=>by
 show l.set (m.set y (l.get x)) x=_
 rw [a.e,b.u,a.u]⟩
instance [h:EvQ c σ x a]:OpQ G P c ⟨d,.move x,ty,ps,af,g⟩ σ H a:=⟨fun N C hG e => .move (h.h C H e) rfl⟩
instance [h:EvQ c σ x a]:OpQ G P c ⟨d,.assign x,ty,ps,af,g⟩ σ H a:=⟨fun N C hG e => .assign (h.h C H e) rfl⟩
instance {α:Type} {r:o7 α} {n:Nat} {i:Inhabited α} {E:TypeId} [t:SlI P ty E α n r i]:OpQ G P c ⟨d,.assign (.const (.slice none 0 0)),ty,ps,af,g⟩ σ H (.v ([]:List α)):=⟨fun N C hG e => .assign .b3q rfl⟩
instance [h:EvQ c σ x a] [k:LdQ P T a H b]:OpQ G P c ⟨d,.load T x,ty,ps,af,g⟩ σ H b:=⟨fun N C hG e=>k.h N C σ x d ty ps af g (h.h C H e)⟩
instance {i:Nat} [h:EvQ c σ x a] [k:FaQ P T i a b]:OpQ G P c ⟨d,.fieldAddr T x i,ty,ps,af,g⟩ σ H b:=⟨fun N C hG e=>k.h N C σ H x d ty ps af g (h.h C H e)⟩
instance {α:Type} {r:o7 α} {l:List α} [h:EvV c σ x (List α) inferInstance l] [u:UnI P T (.slice E)]:OpQ G P c ⟨d,.call ⟨.builtin .len,#[x],#[T]⟩,ty,ps,af,g⟩ σ H (.v (l.length:Int)):=⟨fun N C hG e => .len u.h (h.h C H e) rfl⟩
instance {s:Y4} [h:EvV c σ x Y4 inferInstance s] [u:UnI P T .string]:OpQ G P c ⟨d,.call ⟨.builtin .len,#[x],#[T]⟩,ty,ps,af,g⟩ σ H (.v (s.l.length:Int)):=⟨fun N C hG e => .c1J u.h (h.h C H e) rfl⟩
section
variable {m n:Int} [hx:EvV c σ x Int inferInstance m] [hy:EvV c σ y Int inferInstance n]
instance:OpQ G P c ⟨d,.binOp .lss T x y T2,ty,ps,af,g⟩ σ H (.v (decide (m < n))):=⟨fun N C hG e => .lss (hx.h C H e) (hy.h C H e) rfl⟩
instance:OpQ G P c ⟨d,.binOp .leq T x y T2,ty,ps,af,g⟩ σ H (.v (decide (m≤n))):=⟨fun N C hG e => .leq (hx.h C H e) (hy.h C H e) rfl⟩
instance:OpQ G P c ⟨d,.binOp .gtr T x y T2,ty,ps,af,g⟩ σ H (.v (decide (n < m))):=⟨fun N C hG e => .gtr (hx.h C H e) (hy.h C H e) rfl⟩
instance:OpQ G P c ⟨d,.binOp .geq T x y T2,ty,ps,af,g⟩ σ H (.v (decide (n≤m))):=⟨fun N C hG e => .geq (hx.h C H e) (hy.h C H e) rfl⟩
instance:OpQ G P c ⟨d,.binOp .eql T x y T2,ty,ps,af,g⟩ σ H (.v (decide (m=n))):=⟨fun N C hG e => .b2Q (hx.h C H e) (hy.h C H e) rfl⟩
instance:OpQ G P c ⟨d,.binOp .neq T x y T2,ty,ps,af,g⟩ σ H (.v (decide (m≠n))):=⟨fun N C hG e => .a7D (hx.h C H e) (hy.h C H e) rfl⟩
end
section
variable {m n:UInt64} [hx:EvV c σ x UInt64 inferInstance m] [hy:EvV c σ y UInt64 inferInstance n]
instance:OpQ G P c ⟨d,.binOp .eql T x y T2,ty,ps,af,g⟩ σ H (.v (decide (m=n))):=⟨fun N C hG e => .c1j (hx.h C H e) (hy.h C H e) rfl⟩
instance:OpQ G P c ⟨d,.binOp .or T x y T2,ty,ps,af,g⟩ σ H (.v (m ||| n)):=⟨fun N C hG e => .c1I (hx.h C H e) (hy.h C H e) rfl⟩
instance:OpQ G P c ⟨d,.binOp .and T x y T2,ty,ps,af,g⟩ σ H (.v (m &&& n)):=⟨fun N C hG e => .b4B (hx.h C H e) (hy.h C H e) rfl⟩
instance:OpQ G P c ⟨d,.binOp .add T x y T2,ty,ps,af,g⟩ σ H (.v (m+n)):=⟨fun N C hG e => .b7h (hx.h C H e) (hy.h C H e) rfl⟩
instance:OpQ G P c ⟨d,.binOp .sub T x y T2,ty,ps,af,g⟩ σ H (.v (m - n)):=⟨fun N C hG e => .b1e (hx.h C H e) (hy.h C H e) rfl⟩
instance:OpQ G P c ⟨d,.binOp .neq T x y T2,ty,ps,af,g⟩ σ H (.v (decide (m≠n))):=⟨fun N C hG e => .b4Z (hx.h C H e) (hy.h C H e) rfl⟩
end
section
variable {m n:UInt8} [hx:EvV c σ x UInt8 inferInstance m] [hy:EvV c σ y UInt8 inferInstance n]
instance:OpQ G P c ⟨d,.binOp .lss T x y T2,ty,ps,af,g⟩ σ H (.v (decide (m < n))):=⟨fun N C hG e => .c4q (hx.h C H e) (hy.h C H e) rfl⟩
instance:OpQ G P c ⟨d,.binOp .gtr T x y T2,ty,ps,af,g⟩ σ H (.v (decide (n < m))):=⟨fun N C hG e => .c4r (hx.h C H e) (hy.h C H e) rfl⟩
instance:OpQ G P c ⟨d,.binOp .eql T x y T2,ty,ps,af,g⟩ σ H (.v (decide (m=n))):=⟨fun N C hG e => .c4s (hx.h C H e) (hy.h C H e) rfl⟩
instance:OpQ G P c ⟨d,.binOp .xor T x y T2,ty,ps,af,g⟩ σ H (.v (m ^^^ n)):=⟨fun N C hG e => .b5L (hx.h C H e) (hy.h C H e) rfl⟩
end
section
variable {m n:Y4} [hx:EvV c σ x Y4 inferInstance m] [hy:EvV c σ y Y4 inferInstance n]
instance:OpQ G P c ⟨d,.binOp .eql T x y T2,ty,ps,af,g⟩ σ H (.v (decide (m=n))):=⟨fun N C hG e => .c4y (hx.h C H e) (hy.h C H e) rfl⟩
end
instance [h:EvV c σ x Bool inferInstance bo]:OpQ G P c ⟨d,.unOp .not T x,ty,ps,af,g⟩ σ H (.v (!bo)):=⟨fun N C hG e => .not (h.h C H e) rfl⟩
instance {v:Bool} [h:EvV c σ x Bool inferInstance bo] [k:EvV (bo == true) σ y Bool inferInstance v]:OpQ G P c ⟨d,.pick x y (.const (.bool false)),ty,ps,af,g⟩ σ H (.v (bo&&v)):=⟨fun N C hG e => .T5 (h.h C H e) (fun e=>k.h C H (beq_iff_eq.2 e)) rfl⟩
instance {v:Bool} [h:EvV c σ x Bool inferInstance bo] [k:EvV (bo == false) σ y Bool inferInstance v]:OpQ G P c ⟨d,.pick x (.const (.bool true)) y,ty,ps,af,g⟩ σ H (.v (bo||v)):=⟨fun N C hG e => .a3Q (h.h C H e) (fun e=>k.h C H (beq_iff_eq.2 e)) rfl⟩
instance {b:AV} [h:EvQ c σ x (.t2 a b)]:OpQ G P c ⟨d,.extract x 0,ty,ps,af,g⟩ σ H a:=⟨fun N C hG e => .a03 (h.h C H e) rfl⟩
instance {b:AV} [h:EvQ c σ x (.t2 a b)]:OpQ G P c ⟨d,.extract x 1,ty,ps,af,g⟩ σ H b:=⟨fun N C hG e => .a04 (h.h C H e) rfl⟩
instance {b b':AV} [h:EvQ c σ x (.t3 a b b')]:OpQ G P c ⟨d,.extract x 0,ty,ps,af,g⟩ σ H a:=⟨fun N C hG e => .O3 (h.h C H e) rfl⟩
instance {b b':AV} [h:EvQ c σ x (.t3 a b b')]:OpQ G P c ⟨d,.extract x 1,ty,ps,af,g⟩ σ H b:=⟨fun N C hG e => .O4 (h.h C H e) rfl⟩
instance {b b':AV} [h:EvQ c σ x (.t3 a b b')]:OpQ G P c ⟨d,.extract x 2,ty,ps,af,g⟩ σ H b':=⟨fun N C hG e => .O5 (h.h C H e) rfl⟩
instance {m:Int} {S D:TypeId} {ds:TypeDesc} [h:EvV c σ x Int inferInstance m] [a:UnI P S ds] [b:UnI P D (.int .u64)]:OpQ G P c ⟨d,.convert S D x,ty,ps,af,g⟩ σ H (.v (UInt64.ofInt m)):=⟨fun N C hG e => .a1r a.h b.h (h.h C H e) rfl⟩
instance {m:Int} {S D:TypeId} {ds:TypeDesc} [h:EvV c σ x Int inferInstance m] [a:UnI P S ds] [b:UnI P D (.int .u8)]:OpQ G P c ⟨d,.convert S D x,ty,ps,af,g⟩ σ H (.v (UInt8.ofInt m)):=⟨fun N C hG e => .b7i a.h b.h (h.h C H e) rfl⟩
end
theorem j6.to {P:Program} {C:Ctx} {N:Nat} {o:Oper} {σ:x7} {H:j7} {r:AV} {K:AV→Prop} (h:j6 P N C o σ H (fun a=>a=r)) (k:K r):j6 P N C o σ H K:=fun ρ I L hs =>
 OpX.a3P (h ρ I L hs) fun v J X hle ⟨h1,a,h2,h3⟩=>⟨h1,a,h2,h3▸k⟩
class StQ (G:Gl) (P:Program) (ops:List Oper) (o:Oper) (σ:x7) (H:j7) (σ':outParam x7) (H':outParam j7):Prop where
 h:∀ N C Q rest,G.p C.I0→D0 P C N ops.toArray Q rest σ' H'→D0 P C N ops.toArray Q (o::rest) σ H
class SoQ (P:Program) (T:TypeId) (a b:AV) (H:j7) (H':outParam j7):Prop where
 h:∀ N C σ x y ty ps af g KH,E6 C σ H x a→E6 C σ H y b→KH .any H'→A0 P C N ⟨none,.store T x y,ty,ps,af,g⟩ σ H KH
section
variable {G:Gl} {P:Program} {ops:List Oper} {Q:Exit→x7→j7→Prop} {rest:List Oper} {σ:x7} {H H':j7} {ps:String} {af:Array Edge} {x y:Operand} {T ty:TypeId}
instance {d:Nat} {op:Op} {r:AV} [h:OpQ G P true ⟨some d,op,ty,ps,af,none⟩ σ H r]:StQ G P ops ⟨some d,op,ty,ps,af,none⟩ σ H ((d,r)::σ) H:=⟨fun N C Q rest hG k => .p ((h.h N C hG rfl).to k)⟩
instance {α:Type} {r:o7 α} {i:Inhabited α} {w:Value} {a v:α} {bb:Bool} {F:Bool×D6→j7} [t:TyI P T α r i] [k:HoQ H w (bb,.ob w a) F]:SoQ P T (.ln w (j9.id (α:=α))) (.v v) H (F (bb,.ob w v)):=⟨fun N C σ x y ty ps af g KH hx hy q => .R6 t.h hx hy k.h q⟩
instance (priority:=low) {α β:Type} {r:o7 α} {s:o7 β} {i:Inhabited β} {w:Value} {l:j9 α β} {a:α} {v:β} {bb:Bool} {F:Bool×D6→j7} {f:α→β} {f':β→α→α} [t:TyI P T β s i] [n:LnI l f f'] [k:HoQ H w (bb,.ob w a) F]:SoQ P T (.ln w l) (.v v) H (F (bb,.ob w (f' v a))):=⟨fun N C σ x y ty ps af g KH hx hy q => .stF f' t.h hx hy k.h n.u q⟩
instance {a:AV} {α:Type} {r:o7 α} {v:α} [h:EvQ true σ x a] [k:EvV true σ y α r v] [s:SoQ P T a (.v v) H H']:StQ G P ops ⟨none,.store T x y,ty,ps,af,none⟩ σ H σ H':=⟨fun N C Q rest hG q => .n (s.h N C σ x y ty ps af none _ (h.h C H rfl) (k.h C H rfl) q)⟩
instance {d : Nat} {op : Op} {j : Nat} {want b : Bool} {dj : Nat} {r : AV} [hj : EqS (b3D ops j) dj] [hb : EvV true σ (.tmp dj) Bool inferInstance b] [h : OpQ G P (b == want) ⟨some d, op, ty, ps, af, none⟩ σ H r] :
    StQ G P ops ⟨some d,op,ty,ps,af,some (j,want)⟩ σ H ((d,.opt (b == want) r)::σ) H:=⟨fun N C Q rest hG k => .go dj ((b0r ops j).symm.trans hj.h) (hb.h C H rfl) (fun e=>h.h N C hG (beq_iff_eq.2 e)) k⟩
end
class AsQ (c:Bool) (σ:x7) (xs:List Operand) (ags:outParam (List AV)):Prop where h:∀ C H,c=true→a19 C σ H xs ags
class PlQ (a:AV) (b:outParam AV):Prop where h:∀ I u,E1 I a u→E1 I b u
instance (priority:=low) {a:AV}:PlQ a a:=⟨fun _ _ h=>h⟩
class ElQ (c:Bool) (σ:x7) (i:Nat) (ps:List (Nat×Operand)) (α:outParam Type) (r:outParam (o7 α)) (l:outParam (List α)):Prop where h:∀ C H,c=true→a7g C σ H i ps l
class SrQ (P:Program) (U:TypeId) (σ:x7) (H:j7) (y:Operand) (α:Type) (r:o7 α) (m:outParam (List α)):Prop where
 h:∀ C,a81 P C σ H y m
 u:(∃ E2,P.underlying U=some (.slice E2))∨P.underlying U=some .string
section
variable {G:Gl} {P:Program} {C:Ctx} {N:Nat} {c:Bool} {ops:List Oper} {Q:Exit→x7→j7→Prop} {rest:List Oper} {σ:x7} {H:j7} {d:Nat} {ps:String} {af:Array Edge} {x y:Operand} {T T2 E U ty:TypeId} {m n:Int}
instance:AsQ c σ [] []:=⟨fun _ _ _ => .nil⟩
instance {a b:AV} {xs:List Operand} {ags:List AV} [h:EvQ c σ x a] [p:PlQ a b] [k:AsQ c σ xs ags]:AsQ c σ (x::xs) (b::ags):=⟨fun C H e => .cons (fun ρ I L hs=>by
 obtain⟨u,h1,h2⟩:=h.h C H e ρ I L hs
 exact⟨u,h1,p.h I u h2⟩) (k.h C H e)⟩
instance {α:Type} {r:o7 α} {i:Nat} {v:α} [h:EvV c σ x α r v]:ElQ c σ i [(i,x)] α r [v]:=⟨fun C H e => .cons (h.h C H e) .nil⟩
instance {α:Type} {r:o7 α} {i:Nat} {v:α} {q:Nat×Operand} {l:List (Nat×Operand)} {vs:List α} [h:EvV c σ x α r v] [k:ElQ c σ (i+1) (q::l) α r vs]:ElQ c σ i ((i,x)::q::l) α r (v::vs):=⟨fun C H e => .cons (h.h C H e) (k.h C H e)⟩
instance {α:Type} {r:o7 α} {t:Nat} {w:Value} {m:List α} {bb:Bool} {E':TypeId} {F:Bool×D6→j7} [a:EqS (lookW σ t) (.raw w)] [k:HoQ H w (bb,.own E' w m) F] [u:UnI P U (.slice E)]:SrQ P U σ H (.tmp t) α r m:=⟨fun C => .own ((a6f σ t).symm.trans a.h) k.h,.inl ⟨_,u.h⟩⟩
instance {α:Type} {r:o7 α} {m:List α} [a:EvV true σ y (List α) inferInstance m] [u:UnI P U (.slice E)]:SrQ P U σ H y α r m:=⟨fun C => .v (a.h C H rfl),.inl ⟨_,u.h⟩⟩
theorem D0.ad [hx : EvV true σ x Int inferInstance m] [hy : EvV true σ y Int inferInstance n] (h1 : -9223372036854775808 ≤ m + n) (h2 : m + n ≤ 9223372036854775807) (k : D0 P C N ops.toArray Q rest ((d, .v (m + n)) :: σ) H) :
    D0 P C N ops.toArray Q (⟨some d,.binOp .add T x y T2,ty,ps,af,none⟩::rest) σ H := .p (.add (hx.h C H rfl) (hy.h C H rfl) h1 h2 k)
theorem D0.sb [hx : EvV true σ x Int inferInstance m] [hy : EvV true σ y Int inferInstance n] (h1 : -9223372036854775808 ≤ m - n) (h2 : m - n ≤ 9223372036854775807) (k : D0 P C N ops.toArray Q rest ((d, .v (m - n)) :: σ) H) :
    D0 P C N ops.toArray Q (⟨some d,.binOp .sub T x y T2,ty,ps,af,none⟩::rest) σ H := .p (.sub (hx.h C H rfl) (hy.h C H rfl) h1 h2 k)
theorem D0.ix {α : Type} {r : o7 α} {i : Inhabited α} {l : List α} [u : UnI P T (.slice E)] [t : TyI P E α r i] [hx : EvV true σ x (List α) inferInstance l] [hy : EvV true σ y Int inferInstance n] (h0 : 0 ≤ n) (h1 : n < l.length)
    (k:D0 P C N ops.toArray Q rest ((d,.p (l[n.toNat]'(by omega)))::σ) H):D0 P C N ops.toArray Q (⟨some d,.indexAddr T x y,ty,ps,af,none⟩::rest) σ H := .p (.idx t.h u.h (hx.h C H rfl) (hy.h C H rfl) h0 h1 k)
theorem D0.k {f : FuncId} {args : Array Operand} {tys : Array TypeId} {ags : List AV} {r : AV} (hG : G.p C.I0) [hv : AsQ true σ args.toList ags] (h : p4 G P f ags (fun x => x = r)) (k : D0 P C N ops.toArray Q rest ((d, r) :: σ) H) :
    D0 P C N ops.toArray Q (⟨some d,.call ⟨.value (.func f),args,tys⟩,ty,ps,af,none⟩::rest) σ H := .p (.o8 hG h (hv.h C H rfl) k)
theorem D0.kg {f : FuncId} {args : Array Operand} {tys : Array TypeId} {ags : List AV} {r : AV} {j dj : Nat} {b want : Bool} (hG : G.p C.I0) [hj : EqS (b3D ops j) dj] [hb : EvV true σ (.tmp dj) Bool inferInstance b] [hv : AsQ (b == want) σ args.toList ags] (h : p4 G P f ags (fun x => x = r)) (k : D0 P C N ops.toArray Q rest ((d, .opt (b == want) r) :: σ) H) :
    D0 P C N ops.toArray Q (⟨some d,.call ⟨.value (.func f),args,tys⟩,ty,ps,af,some (j,want)⟩::rest) σ H := .go dj ((b0r ops j).symm.trans hj.h) (hb.h C H rfl) (fun e => .o8 hG h (hv.h C H (beq_iff_eq.2 e)) rfl) k
theorem D0.km {f : FuncId} {args : Array Operand} {tys : Array TypeId} {ags : List AV} {post : AV → List D6 → Prop} {b : Bool} {B : D6} {F : Bool × D6 → j7} (hG : G.p C.I0) [hv : AsQ true σ args.toList ags] (h : E4 G P f ags [B] post) (hH : u4 H (b, B) F) (hs : ∀ r Hs, post r Hs → ∃ B', Hs = [B'])
    (k:∀ r B',post r [B']→D0 P C N ops.toArray Q rest ((d,r)::σ) (F (b,B'))):D0 P C N ops.toArray Q (⟨some d,.call ⟨.value (.func f),args,tys⟩,ty,ps,af,none⟩::rest) σ H := .h (.a1m hG h hH (hv.h C H rfl) hs k)
theorem D0.k0 {f : FuncId} {args : Array Operand} {tys : Array TypeId} {ags : List AV} {post : AV → List D6 → Prop} (hG : G.p C.I0) [hv : AsQ true σ args.toList ags] (h : E4 G P f ags [] post)
    (k:∀ r Hs,post r Hs→D0 P C N ops.toArray Q rest ((d,r)::σ) (Hs.map (fun B=>(true,B))++H)):D0 P C N ops.toArray Q (⟨some d,.call ⟨.value (.func f),args,tys⟩,ty,ps,af,none⟩::rest) σ H := .h (.a6a hG h (hv.h C H rfl) k)
theorem D0.ap {α : Type} {r : o7 α} {i : Inhabited α} {by_ t : Nat} {w : Value} {l m : List α} {F : Bool × D6 → j7} [st : SlI P T E α by_ r i] [hx : EqS (lookW σ t) (.raw w)] [hH : HoQ H w (true, .own E w l) F] [hy : SrQ P U σ H y α r m] (hb : (l.length + m.length) * by_ ≤ 140737488355328) (hn : l.length + m.length ≤ 9223372036854775807)
    (k:∀ w',D0 P C N ops.toArray Q rest ((d,.raw w')::σ) (F (true,.own E w' (l++m)))):D0 P C N ops.toArray Q (⟨some d,.call ⟨.builtin .append,#[.tmp t,y],#[T,U]⟩,ty,ps,af,none⟩::rest) σ H :=
  .h (.append st.h hy.u ((a6f σ t).symm.trans hx.h) hH.h (hy.h C) hb hn k rfl)
theorem D0.bs {α : Type} {r : o7 α} {i : Inhabited α} {k : Nat} {l : List α} {parts : Array (Nat × Operand)} [u : UnI P T (.slice E)] [t : TyI P E α r i] [hp : ElQ true σ 0 parts.toList α r l] (hn : l.length = k) (hb : k * o7.size α ≤ 16777216)
    (q:∀ b,D0 P C N ops.toArray Q rest ((d,.raw (slc b 0 k k))::σ) ((true,.own E (slc b 0 k k) l)::H)):D0 P C N ops.toArray Q (⟨some d,.buildSlice T k parts,ty,ps,af,none⟩::rest) σ H := .h (.buildSlice t.h u.h (hp.h C H rfl) hn hb q)
end
inductive It where
 | a (c:Code) (Q:Exit→x7→j7→Prop)
 | b (ops:List Oper) (Q:Exit→x7→j7→Prop) (l:List Oper)
 | q (Q:Exit→x7→j7→Prop) (e:Exit)
@[reducible] def It.G (P:Program) (C:Ctx) (N:Nat):It→x7→j7→Prop
 | .a c Q,σ,H=>J0 P C N c Q σ H
 | .b ops Q l,σ,H=>D0 P C N ops.toArray Q l σ H
 | .q Q e,σ,H=>Q e σ H
class Rn (G:Gl) (P:Program) (C:Ctx) (N:Nat) (n:Nat) (i:It) (σ:x7) (H:j7) (A:outParam Prop):Prop where h:G.p C.I0→A→i.G P C N σ H
section
variable {G:Gl} {P:Program} {C:Ctx} {N n:Nat} {A:Prop} {ops:List Oper} {Q Q0:Exit→x7→j7→Prop} {l:List Oper} {σ:x7} {H:j7} {c x y:Code} {e:Exit} {id i:Nat}
instance (priority:=high):Rn G P C N 0 (.a c Q) σ H (J0 P C N c Q σ H):=⟨fun _ h=>h⟩
instance (priority:=high):Rn G P C N 0 (.b ops Q l) σ H (D0 P C N ops.toArray Q l σ H):=⟨fun _ h=>h⟩
instance (priority:=high):Rn G P C N 0 (.q Q e) σ H (Q e σ H):=⟨fun _ h=>h⟩
instance [k:Rn G P C N n (.a x (a58 (J0 P C N y Q) Q)) σ H A]:Rn G P C N (n+1) (.a (.seq x y) Q) σ H A:=⟨fun g h => .seq (k.h g h)⟩
instance [hd:TrB (b7Z N l)] [k:Rn G P C N n (.b l Q l) σ H A]:Rn G P C N (n+1) (.a (.region id l.toArray false) Q) σ H A:=⟨fun g h => .region (b5i hd.h) (k.h g h)⟩
instance [k:Rn G P C N n (.q Q .normal) σ H A]:Rn G P C N (n+1) (.a .skip Q) σ H A:=⟨fun g h => .skip (k.h g h)⟩
instance [k:Rn G P C N n (.q Q .ret) σ H A]:Rn G P C N (n+1) (.a .ret Q) σ H A:=⟨fun g h => .ret (k.h g h)⟩
instance [k:Rn G P C N n (.q Q (.exit id)) σ H A]:Rn G P C N (n+1) (.a (.exit id) Q) σ H A:=⟨fun g h => .exit (k.h g h)⟩
instance [k:Rn G P C N n (.a c (a3d id Q)) σ H A]:Rn G P C N (n+1) (.a (.block id c) Q) σ H A:=⟨fun g h => .block (k.h g h)⟩
instance [k:Rn G P C N n (.q Q .normal) σ H A]:Rn G P C N (n+1) (.b ops Q []) σ H A:=⟨fun g h => .nil (k.h g h)⟩
instance {o:Oper} {σ':x7} {H':j7} [s:StQ G P ops o σ H σ' H'] [k:Rn G P C N n (.b ops Q l) σ' H' A]:Rn G P C N (n+1) (.b ops Q (o::l)) σ H A:=⟨fun g h=>s.h N C Q l g (k.h g h)⟩
instance [k:Rn G P C N (n+1) (.a y Q) σ H A]:Rn G P C N (n+1) (.q (a58 (J0 P C N y Q) Q0) .normal) σ H A:=⟨fun g h=>k.h g h⟩
instance {X:x7→j7→Prop} [k:Rn G P C N (n+1) (.q Q (.exit id)) σ H A]:Rn G P C N (n+1) (.q (a58 X Q) (.exit id)) σ H A:=⟨fun g h=>k.h g h⟩
instance [k:Rn G P C N (n+1) (.q Q .normal) σ H A]:Rn G P C N (n+1) (.q (a3d id Q) .normal) σ H A:=⟨fun g h=>k.h g h⟩
instance [k:Rn G P C N (n+1) (.q Q .normal) σ H A]:Rn G P C N (n+1) (.q (a3d i Q) (.exit i)) σ H A:=⟨fun g h=>by show a3d i Q (.exit i) σ H;simp only [a3d,Nat.beq_refl,cond_true];exact k.h g h⟩
instance {z:Operand} {p:Prop} {_:Decidable p} [hc:EvV true σ z Bool inferInstance (decide p)]:Rn G P C N (n+1) (.a (.cond z x y) Q) σ H ((p→J0 P C N x Q σ H)∧(¬p→J0 P C N y Q σ H)):=⟨fun g h => .K8 (hc.h C H rfl) h.1 h.2⟩
instance {α : Type} {r : o7 α} {j : Inhabited α} {d : Nat} {T ty : TypeId} {ps : String} {af : Array Edge} [t : TyI P T α r j] :
    Rn G P C N (n+1) (.b ops Q (⟨some d,.alloc T,ty,ps,af,none⟩::l)) σ H (∀ b,D0 P C N ops.toArray Q l ((d,.ln (ptr b 0) (j9.id (α:=α)))::σ) ((true,.ob (ptr b 0) (default:α))::H)):=⟨fun g h => .h (.alloc t.h h)⟩
instance {α : Type} {r : o7 α} {a : α} {d : Nat} {T ty : TypeId} {ps : String} {af : Array Edge} {z : Operand} [hx : EvV true σ z α r a] :
    Rn G P C N (n+1) (.b ops Q (⟨some d,.box T z,ty,ps,af,none⟩::l)) σ H (∀ b,D0 P C N ops.toArray Q l ((d,.ln (ptr b 0) (j9.id (α:=α)))::σ) ((true,.ob (ptr b 0) a)::H)):=⟨fun g h => .h (.box (hx.h C H rfl) h)⟩
theorem J0.q (n:Nat) (hG:G.p C.I0) {A:Prop} [h:Rn G P C N n (.a c Q) σ H A] (k:A):J0 P C N c Q σ H:=h.h hG k
theorem D0.q (n:Nat) (hG:G.p C.I0) {A:Prop} [h:Rn G P C N n (.b ops Q l) σ H A] (k:A):D0 P C N ops.toArray Q l σ H:=h.h hG k
end
end Go.Ab
