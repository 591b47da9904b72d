/- Plain Lean over any program, and walks of this seat's functions: contracts, each proved once (part 0). -/
import Derived.WalkKit
import Derived.KernelRfl
import Derived.StillTail
import Derived.OrdersIn
import Derived.TacticsIn
import Derived.RangeFuncIn
import Derived.RangeFuncRecord
import Derived.Laws.MakeOwn
import Derived.ChangeKeysEq
import Derived.Test.YtfdifhfnpbphaaaGreatDoorProg
set_option maxRecDepth 1000000
set_option synthInstance.maxSize 1000000
set_option synthInstance.maxHeartbeats 10000000
set_option linter.unusedVariables false
set_option linter.unusedSimpArgs false
namespace Go
universe u
theorem j0 {α : Sort u} {a : α} : a = a := rfl
end Go
namespace Go.Fl
open Go.RowKit
theorem a6l {s t:Nat}(h:s≠t):Nat.beq s t=false:=by
 cases hb:Nat.beq s t
 ·rfl
 ·exact absurd (Nat.eq_of_beq_eq_true hb) h
abbrev Env:=List (Nat×Value)
def look:Env→Nat→Option Value
 | [],_=>none
 | (s,v)::r,t=>bif Nat.beq s t then some v else look r t
def ev (ρ:Env):Operand→Option Value
 | .tmp t=>look ρ t
 | .const v=>some v
 | .global g=>some (.pointer (some ⟨g,0,none⟩))
 | .func f=>some (.func (.func f) #[] #[])
structure Fits (N:Nat)(ρ:Env)(a:Act):Prop where
 defers:a.defers = []
 size:a.tmps.size=N
 tmp:∀ t v,look ρ t=some v→a.tmps[t]?=some v
theorem Fits.ev {N:Nat}{ρ:Env}{a:Act}(h:Fits N ρ a){x:Operand}{v:Value}(hx:ev ρ x=some v):a.eval x=v:=by
 cases x with
 | tmp t=>have:=h.tmp t v hx;simp [Act.eval,this]
 | const u=>simpa [Fl.ev,Act.eval] using hx
 | global g=>simpa [Fl.ev,Act.eval] using hx
 | func f=>simpa [Fl.ev,Act.eval] using hx
theorem R6 (s:Nat)(v:Value)(ρ:Env)(t:Nat):look ((s,v)::ρ) t=if s=t then some v else look ρ t:=by
 by_cases h:s=t
 ·subst h;simp [look]
 ·simp [look,h,a6l h]
theorem Fits.put {N:Nat}{ρ:Env}{a:Act}(h:Fits N ρ a){d:Nat}(hd:d < N)(v:Value):Fits N ((d,v)::ρ) (a.put (some d) v):=by
 refine⟨h.defers,by simp [Act.put,h.size],fun t u hu => ?_⟩
 rw [R6] at hu
 by_cases e:d=t
 ·subst e
  simp at hu
  subst hu
  simp [Act.put,h.size,hd]
 ·rw [if_neg e] at hu
  simp only [Act.put,Array.getElem?_setIfInBounds_ne e]
  exact h.tmp t u hu
def Sub (σ ρ:Env):Prop:=∀ t v,look σ t=some v→look ρ t=some v
theorem Sub.refl (ρ:Env):Sub ρ ρ:=fun _ _ h=>h
theorem Sub.nil (ρ:Env):Sub [] ρ:=fun _ _ h=>by simp [look] at h
theorem Sub.cons {σ ρ:Env}{t:Nat}{v:Value}(h:look ρ t=some v)(k:Sub σ ρ):Sub ((t,v)::σ) ρ:=fun s u hu=>by
 rw [R6] at hu
 by_cases e:t=s
 ·subst e;simp at hu;subst hu;exact h
 ·rw [if_neg e] at hu;exact k s u hu
theorem Fits.sub {N:Nat}{σ ρ:Env}{a:Act}(h:Fits N ρ a)(k:Sub σ ρ):Fits N σ a:=⟨h.defers,h.size,fun t v hv=>h.tmp t v (k t v hv)⟩
abbrev Im:=Nat→Option Obj
abbrev Lh:=List (List (Nat×Obj))
def Le (I J:Im):Prop:=∀ b o,I b=some o→J b=some o
theorem Le.refl (I:Im):Le I I:=fun _ _ h=>h
theorem Le.trans {I J K:Im}(h:Le I J)(k:Le J K):Le I K:=fun b o ho=>k b o (h b o ho)
structure Mem (I:Im)(L:Lh)(w:World):Prop where
 im:∀ b o,I b=some o→w.heap[b]?=some o
 loc:∀ p∈L.flatten,w.heap[p.1]?=some p.2
 sep:∀ p∈L.flatten,I p.1=none
 nodup:(L.flatten.map Prod.fst).Nodup
structure Chg (M:List Nat)(w w':World):Prop where
 os:w'.os=w.os
 tape:w'.tape=w.tape
 output:w'.output=w.output
 size:w.heap.size≤w'.heap.size
 block:∀ k,k < w.heap.size→k∉M→w'.heap[k]?=w.heap[k]?
theorem Chg.refl (M:List Nat)(w:World):Chg M w w:=⟨rfl,rfl,rfl,Nat.le_refl _,fun _ _ _=>rfl⟩
theorem Chg.trans {M:List Nat}{a b c:World}(h:Chg M a b)(k:Chg M b c):Chg M a c :=
 ⟨k.os.trans h.os,k.tape.trans h.tape,k.output.trans h.output,Nat.le_trans h.size k.size,
  fun i hi hm=>(k.block i (Nat.lt_of_lt_of_le hi h.size) hm).trans (h.block i hi hm)⟩
theorem Chg.mono {M M':List Nat}{a b:World}(h:Chg M a b)(hm:∀ k∈M,k < a.heap.size→k∈M'):Chg M' a b :=
 ⟨h.os,h.tape,h.output,h.size,fun i hi hn=>h.block i hi (fun hx=>hn (hm i hx hi))⟩
structure Ctx where
 w0:World
 M:List Nat
 I0:Im
 rd:Option Nat
abbrev Ctx.fen (C:Ctx):Fence := { Fence.wide with round:=C.rd }
structure St (C:Ctx)(I:Im)(L:Lh)(w:World):Prop where
 mem:Mem I L w
 W4:Chg C.M C.w0 w
 own:∀ p∈L.flatten,C.w0.heap.size≤p.1∨p.1∈C.M
 U9:Le C.I0 I
 new:∀ b,C.I0 b=none→I b≠none→C.w0.heap.size≤b
def a6N (n:Nat)(I J:Im):Prop:=∀ b,I b=none→J b≠none→n≤b
theorem D7 {w:World}{b:Nat}{o:Obj}(h:w.heap[b]?=some o):b < w.heap.size:=(Array.getElem?_eq_some_iff.1 h).1
def a54 (C:Ctx)(N:Nat)(Q:Exit→Env→Im→Lh→Prop):Exit→Act→World→Prop :=
 fun e a w=>∃ ρ I L,Fits N ρ a∧St C I L w∧Q e ρ I L
def wpS (P:Program)(C:Ctx)(N:Nat)(c:Code)(Q:Exit→Env→Im→Lh→Prop)(ρ:Env)(I:Im)(L:Lh):Prop :=
 ∀ a w,Fits N ρ a→St C I L w→c.wpIn C.fen 0 P (a54 C N Q) a w
def R7 (N:Nat)(l:List Oper):Bool:=l.all fun o=>match o.dst with|some d=>Nat.blt d N|none=>true
def wpL (P:Program)(C:Ctx)(N:Nat)(ops:Array Oper)(Q:Exit→Env→Im→Lh→Prop)(l:List Oper)(ρ:Env)(I:Im)(L:Lh):Prop :=
 R7 N l=true→∀ a w,Fits N ρ a→St C I L w→wpListIn C.fen 0 P ops (a54 C N Q) l a w
section control
variable {P:Program}{C:Ctx}{N:Nat}{Q:Exit→Env→Im→Lh→Prop}{ρ:Env}{I:Im}{L:Lh}
theorem wpS.mono {Q':Exit→Env→Im→Lh→Prop}{c:Code}(h:wpS P C N c Q ρ I L)(hq:∀ e ρ I L,Q e ρ I L→Q' e ρ I L):wpS P C N c Q' ρ I L :=
 fun a w ha hw=>wpIn_mono (h a w ha hw) fun _ _ _ ⟨ρ,I,L,h1,h2,h3⟩=>⟨ρ,I,L,h1,h2,hq _ _ _ _ h3⟩
theorem wpS.skip (h:Q .normal ρ I L):wpS P C N .skip Q ρ I L:=fun a w ha hw=>wpIn_skip ⟨ρ,I,L,ha,hw,h⟩
theorem wpS.ret (h:Q .ret ρ I L):wpS P C N .ret Q ρ I L:=fun a w ha hw=>wpIn_ret ⟨ρ,I,L,ha,hw,h⟩
theorem wpS.exit {id:Nat}(h:Q (.exit id) ρ I L):wpS P C N (.exit id) Q ρ I L:=fun a w ha hw=>wpIn_exit ⟨ρ,I,L,ha,hw,h⟩
@[reducible] def b1w (next:Env→Im→Lh→Prop)(Q:Exit→Env→Im→Lh→Prop):Exit→Env→Im→Lh→Prop
 | .normal,ρ,I,L=>next ρ I L
 | e,ρ,I,L=>Q e ρ I L
theorem wpS.seq {x y:Code}(h:wpS P C N x (b1w (wpS P C N y Q) Q) ρ I L):wpS P C N (.seq x y) Q ρ I L:=fun a w ha hw=>by
 refine wpIn_seq (wpIn_mono (h a w ha hw) fun e a w ⟨ρ,I,L,h1,h2,h3⟩ => ?_)
 cases e with
 | normal=>exact h3 a w h1 h2
 | _=>exact⟨ρ,I,L,h1,h2,h3⟩
theorem wpS.cond {c:Operand}{x y:Code}{b:Bool}(hc:ev ρ c=some (.bool b))(ht:b=true→wpS P C N x Q ρ I L)(hf:b=false→wpS P C N y Q ρ I L) :
    wpS P C N (.cond c x y) Q ρ I L:=fun a w ha hw=>wpIn_cond_split (ha.ev hc) (fun e=>ht e a w ha hw) (fun e=>hf e a w ha hw)
theorem wpS.a0q {c:Operand}{x y:Code}{p:Prop}[Decidable p](hc:ev ρ c=some (.bool (decide p)))(ht:p→wpS P C N x Q ρ I L)(hf:¬p→wpS P C N y Q ρ I L) :
    wpS P C N (.cond c x y) Q ρ I L := .cond hc (fun e=>ht (of_decide_eq_true e)) (fun e=>hf (of_decide_eq_false e))
@[reducible] def a4b (id:Nat)(Q:Exit→Env→Im→Lh→Prop):Exit→Env→Im→Lh→Prop
 | .exit i,ρ,I,L=>bif Nat.beq i id then Q .normal ρ I L else Q (.exit i) ρ I L
 | e,ρ,I,L=>Q e ρ I L
theorem wpS.block {id:Nat}{c:Code}(h:wpS P C N c (a4b id Q) ρ I L):wpS P C N (.block id c) Q ρ I L:=fun a w ha hw=>by
 refine wpIn_block (wpIn_mono (h a w ha hw) fun e a w ⟨ρ,I,L,h1,h2,h3⟩ => ?_)
 cases e with
 | exit i =>
  by_cases hi:i=id
  ·subst hi
   simp only [Exit.inBlock,if_true]
   exact⟨ρ,I,L,h1,h2,by simpa [a4b] using h3⟩
  ·have hb:Nat.beq i id=false:=a6l hi
   simp only [Exit.inBlock,if_neg hi]
   exact⟨ρ,I,L,h1,h2,by simpa [a4b,hb] using h3⟩
 | _=>exact⟨ρ,I,L,h1,h2,h3⟩
theorem wpS.loop {α:Type}(E:α→Env)(Lf:α→Lh)(F:α→Im→Prop)(μ:α→Nat){c:Code}
    (x0:α)(h0:F x0 I)(hE:Sub (E x0) ρ)(hL:L=Lf x0)
    (round:∀ x J,Le I J→F x J→wpS P C N c (b1w (fun ρ' J' L'=>∃ x',Sub (E x') ρ'∧L'=Lf x'∧F x' J'∧μ x' < μ x∧Le I J') Q) (E x) J (Lf x)) :
    wpS P C N (.loop c) Q ρ I L:=fun a w ha hw=>by
  intro b k cs hro hfn hroom
  have key : ∀ n x J a w, μ x = n → Le I J → F x J → Fits N (E x) a → St C J (Lf x) w →
      ∃ e a' w',a54 C N Q e a' w'∧ArrivesIn (Machine.fenced P C.fen) P (lone (b.atR a (.code c :: .inLoop c::k)) cs w) b k cs e a' w':=by
    intro n
    induction n using Nat.strongRecOn with
    | _ n ih =>
      intro x J a w hn hJ hF ha hw
      obtain⟨e,a1,w1,⟨ρ1,J1,L1,hf1,hs1,hq1⟩,harr⟩:=round x J hJ hF a w ha hw b (.inLoop c::k) cs hro hfn hroom
      cases e with
      | normal =>
        obtain⟨x',hsub,rfl,hF',hlt,hJ'⟩:=hq1
        obtain⟨e2,a2,w2,hq2,harr2⟩:=ih (μ x') (hn▸hlt) x' J1 a1 w1 rfl hJ' hF' (hf1.sub hsub) hs1
        exact⟨e2,a2,w2,hq2,.of_steps (StepsIn.trans harr (.one (fenced_calm hfn hroom j0) stepR_inLoop)) harr2⟩
      | exit id=>exact⟨_,a1,w1,⟨ρ1,J1,L1,hf1,hs1,hq1⟩,.pass (x := .inLoop c) rfl (fun _ _ => .inl (by simp)) harr⟩
      | goto l=>exact⟨_,a1,w1,⟨ρ1,J1,L1,hf1,hs1,hq1⟩,.pass (x := .inLoop c) rfl (fun _ _ => .inl (by simp)) harr⟩
      | ret=>exact⟨_,a1,w1,⟨ρ1,J1,L1,hf1,hs1,hq1⟩,.pass (x := .inLoop c) rfl (fun _ _ => .inl (by simp)) harr⟩
      | panic ch=>exact⟨_,a1,w1,⟨ρ1,J1,L1,hf1,hs1,hq1⟩,.pass (x := .inLoop c) rfl (fun _ _ => .inl (by simp)) harr⟩
      | outgrown=>exact⟨_,a1,w1,⟨ρ1,J1,L1,hf1,hs1,hq1⟩,.pass (x := .inLoop c) rfl (fun _ _ => .inl (by simp)) harr⟩
  subst hL
  obtain⟨e,a',w',hq,harr⟩:=key _ x0 I a w rfl (Le.refl I) h0 (ha.sub hE) hw
  exact⟨e,a',w',hq,.of_steps (.one (fenced_calm hfn hroom j0) stepR_loop) harr⟩
end control
def Yld (P:Program)(r:Result Next)(K:Value→World→Prop):Prop :=
 match r with
 | .ok (.value v) w'=>K v w'
 | .ok .skip w'=>K undef w'
 | .ok (.enter f args) w'=>Calls P f args w' (fun e w''=>∃ v,e = .returned v∧K v w'')
 | .ok (.round l f tmps assign body) w'=>RoundIn Fence.wide 0 P l f tmps assign body w' (fun e w''=>∃ v,e = .returned v∧K v w'')
 | _=>False
theorem Yld.mono {P:Program}{r:Result Next}{K K':Value→World→Prop}(h:Yld P r K)(hk:∀ v w,K v w→K' v w):Yld P r K':=by
 unfold Yld at *
 split at h
 ·exact hk _ _ h
 ·exact hk _ _ h
 ·exact Calls.mono h (fun e w ⟨v,he,hv⟩=>⟨v,he,hk _ _ hv⟩)
 ·exact RoundIn.mono h (fun e w ⟨v,he,hv⟩=>⟨v,he,hk _ _ hv⟩)
 ·exact h.elim
theorem Yld.wp {C:Ctx}{P:Program}{o:Oper}{a:Act}{w:World}{K:Act→World→Prop}{Q:Exit→Act→World→Prop}
    (h:Yld P ((execOp a.eval o).run P w) (fun v w'=>K (a.put o.dst v) w')):o.wpIn C.fen 0 P a w K Q:=by
  refine⟨fun _ _=>trivial,?_⟩
  have hs:(o.semAt C.fen.round a.eval).run P w=(execOp a.eval o).run P w:=by
    unfold Oper.semAt
    split
    · rename_i c hr hop
      exfalso
      have e:(execOp a.eval o).run P w=((resolve a.eval c o.type).run P w).andThen (fun d w' => .ok (.defer d) w'):=by simp [execOp,hop]
      rw [e] at h
      cases hq:(resolve a.eval c o.type).run P w with
      | ok d w'=>rw [hq] at h;exact h
      | halt x w'=>rw [hq] at h;exact h
    · rfl
  rw [hs]
  generalize (execOp a.eval o).run P w=r at *
  cases r with
  | ok n w' =>
    cases n<;>simp only [Yld] at h<;>simp only [Oper.uponIn]
    case enter f args =>
      refine⟨fun hd=>(by cases hd),(callsIn_wide.2 (Calls.mono h ?_):CallsIn Fence.wide (0 - 1) P f args w' _)⟩
      rintro e w'' ⟨v,rfl,hv⟩
      exact hv
    case round l f tmps assign body =>
      refine⟨fun hd=>(by cases hd),(RoundIn.mono h ?_:RoundIn Fence.wide 0 P l f tmps assign body w' _)⟩
      rintro e w'' ⟨v,rfl,hv⟩
      exact hv
    all_goals first|exact h|exact h.elim
  | halt x w'=>simp only [Yld] at h
def O3 (P:Program)(N:Nat)(o:Oper)(ρ:Env)(I:Im)(L:Lh)(φ:Value→Prop):Prop :=
 ∀ a w,Fits N ρ a→Mem I L w→∃ v,φ v∧((execOp a.eval o).run P w = .ok (.value v) w)
def OpX (P:Program)(N:Nat)(o:Oper)(ρ:Env)(I:Im)(L:Lh)(K:Value→Im→Lh→Prop):Prop :=
 ∀ a w,Fits N ρ a→Mem I L w→Yld P ((execOp a.eval o).run P w) fun v w' =>
  ∃ J X,Chg [] w w'∧Le I J∧a6N w.heap.size I J∧Mem J (X++L) w'∧(∀ p∈X.flatten,w.heap.size≤p.1)∧K v J X
def OpS (P:Program)(C:Ctx)(N:Nat)(o:Oper)(ρ:Env)(I:Im)(L:Lh)(K:Value→Im→Lh→Prop):Prop :=
 ∀ a w,Fits N ρ a→St C I L w→Yld P ((execOp a.eval o).run P w) fun v w'=>∃ J L',St C J L' w'∧K v J L'
section opers
variable {P:Program}{C:Ctx}{N:Nat}{ρ:Env}{I:Im}{L:Lh}{o:Oper}
theorem OpX.M1 {K:Value→Im→Lh→Prop}(h:O3 P N o ρ I L (fun v=>K v I [])):OpX P N o ρ I L K:=fun a w ha hw=>by
 obtain⟨v,hv,hr⟩:=h a w ha hw
 rw [hr]
 exact⟨I,[],Chg.refl _ _,Le.refl _,fun b h0 h1=>absurd h0 h1,hw,by simp,hv⟩
theorem St.step {w w':World}{J:Im}{X:Lh}(hs:St C I L w)(hc:Chg [] w w')(hle:Le I J)(hn:a6N w.heap.size I J)(hm:Mem J (X++L) w')
    (hX:∀ p∈X.flatten,w.heap.size≤p.1):St C J (X++L) w':=by
  refine⟨hm,hs.W4.trans (hc.mono (by simp)),fun p hp => ?_,hs.U9.trans hle,fun b h0 h1 => ?_⟩
  · simp only [List.flatten_append,List.mem_append] at hp
    rcases hp with hp|hp
    · exact .inl (Nat.le_trans hs.W4.size (hX p hp))
    · exact hs.own p hp
  · cases hi:I b with
    | none=>exact Nat.le_trans hs.W4.size (hn b hi h1)
    | some o=>exact hs.new b h0 (by simp [hi])
theorem OpS.ofX {K:Value→Im→Lh→Prop}(h:OpX P N o ρ I L (fun v J X=>K v J (X++L))):OpS P C N o ρ I L K:=fun a w ha hs =>
 (h a w ha hs.mem).mono fun v w' ⟨J,X,hc,hle,hn,hm,hX,hk⟩=>⟨J,X++L,hs.step hc hle hn hm hX,hk⟩
variable {ops:Array Oper}{Q:Exit→Env→Im→Lh→Prop}{rest:List Oper}
theorem wpL.nil (h:Q .normal ρ I L):wpL P C N ops Q [] ρ I L:=fun _ a w ha hs=>wpListIn_nil ⟨ρ,I,L,ha,hs,h⟩
theorem a9G {d:Nat}{op:Op}{ty:TypeId}{ps:String}{af:Array Edge}{g:Option (Nat×Bool)}
    (h:R7 N (⟨some d,op,ty,ps,af,g⟩::rest)=true):d < N∧R7 N rest=true:=by
  simp only [R7,List.all_cons,Bool.and_eq_true] at h
  exact⟨by have:=h.1;simpa [Nat.blt_eq] using this,h.2⟩
theorem c1n {op:Op}{ty:TypeId}{ps:String}{af:Array Edge}{g:Option (Nat×Bool)}
    (h:R7 N (⟨none,op,ty,ps,af,g⟩::rest)=true):R7 N rest=true:=by
  simp only [R7,List.all_cons,Bool.and_eq_true] at h
  exact h.2
theorem wpL.s {d:Nat}{op:Op}{ty:TypeId}{ps:String}{af:Array Edge}
    (h:OpS P C N ⟨some d,op,ty,ps,af,none⟩ ρ I L (fun v J L'=>wpL P C N ops Q rest ((d,v)::ρ) J L')) :
    wpL P C N ops Q (⟨some d,op,ty,ps,af,none⟩::rest) ρ I L:=fun hd a w ha hs=>by
  obtain⟨hlt,hd'⟩:=a9G hd
  refine wpListIn_plain rfl fun K hK=>Yld.wp ((h a w ha hs).mono ?_)
  rintro v w' ⟨J,L',hs',hk⟩
  exact hK _ _ (hk hd' _ _ (ha.put hlt v) hs')
theorem wpL.n {op:Op}{ty:TypeId}{ps:String}{af:Array Edge}
    (h:OpS P C N ⟨none,op,ty,ps,af,none⟩ ρ I L (fun _ J L'=>wpL P C N ops Q rest ρ J L')) :
    wpL P C N ops Q (⟨none,op,ty,ps,af,none⟩::rest) ρ I L:=fun hd a w ha hs=>by
  refine wpListIn_plain rfl fun K hK=>Yld.wp ((h a w ha hs).mono ?_)
  rintro v w' ⟨J,L',hs',hk⟩
  exact hK _ _ (hk (c1n hd) _ _ ha hs')
theorem wpL.x {d:Nat}{op:Op}{ty:TypeId}{ps:String}{af:Array Edge}
    (h:OpX P N ⟨some d,op,ty,ps,af,none⟩ ρ I L (fun v J X=>wpL P C N ops Q rest ((d,v)::ρ) J (X++L))) :
    wpL P C N ops Q (⟨some d,op,ty,ps,af,none⟩::rest) ρ I L := .s (.ofX h)
theorem wpL.v {d:Nat}{op:Op}{ty:TypeId}{ps:String}{af:Array Edge}
    (h:O3 P N ⟨some d,op,ty,ps,af,none⟩ ρ I L (fun v=>wpL P C N ops Q rest ((d,v)::ρ) I L)) :
    wpL P C N ops Q (⟨some d,op,ty,ps,af,none⟩::rest) ρ I L := .s (.ofX (.M1 (by simpa using h)))
end opers
section guards
variable {P:Program}{C:Ctx}{N:Nat}{ρ:Env}{I:Im}{L:Lh}{ops:Array Oper}{Q:Exit→Env→Im→Lh→Prop}{rest:List Oper}
theorem a9H {j dj:Nat}{b:Bool}{a:Act}(ha:Fits N ρ a)(hj:(ops[j]?).bind (·.dst)=some dj)(hb:look ρ dj=some (.bool b)):yielded ops a.tmps j=some b:=by
 unfold yielded
 rw [hj]
 simp [ha.tmp dj _ hb]
theorem wpL.gt {d:Nat}{op:Op}{ty:TypeId}{ps:String}{af:Array Edge}{j:Nat}{want:Bool}(dj:Nat)(hj:(ops[j]?).bind (·.dst)=some dj)(hb:look ρ dj=some (.bool want))
    (h:OpS P C N ⟨some d,op,ty,ps,af,none⟩ ρ I L (fun v J L'=>wpL P C N ops Q rest ((d,v)::ρ) J L')) :
    wpL P C N ops Q (⟨some d,op,ty,ps,af,some (j,want)⟩::rest) ρ I L:=fun hd a w ha hs=>by
  obtain⟨hlt,hd'⟩:=a9G hd
  refine wpListIn_step fun K hK => ?_
  rw [if_pos (by simp [Region.wanted,a9H ha hj hb])]
  have h1:=h a w ha hs
  have h2:Yld P ((execOp a.eval ⟨some d,op,ty,ps,af,some (j,want)⟩).run P w) fun v w'=>∃ J L',St C J L' w'∧wpL P C N ops Q rest ((d,v)::ρ) J L':=h1
  refine Yld.wp (h2.mono ?_)
  rintro v w' ⟨J,L',hs',hk⟩
  exact hK _ _ (hk hd' _ _ (ha.put hlt v) hs')
theorem wpL.gf {d:Nat}{op:Op}{ty:TypeId}{ps:String}{af:Array Edge}{j:Nat}{want:Bool}(dj:Nat)(hj:(ops[j]?).bind (·.dst)=some dj)(hb:look ρ dj=some (.bool (!want)))
    (h:wpL P C N ops Q rest ((d,undef)::ρ) I L) :
    wpL P C N ops Q (⟨some d,op,ty,ps,af,some (j,want)⟩::rest) ρ I L:=fun hd a w ha hs=>by
  obtain⟨hlt,hd'⟩:=a9G hd
  refine wpListIn_step fun K hK => ?_
  rw [if_neg (by simp [Region.wanted,a9H ha hj hb])]
  exact⟨fun _ _=>trivial,hK _ _ (h hd' _ _ (ha.put hlt undef) hs)⟩
end guards
theorem wpS.region {P:Program}{C:Ctx}{N:Nat}{Q:Exit→Env→Im→Lh→Prop}{ρ:Env}{I:Im}{L:Lh}{id:Nat}{l:List Oper}(hd:R7 N l=true)(h:wpL P C N l.toArray Q l ρ I L) :
    wpS P C N (.region id l.toArray false) Q ρ I L:=fun a w ha hs=>wpIn_region_lit (h hd a w ha hs)
theorem a2j:∀ (L:Lh) (i:Nat),(L.set i []).flatten.Sublist L.flatten
 | [],_=>by simp
 | c::r,0=>by simp
 | c::r,i+1=>by simpa using (a2j r i).append_left c
theorem a1t:∀ (L:Lh) (i:Nat) (c:List (Nat×Obj)),L[i]?=some c→∀ c',L.flatten=(L.take i).flatten++(c++(L.drop (i+1)).flatten)∧(L.set i c').flatten=(L.take i).flatten++(c'++(L.drop (i+1)).flatten)
 | [],i,c,h,_=>by simp at h
 | x::r,0,c,h,c'=>by simp at h;subst h;simp
 | x::r,i+1,c,h,c'=>by
  have:=a1t r i c (by simpa using h) c'
  simp only [List.flatten_cons,List.take_succ_cons,List.drop_succ_cons,List.set_cons_succ]
  rw [this.1,this.2]
  simp
theorem G3 {L:Lh}{i:Nat}{c:List (Nat×Obj)}(hc:L[i]?=some c){p:Nat×Obj}(hp:p∈c):p∈L.flatten :=
 List.mem_flatten.2 ⟨c,List.mem_of_getElem? hc,hp⟩
theorem b9m {L:Lh}(hn:(L.flatten.map Prod.fst).Nodup){p q:Nat×Obj}(hp:p∈L.flatten)(hq:q∈L.flatten)(h:p.1=q.1):p=q:=by
 have:∀ l:List (Nat×Obj),(l.map Prod.fst).Nodup→p∈l→q∈l→p=q:=by
  intro l
  induction l with
  | nil=>intro _ h;cases h
  | cons x r ih =>
   intro hnd hp hq
   simp only [List.map_cons,List.nodup_cons,List.mem_map,not_exists,not_and] at hnd
   rcases List.mem_cons.1 hp with rfl|hp'<;>rcases List.mem_cons.1 hq with rfl|hq'
   ·rfl
   ·exact absurd h.symm (hnd.1 q hq')
   ·exact absurd h (hnd.1 p hp')
   ·exact ih hnd.2 hp' hq'
 exact this _ hn hp hq
open Classical in
/-- I and the chunk c together. -/
noncomputable def Im.with (I:Im)(c:List (Nat×Obj)):Im:=fun b=>if h:∃ o,(b,o)∈c then some (Classical.choose h) else I b
theorem Im.a0U {I:Im}{c:List (Nat×Obj)}(hn:(c.map Prod.fst).Nodup){p:Nat×Obj}(hp:p∈c):I.with c p.1=some p.2:=by
 have h:∃ o,(p.1,o)∈c:=⟨p.2,hp⟩
 unfold Im.with
 rw [dif_pos h]
 have h2:=Classical.choose_spec h
 have:=b9m (L := [c]) (by simpa using hn) (p:=(p.1,Classical.choose h)) (q:=p) (by simpa using h2) (by simpa using hp) rfl
 exact congrArg some (congrArg Prod.snd this)
theorem Im.a03 {I:Im}{c:List (Nat×Obj)}(hs:∀ p∈c,I p.1=none):Le I (I.with c):=fun b o hb=>by
 unfold Im.with
 rw [dif_neg]
 ·exact hb
 ·rintro⟨o',ho⟩
  rw [hs _ ho] at hb
  cases hb
theorem Im.a0g {I:Im}{c:List (Nat×Obj)}{b:Nat}{o:Obj}(h:I.with c b=some o):(b,o)∈c∨I b=some o:=by
 unfold Im.with at h
 split at h
 ·rename_i hx
  cases h
  exact .inl (Classical.choose_spec hx)
 ·exact .inr h
theorem Mem.freeze {I:Im}{L:Lh}{w:World}(hm:Mem I L w){i:Nat}{c:List (Nat×Obj)}(hc:L[i]?=some c):Mem (I.with c) (L.set i []) w:=by
 have hsplit:=a1t L i c hc []
 have hnd:=hm.nodup
 rw [hsplit.1] at hnd
 have hmem:∀ p∈(L.set i []).flatten,p∈L.flatten:=fun p hp=>(a2j L i).subset hp
 have hap:∀ p∈(L.set i []).flatten,∀ q∈c,p.1≠q.1:=by
  intro p hp q hq e
  rw [hsplit.2] at hp
  simp only [List.map_append,List.nodup_append,List.nil_append,List.mem_append] at hnd hp
  rcases hp with hp|hp
  ·exact hnd.2.2 p.1 (List.mem_map_of_mem hp) q.1 (by simp;exact .inl ⟨_,hq⟩) e
  ·exact hnd.2.1.2.2 q.1 (List.mem_map_of_mem hq) p.1 (List.mem_map_of_mem hp) e.symm
 refine⟨fun b o hb => ?_,fun p hp=>hm.loc p (hmem p hp),fun p hp => ?_,?_⟩
 ·rcases Im.a0g hb with h|h
  ·exact hm.loc (b,o) (G3 hc h)
  ·exact hm.im b o h
 ·unfold Im.with
  rw [dif_neg]
  ·exact hm.sep p (hmem p hp)
  ·rintro⟨o',ho⟩
   exact hap p hp _ ho rfl
 ·exact(((a2j L i).map Prod.fst).nodup hm.nodup)
theorem St.freeze {C:Ctx}{I:Im}{L:Lh}{w:World}(hs:St C I L w){i:Nat}{c:List (Nat×Obj)}(hc:L[i]?=some c)(hM:∀ p∈c,p.1∈C.M→False):St C (I.with c) (L.set i []) w:=by
 have hcs:∀ p∈c,I p.1=none:=fun p hp=>hs.mem.sep p (G3 hc hp)
 refine⟨hs.mem.freeze hc,hs.W4,fun p hp=>hs.own p ((a2j L i).subset hp),hs.U9.trans (Im.a03 hcs),fun b h0 h1 => ?_⟩
 cases hb:I.with c b with
 | none=>exact absurd hb h1
 | some o =>
  rcases Im.a0g hb with h|h
  ·rcases hs.own (b,o) (G3 hc h) with h2|h2
   ·exact h2
   ·exact(hM _ h h2).elim
  ·exact hs.new b h0 (by simp [h])
theorem a0r {L:Lh}{i:Nat}{c:List (Nat×Obj)}(hn:(L.flatten.map Prod.fst).Nodup)(hc:L[i]?=some c):(c.map Prod.fst).Nodup:=by
 have hsplit:=(a1t L i c hc []).1
 rw [hsplit] at hn
 simp only [List.map_append,List.nodup_append] at hn
 exact hn.2.1.1
section freeze
variable {P:Program}{C:Ctx}{N:Nat}{Q:Exit→Env→Im→Lh→Prop}{ρ:Env}{I:Im}{L:Lh}
theorem wpS.freeze (i:Nat){c:List (Nat×Obj)}{code:Code}(hc:L[i]?=some c)(hM:∀ p∈c,p.1∈C.M→False)
    (h:∀ J,Le I J→(∀ p∈c,J p.1=some p.2)→wpS P C N code Q ρ J (L.set i [])):wpS P C N code Q ρ I L:=fun a w ha hs =>
  h (I.with c) (Im.a03 fun p hp=>hs.mem.sep p (G3 hc hp)) (fun p hp=>Im.a0U (a0r hs.mem.nodup hc) hp) a w ha (hs.freeze hc hM)
theorem wpL.freeze (i:Nat){c:List (Nat×Obj)}{ops:Array Oper}{l:List Oper}(hc:L[i]?=some c)(hM:∀ p∈c,p.1∈C.M→False)
    (h:∀ J,Le I J→(∀ p∈c,J p.1=some p.2)→wpL P C N ops Q l ρ J (L.set i [])):wpL P C N ops Q l ρ I L:=fun hd a w ha hs =>
  h (I.with c) (Im.a03 fun p hp=>hs.mem.sep p (G3 hc hp)) (fun p hp=>Im.a0U (a0r hs.mem.nodup hc) hp) hd a w ha (hs.freeze hc hM)
end freeze
structure a4c (P:Program)(f:FuncId):Prop where
 ok:∃ fn,P.funcs[f]?=some fn∧(fn.name == "runtime.NumGoroutine")=false∧fn.body.isNone=false
structure a9I (P:Program)(f:FuncId)(args:Array Value)(I:Im)(L:Lh)(post:Value→Im→Lh→Prop):Prop where
 ok:a4c P f
 run:∀ w,Mem I L w→Calls P f args w fun e w'=>∃ v J L',e = .returned v∧Chg (L.flatten.map Prod.fst) w w'∧Le I J∧a6N w.heap.size I J∧Mem J L' w' ∧
  (∀ p∈L'.flatten,w.heap.size≤p.1∨p.1∈L.flatten.map Prod.fst)∧post v J L'
structure Fun (P:Program)(f:FuncId)(args:Array Value)(I:Im)(post:Value→Im→Prop):Prop where
 ok:a4c P f
 run:∀ w,Mem I [] w→Calls P f args w fun e w'=>∃ v J,e = .returned v∧Chg [] w w'∧Le I J∧a6N w.heap.size I J∧Mem J [] w'∧post v J
theorem Fun.mono {P:Program}{f:FuncId}{args:Array Value}{I:Im}{post post':Value→Im→Prop}(h:Fun P f args I post)(hp:∀ v J,Le I J→post v J→post' v J):Fun P f args I post' :=
 ⟨h.ok,fun w hm=>(h.run w hm).mono fun e w' ⟨v,J,a1,a2,a3,a4,a5,a6⟩=>⟨v,J,a1,a2,a3,a4,a5,hp v J a3 a6⟩⟩
theorem Mem.drop {I:Im}{L:Lh}{w:World}(h:Mem I L w):Mem I [] w:=⟨h.im,by simp,by simp,by simp⟩
def Fin (P:Program)(fn:Func)(ρ:Env)(I:Im)(L:Lh)(v:Value):Prop :=
 ∀ N a w,Fits N ρ a→Mem I L w→(results fn a.tmps).run P w = .ok v w
def b9n (P:Program)(fn:Func)(post:Value→Im→Lh→Prop):Exit→Env→Im→Lh→Prop
 | .normal,ρ,I,L | .ret,ρ,I,L=>∃ v,Fin P fn ρ I L v∧post v I L
 | _,_,_,_=>False
def a1a:List Value→Nat→Env
 | [],_ => []
 | v::r,k=>(k,v)::a1a r (k+1)
theorem a41:∀ (l:List Value) (k t:Nat) (v:Value),look (a1a l k) t=some v→k≤t∧l[t - k]?=some v
 | [],_,_,_,h=>by simp [a1a,look] at h
 | x::r,k,t,v,h=>by
  rw [a1a,R6] at h
  by_cases e:k=t
  ·subst e;simp at h;subst h;simp
  ·rw [if_neg e] at h
   obtain⟨h1,h2⟩:=a41 r (k+1) t v h
   refine⟨by omega,?_⟩
   rw [show t - k=(t - (k+1))+1 by omega]
   simpa using h2
theorem b3N {P:Program}{fn:Func}{C:Ctx}{N:Nat}{post:Value→Im→Lh→Prop}{R:Ending→World→Prop}(h:∀ v J L w,St C J L w→post v J L→R (.returned v) w)
    (e:Exit)(a:Act)(w:World)(hq:a54 C N (b9n P fn post) e a w):bodyPost P fn R e a w:=by
  obtain⟨ρ,J,L,hf,hs,hq⟩:=hq
  cases e with
  | normal=>obtain⟨v,hfin,hp⟩:=hq;exact⟨hf.defers,v,hfin N a w hf hs.mem,h v J L w hs hp⟩
  | ret=>obtain⟨v,hfin,hp⟩:=hq;exact⟨hf.defers,v,hfin N a w hf hs.mem,h v J L w hs hp⟩
  | _=>exact hq.elim
theorem a1R {P:Program}{f:FuncId}{fn:Func}{c:Code}{l:List Value}{I:Im}{L:Lh}{M:List Nat}{w:World}{post:Value→Im→Lh→Prop}{R:Ending→World→Prop}
    (hf:P.funcs[f]?=some fn)(hb:fn.body=some c)(N:Nat)(hN:fn.ntmps=N)(hl:Nat.ble l.length N=true)(hm:Mem I L w)(hM:∀ p∈L.flatten,p.1∈M)
    (h:wpS P ⟨w,M,I,none⟩ N c (b9n P fn post) (a1a l 0) I L)(hR:∀ v J L' w',St ⟨w,M,I,none⟩ J L' w'→post v J L'→R (.returned v) w'):Calls P f l.toArray w R:=by
  refine calls_of_wp hf hb (wpIn_wide.1 (wpIn_mono (h _ w ?_ ?_) (b3N hR)))
  · have hl':l.length≤N:=Nat.le_of_ble_eq_true hl
    refine⟨rfl,by simp [hN];omega,fun t v hv => ?_⟩
    obtain⟨_,h2⟩:=a41 l 0 t v hv
    have hlt:t < l.length:=(List.getElem?_eq_some_iff.1 (by simpa using h2)).1
    rw [Array.getElem?_append_left (by simpa using hlt)]
    simpa using h2
  · exact⟨hm,Chg.refl _ _,fun p hp => .inr (hM p hp),Le.refl _,fun b h0 h1=>absurd h0 h1⟩
theorem Fun.intro {P:Program}{f:FuncId}{fn:Func}{c:Code}{l:List Value}{I:Im}{post:Value→Im→Prop}(hf:P.funcs[f]?=some fn)(hb:fn.body=some c)(hn:(fn.name == "runtime.NumGoroutine")=false)
    (N:Nat)(hN:fn.ntmps=N)(hl:Nat.ble l.length N=true)(σ:Env)(hσ:a1a l 0=σ)
    (h:∀ C:Ctx,C.M = []→wpS P C N c (b9n P fn (fun v J _=>post v J)) σ I []):Fun P f l.toArray I post :=
  ⟨⟨fn,hf,hn,by simp [hb]⟩,fun w hm=>a1R hf hb N hN hl hm (M := []) (by simp) (hσ▸h ⟨w,[],I,none⟩ rfl)
    fun v J L' w' hs hp=>⟨v,J,rfl,hs.W4,hs.U9,fun b h0 h1=>hs.new b h0 h1,hs.mem.drop,hp⟩⟩
theorem a9I.intro {P:Program}{f:FuncId}{fn:Func}{c:Code}{l:List Value}{I:Im}{L:Lh}{post:Value→Im→Lh→Prop}(hf:P.funcs[f]?=some fn)(hb:fn.body=some c)(hn:(fn.name == "runtime.NumGoroutine")=false)
    (N:Nat)(hN:fn.ntmps=N)(hl:Nat.ble l.length N=true)(σ:Env)(hσ:a1a l 0=σ)
    (h:∀ C:Ctx,C.M=L.flatten.map Prod.fst→wpS P C N c (b9n P fn post) σ I L):a9I P f l.toArray I L post :=
  ⟨⟨fn,hf,hn,by simp [hb]⟩,fun w hm=>a1R hf hb N hN hl hm (M:=L.flatten.map Prod.fst) (fun p hp=>List.mem_map_of_mem hp) (hσ▸h ⟨w,L.flatten.map Prod.fst,I,none⟩ rfl)
    fun v J L' w' hs hp=>⟨v,J,L',rfl,hs.W4,hs.U9,fun b h0 h1=>hs.new b h0 h1,hs.mem,hs.own,hp⟩⟩
def evL (ρ:Env):List Operand→Option (List Value)
 | []=>some []
 | x::r=>match ev ρ x,evL ρ r with
  | some v,some l=>some (v::l)
  | _,_=>none
theorem Fits.evL {N:Nat}{ρ:Env}{a:Act}(h:Fits N ρ a):∀ {l:List Operand} {vs:List Value},evL ρ l=some vs→l.map a.eval=vs
 | [],vs,hl=>by simp [Fl.evL] at hl;subst hl;rfl
 | x::r,vs,hl=>by
  simp only [Fl.evL] at hl
  cases hx:Fl.ev ρ x with
  | none=>simp [hx] at hl
  | some v =>
   cases hr:Fl.evL ρ r with
   | none=>simp [hx,hr] at hl
   | some l =>
    simp [hx,hr] at hl
    subst hl
    simp [h.ev hx,h.evL hr]
theorem Y0 {P:Program}{f:FuncId}(ok:a4c P f){a:Act}{w:World}{o:Oper}{F:Operand}{args:Array Operand}{tys:Array TypeId}(ho:o.op = .call ⟨.value F,args,tys⟩)
    (hF:a.eval F = .func (.func f) #[] #[]){vs:List Value}(hv:args.toList.map a.eval=vs):(execOp a.eval o).run P w = .ok (.enter f vs.toArray) w:=by
  obtain⟨fn,h1,h2,h3⟩:=ok.ok
  subst hv
  have hargs:args.map a.eval=(args.toList.map a.eval).toArray:=by cases args;simp
  have h2':¬fn.name = "runtime.NumGoroutine" := by simpa using h2
  have h3':fn.body≠none:=by intro e;simp [e] at h3
  simp [execOp,ho,resolve,Deferred.ofValue,hF,invoke,callFunc,program,Sem.run,h1,h2',h3',←hargs]
section calls
variable {P:Program}{C:Ctx}{N:Nat}{ρ:Env}{I:Im}{L:Lh}{f:FuncId}{d:Option Nat}{F:Operand}{args:Array Operand}{tys:Array TypeId}{ty:TypeId}{ps:String}{af:Array Edge}{g:Option (Nat×Bool)}{vs:List Value}
theorem OpX.call {post:Value→Im→Prop}{K:Value→Im→Lh→Prop}(hF:ev ρ F=some (.func (.func f) #[] #[]))(hv:evL ρ args.toList=some vs)(h:Fun P f vs.toArray I post)
    (k:∀ v J,Le I J→post v J→K v J []):OpX P N ⟨d,.call ⟨.value F,args,tys⟩,ty,ps,af,g⟩ ρ I L K:=fun a w ha hm=>by
  rw [Y0 h.ok rfl (ha.ev hF) (ha.evL hv)]
  refine(h.run w hm.drop).mono ?_
  rintro e w' ⟨v,J,rfl,hc,hle,hn,hm',hp⟩
  refine⟨v,rfl,J,[],hc,hle,hn,?_,by simp,k v J hle hp⟩
  have hlt:∀ p∈L.flatten,p.1 < w.heap.size:=fun p hp=>D7 (hm.loc p hp)
  refine⟨hm'.im,fun p hp=>(hc.block p.1 (hlt p hp) (by simp)).trans (hm.loc p hp),fun p hp => ?_,hm.nodup⟩
  cases hj:J p.1 with
  | none=>rfl
  | some o=>exact absurd (hn p.1 (hm.sep p hp) (by simp [hj])) (by have:=hlt p hp;omega)
theorem OpX.c4c {φ:Value→Prop}{K:Value→Im→Lh→Prop}(hF:ev ρ F=some (.func (.func f) #[] #[]))(hv:evL ρ args.toList=some vs)
    (h:∀ J,Le I J→(∀ p∈L.flatten,J p.1=some p.2)→Fun P f vs.toArray J (fun v _=>φ v))
    (k:∀ v,φ v→K v I []):OpX P N ⟨d,.call ⟨.value F,args,tys⟩,ty,ps,af,g⟩ ρ I L K:=fun a w ha hm=>by
  have hcs:∀ p∈L.flatten,I p.1=none:=hm.sep
  have h1:=h (I.with L.flatten) (Im.a03 hcs) (fun p hp=>Im.a0U hm.nodup hp)
  have hm2:Mem (I.with L.flatten) [] w:=⟨fun b o hb=>by
    rcases Im.a0g hb with h|h
    · exact hm.loc (b,o) h
    · exact hm.im b o h,by simp,by simp,by simp⟩
  rw [Y0 h1.ok rfl (ha.ev hF) (ha.evL hv)]
  refine(h1.run w hm2).mono ?_
  rintro e w' ⟨v,J,rfl,hc,hle,hn,hm',hp⟩
  refine⟨v,rfl,I,[],hc,Le.refl _,fun b h0 h1=>absurd h0 h1,⟨fun b o hb => ?_,fun p hp => ?_,hm.sep,hm.nodup⟩,by simp,k v hp⟩
  · exact(hc.block b (D7 (hm.im b o hb)) (by simp)).trans (hm.im b o hb)
  · exact(hc.block p.1 (D7 (hm.loc p hp)) (by simp)).trans (hm.loc p hp)
theorem OpS.a8u {post:Value→Im→Lh→Prop}{K:Value→Im→Lh→Prop}(i:Nat){c:List (Nat×Obj)}(hc:L[i]?=some c)(hF:ev ρ F=some (.func (.func f) #[] #[]))(hv:evL ρ args.toList=some vs)
    (h:a9I P f vs.toArray I [c] post)(k:∀ v J c',Le I J→post v J [c']→K v J (L.set i c'))(hshape:∀ v J L',post v J L'→∃ c',L' = [c']) :
    OpS P C N ⟨d,.call ⟨.value F,args,tys⟩,ty,ps,af,g⟩ ρ I L K:=fun a w ha hs=>by
  have hm:=hs.mem
  have hsplit:=fun c'=>a1t L i c hc c'
  have hmc:Mem I [c] w:=⟨hm.im,fun p hp=>hm.loc p (G3 hc (by simpa using hp)),fun p hp=>hm.sep p (G3 hc (by simpa using hp)),by simpa using a0r hm.nodup hc⟩
  rw [Y0 h.ok rfl (ha.ev hF) (ha.evL hv)]
  refine(h.run w hmc).mono ?_
  rintro e w' ⟨v,J,L',rfl,hch,hle,hn,hm',hown,hp⟩
  obtain⟨c',rfl⟩:=hshape v J L' hp
  have hlt:∀ p∈L.flatten,p.1 < w.heap.size:=fun p hp=>D7 (hm.loc p hp)
  have hnd:=hm.nodup
  rw [(hsplit c').1] at hnd
  -- the blocks of the other chunks
  have hoth:∀ p,p∈(L.take i).flatten∨p∈(L.drop (i+1)).flatten→p∈L.flatten∧p.1∉c.map Prod.fst:=by
    intro p hp
    rw [(hsplit c').1]
    simp only [List.map_append,List.nodup_append] at hnd
    rcases hp with hp|hp
    · exact⟨by simp [hp],fun hx=>hnd.2.2 p.1 (List.mem_map_of_mem hp) p.1 (by simp only [List.mem_append];exact .inl hx) rfl⟩
    · exact⟨by simp [hp],fun hx=>hnd.2.1.2.2 p.1 hx p.1 (List.mem_map_of_mem hp) rfl⟩
  have hcas:∀ p∈(L.set i c').flatten,p∈c'∨(p∈(L.take i).flatten∨p∈(L.drop (i+1)).flatten):=by
    intro p hp
    rw [(hsplit c').2] at hp
    simp only [List.mem_append] at hp
    rcases hp with hp|hp|hp
    · exact .inr (.inl hp)
    · exact .inl hp
    · exact .inr (.inr hp)
  have hcM:∀ k∈([c]:Lh).flatten.map Prod.fst,k < C.w0.heap.size→k∈C.M:=by
    intro k hk hlt0
    simp only [List.flatten_cons,List.flatten_nil,List.append_nil,List.mem_map] at hk
    obtain⟨p,hp,rfl⟩:=hk
    rcases hs.own p (G3 hc hp) with h1|h1
    · omega
    · exact h1
  have hchg:Chg C.M C.w0 w':=by
    refine⟨hch.os.trans hs.W4.os,hch.tape.trans hs.W4.tape,hch.output.trans hs.W4.output,Nat.le_trans hs.W4.size hch.size,fun k hk hkm => ?_⟩
    rw [hch.block k (Nat.lt_of_lt_of_le hk hs.W4.size) (fun hx=>hkm (hcM k hx hk))]
    exact hs.W4.block k hk hkm
  refine⟨v,j0,J,L.set i c',⟨⟨hm'.im,fun p hp => ?_,fun p hp => ?_,?_⟩,hchg,fun p hp => ?_,hs.U9.trans hle,fun b h0 h1 => ?_⟩,k v J c' hle hp⟩
  · rcases hcas p hp with h1|h1
    · exact hm'.loc p (by simpa using h1)
    · obtain⟨h2,h3⟩:=hoth p h1
      exact(hch.block p.1 (hlt p h2) (by simpa using h3)).trans (hm.loc p h2)
  · rcases hcas p hp with h1|h1
    · exact hm'.sep p (by simpa using h1)
    · obtain⟨h2,h3⟩:=hoth p h1
      cases hj:J p.1 with
      | none=>rfl
      | some o=>exact absurd (hn p.1 (hm.sep p h2) (by simp [hj])) (by have:=hlt p h2;omega)
  · rw [(hsplit c').2]
    have hc'nd:=hm'.nodup
    have hblk:∀ p∈c',w.heap.size≤p.1∨p.1∈c.map Prod.fst:=fun p hp=>by
      have:=hown p (by simpa using hp)
      simpa using this
    simp only [List.map_append,List.nodup_append] at hnd ⊢
    refine⟨hnd.1,⟨by simpa using hc'nd,hnd.2.1.2.1,?_⟩,?_⟩
    · rintro x hx y hy rfl
      obtain⟨p,hp,rfl⟩:=List.mem_map.1 hx
      obtain⟨q,hq,hqe⟩:=List.mem_map.1 hy
      obtain⟨h2,h3⟩:=hoth q (.inr hq)
      rcases hblk p hp with h4|h4
      · have:=hlt q h2;omega
      · exact h3 (hqe▸h4)
    · rintro x hx y hy rfl
      obtain⟨q,hq,rfl⟩:=List.mem_map.1 hx
      obtain⟨h2,h3⟩:=hoth q (.inl hq)
      simp only [List.mem_append] at hy
      rcases hy with hy|hy
      · obtain⟨p,hp,hpe⟩:=List.mem_map.1 hy
        rcases hblk p hp with h4|h4
        · have:=hlt q h2;omega
        · exact h3 (hpe▸h4)
      · exact hnd.2.2 q.1 hx q.1 (by simp only [List.mem_append];exact .inr hy) rfl
  · rcases hcas p hp with h1|h1
    · rcases hown p (by simpa using h1) with h2|h2
      · exact .inl (Nat.le_trans hs.W4.size h2)
      · obtain⟨q,hq,hqe⟩:=List.mem_map.1 h2
        rw [←hqe]
        exact hs.own q (G3 hc (by simpa using hq))
    · exact hs.own p (hoth p h1).1
  · cases hi:I b with
    | none=>exact Nat.le_trans hs.W4.size (hn b hi h1)
    | some o=>exact hs.new b h0 (by simp [hi])
end calls
end Go.Fl
namespace Go.Fl
open Go.RowKit
inductive Spec where
 | is (x:Value)
 | val (p:Value→Im→Prop) (mono:∀ v I J,p v I→Le I J→p v J)
 | new (o:Obj)
def Spec.holds:Spec→Value→Im→Prop
 | .is x,v,_=>v=x
 | .val p _,v,J=>p v J
 | .new _,v,_=>∃ b,v = .pointer (some ⟨b,0,none⟩)
theorem Spec.a9J {S:Spec}{v:Value}{I J:Im}(h:S.holds v I)(hle:Le I J):S.holds v J:=by
 cases S with
 | is x=>exact h
 | val p m=>exact m v I J h hle
 | new o=>exact h
def Spec.opx (P:Program)(N:Nat)(o:Oper)(ρ:Env)(J:Im)(L:Lh):Spec→Prop
 | .is x=>OpX P N o ρ J L (fun v J' X=>X = []∧v=x)
 | .val p _=>OpX P N o ρ J L (fun v J' X=>X = []∧p v J')
 | .new obj=>OpX P N o ρ J L (fun v _ X=>∃ b,v = .pointer (some ⟨b,0,none⟩)∧X = [[(b,obj)]])
def J6 (o:Oper):List Nat:=o.op.operands.toList.filterMap fun | .tmp t=>some t|_=>none
def T1 (s:List (Nat×Nat))(t:Nat):Option Nat :=
 match s with
 | []=>none
 | p::r=>bif Nat.beq p.1 t then some p.2 else T1 r t
def V7 (acc:List (Nat×Spec))(j:Nat):Option Spec :=
 match acc with
 | []=>none
 | (i,S)::r=>bif Nat.beq i j then some S else V7 r j
def a04 (sp:Nat→Option Spec)(s:List (Nat×Nat))(ρ0 ρ:Env)(J:Im):List Nat→Prop→Prop
 | [],G=>G
 | t::ts,G =>
  match T1 s t with
  | none=>look ρ t=look ρ0 t→a04 sp s ρ0 ρ J ts G
  | some j=>match sp j with
   | some (.is x)=>look ρ t=some x→a04 sp s ρ0 ρ J ts G
   | some (.val p _)=>∀ v,look ρ t=some v→p v J→a04 sp s ρ0 ρ J ts G
   | some (.new _)=>∀ b,look ρ t=some (.pointer (some ⟨b,0,none⟩))→a04 sp s ρ0 ρ J ts G
   | none=>True
def a6O (P:Program)(N:Nat)(ops:Array Oper)(sp:Nat→Option Spec)(ρ0:Env)(I:Im)(L:Lh)(o:Oper)(s:List (Nat×Nat))(S:Spec):Prop :=
 ∀ J,Le I J→∀ ρ,a04 sp s ρ0 ρ J (J6 o) (
  match o.guard with
  | none=>S.opx P N o ρ J L
  | some (g,want)=>∀ v,(match sp g with|some T=>T.holds v J|none=>False) →
   (v = .bool want→S.opx P N o ρ J L)∧((∀ b,v = .bool b→b≠want)→S.holds undef J∧∀ o,S ≠ .new o))
def chain (P:Program)(N:Nat)(ops:Array Oper)(ρ0:Env)(I:Im)(L:Lh)(F:List (Nat×Spec)→Prop):List Oper→List (List (Nat×Nat))→Nat→List (Nat×Spec)→Prop
 | [],_,_,acc=>F acc
 | o::os,s::ss,k,acc=>∃ S,a6O P N ops (V7 acc) ρ0 I L o s S∧chain P N ops ρ0 I L F os ss (k+1) ((k,S)::acc)
 | _,[],_,_=>False
def a9e (J:Im)(sp:Nat→Option Spec)(G:Env→Lh→Prop):List Oper→Nat→Env→Lh→Prop
 | o::os,k,ρ,L =>
  match o.dst,sp k with
  | some d,some (.is x)=>a9e J sp G os (k+1) ((d,x)::ρ) L
  | some d,some (.val p _)=>∀ v,p v J→a9e J sp G os (k+1) ((d,v)::ρ) L
  | some d,some (.new obj)=>∀ b,a9e J sp G os (k+1) ((d,.pointer (some ⟨b,0,none⟩))::ρ) ([(b,obj)]::L)
  | _,_=>False
 | [],_,ρ,L=>G ρ L
def a0D (ops:Array Oper):Bool:=(List.range ops.size).all fun i =>
 match ops[i]? with
 | some o=>o.after.all fun e => !Region.binds .any e||Nat.blt e.on i
 | none=>true
def a2y (ops:Array Oper)(n i:Nat)(s:List (Nat×Nat))(t:Nat):Bool :=
 match T1 s t with
 | some j=>Nat.blt j n&&((ops[j]?).bind (·.dst) == some t)&&Region.waitsFor .any ops i j
 | none=>(List.range n).all fun j => !((ops[j]?).bind (·.dst) == some t)||j == i||Region.waitsFor .any ops j i
def a9f (ops:Array Oper)(n:Nat)(ss:List (List (Nat×Nat)))(i:Nat):Bool :=
 match ops[i]?,ss[i]? with
 | some o,some s=>o.dst.isSome&&(J6 o).all (a2y ops n i s) &&
  (match o.guard with|none=>true|some (g,_)=>Nat.blt g n&&Region.waitsFor .any ops i g)
 | _,_=>false
def a7L (ops:Array Oper)(n:Nat):Bool:=(List.range n).all fun i=>(List.range i).all fun j => !((ops[i]?).bind (·.dst) == (ops[j]?).bind (·.dst))
def R3 (size n:Nat):Array Bool:=((List.range size).map fun i=>Nat.blt i n).toArray
def b3O (ops:Array Oper)(n:Nat)(ss:List (List (Nat×Nat))):Bool :=
 Nat.ble n ops.size&&a0D ops&&(List.range n).all (a9f ops n ss)&&a7L ops n &&
 (n == ops.size||(Region.sinkB .any ops n&&Region.chainB .any ops n))&&Region.seqB .any ops (ops.size - n) n (R3 ops.size n)
def unl (listed:Array Bool):Nat→Nat
 | 0=>0
 | n+1=>unl listed n+(if listed.getD n true=false then 1 else 0)
theorem a6m {listed:Array Bool}{i:Nat}:∀ {n:Nat},n≤i→unl (listed.setIfInBounds i true) n=unl listed n
 | 0,_=>rfl
 | n+1,h=>by
  rw [unl,unl,a6m (by omega),getD_set_ne true (by omega)]
theorem a5H {listed:Array Bool}{i:Nat}(hi:listed.getD i true=false):∀ {n:Nat},i < n→unl (listed.setIfInBounds i true) n+1=unl listed n
 | 0,h=>by omega
 | n+1,h=>by
  by_cases e:i=n
  ·subst e
   have hlt:i < listed.size:=by
    rcases Nat.lt_or_ge i listed.size with h'|h'
    ·exact h'
    ·simp [Array.getElem?_eq_none h'] at hi
   have:(listed.setIfInBounds i true).getD i true=true:=by simp [hlt]
   rw [unl,unl,a6m (Nat.le_refl _),if_pos hi,this]
   simp
  ·rw [unl,unl,getD_set_ne true (by omega)]
   have:=a5H hi (n:=n) (by omega)
   omega
theorem a2k {listed:Array Bool}:∀ {n:Nat},unl listed n=0→∀ j,j < n→listed.getD j true=true
 | 0,_,j,h=>by omega
 | n+1,h0,j,h=>by
  rw [unl] at h0
  by_cases e:j=n
  ·subst e
   cases hl:listed.getD j true with
   | true=>rfl
   | false=>rw [if_pos hl] at h0;omega
  ·have h1:unl listed n=0:=by omega
   exact a2k h1 j (by omega)
theorem a6P {listed:Array Bool}{n m:Nat}(h:unl listed n=m+1):∃ i,i < n∧listed.getD i true=false∧∀ j,j < i→listed.getD j true=true:=by
 induction n with
 | zero=>simp [unl] at h
 | succ n ih =>
  by_cases h0:unl listed n=0
  ·rw [unl,h0] at h
   refine⟨n,by omega,?_,fun j hj=>a2k h0 j hj⟩
   cases hl:listed.getD n true with
   | false=>rfl
   | true=>simp [hl] at h
  ·rw [unl] at h
   obtain⟨m',hm'⟩:∃ m',unl listed n=m'+1:=⟨unl listed n - 1,by omega⟩
   have key:∀ k m',unl listed k=m'+1→∃ i,i < k∧listed.getD i true=false∧∀ j,j < i→listed.getD j true=true:=by
    intro k
    induction k with
    | zero=>intro m' h;simp [unl] at h
    | succ k ihk =>
     intro m' h
     by_cases h1:unl listed k=0
     ·rw [unl,h1] at h
      refine⟨k,by omega,?_,fun j hj=>a2k h1 j hj⟩
      cases hl:listed.getD k true with
      | false=>rfl
      | true=>simp [hl] at h
     ·obtain⟨m2,hm2⟩:∃ m2,unl listed k=m2+1:=⟨unl listed k - 1,by omega⟩
      obtain⟨i,hi,hr⟩:=ihk m2 hm2
      exact⟨i,by omega,hr⟩
   obtain⟨i,hi,hr⟩:=key n m' hm'
   exact⟨i,by omega,hr⟩
theorem a0s {listed:Array Bool}{i:Nat}(hi:i < listed.size):(listed.setIfInBounds i true).getD i false=true:=by simp [hi]
theorem a4d {listed:Array Bool}{i:Nat}(hi:i < listed.size){b:Bool}(h:listed.getD i true=b):listed.getD i false=b:=by
 simp [hi] at h ⊢;exact h
def a1N (g:Nat→Option Value):List Nat→Env
 | [] => []
 | t::ts=>match g t with
  | some v=>(t,v)::a1N g ts
  | none=>a1N g ts
theorem a1S {g:Nat→Option Value}:∀ {ts:List Nat} {t:Nat} {v:Value},look (a1N g ts) t=some v→t∈ts∧g t=some v
 | [],t,v,h=>by simp [a1N,look] at h
 | s::ts,t,v,h=>by
  rw [a1N] at h
  cases hg:g s with
  | none=>rw [hg] at h;have:=a1S h;exact⟨List.mem_cons_of_mem _ this.1,this.2⟩
  | some u =>
   rw [hg,R6] at h
   by_cases e:s=t
   ·subst e;simp at h;subst h;exact⟨List.mem_cons_self,hg⟩
   ·rw [if_neg e] at h;have:=a1S h;exact⟨List.mem_cons_of_mem _ this.1,this.2⟩
theorem T3 {g:Nat→Option Value}:∀ {ts:List Nat} {t:Nat},t∈ts→look (a1N g ts) t=g t
 | s::ts,t,h=>by
  rw [a1N]
  by_cases e:s=t
  ·subst e
   cases hg:g s with
   | none =>
    simp only
    cases hl:look (a1N g ts) s with
    | none=>rfl
    | some v=>have:=(a1S hl).2;rw [hg] at this;cases this
   | some u=>simp only [R6,if_true]
  ·have hm:t∈ts:=by rcases List.mem_cons.1 h with h|h;exact absurd h.symm e;exact h
   cases hg:g s with
   | none=>exact T3 hm
   | some u=>simp only [R6,if_neg e];exact T3 hm
theorem a1u {sp:Nat→Option Spec}{s:List (Nat×Nat)}{ρ0 ρ:Env}{J:Im}{G:Prop}:∀ {ts:List Nat},a04 sp s ρ0 ρ J ts G →
    (∀ t∈ts,match T1 s t with|none=>look ρ t=look ρ0 t|some j=>∃ v S,look ρ t=some v∧sp j=some S∧S.holds v J)→G
  | [],h,_=>h
  | t::ts,h,hk=>by
    have h0:=hk t (List.mem_cons_self)
    have hk':∀ t∈ts,match T1 s t with|none=>look ρ t=look ρ0 t|some j=>∃ v S,look ρ t=some v∧sp j=some S∧S.holds v J:=fun t' ht'=>hk t' (List.mem_cons_of_mem _ ht')
    rw [a04] at h
    cases hs:T1 s t with
    | none =>
      rw [hs] at h h0
      exact a1u (h h0) hk'
    | some j =>
      rw [hs] at h h0
      obtain⟨v,S,h1,h2,h3⟩:=h0
      simp only [h2] at h
      cases S with
      | is x=>simp only [Spec.holds] at h3;subst h3;exact a1u (h h1) hk'
      | val p m=>exact a1u (h v h1 h3) hk'
      | new o=>obtain⟨b,rfl⟩:=h3;exact a1u (h b h1) hk'
theorem a0V {sp sp':Nat→Option Spec}{s:List (Nat×Nat)}{ρ0 ρ:Env}{J:Im}{G G':Prop}(hG:G→G'):∀ {ts:List Nat},(∀ t∈ts,∀ j,T1 s t=some j→sp j=sp' j)→a04 sp s ρ0 ρ J ts G→a04 sp' s ρ0 ρ J ts G'
 | [],_,h=>hG h
 | t::ts,he,h=>by
  have he':∀ t∈ts,∀ j,T1 s t=some j→sp j=sp' j:=fun t' ht'=>he t' (List.mem_cons_of_mem _ ht')
  rw [a04] at h ⊢
  cases hs:T1 s t with
  | none=>rw [hs] at h;exact fun hx=>a0V hG he' (h hx)
  | some j =>
   rw [hs] at h
   have:=he t List.mem_cons_self j hs
   simp only [←this]
   cases hj:sp j with
   | none=>trivial
   | some S =>
    simp only [hj] at h
    cases S with
    | is x=>exact fun hx=>a0V hG he' (h hx)
    | val p m=>exact fun v hx hp=>a0V hG he' (h v hx hp)
    | new o=>exact fun b hx=>a0V hG he' (h b hx)
theorem a6n {P:Program}{N:Nat}{ops:Array Oper}{sp sp':Nat→Option Spec}{ρ0:Env}{I:Im}{L:Lh}{o:Oper}{s:List (Nat×Nat)}{S:Spec}(h:a6O P N ops sp ρ0 I L o s S)
    (he:∀ t∈J6 o,∀ j,T1 s t=some j→sp j=sp' j)(hg:∀ g w,o.guard=some (g,w)→sp g=sp' g):a6O P N ops sp' ρ0 I L o s S:=fun J hJ ρ=>by
  refine a0V ?_ he (h J hJ ρ)
  cases hgd:o.guard with
  | none=>exact id
  | some gw =>
    obtain⟨g,w⟩:=gw
    have:=hg g w hgd
    simp only [←this]
    exact id
theorem St.drop {C:Ctx}{I:Im}{X L:Lh}{w:World}(h:St C I (X++L) w):St C I L w:=by
 have hsub:L.flatten.Sublist (X++L).flatten:=by simp
 exact⟨⟨h.mem.im,fun p hp=>h.mem.loc p (hsub.subset hp),fun p hp=>h.mem.sep p (hsub.subset hp),(hsub.map Prod.fst).nodup h.mem.nodup⟩,h.W4,fun p hp=>h.own p (hsub.subset hp),h.U9,h.new⟩
structure a6Q (C:Ctx)(N n m n0:Nat)(ops:Array Oper)(sp:Nat→Option Spec)(ρ0:Env)(I:Im)(L:Lh)(listed:Array Bool)(J:Im)(vs:Nat→Value)(bs:Nat→Nat)(a:Act)(w:World):Prop where
 head:HeadInv .any ops m listed
 le:Le I J
 st:St C J L w
 base:n0≤w.heap.size
 lt0:∀ p∈L.flatten,p.1 < n0
 c65:C.w0.heap.size≤n0
 blk:∀ j,j < n→listed.getD j false=true→∀ obj,sp j=some (.new obj)→w.heap[bs j]?=some obj∧J (bs j)=none∧n0≤bs j
 inj:∀ j k,j < n→k < n→listed.getD j false=true→listed.getD k false=true→(∃ o,sp j=some (.new o))→(∃ o,sp k=some (.new o))→j≠k→bs j≠bs k
 val:∀ j,j < n→listed.getD j false=true→∃ S,sp j=some S∧S.holds (vs j) J∧(∀ o,S = .new o→vs j = .pointer (some ⟨bs j,0,none⟩))
 defers:a.defers = []
 size:a.tmps.size=N
 a42:∀ j d,j < n→listed.getD j false=true→(ops[j]?).bind (·.dst)=some d→a.tmps[d]?=some (vs j)
 a7M:∀ t v,look ρ0 t=some v→(∀ j,j < n→listed.getD j false=true→(ops[j]?).bind (·.dst)≠some t)→a.tmps[t]?=some v
theorem a0E {ops:Array Oper}{j i:Nat}{oj:Oper}(hj:ops[j]?=some oj)(h:Region.waitsFor .any ops j i=true):∃ e∈oj.after,Region.binds .any e=true∧e.on=i:=by
 obtain⟨o',h1,e,he,hb,ho⟩:=Region.waitsFor_spec h
 have:o'=oj:=Option.some.inj (h1.symm.trans hj)
 subst this
 exact⟨e,he,hb,ho⟩
section phi
variable {P:Program}{C:Ctx}{N n m n0:Nat}{l:List Oper}{ss:List (List (Nat×Nat))}{sp:Nat→Option Spec}{ρ0:Env}{I:Im}{L:Lh}
theorem a6Q.step {listed:Array Bool}{J:Im}{vs:Nat→Value}{bs:Nat→Nat}{a:Act}{w:World}{Q':Exit→Act→World→Prop}
    (hN:R7 N l=true)(hok:∀ i,i < n→a9f l.toArray n ss i=true)(hdst:a7L l.toArray n=true)
    (inv:a6Q C N n m n0 l.toArray sp ρ0 I L listed J vs bs a w)(hnm:n≤m){i:Nat}(hr:i∈Region.ready .any l.toArray listed)(hin:i < n)
    (hd:∀ o s,l[i]?=some o→ss[i]?=some s→∃ S,sp i=some S∧a6O P N l.toArray sp ρ0 I L o s S)
    {K:Act→World→Prop}(hK:∀ J vs bs a' w,a6Q C N n m n0 l.toArray sp ρ0 I L (listed.setIfInBounds i true) J vs bs a' w→(∃ v,∀ o,l[i]?=some o→a'=a.put o.dst v)→K a' w) :
    wpOpIn C.fen 0 P l.toArray Q' i K a w:=by
  obtain⟨hun,o,ho,hall⟩:=mem_ready.1 hr
  have hol:l[i]?=some o:=by simpa using ho
  have hok':=hok i hin
  unfold a9f at hok'
  simp only [ho] at hok'
  cases hs:ss[i]? with
  | none=>simp [hs] at hok'
  | some s =>
  simp only [hs,Bool.and_eq_true] at hok'
  obtain⟨⟨hdsome,hreads⟩,hguard⟩:=hok'
  obtain⟨d,hod⟩:=Option.isSome_iff_exists.1 hdsome
  have hdN:d < N:=by
    have:=List.all_eq_true.1 hN o (List.mem_of_getElem? hol)
    rw [hod] at this
    simpa [Nat.blt_eq] using this
  obtain⟨S,hS,hduty⟩:=hd o s hol hs
  -- the slots that are read
  have hlisted:∀ j,Region.waitsFor .any l.toArray i j=true→listed.getD j false=true:=fun j hw=>by
    obtain⟨e,he,hb,heq⟩:=a0E ho hw
    exact heq▸hall e he hb
  have hilt:i < listed.size:=by
    rcases Nat.lt_or_ge i listed.size with h'|h'
    · exact h'
    · simp [Array.getElem?_eq_none h'] at hun
  have hiun:listed.getD i false=false:=getD_both hun
  have hnot:∀ j,Region.waitsFor .any l.toArray j i=true→listed.getD j false=true→False:=fun j hw hl=>by
    obtain⟨oj,hoj,e,he,hb,heq⟩:=Region.waitsFor_spec hw
    have:=inv.head.closed j oj hoj hl e he hb
    rw [heq,hiun] at this
    cases this
  let g:Nat→Option Value:=fun t=>match T1 s t with|some j=>some (vs j)|none=>look ρ0 t
  have hfits:Fits N (a1N g (J6 o)) a:=by
    refine⟨inv.defers,inv.size,fun t v hv => ?_⟩
    obtain⟨hmem,hg⟩:=a1S hv
    have hro:=List.all_eq_true.1 hreads t hmem
    unfold a2y at hro
    cases hsrc:T1 s t with
    | some j =>
      simp only [hsrc,Bool.and_eq_true,beq_iff_eq] at hro
      have hgv:vs j=v:=by simpa [g,hsrc] using hg
      rw [←hgv]
      exact inv.a42 j t (by simpa [Nat.blt_eq] using hro.1.1) (hlisted j hro.2) hro.1.2
    | none =>
      simp only [hsrc] at hro
      refine inv.a7M t v (by simpa [g,hsrc] using hg) fun j hj hl hdj => ?_
      have h1:=List.all_eq_true.1 hro j (List.mem_range.2 hj)
      simp only [hdj,beq_self_eq_true,Bool.not_true,Bool.false_or,Bool.or_eq_true,beq_iff_eq] at h1
      rcases h1 with h1|h1
      · subst h1;rw [hiun] at hl;cases hl
      · exact hnot j h1 hl
  have hbind:=a1u (hduty J inv.le (a1N g (J6 o))) (fun t ht=>by
    have hro:=List.all_eq_true.1 hreads t ht
    unfold a2y at hro
    cases hsrc:T1 s t with
    | none=>simp only;rw [T3 ht];simp [g,hsrc]
    | some j =>
      simp only
      simp only [hsrc,Bool.and_eq_true,beq_iff_eq] at hro
      obtain⟨T,hT,hh,_⟩:=inv.val j (by simpa [Nat.blt_eq] using hro.1.1) (hlisted j hro.2)
      exact⟨vs j,T,by rw [T3 ht];simp [g,hsrc],hT,hh⟩)
  clear hduty
  -- what a finished operation does to the invariant
  have fin : ∀ v J' b w', Chg [] w w' → Le J J' → a6N w.heap.size J J' → St C J' L w' → S.holds v J' →
      (∀ obj,S = .new obj→v = .pointer (some ⟨b,0,none⟩)∧w'.heap[b]?=some obj∧J' b=none∧w.heap.size≤b)→K (a.put o.dst v) w':=by
    intro v J' b w' hc hle hn hst hh hnew
    refine hK J' (fun j=>if j=i then v else vs j) (fun j=>if j=i then b else bs j) _ _ ?_ ⟨v,fun o' ho'=>by rw [hol] at ho';cases ho';rfl⟩
    have hput:∀ j,j≠i→(listed.setIfInBounds i true).getD j false=listed.getD j false:=fun j hj=>getD_set_ne false (Ne.symm hj)
    have hdne:∀ j,j < n→j≠i→∀ d',(l.toArray[j]?).bind (·.dst)=some d'→d'≠d:=by
      intro j hj hji d' hd' e
      subst e
      have hdi:(l.toArray[i]?).bind (·.dst)=some d':=by rw [ho];exact hod
      rcases Nat.lt_or_gt_of_ne hji with h1|h1
      · have:=List.all_eq_true.1 (List.all_eq_true.1 hdst i (List.mem_range.2 hin)) j (List.mem_range.2 h1)
        rw [hdi,hd'] at this
        simp at this
      · have:=List.all_eq_true.1 (List.all_eq_true.1 hdst j (List.mem_range.2 hj)) i (List.mem_range.2 h1)
        rw [hdi,hd'] at this
        simp at this
    refine⟨inv.head.set hr (Nat.lt_of_lt_of_le hin hnm),inv.le.trans hle,hst,Nat.le_trans inv.base hc.size,inv.lt0,inv.c65,fun j hj hl obj hobj => ?_,fun j k hj hk hlj hlk hoj hok2 hjk => ?_,fun j hj hl => ?_,?_,?_,fun j d' hj hl hd' => ?_,fun t u hu hno => ?_⟩
    · by_cases hji:j=i
      · subst hji
        have hSobj:S = .new obj:=Option.some.inj (hS.symm.trans hobj)
        obtain⟨_,h2,h3,h4⟩:=hnew obj hSobj
        simp only [if_true]
        exact⟨h2,h3,Nat.le_trans inv.base h4⟩
      · rw [hput j hji] at hl
        obtain⟨h1,h2,h3⟩:=inv.blk j hj hl obj hobj
        simp only [if_neg hji]
        refine⟨(hc.block _ (D7 h1) (by simp)).trans h1,?_,h3⟩
        cases hx:J' (bs j) with
        | none=>rfl
        | some ob=>exact absurd (hn (bs j) h2 (by simp [hx])) (by have:=D7 h1;omega)
    · by_cases hji:j=i
      · by_cases hki:k=i
        · exact absurd (hji.trans hki.symm) hjk
        · subst hji
          obtain⟨obj,hobj⟩:=hoj
          have hSobj:S = .new obj:=Option.some.inj (hS.symm.trans hobj)
          obtain⟨_,_,_,h4⟩:=hnew obj hSobj
          rw [hput k hki] at hlk
          obtain⟨obj2,hobj2⟩:=hok2
          have:=D7 (inv.blk k hk hlk obj2 hobj2).1
          simp only [if_true,if_neg hki]
          omega
      · rw [hput j hji] at hlj
        by_cases hki:k=i
        · subst hki
          obtain⟨obj,hobj⟩:=hok2
          have hSobj:S = .new obj:=Option.some.inj (hS.symm.trans hobj)
          obtain⟨_,_,_,h4⟩:=hnew obj hSobj
          obtain⟨obj2,hobj2⟩:=hoj
          have:=D7 (inv.blk j hj hlj obj2 hobj2).1
          simp only [if_true,if_neg hji]
          omega
        · rw [hput k hki] at hlk
          simp only [if_neg hji,if_neg hki]
          exact inv.inj j k hj hk hlj hlk hoj hok2 hjk
    · by_cases hji:j=i
      · subst hji
        refine⟨S,hS,by simpa using hh,fun ob hob => ?_⟩
        simpa using (hnew ob hob).1
      · rw [hput j hji] at hl
        obtain⟨T,hT,h1,h2⟩:=inv.val j hj hl
        refine⟨T,hT,?_,fun ob hob => ?_⟩
        · simp only [if_neg hji];exact Spec.a9J h1 hle
        · simp only [if_neg hji];exact h2 ob hob
    · rw [hod];exact inv.defers
    · rw [hod];simp [Act.put,inv.size]
    · rw [hod]
      by_cases hji:j=i
      · subst hji
        have:d'=d:=by rw [ho] at hd';exact Option.some.inj (hd'.symm.trans hod)
        subst this
        simp [Act.put,inv.size,hdN]
      · rw [hput j hji] at hl
        have hne:=hdne j hj hji d' hd'
        simp only [if_neg hji,Act.put,Array.getElem?_setIfInBounds_ne (Ne.symm hne)]
        exact inv.a42 j d' hj hl hd'
    · rw [hod]
      have hdt:d≠t:=by
        intro e
        subst e
        exact hno i hin (a0s hilt) (by rw [ho];exact hod)
      simp only [Act.put,Array.getElem?_setIfInBounds_ne hdt]
      refine inv.a7M t u hu fun j hj hl=>hno j hj ?_
      by_cases hji:j=i
      · subst hji;rw [hiun] at hl;cases hl
      · rw [hput j hji];exact hl
  have run:S.opx P N o (a1N g (J6 o)) J L→o.wpIn C.fen 0 P a w K Q':=by
    intro h
    cases S with
    | is x =>
      refine Yld.wp ((h a w hfits inv.st.mem).mono ?_)
      rintro v w' ⟨J',X,hc,hle,hn,hm,hX,rfl,hp⟩
      exact fin v J' 0 w' hc hle hn ((inv.st.step hc hle hn hm hX).drop) hp (fun obj h=>by cases h)
    | val p m =>
      refine Yld.wp ((h a w hfits inv.st.mem).mono ?_)
      rintro v w' ⟨J',X,hc,hle,hn,hm,hX,rfl,hp⟩
      exact fin v J' 0 w' hc hle hn ((inv.st.step hc hle hn hm hX).drop) hp (fun obj h=>by cases h)
    | new obj =>
      refine Yld.wp ((h a w hfits inv.st.mem).mono ?_)
      rintro v w' ⟨J',X,hc,hle,hn,hm,hX,b,rfl,rfl⟩
      refine fin _ J' b w' hc hle hn ((inv.st.step hc hle hn hm hX).drop) ⟨b,rfl⟩ (fun obj' h => ?_)
      cases h
      exact⟨j0,hm.loc (b,obj) (by simp),hm.sep (b,obj) (by simp),hX (b,obj) (by simp)⟩
  unfold wpOpIn
  simp only [ho]
  cases hg:o.guard with
  | none =>
    rw [hg] at hbind
    rw [if_pos (by simp [Region.wanted,hg])]
    exact run hbind
  | some gw =>
    obtain⟨gi,want⟩:=gw
    rw [hg] at hbind hguard
    simp only [Bool.and_eq_true] at hguard
    have hgn:gi < n:=by simpa [Nat.blt_eq] using hguard.1
    have hgl:=hlisted gi hguard.2
    obtain⟨T,hT,hh,_⟩:=inv.val gi hgn hgl
    have hb2:=hbind (vs gi) (by rw [hT];exact hh)
    have hogi:=hok gi hgn
    unfold a9f at hogi
    obtain⟨og,hog⟩:∃ og,l.toArray[gi]?=some og:=by
      cases hx:l.toArray[gi]? with
      | none=>simp [hx] at hogi
      | some og=>exact⟨og,rfl⟩
    obtain⟨sg,hsg⟩:∃ sg,ss[gi]?=some sg:=by
      cases hx:ss[gi]? with
      | none=>simp [hog,hx] at hogi
      | some sg=>exact⟨sg,rfl⟩
    simp only [hog,hsg,Bool.and_eq_true] at hogi
    obtain⟨dg,hdg⟩:=Option.isSome_iff_exists.1 hogi.1.1
    have htg:=inv.a42 gi dg hgn hgl (by rw [hog];exact hdg)
    have hy:yielded l.toArray a.tmps gi=(match vs gi with | .bool b=>some b|_=>none):=by
      unfold yielded
      rw [hog]
      simp only [Option.bind_some,hdg,htg]
      cases vs gi<;>rfl
    by_cases hv:vs gi = .bool want
    · rw [if_pos (by simp [Region.wanted,hg,hy,hv])]
      exact run (hb2.1 hv)
    · have hnw:∀ b,vs gi = .bool b→b≠want:=fun b hb e=>hv (by rw [hb,e])
      have hwf:¬Region.wanted o (yielded l.toArray a.tmps)=true:=by
        simp only [Region.wanted,hg,hy]
        cases hx:vs gi<;>simp
        rename_i b
        exact hnw b hx
      rw [if_neg hwf]
      refine⟨fun _ _=>trivial,?_⟩
      obtain⟨h1,hSv⟩:=hb2.2 hnw
      exact fin undef J 0 w (Chg.refl _ _) (Le.refl _) (fun b h0 h1=>absurd h0 h1) inv.st h1 (fun obj h=>absurd h (hSv obj))
end phi
end Go.Fl
namespace Go.Fl
open Go.RowKit
theorem St.cons {C:Ctx}{I:Im}{L:Lh}{w:World}(hs:St C I L w){b:Nat}{o:Obj}(hb:w.heap[b]?=some o)(hI:I b=none)(hn:∀ p∈L.flatten,p.1≠b)(ho:C.w0.heap.size≤b):St C I ([(b,o)]::L) w:=by
 refine⟨⟨hs.mem.im,fun p hp => ?_,fun p hp => ?_,?_⟩,hs.W4,fun p hp => ?_,hs.U9,hs.new⟩
 ·simp only [List.flatten_cons,List.cons_append,List.nil_append,List.mem_cons] at hp
  rcases hp with rfl|hp
  ·exact hb
  ·exact hs.mem.loc p hp
 ·simp only [List.flatten_cons,List.cons_append,List.nil_append,List.mem_cons] at hp
  rcases hp with rfl|hp
  ·exact hI
  ·exact hs.mem.sep p hp
 ·simp only [List.flatten_cons,List.cons_append,List.nil_append,List.map_cons,List.nodup_cons,List.mem_map,not_exists,not_and]
  exact⟨fun p hp=>hn p hp,hs.mem.nodup⟩
 ·simp only [List.flatten_cons,List.cons_append,List.nil_append,List.mem_cons] at hp
  rcases hp with rfl|hp
  ·exact .inl ho
  ·exact hs.own p hp
section phi
variable {P:Program}{C:Ctx}{N n m n0:Nat}{l:List Oper}{ss:List (List (Nat×Nat))}{sp:Nat→Option Spec}{ρ0:Env}{I:Im}{L:Lh}
theorem a5I {listed:Array Bool}{J:Im}{vs:Nat→Value}{bs:Nat→Nat}{a:Act}{w:World}(inv:a6Q C N n n n0 l.toArray sp ρ0 I L listed J vs bs a w)
    (hall:∀ j,j < n→listed.getD j false=true){G:Env→Lh→Prop} :
    ∀ (os:List Oper) (k:Nat) (ρ:Env) (Lk:Lh),(∀ j,os[j]?=(l.take n)[k+j]?)→k≤n →
      (∀ t v,look ρ t=some v→(∀ j,k≤j→j < n→(l.toArray[j]?).bind (·.dst)≠some t)→a.tmps[t]?=some v)→St C J Lk w →
      (∀ p∈Lk.flatten,p∈L.flatten∨∃ j,j < k∧p.1=bs j∧∃ o,sp j=some (.new o)) →
      a9e J sp G os k ρ Lk→∃ ρ' L',Fits N ρ' a∧St C J L' w∧G ρ' L'
  | os,k,ρ,Lk,hos,hk,htmp,hst,hblk,h=>by
    by_cases hkn:k=n
    · subst hkn
      have ho:os = []:=by
        cases os with
        | nil=>rfl
        | cons x r =>
          have:=hos 0
          have h9:(l.take k)[k+0]?=none:=List.getElem?_eq_none (by rw [List.length_take];omega)
          rw [h9] at this
          cases this
      subst ho
      simp only [a9e] at h
      exact⟨ρ,Lk,⟨inv.defers,inv.size,fun t v hv=>htmp t v hv (fun j h1 h2=>by omega)⟩,hst,h⟩
    · have hkn':k < n:=by omega
      cases os with
      | nil =>
        have h1:=hos 0
        simp at h1
        have hj:=hall k hkn'
        have hl:l.length≤k:=by omega
        have hsz:=inv.head.size
        have:k < listed.size:=by
          rcases Nat.lt_or_ge k listed.size with h'|h'
          · exact h'
          · simp [Array.getElem?_eq_none h'] at hj
        simp at hsz
        omega
      | cons o os =>
        have h1:=hos 0
        have hol:l[k]?=some o:=by simpa [hkn'] using h1.symm
        obtain⟨T,hT,hh,hnew⟩:=inv.val k hkn' (hall k hkn')
        have hos':∀ j,os[j]?=(l.take n)[k+1+j]?:=fun j=>by have:=hos (j+1);simpa [Nat.add_assoc,Nat.add_comm 1 j] using this
        cases hod:o.dst with
        | none=>simp only [a9e,hod] at h
        | some d =>
          have htk:=inv.a42 k d hkn' (hall k hkn') (by simp [hol,hod])
          have htmp':∀ x,x=vs k→∀ t v,look ((d,x)::ρ) t=some v→(∀ j,k+1≤j→j < n→(l.toArray[j]?).bind (·.dst)≠some t)→a.tmps[t]?=some v:=by
            rintro x rfl t v hv hno
            rw [R6] at hv
            by_cases e:d=t
            · subst e;simp at hv;subst hv;exact htk
            · rw [if_neg e] at hv
              refine htmp t v hv fun j h3 h4 => ?_
              by_cases hjk:j=k
              · subst hjk
                intro he
                simp [hol,hod] at he
                exact e he
              · exact hno j (by omega) h4
          have hblk':∀ p∈Lk.flatten,p∈L.flatten∨∃ j,j < k+1∧p.1=bs j∧∃ o,sp j=some (.new o):=fun p hp=>by
            rcases hblk p hp with h3|⟨j,h3,h4⟩
            · exact .inl h3
            · exact .inr ⟨j,by omega,h4⟩
          cases T with
          | is x =>
            simp only [a9e,hod,hT] at h
            exact a5I inv hall os (k+1) _ Lk hos' (by omega) (htmp' x hh.symm) hst hblk' h
          | val p m =>
            simp only [a9e,hod,hT] at h
            exact a5I inv hall os (k+1) _ Lk hos' (by omega) (htmp' (vs k) rfl) hst hblk' (h (vs k) hh)
          | new obj =>
            simp only [a9e,hod,hT] at h
            obtain⟨hb1,hb2,hb3⟩:=inv.blk k hkn' (hall k hkn') obj hT
            refine a5I inv hall os (k+1) _ _ hos' (by omega) (htmp' _ (hnew obj rfl).symm) (hst.cons hb1 hb2 (fun q hq => ?_) (Nat.le_trans inv.c65 hb3)) (fun q hq => ?_) (h (bs k))
            · rcases hblk q hq with h3|⟨j,h3,h4,h5⟩
              · have:=inv.lt0 q h3;omega
              · rw [h4]
                exact inv.inj j k (by omega) hkn' (hall j (by omega)) (hall k hkn') h5 ⟨obj,hT⟩ (by omega)
            · simp only [List.flatten_cons,List.cons_append,List.nil_append,List.mem_cons] at hq
              rcases hq with rfl|hq
              · exact .inr ⟨k,by omega,rfl,obj,hT⟩
              · exact hblk' q hq
theorem Y7 {listed:Array Bool}{ops:Array Oper}(hb:a0D ops=true)(hsz:listed.size=ops.size){i:Nat}(hi:listed.getD i true=false)(hlt:∀ j,j < i→listed.getD j true=true) :
    i∈Region.ready .any ops listed:=by
  have hil:i < listed.size:=by
    rcases Nat.lt_or_ge i listed.size with h'|h'
    · exact h'
    · simp [Array.getElem?_eq_none h'] at hi
  rw [mem_ready]
  refine⟨hi,ops[i]'(by omega),by simp,fun e he hbind => ?_⟩
  have h1:=List.all_eq_true.1 hb i (List.mem_range.2 (by omega))
  simp only [Array.getElem?_eq_getElem (show i < ops.size by omega),Array.all_eq_true_iff_forall_mem] at h1
  have h2:=h1 e he
  rw [hbind] at h2
  have hlt2:e.on < i:=by simpa [Nat.blt_eq] using h2
  have h3:=hlt e.on hlt2
  have:e.on < listed.size:=by omega
  simp [this] at h3 ⊢
  exact h3
theorem a0t {F:Fence}{m:Nat}{P:Program}{md:Region.Mode}{ops:Array Oper}{Q':Exit→Act→World→Prop}:∀ (l:List Oper) (k:Nat) (listed:Array Bool) (a:Act) (w:World),(∀ j,l[j]?=ops[k+j]?) →
    Region.seqB md ops l.length k listed=true→wpListIn F m P ops Q' l a w→wpAnyIn F m P md ops Q' l.length listed a w
  | [],_,_,_,_,_,hB,h=>⟨by simpa [Region.seqB] using hB,h⟩
  | o::l,k,listed,a,w,hl,hB,h=>by
    have h0:ops[k]?=some o:=by simpa using (hl 0).symm
    simp only [List.length_cons,Region.seqB,Bool.and_eq_true,decide_eq_true_eq] at hB
    refine⟨fun h1=>(by rw [hB.1] at h1;cases h1),fun i hi => ?_⟩
    rw [hB.1] at hi
    have hik:i=k:=by simpa using hi
    subst hik
    have hw:wpOpIn F m P ops Q' i (wpListIn F m P ops Q' l) a w:=by unfold wpOpIn;simp only [h0];exact h
    exact wpOpIn_mono (fun a' w' h'=>a0t l (i+1) _ a' w' (fun j=>by have:=hl (j+1);simpa [Nat.add_assoc,Nat.add_comm 1 j] using this) hB.2 h') hw
theorem b1x {Q':Exit→Act→World→Prop}(hN:R7 N l=true)(hback:a0D l.toArray=true)(hok:∀ i,i < n→a9f l.toArray n ss i=true)(hdst:a7L l.toArray n=true)
    (hle:n≤l.length)(htail:n=l.length∨(Region.sinkB .any l.toArray n=true∧Region.chainB .any l.toArray n=true))(hseq:Region.seqB .any l.toArray (l.length - n) n (R3 l.length n)=true)
    (hd:∀ i o s,i < n→l[i]?=some o→ss[i]?=some s→∃ S,sp i=some S∧a6O P N l.toArray sp ρ0 I L o s S)
    (hfin:∀ listed J vs bs a w,a6Q C N n n n0 l.toArray sp ρ0 I L listed J vs bs a w→(∀ j,j < n→listed.getD j false=true)→wpListIn C.fen 0 P l.toArray Q' (l.drop n) a w) :
    ∀ (m:Nat) (listed:Array Bool) J vs bs a w,a6Q C N n n n0 l.toArray sp ρ0 I L listed J vs bs a w→unl listed n=m→wpAnyIn C.fen 0 P .any l.toArray Q' (m+(l.length - n)) listed a w
  | 0,listed,J,vs,bs,a,w,inv,hm=>by
    have hsz:listed.size=l.length:=by simpa using inv.head.size
    have hall:∀ j,j < n→listed.getD j false=true:=fun j hj=>a4d (by omega) (a2k hm j hj)
    have heq:listed=R3 l.length n:=by
      refine Array.ext (by simp [R3,hsz]) fun j h1 h2 => ?_
      have e1:(R3 l.length n)[j]'h2=Nat.blt j n:=by simp [R3]
      rw [e1]
      by_cases hj:j < n
      · have:=hall j hj
        simp [h1] at this
        rw [this]
        exact(Nat.blt_eq▸hj:Nat.blt j n=true).symm
      · have:=inv.head.tail j (by omega) (by simp;omega)
        simp [h1] at this
        rw [this]
        cases hb:Nat.blt j n
        · rfl
        · exact absurd (Nat.blt_eq▸hb:j < n) hj
    have hw:=hfin listed J vs bs a w inv hall
    have h2:=a0t (md := .any) (Q':=Q') (l.drop n) n listed a w (fun j=>by simp [List.getElem?_drop]) (by rw [heq];simpa using hseq) hw
    simpa using h2
  | m+1,listed,J,vs,bs,a,w,inv,hm=>by
    have hsz:listed.size=l.length:=by simpa using inv.head.size
    obtain⟨i,hin,hi,hlt⟩:=a6P hm
    have hr:=Y7 hback (by simpa using inv.head.size) hi hlt
    rw [show m+1+(l.length - n)=(m+(l.length - n))+1 by omega]
    refine⟨fun h0=>(by rw [h0] at hr;cases hr),fun j hj => ?_⟩
    have hjn:j < n:=by
      rcases Nat.lt_or_ge j n with h|h
      · exact h
      · rcases htail with ht|⟨hs,hc⟩
        · obtain⟨_,o,ho,_⟩:=mem_ready.1 hj
          have:=(Array.getElem?_eq_some_iff.1 ho).1
          simp at this
          omega
        · have hnl:n < l.toArray.size:=by
            obtain⟨_,o,ho,_⟩:=mem_ready.1 hj
            have:=(Array.getElem?_eq_some_iff.1 ho).1
            omega
          exact absurd hj (tail_waits hs hc hnl inv.head _ i rfl hin hi j h)
    refine inv.step hN hok hdst (Nat.le_refl _) hj hjn (fun o s h1 h2=>hd j o s hjn h1 h2) fun J' vs' bs' a' w' inv' _ => ?_
    refine b1x hN hback hok hdst hle htail hseq hd hfin m _ J' vs' bs' a' w' inv' ?_
    have hu:=(mem_ready.1 hj).1
    have:=a5H hu hjn
    omega
theorem a4e (i:Nat)(S:Spec)(acc:List (Nat×Spec))(j:Nat):V7 ((i,S)::acc) j=if i=j then some S else V7 acc j:=by
 by_cases h:i=j
 ·subst h;simp [V7]
 ·simp [V7,h,a6l h]
theorem a6o {F:List (Nat×Spec)→Prop}(hn:n≤l.length)(hss:n≤ss.length):∀ (m k:Nat) (acc:List (Nat×Spec)),k+m=n→(∀ j,V7 acc j≠none→j < k) →
    chain P N l.toArray ρ0 I L F ((l.take n).drop k) (ss.drop k) k acc→∃ full,F full∧(∀ j,j < k→V7 full j=V7 acc j) ∧
      ∀ i o s,k≤i→i < n→l[i]?=some o→ss[i]?=some s→∃ S acc',V7 full i=some S∧a6O P N l.toArray (V7 acc') ρ0 I L o s S∧∀ j,j < i→V7 acc' j=V7 full j
  | 0,k,acc,hk,hacc,h=>by
    have hnil:(l.take n).drop k = []:=by rw [List.drop_eq_nil_iff,List.length_take];omega
    rw [hnil,chain] at h
    exact⟨acc,h,fun _ _=>rfl,fun i o s h1 h2=>by omega⟩
  | m+1,k,acc,hk,hacc,h=>by
    have hkl:k < (l.take n).length:=by rw [List.length_take];omega
    have hks:k < ss.length:=by omega
    rw [List.drop_eq_getElem_cons hkl,List.drop_eq_getElem_cons hks,chain] at h
    obtain⟨S,hd,hr⟩:=h
    obtain⟨full,hF,hold,hnew⟩:=a6o hn hss m (k+1) ((k,S)::acc) (by omega) (fun j hj=>by
      rw [a4e] at hj
      by_cases e:k=j
      · omega
      · rw [if_neg e] at hj;have:=hacc j hj;omega) hr
    refine⟨full,hF,fun j hj => ?_,fun i o s h1 h2 h3 h4 => ?_⟩
    · rw [hold j (by omega),a4e,if_neg (by omega)]
    · by_cases e:i=k
      · subst e
        have e1:(l.take n)[i]=o:=by
          have:(l.take n)[i]?=some o:=by rw [List.getElem?_take,if_pos h2];exact h3
          rw [List.getElem?_eq_getElem hkl] at this
          exact Option.some.inj this
        have e2:ss[i]=s:=by rw [List.getElem?_eq_getElem hks] at h4;exact Option.some.inj h4
        rw [e1,e2] at hd
        refine⟨S,acc,?_,hd,fun j hj => ?_⟩
        · rw [hold i (by omega),a4e,if_pos rfl]
        · rw [hold j (by omega),a4e,if_neg (by omega)]
      · exact hnew i o s (by omega) h2 h3 h4
theorem wpS.draw {Q:Exit→Env→Im→Lh→Prop}{id:Nat}(hm:P.follows .mixedOrders=true)(n:Nat)(ss:List (List (Nat×Nat)))
    (hN:R7 N l=true)(hB:b3O l.toArray n ss=true)(hss:Nat.ble n ss.length=true)
    (hch:chain P N l.toArray ρ0 I L (fun acc=>∀ J,Le I J→a9e J (V7 acc) (fun ρ L'=>wpL P C N l.toArray Q (l.drop n) ρ J L') (l.take n) 0 ρ0 L) (l.take n) ss 0 []) :
    wpS P C N (.region id l.toArray true) Q ρ0 I L:=fun a w ha hs=>by
  have hB0:=hB
  simp only [b3O,Bool.and_eq_true,Bool.or_eq_true] at hB
  obtain⟨⟨⟨⟨⟨hle,hback⟩,hok⟩,hdst⟩,htail⟩,hseq⟩:=hB
  have hle':n≤l.length:=by simpa using Nat.le_of_ble_eq_true hle
  obtain⟨full,hfin,_,hduty⟩:=a6o hle' (Nat.le_of_ble_eq_true hss) n 0 [] (by omega) (fun j hj=>absurd rfl hj) (by simpa using hch)
  have hd:∀ i o s,i < n→l[i]?=some o→ss[i]?=some s→∃ S,V7 full i=some S∧a6O P N l.toArray (V7 full) ρ0 I L o s S:=fun i o s hi ho hsi=>by
    obtain⟨S,acc',h1,h2,h3⟩:=hduty i o s (Nat.zero_le _) hi ho hsi
    have hoi:=List.all_eq_true.1 hok i (List.mem_range.2 hi)
    unfold a9f at hoi
    have ho':l.toArray[i]?=some o:=by simpa using ho
    simp only [ho',hsi,Bool.and_eq_true] at hoi
    have hback':∀ j,Region.waitsFor .any l.toArray i j=true→j < i:=fun j hw=>by
      obtain⟨e,he,hb,heq⟩:=a0E ho' hw
      have hil:i < l.toArray.size:=(Array.getElem?_eq_some_iff.1 ho').1
      have h4:=List.all_eq_true.1 hback i (List.mem_range.2 hil)
      simp only [ho',Array.all_eq_true_iff_forall_mem] at h4
      have h5:=h4 e he
      rw [hb] at h5
      have:e.on < i:=by simpa [Nat.blt_eq] using h5
      omega
    refine⟨S,h1,a6n h2 (fun t ht j hj => ?_) (fun g w hg => ?_)⟩
    · have h6:=List.all_eq_true.1 hoi.1.2 t ht
      unfold a2y at h6
      simp only [hj,Bool.and_eq_true] at h6
      exact h3 j (hback' j h6.2)
    · have h6:=hoi.2
      rw [hg] at h6
      simp only [Bool.and_eq_true] at h6
      exact h3 g (hback' g h6.2)
  have hs':St C I L { w with drawn:=w.drawn+1 }:=⟨⟨hs.mem.im,hs.mem.loc,hs.mem.sep,hs.mem.nodup⟩,⟨hs.W4.os,hs.W4.tape,hs.W4.output,hs.W4.size,hs.W4.block⟩,hs.own,hs.U9,hs.new⟩
  refine wpIn_region_any hm ?_
  have inv0:a6Q C N n n w.heap.size l.toArray (V7 full) ρ0 I L (Array.replicate l.toArray.size false) I (fun _=>undef) (fun _=>0) a { w with drawn:=w.drawn+1 }:=by
    have hnl:∀ j,(Array.replicate l.toArray.size false).getD j false=true→False:=fun j hl=>by rw [getD_replicate_false] at hl;cases hl
    refine⟨⟨by simp,fun j oj _ hl=>(hnl j hl).elim,fun t _ ht=>getD_in (by simpa using ht) (getD_replicate_false _ _)⟩,Le.refl _,hs',Nat.le_refl _,fun p hp=>D7 (hs.mem.loc p hp),hs.W4.size,
      fun j _ hl=>(hnl j hl).elim,fun j k _ _ hl=>(hnl j hl).elim,fun j _ hl=>(hnl j hl).elim,ha.defers,ha.size,fun j d _ hl=>(hnl j hl).elim,fun t v hv _=>ha.tmp t v hv⟩
  have hunl:unl (Array.replicate l.toArray.size false) n=n:=by
    have key:∀ k,k≤l.toArray.size→unl (Array.replicate l.toArray.size false) k=k:=by
      intro k
      induction k with
      | zero=>intro _;rfl
      | succ k ih =>
        intro hk
        rw [unl,ih (by omega),if_pos (getD_in (by simp at hk ⊢;omega) (getD_replicate_false _ _))]
    exact key n (by simpa using hle')
  have hmain:=b1x (C:=C) (n0:=w.heap.size) (Q':=a54 C N Q) hN hback (fun i hi=>List.all_eq_true.1 hok i (List.mem_range.2 hi)) hdst hle'
    (by
      rcases htail with h|h
      · exact .inl (by simpa using h)
      · exact .inr h) (by simpa using hseq) hd
    (fun listed J vs bs a' w' inv hall=>by
      obtain⟨ρ',L',h1,h2,h3⟩:=a5I inv hall (l.take n) 0 ρ0 L (fun j=>by simp) (Nat.zero_le _)
        (fun t v hv hno=>inv.a7M t v hv (fun j hj _=>hno j (Nat.zero_le _) hj)) inv.st (fun p hp => .inl hp) (hfin J inv.le)
      have hNd:R7 N (l.drop n)=true:=by
        simp only [R7,List.all_eq_true] at hN ⊢
        exact fun o ho=>hN o (List.mem_of_mem_drop ho)
      exact h3 hNd a' w' h1 h2)
    n _ _ _ _ _ _ inv0 hunl
  rw [show n+(l.length - n)=l.toArray.size by simp;omega] at hmain
  exact hmain
end phi
end Go.Fl
namespace Go.Fl
open Go.RowKit
def u8 (x:UInt8):Value := .int .u8 (x.toNat:Int)
def u32 (x:UInt32):Value := .int .u32 (x.toNat:Int)
def u64 (x:UInt64):Value := .int .u64 (x.toNat:Int)
abbrev i64 (n:Int):Value := .int .i64 n
theorem wrap_i64 {n:Int}(h1 : -9223372036854775808≤n)(h2:n≤9223372036854775807):IntKind.wrap .i64 n=n:=by
 exact IntWalk.i64_in n ⟨h1,h2⟩
theorem wrap_u8 (n:Int):IntKind.wrap .u8 n=n % 256:=by simp [IntKind.wrap,IntKind.bits,IntKind.signed]
theorem wrap_u32 (n:Int):IntKind.wrap .u32 n=n % 4294967296:=by simp [IntKind.wrap,IntKind.bits,IntKind.signed]
theorem wrap_u64 (n:Int):IntKind.wrap .u64 n=n % 18446744073709551616:=by simp [IntKind.wrap,IntKind.bits,IntKind.signed]
section
variable {P:Program}{C:Ctx}{N:Nat}{ρ:Env}{I:Im}{L:Lh}{φ:Value→Prop}{d:Option Nat}{ty:TypeId}{ps:String}{af:Array Edge}{g:Option (Nat×Bool)}
theorem O3.mk {o:Oper}{v:Value}(hv:φ v)(h:∀ a w,Fits N ρ a→Mem I L w→(execOp a.eval o).run P w = .ok (.value v) w):O3 P N o ρ I L φ:=fun a w ha hm=>⟨v,hv,h a w ha hm⟩
variable {x y z:Operand}{T T2:TypeId}
theorem O3.move {v:Value}(hx:ev ρ x=some v)(k:φ v):O3 P N ⟨d,.move x,ty,ps,af,g⟩ ρ I L φ := .mk k fun a w ha _=>by simp [execOp,ha.ev hx]
theorem O3.assign {v:Value}(hx:ev ρ x=some v)(k:φ v):O3 P N ⟨d,.assign x,ty,ps,af,g⟩ ρ I L φ := .mk k fun a w ha _=>by simp [execOp,ha.ev hx]
theorem O3.c6p {v:Value}(hc:ev ρ x=some (.bool true))(hx:ev ρ y=some v)(k:φ v):O3 P N ⟨d,.pick x y z,ty,ps,af,g⟩ ρ I L φ := .mk k fun a w ha _=>by simp [execOp,ha.ev hc,ha.ev hx,asBool]
theorem O3.c6q {v:Value}(hc:ev ρ x=some (.bool false))(hx:ev ρ z=some v)(k:φ v):O3 P N ⟨d,.pick x y z,ty,ps,af,g⟩ ρ I L φ := .mk k fun a w ha _=>by simp [execOp,ha.ev hc,ha.ev hx,asBool]
theorem O3.extract {vs:Array Value}{v:Value}{i:Nat}(hx:ev ρ x=some (.tuple vs))(hv:vs[i]?=some v)(k:φ v):O3 P N ⟨d,.extract x i,ty,ps,af,g⟩ ρ I L φ := .mk k fun a w ha _=>by simp [execOp,ha.ev hx,Instr.extract,hv]
theorem O3.add {m n:Int}(hx:ev ρ x=some (i64 m))(hy:ev ρ y=some (i64 n))(h1 : -9223372036854775808≤m+n)(h2:m+n≤9223372036854775807)(k:φ (i64 (m+n))) :
    O3 P N ⟨d,.binOp .add T x y T2,ty,ps,af,g⟩ ρ I L φ := .mk k fun a w ha _=>by simp [execOp,ha.ev hx,ha.ev hy,eqGuard,binOp,Op.intArith,wrap_i64 h1 h2]
theorem O3.sub {m n:Int}(hx:ev ρ x=some (i64 m))(hy:ev ρ y=some (i64 n))(h1 : -9223372036854775808≤m - n)(h2:m - n≤9223372036854775807)(k:φ (i64 (m - n))) :
    O3 P N ⟨d,.binOp .sub T x y T2,ty,ps,af,g⟩ ρ I L φ := .mk k fun a w ha _=>by simp [execOp,ha.ev hx,ha.ev hy,eqGuard,binOp,Op.intArith,wrap_i64 h1 h2]
theorem O3.mul {m n:Int}(hx:ev ρ x=some (i64 m))(hy:ev ρ y=some (i64 n))(h1 : -9223372036854775808≤m*n)(h2:m*n≤9223372036854775807)(k:φ (i64 (m*n))) :
    O3 P N ⟨d,.binOp .mul T x y T2,ty,ps,af,g⟩ ρ I L φ := .mk k fun a w ha _=>by simp [execOp,ha.ev hx,ha.ev hy,eqGuard,binOp,Op.intArith,wrap_i64 h1 h2]
theorem O3.rem {m n:Int}(hx:ev ρ x=some (i64 m))(hy:ev ρ y=some (i64 n))(h0:0≤m)(h2:0 < n)(k:φ (i64 (m % n))) :
    O3 P N ⟨d,.binOp .rem T x y T2,ty,ps,af,g⟩ ρ I L φ := .mk k fun a w ha _=>by
  have hn:n≠0:=by omega
  have h3:m.tmod n=m % n:=Int.tmod_eq_emod_of_nonneg h0
  simp [execOp,ha.ev hx,ha.ev hy,eqGuard,binOp,Op.intDiv,hn,h3]
theorem O3.tmod {m n:Int}(hx:ev ρ x=some (i64 m))(hy:ev ρ y=some (i64 n))(hn:n≠0)(k:φ (i64 (m.tmod n))) :
    O3 P N ⟨d,.binOp .rem T x y T2,ty,ps,af,g⟩ ρ I L φ := .mk k fun a w ha _=>by simp [execOp,ha.ev hx,ha.ev hy,eqGuard,binOp,Op.intDiv,hn]
section cmp
variable {kd:IntKind}{m n:Int}
theorem O3.lss (hx:ev ρ x=some (.int kd m))(hy:ev ρ y=some (.int kd n))(k:φ (.bool (decide (m < n)))):O3 P N ⟨d,.binOp .lss T x y T2,ty,ps,af,g⟩ ρ I L φ :=
 .mk k fun a w ha _=>by simp [execOp,ha.ev hx,ha.ev hy,eqGuard,binOp,Op.intCmp]
theorem O3.leq (hx:ev ρ x=some (.int kd m))(hy:ev ρ y=some (.int kd n))(k:φ (.bool (decide (m≤n)))):O3 P N ⟨d,.binOp .leq T x y T2,ty,ps,af,g⟩ ρ I L φ :=
 .mk k fun a w ha _=>by simp [execOp,ha.ev hx,ha.ev hy,eqGuard,binOp,Op.intCmp]
theorem O3.gtr (hx:ev ρ x=some (.int kd m))(hy:ev ρ y=some (.int kd n))(k:φ (.bool (decide (n < m)))):O3 P N ⟨d,.binOp .gtr T x y T2,ty,ps,af,g⟩ ρ I L φ :=
 .mk k fun a w ha _=>by simp [execOp,ha.ev hx,ha.ev hy,eqGuard,binOp,Op.intCmp]
theorem O3.geq (hx:ev ρ x=some (.int kd m))(hy:ev ρ y=some (.int kd n))(k:φ (.bool (decide (n≤m)))):O3 P N ⟨d,.binOp .geq T x y T2,ty,ps,af,g⟩ ρ I L φ :=
 .mk k fun a w ha _=>by simp [execOp,ha.ev hx,ha.ev hy,eqGuard,binOp,Op.intCmp]
theorem O3.b6a (hx:ev ρ x=some (.int kd m))(hy:ev ρ y=some (.int kd n))(k:φ (.bool (decide (m=n)))):O3 P N ⟨d,.binOp .eql T x y T2,ty,ps,af,g⟩ ρ I L φ :=
 .mk k fun a w ha _=>by
  have:(m == n)=decide (m=n):=rfl
  simp [execOp,ha.ev hx,ha.ev hy,eqGuard,binOp,Op.intCmp,this]
theorem O3.b9o (hx:ev ρ x=some (.int kd m))(hy:ev ρ y=some (.int kd n))(k:φ (.bool (decide (m≠n)))):O3 P N ⟨d,.binOp .neq T x y T2,ty,ps,af,g⟩ ρ I L φ :=
 .mk k fun a w ha _=>by
  have:(m != n)=decide (m≠n):=by by_cases h:m=n<;>simp [h,bne]
  simp only [execOp,ha.ev hx,ha.ev hy,eqGuard,binOp,Op.intCmp,this]
  simp [Sem.run]
end cmp
theorem O3.not {b:Bool}(hx:ev ρ x=some (.bool b))(k:φ (.bool (!b))):O3 P N ⟨d,.unOp .not T x,ty,ps,af,g⟩ ρ I L φ :=
 .mk k fun a w ha _=>by simp [execOp,ha.ev hx,Op.unary]
theorem a1b (x:UInt32):BitVec.ofInt 32 (x.toNat:Int)=x.toBitVec:=by
 apply BitVec.eq_of_toNat_eq
 have:=x.toNat_lt
 simp [BitVec.toNat_ofInt]
theorem a2Z (x:UInt64):BitVec.ofInt 64 (x.toNat:Int)=x.toBitVec:=by
 apply BitVec.eq_of_toNat_eq
 have:=x.toNat_lt
 simp [BitVec.toNat_ofInt]
theorem a2T (x:UInt8):BitVec.ofInt 8 (x.toNat:Int)=x.toBitVec:=by
 apply BitVec.eq_of_toNat_eq
 have:=x.toNat_lt
 simp [BitVec.toNat_ofInt]
theorem O3.a43 {m n:UInt32}(hx:ev ρ x=some (u32 m))(hy:ev ρ y=some (u32 n))(k:φ (u32 (m+n))):O3 P N ⟨d,.binOp .add T x y T2,ty,ps,af,g⟩ ρ I L φ :=
 .mk k fun a w ha _=>by simp [execOp,ha.ev hx,ha.ev hy,eqGuard,binOp,Op.intArith,u32,wrap_u32]
theorem a5J (b:BitVec 32):IntKind.wrap .u32 (b.toNat:Int)=b.toNat:=by rw [wrap_u32];have:=b.isLt;omega
theorem a7N (b:BitVec 64):IntKind.wrap .u64 (b.toNat:Int)=b.toNat:=by rw [wrap_u64];have:=b.isLt;omega
theorem a9K (b:BitVec 8):IntKind.wrap .u8 (b.toNat:Int)=b.toNat:=by rw [wrap_u8];have:=b.isLt;omega
theorem c1o (T:TypeId)(m n:UInt8):binOp .xor T (u8 m) (u8 n)=pure (u8 (m ^^^ n)):=by
 unfold binOp u8
 simp only [ne_eq,not_true,if_false]
 show(pure (Value.int .u8 (IntKind.wrap .u8 ((BitVec.ofInt 8 m.toNat ^^^ BitVec.ofInt 8 n.toNat).toNat:Int))):Sem Value)=_
 rw [a2T,a2T,a9K]
 rfl
theorem O3.c1p {m n:UInt8}(hx:ev ρ x=some (u8 m))(hy:ev ρ y=some (u8 n))(k:φ (u8 (m ^^^ n))):O3 P N ⟨d,.binOp .xor T x y T2,ty,ps,af,g⟩ ρ I L φ :=
 .mk k fun a w ha _=>by simp [execOp,ha.ev hx,ha.ev hy,eqGuard,c1o]
theorem c1q (T:TypeId)(m n:UInt8):binOp .and T (u8 m) (u8 n)=pure (u8 (m &&& n)):=by
 unfold binOp u8
 simp only [ne_eq,not_true,if_false]
 show(pure (Value.int .u8 (IntKind.wrap .u8 ((BitVec.ofInt 8 m.toNat &&& BitVec.ofInt 8 n.toNat).toNat:Int))):Sem Value)=_
 rw [a2T,a2T,a9K]
 rfl
theorem O3.c66 {m n:UInt8}(hx:ev ρ x=some (u8 m))(hy:ev ρ y=some (u8 n))(k:φ (u8 (m &&& n))):O3 P N ⟨d,.binOp .and T x y T2,ty,ps,af,g⟩ ρ I L φ :=
 .mk k fun a w ha _=>by simp [execOp,ha.ev hx,ha.ev hy,eqGuard,c1q]
theorem c4d (T:TypeId)(m n:UInt8):binOp .or T (u8 m) (u8 n)=pure (u8 (m ||| n)):=by
 unfold binOp u8
 simp only [ne_eq,not_true,if_false]
 show(pure (Value.int .u8 (IntKind.wrap .u8 ((BitVec.ofInt 8 m.toNat ||| BitVec.ofInt 8 n.toNat).toNat:Int))):Sem Value)=_
 rw [a2T,a2T,a9K]
 rfl
theorem O3.or8 {m n:UInt8}(hx:ev ρ x=some (u8 m))(hy:ev ρ y=some (u8 n))(k:φ (u8 (m ||| n))):O3 P N ⟨d,.binOp .or T x y T2,ty,ps,af,g⟩ ρ I L φ :=
 .mk k fun a w ha _=>by simp [execOp,ha.ev hx,ha.ev hy,eqGuard,c4d]
theorem b9p (T:TypeId)(m n:UInt32):binOp .xor T (u32 m) (u32 n)=pure (u32 (m ^^^ n)):=by
 unfold binOp u32
 simp only [ne_eq,not_true,if_false]
 show(pure (Value.int .u32 (IntKind.wrap .u32 ((BitVec.ofInt 32 m.toNat ^^^ BitVec.ofInt 32 n.toNat).toNat:Int))):Sem Value)=_
 rw [a1b,a1b,a5J]
 rfl
theorem O3.a44 {m n:UInt32}(hx:ev ρ x=some (u32 m))(hy:ev ρ y=some (u32 n))(k:φ (u32 (m ^^^ n))):O3 P N ⟨d,.binOp .xor T x y T2,ty,ps,af,g⟩ ρ I L φ :=
 .mk k fun a w ha _=>by simp [execOp,ha.ev hx,ha.ev hy,eqGuard,b9p]
theorem b9q (T:TypeId)(m n:UInt32):binOp .and T (u32 m) (u32 n)=pure (u32 (m &&& n)):=by
 unfold binOp u32
 simp only [ne_eq,not_true,if_false]
 show(pure (Value.int .u32 (IntKind.wrap .u32 ((BitVec.ofInt 32 m.toNat &&& BitVec.ofInt 32 n.toNat).toNat:Int))):Sem Value)=_
 rw [a1b,a1b,a5J]
 rfl
theorem O3.b3P {m n:UInt32}(hx:ev ρ x=some (u32 m))(hy:ev ρ y=some (u32 n))(k:φ (u32 (m &&& n))):O3 P N ⟨d,.binOp .and T x y T2,ty,ps,af,g⟩ ρ I L φ :=
 .mk k fun a w ha _=>by simp [execOp,ha.ev hx,ha.ev hy,eqGuard,b9q]
theorem c1r (T:TypeId)(m n:UInt32):binOp .or T (u32 m) (u32 n)=pure (u32 (m ||| n)):=by
 unfold binOp u32
 simp only [ne_eq,not_true,if_false]
 show(pure (Value.int .u32 (IntKind.wrap .u32 ((BitVec.ofInt 32 m.toNat ||| BitVec.ofInt 32 n.toNat).toNat:Int))):Sem Value)=_
 rw [a1b,a1b,a5J]
 rfl
theorem O3.c4e {m n:UInt32}(hx:ev ρ x=some (u32 m))(hy:ev ρ y=some (u32 n))(k:φ (u32 (m ||| n))):O3 P N ⟨d,.binOp .or T x y T2,ty,ps,af,g⟩ ρ I L φ :=
 .mk k fun a w ha _=>by simp [execOp,ha.ev hx,ha.ev hy,eqGuard,c1r]
theorem c1s (m:UInt32):Op.unary .xor (u32 m)=pure (u32 (~~~m)):=by
 unfold Op.unary u32
 show(pure (Value.int .u32 (IntKind.wrap .u32 ((BitVec.ofInt 32 (2^32 - 1) ^^^ BitVec.ofInt 32 m.toNat).toNat:Int))):Sem Value)=_
 rw [a1b,a5J]
 have h:BitVec.ofInt 32 (2^32 - 1) ^^^ m.toBitVec = ~~~ m.toBitVec:=by
  rw [show BitVec.ofInt 32 (2^32 - 1)=BitVec.allOnes 32 from by decide]
  exact BitVec.allOnes_xor
 rw [h]
 rfl
theorem O3.c8X {m:UInt32}(hx:ev ρ x=some (u32 m))(k:φ (u32 (~~~m))):O3 P N ⟨d,.unOp .xor T x,ty,ps,af,g⟩ ρ I L φ :=
 .mk k fun a w ha _=>by simp [execOp,ha.ev hx,c1s]
theorem b9r (T:TypeId)(m:UInt32)(kd:IntKind)(n:Nat)(h:n < 32):binOp .shl T (u32 m) (.int kd (n:Int))=pure (u32 (m <<< UInt32.ofNat n)):=by
 unfold u32
 show Op.shift .shl .u32 m.toNat kd n=_
 unfold Op.shift
 rw [if_neg (by omega)]
 have e:min ((n:Int).toNat) (IntKind.bits .u32)=n:=by simp [IntKind.bits];omega
 have hs:((m <<< UInt32.ofNat n).toNat:Int)=(m.toNat*2^n:Int) % 4294967296:=by
  have h1:(UInt32.ofNat n).toNat=n:=by simp;omega
  rw [UInt32.toNat_shiftLeft,h1,Nat.mod_eq_of_lt h,Nat.shiftLeft_eq]
  rw [Int.natCast_emod,Int.natCast_mul,Int.natCast_pow]
  rfl
 simp only [e,wrap_u32,hs]
theorem b9s (T:TypeId)(m:UInt32)(kd:IntKind)(n:Nat)(h:n < 32):binOp .shr T (u32 m) (.int kd (n:Int))=pure (u32 (m >>> UInt32.ofNat n)):=by
 unfold u32
 show Op.shift .shr .u32 m.toNat kd n=_
 unfold Op.shift
 rw [if_neg (by omega)]
 have e:min ((n:Int).toNat) (IntKind.bits .u32)=n:=by simp [IntKind.bits];omega
 have hs:((m >>> UInt32.ofNat n).toNat:Int)=Int.fdiv m.toNat (2^n):=by
  have h1:(UInt32.ofNat n).toNat=n:=by simp;omega
  rw [UInt32.toNat_shiftRight,h1,Nat.mod_eq_of_lt h,Nat.shiftRight_eq_div_pow,Int.fdiv_eq_ediv_of_nonneg _ (Int.pow_nonneg (by omega)),Int.natCast_ediv,Int.natCast_pow]
  rfl
 show(pure (Value.int .u32 (Int.fdiv m.toNat (2^(min ((n:Int).toNat) (IntKind.bits .u32))))):Sem Value)=_
 rw [e,hs]
theorem b9t (T:TypeId)(m n:UInt64):binOp .and T (u64 m) (u64 n)=pure (u64 (m &&& n)):=by
 unfold binOp u64
 simp only [ne_eq,not_true,if_false]
 show(pure (Value.int .u64 (IntKind.wrap .u64 ((BitVec.ofInt 64 m.toNat &&& BitVec.ofInt 64 n.toNat).toNat:Int))):Sem Value)=_
 rw [a2Z,a2Z,a7N]
 rfl
theorem O3.b7T {m n:UInt64}(hx:ev ρ x=some (u64 m))(hy:ev ρ y=some (u64 n))(k:φ (u64 (m &&& n))):O3 P N ⟨d,.binOp .and T x y T2,ty,ps,af,g⟩ ρ I L φ :=
 .mk k fun a w ha _=>by simp [execOp,ha.ev hx,ha.ev hy,eqGuard,b9t]
theorem c1t (T:TypeId)(m n:UInt64):binOp .or T (u64 m) (u64 n)=pure (u64 (m ||| n)):=by
 unfold binOp u64
 simp only [ne_eq,not_true,if_false]
 show(pure (Value.int .u64 (IntKind.wrap .u64 ((BitVec.ofInt 64 m.toNat ||| BitVec.ofInt 64 n.toNat).toNat:Int))):Sem Value)=_
 rw [a2Z,a2Z,a7N]
 rfl
theorem O3.c67 {m n:UInt64}(hx:ev ρ x=some (u64 m))(hy:ev ρ y=some (u64 n))(k:φ (u64 (m ||| n))):O3 P N ⟨d,.binOp .or T x y T2,ty,ps,af,g⟩ ρ I L φ :=
 .mk k fun a w ha _=>by simp [execOp,ha.ev hx,ha.ev hy,eqGuard,c1t]
theorem c1u (m:UInt64):Op.unary .xor (u64 m)=pure (u64 (~~~m)):=by
 unfold Op.unary u64
 show(pure (Value.int .u64 (IntKind.wrap .u64 ((BitVec.ofInt 64 (2^64 - 1) ^^^ BitVec.ofInt 64 m.toNat).toNat:Int))):Sem Value)=_
 rw [a2Z,a7N]
 have h:BitVec.ofInt 64 (2^64 - 1) ^^^ m.toBitVec = ~~~ m.toBitVec:=by
  rw [show BitVec.ofInt 64 (2^64 - 1)=BitVec.allOnes 64 from by decide]
  exact BitVec.allOnes_xor
 rw [h]
 rfl
theorem O3.c1v {m:UInt64}(hx:ev ρ x=some (u64 m))(k:φ (u64 (~~~m))):O3 P N ⟨d,.unOp .xor T x,ty,ps,af,g⟩ ρ I L φ :=
 .mk k fun a w ha _=>by simp [execOp,ha.ev hx,c1u]
theorem b9u (T:TypeId)(m:UInt64)(kd:IntKind)(n:Nat)(h:n < 64):binOp .shl T (u64 m) (.int kd (n:Int))=pure (u64 (m <<< UInt64.ofNat n)):=by
 unfold u64
 show Op.shift .shl .u64 m.toNat kd n=_
 unfold Op.shift
 rw [if_neg (by omega)]
 have e:min ((n:Int).toNat) (IntKind.bits .u64)=n:=by simp [IntKind.bits];omega
 have hs:((m <<< UInt64.ofNat n).toNat:Int)=(m.toNat*2^n:Int) % 18446744073709551616:=by
  have h1:(UInt64.ofNat n).toNat=n:=by simp;omega
  rw [UInt64.toNat_shiftLeft,h1,Nat.mod_eq_of_lt h,Nat.shiftLeft_eq]
  rw [Int.natCast_emod,Int.natCast_mul,Int.natCast_pow]
  rfl
 simp only [e,wrap_u64,hs]
theorem b9v (T:TypeId)(m:UInt64)(kd:IntKind)(n:Nat)(h:n < 64):binOp .shr T (u64 m) (.int kd (n:Int))=pure (u64 (m >>> UInt64.ofNat n)):=by
 unfold u64
 show Op.shift .shr .u64 m.toNat kd n=_
 unfold Op.shift
 rw [if_neg (by omega)]
 have e:min ((n:Int).toNat) (IntKind.bits .u64)=n:=by simp [IntKind.bits];omega
 have hs:((m >>> UInt64.ofNat n).toNat:Int)=Int.fdiv m.toNat (2^n):=by
  have h1:(UInt64.ofNat n).toNat=n:=by simp;omega
  rw [UInt64.toNat_shiftRight,h1,Nat.mod_eq_of_lt h,Nat.shiftRight_eq_div_pow,Int.fdiv_eq_ediv_of_nonneg _ (Int.pow_nonneg (by omega)),Int.natCast_ediv,Int.natCast_pow]
  rfl
 show(pure (Value.int .u64 (Int.fdiv m.toNat (2^(min ((n:Int).toNat) (IntKind.bits .u64))))):Sem Value)=_
 rw [e,hs]
end
end Go.Fl
namespace Go.Fl
open Go.RowKit
section
variable {P:Program}{C:Ctx}{N:Nat}{ρ:Env}{I:Im}{L:Lh}{φ:Value→Prop}{d:Option Nat}{ty:TypeId}{ps:String}{af:Array Edge}{g:Option (Nat×Bool)}
variable {x y z:Operand}{T T2:TypeId}
theorem O3.b7U {m:UInt32}{kd:IntKind}{j:Int}(n:Nat)(hx:ev ρ x=some (u32 m))(hy:ev ρ y=some (.int kd j))(hj:j=(n:Int))(h:n < 32)(k:φ (u32 (m <<< UInt32.ofNat n))):O3 P N ⟨d,.binOp .shl T x y T2,ty,ps,af,g⟩ ρ I L φ :=
 .mk k fun a w ha _=>by subst hj;simp [execOp,ha.ev hx,ha.ev hy,eqGuard,b9r T m kd n h]
theorem O3.b1y {m:UInt32}{kd:IntKind}{j:Int}(n:Nat)(hx:ev ρ x=some (u32 m))(hy:ev ρ y=some (.int kd j))(hj:j=(n:Int))(h:n < 32)(k:φ (u32 (m >>> UInt32.ofNat n))):O3 P N ⟨d,.binOp .shr T x y T2,ty,ps,af,g⟩ ρ I L φ :=
 .mk k fun a w ha _=>by subst hj;simp [execOp,ha.ev hx,ha.ev hy,eqGuard,b9s T m kd n h]
theorem O3.b7V {m:UInt64}{kd:IntKind}{j:Int}(n:Nat)(hx:ev ρ x=some (u64 m))(hy:ev ρ y=some (.int kd j))(hj:j=(n:Int))(h:n < 64)(k:φ (u64 (m <<< UInt64.ofNat n))):O3 P N ⟨d,.binOp .shl T x y T2,ty,ps,af,g⟩ ρ I L φ :=
 .mk k fun a w ha _=>by subst hj;simp [execOp,ha.ev hx,ha.ev hy,eqGuard,b9u T m kd n h]
theorem O3.c6r {m:UInt64}{kd:IntKind}{j:Int}(n:Nat)(hx:ev ρ x=some (u64 m))(hy:ev ρ y=some (.int kd j))(hj:j=(n:Int))(h:n < 64)(k:φ (u64 (m >>> UInt64.ofNat n))):O3 P N ⟨d,.binOp .shr T x y T2,ty,ps,af,g⟩ ρ I L φ :=
 .mk k fun a w ha _=>by subst hj;simp [execOp,ha.ev hx,ha.ev hy,eqGuard,b9v T m kd n h]
theorem O3.c8Y {m n:UInt64}(hx:ev ρ x=some (u64 m))(hy:ev ρ y=some (u64 n))(k:φ (u64 (m*n))):O3 P N ⟨d,.binOp .mul T x y T2,ty,ps,af,g⟩ ρ I L φ :=
 .mk k fun a w ha _=>by simp [execOp,ha.ev hx,ha.ev hy,eqGuard,binOp,Op.intArith,u64,wrap_u64]
theorem O3.b7W {m n:UInt64}(hx:ev ρ x=some (u64 m))(hy:ev ρ y=some (u64 n))(k:φ (u64 (m - n))):O3 P N ⟨d,.binOp .sub T x y T2,ty,ps,af,g⟩ ρ I L φ :=
 .mk k fun a w ha _=>by
  have e:(((m.toNat:Int) - n.toNat) % 18446744073709551616)=((m - n).toNat:Int):=by
   have h1:=m.toNat_lt;have h2:=n.toNat_lt
   rw [UInt64.toNat_sub]
   omega
  simp [execOp,ha.ev hx,ha.ev hy,eqGuard,binOp,Op.intArith,u64,wrap_u64,e]
theorem O3.neg {m:Int}(hx:ev ρ x=some (i64 m))(h : -9223372036854775807≤m∧m≤9223372036854775807)(k:φ (i64 (-m))):O3 P N ⟨d,.unOp .neg T x,ty,ps,af,g⟩ ρ I L φ :=
 .mk k fun a w ha _=>by simp [execOp,ha.ev hx,Op.unary,Op.intArith,wrap_i64 (n := -m) (by omega) (by omega)]
theorem run_convert_int {S D:TypeId}{ds:TypeDesc}{k:IntKind}(hS:P.underlying S=some ds)(hD:P.underlying D=some (.int k))(j:IntKind)(n:Int)(w:World) :
    (convert S D (.int j n)).run P w = .ok (.int k (k.wrap n)) w:=by
  simp [convert,run_underlying hS,run_underlying hD,Conv.intToInt]
section conv
variable {S D:TypeId}{ds:TypeDesc}
theorem O3.c8Z {j:IntKind}{n:Int}(hS:P.underlying S=some ds)(hD:P.underlying D=some (.int .i64))(hx:ev ρ x=some (.int j n))(h1 : -9223372036854775808≤n)(h2:n≤9223372036854775807)(k:φ (i64 n)) :
    O3 P N ⟨d,.convert S D x,ty,ps,af,g⟩ ρ I L φ := .mk k fun a w ha _=>by simp [execOp,ha.ev hx,run_convert_int hS hD,wrap_i64 h1 h2]
theorem O3.c1w {j:IntKind}{n:Int}(hS:P.underlying S=some ds)(hD:P.underlying D=some (.int .u8))(hx:ev ρ x=some (.int j n))(k:φ (u8 (UInt8.ofInt n))) :
    O3 P N ⟨d,.convert S D x,ty,ps,af,g⟩ ρ I L φ := .mk k fun a w ha _=>by
  have e:IntKind.wrap .u8 n=((UInt8.ofInt n).toNat:Int):=by
    rw [wrap_u8]
    show _=(((UInt8.ofNat (n % 2^8).toNat).toNat:Nat):Int)
    simp only [UInt8.toNat_ofNat']
    omega
  simp [execOp,ha.ev hx,run_convert_int hS hD,e,u8]
theorem O3.a9L {j:IntKind}{n:Int}(hS:P.underlying S=some ds)(hD:P.underlying D=some (.int .u64))(hx:ev ρ x=some (.int j n))(k:φ (u64 (UInt64.ofInt n))) :
    O3 P N ⟨d,.convert S D x,ty,ps,af,g⟩ ρ I L φ := .mk k fun a w ha _=>by
  have e:IntKind.wrap .u64 n=((UInt64.ofInt n).toNat:Int):=by
    rw [wrap_u64]
    show _=(((UInt64.ofNat (n % 2^64).toNat).toNat:Nat):Int)
    simp only [UInt64.toNat_ofNat']
    omega
  simp [execOp,ha.ev hx,run_convert_int hS hD,e,u64]
theorem O3.a6R {m:UInt8}(hS:P.underlying S=some ds)(hD:P.underlying D=some (.int .u32))(hx:ev ρ x=some (u8 m))(k:φ (u32 m.toUInt32)) :
    O3 P N ⟨d,.convert S D x,ty,ps,af,g⟩ ρ I L φ := .mk k fun a w ha _=>by
  have h:=m.toNat_lt
  have e:IntKind.wrap .u32 (m.toNat:Int)=(m.toUInt32.toNat:Int):=by rw [wrap_u32];simp;omega
  simp [execOp,ha.ev hx,u8,run_convert_int hS hD,e,u32]
theorem O3.a9M {m:UInt8}(hS:P.underlying S=some ds)(hD:P.underlying D=some (.int .u64))(hx:ev ρ x=some (u8 m))(k:φ (u64 m.toUInt64)) :
    O3 P N ⟨d,.convert S D x,ty,ps,af,g⟩ ρ I L φ := .mk k fun a w ha _=>by
  have h:=m.toNat_lt
  have e:IntKind.wrap .u64 (m.toNat:Int)=(m.toUInt64.toNat:Int):=by rw [wrap_u64];simp;omega
  simp [execOp,ha.ev hx,u8,run_convert_int hS hD,e,u64]
theorem O3.a6S {m:UInt32}(hS:P.underlying S=some ds)(hD:P.underlying D=some (.int .u8))(hx:ev ρ x=some (u32 m))(k:φ (u8 m.toUInt8)) :
    O3 P N ⟨d,.convert S D x,ty,ps,af,g⟩ ρ I L φ := .mk k fun a w ha _=>by
  have e:IntKind.wrap .u8 (m.toNat:Int)=(m.toUInt8.toNat:Int):=by rw [wrap_u8];simp
  simp [execOp,ha.ev hx,u32,run_convert_int hS hD,e,u8]
theorem O3.a45 {m:UInt64}(hS:P.underlying S=some ds)(hD:P.underlying D=some (.int .u8))(hx:ev ρ x=some (u64 m))(k:φ (u8 m.toUInt8)) :
    O3 P N ⟨d,.convert S D x,ty,ps,af,g⟩ ρ I L φ := .mk k fun a w ha _=>by
  have e:IntKind.wrap .u8 (m.toNat:Int)=(m.toUInt8.toNat:Int):=by rw [wrap_u8];simp
  simp [execOp,ha.ev hx,u64,run_convert_int hS hD,e,u8]
end conv
section len
variable {E:TypeId}{a0:Option Addr}{n c:Nat}
theorem O3.len (hT:P.underlying T=some (.slice E))(hx:ev ρ x=some (.slice a0 n c))(k:φ (i64 n)):O3 P N ⟨d,.call ⟨.builtin .len,#[x],#[T]⟩,ty,ps,af,g⟩ ρ I L φ :=
 .mk k fun a w ha _=>by simp [execOp,resolve,invoke,builtin,Builtin.len_,run_underlying hT,ha.ev hx,goInt]
theorem O3.c68 {s:ByteArray}(hT:P.underlying T=some .string)(hx:ev ρ x=some (.string s))(k:φ (i64 s.size)):O3 P N ⟨d,.call ⟨.builtin .len,#[x],#[T]⟩,ty,ps,af,g⟩ ρ I L φ :=
 .mk k fun a w ha _=>by simp [execOp,resolve,invoke,builtin,Builtin.len_,run_underlying hT,ha.ev hx,goInt]
theorem O3.cap (hT:P.underlying T=some (.slice E))(hx:ev ρ x=some (.slice a0 n c))(k:φ (i64 c)):O3 P N ⟨d,.call ⟨.builtin .cap,#[x],#[T]⟩,ty,ps,af,g⟩ ρ I L φ :=
 .mk k fun a w ha _=>by simp [execOp,resolve,invoke,builtin,Builtin.cap_,run_underlying hT,ha.ev hx,goInt]
end len
theorem O3.c69 {m n:Int}{ts:Array TypeId}(hx:ev ρ x=some (i64 m))(hy:ev ρ y=some (i64 n))(k:φ (i64 (min m n))):O3 P N ⟨d,.call ⟨.builtin .min,#[x,y],ts⟩,ty,ps,af,g⟩ ρ I L φ :=
 .mk k fun a w ha _=>by
  have e:(if n < m then n else m)=min m n:=by simp only [Int.min_def];split<;>split<;>omega
  simp [execOp,resolve,invoke,builtin,Builtin.min_,Builtin.min2,ha.ev hx,ha.ev hy,e]
theorem O3.c7a {m n:Int}{ts:Array TypeId}(hx:ev ρ x=some (i64 m))(hy:ev ρ y=some (i64 n))(k:φ (i64 (max m n))):O3 P N ⟨d,.call ⟨.builtin .max,#[x,y],ts⟩,ty,ps,af,g⟩ ρ I L φ :=
 .mk k fun a w ha _=>by
  have e:(if m < n then n else m)=max m n:=by simp only [Int.max_def];split<;>split<;>omega
  simp [execOp,resolve,invoke,builtin,Builtin.max_,Builtin.max2,ha.ev hx,ha.ev hy,e]
end
end Go.Fl
namespace Go.Fl
open Go.RowKit
abbrev row (cs:List Value)(e:TypeId):Obj := .cells cs.toArray e (0,0)
abbrev ptr (b o:Nat):Value := .pointer (some ⟨b,o,none⟩)
abbrev slc (b o n c:Nat):Value := .slice (some ⟨b,o,none⟩) n c
def G1 (cs:List Value)(o:Nat)(vs:List Value):List Value:=cs.take o++vs++cs.drop (o+vs.length)
def K5 (cs:List Value)(o n:Nat):List Value:=(cs.drop o).take n
theorem a9N (cs:List Value):K5 cs 0 cs.length=cs:=by simp [K5]
theorem a9O (cs vs:List Value)(h:vs.length=cs.length):G1 cs 0 vs=vs:=by simp [G1,h]
theorem K7 (cs:List Value)(o:Nat)(vs:List Value)(h:o+vs.length≤cs.length):(G1 cs o vs).length=cs.length:=by simp [G1];omega
theorem b6b (cs:List Value)(o:Nat)(v:Value)(h:o < cs.length):G1 cs o [v]=cs.set o v:=by
 simp only [G1,List.length_singleton]
 rw [List.set_eq_take_append_cons_drop,if_pos h]
 simp
theorem a55 (xs sp:List Value)(o:Nat)(vs:List Value)(h:o+vs.length≤xs.length):G1 (xs++sp) o vs=G1 xs o vs++sp:=by
 simp only [G1]
 rw [List.take_append_of_le_length (by omega),List.drop_append_of_le_length (by omega)]
 simp
def Cells (I:Im)(b o:Nat)(xs:List Value):Prop:=∃ cs e fr,I b=some (.cells cs e fr)∧∀ i v,xs[i]?=some v→cs[o+i]?=some v
theorem Cells.mono {I J:Im}{b o:Nat}{xs:List Value}(h:Cells I b o xs)(hle:Le I J):Cells J b o xs:=by
 obtain⟨cs,e,fr,h1,h2⟩:=h
 exact⟨cs,e,fr,hle _ _ h1,h2⟩
theorem Cells.b6c {I:Im}{b:Nat}{cs:List Value}{e:TypeId}(h:I b=some (row cs e)):Cells I b 0 cs:=⟨_,_,_,h,fun i v hv=>by simpa using hv⟩
theorem Cells.sub {I:Im}{b o:Nat}{xs ys:List Value}(k:Nat)(h:Cells I b o xs)(hs:∀ i v,ys[i]?=some v→xs[k+i]?=some v):Cells I b (o+k) ys:=by
 obtain⟨cs,e,fr,h1,h2⟩:=h
 exact⟨cs,e,fr,h1,fun i v hv=>by rw [Nat.add_assoc];exact h2 _ _ (hs i v hv)⟩
theorem cell_of {w:World}{b o:Nat}{cs:Array Value}{e:TypeId}{fr:Nat×Nat}(h:w.heap[b]?=some (.cells cs e fr)):w.cell? ⟨b,o,none⟩=cs[o]?:=by simp [World.cell?,h]
theorem Cells.cell {I:Im}{L:Lh}{w:World}{b o:Nat}{xs:List Value}(h:Cells I b o xs)(hm:Mem I L w){i:Nat}{v:Value}(hv:xs[i]?=some v):w.cell? ⟨b,o+i,none⟩=some v:=by
 obtain⟨cs,e,fr,h1,h2⟩:=h
 rw [cell_of (hm.im _ _ h1)]
 exact h2 i v hv
def Sl (I:Im)(s:Nat)(v:Value)(n:Nat)(xs:List Value):Prop :=
 ∃ a c,v = .slice a n c∧xs.length=n*s∧n≤c∧c≤maxLen∧(a=none→c=0)∧(xs ≠ []→∃ b o,a=some ⟨b,o,none⟩∧Cells I b o xs)
theorem Sl.mono {I J:Im}{s:Nat}{v:Value}{n:Nat}{xs:List Value}(h:Sl I s v n xs)(hle:Le I J):Sl J s v n xs:=by
 obtain⟨a,c,h1,h2,h3,h4,h5,h6⟩:=h
 exact⟨a,c,h1,h2,h3,h4,h5,fun hx=>by obtain⟨b,o,ha,hc⟩:=h6 hx;exact⟨b,o,ha,hc.mono hle⟩⟩
theorem Sl.nil (I:Im)(s:Nat):Sl I s (.slice none 0 0) 0 []:=⟨none,0,rfl,by simp,Nat.le_refl _,by simp [maxLen],fun _=>rfl,fun h=>absurd rfl h⟩
theorem Sl.open {I:Im}{s:Nat}{v:Value}{n:Nat}{xs:List Value}(h:Sl I s v n xs)(hx:xs ≠ []):∃ b o c,v=slc b o n c∧Cells I b o xs∧n≤c∧c≤maxLen:=by
 obtain⟨a,c,h1,h2,h3,h4,h5,h6⟩:=h
 obtain⟨b,o,rfl,hc⟩:=h6 hx
 exact⟨b,o,c,h1,hc,h3,h4⟩
theorem Sl.shape {I:Im}{s:Nat}{v:Value}{n:Nat}{xs:List Value}(h:Sl I s v n xs):∃ a c,v = .slice a n c∧n≤c∧c≤maxLen:=by
 obtain⟨a,c,h1,h2,h3,h4,h5,h6⟩:=h
 exact⟨a,c,h1,h3,h4⟩
theorem Sl.len {I:Im}{s:Nat}{v:Value}{n:Nat}{xs:List Value}(h:Sl I s v n xs):xs.length=n*s:=by
 obtain⟨a,c,h1,h2,h3,h4,h5,h6⟩:=h
 exact h2
theorem Sl.a3T {I:Im}{s b o n c:Nat}{xs:List Value}(h:Cells I b o xs)(hl:xs.length=n*s)(h1:n≤c)(h2:c≤maxLen):Sl I s (slc b o n c) n xs :=
 ⟨_,c,rfl,hl,h1,h2,(fun h=>by cases h),fun _=>⟨b,o,rfl,h⟩⟩
def Own (e:TypeId)(s:Nat)(v:Value)(n:Nat)(xs:List Value)(X:List (Nat×Obj)):Prop :=
 (v = .slice none 0 0∧n=0∧xs = []∧X = []) ∨
 ∃ b c sp,v=slc b 0 n c∧X = [(b,row (xs++sp) e)]∧xs.length=n*s∧(xs++sp).length=c*s∧n≤c∧c≤maxLen
theorem Own.nil (e:TypeId)(s:Nat):Own e s (.slice none 0 0) 0 [] [] := .inl ⟨rfl,rfl,rfl,rfl⟩
theorem Own.made {e:TypeId}{s b n:Nat}{xs:List Value}(h:xs.length=n*s)(hn:n≤maxLen):Own e s (slc b 0 n n) n xs [(b,row xs e)] :=
 .inr ⟨b,n,[],rfl,by simp,h,by simpa using h,Nat.le_refl _,hn⟩
theorem Own.sl {e:TypeId}{s:Nat}{v:Value}{n:Nat}{xs:List Value}{X:List (Nat×Obj)}(h:Own e s v n xs X){J:Im}(hJ:∀ p∈X,J p.1=some p.2):Sl J s v n xs:=by
 rcases h with ⟨rfl,rfl,rfl,rfl⟩|⟨b,c,sp,rfl,rfl,h1,h2,h3,h4⟩
 ·exact Sl.nil J s
 ·refine Sl.a3T ?_ h1 h3 h4
  have:=Cells.b6c (hJ (b,row (xs++sp) e) (by simp))
  have h5:=this.sub (ys:=xs) 0 (fun i v hv=>by
   rw [Nat.zero_add,List.getElem?_append_left (List.getElem?_eq_some_iff.1 hv).1];exact hv)
  simpa using h5
theorem Own.shape {e:TypeId}{s:Nat}{v:Value}{n:Nat}{xs:List Value}{X:List (Nat×Obj)}(h:Own e s v n xs X):∃ a c,v = .slice a n c:=by
 rcases h with ⟨rfl,rfl,rfl,rfl⟩|⟨b,c,sp,rfl,rfl,h1,h2,h3,h4⟩
 ·exact⟨_,_,j0⟩
 ·exact⟨_,_,j0⟩
theorem Own.len {e:TypeId}{s:Nat}{v:Value}{n:Nat}{xs:List Value}{X:List (Nat×Obj)}(h:Own e s v n xs X):xs.length=n*s:=by
 rcases h with ⟨rfl,rfl,rfl,rfl⟩|⟨b,c,sp,rfl,rfl,h1,h2,h3,h4⟩
 ·simp
 ·exact h1
def a1O:TypeDesc→Bool
 | .struct _ | .array _ _=>true
 | _=>false
def G6 (P:Program)(T:TypeId)(n:Nat):Prop:=(P.info? T).map (·.size)=some n
theorem G6.of {P:Program}{T:TypeId}{n:Nat}(h:(P.info? T).map (·.size)=some n):G6 P T n:=h
theorem G6.run {P:Program}{T:TypeId}{n:Nat}(h:G6 P T n)(w:World):(sizeOf T).run P w = .ok n w:=by
 unfold G6 at h
 cases hq:P.info? T with
 | none=>simp [hq] at h
 | some i=>simp [hq] at h;simp [sizeOf,typeInfo,hq,h]
def y4 (P:Program)(T:TypeId)(i:Nat):Option (Nat×Nat×Bool) :=
 match P.underlying T with
 | some (.struct fs)=>match fs[i]? with
  | some f=>match P.info? f.type,P.underlying f.type with
   | some inf,some dd=>some (f.offset,inf.size,a1O dd)
   | _,_=>none
  | none=>none
 | _=>none
def O7 (P:Program)(T:TypeId):Option (Nat×Nat×Bool) :=
 match P.underlying T with
 | some (.array n e)=>match P.info? e,P.underlying e with
  | some inf,some dd=>some (n,inf.size,a1O dd)
  | _,_=>none
 | _=>none
theorem a2U {P:Program}{T:TypeId}{dd:TypeDesc}(h:P.underlying T=some dd)(w:World):(isAgg T).run P w = .ok (a1O dd) w:=by
 unfold isAgg
 rw [Sem.run_bind,run_underlying h]
 cases dd<;>rfl
theorem Addr.add_plain (b o j:Nat):(⟨b,o,none⟩:Addr).add j=⟨b,o+j,none⟩:=by unfold Addr.add;split<;>simp_all
section
variable {P:Program}{C:Ctx}{N:Nat}{ρ:Env}{I:Im}{L:Lh}{φ:Value→Prop}{d:Option Nat}{ty:TypeId}{ps:String}{af:Array Edge}{g:Option (Nat×Bool)}
variable {x y z:Operand}{T T2 E:TypeId}
theorem O3.fieldAddr {i off sz b o:Nat}{ag:Bool}(hf:y4 P T i=some (off,sz+1,ag))(hx:ev ρ x=some (ptr b o))(k:φ (ptr b (o+off))):O3 P N ⟨d,.fieldAddr T x i,ty,ps,af,g⟩ ρ I L φ :=
 .mk k fun a w ha _=>by
  unfold y4 at hf
  split at hf
  ·rename_i fs hu
   split at hf
   ·rename_i f hfi
    split at hf
    ·rename_i inf dd h1 h2
     simp only [Option.some.injEq,Prod.mk.injEq] at hf
     obtain⟨rfl,h3,_⟩:=hf
     have hs:G6 P f.type (sz+1):=by simp [G6,h1,h3]
     simp [execOp,ha.ev hx,Instr.fieldAt,run_underlying hu,hfi,Instr.sureAddr,fieldPlace,hs.run,Addr.add_plain]
    ·cases hf
   ·cases hf
  ·cases hf
theorem O3.I7 {n sz b o:Nat}{ag:Bool}{kd:IntKind}{i:Int}(hf:O7 P T=some (n,sz,ag))(hx:ev ρ x=some (ptr b o))(hy:ev ρ y=some (.int kd i))(h0:0≤i)(h1:i < n)
    (k:φ (ptr b (o+i.toNat*sz))):O3 P N ⟨d,.indexAddr T x y,ty,ps,af,g⟩ ρ I L φ :=
  .mk k fun a w ha _=>by
    unfold O7 at hf
    split at hf
    · rename_i m e hu
      split at hf
      · rename_i inf dd h2 h3
        simp only [Option.some.injEq,Prod.mk.injEq] at hf
        obtain⟨rfl,h4,_⟩:=hf
        have hs:G6 P e sz:=by simp [G6,h2,h4]
        simp [execOp,ha.ev hx,ha.ev hy,Instr.indexAt,asIntOf,run_underlying hu,Instr.sureAddr,h0,h1,hs.run,Addr.add_plain]
      · cases hf
    · cases hf
theorem O3.Z6 {n c sz b o:Nat}{kd:IntKind}{i:Int}(hT:P.underlying T=some (.slice E))(hs:G6 P E sz)(hx:ev ρ x=some (slc b o n c))(hy:ev ρ y=some (.int kd i))(h0:0≤i)(h1:i < n)
    (k:φ (ptr b (o+i.toNat*sz))):O3 P N ⟨d,.indexAddr T x y,ty,ps,af,g⟩ ρ I L φ :=
  .mk k fun a w ha _=>by
    simp [execOp,ha.ev hx,ha.ev hy,Instr.indexAt,asIntOf,run_underlying hT,h0,h1,hs.run,Addr.add_plain]
theorem run_load {w:World}{b o:Nat}{v:Value}{dd:TypeDesc}(hT:P.underlying T=some dd)(hd:a1O dd=false)(hc:w.cell? ⟨b,o,none⟩=some v):(Instr.loadAt T (ptr b o)).run P w = .ok v w:=by
 simp [Instr.loadAt,Instr.sureAddr,loadVar,a2U hT,hd,load,Sem.run,hc]
theorem a7O {w:World}{b o:Nat}{vs:List Value}{dd:TypeDesc}(hT:P.underlying T=some dd)(hd:a1O dd=true)(hs:G6 P T vs.length)(hc:∀ j v,vs[j]?=some v→w.cell? ⟨b,o+j,none⟩=some v) :
    (Instr.loadAt T (ptr b o)).run P w = .ok (.agg vs.toArray) w:=by
  have hl:(loadCells ⟨b,o,none⟩ vs.length).run P w = .ok vs.toArray w:=run_loadCells_list (P:=P) w ⟨b,o,none⟩ vs (fun j v hv=>by rw [Addr.add_plain];exact hc j v hv)
  simp [Instr.loadAt,Instr.sureAddr,loadVar,a2U hT,hd,hs.run,hl]
theorem O3.a9P {b o off j:Nat}{xs:List Value}{v:Value}{dd:TypeDesc}(hT:P.underlying T=some dd)(hd:a1O dd=false)(hx:ev ρ x=some (ptr b off))(hc:Cells I b o xs)(ho:off=o+j)(hj:xs[j]?=some v)(k:φ v) :
    O3 P N ⟨d,.load T x,ty,ps,af,g⟩ ρ I L φ := .mk k fun a w ha hm=>by
  subst ho
  simp [execOp,ha.ev hx,run_load hT hd (hc.cell hm hj)]
theorem a0u {w:World}(hm:Mem I L w){i b:Nat}{cs:List Value}{e:TypeId}(hL:L[i]?=some [(b,row cs e)])(o:Nat):w.cell? ⟨b,o,none⟩=cs[o]?:=by
 have:=hm.loc (b,row cs e) (G3 hL (by simp))
 rw [cell_of this]
 simp
theorem O3.a1v (i:Nat){b off:Nat}{cs:List Value}{e:TypeId}{v:Value}{dd:TypeDesc}(hT:P.underlying T=some dd)(hd:a1O dd=false)(hx:ev ρ x=some (ptr b off))(hL:L[i]?=some [(b,row cs e)])(hj:cs[off]?=some v)(k:φ v) :
    O3 P N ⟨d,.load T x,ty,ps,af,g⟩ ρ I L φ := .mk k fun a w ha hm=>by
  simp [execOp,ha.ev hx,run_load hT hd (show w.cell? ⟨b,off,none⟩=some v by rw [a0u hm hL];exact hj)]
theorem O3.b6d (i:Nat){b off:Nat}{cs vs:List Value}{e:TypeId}{dd:TypeDesc}(hT:P.underlying T=some dd)(hd:a1O dd=true)(hs:G6 P T vs.length)(hx:ev ρ x=some (ptr b off))(hL:L[i]?=some [(b,row cs e)])
    (hv:K5 cs off vs.length=vs)(k:φ (.agg vs.toArray)):O3 P N ⟨d,.load T x,ty,ps,af,g⟩ ρ I L φ := .mk k fun a w ha hm=>by
  simp [execOp,ha.ev hx,a7O hT hd hs (fun j v hj=>by
    rw [a0u hm hL]
    rw [←hv,K5,List.getElem?_take] at hj
    split at hj
    · simpa using hj
    · cases hj)]
theorem O3.a7P (i:Nat){b:Nat}{cs:List Value}{e:TypeId}{dd:TypeDesc}(hT:P.underlying T=some dd)(hd:a1O dd=true)(hs:G6 P T cs.length)(hx:ev ρ x=some (ptr b 0))(hL:L[i]?=some [(b,row cs e)])
    (k:φ (.agg cs.toArray)):O3 P N ⟨d,.load T x,ty,ps,af,g⟩ ρ I L φ := .b6d i hT hd hs hx hL (a9N cs) k
theorem a9Q {dd:TypeDesc}{cs:List Value}{off sz:Nat}(hT:P.underlying T=some dd)(hs:G6 P T sz)(w:World) :
    (a1O dd=true→(part T cs.toArray off).run P w = .ok (.agg (K5 cs off sz).toArray) w)∧(∀ v,a1O dd=false→cs[off]?=some v→(part T cs.toArray off).run P w = .ok v w):=by
  refine⟨fun hd => ?_,fun v hd hv => ?_⟩
  · have:cs.toArray.extract off (off+sz)=(K5 cs off sz).toArray:=by simp [K5]
    simp only [part,Sem.run_bind,a2U hT,hd,Result.andThen_ok,if_true,hs.run,this,Sem.run_pure]
  · simp [part,a2U hT,hd,hv]
theorem b9w {cs:List Value}{i off sz:Nat}{ag:Bool}(hf:y4 P T i=some (off,sz,ag))(w:World) :
    (ag=true→(Instr.field T (.agg cs.toArray) i).run P w = .ok (.agg (K5 cs off sz).toArray) w)∧(∀ v,ag=false→cs[off]?=some v→(Instr.field T (.agg cs.toArray) i).run P w = .ok v w):=by
  unfold y4 at hf
  split at hf
  · rename_i fs hu
    split at hf
    · rename_i f hfi
      split at hf
      · rename_i inf dd h1 h2
        simp only [Option.some.injEq,Prod.mk.injEq] at hf
        obtain⟨rfl,h3,rfl⟩:=hf
        have hs:G6 P f.type sz:=by simp [G6,h1,h3]
        have:=a9Q (cs:=cs) (off:=f.offset) h2 hs w
        refine⟨fun hd => ?_,fun v hd hv => ?_⟩
        · simp [Instr.field,run_underlying hu,hfi,asAgg,this.1 hd]
        · simp [Instr.field,run_underlying hu,hfi,asAgg,this.2 v hd hv]
      · cases hf
    · cases hf
  · cases hf
theorem O3.c7b {cs vs:List Value}{i off sz:Nat}(hf:y4 P T i=some (off,sz,true))(hx:ev ρ x=some (.agg cs.toArray))(hv:K5 cs off sz=vs)(k:φ (.agg vs.toArray)):O3 P N ⟨d,.field T x i,ty,ps,af,g⟩ ρ I L φ :=
 .mk k fun a w ha hm=>by simp [execOp,ha.ev hx,(b9w (cs:=cs) hf w).1 rfl,hv]
theorem O3.c1x {cs:List Value}{n sz:Nat}{kd:IntKind}{i:Int}{v:Value}(hf:O7 P T=some (n,sz,false))(hx:ev ρ x=some (.agg cs.toArray))(hy:ev ρ y=some (.int kd i))(h0:0≤i)(h1:i < n)
    (hv:cs[i.toNat*sz]?=some v)(k:φ v):O3 P N ⟨d,.index T x y,ty,ps,af,g⟩ ρ I L φ :=
  .mk k fun a w ha hm=>by
    unfold O7 at hf
    split at hf
    · rename_i m e hu
      split at hf
      · rename_i inf dd h2 h3
        simp only [Option.some.injEq,Prod.mk.injEq] at hf
        obtain⟨rfl,h4,h5⟩:=hf
        have hs:G6 P e sz:=by simp [G6,h2,h4]
        have:=(a9Q (cs:=cs) (off:=i.toNat*sz) h3 hs w).2 v h5 hv
        simp [execOp,ha.ev hx,ha.ev hy,Instr.index,asIntOf,run_underlying hu,h0,h1,hs.run,this]
      · cases hf
    · cases hf
theorem O3.c1y {s:ByteArray}{kd:IntKind}{i:Nat}{c:UInt8}(hT:P.underlying T=some .string)(hx:ev ρ x=some (.string s))(hy:ev ρ y=some (.int kd (i:Int)))(hv:s.data.toList[i]?=some c)(k:φ (u8 c)) :
    O3 P N ⟨d,.index T x y,ty,ps,af,g⟩ ρ I L φ :=
  .mk k fun a w ha hm=>by
    have hi:i < s.data.toList.length:=(List.getElem?_eq_some_iff.1 hv).1
    have hi':i < s.size:=by simpa using hi
    have hg:s[i]?=some c:=by
      rw [getElem?_pos s i hi']
      rw [List.getElem?_eq_getElem hi] at hv
      exact hv
    simp [execOp,ha.ev hx,ha.ev hy,Instr.index,asIntOf,run_underlying hT,hg,u8]
end
end Go.Fl
namespace Go.Fl
open Go.RowKit
section
variable {P:Program}{C:Ctx}{N:Nat}{ρ:Env}{I:Im}{L:Lh}{φ:Value→Prop}{K:Value→Im→Lh→Prop}{d:Option Nat}{ty:TypeId}{ps:String}{af:Array Edge}{g:Option (Nat×Bool)}
variable {x y z:Operand}{T T2 E:TypeId}
theorem a4H {a:Option Addr}{n c sz l h:Nat}{lo hi:Option Value}(hT:P.underlying T=some (.slice E))(hs:G6 P E sz)
    (hlo:(lo=none∧l=0)∨∃ kd,lo=some (.int kd (l:Int)))(hhi:(hi=none∧h=n)∨∃ kd,hi=some (.int kd (h:Int)))(h1:l≤h)(h2:h≤c)(w:World) :
    (Instr.sliceAt T (.slice a n c) lo hi none).run P w = .ok (.slice (if c=l then a else a.map (·.add (l*sz))) (h - l) (c - l)) w:=by
  have e1:(h:Int)≤(c:Int):=by omega
  have e2:(l:Int)≤(h:Int):=by omega
  have hsb:(Instr.sliceBounds true n c lo hi none).run P w = .ok (l,h,c) w:=by
    rcases hlo with ⟨rfl,rfl⟩|⟨kl,rfl⟩<;>rcases hhi with ⟨rfl,rfl⟩|⟨kh,rfl⟩ <;>
      simp [Instr.sliceBounds,Instr.sliceBound,asIntOf,h1,h2]
  simp only [Instr.sliceAt,Instr.slice,Sem.run_bind,run_underlying hT,Result.andThen_ok,hsb,hs.run,Sem.run_pure]
theorem O3.slice {lo hi:Option Operand}{v:Value}{n sz l h:Nat}{xs:List Value}(hT:P.underlying T=some (.slice E))(hs:G6 P E sz)(hx:ev ρ x=some v)(hv:Sl I sz v n xs)
    (hlo:(lo=none∧l=0)∨∃ kd o,lo=some o∧ev ρ o=some (.int kd (l:Int)))(hhi:(hi=none∧h=n)∨∃ kd o,hi=some o∧ev ρ o=some (.int kd (h:Int)))(h1:l≤h)(h2:h≤n)
    (k:∀ v',Sl I sz v' (h - l) ((xs.take (h*sz)).drop (l*sz))→φ v'):O3 P N ⟨d,.slice T x lo hi none,ty,ps,af,g⟩ ρ I L φ:=by
  obtain⟨a,c,rfl,hl,hnc,hcm,hnone,hcells⟩:=hv
  refine .mk (k (.slice (if c=l then a else a.map (·.add (l*sz))) (h - l) (c - l)) ?_) fun ac w ha hm => ?_
  · have hmul:(h - l)*sz=h*sz - l*sz:=Nat.sub_mul _ _ _
    have hle:h*sz≤n*sz:=Nat.mul_le_mul_right _ h2
    refine⟨_,_,rfl,by rw [List.length_drop,List.length_take,hl,hmul];omega,by omega,by unfold maxLen at *;omega,fun hn => ?_,fun hne => ?_⟩
    · split at hn
      · omega
      · have:=hnone (by simpa using hn);omega
    · have hxs:xs ≠ []:=by intro e;subst e;simp at hne
      obtain⟨b,o,rfl,hc⟩:=hcells hxs
      have hcl:c≠l:=by
        intro e
        apply hne
        apply List.eq_nil_of_length_eq_zero
        rw [List.length_drop,List.length_take,hl]
        have:h=l:=by omega
        subst this
        omega
      rw [if_neg hcl]
      refine⟨b,o+l*sz,by simp [Addr.add_plain],hc.sub (l*sz) fun i u hu => ?_⟩
      rw [List.getElem?_drop,List.getElem?_take] at hu
      split at hu
      · exact hu
      · cases hu
  · have hlo':((lo.map ac.eval)=none∧l=0)∨∃ kd,lo.map ac.eval=some (.int kd (l:Int)):=by
      rcases hlo with ⟨rfl,rfl⟩|⟨kd,o,rfl,ho⟩
      · exact .inl ⟨j0,j0⟩
      · exact .inr ⟨kd,by simp [ha.ev ho]⟩
    have hhi':((hi.map ac.eval)=none∧h=n)∨∃ kd,hi.map ac.eval=some (.int kd (h:Int)):=by
      rcases hhi with ⟨rfl,rfl⟩|⟨kd,o,rfl,ho⟩
      · exact .inl ⟨j0,j0⟩
      · exact .inr ⟨kd,by simp [ha.ev ho]⟩
    simp [execOp,ha.ev hx,a4H hT hs hlo' hhi' h1 (Nat.le_trans h2 hnc) w]
theorem O3.a9R {n sz b o:Nat}{ag:Bool}(hf:O7 P T=some (n,sz,ag))(hx:ev ρ x=some (ptr b o))(k:φ (slc b o n n)):O3 P N ⟨d,.slice T x none none none,ty,ps,af,g⟩ ρ I L φ :=
 .mk k fun a w ha hm=>by
  unfold O7 at hf
  split at hf
  ·rename_i m e hu
   split at hf
   ·rename_i inf dd h2 h3
    simp only [Option.some.injEq,Prod.mk.injEq] at hf
    obtain⟨rfl,h4,_⟩:=hf
    have hs:G6 P e sz:=by simp [G6,h2,h4]
    simp [execOp,ha.ev hx,Instr.sliceAt,run_underlying hu,Instr.sureAddr,Instr.sliceBounds,hs.run,Addr.add_plain]
   ·cases hf
  ·cases hf
def Y4 (P:Program)(T:TypeId):Option (List Value):=((P.info? T).bind (·.zero)).map (·.cells.toList)
theorem a2V {zs:List Value}(h:Y4 P T=some zs)(w:World):∃ z,(zeroValue T).run P w = .ok z w∧z.cells=zs.toArray:=by
 unfold Y4 at h
 cases hq:P.info? T with
 | none=>simp [hq] at h
 | some i =>
  cases hz:i.zero with
  | none=>simp [hq,hz] at h
  | some z =>
   refine⟨z,by simp [zeroValue,typeInfo,hq,hz],?_⟩
   simp [hq,hz] at h
   rw [←h]
theorem a9n {o:Oper}{cs:List Value}{e:TypeId}{v:Nat→Value}(h:∀ a w,Fits N ρ a→Mem I L w→(execOp a.eval o).run P w = .ok (.value (v w.heap.size)) (w.alloc (row cs e)))
    (k:∀ b,K (v b) I [[(b,row cs e)]]):OpX P N o ρ I L K:=fun a w ha hm=>by
  rw [h a w ha hm]
  have hnew:(w.alloc (row cs e)).heap[w.heap.size]?=some (row cs e):=heap_alloc_new w _
  have hold:∀ b,b < w.heap.size→(w.alloc (row cs e)).heap[b]?=w.heap[b]?:=fun b hb=>heap_alloc_old w _ hb
  refine⟨I,[[(w.heap.size,row cs e)]],⟨rfl,rfl,rfl,by simp,fun k hk _=>hold k hk⟩,Le.refl _,fun b h0 h1=>absurd h0 h1,⟨fun b o hb => ?_,fun p hp => ?_,fun p hp => ?_,?_⟩,?_,k _⟩
  · exact(hold b (D7 (hm.im b o hb))).trans (hm.im b o hb)
  · simp only [List.cons_append,List.nil_append,List.flatten_cons,List.mem_cons] at hp
    rcases hp with rfl|hp
    · exact hnew
    · exact(hold _ (D7 (hm.loc p hp))).trans (hm.loc p hp)
  · simp only [List.cons_append,List.nil_append,List.flatten_cons,List.mem_cons] at hp
    rcases hp with rfl|hp
    · cases hi:I w.heap.size with
      | none=>rfl
      | some o=>have:=D7 (hm.im _ o hi);omega
    · exact hm.sep p hp
  · simp only [List.cons_append,List.nil_append,List.flatten_cons,List.map_cons,List.nodup_cons,List.mem_map,not_exists,not_and]
    refine⟨fun p hp e => ?_,hm.nodup⟩
    have:=D7 (hm.loc p hp)
    omega
  · intro p hp;simp at hp;subst hp;exact Nat.le_refl _
theorem OpX.alloc {zs:List Value}(hz:Y4 P T=some zs)(k:∀ b,K (ptr b 0) I [[(b,row zs T)]]):OpX P N ⟨d,.alloc T,ty,ps,af,g⟩ ρ I L K :=
 a9n (v:=fun b=>ptr b 0) (fun a w ha hm=>by
  obtain⟨z,h1,h2⟩:=a2V hz w
  simp only [execOp,Instr.alloc,Sem.run_bind,h1,Result.andThen_ok,newVar,newRow,h2,newObj,Sem.run,Sem.run_pure]
  rfl) k
theorem OpX.box {v:Value}{cs:List Value}(hx:ev ρ x=some v)(hv:v.cells.toList=cs)(k:∀ b,K (ptr b 0) I [[(b,row cs T)]]):OpX P N ⟨d,.box T x,ty,ps,af,g⟩ ρ I L K :=
 a9n (v:=fun b=>ptr b 0) (fun a w ha hm=>by
  have:v.cells=cs.toArray:=by rw [←hv]
  simp only [execOp,Instr.box,Sem.run_bind,ha.ev hx,Result.andThen_ok,newVar,newRow,this,newObj,Sem.run,Sem.run_pure]
  rfl) k
def evP (ρ:Env):List (Nat×Operand)→Option (List (Nat×Value))
 | []=>some []
 | p::r=>match ev ρ p.2,evP ρ r with
  | some v,some l=>some ((p.1,v)::l)
  | _,_=>none
theorem Fits.evP {a:Act}(h:Fits N ρ a):∀ {l:List (Nat×Operand)} {vs:List (Nat×Value)},evP ρ l=some vs→l.map (fun p=>(p.1,a.eval p.2))=vs
 | [],vs,hl=>by simp [Fl.evP] at hl;subst hl;rfl
 | p::r,vs,hl=>by
  simp only [Fl.evP] at hl
  cases hx:Fl.ev ρ p.2 with
  | none=>simp [hx] at hl
  | some v =>
   cases hr:Fl.evP ρ r with
   | none=>simp [hx,hr] at hl
   | some l =>
    simp [hx,hr] at hl
    subst hl
    simp [h.ev hx,h.evP hr]
def Z7 (sz:Nat):Nat→List (Nat×Value)→Option (List Value)
 | _,[]=>some []
 | i,p::r=>bif Nat.beq p.1 i&&Nat.beq p.2.cells.size sz then (Z7 sz (i+1) r).map (p.2.cells.toList ++ ·) else none
theorem a0v {cs:List Value}{o:Nat}{vs:List Value}(h:o≤cs.length)(i:Nat):(G1 cs o vs)[i]?=if i < o then cs[i]? else if i < o+vs.length then vs[i - o]? else cs[i]?:=by
 have h1:(cs.take o).length=o:=by simp;omega
 simp only [G1,List.append_assoc]
 by_cases hi:i < o
 ·rw [if_pos hi,List.getElem?_append_left (by omega),List.getElem?_take,if_pos hi]
 ·rw [if_neg hi,List.getElem?_append_right (by omega),h1]
  by_cases h2:i < o+vs.length
  ·rw [if_pos h2,List.getElem?_append_left (by omega)]
  ·rw [if_neg h2,List.getElem?_append_right (by omega),List.getElem?_drop]
   congr 1
   omega
theorem a9T {cells vs:Array Value}{off:Nat}(h:off+vs.size≤cells.size):(vs.zipIdx.foldl (fun cs (c,j)=>cs.setIfInBounds (off+j) c) cells).toList=G1 cells.toList off vs.toList:=by
  have key : ∀ (l : List Value) (k : Nat) (cs : Array Value), off + k + l.length ≤ cs.size →
      ((l.zipIdx k).foldl (fun cs (p:Value×Nat)=>cs.setIfInBounds (off+p.2) p.1) cs).toList=G1 cs.toList (off+k) l:=by
    intro l
    induction l with
    | nil=>intro k cs _;simp [G1]
    | cons v r ih =>
      intro k cs hl
      simp only [List.zipIdx_cons,List.foldl_cons]
      simp only [List.length_cons] at hl
      rw [ih (k+1) _ (by simp;omega)]
      apply List.ext_getElem?
      intro i
      rw [a0v (by simp;omega),a0v (by simp;omega)]
      simp only [Array.toList_setIfInBounds,List.getElem?_set,List.length_cons,Array.length_toList]
      by_cases h1:i < off+k
      · rw [if_pos (by omega),if_pos h1,if_neg (by omega)]
      · rw [if_neg h1]
        by_cases h2:i=off+k
        · subst h2
          rw [if_pos (by omega),if_pos rfl,if_pos (by omega),if_pos (by omega)]
          simp
        · rw [if_neg (by omega)]
          by_cases h3:i < off+(k+1)+r.length
          · rw [if_pos h3,if_pos (by omega),show i - (off+k)=(i - (off+(k+1)))+1 by omega]
            simp
          · rw [if_neg h3,if_neg (by omega),if_neg (by omega)]
  have:=key vs.toList 0 cells (by simpa using h)
  rw [←Array.foldl_toList]
  simpa using this
theorem a7Q {sz:Nat}:∀ (pv:List (Nat×Value)) (i:Nat) (cells:Array Value) (vs:List Value),Z7 sz i pv=some vs→i*sz+vs.length≤cells.size →
    ∃ out,Instr.fill (fun i=>some (i*sz,sz)) cells pv=some out∧out.toList=G1 cells.toList (i*sz) vs
  | [],i,cells,vs,h,hl=>by simp [Z7] at h;subst h;exact⟨cells,rfl,by simp [G1]⟩
  | p::r,i,cells,vs,h,hl=>by
    unfold Z7 at h
    cases hb:(Nat.beq p.1 i&&Nat.beq p.2.cells.size sz) with
    | false=>simp [hb] at h
    | true =>
      simp only [hb,cond_true] at h
      simp only [Bool.and_eq_true] at hb
      have hp1:p.1=i:=Nat.eq_of_beq_eq_true hb.1
      have hp2:p.2.cells.size=sz:=Nat.eq_of_beq_eq_true hb.2
      cases hr:Z7 sz (i+1) r with
      | none=>simp [hr] at h
      | some us =>
        simp [hr] at h
        subst h
        have hlen:(p.2.cells.toList++us).length=sz+us.length:=by simp [hp2]
        rw [hlen] at hl
        have hseg:=a9T (cells:=cells) (vs:=p.2.cells) (off:=i*sz) (by omega)
        obtain⟨pi,pv⟩:=p
        simp only at hp1 hp2 hseg
        subst hp1
        obtain⟨out,h1,h2⟩:=a7Q r (pi+1) (pv.cells.zipIdx.foldl (fun cs (c,j)=>cs.setIfInBounds (pi*sz+j) c) cells) us hr (by
          have:(pv.cells.zipIdx.foldl (fun cs (c,j)=>cs.setIfInBounds (pi*sz+j) c) cells).size=cells.size:=by
            rw [←Array.length_toList,hseg,K7 _ _ _ (by simp;omega)];simp
          rw [this,Nat.succ_mul]
          omega)
        refine⟨out,?_,?_⟩
        · simp only [Instr.fill]
          rw [if_neg (by simp [hp2];omega)]
          exact h1
        · rw [h2,hseg]
          have hz:pv.cells.toList.length=sz:=by simpa using hp2
          have hsl:=K7 cells.toList (pi*sz) pv.cells.toList (by simp [hp2];omega)
          simp only [Array.length_toList] at hsl
          apply List.ext_getElem?
          intro i
          simp only [Nat.succ_mul] at *
          rw [a0v (by rw [hsl];omega),a0v (by simp;omega),a0v (by simp;omega),hlen,hz]
          by_cases h3:i < pi*sz
          · rw [if_pos (by omega),if_pos h3,if_pos h3]
          · rw [if_neg h3,if_neg h3]
            by_cases h4:i < pi*sz+sz
            · rw [if_pos h4,if_pos h4,if_pos (by omega),List.getElem?_append_left (by omega)]
            · rw [if_neg h4]
              by_cases h5:i < pi*sz+sz+us.length
              · rw [if_pos h5,if_pos (by omega),List.getElem?_append_right (by omega),hz]
                congr 1
                omega
              · rw [if_neg h5,if_neg h4,if_neg (by omega)]
theorem OpX.buildSlice {n sz:Nat}{zs vs:List Value}{parts:Array (Nat×Operand)}{pv:List (Nat×Value)}(hT:P.underlying T=some (.slice E))(hs:G6 P E sz)(hz:Y4 P E=some zs)(hzl:zs.length=sz)
    (hp:evP ρ parts.toList=some pv)(hside:Z7 sz 0 pv=some vs)(hlen:vs.length=n*sz)(hn:n*sz≤16777216)(k:∀ b,K (slc b 0 n n) I [[(b,row vs E)]]) :
    OpX P N ⟨d,.buildSlice T n parts,ty,ps,af,g⟩ ρ I L K :=
  a9n (v:=fun b=>slc b 0 n n) (fun a w ha hm=>by
    obtain⟨zv,h1,h2⟩:=a2V hz w
    have hparts:(parts.map fun (i,x)=>(i,a.eval x)).toList=pv:=by rw [Array.toList_map];exact ha.evP hp
    have hn':¬(16777216 < n*sz):=by omega
    obtain⟨zero,hzero,hzsz⟩:∃ zero:Array Value,(if n*sz=0 then (pure #[]:Sem (Array Value)) else do pure (←zeroValue E).cells).run P w = .ok zero w∧(n*sz≠0→zero.size=sz):=by
      by_cases h0:n*sz=0
      · exact⟨#[],by simp [h0],fun h=>absurd h0 h⟩
      · exact⟨zv.cells,by simp [h0,h1],fun _=>by rw [h2];simpa using hzl⟩
    obtain⟨out,ho1,ho2⟩:=a7Q (sz:=sz) pv 0 ((Array.range (n*sz)).map (zero[· % zero.size]!)) vs hside (by simp [hlen])
    have ho3:out=vs.toArray:=by
      apply Array.ext'
      rw [ho2]
      simp [G1,hlen]
    simp only [execOp,Instr.buildSlice,Sem.run_bind,run_underlying hT,Result.andThen_ok,hs.run]
    rw [if_neg hn']
    have hparts2:(parts.map fun x=>(x.1,a.eval x.2)).toList=pv:=hparts
    by_cases h0:n*sz=0
    · rw [if_pos h0] at hzero
      have hz0 : #[]=zero:=by simp only [Sem.run_pure,Result.ok.injEq] at hzero;exact hzero.1
      subst hz0
      rw [if_pos h0]
      simp only [Sem.run_bind,Sem.run_pure,Result.andThen_ok,hparts2,ho1,newRow,newObj,Sem.run,ho3]
      rfl
    · have hz0:zv.cells=zero:=by
        rw [if_neg h0] at hzero
        simp only [Sem.run_bind,h1,Result.andThen_ok,Sem.run_pure,Result.ok.injEq] at hzero
        exact hzero.1
      subst hz0
      rw [if_neg h0]
      simp only [Sem.run_bind,Sem.run_pure,h1,Result.andThen_ok,hparts2,ho1,newRow,newObj,Sem.run,ho3]
      rfl) k
end
end Go.Fl
namespace Go.Fl
open Go.RowKit
theorem St.write {C:Ctx}{I:Im}{L:Lh}{w w':World}(hs:St C I L w){i b:Nat}{o o':Obj}(hL:L[i]?=some [(b,o)])
    (hb:w'.heap[b]?=some o')(hk:∀ k,k≠b→w'.heap[k]?=w.heap[k]?)(hsz:w'.heap.size=w.heap.size)(h1:w'.os=w.os)(h2:w'.tape=w.tape)(h3:w'.output=w.output) :
    St C I (L.set i [(b,o')]) w':=by
  have hm:=hs.mem
  have hsplit:=a1t L i _ hL [(b,o')]
  have hbm:(b,o)∈L.flatten:=G3 hL (by simp)
  have hnd:=hm.nodup
  rw [hsplit.1] at hnd
  have hoth:∀ p,p∈(L.take i).flatten∨p∈(L.drop (i+1)).flatten→p∈L.flatten∧p.1≠b:=by
    intro p hp
    rw [hsplit.1]
    simp only [List.map_append,List.nodup_append] at hnd
    rcases hp with hp|hp
    · exact⟨by simp [hp],fun hx=>hnd.2.2 p.1 (List.mem_map_of_mem hp) b (by simp) hx⟩
    · exact⟨by simp [hp],fun hx=>hnd.2.1.2.2 b (by simp) p.1 (List.mem_map_of_mem hp) hx.symm⟩
  have hcas:∀ p∈(L.set i [(b,o')]).flatten,p=(b,o')∨(p∈(L.take i).flatten∨p∈(L.drop (i+1)).flatten):=by
    intro p hp
    rw [hsplit.2] at hp
    simp only [List.mem_append,List.mem_singleton] at hp
    rcases hp with hp|hp|hp
    · exact .inr (.inl hp)
    · exact .inl hp
    · exact .inr (.inr hp)
  refine⟨⟨fun k ob hI => ?_,fun p hp => ?_,fun p hp => ?_,?_⟩,⟨h1.trans hs.W4.os,h2.trans hs.W4.tape,h3.trans hs.W4.output,by rw [hsz];exact hs.W4.size,fun k hk0 hkM => ?_⟩,fun p hp => ?_,hs.U9,hs.new⟩
  · have:k≠b:=by
      rintro rfl
      have:=hm.sep _ hbm
      rw [this] at hI
      cases hI
    rw [hk k this]
    exact hm.im k ob hI
  · rcases hcas p hp with rfl|h
    · exact hb
    · obtain⟨h4,h5⟩:=hoth p h
      rw [hk _ h5]
      exact hm.loc p h4
  · rcases hcas p hp with rfl|h
    · exact hm.sep (b,o) hbm
    · exact hm.sep p (hoth p h).1
  · rw [hsplit.2]
    simpa using hnd
  · have:k≠b:=by
      rintro rfl
      rcases hs.own _ hbm with h|h
      · simp at h;omega
      · exact hkM h
    rw [hk k this]
    exact hs.W4.block k hk0 hkM
  · rcases hcas p hp with rfl|h
    · exact hs.own (b,o) hbm
    · exact hs.own p (hoth p h).1
theorem St.setRow {C:Ctx}{I:Im}{L:Lh}{w:World}(hs:St C I L w){i b:Nat}{cs:List Value}{e:TypeId}(hL:L[i]?=some [(b,row cs e)])(cs':List Value):St C I (L.set i [(b,row cs' e)]) (w.setRow b cs'.toArray):=by
 have hb:=hs.mem.loc (b,row cs e) (G3 hL (by simp))
 exact hs.write hL (setRow_heap w b _ _ e (0,0) hb) (fun k hk=>setRow_other w b k _ hk) (by simp) rfl rfl rfl
section
variable {P:Program}{C:Ctx}{N:Nat}{ρ:Env}{I:Im}{L:Lh}{φ:Value→Prop}{K:Value→Im→Lh→Prop}{d:Option Nat}{ty:TypeId}{ps:String}{af:Array Edge}{g:Option (Nat×Bool)}
variable {x y z:Operand}{T T2 E:TypeId}
def a0W (vs:List Value):Bool:=vs.all (·.oneCell')
theorem OpS.store (i:Nat){b off:Nat}{v:Value}{cs vs:List Value}{e:TypeId}(hs:G6 P T vs.length)(hx:ev ρ x=some (ptr b off))(hy:ev ρ y=some v)(hv:v.cells.toList=vs)(h1:a0W vs=true)
    (hL:L[i]?=some [(b,row cs e)])(hle:off+vs.length≤cs.length)(k:K undef I (L.set i [(b,row (G1 cs off vs) e)])) :
    OpS P C N ⟨d,.store T x y,ty,ps,af,g⟩ ρ I L K:=fun a w ha hst=>by
  have hb:=hst.mem.loc (b,row cs e) (G3 hL (by simp))
  have hvs:v.cells.size=vs.length:=by rw [←hv];simp
  have hall:∀ u∈vs,u.oneCell'=true:=fun u hu=>List.all_eq_true.1 h1 u hu
  have hrun:=run_storeCells_at P b off e vs 0 cs.toArray w hb (by simpa using hle) hall
  have hr:(execOp a.eval ⟨d,.store T x y,ty,ps,af,g⟩).run P w = .ok .skip (w.setRow b (G1 cs off vs).toArray):=by
    simp only [Nat.add_zero] at hrun
    simp [execOp,ha.ev hx,ha.ev hy,Instr.storeAt,Instr.sureAddr,storeVar,hs.run,hvs,hv,hrun,G1]
  rw [hr]
  exact⟨I,_,hst.setRow hL _,k⟩
theorem OpS.a6p (i:Nat){b off:Nat}{v:Value}{cs:List Value}{e:TypeId}(hs:G6 P T 1)(hx:ev ρ x=some (ptr b off))(hy:ev ρ y=some v)(hv:v.cells.toList = [v])(h1:v.oneCell'=true)
    (hL:L[i]?=some [(b,row cs e)])(hle:off < cs.length)(k:K undef I (L.set i [(b,row (G1 cs off [v]) e)])):OpS P C N ⟨d,.store T x y,ty,ps,af,g⟩ ρ I L K :=
  .store i (vs := [v]) hs hx hy hv (by simp [a0W,h1]) hL (by simp only [List.length_singleton];omega) k
theorem OpS.c1z (i m:Nat){b off:Nat}{cs vs:List Value}{e:TypeId}(hs:G6 P T m)(hx:ev ρ x=some (ptr b off))(hy:ev ρ y=some (.agg vs.toArray))(hm:vs.length=m)(h1:a0W vs=true)
    (hL:L[i]?=some [(b,row cs e)])(hle:off+m≤cs.length)(k:K undef I (L.set i [(b,row (G1 cs off vs) e)])):OpS P C N ⟨d,.store T x y,ty,ps,af,g⟩ ρ I L K :=
  .store i (vs:=vs) (by rw [hm];exact hs) hx hy rfl h1 hL (by rw [hm];exact hle) k
theorem OpS.a4f (i m:Nat){b:Nat}{cs vs:List Value}{e:TypeId}(hs:G6 P T m)(hx:ev ρ x=some (ptr b 0))(hy:ev ρ y=some (.agg vs.toArray))(hm:vs.length=m)(h1:a0W vs=true)
    (hL:L[i]?=some [(b,row cs e)])(hle:cs.length=m)(k:K undef I (L.set i [(b,row vs e)])):OpS P C N ⟨d,.store T x y,ty,ps,af,g⟩ ρ I L K :=
  .c1z i m hs hx hy hm h1 hL (by omega) (by rw [a9O _ _ (by omega)];exact k)
theorem a3U {α:Type}(f:α→Value)(l:List α)(h:∀ x,(f x).oneCell'=true):a0W (l.map f)=true:=by
 simp [a0W,h]
structure Src (P:Program)(I:Im)(L:Lh)(s:Nat)(v:Value)(m:Nat)(news:List Value):Prop where
 len:∀ w,(Builtin.lenOf v).run P w = .ok m w
 cells:∀ w,Mem I L w→∀ k,k≤m→(Builtin.firstCells s k v).run P w = .ok (news.take (k*s)).toArray w
 size:news.length=m*s
theorem Src.sl {s m:Nat}{v:Value}{news:List Value}(h:Sl I s v m news):Src P I L s v m news:=by
 obtain⟨a,c,rfl,hl,hnc,hcm,hnone,hcells⟩:=h
 refine⟨fun w=>by simp [Builtin.lenOf],fun w hm k hk => ?_,hl⟩
 have hle:k*s≤m*s:=Nat.mul_le_mul_right _ hk
 have htl:(news.take (k*s)).length=k*s:=by rw [List.length_take,hl];exact Nat.min_eq_left hle
 by_cases hn:news = []
 ·subst hn
  cases a with
  | none=>simp [Builtin.firstCells]
  | some ad =>
   have h0:k*s=0:=by simp at htl;omega
   simp [Builtin.firstCells,loadCells,h0,loadCellsFrom]
 ·obtain⟨b,o,rfl,hc⟩:=hcells hn
  have:=run_loadCells_list (P:=P) w ⟨b,o,none⟩ (news.take (k*s)) (fun j u hj=>by
   rw [List.getElem?_take] at hj
   split at hj
   ·rw [Addr.add_plain];exact hc.cell hm hj
   ·cases hj)
  rw [htl] at this
  simp only [Builtin.firstCells,this]
theorem Src.chunk {s b n c:Nat}{cs:List Value}{e:TypeId}(i:Nat)(hL:L[i]?=some [(b,row cs e)])(h:cs.length=n*s):Src P I L s (slc b 0 n c) n cs:=by
 refine⟨fun w=>by simp [Builtin.lenOf],fun w hm k hk => ?_,h⟩
 have hle:k*s≤n*s:=Nat.mul_le_mul_right _ hk
 have htl:(cs.take (k*s)).length=k*s:=by rw [List.length_take,h];exact Nat.min_eq_left hle
 have:=run_loadCells_list (P:=P) w ⟨b,0,none⟩ (cs.take (k*s)) (fun j u hj=>by
  rw [List.getElem?_take] at hj
  split at hj
  ·rw [Addr.add_plain,a0u hm hL];simpa using hj
  ·cases hj)
 rw [htl] at this
 simp only [Builtin.firstCells,this]
theorem Src.own {s m:Nat}{v:Value}{news:List Value}{X:List (Nat×Obj)}{e:TypeId}(i:Nat)(hL:L[i]?=some X)(h:Own e s v m news X):Src P I L s v m news:=by
 rcases h with ⟨rfl,rfl,rfl,rfl⟩|⟨b,c,sp,rfl,rfl,h1,h2,h3,h4⟩
 ·exact Src.sl (Sl.nil I s)
 ·refine⟨fun w=>by simp [Builtin.lenOf],fun w hm k hk => ?_,h1⟩
  have hle:k*s≤m*s:=Nat.mul_le_mul_right _ hk
  have htl:(news.take (k*s)).length=k*s:=by rw [List.length_take,h1];exact Nat.min_eq_left hle
  have:=run_loadCells_list (P:=P) w ⟨b,0,none⟩ (news.take (k*s)) (fun j u hj=>by
   rw [List.getElem?_take] at hj
   split at hj
   ·rw [Addr.add_plain,a0u hm hL,Nat.zero_add,List.getElem?_append_left (List.getElem?_eq_some_iff.1 hj).1];exact hj
   ·cases hj)
  rw [htl] at this
  simp only [Builtin.firstCells,this]
def C5 (l:List UInt8):List Value:=l.map u8
theorem Src.str (s:ByteArray):Src P I L 1 (.string s) s.size (C5 s.data.toList):=by
 refine⟨fun w=>by simp [Builtin.lenOf],fun w hm k hk => ?_,by simp [C5]⟩
 simp only [Builtin.firstCells,Sem.run_pure,Nat.mul_one]
 congr 1
 apply Array.ext'
 simp [C5,ByteArray.data_extract,u8,List.map_take]
 rfl
theorem a2e {n m:Nat}{inf:TypeInfo}{zv:Value}{a:Option Addr}{c:Nat}{v:Value}{news:List Value}{U E2:TypeId}{w:World}
    (hT:P.underlying T=some (.slice E))(hi:P.info? E=some inf)(hz:inf.zero=some zv)(hU:P.underlying U=some (.slice E2))
    (hlen:∀ w,(Builtin.lenOf v).run P w = .ok m w)(hcells:∀ w',w'.heap=w.heap→(Builtin.firstCells inf.size m v).run P w' = .ok news.toArray w')
    (hn63:n+m≤9223372036854775807)(hb:(n+m)*inf.bytes≤140737488355328) :
    (n+m≤c→(Builtin.append_ #[T,U] ty #[.slice a n c,v]).run P w=((match a with|some ad=>storeCells (ad.add (n*inf.size)) news|none=>pure ()).run P w).andThen fun _ w' => .ok (.slice a (n+m) c) w') ∧
    (c < n+m→∀ olds,((Builtin.firstCells inf.size n (.slice a n c)).run P w.drew = .ok olds w.drew) →
      (Builtin.append_ #[T,U] ty #[.slice a n c,v]).run P w = .ok (.slice (some ⟨w.heap.size,0,none⟩) (n+m) (grownCap w (n+m) c E))
        (w.drew.alloc (.cells (olds++news.toArray++Builtin.zeroCells zv.cells (grownCap w (n+m) c E - (n+m))) E))):=by
  refine⟨fun hle => ?_,fun hlt olds hold => ?_⟩
  · have hc:=hcells w rfl
    cases a<;>simp [Builtin.append_,run_underlying hT,run_underlying hU,sizeOf,typeInfo,hi,hlen,hle,hc]
  · have hc:=hcells w.drew rfl
    have h63':¬(9223372036854775807 < ((n:Int)+(m:Int))):=by omega
    have hfit:¬(281474976710656 < Builtin.nextslicecap (n+m) c*inf.bytes):=by have:=growslice_fits hlt hb;omega
    have hnle:¬(n+m≤c):=by omega
    simp [Builtin.append_,run_underlying hT,run_underlying hU,sizeOf,typeInfo,zeroValue,hi,hz,hlen,hnle,h63',hfit,Question.forced,newRow,grownCap,hold,hc]
theorem a1w {n m:Nat}{inf:TypeInfo}{zv:Value}{a:Option Addr}{c:Nat}{v:Value}{news:List Value}{U:TypeId}{w:World}
    (hT:P.underlying T=some (.slice E))(hi:P.info? E=some inf)(hz:inf.zero=some zv)(hU:P.underlying U=some .string)
    (hlen:∀ w,(Builtin.lenOf v).run P w = .ok m w)(hcells:∀ w',w'.heap=w.heap→(Builtin.firstCells inf.size m v).run P w' = .ok news.toArray w')
    (hn63:n+m≤9223372036854775807)(hb:(n+m)*inf.bytes≤140737488355328) :
    (n+m≤c→(Builtin.append_ #[T,U] ty #[.slice a n c,v]).run P w=((match a with|some ad=>storeCells (ad.add (n*inf.size)) news|none=>pure ()).run P w).andThen fun _ w' => .ok (.slice a (n+m) c) w') ∧
    (c < n+m→∀ olds,((Builtin.firstCells inf.size n (.slice a n c)).run P w.drew = .ok olds w.drew) →
      (Builtin.append_ #[T,U] ty #[.slice a n c,v]).run P w = .ok (.slice (some ⟨w.heap.size,0,none⟩) (n+m) (grownCap w (n+m) c E))
        (w.drew.alloc (.cells (olds++news.toArray++Builtin.zeroCells zv.cells (grownCap w (n+m) c E - (n+m))) E))):=by
  refine⟨fun hle => ?_,fun hlt olds hold => ?_⟩
  · have hc:=hcells w rfl
    cases a<;>simp [Builtin.append_,run_underlying hT,run_underlying hU,sizeOf,typeInfo,hi,hlen,hle,hc]
  · have hc:=hcells w.drew rfl
    have h63':¬(9223372036854775807 < ((n:Int)+(m:Int))):=by omega
    have hfit:¬(281474976710656 < Builtin.nextslicecap (n+m) c*inf.bytes):=by have:=growslice_fits hlt hb;omega
    have hnle:¬(n+m≤c):=by omega
    simp [Builtin.append_,run_underlying hT,run_underlying hU,sizeOf,typeInfo,zeroValue,hi,hz,hlen,hnle,h63',hfit,Question.forced,newRow,grownCap,hold,hc]
structure Elt (P:Program)(T E:TypeId)(s by_:Nat):Prop where
 und:P.underlying T=some (.slice E)
 info:∃ inf zv,P.info? E=some inf∧inf.zero=some zv∧inf.size=s∧inf.bytes=by_∧zv.cells.size=s
def c81 (P:Program)(T:TypeId):Option (TypeId×Nat×Nat×Nat) :=
 match P.underlying T with
 | some (.slice E)=>match P.info? E with
  | some inf=>match inf.zero with
   | some zv=>some (E,inf.size,inf.bytes,zv.cells.size)
   | none=>none
  | none=>none
 | _=>none
theorem Elt.of {E:TypeId}{s by_:Nat}(h:c81 P T=some (E,s,by_,s)):Elt P T E s by_:=by
 unfold c81 at h
 split at h
 ·rename_i e hu
  split at h
  ·rename_i inf hi
   split at h
   ·rename_i zv hz
    simp only [Option.some.injEq,Prod.mk.injEq] at h
    obtain⟨rfl,h1,h2,h3⟩:=h
    exact⟨hu,inf,zv,hi,hz,h1,h2,h3⟩
   ·cases h
  ·cases h
 ·cases h
theorem Elt.size {E:TypeId}{s by_:Nat}(h:Elt P T E s by_):G6 P E s:=by
 obtain⟨inf,zv,hi,hz,h1,_,_⟩:=h.info
 simp [G6,hi,h1]
theorem St.b6e {C:Ctx}{I:Im}{L:Lh}{w:World}(hs:St C I L w)(i:Nat):St C I (L.set i []) w:=by
 have hsub:=a2j L i
 exact⟨⟨hs.mem.im,fun p hp=>hs.mem.loc p (hsub.subset hp),fun p hp=>hs.mem.sep p (hsub.subset hp),(hsub.map Prod.fst).nodup hs.mem.nodup⟩,hs.W4,fun p hp=>hs.own p (hsub.subset hp),hs.U9,hs.new⟩
theorem St.replace {C:Ctx}{I:Im}{L:Lh}{w w':World}(hs:St C I L w){i:Nat}{X:List (Nat×Obj)}(hL:L[i]?=some X){o:Obj}(hw:w'.heap=w.heap.push o)(h1:w'.os=w.os)(h2:w'.tape=w.tape)(h3:w'.output=w.output) :
    St C I (L.set i [(w.heap.size,o)]) w':=by
  have hnew:w'.heap[w.heap.size]?=some o:=by rw [hw];simp
  have hold:∀ b,b < w.heap.size→w'.heap[b]?=w.heap[b]?:=fun b hb=>by rw [hw,Array.getElem?_push,if_neg (by omega)]
  have hm:=hs.mem
  have hsplit:=a1t L i X hL [(w.heap.size,o)]
  have hnd:=hm.nodup
  rw [hsplit.1] at hnd
  have hoth:∀ p,p∈(L.take i).flatten∨p∈(L.drop (i+1)).flatten→p∈L.flatten:=by
    intro p hp
    rw [hsplit.1]
    rcases hp with hp|hp<;>simp [hp]
  have hcas:∀ p∈(L.set i [(w.heap.size,o)]).flatten,p=(w.heap.size,o)∨(p∈(L.take i).flatten∨p∈(L.drop (i+1)).flatten):=by
    intro p hp
    rw [hsplit.2] at hp
    simp only [List.mem_append,List.mem_singleton] at hp
    rcases hp with hp|hp|hp
    · exact .inr (.inl hp)
    · exact .inl hp
    · exact .inr (.inr hp)
  have hlt:∀ p∈L.flatten,p.1 < w.heap.size:=fun p hp=>D7 (hm.loc p hp)
  refine⟨⟨fun k ob hI => ?_,fun p hp => ?_,fun p hp => ?_,?_⟩,⟨h1.trans hs.W4.os,h2.trans hs.W4.tape,h3.trans hs.W4.output,by rw [hw];have:=hs.W4.size;simp;omega,fun k hk0 hkM => ?_⟩,fun p hp => ?_,hs.U9,hs.new⟩
  · rw [hold k (D7 (hm.im k ob hI))];exact hm.im k ob hI
  · rcases hcas p hp with rfl|h
    · exact hnew
    · have:=hoth p h;rw [hold _ (hlt p this)];exact hm.loc p this
  · rcases hcas p hp with rfl|h
    · cases hi:I w.heap.size with
      | none=>rfl
      | some ob=>have:=D7 (hm.im _ ob hi);omega
    · exact hm.sep p (hoth p h)
  · rw [hsplit.2]
    simp only [List.map_append,List.map_cons,List.map_nil,List.nodup_append] at hnd ⊢
    refine⟨hnd.1,⟨by simp,hnd.2.1.2.1,?_⟩,?_⟩
    · intro x hx y hy e
      obtain⟨q,hq,rfl⟩:=List.mem_map.1 hy
      simp at hx
      have:=hlt q (hoth q (.inr hq))
      omega
    · intro x hx y hy e
      obtain⟨q,hq,rfl⟩:=List.mem_map.1 hx
      have h5:=hlt q (hoth q (.inl hq))
      simp only [List.mem_append,List.mem_singleton] at hy
      rcases hy with rfl|hy
      · omega
      · exact hnd.2.2 _ (List.mem_map_of_mem hq) y (by simp only [List.mem_append];exact .inr hy) e
  · have:k < w.heap.size:=Nat.lt_of_lt_of_le hk0 hs.W4.size
    rw [hold k this]
    exact hs.W4.block k hk0 hkM
  · rcases hcas p hp with rfl|h
    · exact .inl hs.W4.size
    · exact hs.own p (hoth p h)
theorem OpS.a8v (i:Nat){n m:Nat}{a0:Option Addr}{c:Nat}{u:Value}{xs news:List Value}{X:List (Nat×Obj)}{U:TypeId}{inf:TypeInfo}{zv:Value}(hzs:zv.cells.size=inf.size){a:Act}{w:World}
    (hxe:ev ρ x=some (.slice a0 n c))(hye:ev ρ y=some u)(ha:Fits N ρ a)(hst:St C I L w)(hL:L[i]?=some X)(hown:Own E inf.size (.slice a0 n c) n xs X)(hnl:news.length=m*inf.size)(h1:a0W news=true)
    (hn63:n+m≤maxLen)
    (hboth:(n+m≤c→(Builtin.append_ #[T,U] ty #[.slice a0 n c,u]).run P w=((match a0 with|some ad=>storeCells (ad.add (n*inf.size)) news|none=>pure ()).run P w).andThen fun _ w' => .ok (.slice a0 (n+m) c) w') ∧
    (c < n+m→∀ olds,((Builtin.firstCells inf.size n (.slice a0 n c)).run P w.drew = .ok olds w.drew) →
      (Builtin.append_ #[T,U] ty #[.slice a0 n c,u]).run P w = .ok (.slice (some ⟨w.heap.size,0,none⟩) (n+m) (grownCap w (n+m) c E))
        (w.drew.alloc (.cells (olds++news.toArray++Builtin.zeroCells zv.cells (grownCap w (n+m) c E - (n+m))) E))))
    (k:∀ v' X',Own E inf.size v' (n+m) (xs++news) X'→K v' I (L.set i X')) :
    Yld P ((execOp a.eval ⟨d,.call ⟨.builtin .append,#[x,y],#[T,U]⟩,ty,ps,af,g⟩).run P w) fun v w'=>∃ J L',St C J L' w'∧K v J L':=by
  have hmem:∀ w',w'.heap=w.heap→Mem I L w':=fun w' hw=>⟨by rw [hw];exact hst.mem.im,by rw [hw];exact hst.mem.loc,hst.mem.sep,hst.mem.nodup⟩
  have hop:∀ r,(Builtin.append_ #[T,U] ty #[.slice a0 n c,u]).run P w=r→(execOp a.eval ⟨d,.call ⟨.builtin .append,#[x,y],#[T,U]⟩,ty,ps,af,g⟩).run P w=r.andThen fun v w' => .ok (.value v) w':=fun r hr=>by
    simp [execOp,resolve,invoke,builtin,ha.ev hxe,ha.ev hye,hr]
  have hxl:=hown.len
  by_cases hroom:n+m≤c
  · have hr:=hboth.1 hroom
    rcases hown with ⟨hv,rfl,rfl,rfl⟩|⟨b,c',sp,hv,rfl,h2,h3,h4,h5⟩
    · cases hv
      have hm0:m=0:=by omega
      subst hm0
      have hn0:news = []:=List.eq_nil_of_length_eq_zero (by simpa using hnl)
      subst hn0
      rw [hop _ hr]
      refine⟨I,L.set i [],?_,k _ _ (by simpa using Own.nil E inf.size)⟩
      exact hst.b6e i
    · cases hv
      rw [hop _ hr]
      have hbh:=hst.mem.loc (b,row (xs++sp) E) (G3 hL (by simp))
      have hfit:n*inf.size+news.length≤(xs++sp).length:=by rw [hnl,h3,←Nat.add_mul];exact Nat.mul_le_mul_right _ hroom
      have hall:∀ u∈news,u.oneCell'=true:=fun u hu=>List.all_eq_true.1 h1 u hu
      have hst2:=run_storeCells_at P b (n*inf.size) E news 0 (xs++sp).toArray w hbh (by simpa using hfit) hall
      simp only [Nat.add_zero] at hst2
      have hseg:List.take (n*inf.size) (xs++sp)++news++List.drop (n*inf.size+news.length) (xs++sp)=(xs++news)++sp.drop news.length:=by
        rw [←h2,List.take_left,List.drop_append]
        simp
      simp only [Addr.add_plain,Nat.zero_add,hst2,Result.andThen_ok]
      refine⟨I,L.set i [(b,row ((xs++news)++sp.drop news.length) E)],?_,k _ _ (.inr ⟨b,c,sp.drop news.length,j0,j0,?_,?_,hroom,h5⟩)⟩
      · rw [hseg];exact hst.setRow hL _
      · rw [List.length_append,h2,hnl,Nat.add_mul]
      · have:(xs++sp).length=n*inf.size+sp.length:=by rw [List.length_append,h2]
        simp only [List.length_append,List.length_drop]
        rw [h3] at this hfit
        omega
  · have hlt:c < n+m:=by omega
    have hold:(Builtin.firstCells inf.size n (.slice a0 n c)).run P w.drew = .ok xs.toArray w.drew:=by
      have:=(Src.own (P:=P) (I:=I) i hL hown).cells w.drew (hmem w.drew rfl) n (Nat.le_refl _)
      rwa [←hxl,List.take_length] at this
    have hr:=hboth.2 hlt _ hold
    rw [hop _ hr]
    have hge:=grownCap_ge w (n+m) c E
    have hcm:grownCap w (n+m) c E≤maxLen:=grownCap_le_maxLen w (n+m) c E hn63
    refine⟨I,_,hst.replace hL j0 j0 j0 j0,k _ _ (.inr ⟨w.heap.size,_,(Builtin.zeroCells zv.cells (grownCap w (n+m) c E - (n+m))).toList,j0,?_,?_,?_,hge,hcm⟩)⟩
    · have hz2:xs.toArray++news.toArray++Builtin.zeroCells zv.cells (grownCap w (n+m) c E - (n+m))=(xs++news++(Builtin.zeroCells zv.cells (grownCap w (n+m) c E - (n+m))).toList).toArray:=by
        apply Array.ext'
        simp
      rw [hz2]
    · rw [List.length_append,hxl,hnl,Nat.add_mul]
    · simp only [List.length_append,Array.length_toList,size_zeroCells,hzs,hxl,hnl,←Nat.add_mul]
      congr 1
      omega
theorem OpS.append (i:Nat){s by_ n m:Nat}{v u:Value}{xs news:List Value}{X:List (Nat×Obj)}{U:TypeId}(he:Elt P T E s by_)(hs0:0 < s)(hU:(∃ E2,P.underlying U=some (.slice E2))∨P.underlying U=some .string)
    (hx:ev ρ x=some v)(hy:ev ρ y=some u)(hL:L[i]?=some X)(hown:Own E s v n xs X)(hsrc:Src P I L s u m news)(h1:a0W news=true)
    (hn63:n+m≤maxLen)(hb:(n+m)*by_≤140737488355328)(k:∀ v' X',Own E s v' (n+m) (xs++news) X'→K v' I (L.set i X')) :
    OpS P C N ⟨d,.call ⟨.builtin .append,#[x,y],#[T,U]⟩,ty,ps,af,g⟩ ρ I L K:=fun a w ha hst=>by
  obtain⟨inf,zv,hi,hz,rfl,rfl,hzs⟩:=he.info
  have hmem:∀ w',w'.heap=w.heap→Mem I L w':=fun w' hw=>⟨by rw [hw];exact hst.mem.im,by rw [hw];exact hst.mem.loc,hst.mem.sep,hst.mem.nodup⟩
  have hcells:∀ w',w'.heap=w.heap→(Builtin.firstCells inf.size m u).run P w' = .ok news.toArray w':=fun w' hw=>by
    have:=hsrc.cells w' (hmem w' hw) m (Nat.le_refl _)
    rwa [←hsrc.size,List.take_length] at this
  have h63:n+m≤9223372036854775807:=by unfold maxLen at hn63;omega
  obtain⟨a0,c,rfl⟩:=hown.shape
  have hboth:(n+m≤c→(Builtin.append_ #[T,U] ty #[.slice a0 n c,u]).run P w=((match a0 with|some ad=>storeCells (ad.add (n*inf.size)) news|none=>pure ()).run P w).andThen fun _ w' => .ok (.slice a0 (n+m) c) w') ∧
    (c < n+m→∀ olds,((Builtin.firstCells inf.size n (.slice a0 n c)).run P w.drew = .ok olds w.drew) →
      (Builtin.append_ #[T,U] ty #[.slice a0 n c,u]).run P w = .ok (.slice (some ⟨w.heap.size,0,none⟩) (n+m) (grownCap w (n+m) c E))
        (w.drew.alloc (.cells (olds++news.toArray++Builtin.zeroCells zv.cells (grownCap w (n+m) c E - (n+m))) E))):=by
    rcases hU with ⟨E2,hU⟩|hU
    · exact a2e he.und hi hz hU hsrc.len hcells h63 hb
    · exact a1w he.und hi hz hU hsrc.len hcells h63 hb
  exact a8v i hzs hx hy ha hst hL hown hsrc.size h1 hn63 hboth k
theorem wpL.forget {C:Ctx}{ops:Array Oper}{Q:Exit→Env→Im→Lh→Prop}{l:List Oper}{X L:Lh}(h:wpL P C N ops Q l ρ I L):wpL P C N ops Q l ρ I (X++L):=fun hd a w ha hs=>h hd a w ha hs.drop
theorem wpS.forget {C:Ctx}{c:Code}{Q:Exit→Env→Im→Lh→Prop}{X L:Lh}(h:wpS P C N c Q ρ I L):wpS P C N c Q ρ I (X++L):=fun a w ha hs=>h a w ha hs.drop
def c1A (tmps:Array Value):ResultVar→Sem Value
 | .tmp t=>pure (tmps.getD t undef)
 | .cell a t=>do loadVar t (←asAddr (tmps.getD a undef))
theorem a1x (fn:Func)(tmps:Array Value):results fn tmps=(do let vs ←fn.results.mapM (c1A tmps);pure (if h:vs.size=1 then vs[0] else .tuple vs)):=by
 unfold results
 congr 1
def a47 (P:Program)(r:ResultVar)(ρ:Env)(I:Im)(L:Lh)(v:Value):Prop :=
 ∀ N a w,Fits N ρ a→Mem I L w→(c1A a.tmps r).run P w = .ok v w
theorem a47.tmp {t:Nat}{v:Value}(h:look ρ t=some v):a47 P (.tmp t) ρ I L v:=fun N a w ha hm=>by simp [c1A,ha.tmp t v h]
theorem a47.a9U (i:Nat){t b:Nat}{cs:List Value}{e:TypeId}{dd:TypeDesc}(hT:P.underlying T=some dd)(hd:a1O dd=true)(hs:G6 P T cs.length)(h:look ρ t=some (ptr b 0))(hL:L[i]?=some [(b,row cs e)]) :
    a47 P (.cell t T) ρ I L (.agg cs.toArray):=fun N a w ha hm=>by
  have hr:=a7O (P:=P) (T:=T) (w:=w) (b:=b) (o:=0) (vs:=cs) hT hd hs (fun j v hv=>by rw [a0u hm hL];simpa using hv)
  simp only [Instr.loadAt,Instr.sureAddr,Sem.run_bind,Sem.run_pure,Result.andThen_ok] at hr
  have ht:a.tmps.getD t undef=ptr b 0:=by simp [ha.tmp t _ h]
  simp only [c1A,ht,asAddr,Sem.run_bind,Sem.run_pure,Result.andThen_ok,hr]
theorem a47.c82 (i:Nat){t b:Nat}{v:Value}{e:TypeId}{dd:TypeDesc}(hT:P.underlying T=some dd)(hd:a1O dd=false)(h:look ρ t=some (ptr b 0))(hL:L[i]?=some [(b,row [v] e)]) :
    a47 P (.cell t T) ρ I L v:=fun N a w ha hm=>by
  have hr:=run_load (P:=P) (T:=T) (w:=w) (b:=b) (o:=0) (v:=v) hT hd (by rw [a0u hm hL];rfl)
  simp only [Instr.loadAt,Instr.sureAddr,Sem.run_bind,Sem.run_pure,Result.andThen_ok] at hr
  have ht:a.tmps.getD t undef=ptr b 0:=by simp [ha.tmp t _ h]
  simp only [c1A,ht,asAddr,Sem.run_bind,Sem.run_pure,Result.andThen_ok,hr]
theorem Fin.r0 {fn:Func}(h:fn.results = #[]):Fin P fn ρ I L (.tuple #[]):=fun N a w ha hm=>by simp [a1x,h]
theorem Fin.r1 {fn:Func}{r:ResultVar}{v:Value}(h:fn.results = #[r])(h1:a47 P r ρ I L v):Fin P fn ρ I L v:=fun N a w ha hm=>by
 simp [a1x,h,h1 N a w ha hm]
theorem Fin.r2 {fn:Func}{r r2:ResultVar}{v v2:Value}(h:fn.results = #[r,r2])(h1:a47 P r ρ I L v)(h2:a47 P r2 ρ I L v2):Fin P fn ρ I L (.tuple #[v,v2]):=fun N a w ha hm=>by
 simp [a1x,h,h1 N a w ha hm,h2 N a w ha hm]
theorem Fin.r3 {fn:Func}{r r2 r3:ResultVar}{v v2 v3:Value}(h:fn.results = #[r,r2,r3])(h1:a47 P r ρ I L v)(h2:a47 P r2 ρ I L v2)(h3:a47 P r3 ρ I L v3):Fin P fn ρ I L (.tuple #[v,v2,v3]):=fun N a w ha hm=>by
 simp [a1x,h,h1 N a w ha hm,h2 N a w ha hm,h3 N a w ha hm]
theorem c83 {v:Value}(h:ev ρ x=some v):evL ρ [x]=some [v]:=by simp [evL,h]
theorem c4g {v u:Value}(h:ev ρ x=some v)(h2:ev ρ y=some u):evL ρ [x,y]=some [v,u]:=by simp [evL,h,h2]
theorem OpX.a1c {f:FuncId}{F:Operand}{args:Array Operand}{tys:Array TypeId}{vs:List Value}{r:Value}(hF:ev ρ F=some (.func (.func f) #[] #[]))(hv:evL ρ args.toList=some vs)
    (h:∀ J,Le I J→(∀ p∈L.flatten,J p.1=some p.2)→Fun P f vs.toArray J (fun v _=>v=r))(k:K r I []):OpX P N ⟨d,.call ⟨.value F,args,tys⟩,ty,ps,af,g⟩ ρ I L K :=
  .c4c hF hv h (fun v hv=>hv▸k)
end
end Go.Fl
namespace Go.Fl
open Go.RowKit
section
variable {P:Program}{C:Ctx}{N:Nat}{ρ:Env}{I:Im}{L:Lh}{φ:Value→Prop}{K:Value→Im→Lh→Prop}{d:Option Nat}{ty:TypeId}{ps:String}{af:Array Edge}{g:Option (Nat×Bool)}
variable {x y z:Operand}{T T2 E:TypeId}
theorem O3.a1y {n sz:Nat}{ag:Bool}{zs vs:List Value}{parts:Array (Nat×Operand)}{pv:List (Nat×Value)}(hT:O7 P T=some (n,sz,ag))(hz:Y4 P T=some zs)(hzl:zs.length=n*sz)
    (hp:evP ρ parts.toList=some pv)(hside:Z7 sz 0 pv=some vs)(hlen:vs.length=n*sz)(k:φ (.agg vs.toArray)) :
    O3 P N ⟨d,.build T parts,ty,ps,af,g⟩ ρ I L φ := .mk k fun a w ha hm=>by
  obtain⟨zv,h1,h2⟩:=a2V hz w
  have hparts:(parts.map fun x=>(x.1,a.eval x.2)).toList=pv:=by rw [Array.toList_map];exact ha.evP hp
  obtain⟨out,ho1,ho2⟩:=a7Q (sz:=sz) pv 0 zv.cells vs hside (by rw [h2];simp [hlen,hzl])
  have ho3:out=vs.toArray:=by
    apply Array.ext'
    rw [ho2,h2]
    simp [G1,hlen,hzl]
  unfold O7 at hT
  split at hT
  · rename_i m e hu
    split at hT
    · rename_i inf dd h3 h4
      simp only [Option.some.injEq,Prod.mk.injEq] at hT
      obtain⟨rfl,h5,_⟩:=hT
      have hs:G6 P e sz:=by simp [G6,h3,h5]
      simp only [execOp,Instr.build,Sem.run_bind,h1,Result.andThen_ok,run_underlying hu,hs.run,hparts,ho1,Sem.run_pure,ho3]
    · cases hT
  · cases hT
def E5 (P:Program)(T:TypeId):Option (List (Nat×Nat)) :=
 match P.underlying T with
 | some (.struct fs)=>fs.toList.mapM fun f=>(P.info? f.type).map fun i=>(f.offset,i.size)
 | _=>none
def b3Q (offs:List (Nat×Nat)):List Value→List (Nat×Value)→Option (List Value)
 | cells,[]=>some cells
 | cells,(i,v)::r =>
  match offs[i]? with
  | none=>none
  | some (off,size)=>if v.cells.size≠size||off+v.cells.size>cells.length then none else b3Q offs (G1 cells off v.cells.toList) r
theorem a9V {offs:List (Nat×Nat)}:∀ (pv:List (Nat×Value)) (cells:Array Value) (out:List Value),b3Q offs cells.toList pv=some out→Instr.fill (fun i=>offs[i]?) cells pv=some out.toArray
 | [],cells,out,h=>by simp [b3Q] at h;subst h;simp [Instr.fill]
 | (i,v)::r,cells,out,h=>by
  simp only [b3Q] at h
  simp only [Instr.fill]
  cases ho:offs[i]? with
  | none=>simp [ho] at h
  | some p =>
   obtain⟨off,size⟩:=p
   simp only [ho] at h ⊢
   by_cases hc:(v.cells.size≠size||off+v.cells.size>cells.toList.length)=true
   ·rw [if_pos (by simpa using hc)] at h;cases h
   ·rw [if_neg (by simpa using hc)] at h
    rw [if_neg (by simpa using hc)]
    have hle:off+v.cells.size≤cells.size:=by
     simp at hc;omega
    refine a9V r _ out ?_
    rw [a9T hle]
    exact h
theorem O3.a3A {offs:List (Nat×Nat)}{zs out:List Value}{parts:Array (Nat×Operand)}{pv:List (Nat×Value)}(hT:E5 P T=some offs)(hz:Y4 P T=some zs)
    (hp:evP ρ parts.toList=some pv)(ho:b3Q offs zs pv=some out)(k:φ (.agg out.toArray)):O3 P N ⟨d,.build T parts,ty,ps,af,g⟩ ρ I L φ := .mk k fun a w ha hm=>by
  obtain⟨zv,h1,h2⟩:=a2V hz w
  have hparts:(parts.map fun x=>(x.1,a.eval x.2)).toList=pv:=by rw [Array.toList_map];exact ha.evP hp
  have hf:Instr.fill (offs.toArray[·]?) zv.cells pv=some out.toArray:=by
    have e1:(fun (i:Nat)=>offs.toArray[i]?)=fun (i:Nat)=>offs[i]?:=by funext i;simp
    rw [e1]
    exact a9V (offs:=offs) pv zv.cells out (by rw [h2];exact ho)
  unfold E5 at hT
  split at hT
  · rename_i fs hu
    have hpl : ∀ (l : List Field) (o : List (Nat × Nat)), (l.mapM fun f => (P.info? f.type).map fun i => (f.offset, i.size)) = some o →
        (l.mapM fun f=>(do pure (f.offset,←sizeOf f.type):Sem (Nat×Nat))).run P w = .ok o w:=by
      intro l
      induction l with
      | nil=>intro o h;simp at h;subst h;simp
      | cons f r ih =>
        intro o h
        rw [List.mapM_cons] at h
        cases hq:P.info? f.type with
        | none=>simp [hq] at h
        | some inf =>
          cases hr:(r.mapM fun f=>(P.info? f.type).map fun i=>(f.offset,i.size)) with
          | none=>simp [hq,hr] at h
          | some o' =>
            simp [hq,hr] at h
            subst h
            have hsz:G6 P f.type inf.size:=by simp [G6,hq]
            rw [List.mapM_cons,Sem.run_bind,Sem.run_bind,hsz.run]
            simp only [Result.andThen_ok,Sem.run_pure,Sem.run_bind]
            rw [ih o' hr]
            simp
    have h3:=hpl fs.toList offs hT
    have h4:(fs.mapM fun f=>(do pure (f.offset,←sizeOf f.type):Sem (Nat×Nat))).run P w = .ok offs.toArray w:=by
      rw [Array.mapM_eq_mapM_toList,map_eq_pure_bind,Sem.run_bind,h3]
      simp
    simp only [execOp,Instr.build,Sem.run_bind,h1,Result.andThen_ok,run_underlying hu,h4,hparts,hf,Sem.run_pure]
  · cases hT
end
end Go.Fl
namespace Go.Fl
open Go.RowKit
def a9W (d:Nat)(ρ:Env):Env:=ρ.filter fun e => !(e.1 == d)
theorem a6q {d:Nat}:∀ {ρ:Env} {t:Nat} {v:Value},look (a9W d ρ) t=some v→t≠d∧look ρ t=some v
 | [],t,v,h=>by simp [a9W,look] at h
 | (e,u)::r,t,v,h=>by
  by_cases he:e=d
  ·have h':look (a9W d r) t=some v:=by simpa [a9W,he] using h
   obtain⟨h1,h2⟩:=a6q h'
   exact⟨h1,by rw [R6,if_neg (by rw [he];exact fun x=>h1 x.symm)];exact h2⟩
  ·have h':look ((e,u)::a9W d r) t=some v:=by simpa [a9W,he] using h
   rw [R6] at h'
   by_cases het:e=t
   ·subst het
    rw [if_pos rfl] at h'
    exact⟨he,by rw [R6,if_pos rfl];exact h'⟩
   ·rw [if_neg het] at h'
    obtain⟨h1,h2⟩:=a6q h'
    exact⟨h1,by rw [R6,if_neg het];exact h2⟩
def a9g (J:Im)(sp:Nat→Option Spec)(fl:Nat→Bool)(G:Env→Lh→Prop):List Oper→Nat→Env→Lh→Prop
 | o::os,k,ρ,L =>
  match o.dst with
  | none=>False
  | some d =>
   match fl k with
   | true=>a9g J sp fl G os (k+1) (a9W d ρ) L
   | false=>match sp k with
    | some (.is x)=>a9g J sp fl G os (k+1) ((d,x)::ρ) L
    | some (.val p _)=>∀ v,p v J→a9g J sp fl G os (k+1) ((d,v)::ρ) L
    | some (.new obj)=>∀ b,a9g J sp fl G os (k+1) ((d,.pointer (some ⟨b,0,none⟩))::ρ) ([(b,obj)]::L)
    | none=>False
 | [],_,ρ,L=>G ρ L
def b9x (J:Im)(sp:Nat→Option Spec)(ops:Array Oper)(G:Env→Prop):List Nat→Env→Prop
 | [],ρ=>G ρ
 | i::r,ρ=>match (ops[i]?).bind (·.dst),sp i with
  | some d,some (.is x)=>b9x J sp ops G r ((d,x)::ρ)
  | some d,some (.val p _)=>∀ v,p v J→b9x J sp ops G r ((d,v)::ρ)
  | _,_=>False
def b6f (P:Program)(N:Nat)(ops:Array Oper)(ss:List (List (Nat×Nat)))(sp:Nat→Option Spec)(ρ0:Env)(J:Im)(L:Lh)(G:Prop):List Nat→Prop
 | []=>G
 | i::r=>(match ops[i]?,ss[i]?,sp i with|some o,some s,some S=>a6O P N ops sp ρ0 J L o s S|_,_,_=>False)∧b6f P N ops ss sp ρ0 J L G r
theorem a8w {P:Program}{N:Nat}{ops:Array Oper}{ss:List (List (Nat×Nat))}{sp:Nat→Option Spec}{ρ0:Env}{J:Im}{L:Lh}{G:Prop}:∀ {is:List Nat},b6f P N ops ss sp ρ0 J L G is →
    G∧∀ i∈is,∀ o s,ops[i]?=some o→ss[i]?=some s→∃ S,sp i=some S∧a6O P N ops sp ρ0 J L o s S
  | [],h=>⟨h,fun i hi=>by cases hi⟩
  | i::r,h=>by
    obtain⟨h1,h2⟩:=h
    obtain⟨h3,h4⟩:=a8w h2
    refine⟨h3,fun j hj o s ho hs => ?_⟩
    rcases List.mem_cons.1 hj with rfl|hj
    · rw [ho,hs] at h1
      cases hS:sp j with
      | none=>simp [hS] at h1
      | some S=>exact⟨S,rfl,by simpa [hS] using h1⟩
    · exact h4 j hj o s ho hs
def a05 (fl:List Nat)(i:Nat):Bool:=fl.any (· == i)
def c1B (ops:Array Oper)(n:Nat)(ss:List (List (Nat×Nat)))(fl:List Nat):Bool :=
 Nat.blt n ops.size&&a0D ops&&(List.range n).all (a9f ops n ss)&&a7L ops n &&
 (match ops[n]? with|some o=>o.dst.isNone&&o.guard.isNone|none=>false) &&
 ((List.range n).all fun i=>a05 fl i||Region.waitsFor .any ops n i) &&
 (fl.all fun i=>Nat.blt i n&&(match ops[i]?,ss[i]? with|some o,some s=>o.guard.isNone&&(J6 o).all (fun t=>match T1 s t with|none=>true|some j=>a05 fl j)|_,_=>false)) &&
 ((List.range ops.size).all fun t=>Nat.ble t n||(if t == n+1 then (List.range (n+1)).all fun i=>Region.waitsFor .any ops t i else Region.waitsFor .any ops t (t - 1))) &&
 Region.seqB .any ops (ops.size - (n+1)) (n+1) (R3 ops.size (n+1))
section late
variable {P:Program}{C:Ctx}{N n n0:Nat}{l:List Oper}{ss:List (List (Nat×Nat))}{sp:Nat→Option Spec}{ρ0:Env}{I:Im}{L:Lh}
theorem a3V {listed:Array Bool}{J:Im}{vs:Nat→Value}{bs:Nat→Nat}{a:Act}{w:World}(inv:a6Q C N n n n0 l.toArray sp ρ0 I L listed J vs bs a w){fl:Nat→Bool}(hnl:n≤l.length)
    (hall:∀ j,j < n→fl j=false→listed.getD j false=true){G:Env→Lh→Prop} :
    ∀ (os:List Oper) (k:Nat) (ρ:Env) (Lk:Lh),(∀ j,os[j]?=(l.take n)[k+j]?)→k≤n →
      (∀ t v,look ρ t=some v→(∀ j,k≤j→j < n→(l.toArray[j]?).bind (·.dst)≠some t)→a.tmps[t]?=some v)→St C J Lk w →
      (∀ p∈Lk.flatten,p∈L.flatten∨∃ j,j < k∧fl j=false∧p.1=bs j∧∃ o,sp j=some (.new o)) →
      a9g J sp fl G os k ρ Lk→∃ ρ' L',Fits N ρ' a∧St C J L' w∧G ρ' L'
  | os,k,ρ,Lk,hos,hk,htmp,hst,hblk,h=>by
    by_cases hkn:k=n
    · subst hkn
      have ho:os = []:=by
        cases os with
        | nil=>rfl
        | cons x r =>
          have:=hos 0
          have h9:(l.take k)[k+0]?=none:=List.getElem?_eq_none (by rw [List.length_take];omega)
          rw [h9] at this
          cases this
      subst ho
      simp only [a9g] at h
      exact⟨ρ,Lk,⟨inv.defers,inv.size,fun t v hv=>htmp t v hv (fun j h1 h2=>by omega)⟩,hst,h⟩
    · have hkn':k < n:=by omega
      cases os with
      | nil =>
        have h1:=hos 0
        simp at h1
        omega
      | cons o os =>
        have h1:=hos 0
        have hol:l[k]?=some o:=by simpa [hkn'] using h1.symm
        have hos':∀ j,os[j]?=(l.take n)[k+1+j]?:=fun j=>by have:=hos (j+1);simpa [Nat.add_assoc,Nat.add_comm 1 j] using this
        have hblk':∀ p∈Lk.flatten,p∈L.flatten∨∃ j,j < k+1∧fl j=false∧p.1=bs j∧∃ o,sp j=some (.new o):=fun p hp=>by
          rcases hblk p hp with h3|⟨j,h3,h4⟩
          · exact .inl h3
          · exact .inr ⟨j,by omega,h4⟩
        cases hod:o.dst with
        | none=>simp only [a9g,hod] at h
        | some d =>
          cases hfk:fl k with
          | true =>
            simp only [a9g,hod,hfk] at h
            refine a3V inv hnl hall os (k+1) _ Lk hos' (by omega) (fun t v hv hno => ?_) hst hblk' h
            obtain⟨h3,h4⟩:=a6q hv
            refine htmp t v h4 fun j h5 h6 => ?_
            by_cases hjk:j=k
            · subst hjk
              intro he
              simp [hol,hod] at he
              exact h3 he.symm
            · exact hno j (by omega) h6
          | false =>
            obtain⟨T,hT,hh,hnew⟩:=inv.val k hkn' (hall k hkn' hfk)
            have htk:=inv.a42 k d hkn' (hall k hkn' hfk) (by simp [hol,hod])
            have htmp':∀ x,x=vs k→∀ t v,look ((d,x)::ρ) t=some v→(∀ j,k+1≤j→j < n→(l.toArray[j]?).bind (·.dst)≠some t)→a.tmps[t]?=some v:=by
              rintro x rfl t v hv hno
              rw [R6] at hv
              by_cases e:d=t
              · subst e;simp at hv;subst hv;exact htk
              · rw [if_neg e] at hv
                refine htmp t v hv fun j h3 h4 => ?_
                by_cases hjk:j=k
                · subst hjk
                  intro he
                  simp [hol,hod] at he
                  exact e he
                · exact hno j (by omega) h4
            cases T with
            | is x =>
              simp only [a9g,hod,hfk,hT] at h
              exact a3V inv hnl hall os (k+1) _ Lk hos' (by omega) (htmp' x hh.symm) hst hblk' h
            | val p m =>
              simp only [a9g,hod,hfk,hT] at h
              exact a3V inv hnl hall os (k+1) _ Lk hos' (by omega) (htmp' (vs k) rfl) hst hblk' (h (vs k) hh)
            | new obj =>
              simp only [a9g,hod,hfk,hT] at h
              obtain⟨hb1,hb2,hb3⟩:=inv.blk k hkn' (hall k hkn' hfk) obj hT
              refine a3V inv hnl hall os (k+1) _ _ hos' (by omega) (htmp' _ (hnew obj rfl).symm) (hst.cons hb1 hb2 (fun q hq => ?_) (Nat.le_trans inv.c65 hb3)) (fun q hq => ?_) (h (bs k))
              · rcases hblk q hq with h3|⟨j,h3,h3f,h4,h5⟩
                · have:=inv.lt0 q h3;omega
                · rw [h4]
                  exact inv.inj j k (by omega) hkn' (hall j (by omega) h3f) (hall k hkn' hfk) h5 ⟨obj,hT⟩ (by omega)
              · simp only [List.flatten_cons,List.cons_append,List.nil_append,List.mem_cons] at hq
                rcases hq with rfl|hq
                · exact .inr ⟨k,by omega,hfk,rfl,obj,hT⟩
                · exact hblk' q hq
theorem b1z {J:Im}{a:Act}{vs:Nat→Value}{ops:Array Oper}{G:Env→Prop}:∀ (is:List Nat) (ρ:Env),
    (∀ i∈is,(∃ S,sp i=some S∧S.holds (vs i) J)∧∀ d,(ops[i]?).bind (·.dst)=some d→a.tmps[d]?=some (vs i))→b9x J sp ops G is ρ →
    ∃ ρ',G ρ'∧∀ t v,look ρ' t=some v→(look ρ t=some v∧∀ i∈is,(ops[i]?).bind (·.dst)≠some t)∨a.tmps[t]?=some v
  | [],ρ,_,h=>⟨ρ,h,fun t v hv => .inl ⟨hv,fun i hi=>by cases hi⟩⟩
  | i::r,ρ,hi,h=>by
    obtain⟨⟨S,hS,hh⟩,hd⟩:=hi i List.mem_cons_self
    have hr:=fun j hj=>hi j (List.mem_cons_of_mem _ hj)
    have key : ∀ d, (ops[i]?).bind (·.dst) = some d → ∀ u, u = vs i → b9x J sp ops G r ((d, u) :: ρ) →
        ∃ ρ',G ρ'∧∀ t v,look ρ' t=some v→(look ρ t=some v∧∀ j∈i::r,(ops[j]?).bind (·.dst)≠some t)∨a.tmps[t]?=some v:=by
      rintro d hdd u rfl hg
      obtain⟨ρ',h1,h2⟩:=b1z r _ hr hg
      refine⟨ρ',h1,fun t v hv => ?_⟩
      rcases h2 t v hv with ⟨h3,h4⟩|h3
      · rw [R6] at h3
        by_cases e:d=t
        · subst e
          simp at h3
          exact .inr (h3▸hd d hdd)
        · rw [if_neg e] at h3
          refine .inl ⟨h3,fun j hj => ?_⟩
          rcases List.mem_cons.1 hj with rfl|hj
          · rw [hdd];exact fun he=>e (Option.some.inj he)
          · exact h4 j hj
      · exact .inr h3
    unfold b9x at h
    cases hdd:(ops[i]?).bind (·.dst) with
    | none=>simp only [hdd] at h
    | some d =>
      simp only [hdd,hS] at h
      cases S with
      | is x=>exact key d hdd x hh.symm h
      | val p m=>exact key d hdd (vs i) rfl (h (vs i) hh)
      | new o=>exact h.elim
theorem c6s {sp2:Nat→Option Spec}{J1:Im}{L2:Lh}{fl:Nat→Bool}{ρ':Env}{Q':Exit→Act→World→Prop}(hN:R7 N l=true)(hback:a0D l.toArray=true)(hok:∀ i,i < n→a9f l.toArray n ss i=true)
    (hdst:a7L l.toArray n=true)(hlt:n < l.length)(htail:∀ t,n < t→t < l.length→if t=n+1 then ∀ i,i < n+1→Region.waitsFor .any l.toArray t i=true else Region.waitsFor .any l.toArray t (t - 1)=true)
    (hseq:Region.seqB .any l.toArray (l.length - (n+1)) (n+1) (R3 l.length (n+1))=true)
    (hd:∀ i,i < n→fl i=true→∀ o s,l[i]?=some o→ss[i]?=some s→∃ S,sp2 i=some S∧a6O P N l.toArray sp2 ρ0 J1 L2 o s S)
    (hfin:∀ listed J vs bs a w,a6Q C N n (n+1) n0 l.toArray sp2 ρ0 J1 L2 listed J vs bs a w→(∀ j,j < n→listed.getD j false=true) →
      (∀ t v,look ρ' t=some v→(∀ j,j < n→fl j=true→(l.toArray[j]?).bind (·.dst)≠some t)→a.tmps[t]?=some v)→wpListIn C.fen 0 P l.toArray Q' (l.drop (n+1)) a w) :
    ∀ (m:Nat) (listed:Array Bool) J vs bs a w,a6Q C N n (n+1) n0 l.toArray sp2 ρ0 J1 L2 listed J vs bs a w→(∀ j,j < n→fl j=false→listed.getD j false=true)→listed.getD n false=true →
      (∀ t v,look ρ' t=some v→(∀ j,j < n→fl j=true→(l.toArray[j]?).bind (·.dst)≠some t)→a.tmps[t]?=some v) →
      unl listed n=m→wpAnyIn C.fen 0 P .any l.toArray Q' (m+(l.length - (n+1))) listed a w
  | 0,listed,J,vs,bs,a,w,inv,hnf,hn,hkeep,hm=>by
    have hsz:listed.size=l.length:=by simpa using inv.head.size
    have hall:∀ j,j < n→listed.getD j false=true:=fun j hj=>a4d (by omega) (a2k hm j hj)
    have heq:listed=R3 l.length (n+1):=by
      refine Array.ext (by simp [R3,hsz]) fun j h1 h2 => ?_
      have e1:(R3 l.length (n+1))[j]'h2=Nat.blt j (n+1):=by simp [R3]
      rw [e1]
      by_cases hj:j < n+1
      · have:listed.getD j false=true:=by
          by_cases e:j=n
          · subst e;exact hn
          · exact hall j (by omega)
        simp [h1] at this
        rw [this]
        exact(Nat.blt_eq▸hj:Nat.blt j (n+1)=true).symm
      · have:=inv.head.tail j (by omega) (by simp;omega)
        simp [h1] at this
        rw [this]
        cases hb:Nat.blt j (n+1)
        · rfl
        · exact absurd (Nat.blt_eq▸hb:j < n+1) hj
    have hw:=hfin listed J vs bs a w inv hall hkeep
    have h2:=a0t (md := .any) (Q':=Q') (l.drop (n+1)) (n+1) listed a w (fun j=>by simp [List.getElem?_drop]) (by rw [heq];simpa using hseq) hw
    simpa using h2
  | m+1,listed,J,vs,bs,a,w,inv,hnf,hn,hkeep,hm=>by
    have hsz:listed.size=l.length:=by simpa using inv.head.size
    obtain⟨i,hin,hi,hltu⟩:=a6P hm
    have hr:=Y7 hback (by simpa using inv.head.size) hi hltu
    rw [show m+1+(l.length - (n+1))=(m+(l.length - (n+1)))+1 by omega]
    refine⟨fun h0=>(by rw [h0] at hr;cases hr),fun j hj => ?_⟩
    obtain⟨hju,oj,hoj,hjall⟩:=mem_ready.1 hj
    have hjl:j < l.length:=by simpa using (Array.getElem?_eq_some_iff.1 hoj).1
    have hw:∀ k,Region.waitsFor .any l.toArray j k=true→listed.getD k false=true:=fun k hk=>by
      obtain⟨e,he,hb,heq⟩:=a0E hoj hk
      exact heq▸hjall e he hb
    have hjn:j < n:=by
      rcases Nat.lt_trichotomy j n with h|h|h
      · exact h
      · subst h;rw [getD_both hju] at hn;cases hn
      · have ht:=htail j h hjl
        by_cases e:j=n+1
        · rw [if_pos e] at ht
          have:=hw i (ht i (by omega))
          rw [getD_both hi] at this;cases this
        · rw [if_neg e] at ht
          have:=hw _ ht
          have h2:=inv.head.tail (j - 1) (by omega) (by simp;omega)
          rw [getD_both h2] at this;cases this
    have hfj:fl j=true:=by
      cases hf:fl j with
      | true=>rfl
      | false=>have:=hnf j hjn hf;rw [getD_both hju] at this;cases this
    refine inv.step hN hok hdst (by omega) hj hjn (hd j hjn hfj) fun J' vs' bs' a' w' inv' ha' => ?_
    have hput:∀ k,k≠j→(listed.setIfInBounds j true).getD k false=listed.getD k false:=fun k hk=>getD_set_ne false (Ne.symm hk)
    refine c6s hN hback hok hdst hlt htail hseq hd hfin m _ J' vs' bs' a' w' inv' (fun k hk hf => ?_) (by rw [hput n (by omega)];exact hn) (fun t v hv hno => ?_) ?_
    · rw [hput k (by intro e;subst e;rw [hfj] at hf;cases hf)];exact hnf k hk hf
    · obtain⟨u,hu⟩:=ha'
      rw [hu oj (by simpa using hoj)]
      cases hod:oj.dst with
      | none=>exact hkeep t v hv hno
      | some d =>
        have:d≠t:=fun e=>hno j hjn hfj (by rw [hoj];simp [hod,e])
        simp only [Act.put,Array.getElem?_setIfInBounds_ne this]
        exact hkeep t v hv hno
    · have:=a5H hju hjn
      omega
theorem c6t {fl:Nat→Bool}{o:Oper}{Q':Exit→Act→World→Prop}(ho:l[n]?=some o)(hog:o.guard=none)(hN:R7 N l=true)(hback:a0D l.toArray=true)(hok:∀ i,i < n→a9f l.toArray n ss i=true)
    (hdst:a7L l.toArray n=true)(hwait:∀ i,i < n→fl i=false→Region.waitsFor .any l.toArray n i=true)
    (htail:∀ t,n < t→t < l.length→if t=n+1 then ∀ i,i < n+1→Region.waitsFor .any l.toArray t i=true else Region.waitsFor .any l.toArray t (t - 1)=true)
    (hd:∀ i o s,i < n→l[i]?=some o→ss[i]?=some s→∃ S,sp i=some S∧a6O P N l.toArray sp ρ0 I L o s S)
    (hstore:∀ listed J vs bs a w,a6Q C N n n n0 l.toArray sp ρ0 I L listed J vs bs a w→(∀ j,j < n→fl j=false→listed.getD j false=true)→n∈Region.ready .any l.toArray listed →
      o.wpIn C.fen 0 P a w (fun a' w'=>wpAnyIn C.fen 0 P .any l.toArray Q' (unl listed n+(l.length - (n+1))) (listed.setIfInBounds n true) a' w') Q') :
    ∀ (m:Nat) (listed:Array Bool) J vs bs a w,a6Q C N n n n0 l.toArray sp ρ0 I L listed J vs bs a w→unl listed n=m→wpAnyIn C.fen 0 P .any l.toArray Q' (m+(l.length - (n+1))+1) listed a w
  | m,listed,J,vs,bs,a,w,inv,hm=>by
    have hsz:listed.size=l.length:=by simpa using inv.head.size
    have hnl:n < l.length:=by
      rcases Nat.lt_or_ge n l.length with h|h
      · exact h
      · rw [List.getElem?_eq_none h] at ho;cases ho
    have hun:=inv.head.tail n (Nat.le_refl _) (by simpa using hnl)
    have hne:∃ i,i∈Region.ready .any l.toArray listed:=by
      cases m with
      | zero=>exact⟨n,Y7 hback (by simpa using inv.head.size) hun (a2k hm)⟩
      | succ m =>
        obtain⟨i,hin,hi,hltu⟩:=a6P hm
        exact⟨i,Y7 hback (by simpa using inv.head.size) hi hltu⟩
    refine⟨fun h0=>(by obtain⟨i,hi⟩:=hne;rw [h0] at hi;cases hi),fun j hj => ?_⟩
    obtain⟨hju,oj,hoj,hjall⟩:=mem_ready.1 hj
    have hjl:j < l.length:=by simpa using (Array.getElem?_eq_some_iff.1 hoj).1
    have hw:∀ k,Region.waitsFor .any l.toArray j k=true→listed.getD k false=true:=fun k hk=>by
      obtain⟨e,he,hb,heq⟩:=a0E hoj hk
      exact heq▸hjall e he hb
    rcases Nat.lt_trichotomy j n with hjn|hjn|hjn
    · have hu:=a5H hju hjn
      cases m with
      | zero=>omega
      | succ m =>
        refine inv.step hN hok hdst (Nat.le_refl _) hj hjn (fun o s h1 h2=>hd j o s hjn h1 h2) fun J' vs' bs' a' w' inv' _ => ?_
        have:=c6t ho hog hN hback hok hdst hwait htail hd hstore m _ J' vs' bs' a' w' inv' (by omega)
        rwa [show m+1+(l.length - (n+1))=m+(l.length - (n+1))+1 by omega]
    · subst hjn
      have:=hstore listed J vs bs a w inv (fun k hk hf=>hw k (hwait k hk hf)) hj
      have hoj':oj=o:=by
        have:l.toArray[j]?=some o:=by simpa using ho
        exact Option.some.inj (hoj.symm.trans this)
      subst hoj'
      unfold wpOpIn
      simp only [hoj]
      rw [if_pos (by simp [Region.wanted,hog])]
      rw [hm] at this
      exact this
    · have ht:=htail j hjn hjl
      by_cases e:j=n+1
      · rw [if_pos e] at ht
        have:=hw n (ht n (by omega))
        rw [getD_both hun] at this;cases this
      · rw [if_neg e] at ht
        have:=hw _ ht
        have h2:=inv.head.tail (j - 1) (by omega) (by simp;omega)
        rw [getD_both h2] at this;cases this
theorem a2l {fl:List Nat}{i:Nat}:a05 fl i=true↔i∈fl:=by
 simp [a05,List.any_eq_true]
theorem wpS.b3R {Q:Exit→Env→Im→Lh→Prop}{id:Nat}(hm:P.follows .mixedOrders=true)(n:Nat)(ss:List (List (Nat×Nat)))(fl:List Nat)
    (hN:R7 N l=true)(hB:c1B l.toArray n ss fl=true)(hss:Nat.ble n ss.length=true)
    (hch : chain P N l.toArray ρ0 I L (fun acc => (fl.all fun i => match V7 acc i with | some (.new _) => false | _ => true) = true ∧ ∀ J, Le I J → a9g J (V7 acc) (a05 fl) (fun ρ L' =>
        match l[n]? with
        | some o=>OpS P C N o ρ J L' (fun _ J1 L2=>Le J J1∧b6f P N l.toArray ss (V7 acc) ρ0 J1 L2 (∀ J2,Le J1 J2→b9x J2 (V7 acc) l.toArray (fun ρ2=>wpL P C N l.toArray Q (l.drop (n+1)) ρ2 J2 L2) fl ρ) fl)
        | none=>False) (l.take n) 0 ρ0 L) (l.take n) ss 0 []) :
    wpS P C N (.region id l.toArray true) Q ρ0 I L:=fun a w ha hs=>by
  have hB0:=hB
  simp only [c1B,Bool.and_eq_true] at hB
  obtain⟨⟨⟨⟨⟨⟨⟨⟨hlt,hback⟩,hok⟩,hdst⟩,hop⟩,hwait⟩,hfl⟩,htail⟩,hseq⟩:=hB
  have hlt':n < l.length:=by simpa [Nat.blt_eq] using hlt
  obtain⟨o,ho⟩:∃ o,l[n]?=some o:=⟨_,List.getElem?_eq_getElem hlt'⟩
  have hoA:l.toArray[n]?=some o:=by simpa using ho
  rw [hoA] at hop
  simp only [Bool.and_eq_true,Option.isNone_iff_eq_none] at hop
  obtain⟨hod,hog⟩:=hop
  have hok':∀ i,i < n→a9f l.toArray n ss i=true:=fun i hi=>List.all_eq_true.1 hok i (List.mem_range.2 hi)
  obtain⟨full,⟨hnew,hfin⟩,_,hduty⟩:=a6o (Nat.le_of_lt hlt') (Nat.le_of_ble_eq_true hss) n 0 [] (by omega) (fun j hj=>absurd rfl hj) (by simpa using hch)
  rw [ho] at hfin
  have hwait':∀ i,i < n→a05 fl i=false→Region.waitsFor .any l.toArray n i=true:=fun i hi hf=>by
    have:=List.all_eq_true.1 hwait i (List.mem_range.2 hi)
    rw [hf] at this
    simpa using this
  have htail':∀ t,n < t→t < l.length→if t=n+1 then ∀ i,i < n+1→Region.waitsFor .any l.toArray t i=true else Region.waitsFor .any l.toArray t (t - 1)=true:=fun t h1 h2=>by
    have h3:=List.all_eq_true.1 htail t (List.mem_range.2 (by simpa using h2))
    have h4:Nat.ble t n=false:=by
      cases hb:Nat.ble t n
      · rfl
      · have:=Nat.le_of_ble_eq_true hb;omega
    rw [h4] at h3
    by_cases e:t=n+1
    · subst e
      simp only [if_true]
      simp only [Bool.false_or,beq_self_eq_true,if_true] at h3
      exact fun i hi=>List.all_eq_true.1 h3 i (List.mem_range.2 hi)
    · rw [if_neg e]
      simpa [e] using h3
  have hd:∀ i o s,i < n→l[i]?=some o→ss[i]?=some s→∃ S,V7 full i=some S∧a6O P N l.toArray (V7 full) ρ0 I L o s S:=fun i o s hi ho hsi=>by
    obtain⟨S,acc',h1,h2,h3⟩:=hduty i o s (Nat.zero_le _) hi ho hsi
    have hoi:=hok' i hi
    unfold a9f at hoi
    have ho':l.toArray[i]?=some o:=by simpa using ho
    simp only [ho',hsi,Bool.and_eq_true] at hoi
    have hback':∀ j,Region.waitsFor .any l.toArray i j=true→j < i:=fun j hw=>by
      obtain⟨e,he,hb,heq⟩:=a0E ho' hw
      have hil:i < l.toArray.size:=(Array.getElem?_eq_some_iff.1 ho').1
      have h4:=List.all_eq_true.1 hback i (List.mem_range.2 hil)
      simp only [ho',Array.all_eq_true_iff_forall_mem] at h4
      have h5:=h4 e he
      rw [hb] at h5
      have:e.on < i:=by simpa [Nat.blt_eq] using h5
      omega
    refine⟨S,h1,a6n h2 (fun t ht j hj => ?_) (fun g w hg => ?_)⟩
    · have h6:=List.all_eq_true.1 hoi.1.2 t ht
      unfold a2y at h6
      simp only [hj,Bool.and_eq_true] at h6
      exact h3 j (hback' j h6.2)
    · have h6:=hoi.2
      rw [hg] at h6
      simp only [Bool.and_eq_true] at h6
      exact h3 g (hback' g h6.2)
  have hs':St C I L { w with drawn:=w.drawn+1 }:=⟨⟨hs.mem.im,hs.mem.loc,hs.mem.sep,hs.mem.nodup⟩,⟨hs.W4.os,hs.W4.tape,hs.W4.output,hs.W4.size,hs.W4.block⟩,hs.own,hs.U9,hs.new⟩
  refine wpIn_region_any hm ?_
  have inv0:a6Q C N n n w.heap.size l.toArray (V7 full) ρ0 I L (Array.replicate l.toArray.size false) I (fun _=>undef) (fun _=>0) a { w with drawn:=w.drawn+1 }:=by
    have hnl:∀ j,(Array.replicate l.toArray.size false).getD j false=true→False:=fun j hl=>by rw [getD_replicate_false] at hl;cases hl
    refine⟨⟨by simp,fun j oj _ hl=>(hnl j hl).elim,fun t _ ht=>getD_in (by simpa using ht) (getD_replicate_false _ _)⟩,Le.refl _,hs',Nat.le_refl _,fun p hp=>D7 (hs.mem.loc p hp),hs.W4.size,
      fun j _ hl=>(hnl j hl).elim,fun j k _ _ hl=>(hnl j hl).elim,fun j _ hl=>(hnl j hl).elim,ha.defers,ha.size,fun j d _ hl=>(hnl j hl).elim,fun t v hv _=>ha.tmp t v hv⟩
  have hunl:unl (Array.replicate l.toArray.size false) n=n:=by
    have key:∀ k,k≤l.toArray.size→unl (Array.replicate l.toArray.size false) k=k:=by
      intro k
      induction k with
      | zero=>intro _;rfl
      | succ k ih =>
        intro hk
        rw [unl,ih (by omega),if_pos (getD_in (by simp at hk ⊢;omega) (getD_replicate_false _ _))]
    exact key n (by simpa using Nat.le_of_lt hlt')
  have hmain:=c6t (C:=C) (n0:=w.heap.size) (Q':=a54 C N Q) (fl:=a05 fl) ho hog hN hback hok' hdst hwait' htail' hd
    (fun listed J vs bs a' w' inv hnf hrdy=>by
      obtain⟨ρ',L',h1,h2,h3⟩:=a3V inv (Nat.le_of_lt hlt') hnf (l.take n) 0 ρ0 L (fun j=>by simp) (Nat.zero_le _)
        (fun t v hv hno=>inv.a7M t v hv (fun j hj _=>hno j (Nat.zero_le _) hj)) inv.st (fun p hp => .inl hp) (hfin J inv.le)
      refine Yld.wp ((h3 a' w' h1 h2).mono ?_)
      rintro v w2 ⟨J1,L2,hs2,hle1,hdu⟩
      rw [hod]
      show wpAnyIn C.fen 0 P .any l.toArray (a54 C N Q) _ _ a' w2
      obtain⟨hG,hdu2⟩:=a8w hdu
      let sp2:Nat→Option Spec:=fun j=>if a05 fl j=true then V7 full j else some (.is (vs j))
      have hsp2:∀ j,a05 fl j=true→sp2 j=V7 full j:=fun j hj=>by simp [sp2,hj]
      have hnonew:∀ j ob,sp2 j≠some (.new ob):=fun j ob he=>by
        by_cases hj:a05 fl j=true
        · rw [hsp2 j hj] at he
          have:=hnew j (a2l.1 hj)
          rw [he] at this
          cases this
        · simp [sp2,hj] at he
      have hsz:listed.size=l.length:=by simpa using inv.head.size
      have hput:∀ j,j≠n→(listed.setIfInBounds n true).getD j false=listed.getD j false:=fun j hj=>getD_set_ne false (Ne.symm hj)
      have inv2:a6Q C N n (n+1) w2.heap.size l.toArray sp2 ρ0 J1 L2 (listed.setIfInBounds n true) J1 vs bs a' w2:=by
        have hh:HeadInv .any l.toArray (n+1) listed:=⟨inv.head.size,inv.head.closed,fun t h4 h5=>inv.head.tail t (by omega) h5⟩
        refine⟨hh.set hrdy (by omega),Le.refl _,hs2,Nat.le_refl _,fun p hp=>D7 (hs2.mem.loc p hp),hs2.W4.size,fun j hj hl ob hob=>absurd hob (hnonew j ob),fun j k _ _ _ _ hoj _ _ => ?_,fun j hj hl => ?_,
          h1.defers,h1.size,fun j d hj hl hd' => ?_,fun t u hu hno => ?_⟩
        · obtain⟨ob,hob⟩:=hoj
          exact absurd hob (hnonew j ob)
        · rw [hput j (by omega)] at hl
          by_cases hfj:a05 fl j=true
          · obtain⟨S,hS,hh2,_⟩:=inv.val j hj hl
            refine⟨S,by rw [hsp2 j hfj];exact hS,Spec.a9J hh2 hle1,fun ob hob => ?_⟩
            exact absurd (by rw [hsp2 j hfj,hS,hob]) (hnonew j ob)
          · exact⟨.is (vs j),by simp [sp2,hfj],rfl,fun ob hob=>by cases hob⟩
        · rw [hput j (by omega)] at hl
          exact inv.a42 j d hj hl hd'
        · exact inv.a7M t u hu fun j hj hl=>hno j hj (by rw [hput j (by omega)];exact hl)
      have hflo:∀ i,i < n→a05 fl i=true→∀ o s,l[i]?=some o→ss[i]?=some s→∃ S,sp2 i=some S∧a6O P N l.toArray sp2 ρ0 J1 L2 o s S:=fun i hi hf oi s hoi hsi=>by
        obtain⟨S,hS,hdd⟩:=hdu2 i (a2l.1 hf) oi s (by simpa using hoi) hsi
        have hfi:=List.all_eq_true.1 hfl i (a2l.1 hf)
        have hoiA:l.toArray[i]?=some oi:=by simpa using hoi
        rw [hoiA,hsi] at hfi
        simp only [Bool.and_eq_true,Option.isNone_iff_eq_none] at hfi
        refine⟨S,by rw [hsp2 i hf];exact hS,a6n hdd (fun t ht j hj => ?_) (fun g w hg => ?_)⟩
        · have:=List.all_eq_true.1 hfi.2.2 t ht
          rw [hj] at this
          exact(hsp2 j this).symm
        · rw [hfi.2.1] at hg;cases hg
      refine c6s hN hback hok' hdst hlt' htail' (by simpa using hseq) hflo (ρ':=ρ') (fun listed3 J3 vs3 bs3 a3 w3 inv3 hall3 hkeep3 => ?_) _ _ J1 vs bs a' w2 inv2 (fun j hj hf=>by rw [hput j (by omega)];exact hnf j hj hf)
        (a0s (by omega)) (fun t v hv _=>h1.tmp t v hv) (a6m (Nat.le_refl _))
      obtain⟨ρ2,hG2,hl2⟩:=b1z (a:=a3) (vs:=vs3) fl ρ' (fun i hi=>by
        have hfi:=List.all_eq_true.1 hfl i hi
        simp only [Bool.and_eq_true] at hfi
        have hin:i < n:=by simpa [Nat.blt_eq] using hfi.1
        obtain⟨S,hS,hh3,_⟩:=inv3.val i hin (hall3 i hin)
        refine⟨⟨S,by rw [←hsp2 i (a2l.2 hi)];exact hS,hh3⟩,fun d hdd=>inv3.a42 i d hin (hall3 i hin) hdd⟩) (hG J3 inv3.le)
      have hNd:R7 N (l.drop (n+1))=true:=by
        simp only [R7,List.all_eq_true] at hN ⊢
        exact fun o ho=>hN o (List.mem_of_mem_drop ho)
      refine hG2 hNd a3 w3 ⟨inv3.defers,inv3.size,fun t v hv => ?_⟩ inv3.st
      rcases hl2 t v hv with ⟨h4,h5⟩|h4
      · exact hkeep3 t v h4 fun j hj hf=>h5 j (a2l.1 hf)
      · exact h4)
    n _ _ _ _ _ _ inv0 hunl
  rw [show n+(l.length - (n+1))+1=l.toArray.size by simp;omega] at hmain
  exact hmain
end late
end Go.Fl
namespace Go.Fl
open Go.RowKit
section
variable {P:Program}{C:Ctx}{N:Nat}{ρ:Env}{I:Im}{L:Lh}{φ:Value→Prop}{K:Value→Im→Lh→Prop}{d:Option Nat}{ty:TypeId}{ps:String}{af:Array Edge}{g:Option (Nat×Bool)}
variable {x y z:Operand}{T T2 E:TypeId}
theorem b2s (w:World)(dd:Nat){a:Option Addr}{n c:Nat}(hT:P.underlying T=some (.slice E)):(Op.equalIn (dd+1) T (.slice a n c) (.slice none 0 0)).run P w = .ok a.isNone w:=by
 cases a<;>simp [Op.equalIn,run_underlying hT]
theorem b6g (w:World){a:Option Addr}{n c:Nat}(hT:P.underlying T=some (.slice E)):(Op.equal T (.slice a n c) (.slice none 0 0)).run P w = .ok a.isNone w:=b2s w 9999 hT
theorem b3S (w:World){a:Option Addr}{n c:Nat}(hT:P.underlying T=some (.slice E)):(binOp .eql T (.slice a n c) (.slice none 0 0)).run P w = .ok (.bool a.isNone) w:=by
 simp only [binOp]
 rw [Sem.run_bind,b6g w hT]
 simp
theorem O3.b2t {a:Option Addr}{n c:Nat}(hT:P.underlying T=some (.slice E))(hx:ev ρ x=some (.slice a n c))(hy:ev ρ y=some (.slice none 0 0))(k:φ (.bool a.isNone)) :
    O3 P N ⟨d,.binOp .eql T x y T2,ty,ps,af,g⟩ ρ I L φ := .mk k fun ac w ha _=>by
  simp [execOp,ha.ev hx,ha.ev hy,eqGuard,b3S w hT]
theorem O3.b2u {y:Operand}{a:Option Addr}{n c h:Nat}{kd:IntKind}{sz:Nat}(hT:P.underlying T=some (.slice E))(hs:G6 P E sz)(hx:ev ρ x=some (.slice a n c))(hy:ev ρ y=some (.int kd (h:Int)))(hc:h≤c)(ha0:a=none→c=0)
    (k:φ (.slice a h c)):O3 P N ⟨d,.slice T x none (some y) none,ty,ps,af,g⟩ ρ I L φ := .mk k fun ac w ha _=>by
  have hr:=a4H (P:=P) (a:=a) (n:=n) (c:=c) (l:=0) (h:=h) (lo:=none) (hi:=some (.int kd (h:Int))) hT hs (.inl ⟨rfl,rfl⟩) (.inr ⟨kd,rfl⟩) (Nat.zero_le _) hc w
  have he:(if c=0 then a else a.map (·.add (0*sz)))=a:=by
    split
    · rfl
    · cases a with
      | none=>rfl
      | some ad=>cases ad;simp [Addr.add]
  rw [he] at hr
  simp [execOp,ha.ev hx,ha.ev hy,hr]
theorem Own.cut {e:TypeId}{s n k b c:Nat}{xs:List Value}{X:List (Nat×Obj)}(h:Own e s (slc b 0 n c) n xs X)(hk:k≤n):Own e s (slc b 0 k c) k (xs.take (k*s)) X:=by
 rcases h with ⟨h1,_⟩|⟨b',c',sp,h1,rfl,h2,h3,h4,h5⟩
 ·cases h1
 ·cases h1
  have hle:k*s≤n*s:=Nat.mul_le_mul_right _ hk
  refine .inr ⟨b,c,xs.drop (k*s)++sp,rfl,by rw [←List.append_assoc,List.take_append_drop],?_,?_,by omega,h5⟩
  ·rw [List.length_take,h2];exact Nat.min_eq_left hle
  ·rw [←List.append_assoc,List.take_append_drop];exact h3
theorem wpL.pad {ops:Array Oper}{Q:Exit→Env→Im→Lh→Prop}{l:List Oper}(h:wpL P C N ops Q l ρ I ([]::L)):wpL P C N ops Q l ρ I L:=fun hd a w ha hs =>
 h hd a w ha ⟨⟨hs.mem.im,by simpa using hs.mem.loc,by simpa using hs.mem.sep,by simpa using hs.mem.nodup⟩,hs.W4,by simpa using hs.own,hs.U9,hs.new⟩
theorem wpS.pad {c:Code}{Q:Exit→Env→Im→Lh→Prop}(h:wpS P C N c Q ρ I ([]::L)):wpS P C N c Q ρ I L:=fun a w ha hs =>
 h a w ha ⟨⟨hs.mem.im,by simpa using hs.mem.loc,by simpa using hs.mem.sep,by simpa using hs.mem.nodup⟩,hs.W4,by simpa using hs.own,hs.U9,hs.new⟩
theorem OpS.c4h (i:Nat){by_ n m:Nat}{v zv:Value}{kd:IntKind}{xs:List Value}{X:List (Nat×Obj)}{U:TypeId}{inf:TypeInfo}(hT:P.underlying T=some (.slice E))(hi:P.info? E=some inf)(hz:inf.zero=some zv)(hz1:zv.cells = #[zv])
    (hsz:inf.size=1)(hone:zv.oneCell'=true)(hU:P.underlying U=some (.int kd))
    (hx:ev ρ x=some v)(hy:ev ρ y=some (i64 (m:Int)))(hL:L[i]?=some X)(hown:Own E 1 v n xs X)
    (hn63:n+m≤maxLen)(hb:(n+m)*inf.bytes≤140737488355328)(k:∀ v' X',Own E 1 v' (n+m) (xs++List.replicate m zv) X'→K v' I (L.set i X')) :
    OpS P C N ⟨d,.call ⟨.builtin .append,#[x,y],#[T,U]⟩,ty,ps,af,g⟩ ρ I L K:=fun a w ha hst=>by
  obtain⟨a0,c,rfl⟩:=hown.shape
  have h63:n+m≤9223372036854775807:=by unfold maxLen at hn63;omega
  have hzc:∀ q,Builtin.zeroCells zv.cells q=(List.replicate q zv).toArray:=fun q=>by
    apply Array.ext'
    simp [Builtin.zeroCells,hz1,Nat.mod_one]
    rw [List.map_const']
    simp
  have hw:IntKind.wrap .i64 (m:Int)=(m:Int):=wrap_i64 (by omega) (by omega)
  have hm00:¬((m:Int) < 0):=by omega
  have hw0:IntKind.wrap .i64 0=0:=wrap_i64 (by omega) (by omega)
  have hmb:¬((m:Int)*(inf.bytes:Int)>281474976710656):=by
    have:m*inf.bytes≤(n+m)*inf.bytes:=Nat.mul_le_mul_right _ (by omega)
    have h2:((m*inf.bytes:Nat):Int)≤140737488355328:=Int.ofNat_le.2 (Nat.le_trans this hb)
    rw [Int.natCast_mul] at h2
    omega
  have hmb':¬(281474976710656 < (m:Int)*(inf.bytes:Int)):=hmb
  refine a8v (inf:=inf) (zv:=zv) (news:=List.replicate m zv) i (by rw [hz1,hsz];rfl) hx hy ha hst hL (by rw [hsz];exact hown) (by simp [hsz]) (by simp [a0W,List.all_replicate,hone]) hn63 ⟨fun hle => ?_,fun hlt olds hold => ?_⟩ (by rw [hsz];exact k)
  · by_cases hm0:m=0
    · subst hm0
      cases a0<;>simp [Builtin.append_,run_underlying hT,run_underlying hU,sizeOf,typeInfo,zeroValue,hi,hz,asInt,asIntOf,hw,hw0,(show n≤c by simpa using hle),hsz]
    · cases a0<;>simp [Builtin.append_,run_underlying hT,run_underlying hU,sizeOf,typeInfo,zeroValue,hi,hz,asInt,asIntOf,hw,hw0,hm00,hmb',hle,hsz,hm0,hzc]
  · rw [hsz] at hold
    have hfit:¬(281474976710656 < Builtin.nextslicecap (n+m) c*inf.bytes):=by have:=growslice_fits hlt hb;omega
    have hnle:¬(n+m≤c):=by omega
    have h63':¬(9223372036854775807 < ((n:Int)+(m:Int))):=by omega
    by_cases hm0:m=0
    · subst hm0
      have hnle':¬n≤c:=by simpa using hnle
      have hfit':¬(281474976710656 < Builtin.nextslicecap n c*inf.bytes):=by simpa using hfit
      have h63'':¬(9223372036854775807 < (n:Int)):=by omega
      simp [Builtin.append_,run_underlying hT,run_underlying hU,sizeOf,typeInfo,zeroValue,hi,hz,asInt,asIntOf,hw,hw0,hnle',hfit',h63'',Question.forced,newRow,grownCap,hold,hsz,hzc]
    · simp [Builtin.append_,run_underlying hT,run_underlying hU,sizeOf,typeInfo,zeroValue,hi,hz,asInt,asIntOf,hw,hw0,hm00,hmb',hnle,h63',hfit,Question.forced,newRow,grownCap,hold,hsz,hzc,hm0]
def b1e (P:Program)(E:TypeId)(by_:Nat)(zv:Value):Prop:=((P.info? E).bind fun inf=>inf.zero.map fun z=>(inf.size,inf.bytes,z))=some (1,by_,zv)
theorem b1e.of {by_:Nat}{zv:Value}(h:((P.info? E).bind fun inf=>inf.zero.map fun z=>(inf.size,inf.bytes,z))=some (1,by_,zv)):b1e P E by_ zv:=h
theorem b1e.get {by_:Nat}{zv:Value}(h:b1e P E by_ zv):∃ inf,P.info? E=some inf∧inf.zero=some zv∧inf.size=1∧inf.bytes=by_:=by
 unfold b1e at h
 cases hi:P.info? E with
 | none=>simp [hi] at h
 | some inf =>
  cases hz:inf.zero with
  | none=>simp [hi,hz] at h
  | some z =>
   simp [hi,hz] at h
   obtain⟨h1,h2,rfl⟩:=h
   exact⟨inf,j0,hz,h1,h2⟩
theorem OpS.b6h (i:Nat){by_ n m:Nat}{v zv:Value}{kd:IntKind}{xs:List Value}{X:List (Nat×Obj)}{U:TypeId}(hT:P.underlying T=some (.slice E))(h1:b1e P E by_ zv)(hz1:zv.cells = #[zv])
    (hone:zv.oneCell'=true)(hU:P.underlying U=some (.int kd))(hx:ev ρ x=some v)(hy:ev ρ y=some (i64 (m:Int)))(hL:L[i]?=some X)(hown:Own E 1 v n xs X)
    (hn63:n+m≤maxLen)(hb:(n+m)*by_≤140737488355328)(k:∀ v' X',Own E 1 v' (n+m) (xs++List.replicate m zv) X'→K v' I (L.set i X')) :
    OpS P C N ⟨d,.call ⟨.builtin .append,#[x,y],#[T,U]⟩,ty,ps,af,g⟩ ρ I L K:=by
  obtain⟨inf,hi,hz,hs,rfl⟩:=h1.get
  exact .c4h i (by_:=0) hT hi hz hz1 hs hone hU hx hy hL hown hn63 hb k
theorem c4i:evP ρ []=some []:=rfl
theorem a9X {i:Nat}{v:Value}{r:List (Nat×Operand)}{l:List (Nat×Value)}(h:ev ρ x=some v)(h2:evP ρ r=some l):evP ρ ((i,x)::r)=some ((i,v)::l):=by simp [evP,h,h2]
end
end Go.Fl
namespace Go.Fl
open Go.RowKit
section
variable {P:Program}{C:Ctx}{N:Nat}{ρ:Env}{I:Im}{L:Lh}{φ:Value→Prop}{K:Value→Im→Lh→Prop}{d:Option Nat}{ty:TypeId}{ps:String}{af:Array Edge}{g:Option (Nat×Bool)}
variable {x y z:Operand}{T T2 E:TypeId}
theorem a48 (w:World)(dd:Nat){kd kd2:IntKind}{m n:Int}(hT:P.underlying T=some (.int kd2)):(Op.equalIn (dd+1) T (.int kd m) (.int kd n)).run P w = .ok (decide (m=n)) w:=by
 have:(m == n)=decide (m=n):=rfl
 simp [Op.equalIn,run_underlying hT,this]
theorem a6T (w:World){dd:TypeDesc}(hT:P.underlying E=some dd)(hd:a1O dd=false){cs:Array Value}{i:Nat}{v:Value}(hv:cs[i]?=some v):(part E cs i).run P w = .ok v w:=by
 simp [part,a2U hT,hd,hv]
theorem a1T (w:World)(dd:Nat){kd kd2:IntKind}(hE:P.underlying E=some (.int kd2))(ags bs:List Int)(hl:ags.length=bs.length):∀ is:List Nat,(∀ i∈is,i < ags.length) →
    (Op.eqItems (dd+1) E 1 (ags.map (Value.int kd)).toArray (bs.map (Value.int kd)).toArray is).run P w = .ok (is.all fun i=>decide (ags[i]?=bs[i]?)) w
  | [],_=>by simp [Op.eqItems]
  | i::is,h=>by
    have hi:=h i List.mem_cons_self
    have h1:(ags.map (Value.int kd)).toArray[i*1]?=some (.int kd ags[i]):=by simp [hi]
    have h2:(bs.map (Value.int kd)).toArray[i*1]?=some (.int kd (bs[i]'(by omega))):=by simp [show i < bs.length by omega]
    have h3:(ags[i]?=bs[i]?)=(ags[i]=bs[i]'(by omega)):=by
      rw [List.getElem?_eq_getElem hi,List.getElem?_eq_getElem (show i < bs.length by omega)]
      simp
    simp only [Op.eqItems,Sem.run_bind,a6T w hE rfl h1,a6T w hE rfl h2,Result.andThen_ok,a48 w dd hE,List.all_cons,h3]
    by_cases he:ags[i]=bs[i]'(by omega)
    · simp only [he,decide_true,Bool.not_true,Bool.false_eq_true,if_false,Bool.true_and]
      exact a1T w dd hE ags bs hl is fun j hj=>h j (List.mem_cons_of_mem _ hj)
    · simp [he]
theorem a6U {α:Type}[DecidableEq α](ags bs:List α)(hl:ags.length=bs.length):((List.range ags.length).all fun i=>decide (ags[i]?=bs[i]?))=decide (ags=bs):=by
 by_cases h:ags=bs
 ·subst h;simp
 ·rw [decide_eq_false h]
  rw [List.all_eq_false]
  refine Classical.byContradiction fun hno=>h (List.ext_getElem? fun i => ?_)
  rcases Nat.lt_or_ge i ags.length with hi|hi
  ·refine Classical.byContradiction fun hne=>hno ⟨i,List.mem_range.2 hi,by simpa using hne⟩
  ·rw [List.getElem?_eq_none hi,List.getElem?_eq_none (by omega)]
theorem a9Y (w:World){kd kd2:IntKind}{n:Nat}(hT:P.underlying T=some (.array n E))(hs:G6 P E 1)(hE:P.underlying E=some (.int kd2))(ags bs:List Int)(ha:ags.length=n)(hb:bs.length=n) :
    (Op.equal T (.agg (ags.map (Value.int kd)).toArray) (.agg (bs.map (Value.int kd)).toArray)).run P w = .ok (decide (ags=bs)) w:=by
  unfold G6 at hs
  cases hi:P.info? E with
  | none=>simp [hi] at hs
  | some inf =>
    have hc:P.cellsOf E=1:=by simp [hi] at hs;simp [Program.cellsOf,hi,hs]
    have h1:=run_equalIn_array (P:=P) w 9999 (ags.map (Value.int kd)).toArray (bs.map (Value.int kd)).toArray hT hi
    rw [hc,←ha,a1T w 9998 hE ags bs (by omega) _ (fun i hi=>List.mem_range.1 hi),a6U ags bs (by omega)] at h1
    exact h1
theorem b6i (w:World){xs ys:Array Value}{b:Bool}(h:(Op.equal T (.agg xs) (.agg ys)).run P w = .ok b w):(binOp .eql T (.agg xs) (.agg ys)).run P w = .ok (.bool b) w:=by
 simp only [binOp]
 rw [Sem.run_bind,h]
 simp
theorem a5K (w:World){op:BinOp}{xs ys:Array Value}(hg:P.eqGuardType P.depth T=false):(eqGuard op T x y (.agg xs) (.agg ys)).run P w = .ok () w:=run_eqGuard_agg w op T x y xs ys hg
theorem a5a {α:Type}(f:α→Int)(hf:∀ a b,f a=f b→a=b)(ags bs:List α):(ags.map f=bs.map f)↔ags=bs:=⟨fun h=>List.map_inj_right (fun a b=>hf a b) |>.1 h,fun h=>h▸rfl⟩
theorem O3.d1R {n:Nat}{ags bs:List UInt8}(hT:P.underlying T=some (.array n E))(hs:G6 P E 1)(hE:P.underlying E=some (.int .u8))(hg:P.eqGuardType P.depth T=false)(ha':ags.length=n)(hb':bs.length=n)
    (hx:ev ρ x=some (.agg (C5 ags).toArray))(hy:ev ρ y=some (.agg (C5 bs).toArray))(k:φ (.bool (decide (ags=bs)))):O3 P N ⟨d,.binOp .eql T x y T2,ty,ps,af,g⟩ ρ I L φ := .mk k fun a w ha _=>by
  have e1:∀ l:List UInt8,C5 l=(l.map fun c=>(c.toNat:Int)).map (Value.int .u8):=fun l=>by simp [C5,u8]
  have h:=a9Y (P:=P) (T:=T) (kd := .u8) w hT hs hE (ags.map fun c=>(c.toNat:Int)) (bs.map fun c=>(c.toNat:Int)) (by simpa using ha') (by simpa using hb')
  rw [←e1,←e1] at h
  have hd:decide ((ags.map fun c=>(c.toNat:Int))=(bs.map fun c=>(c.toNat:Int)))=decide (ags=bs):=by
    rw [decide_eq_decide]
    exact a5a _ (fun a b h=>UInt8.toNat_inj.1 (Int.ofNat_inj.1 h)) ags bs
  rw [hd] at h
  simp only [execOp,ha.ev hx,ha.ev hy,Sem.run_bind,a5K w hg,b6i w h,Result.andThen_ok,Sem.run_pure]
theorem OpX.frz {o:Oper}(h:OpX P N o ρ I L (fun v J X=>∀ J',Le J J'→(∀ p∈X.flatten,J' p.1=some p.2)→K v J' [])):OpX P N o ρ I L K:=fun a w ha hm =>
 (h a w ha hm).mono fun v w' ⟨J,X,hc,hle,hn,hm',hX,hk⟩=>by
  have hnd:(X.flatten.map Prod.fst).Nodup:=by
   have hsub:X.flatten.Sublist (X++L).flatten:=by simp
   exact(hsub.map Prod.fst).nodup hm'.nodup
  have hsepX:∀ p∈X.flatten,J p.1=none:=fun p hp=>hm'.sep p (by simp [hp])
  have hdis:∀ p∈L.flatten,∀ q∈X.flatten,p.1≠q.1:=fun p hp q hq e=>by
   have:=hm'.nodup
   simp only [List.flatten_append,List.map_append,List.nodup_append] at this
   exact this.2.2 q.1 (List.mem_map_of_mem hq) p.1 (List.mem_map_of_mem hp) e.symm
  refine⟨J.with X.flatten,[],hc,hle.trans (Im.a03 hsepX),fun b h0 h1 => ?_,⟨fun b o hb => ?_,fun p hp=>hm'.loc p (by simp at hp ⊢;exact .inr hp),fun p hp => ?_,?_⟩,by simp,hk _ (Im.a03 hsepX) (fun p hp=>Im.a0U hnd hp)⟩
  ·cases hj:J b with
   | some o=>exact hn b h0 (by simp [hj])
   | none =>
    obtain⟨o,ho⟩:=Option.ne_none_iff_exists'.1 h1
    rcases Im.a0g ho with h2|h2
    ·exact hX _ h2
    ·rw [hj] at h2;cases h2
  ·rcases Im.a0g hb with h2|h2
   ·exact hm'.loc (b,o) (by simp [h2])
   ·exact hm'.im b o h2
  ·have hp':p∈L.flatten:=by simpa using hp
   cases hj:(J.with X.flatten) p.1 with
   | none=>rfl
   | some o =>
    rcases Im.a0g hj with h2|h2
    ·exact absurd rfl (hdis p hp' (p.1,o) h2)
    ·rw [hm'.sep p (by simp at hp' ⊢;exact .inr hp')] at h2;cases h2
  ·have hsub:L.flatten.Sublist (X++L).flatten:=by simp
   simpa using (hsub.map Prod.fst).nodup hm'.nodup
end
end Go.Fl
namespace Go.Proofs.YtfdifhfnpbphaaaGreatDoor
open Go.Proofs.Tryz
open Go.Fl
theorem sz5:G6 prog 5 1 := .of (by kernel_rfl)
theorem c84:b1e prog 5 1 (u8 0) := .of (by kernel_rfl)
theorem z5:Y4 prog 5=some ([u8 0]):=by kernel_rfl
theorem c1C:G6 prog 28 32 := .of (by kernel_rfl)
theorem b9y:prog.eqGuardType prog.depth 28=false:=by kernel_rfl
theorem a1s:O7 prog 28=some (32,1,false):=by kernel_rfl
theorem z28:Y4 prog 28=some (List.replicate 32 (u8 0)):=by kernel_rfl
theorem c7c:y4 prog 31 0=some (0,1,false):=by kernel_rfl
theorem c7d:y4 prog 31 1=some (1,1,false):=by kernel_rfl
theorem d1S:E5 prog 31=some [(0,1),(1,1)]:=by kernel_rfl
theorem a0X:Elt prog 34 5 1 1 := .of (by kernel_rfl)
theorem z34:Y4 prog 34=some ([.slice none 0 0]):=by kernel_rfl
theorem c7e:O7 prog 35=some (2,1,false):=by kernel_rfl
theorem c1D:y4 prog 37 0=some (0,2,true):=by kernel_rfl
theorem c1E:y4 prog 37 1=some (2,1,false):=by kernel_rfl
theorem c1F:y4 prog 37 2=some (3,1,false):=by kernel_rfl
theorem c1G:y4 prog 37 3=some (4,1,false):=by kernel_rfl
theorem c1H:y4 prog 37 4=some (5,1,false):=by kernel_rfl
theorem c1I:y4 prog 37 5=some (6,1,false):=by kernel_rfl
theorem c1J:y4 prog 37 6=some (7,1,false):=by kernel_rfl
theorem d1T:E5 prog 37=some [(0,2),(2,1),(3,1),(4,1),(5,1),(6,1),(7,1)]:=by kernel_rfl
theorem c1K:y4 prog 39 0=some (0,32,true):=by kernel_rfl
theorem c1L:y4 prog 39 1=some (32,2,true):=by kernel_rfl
theorem c1M:y4 prog 39 2=some (34,1,false):=by kernel_rfl
theorem c1N:y4 prog 39 3=some (35,1,false):=by kernel_rfl
theorem c1O:y4 prog 39 4=some (36,8,true):=by kernel_rfl
theorem c1P:y4 prog 39 5=some (44,1,false):=by kernel_rfl
theorem d1U:E5 prog 39=some [(0,32),(32,2),(34,1),(35,1),(36,8),(44,1)]:=by kernel_rfl
theorem b2v:y4 prog 46 0=some (0,1,false):=by kernel_rfl
theorem c7f:y4 prog 46 1=some (1,32,true):=by kernel_rfl
theorem a9Z:y4 prog 46 2=some (33,1,false):=by kernel_rfl
theorem a3B:y4 prog 46 3=some (34,1,false):=by kernel_rfl
theorem a23:y4 prog 46 4=some (35,1,false):=by kernel_rfl
theorem c4j:E5 prog 46=some [(0,1),(1,32),(33,1),(34,1),(35,1)]:=by kernel_rfl
theorem c7g:y4 prog 48 0=some (0,36,true):=by kernel_rfl
theorem c7h:y4 prog 48 1=some (36,36,true):=by kernel_rfl
theorem c7i:y4 prog 48 2=some (72,45,true):=by kernel_rfl
theorem c7j:y4 prog 48 3=some (117,45,true):=by kernel_rfl
theorem d1V:E5 prog 48=some [(0,36),(36,36),(72,45),(117,45)]:=by kernel_rfl
theorem c1Q:y4 prog 53 0=some (0,1,false):=by kernel_rfl
theorem b2w:y4 prog 53 1=some (1,1,false):=by kernel_rfl
theorem d1W:E5 prog 53=some [(0,1),(1,1)]:=by kernel_rfl
theorem c7k:y4 prog 77 0=some (0,1,false):=by kernel_rfl
theorem c7l:y4 prog 77 1=some (1,1,false):=by kernel_rfl
theorem c7m:y4 prog 77 2=some (2,1,false):=by kernel_rfl
theorem c7n:y4 prog 77 3=some (3,32,true):=by kernel_rfl
theorem d1X:E5 prog 77=some [(0,1),(1,1),(2,1),(3,32)]:=by kernel_rfl
theorem c1R:y4 prog 81 0=some (0,1,false):=by kernel_rfl
theorem b6j:y4 prog 81 1=some (1,32,true):=by kernel_rfl
theorem c1S:E5 prog 81=some [(0,1),(1,32)]:=by kernel_rfl
theorem c4k:y4 prog 101 0=some (0,1,false):=by kernel_rfl
theorem b2x:y4 prog 101 1=some (1,1,false):=by kernel_rfl
theorem b2y:y4 prog 101 2=some (2,1,false):=by kernel_rfl
theorem b7X:y4 prog 101 3=some (3,32,true):=by kernel_rfl
theorem b2z:y4 prog 101 4=some (35,1,false):=by kernel_rfl
theorem c4l:y4 prog 101 5=some (36,32,true):=by kernel_rfl
theorem b7Y:E5 prog 101=some [(0,1),(1,1),(2,1),(3,32),(35,1),(36,32)]:=by kernel_rfl
theorem c4m:y4 prog 107 0=some (0,32,true):=by kernel_rfl
theorem c4n:y4 prog 107 1=some (32,1,false):=by kernel_rfl
theorem b7Z:y4 prog 107 2=some (33,32,true):=by kernel_rfl
theorem c6v:E5 prog 107=some [(0,32),(32,1),(33,32)]:=by kernel_rfl
theorem c4o:y4 prog 109 0=some (0,32,true):=by kernel_rfl
theorem c4p:y4 prog 109 1=some (32,1,false):=by kernel_rfl
theorem c4q:y4 prog 109 2=some (33,1,false):=by kernel_rfl
theorem b8a:y4 prog 109 3=some (34,1,false):=by kernel_rfl
theorem c6w:E5 prog 109=some [(0,32),(32,1),(33,1),(34,1)]:=by kernel_rfl
theorem b8b:y4 prog 114 0=some (0,1,false):=by kernel_rfl
theorem b8c:y4 prog 114 1=some (1,1,false):=by kernel_rfl
theorem b8d:y4 prog 114 2=some (2,1,false):=by kernel_rfl
theorem c86:E5 prog 114=some [(0,1),(1,1),(2,1)]:=by kernel_rfl
theorem b8e:y4 prog 116 0=some (0,1,false):=by kernel_rfl
theorem b8f:y4 prog 116 1=some (1,1,false):=by kernel_rfl
theorem b8g:y4 prog 116 2=some (2,32,true):=by kernel_rfl
theorem b8h:y4 prog 116 3=some (34,32,true):=by kernel_rfl
theorem b8i:y4 prog 116 4=some (66,3,true):=by kernel_rfl
theorem b8j:y4 prog 116 5=some (69,68,true):=by kernel_rfl
theorem c4r:y4 prog 116 6=some (137,1,false):=by kernel_rfl
theorem c88:E5 prog 116=some [(0,1),(1,1),(2,32),(34,32),(66,3),(69,68),(137,1)]:=by kernel_rfl
theorem a9o:y4 prog 131 0=some (0,1,false):=by kernel_rfl
theorem a9p:y4 prog 131 1=some (1,1,false):=by kernel_rfl
theorem a0F:y4 prog 131 2=some (2,1,false):=by kernel_rfl
theorem a0G:y4 prog 131 3=some (3,1,false):=by kernel_rfl
theorem c4s:y4 prog 131 4=some (4,1,false):=by kernel_rfl
theorem c4t:y4 prog 131 5=some (5,1,false):=by kernel_rfl
theorem c1T:E5 prog 131=some [(0,1),(1,1),(2,1),(3,1),(4,1),(5,1)]:=by kernel_rfl
theorem c4u:y4 prog 138 0=some (0,138,true):=by kernel_rfl
theorem c4v:y4 prog 138 1=some (138,1,false):=by kernel_rfl
theorem c89:E5 prog 138=some [(0,138),(138,1)]:=by kernel_rfl
theorem c4w:y4 prog 147 0=some (0,1,false):=by kernel_rfl
theorem c4x:y4 prog 147 1=some (1,6,true):=by kernel_rfl
theorem c4y:y4 prog 147 2=some (7,1,false):=by kernel_rfl
theorem c4z:y4 prog 147 3=some (8,1,false):=by kernel_rfl
theorem c4A:y4 prog 147 4=some (9,1,false):=by kernel_rfl
theorem c9a:E5 prog 147=some [(0,1),(1,6),(7,1),(8,1),(9,1)]:=by kernel_rfl
theorem c4B:y4 prog 164 0=some (0,138,true):=by kernel_rfl
theorem c4C:y4 prog 164 1=some (138,1,false):=by kernel_rfl
theorem c9b:E5 prog 164=some [(0,138),(138,1)]:=by kernel_rfl
theorem b1A:Elt prog 168 34 1 24 := .of (by kernel_rfl)
theorem P1:y4 prog 200 0=some (0,36,true):=by kernel_rfl
theorem b2A:y4 prog 200 1=some (36,1,false):=by kernel_rfl
theorem c9c:E5 prog 200=some [(0,36),(36,1)]:=by kernel_rfl
theorem c4D:y4 prog 215 0=some (0,1,false):=by kernel_rfl
theorem c4E:y4 prog 215 1=some (1,1,false):=by kernel_rfl
theorem c9d:E5 prog 215=some [(0,1),(1,1)]:=by kernel_rfl
theorem c4F:y4 prog 235 0=some (0,1,false):=by kernel_rfl
theorem c6x:O7 prog 253=some (5,1,false):=by kernel_rfl
theorem c1U:G6 prog 257 1 := .of (by kernel_rfl)
theorem a56:G6 prog 258 8 := .of (by kernel_rfl)
theorem a3j:O7 prog 258=some (8,1,false):=by kernel_rfl
theorem c4G:Y4 prog 258=some (List.replicate 8 (u32 0)):=by kernel_rfl
theorem b3T:G6 prog 260 10 := .of (by kernel_rfl)
theorem a9q:y4 prog 260 0=some (0,8,true):=by kernel_rfl
theorem b8k:y4 prog 260 1=some (8,1,false):=by kernel_rfl
theorem b8l:y4 prog 260 2=some (9,1,false):=by kernel_rfl
theorem c6y:E5 prog 260=some [(0,8),(8,1),(9,1)]:=by kernel_rfl
theorem c4H:Y4 prog 260=some ((List.replicate 8 (u32 0)) ++ [.slice none 0 0,i64 0]):=by kernel_rfl
theorem c4I:y4 prog 270 0=some (0,1,false):=by kernel_rfl
theorem c4J:y4 prog 270 1=some (1,1,false):=by kernel_rfl
theorem c4K:y4 prog 270 2=some (2,1,false):=by kernel_rfl
theorem c9e:E5 prog 270=some [(0,1),(1,1),(2,1)]:=by kernel_rfl
theorem c4L:y4 prog 273 0=some (0,1,false):=by kernel_rfl
theorem c9f:E5 prog 273=some [(0,1)]:=by kernel_rfl
theorem c4M:y4 prog 276 0=some (0,1,false):=by kernel_rfl
theorem c9g:E5 prog 276=some [(0,1)]:=by kernel_rfl
theorem c4N:y4 prog 279 0=some (0,1,false):=by kernel_rfl
theorem c9h:E5 prog 279=some [(0,1)]:=by kernel_rfl
theorem c9i:O7 prog 284=some (3,1,false):=by kernel_rfl
theorem b8m:G6 prog 309 64 := .of (by kernel_rfl)
theorem a8x:O7 prog 309=some (64,1,false):=by kernel_rfl
theorem c7o:Y4 prog 309=some (List.replicate 64 (u32 0)):=by kernel_rfl
theorem c1V:O7 prog 323=some (8,1,false):=by kernel_rfl
theorem c4O:y4 prog 342 0=some (0,1,false):=by kernel_rfl
theorem c4P:y4 prog 342 1=some (1,1,false):=by kernel_rfl
theorem c9j:E5 prog 342=some [(0,1),(1,1)]:=by kernel_rfl
theorem c4Q:y4 prog 344 0=some (0,2,true):=by kernel_rfl
theorem c4R:y4 prog 344 1=some (2,1,false):=by kernel_rfl
theorem c9k:E5 prog 344=some [(0,2),(2,1)]:=by kernel_rfl
theorem a6V:y4 prog 348 0=some (0,1,false):=by kernel_rfl
theorem a5L:y4 prog 348 1=some (1,1,false):=by kernel_rfl
theorem c4S:y4 prog 348 2=some (2,1,false):=by kernel_rfl
theorem c9l:E5 prog 348=some [(0,1),(1,1),(2,1)]:=by kernel_rfl
end Go.Proofs.YtfdifhfnpbphaaaGreatDoor
namespace Go.Sha
open Go.Fl
def a7S (x:UInt32)(n:Nat):UInt32:=x >>> UInt32.ofNat n ||| x <<< UInt32.ofNat (32 - n)
def s0 (x:UInt32):UInt32:=a7S x 7 ^^^ a7S x 18 ^^^ x >>> UInt32.ofNat 3
def s1 (x:UInt32):UInt32:=a7S x 17 ^^^ a7S x 19 ^^^ x >>> UInt32.ofNat 10
def beW (l:List UInt8)(t:Nat):UInt32 :=
 (l.getD (4*t) 0).toUInt32 <<< UInt32.ofNat 24 ||| (l.getD (4*t+1) 0).toUInt32 <<< UInt32.ofNat 16 ||| (l.getD (4*t+2) 0).toUInt32 <<< UInt32.ofNat 8 ||| (l.getD (4*t+3) 0).toUInt32
def next (l:List UInt8)(w:List UInt32)(t:Nat):UInt32 :=
 if t < 16 then beW l t else s1 (w.getD (t - 2) 0)+w.getD (t - 7) 0+s0 (w.getD (t - 15) 0)+w.getD (t - 16) 0
def wl (l:List UInt8):Nat→List UInt32
 | 0 => []
 | t+1=>wl l t ++ [next l (wl l t) t]
theorem a3W (l:List UInt8):∀ t,(wl l t).length=t
 | 0=>rfl
 | t+1=>by simp [wl,a3W l t]
def a2z (l:List UInt8)(t:Nat):List Value:=(wl l t++List.replicate (64 - t) 0).map u32
theorem a0h (l:List UInt8)(t:Nat)(h:t≤64):(a2z l t).length=64:=by simp [a2z,a3W];omega
theorem b3U (l:List UInt8):a2z l 0=List.replicate 64 (u32 0):=by simp [a2z,wl]
theorem b6k (l:List UInt8):a2z l 64=(wl l 64).map u32:=by simp [a2z]
theorem a4g (l:List UInt8)(t i j:Nat)(hj:j=i)(h:i < t):(a2z l t)[j]?=some (u32 ((wl l t).getD i 0)):=by
 subst hj
 have hl:=a3W l t
 simp only [a2z,List.map_append]
 rw [List.getElem?_append_left (by simp;omega),List.getElem?_map]
 simp [List.getD,List.getElem?_eq_getElem (show j < (wl l t).length by omega)]
theorem a90 (l:List UInt8)(t j:Nat)(hj:j=t)(h:t < 64):G1 (a2z l t) j [u32 (next l (wl l t) t)]=a2z l (t+1):=by
 subst hj
 have hl:=a3W l j
 rw [b6b _ _ _ (by rw [a0h l j (by omega)];exact h)]
 simp only [a2z,wl,List.map_append]
 rw [List.set_append_right _ _ (by simp;omega)]
 have:64 - j=(64 - (j+1))+1:=by omega
 rw [this,List.replicate_succ]
 simp [hl]
theorem c4T (l:List UInt8)(i j:Nat)(hj:j=i)(h:i < l.length):(C5 l)[j]?=some (u8 (l.getD i 0)):=by
 subst hj
 simp [C5,List.getD,h]
structure H8 where
 (a b c d e f g h:UInt32)
def H8.l (x:H8):List UInt32 := [x.a,x.b,x.c,x.d,x.e,x.f,x.g,x.h]
def H8.cells (x:H8):List Value := [u32 x.a,u32 x.b,u32 x.c,u32 x.d,u32 x.e,u32 x.f,u32 x.g,u32 x.h]
def H8.v (x:H8):Value := .agg x.cells.toArray
def H8.at (x:H8)(i:Nat):UInt32:=x.l.getD i 0
def kk:List UInt32 := [0x428a2f98,0x71374491,0xb5c0fbcf,0xe9b5dba5,0x3956c25b,0x59f111f1,0x923f82a4,0xab1c5ed5,0xd807aa98,0x12835b01,0x243185be,0x550c7dc3,0x72be5d74,0x80deb1fe,0x9bdc06a7,0xc19bf174,0xe49b69c1,0xefbe4786,0x0fc19dc6,0x240ca1cc,0x2de92c6f,0x4a7484aa,0x5cb0a9dc,0x76f988da,0x983e5152,0xa831c66d,0xb00327c8,0xbf597fc7,0xc6e00bf3,0xd5a79147,0x06ca6351,0x14292967,0x27b70a85,0x2e1b2138,0x4d2c6dfc,0x53380d13,0x650a7354,0x766a0abb,0x81c2c92e,0x92722c85,0xa2bfe8a1,0xa81a664b,0xc24b8b70,0xc76c51a3,0xd192e819,0xd6990624,0xf40e3585,0x106aa070,0x19a4c116,0x1e376c08,0x2748774c,0x34b0bcb5,0x391c0cb3,0x4ed8aa4a,0x5b9cca4f,0x682e6ff3,0x748f82ee,0x78a5636f,0x84c87814,0x8cc70208,0x90befffa,0xa4506ceb,0xbef9a3f7,0xc67178f2]
def c9m (x:H8)(k w:UInt32):UInt32:=x.h+((a7S x.e 6 ^^^ a7S x.e 11) ^^^ a7S x.e 25)+((x.e &&& x.f) ^^^ (~~~x.e &&& x.g))+k+w
def d1Y (x:H8):UInt32:=((a7S x.a 2 ^^^ a7S x.a 13) ^^^ a7S x.a 22)+(((x.a &&& x.b) ^^^ (x.a &&& x.c)) ^^^ (x.b &&& x.c))
def rnd (x:H8)(k w:UInt32):H8:=⟨c9m x k w+d1Y x,x.a,x.b,x.c,x.d+c9m x k w,x.e,x.f,x.g⟩
def rounds (ws:List UInt32)(x:H8):Nat→H8
 | 0=>x
 | t+1=>rnd (rounds ws x t) (kk.getD t 0) (ws.getD t 0)
def H8.add (x y:H8):H8:=⟨x.a+y.a,x.b+y.b,x.c+y.c,x.d+y.d,x.e+y.e,x.f+y.f,x.g+y.g,x.h+y.h⟩
def compress (x:H8)(l:List UInt8):H8:=(rounds (wl l 64) x 64).add x
def H8.mix (v o:H8)(i:Nat):List Value:=((v.add o).l.take i++v.l.drop i).map u32
theorem c4U (v o:H8)(i j:Nat)(hj:j=i)(h:i < 8):(v.mix o i)[j]?=some (u32 (v.at i)):=by
 subst hj
 match j,h with
 | 0,_|1,_|2,_|3,_|4,_|5,_|6,_|7,_=>rfl
theorem b1B (o:H8)(i j:Nat)(hj:j=i)(h:i < 8):o.cells[j]?=some (u32 (o.at i)):=by
 subst hj
 match j,h with
 | 0,_|1,_|2,_|3,_|4,_|5,_|6,_|7,_=>rfl
theorem c4V (v o:H8)(i j:Nat)(hj:j=i)(h:i < 8):G1 (v.mix o i) j [u32 (v.at i+o.at i)]=v.mix o (i+1):=by
 subst hj
 match j,h with
 | 0,_|1,_|2,_|3,_|4,_|5,_|6,_|7,_=>rfl
theorem b6l (v o:H8)(i:Nat)(h:i≤8):(v.mix o i).length=8:=by
 simp [H8.mix,H8.l];omega
theorem c6z (l:List UInt32)(i j:Nat)(hj:j=i)(h:i < l.length):(l.map u32)[j]?=some (u32 (l.getD i 0)):=by
 subst hj
 simp [List.getD,h]
def iv:H8:=⟨0x6a09e667,0xbb67ae85,0x3c6ef372,0xa54ff53a,0x510e527f,0x9b05688c,0x1f83d9ab,0x5be0cd19⟩
def feed (x:H8)(l:List UInt8):Nat→H8
 | 0=>x
 | k+1=>compress (feed x l k) ((l.drop (64*k)).take 64)
def a1z (x:H8)(l:List UInt8):H8:=feed x l (l.length/64)
def rest (l:List UInt8):List UInt8:=l.drop (64*(l.length/64))
def W5 (n:UInt64)(k:Nat):List UInt8:=(List.range k).map fun j=>(n >>> UInt64.ofNat (56 - 8*j)).toUInt8
def a92 (w:UInt32):List UInt8 := [(w >>> UInt32.ofNat 24).toUInt8,(w >>> UInt32.ofNat 16).toUInt8,(w >>> UInt32.ofNat 8).toUInt8,w.toUInt8]
def a6W (m:Nat):Nat:=(119 - m % 64) % 64
def pad (m:Nat)(n:UInt64):List UInt8:=(128::List.replicate (a6W m) 0)++W5 n 8
def a3C (x:H8)(r:List UInt8)(len:Nat):List UInt8:=(a1z x (r++pad r.length (UInt64.ofInt (len:Int)*8))).l.flatMap a92
def a5b (l:List UInt8):List UInt8:=a3C (a1z iv l) (rest l) l.length
def a7T (y:H8)(k:Nat):List Value:=C5 ((y.l.take k).flatMap a92++List.replicate (32 - 4*k) 0)
theorem a2m:∀ l:List UInt32,(l.flatMap a92).length=4*l.length
 | []=>rfl
 | x::r=>by simp [a2m r,a92];omega
theorem H8.length (y:H8):y.l.length=8:=rfl
theorem a3D (l:List UInt8):(C5 l).length=l.length:=by simp [C5]
theorem b1C (y:H8)(k:Nat)(h:k≤8):((y.l.take k).flatMap a92).length=4*k:=by
 rw [a2m,List.length_take,H8.length];omega
theorem a8y (y:H8)(k:Nat)(h:k≤8):(a7T y k).length=32:=by
 rw [a7T,a3D,List.length_append,b1C y k h,List.length_replicate];omega
theorem c7p (y:H8)(k:Nat)(h:k < 8):y.l[k]?=some (y.at k):=by
 have:k < y.l.length:=h
 simp [H8.at,List.getD,this]
theorem a3k (A R:List Value)(z a:Value)(o:Nat)(h:o=A.length):G1 (A++z::R) o [a]=(A ++ [a])++R:=by
 subst h
 simp [G1]
theorem c1W (y:H8)(k o0 o1 o2 o3:Nat)(h0:o0=4*k)(h1:o1=4*k+1)(h2:o2=4*k+2)(h3:o3=4*k+3)(h:k < 8) :
    G1 (G1 (G1 (G1 (a7T y k) o0 [u8 ((y.at k >>> UInt32.ofNat 24).toUInt8)]) o1 [u8 ((y.at k >>> UInt32.ofNat 16).toUInt8)]) o2 [u8 ((y.at k >>> UInt32.ofNat 8).toUInt8)]) o3 [u8 ((y.at k).toUInt8)]=a7T y (k+1):=by
  have hl:(C5 ((y.l.take k).flatMap a92)).length=4*k:=by rw [a3D,b1C y k (by omega)]
  generalize hA:C5 ((y.l.take k).flatMap a92)=A at hl
  have e1:a7T y k=A++u8 0::u8 0::u8 0::u8 0::C5 (List.replicate (32 - 4*(k+1)) 0):=by
    have:32 - 4*k=(32 - 4*(k+1))+4:=by omega
    rw [←hA]
    simp [a7T,C5,this,List.replicate_succ]
  have e2:a7T y (k+1)=A++C5 (a92 (y.at k))++C5 (List.replicate (32 - 4*(k+1)) 0):=by
    rw [←hA]
    simp [a7T,C5,List.take_add_one,c7p y k h]
  rw [e1,e2,a3k _ _ _ _ _ (by omega),a3k _ _ _ _ _ (by simp;omega),a3k _ _ _ _ _ (by simp;omega),a3k _ _ _ _ _ (by simp;omega)]
  simp [a92,C5]
theorem K8 (n:UInt64)(k:Nat):(W5 n k).length=k:=by simp [W5]
theorem a1U (n:UInt64)(k:Nat):W5 n (k+1)=W5 n k ++ [(n >>> UInt64.ofNat (56 - 8*k)).toUInt8]:=by simp [W5,List.range_succ]
theorem b6m (m:Nat)(n:UInt64):(pad m n).length=a6W m+9:=by simp [pad,K8]
theorem c4W (m:Nat):a6W m < 64:=by unfold a6W;omega
end Go.Sha
namespace Go.Proofs.YtfdifhfnpbphaaaGreatDoor
open Go.Proofs.Tryz
open Go.Fl Go.Sha
theorem c9n (n:Nat)(h0:0 < n)(h1:n < 32):UInt64.ofInt (-(n:Int)) &&& 31=UInt64.ofNat (32 - n):=by
 have:∀ n:Fin 32,0 < n.val→UInt64.ofInt (-(n.val:Int)) &&& 31=UInt64.ofNat (32 - n.val):=by decide +kernel
 exact this ⟨n,h1⟩ h0
theorem c9o (n:Nat)(h0:0 < n)(h1:n < 32):(32:UInt64) - UInt64.ofNat (32 - n)=UInt64.ofNat n:=by
 have:∀ n:Fin 32,0 < n.val→(32:UInt64) - UInt64.ofNat (32 - n.val)=UInt64.ofNat n.val:=by decide +kernel
 exact this ⟨n,h1⟩ h0
theorem c6A (n:Nat)(h1:n < 33):(UInt64.ofNat n).toNat=n:=by simp;omega
theorem a7U (I:Im)(x:UInt32)(n:Nat)(h0:0 < n)(h1:n < 32) :
    Fun prog 262 #[u32 x,i64 (-(n:Int))] I (fun v J=>v=u32 (a7S x n)):=by
  refine Fun.intro (l := [u32 x,i64 (-(n:Int))]) func262 rfl (by kernel_rfl) 17 rfl rfl [(0,u32 x),(1,i64 (-(n:Int)))] rfl fun C hC=>(.seq (.region rfl (.v (.assign rfl (.nil (.seq (.region rfl (.v (.move rfl (.v (.a9L underlying3 underlying209 rfl (.v (.b7T (n:=31) rfl rfl ?_)))))))))))))
  rw [c9n n h0 h1]
  refine .v (.assign j0 (.nil (.seq (.region j0 (.v (.move j0 (.v (.move j0 (.v (.b7U (32 - n) j0 j0 (by rw [c6A _ (by omega)]) (by omega) (.v (.move j0 (.v (.move j0 (.v (.b7W (m:=32) j0 j0 ?_))))))))))))))))
  rw [c9o n h0 h1]
  refine .v (.b1y n j0 j0 (by rw [c6A _ (by omega)]) (by omega) (.v (.c4e j0 j0 (.v (.assign j0 (.nil (.ret ⟨_,.r1 j0 (.tmp j0),?_⟩)))))))
  rw [a7S,UInt32.or_comm]
theorem Y1 (I:Im)(x:UInt32)(n:Nat)(h0:0 < n)(h1:n < 32) :
    Fun prog 255 #[u32 x,i64 (n:Int)] I (fun v J=>v=u32 (a7S x n)):=by
  refine Fun.intro (l := [u32 x,i64 (n:Int)]) func255 rfl (by kernel_rfl) 9 rfl rfl [(0,u32 x),(1,i64 (n:Int))] rfl fun C hC=>(.seq (.region rfl (.v (.assign rfl (.nil (.seq (.region rfl (.v (.move rfl (.v (.move rfl (.v (.neg rfl (by omega) (.x (.a1c rfl rfl (fun J _ _=>a7U J x n h0 h1) (.v (.assign rfl ?_)))))))))))))))))
  exact .nil (.ret ⟨_,.r1 j0 (.tmp j0),j0⟩)
theorem b2B (I:Im)(l:List UInt8)(hl:l.length=64)(s:Value)(hs:Sl I 1 s 64 (C5 l)) :
    Fun prog 254 #[s] I (fun v J=>v = .agg ((wl l 64).map u32).toArray):=by
  obtain⟨bb,oo,cc,rfl,hc,h1,h2⟩:=hs.open (by intro e;have:=congrArg List.length e;simp [C5,hl] at this)
  refine Fun.intro (l := [slc bb oo 64 cc]) func254 rfl (by kernel_rfl) 90 rfl rfl [(0,slc bb oo 64 cc)] rfl fun C hC=>(.seq (.region rfl (.x (.alloc c7o fun b2 => .nil (.seq (.region rfl (.x (.alloc c7o fun b3 => .nil (.seq (.seq (.region rfl (.v (.move rfl ?_)))))))))))))
  refine .nil (.block (.loop (α:=Nat) (fun k => [(9,i64 k),(0,slc bb oo 64 cc),(2,ptr b2 0),(3,ptr b3 0)])
    (fun k => [[(b3,row (a2z l k) 309)],[(b2,row (List.replicate 64 (u32 0)) 309)]]) (fun k _=>k≤64) (fun k=>64 - k) 0 (by omega)
    (.cons rfl (.cons rfl (.cons rfl (.cons rfl (.nil _))))) (by rw [b3U];rfl) fun k J hJ hk => ?_))
  refine .seq (.region j0 (.v (.lss j0 j0 (.nil (.seq (.a0q j0 (fun hlt => .skip ?_) (fun hge => .exit ?_)))))))
  · have hk64:k < 64:=by omega
    have hcJ:=hc.mono hJ
    refine .seq (.block (.seq (.region j0 (.v (.move j0 (.v (.assign j0 (.nil (.seq (.seq (.region j0 (.v (.move j0 (.v (.lss j0 j0 (.nil (.a0q j0 (fun h16 => ?_) (fun h16 => ?_))))))))))))))))))
    · have hk16:k < 16:=by omega
      refine .seq (.draw (by kernel_rfl) 35 [[],[],[],[(16,2)],[(15,1),(17,3)],[(18,4)],[(19,5)],[(20,6)],[],[],[(23,9)],[(24,10)],[(22,8),(25,11)],[(26,12)],[(27,13)],[(28,14)],[(21,7),(29,15)],[],[],[(32,18)],[(33,19)],[(31,17),(34,20)],[(35,21)],[(36,22)],[(37,23)],[(30,16),(38,24)],[],[],[(41,27)],[(42,28)],[(40,26),(43,29)],[(44,30)],[(45,31)],[(39,25),(46,32)],[(14,0)]] j0 (by kernel_rfl) j0 ?_)
      refine⟨.is _,fun JJ hJJ ρ e4 => .M1 (.move e4 ⟨j0,j0⟩),?_⟩
      refine⟨.is _,fun JJ hJJ ρ e0 => .M1 (.move e0 ⟨j0,j0⟩),?_⟩
      refine⟨.is _,fun JJ hJJ ρ e4 => .M1 (.move e4 ⟨j0,j0⟩),?_⟩
      refine⟨.is _,fun JJ hJJ ρ e16 => .M1 (.mul j0 e16 (by omega) (by omega) ⟨j0,j0⟩),?_⟩
      refine⟨.is _,fun JJ hJJ ρ e15 e17 => .M1 (.Z6 a0X.und a0X.size e15 e17 (by omega) (by omega) ⟨j0,j0⟩),?_⟩
      refine⟨.is _,fun JJ hJJ ρ e18 => .M1 (.a9P underlying5 j0 e18 (hcJ.mono hJJ) j0 (c4T l (4*k) _ (by omega) (by omega)) ⟨j0,j0⟩),?_⟩
      refine⟨.is _,fun JJ hJJ ρ e19 => .M1 (.a6R underlying5 underlying257 e19 ⟨j0,j0⟩),?_⟩
      refine⟨.is _,fun JJ hJJ ρ e20 => .M1 (.b7U 24 e20 j0 j0 (by decide) ⟨j0,j0⟩),?_⟩
      refine⟨.is _,fun JJ hJJ ρ e0 => .M1 (.move e0 ⟨j0,j0⟩),?_⟩
      refine⟨.is _,fun JJ hJJ ρ e4 => .M1 (.move e4 ⟨j0,j0⟩),?_⟩
      refine⟨.is _,fun JJ hJJ ρ e23 => .M1 (.mul j0 e23 (by omega) (by omega) ⟨j0,j0⟩),?_⟩
      refine⟨.is _,fun JJ hJJ ρ e24 => .M1 (.add e24 j0 (by omega) (by omega) ⟨j0,j0⟩),?_⟩
      refine⟨.is _,fun JJ hJJ ρ e22 e25 => .M1 (.Z6 a0X.und a0X.size e22 e25 (by omega) (by omega) ⟨j0,j0⟩),?_⟩
      refine⟨.is _,fun JJ hJJ ρ e26 => .M1 (.a9P underlying5 j0 e26 (hcJ.mono hJJ) j0 (c4T l (4*k+1) _ (by omega) (by omega)) ⟨j0,j0⟩),?_⟩
      refine⟨.is _,fun JJ hJJ ρ e27 => .M1 (.a6R underlying5 underlying257 e27 ⟨j0,j0⟩),?_⟩
      refine⟨.is _,fun JJ hJJ ρ e28 => .M1 (.b7U 16 e28 j0 j0 (by decide) ⟨j0,j0⟩),?_⟩
      refine⟨.is _,fun JJ hJJ ρ e21 e29 => .M1 (.c4e e21 e29 ⟨j0,j0⟩),?_⟩
      refine⟨.is _,fun JJ hJJ ρ e0 => .M1 (.move e0 ⟨j0,j0⟩),?_⟩
      refine⟨.is _,fun JJ hJJ ρ e4 => .M1 (.move e4 ⟨j0,j0⟩),?_⟩
      refine⟨.is _,fun JJ hJJ ρ e32 => .M1 (.mul j0 e32 (by omega) (by omega) ⟨j0,j0⟩),?_⟩
      refine⟨.is _,fun JJ hJJ ρ e33 => .M1 (.add e33 j0 (by omega) (by omega) ⟨j0,j0⟩),?_⟩
      refine⟨.is _,fun JJ hJJ ρ e31 e34 => .M1 (.Z6 a0X.und a0X.size e31 e34 (by omega) (by omega) ⟨j0,j0⟩),?_⟩
      refine⟨.is _,fun JJ hJJ ρ e35 => .M1 (.a9P underlying5 j0 e35 (hcJ.mono hJJ) j0 (c4T l (4*k+2) _ (by omega) (by omega)) ⟨j0,j0⟩),?_⟩
      refine⟨.is _,fun JJ hJJ ρ e36 => .M1 (.a6R underlying5 underlying257 e36 ⟨j0,j0⟩),?_⟩
      refine⟨.is _,fun JJ hJJ ρ e37 => .M1 (.b7U 8 e37 j0 j0 (by decide) ⟨j0,j0⟩),?_⟩
      refine⟨.is _,fun JJ hJJ ρ e30 e38 => .M1 (.c4e e30 e38 ⟨j0,j0⟩),?_⟩
      refine⟨.is _,fun JJ hJJ ρ e0 => .M1 (.move e0 ⟨j0,j0⟩),?_⟩
      refine⟨.is _,fun JJ hJJ ρ e4 => .M1 (.move e4 ⟨j0,j0⟩),?_⟩
      refine⟨.is _,fun JJ hJJ ρ e41 => .M1 (.mul j0 e41 (by omega) (by omega) ⟨j0,j0⟩),?_⟩
      refine⟨.is _,fun JJ hJJ ρ e42 => .M1 (.add e42 j0 (by omega) (by omega) ⟨j0,j0⟩),?_⟩
      refine⟨.is _,fun JJ hJJ ρ e40 e43 => .M1 (.Z6 a0X.und a0X.size e40 e43 (by omega) (by omega) ⟨j0,j0⟩),?_⟩
      refine⟨.is _,fun JJ hJJ ρ e44 => .M1 (.a9P underlying5 j0 e44 (hcJ.mono hJJ) j0 (c4T l (4*k+3) _ (by omega) (by omega)) ⟨j0,j0⟩),?_⟩
      refine⟨.is _,fun JJ hJJ ρ e45 => .M1 (.a6R underlying5 underlying257 e45 ⟨j0,j0⟩),?_⟩
      refine⟨.is _,fun JJ hJJ ρ e39 e46 => .M1 (.c4e e39 e46 ⟨j0,j0⟩),?_⟩
      refine⟨.is _,fun JJ hJJ ρ e3 e14 => .M1 (.I7 a8x e3 e14 (by omega) (by omega) ⟨j0,j0⟩),?_⟩
      intro J2 hJ2 
      have hset:=a90 l k (0+(k:Int).toNat*1) (by simp) hk64
      refine .n (.a6p 0 c1U j0 j0 j0 j0 j0 (by rw [a0h l k hk];simp;omega) (.nil (.exit (.region j0 (.v (.add j0 j0 (by omega) (by omega) (.v (.move j0 ?_))))))))
      refine .nil ⟨k+1,.cons rfl (.cons rfl (.cons rfl (.cons rfl (.nil _)))),?_,by omega,by omega,hJ.trans hJ2⟩
      simp only [next,if_pos hk16,beW] at hset
      exact congrArg (fun c => [[(b3,row c 309)],[(b2,row (List.replicate 64 (u32 0)) 309)]]) hset
    · have hk16:¬k < 16:=by omega
      refine .skip (.seq (.draw (by kernel_rfl) 10 [[],[(49,0)],[(50,1)],[(51,2)],[],[(53,4)],[(54,5)],[(55,6)],[(52,3)],[(56,7)]] j0 (by kernel_rfl) j0 ?_))
      refine⟨.is _,fun JJ hJJ ρ e4 => .M1 (.move e4 ⟨j0,j0⟩),?_⟩
      refine⟨.is _,fun JJ hJJ ρ e49 => .M1 (.sub e49 j0 (by omega) (by omega) ⟨j0,j0⟩),?_⟩
      refine⟨.is _,fun JJ hJJ ρ e3 e50 => .M1 (.I7 a8x e3 e50 (by omega) (by omega) ⟨j0,j0⟩),?_⟩
      refine⟨.is _,fun JJ hJJ ρ e51 => .M1 (.a1v 0 underlying257 j0 e51 j0 (a4g l k (k - 15) _ (by omega) (by omega)) ⟨j0,j0⟩),?_⟩
      refine⟨.is _,fun JJ hJJ ρ e4 => .M1 (.move e4 ⟨j0,j0⟩),?_⟩
      refine⟨.is _,fun JJ hJJ ρ e53 => .M1 (.sub e53 j0 (by omega) (by omega) ⟨j0,j0⟩),?_⟩
      refine⟨.is _,fun JJ hJJ ρ e3 e54 => .M1 (.I7 a8x e3 e54 (by omega) (by omega) ⟨j0,j0⟩),?_⟩
      refine⟨.is _,fun JJ hJJ ρ e55 => .M1 (.a1v 0 underlying257 j0 e55 j0 (a4g l k (k - 2) _ (by omega) (by omega)) ⟨j0,j0⟩),?_⟩
      refine⟨.is _,fun JJ hJJ ρ e52 => .M1 (.assign e52 ⟨j0,j0⟩),?_⟩
      refine⟨.is _,fun JJ hJJ ρ e56 => .M1 (.assign e56 ⟨j0,j0⟩),?_⟩
      intro J2 hJ2 
      refine .nil (.seq (.region j0 (.v (.move j0 (.x (.a1c j0 j0 (fun J _ _=>Y1 J _ 7 (by decide) (by decide)) (.v (.move j0 (.x (.a1c j0 j0 (fun J _ _=>Y1 J _ 18 (by decide) (by decide)) (.v (.a44 j0 j0 (.v (.move j0 (.v (.b1y 3 j0 j0 j0 (by decide) (.v (.a44 j0 j0 (.v (.assign j0 (.nil (.seq (.region j0 (.v (.move j0 (.x (.a1c j0 j0 (fun J _ _=>Y1 J _ 17 (by decide) (by decide)) (.v (.move j0 (.x (.a1c j0 j0 (fun J _ _=>Y1 J _ 19 (by decide) (by decide)) (.v (.a44 j0 j0 (.v (.move j0 (.v (.b1y 10 j0 j0 j0 (by decide) (.v (.a44 j0 j0 (.v (.assign j0 (.nil (.draw (by kernel_rfl) 15 [[],[],[],[(75,2)],[(76,3)],[(77,4)],[(74,1),(78,5)],[],[(79,6),(80,7)],[],[(82,9)],[(83,10)],[(84,11)],[(81,8),(85,12)],[(73,0)]] j0 (by kernel_rfl) j0 ?_)))))))))))))))))))))))))))))))))))))))))))
      refine⟨.is _,fun JJ hJJ ρ e4 => .M1 (.move e4 ⟨j0,j0⟩),?_⟩
      refine⟨.is _,fun JJ hJJ ρ e8 => .M1 (.move e8 ⟨j0,j0⟩),?_⟩
      refine⟨.is _,fun JJ hJJ ρ e4 => .M1 (.move e4 ⟨j0,j0⟩),?_⟩
      refine⟨.is _,fun JJ hJJ ρ e75 => .M1 (.sub e75 j0 (by omega) (by omega) ⟨j0,j0⟩),?_⟩
      refine⟨.is _,fun JJ hJJ ρ e3 e76 => .M1 (.I7 a8x e3 e76 (by omega) (by omega) ⟨j0,j0⟩),?_⟩
      refine⟨.is _,fun JJ hJJ ρ e77 => .M1 (.a1v 0 underlying257 j0 e77 j0 (a4g l k (k - 7) _ (by omega) (by omega)) ⟨j0,j0⟩),?_⟩
      refine⟨.is _,fun JJ hJJ ρ e74 e78 => .M1 (.a43 e74 e78 ⟨j0,j0⟩),?_⟩
      refine⟨.is _,fun JJ hJJ ρ e7 => .M1 (.move e7 ⟨j0,j0⟩),?_⟩
      refine⟨.is _,fun JJ hJJ ρ e79 e80 => .M1 (.a43 e79 e80 ⟨j0,j0⟩),?_⟩
      refine⟨.is _,fun JJ hJJ ρ e4 => .M1 (.move e4 ⟨j0,j0⟩),?_⟩
      refine⟨.is _,fun JJ hJJ ρ e82 => .M1 (.sub e82 j0 (by omega) (by omega) ⟨j0,j0⟩),?_⟩
      refine⟨.is _,fun JJ hJJ ρ e3 e83 => .M1 (.I7 a8x e3 e83 (by omega) (by omega) ⟨j0,j0⟩),?_⟩
      refine⟨.is _,fun JJ hJJ ρ e84 => .M1 (.a1v 0 underlying257 j0 e84 j0 (a4g l k (k - 16) _ (by omega) (by omega)) ⟨j0,j0⟩),?_⟩
      refine⟨.is _,fun JJ hJJ ρ e81 e85 => .M1 (.a43 e81 e85 ⟨j0,j0⟩),?_⟩
      refine⟨.is _,fun JJ hJJ ρ e3 e73 => .M1 (.I7 a8x e3 e73 (by omega) (by omega) ⟨j0,j0⟩),?_⟩
      intro J3 hJ3 
      have hset:=a90 l k (0+(k:Int).toNat*1) (by simp) hk64
      refine .n (.a6p 0 c1U j0 j0 j0 j0 j0 (by rw [a0h l k hk];simp;omega) (.nil (.region j0 (.v (.add j0 j0 (by omega) (by omega) (.v (.move j0 ?_)))))))
      refine .nil ⟨k+1,.cons rfl (.cons rfl (.cons rfl (.cons rfl (.nil _)))),?_,by omega,by omega,hJ.trans (hJ2.trans hJ3)⟩
      simp only [next,if_neg hk16] at hset
      exact congrArg (fun c => [[(b3,row c 309)],[(b2,row (List.replicate 64 (u32 0)) 309)]]) hset
  · have:k=64:=by omega
    subst this
    refine .seq (.region j0 (.v (.a7P 0 underlying309 j0 ?_ j0 j0 ?_)))
    · rw [a0h l 64 (by omega)];exact b8m
    refine .n (.a4f 1 64 b8m j0 j0 (a0h l 64 (by omega)) (a3U _ _ fun _=>j0) j0 j0 (.nil (.ret ⟨_,.r1 j0 (.a9U 1 underlying309 j0 ?_ j0 j0),?_⟩)))
    · rw [a0h l 64 (by omega)];exact b8m
    · rw [b6k]
theorem b6n (I:Im)(x:H8)(l:List UInt8)(hl:l.length=64)(s:Value)(hs:Sl I 1 s 64 (C5 l))(hkk:Cells I 1 0 (kk.map u32)) :
    Fun prog 239 #[x.v,s] I (fun v J=>v=(compress x l).v):=by
  have hw:(wl l 64).length=64:=a3W l 64
  have hsch:=fun J h=>b2B J l hl s (hs.mono (J:=J) h)
  unfold compress
  generalize wl l 64=ws at hw hsch ⊢
  refine Fun.intro (l := [x.v,s]) func239 rfl (by kernel_rfl) 115 rfl rfl [(0,x.v),(1,s)] rfl fun C hC=>(.seq (.region rfl (.x (.box (cs:=x.cells) rfl rfl fun b2 => .x (.alloc c4G fun b4 => .nil (.seq (.b3R (by kernel_rfl) 5 [[],[(19,0)],[],[],[]] [2] rfl (by kernel_rfl) rfl ?_)))))))
  refine⟨.is _,fun JJ hJJ ρ e1 => .M1 (.move e1 ⟨j0,j0⟩),?_⟩
  refine⟨.is _,fun JJ hJJ ρ e19 => .a1c j0 (c83 e19) (fun J hJ hL=>hsch J (hJJ.trans hJ)) ⟨j0,j0⟩,?_⟩
  refine⟨.is _,fun JJ hJJ ρ e2 => .M1 (.a7P (cs:=x.cells) 1 underlying258 j0 a56 e2 j0 ⟨j0,j0⟩),?_⟩
  refine⟨.new _,fun JJ hJJ ρ  => .alloc c7o fun b=>⟨b,j0,j0⟩,?_⟩
  refine⟨.new _,fun JJ hJJ ρ  => .alloc c4G fun b=>⟨b,j0,j0⟩,?_⟩
  refine⟨j0,fun J1 hJ1 b5 b6 => ?_⟩
  refine .a4f 1 64 b8m j0 j0 (by simp [hw]) (a3U _ _ fun _=>j0) j0 j0 ⟨Le.refl _,fun JJ hJJ ρ e2 => .M1 (.a7P (cs:=x.cells) 3 underlying258 j0 a56 e2 j0 ⟨j0,j0⟩),fun JK hJK  => ?_⟩
  refine .n (.a4f 0 8 a56 j0 j0 j0 j0 j0 j0 (.nil (.seq (.seq (.region j0 (.v (.move j0 ?_)))))))
  refine .nil (.block (.loop (α:=Nat) (fun k => [(22,i64 k),(2,ptr b2 0),(4,ptr b4 0),(5,ptr b5 0),(6,ptr b6 0)])
    (fun k => [[(b6,row (rounds ws x k).cells 258)],[(b5,row (ws.map u32) 309)],[(b4,row (List.replicate 8 (u32 0)) 258)],[(b2,row x.cells 258)]]) (fun k _=>k≤64) (fun k=>64 - k) 0 (by omega)
    (.cons rfl (.cons rfl (.cons rfl (.cons rfl (.cons rfl (.nil _)))))) rfl fun k J hJ hk => ?_))
  refine .seq (.region j0 (.v (.lss j0 j0 (.nil (.seq (.a0q j0 (fun hlt => .skip ?_) (fun hge => .exit ?_)))))))
  · have hk64:k < 64:=by omega
    refine .seq (.block (.seq (.region j0 (.v (.move j0 (.v (.assign j0 (.nil (.seq ?_)))))))))
    generalize hX:rounds ws x k=X
    refine .draw (by kernel_rfl) 24 [[],[(25,0)],[],[(27,2)],[],[(29,4)],[],[(31,6)],[],[(33,8)],[],[(35,10)],[],[(37,12)],[],[(39,14)],[(26,1)],[(28,3)],[(30,5)],[(32,7)],[(34,9)],[(36,11)],[(38,13)],[(40,15)]] j0 (by kernel_rfl) j0 ?_
    refine⟨.is _,fun JJ hJJ ρ e6 => .M1 (.I7 a3j e6 j0 (by omega) (by omega) ⟨j0,j0⟩),?_⟩
    refine⟨.is _,fun JJ hJJ ρ e25 => .M1 (.a1v 0 underlying257 j0 e25 j0 (v:=u32 X.a) j0 ⟨j0,j0⟩),?_⟩
    refine⟨.is _,fun JJ hJJ ρ e6 => .M1 (.I7 a3j e6 j0 (by omega) (by omega) ⟨j0,j0⟩),?_⟩
    refine⟨.is _,fun JJ hJJ ρ e27 => .M1 (.a1v 0 underlying257 j0 e27 j0 (v:=u32 X.b) j0 ⟨j0,j0⟩),?_⟩
    refine⟨.is _,fun JJ hJJ ρ e6 => .M1 (.I7 a3j e6 j0 (by omega) (by omega) ⟨j0,j0⟩),?_⟩
    refine⟨.is _,fun JJ hJJ ρ e29 => .M1 (.a1v 0 underlying257 j0 e29 j0 (v:=u32 X.c) j0 ⟨j0,j0⟩),?_⟩
    refine⟨.is _,fun JJ hJJ ρ e6 => .M1 (.I7 a3j e6 j0 (by omega) (by omega) ⟨j0,j0⟩),?_⟩
    refine⟨.is _,fun JJ hJJ ρ e31 => .M1 (.a1v 0 underlying257 j0 e31 j0 (v:=u32 X.d) j0 ⟨j0,j0⟩),?_⟩
    refine⟨.is _,fun JJ hJJ ρ e6 => .M1 (.I7 a3j e6 j0 (by omega) (by omega) ⟨j0,j0⟩),?_⟩
    refine⟨.is _,fun JJ hJJ ρ e33 => .M1 (.a1v 0 underlying257 j0 e33 j0 (v:=u32 X.e) j0 ⟨j0,j0⟩),?_⟩
    refine⟨.is _,fun JJ hJJ ρ e6 => .M1 (.I7 a3j e6 j0 (by omega) (by omega) ⟨j0,j0⟩),?_⟩
    refine⟨.is _,fun JJ hJJ ρ e35 => .M1 (.a1v 0 underlying257 j0 e35 j0 (v:=u32 X.f) j0 ⟨j0,j0⟩),?_⟩
    refine⟨.is _,fun JJ hJJ ρ e6 => .M1 (.I7 a3j e6 j0 (by omega) (by omega) ⟨j0,j0⟩),?_⟩
    refine⟨.is _,fun JJ hJJ ρ e37 => .M1 (.a1v 0 underlying257 j0 e37 j0 (v:=u32 X.g) j0 ⟨j0,j0⟩),?_⟩
    refine⟨.is _,fun JJ hJJ ρ e6 => .M1 (.I7 a3j e6 j0 (by omega) (by omega) ⟨j0,j0⟩),?_⟩
    refine⟨.is _,fun JJ hJJ ρ e39 => .M1 (.a1v 0 underlying257 j0 e39 j0 (v:=u32 X.h) j0 ⟨j0,j0⟩),?_⟩
    refine⟨.is _,fun JJ hJJ ρ e26 => .M1 (.assign e26 ⟨j0,j0⟩),?_⟩
    refine⟨.is _,fun JJ hJJ ρ e28 => .M1 (.assign e28 ⟨j0,j0⟩),?_⟩
    refine⟨.is _,fun JJ hJJ ρ e30 => .M1 (.assign e30 ⟨j0,j0⟩),?_⟩
    refine⟨.is _,fun JJ hJJ ρ e32 => .M1 (.assign e32 ⟨j0,j0⟩),?_⟩
    refine⟨.is _,fun JJ hJJ ρ e34 => .M1 (.assign e34 ⟨j0,j0⟩),?_⟩
    refine⟨.is _,fun JJ hJJ ρ e36 => .M1 (.assign e36 ⟨j0,j0⟩),?_⟩
    refine⟨.is _,fun JJ hJJ ρ e38 => .M1 (.assign e38 ⟨j0,j0⟩),?_⟩
    refine⟨.is _,fun JJ hJJ ρ e40 => .M1 (.assign e40 ⟨j0,j0⟩),?_⟩
    intro J2 hJ2 
    refine .nil (.seq (.draw (by kernel_rfl) 28 [[],[],[(42,1)],[],[(44,3)],[(43,2),(45,4)],[],[(47,6)],[(46,5),(48,7)],[(41,0),(49,8)],[],[],[(51,10),(52,11)],[],[(54,13)],[],[(55,14),(56,15)],[(53,12),(57,16)],[(50,9),(58,17)],[],[(60,19)],[(61,20)],[(59,18),(62,21)],[],[(64,23)],[(65,24)],[(63,22),(66,25)],[(67,26)]] j0 (by kernel_rfl) j0 ?_))
    refine⟨.is _,fun JJ hJJ ρ e15 => .M1 (.move e15 ⟨j0,j0⟩),?_⟩
    refine⟨.is _,fun JJ hJJ ρ e12 => .M1 (.move e12 ⟨j0,j0⟩),?_⟩
    refine⟨.is _,fun JJ hJJ ρ e42 => .a1c j0 (c4g e42 j0) (fun J hJ hL=>Y1 J _ 6 (by decide) (by decide)) ⟨j0,j0⟩,?_⟩
    refine⟨.is _,fun JJ hJJ ρ e12 => .M1 (.move e12 ⟨j0,j0⟩),?_⟩
    refine⟨.is _,fun JJ hJJ ρ e44 => .a1c j0 (c4g e44 j0) (fun J hJ hL=>Y1 J _ 11 (by decide) (by decide)) ⟨j0,j0⟩,?_⟩
    refine⟨.is _,fun JJ hJJ ρ e43 e45 => .M1 (.a44 e43 e45 ⟨j0,j0⟩),?_⟩
    refine⟨.is _,fun JJ hJJ ρ e12 => .M1 (.move e12 ⟨j0,j0⟩),?_⟩
    refine⟨.is _,fun JJ hJJ ρ e47 => .a1c j0 (c4g e47 j0) (fun J hJ hL=>Y1 J _ 25 (by decide) (by decide)) ⟨j0,j0⟩,?_⟩
    refine⟨.is _,fun JJ hJJ ρ e46 e48 => .M1 (.a44 e46 e48 ⟨j0,j0⟩),?_⟩
    refine⟨.is _,fun JJ hJJ ρ e41 e49 => .M1 (.a43 e41 e49 ⟨j0,j0⟩),?_⟩
    refine⟨.is _,fun JJ hJJ ρ e12 => .M1 (.move e12 ⟨j0,j0⟩),?_⟩
    refine⟨.is _,fun JJ hJJ ρ e13 => .M1 (.move e13 ⟨j0,j0⟩),?_⟩
    refine⟨.is _,fun JJ hJJ ρ e51 e52 => .M1 (.b3P e51 e52 ⟨j0,j0⟩),?_⟩
    refine⟨.is _,fun JJ hJJ ρ e12 => .M1 (.move e12 ⟨j0,j0⟩),?_⟩
    refine⟨.is _,fun JJ hJJ ρ e54 => .M1 (.c8X e54 ⟨j0,j0⟩),?_⟩
    refine⟨.is _,fun JJ hJJ ρ e14 => .M1 (.move e14 ⟨j0,j0⟩),?_⟩
    refine⟨.is _,fun JJ hJJ ρ e55 e56 => .M1 (.b3P e55 e56 ⟨j0,j0⟩),?_⟩
    refine⟨.is _,fun JJ hJJ ρ e53 e57 => .M1 (.a44 e53 e57 ⟨j0,j0⟩),?_⟩
    refine⟨.is _,fun JJ hJJ ρ e50 e58 => .M1 (.a43 e50 e58 ⟨j0,j0⟩),?_⟩
    refine⟨.is _,fun JJ hJJ ρ e7 => .M1 (.move e7 ⟨j0,j0⟩),?_⟩
    refine⟨.is _,fun JJ hJJ ρ e60 => .M1 (.I7 a8x j0 e60 (by omega) (by omega) ⟨j0,j0⟩),?_⟩
    refine⟨.is _,fun JJ hJJ ρ e61 => .M1 (.a9P underlying257 j0 e61 (hkk.mono (hJ1.trans (hJK.trans (hJ.trans (hJ2.trans hJJ))))) j0 (c6z kk k _ (by simp) hk64) ⟨j0,j0⟩),?_⟩
    refine⟨.is _,fun JJ hJJ ρ e59 e62 => .M1 (.a43 e59 e62 ⟨j0,j0⟩),?_⟩
    refine⟨.is _,fun JJ hJJ ρ e7 => .M1 (.move e7 ⟨j0,j0⟩),?_⟩
    refine⟨.is _,fun JJ hJJ ρ e5 e64 => .M1 (.I7 a8x e5 e64 (by omega) (by omega) ⟨j0,j0⟩),?_⟩
    refine⟨.is _,fun JJ hJJ ρ e65 => .M1 (.a1v 1 underlying257 j0 e65 j0 (c6z ws k _ (by simp) (by omega)) ⟨j0,j0⟩),?_⟩
    refine⟨.is _,fun JJ hJJ ρ e63 e66 => .M1 (.a43 e63 e66 ⟨j0,j0⟩),?_⟩
    refine⟨.is _,fun JJ hJJ ρ e67 => .M1 (.assign e67 ⟨j0,j0⟩),?_⟩
    intro J3 hJ3 
    refine .nil (.seq (.region j0 (.v (.move j0 (.x (.a1c j0 j0 (fun J hJ hL=>Y1 J _ 2 (by decide) (by decide)) (.v (.move j0 (.x (.a1c j0 j0 (fun J hJ hL=>Y1 J _ 13 (by decide) (by decide)) (.v (.a44 j0 j0 (.v (.move j0 (.x (.a1c j0 j0 (fun J hJ hL=>Y1 J _ 22 (by decide) (by decide)) (.v (.a44 j0 j0 (.v (.move j0 (.v (.move j0 (.v (.b3P j0 j0 (.v (.move j0 (.v (.move j0 (.v (.b3P j0 j0 (.v (.a44 j0 j0 (.v (.move j0 (.v (.move j0 (.v (.b3P j0 j0 (.v (.a44 j0 j0 (.v (.a43 j0 j0 (.v (.assign j0 (.nil (.region j0 (.v (.move j0 (.v (.move j0 (.v (.a43 j0 j0 (.v (.move j0 (.v (.move j0 (.v (.move j0 (.v (.move j0 (.v (.move j0 (.v (.a43 j0 j0 (.v (.move j0 (.v (.move j0 (.v (.move j0 (.v (.a1y a3j c4G j0 j0 j0 j0 (.n (.a4f 0 8 a56 j0 j0 j0 j0 j0 j0 (.nil (.region j0 (.v (.add j0 j0 (by omega) (by omega) (.v (.move j0 ?_))))))))))))))))))))))))))))))))))))))))))))))))))))))))))))))))))))))))))))))))
    refine .nil ⟨k+1,.cons rfl (.cons rfl (.cons rfl (.cons rfl (.cons rfl (.nil _))))),?_,by omega,by omega,hJ.trans (hJ2.trans hJ3)⟩
    subst hX
    rfl
  · have:k=64:=by omega
    subst this
    generalize rounds ws x 64=v
    refine .seq (.seq (.region j0 (.v (.move j0 ?_))))
    refine .nil (.block (.loop (α:=Nat) (fun k => [(102,i64 k),(2,ptr b2 0),(4,ptr b4 0),(6,ptr b6 0)])
      (fun k => [[(b6,row (v.mix x k) 258)],[(b5,row (ws.map u32) 309)],[(b4,row (List.replicate 8 (u32 0)) 258)],[(b2,row x.cells 258)]]) (fun k _=>k≤8) (fun k=>8 - k) 0 (by omega)
      (.cons rfl (.cons rfl (.cons rfl (.cons rfl (.nil _))))) rfl fun k J2 hJ2 hk => ?_))
    refine .seq (.region j0 (.v (.lss j0 j0 (.nil (.seq (.a0q j0 (fun hlt => .skip ?_) (fun hge => .exit ?_)))))))
    · have hk8:k < 8:=by omega
      refine .seq (.block (.seq (.region j0 (.v (.move j0 (.v (.assign j0 (.nil (.draw (by kernel_rfl) 8 [[],[(105,0)],[(106,1)],[],[(108,3)],[(109,4)],[(107,2),(110,5)],[(105,0)]] j0 (by kernel_rfl) j0 ?_)))))))))
      refine⟨.is _,fun JJ hJJ ρ e18 => .M1 (.move e18 ⟨j0,j0⟩),?_⟩
      refine⟨.is _,fun JJ hJJ ρ e6 e105 => .M1 (.I7 a3j e6 e105 (by omega) (by omega) ⟨j0,j0⟩),?_⟩
      refine⟨.is _,fun JJ hJJ ρ e106 => .M1 (.a1v 0 underlying257 j0 e106 j0 (c4U v x k _ (by simp) hk8) ⟨j0,j0⟩),?_⟩
      refine⟨.is _,fun JJ hJJ ρ e18 => .M1 (.move e18 ⟨j0,j0⟩),?_⟩
      refine⟨.is _,fun JJ hJJ ρ e2 e108 => .M1 (.I7 a3j e2 e108 (by omega) (by omega) ⟨j0,j0⟩),?_⟩
      refine⟨.is _,fun JJ hJJ ρ e109 => .M1 (.a1v 3 underlying257 j0 e109 j0 (b1B x k _ (by simp) hk8) ⟨j0,j0⟩),?_⟩
      refine⟨.is _,fun JJ hJJ ρ e107 e110 => .M1 (.a43 e107 e110 ⟨j0,j0⟩),?_⟩
      refine⟨.is _,fun JJ hJJ ρ e6 e105 => .M1 (.I7 a3j e6 e105 (by omega) (by omega) ⟨j0,j0⟩),?_⟩
      intro J3 hJ3 
      have hset:=c4V v x k (0+(k:Int).toNat*1) (by simp) hk8
      refine .n (.a6p 0 c1U j0 j0 j0 j0 j0 (by rw [b6l v x k hk];simp;omega) (.nil (.region j0 (.v (.add j0 j0 (by omega) (by omega) (.v (.move j0 ?_)))))))
      refine .nil ⟨k+1,.cons rfl (.cons rfl (.cons rfl (.cons rfl (.nil _)))),?_,by omega,by omega,hJ2.trans hJ3⟩
      exact congrArg (fun c => [[(b6,row c 258)],[(b5,row (ws.map u32) 309)],[(b4,row (List.replicate 8 (u32 0)) 258)],[(b2,row x.cells 258)]]) hset
    · have:k=8:=by omega
      subst this
      refine .seq (.region j0 (.v (.a7P (cs:=(v.add x).cells) 0 underlying258 j0 a56 j0 j0 (.n (.a4f 2 8 a56 j0 j0 j0 j0 j0 j0 (.nil (.ret ⟨_,.r1 j0 (.a9U (cs:=(v.add x).cells) 2 underlying258 j0 a56 j0 j0),j0⟩)))))))
open Go.Fl
theorem c1X (I:Im)(n:Nat)(hn:n≤70368744177664) :
    a9I prog 253 #[.slice none 0 0,i64 (n:Int)] I [[]] (fun v J L'=>∃ X,L' = [X]∧Own 5 1 v 0 [] X):=by
  refine a9I.intro (l := [.slice none 0 0,i64 (n:Int)]) func253 rfl (by kernel_rfl) 27 rfl rfl [(0,.slice none 0 0),(1,i64 (n:Int))] rfl fun C hC=>(.seq (.region rfl (.v (.assign rfl (.nil (.seq (.seq (.region rfl (.v (.move rfl (.v (.lss rfl rfl (.nil (.a0q rfl (fun h=>by omega) (fun h => .skip (.seq (.seq (.region rfl (.v (.move rfl (.v (.move rfl (.v (.cap underlying34 rfl (.v (.move rfl (.v (.len underlying34 rfl (.v (.sub rfl rfl (by omega) (by omega) (.v (.sub rfl rfl (by omega) (by omega) (.v (.assign rfl (.nil (.seq (.region rfl (.v (.move rfl (.v (.gtr rfl rfl (.nil (.a0q rfl (fun h => .region rfl ?_) (fun h => .skip ?_))))))))))))))))))))))))))))))))))))))))))))
  · skip
    refine .v (.move j0 (.v (.move j0 (.v (.cap underlying34 j0 (.v (.b2u (h:=0) a0X.und a0X.size j0 j0 (by omega) (fun _=>j0) (.v (.move j0 ?_)))))))))
    have hone:b1e prog 5 1 (u8 0):=c84
    refine .s (.b6h 0 (n:=0) (m:=n) (xs := []) a0X.und hone j0 j0 underlying3 j0 ?_ j0 (Own.nil _ _) (by unfold maxLen;omega) (by omega) fun v' X' hown => ?_)
    · exact congrArg (fun q=>some (i64 q)) (by omega)
    rcases hown with ⟨_,h0,_⟩|⟨b,c,sp,rfl,rfl,h1,h2,h3,h4⟩
    · omega
    refine .v (.move rfl (.v (.len underlying34 rfl (.v (.b2u (h:=0) a0X.und a0X.size rfl rfl (by omega) (fun e=>by cases e) (.v (.assign rfl (.nil (.seq (.region rfl (.v (.move rfl (.v (.assign rfl (.nil (.ret ⟨_,.r1 rfl (.tmp rfl),_,rfl,?_⟩))))))))))))))))
    exact Own.cut (.inr ⟨b,c,sp,rfl,rfl,h1,h2,h3,h4⟩) (Nat.zero_le _)
  · refine .seq (.region j0 (.v (.move j0 (.v (.assign j0 ?_)))))
    exact .nil (.ret ⟨_,.r1 j0 (.tmp j0),_,j0,Own.nil _ _⟩)
theorem b9z (I:Im)(v:Value)(n:Nat)(l:List UInt8)(hl:l.length=n)(hs:Sl I 1 v n (C5 l))(hn:n≤70368744177664) :
    Fun prog 234 #[v] I (fun v' J=>Sl J 1 v' n (C5 l)):=by
  refine Fun.intro (l := [v]) func234 rfl (by kernel_rfl) 8 rfl rfl [(0,v)] rfl fun C hC => ?_
  obtain⟨a,c,hv,_,_⟩:=id hs.shape
  refine .seq (.region j0 (.v (.assign j0 (.nil (.seq (.seq (.region j0 (.v (.move j0 (.v (.b2t a0X.und (a:=a) (n:=n) (c:=c) (by rw [hv];rfl) j0 (.nil (.cond j0 (fun h => .seq (.region j0 ?_)) (fun h => .skip ?_))))))))))))))
  · have ha:a=none:=by cases a with|none=>rfl|some x=>cases h
    subst ha
    have h0:n=0:=by
      obtain⟨a2,c2,e2,h2,h3,h4,h5,h6⟩:=hs
      rw [hv] at e2
      cases e2
      have:=h5 rfl
      omega
    subst h0
    have:l = []:=List.eq_nil_of_length_eq_zero hl
    subst this
    refine .v (.assign j0 (.nil (.ret ⟨_,.r1 j0 (.tmp j0),Sl.nil _ _⟩)))
  · refine .seq (.region j0 (.x (.buildSlice (n:=0) (zs := [u8 0]) (vs := []) (pv := []) a0X.und a0X.size z5 j0 j0 j0 j0 (by decide) fun b=>(.v (.move j0 ?_)))))
    have hown:Own 5 1 (slc b 0 0 0) 0 [] [(b,row [] 5)]:=Own.made rfl (by decide)
    refine .s (.append 0 a0X (by decide) (.inl ⟨_,underlying34⟩) rfl rfl rfl hown (.sl hs) (a3U _ _ fun _=>rfl) (by unfold maxLen;omega) (by omega) fun v' X' hown'=>(.v (.assign rfl (.nil (.freeze 0 rfl (fun p _ hM=>by rw [hC] at hM;cases hM) fun J hJ hp => .ret ⟨_,.r1 rfl (.tmp rfl),?_⟩)))))
    have:=hown'.sl hp
    simpa using this
def a5c (ps:List (Value×List UInt8))(k:Nat):Nat:=((ps.take k).map (·.2.length)).sum
def a4h (ps:List (Value×List UInt8))(k:Nat):List UInt8:=(ps.take k).flatMap (·.2)
theorem a94 {ps:List (Value×List UInt8)}{k:Nat}{p:Value×List UInt8}(h:ps[k]?=some p):a5c ps (k+1)=a5c ps k+p.2.length:=by
 simp [a5c,List.take_add_one,h]
theorem b2C {ps:List (Value×List UInt8)}{k:Nat}{p:Value×List UInt8}(h:ps[k]?=some p):a4h ps (k+1)=a4h ps k++p.2:=by
 simp [a4h,List.take_add_one,h]
theorem b3V (ps:List (Value×List UInt8))(k:Nat):a5c ps k≤(ps.map (·.2.length)).sum:=by
 unfold a5c
 conv=>rhs;rw [←List.take_append_drop k ps,List.map_append,List.sum_append]
 omega
theorem b6o (I:Im)(t:Value)(ps:List (Value×List UInt8))(n:Nat)(hn:ps.length=n)(hp:∀ p∈ps,Sl I 1 p.1 p.2.length (C5 p.2))(ht:Sl I 1 t n (ps.map (·.1)))(hlen:(ps.map (·.2.length)).sum≤70368744177664) :
    Fun prog 238 #[t] I (fun v J=>Sl J 1 v (ps.map (·.2.length)).sum (C5 (ps.flatMap (·.2)))):=by
  obtain⟨a0,c0,rfl,hl0,hnc,hcm,hnone,hcells⟩:=ht
  refine Fun.intro (l := [.slice a0 n c0]) func238 rfl (by kernel_rfl) 36 rfl rfl [(0,.slice a0 n c0)] rfl fun C hC=>(.seq (.region rfl (.v (.assign rfl (.nil (.seq (.region rfl (.v (.assign rfl (.nil (.seq (.seq (.region rfl (.v (.move rfl (.v (.len underlying168 rfl (.v (.move rfl ?_)))))))))))))))))))
  refine .nil (.block (.loop (α:=Nat) (fun k => [(11,i64 k),(10,i64 n),(9,.slice a0 n c0),(3,i64 (a5c ps k)),(0,.slice a0 n c0)]) (fun k => []) (fun k _=>k≤n) (fun k=>n - k) 0 (by omega)
    (.cons rfl (.cons rfl (.cons rfl (.cons rfl (.cons rfl (.nil _)))))) rfl fun k J hJ hk => ?_))
  have hstop:n≤9223372036854775807:=by unfold maxLen at hcm;omega
  refine .seq (.region j0 (.v (.lss j0 j0 (.nil (.seq (.a0q j0 (fun hlt => .skip ?_) (fun hge => .exit ?_)))))))
  · have hkn:k < n:=by omega
    obtain⟨p,hpk⟩:∃ p,ps[k]?=some p:=⟨_,List.getElem?_eq_getElem (by omega)⟩
    obtain⟨b,o,rfl,hc⟩:=hcells (by intro e;have:=congrArg List.length e;simp at this;simp [this] at hn;omega)
    obtain⟨ap,cp,hpe,_,_⟩:=id (hp p (List.mem_of_getElem? hpk)).shape
    have hs1:=a94 hpk
    have hle:=b3V ps (k+1)
    refine .seq (.block (.seq (.region rfl (.v (.Z6 b1A.und b1A.size rfl rfl (by omega) (by omega) (.v (.a9P (v := .slice ap p.2.length cp) underlying34 rfl rfl (hc.mono hJ) rfl (by rw [←hpe];simp [hpk]) (.v (.assign rfl (.nil (.seq (.region rfl (.v (.move rfl (.v (.move rfl (.v (.len underlying34 rfl (.v (.add rfl rfl (by omega) (by omega) (.v (.assign rfl (.nil (.seq (.region rfl (.v (.move rfl (.v (.lss rfl rfl (.nil (.a0q rfl (fun h=>by omega) (fun h => .skip (.region rfl (.v (.add rfl rfl (by omega) (by omega) (.v (.move rfl ?_)))))))))))))))))))))))))))))))))))))
    refine .nil ⟨k+1,.cons rfl (.cons rfl (.cons rfl (.cons ?_ (.cons rfl (.nil _))))),rfl,by omega,by omega,hJ⟩
    exact congrArg (fun q=>some (i64 q)) (by rw [hs1];omega)
  · have:k=n:=by omega
    subst this
    have htot:a5c ps k=(ps.map (·.2.length)).sum:=by simp [a5c,←hn]
    refine .seq (.region j0 (.pad (.v (.move j0 ?_))))
    refine .s (.a8u (post:=fun v _ L'=>∃ X,L' = [X]∧Own 5 1 v 0 [] X) 0 rfl rfl rfl (c1X J (a5c ps k) (by omega)) (fun v J2 c' hJ2 hpost => ?_) (fun v J L' h=>by obtain⟨X,h,_⟩:=h;exact⟨X,h⟩))
    obtain⟨X,hX,hown⟩:=hpost
    cases hX
    refine .v (.assign j0 (.nil (.seq (.seq (.region j0 (.v (.move j0 (.v (.len underlying168 j0 (.v (.move j0 ?_)))))))))))
    refine .nil (.block (.loop (α:=Nat×Value×List (Nat×Obj)) (fun x => [(27,i64 x.1),(26,i64 k),(25,.slice a0 k c0),(6,x.2.1)]) (fun x => [x.2.2])
      (fun x _=>x.1≤k∧Own 5 1 x.2.1 (a5c ps x.1) (C5 (a4h ps x.1)) x.2.2) (fun x=>k - x.1) (0,v,c') ⟨by simp,by simpa [a5c,a4h,C5] using hown⟩
      (.cons rfl (.cons rfl (.cons rfl (.cons rfl (.nil _))))) rfl fun x J3 hJ3 hx => ?_))
    obtain⟨i,v,X⟩:=x
    obtain⟨hi,hown⟩:=hx
    dsimp only at hi hown ⊢
    refine .seq (.region j0 (.v (.lss j0 j0 (.nil (.seq (.a0q j0 (fun hlt => .skip ?_) (fun hge => .exit ?_)))))))
    · have hin:i < k:=by omega
      obtain⟨p,hpk⟩:∃ p,ps[i]?=some p:=⟨_,List.getElem?_eq_getElem (by omega)⟩
      obtain⟨b,o,rfl,hc⟩:=hcells (by intro e;have:=congrArg List.length e;simp at this;simp [this] at hn;omega)
      have hs1:=a94 hpk
      have hb1:=b2C hpk
      have hle:=b3V ps (i+1)
      have hJ4:=hJ.trans (hJ2.trans hJ3)
      refine .seq (.block (.seq (.region j0 (.v (.Z6 b1A.und b1A.size j0 j0 (by omega) (by omega) (.v (.a9P (v:=p.1) underlying34 j0 j0 (hc.mono hJ4) j0 (by simp [hpk]) (.v (.assign j0 (.nil (.region j0 (.v (.move j0 (.v (.move j0 (.s (.append 0 a0X (by decide) (.inl ⟨_,underlying34⟩) j0 j0 j0 hown (.sl ((hp p (List.mem_of_getElem? hpk)).mono hJ4)) (a3U _ _ fun _=>j0) (by unfold maxLen;omega) (by omega) fun v' X' hown'=>(.v (.assign j0 (.nil (.region j0 (.v (.add j0 j0 (by omega) (by omega) (.v (.move j0 ?_)))))))))))))))))))))))))
      refine .nil ⟨(i+1,v',X'),.cons rfl (.cons rfl (.cons rfl (.cons rfl (.nil _)))),rfl,⟨hin,?_⟩,by dsimp only;omega,hJ3⟩
      dsimp only
      rw [hs1,hb1]
      simpa [C5] using hown'
    · have:i=k:=by omega
      subst this
      refine .seq (.region rfl (.v (.move rfl (.v (.assign rfl (.nil (.freeze 0 rfl (fun p _ hM=>by rw [hC] at hM;cases hM) fun J5 hJ5 hp5 => .ret ⟨_,.r1 rfl (.tmp rfl),?_⟩)))))))
      have:=hown.sl hp5
      rw [htot] at this
      have h2:a4h ps i=ps.flatMap (·.2):=by simp [a4h,←hn]
      rw [h2] at this
      exact this
end Go.Proofs.YtfdifhfnpbphaaaGreatDoor
