/- Plain Lean over any program, and walks of this seat's functions: contracts, each proved once (part 0). -/
import Derived.WalkKit
import Derived.KernelRfl
import Derived.StillTail
import Derived.OrdersIn
import Derived.TacticsIn
import Derived.RangeFuncIn
import Derived.RangeFuncRecord
import Derived.Laws.MakeOwn
import Derived.ChangeKeysEq
import Derived.Test.YtalibdhdngbbcaaGreatDoorProg
import Derived.Laws.CopyRow
set_option maxRecDepth 1000000
set_option synthInstance.maxSize 1000000
set_option synthInstance.maxHeartbeats 10000000
set_option linter.unusedVariables false
set_option linter.unusedSimpArgs false
namespace Go
universe u
theorem a8 {α : Sort u} {a : α} : a = a := rfl
end Go
namespace Go.Fl
open Go.RowKit
theorem a4W {s t:Nat} (h:s≠t):Nat.beq s t=false:=by
 cases hb:Nat.beq s t
 ·rfl
 ·exact absurd (Nat.eq_of_beq_eq_true hb) h
abbrev Env:=List (Nat×Value)
def look:Env→Nat→Option Value
 | [],_=>none
 | (s,v)::r,t=>bif Nat.beq s t then some v else look r t
def ev (ρ:Env):Operand→Option Value
 | .tmp t=>look ρ t
 | .const v=>some v
 | .global g=>some (.pointer (some ⟨g,0,none⟩))
 | .func f=>some (.func (.func f) #[] #[])
structure Fits (N:Nat) (ρ:Env) (a:Act):Prop where
 defers:a.defers = []
 size:a.tmps.size=N
 tmp:∀ t v,look ρ t=some v→a.tmps[t]?=some v
theorem Fits.ev {N:Nat} {ρ:Env} {a:Act} (h:Fits N ρ a) {x:Operand} {v:Value} (hx:ev ρ x=some v):a.eval x=v:=by
 cases x with
 | tmp t=>have:=h.tmp t v hx;simp [Act.eval,this]
 | const u=>simpa [Fl.ev,Act.eval] using hx
 | global g=>simpa [Fl.ev,Act.eval] using hx
 | func f=>simpa [Fl.ev,Act.eval] using hx
theorem U0 (s:Nat) (v:Value) (ρ:Env) (t:Nat):look ((s,v)::ρ) t=if s=t then some v else look ρ t:=by
 by_cases h:s=t
 ·subst h;simp [look]
 ·simp [look,h,a4W h]
theorem Fits.put {N:Nat} {ρ:Env} {a:Act} (h:Fits N ρ a) {d:Nat} (hd:d < N) (v:Value):Fits N ((d,v)::ρ) (a.put (some d) v):=by
 refine⟨h.defers,by simp [Act.put,h.size],fun t u hu => ?_⟩
 rw [U0] at hu
 by_cases e:d=t
 ·subst e
  simp at hu
  subst hu
  simp [Act.put,h.size,hd]
 ·rw [if_neg e] at hu
  simp only [Act.put,Array.getElem?_setIfInBounds_ne e]
  exact h.tmp t u hu
def Sub (σ ρ:Env):Prop:=∀ t v,look σ t=some v→look ρ t=some v
theorem Sub.refl (ρ:Env):Sub ρ ρ:=fun _ _ h=>h
theorem Sub.nil (ρ:Env):Sub [] ρ:=fun _ _ h=>by simp [look] at h
theorem Sub.cons {σ ρ:Env} {t:Nat} {v:Value} (h:look ρ t=some v) (k:Sub σ ρ):Sub ((t,v)::σ) ρ:=fun s u hu=>by
 rw [U0] at hu
 by_cases e:t=s
 ·subst e;simp at hu;subst hu;exact h
 ·rw [if_neg e] at hu;exact k s u hu
theorem Fits.sub {N:Nat} {σ ρ:Env} {a:Act} (h:Fits N ρ a) (k:Sub σ ρ):Fits N σ a:=⟨h.defers,h.size,fun t v hv=>h.tmp t v (k t v hv)⟩
abbrev Im:=Nat→Option Obj
abbrev Lh:=List (List (Nat×Obj))
def Le (I J:Im):Prop:=∀ b o,I b=some o→J b=some o
theorem Le.refl (I:Im):Le I I:=fun _ _ h=>h
theorem Le.trans {I J K:Im} (h:Le I J) (k:Le J K):Le I K:=fun b o ho=>k b o (h b o ho)
structure Mem (I:Im) (L:Lh) (w:World):Prop where
 im:∀ b o,I b=some o→w.heap[b]?=some o
 loc:∀ p∈L.flatten,w.heap[p.1]?=some p.2
 sep:∀ p∈L.flatten,I p.1=none
 nodup:(L.flatten.map Prod.fst).Nodup
structure Chg (M:List Nat) (w w':World):Prop where
 os:w'.os=w.os
 tape:w'.tape=w.tape
 output:w'.output=w.output
 size:w.heap.size≤w'.heap.size
 block:∀ k,k < w.heap.size→k∉M→w'.heap[k]?=w.heap[k]?
theorem Chg.refl (M:List Nat) (w:World):Chg M w w:=⟨rfl,rfl,rfl,Nat.le_refl _,fun _ _ _=>rfl⟩
theorem Chg.trans {M:List Nat} {a b c:World} (h:Chg M a b) (k:Chg M b c):Chg M a c :=
 ⟨k.os.trans h.os,k.tape.trans h.tape,k.output.trans h.output,Nat.le_trans h.size k.size,
  fun i hi hm=>(k.block i (Nat.lt_of_lt_of_le hi h.size) hm).trans (h.block i hi hm)⟩
theorem Chg.mono {M M':List Nat} {a b:World} (h:Chg M a b) (hm:∀ k∈M,k < a.heap.size→k∈M'):Chg M' a b :=
 ⟨h.os,h.tape,h.output,h.size,fun i hi hn=>h.block i hi (fun hx=>hn (hm i hx hi))⟩
structure Ctx where
 w0:World
 M:List Nat
 I0:Im
 rd:Option Nat
abbrev Ctx.fen (C:Ctx):Fence := { Fence.wide with round:=C.rd }
structure St (C:Ctx) (I:Im) (L:Lh) (w:World):Prop where
 mem:Mem I L w
 chg:Chg C.M C.w0 w
 own:∀ p∈L.flatten,C.w0.heap.size≤p.1∨p.1∈C.M
 W3:Le C.I0 I
 new:∀ b,C.I0 b=none→I b≠none→C.w0.heap.size≤b
def b0w (n:Nat) (I J:Im):Prop:=∀ b,I b=none→J b≠none→n≤b
theorem C6 {w:World} {b:Nat} {o:Obj} (h:w.heap[b]?=some o):b < w.heap.size:=(Array.getElem?_eq_some_iff.1 h).1
def a6A (C:Ctx) (N:Nat) (Q:Exit→Env→Im→Lh→Prop):Exit→Act→World→Prop :=
 fun e a w=>∃ ρ I L,Fits N ρ a∧St C I L w∧Q e ρ I L
def wpS (P:Program) (C:Ctx) (N:Nat) (c:Code) (Q:Exit→Env→Im→Lh→Prop) (ρ:Env) (I:Im) (L:Lh):Prop :=
 ∀ a w,Fits N ρ a→St C I L w→c.wpIn C.fen 0 P (a6A C N Q) a w
def M4 (N:Nat) (l:List Oper):Bool:=l.all fun o=>match o.dst with|some d=>Nat.blt d N|none=>true
def wpL (P:Program) (C:Ctx) (N:Nat) (ops:Array Oper) (Q:Exit→Env→Im→Lh→Prop) (l:List Oper) (ρ:Env) (I:Im) (L:Lh):Prop :=
 M4 N l=true→∀ a w,Fits N ρ a→St C I L w→wpListIn C.fen 0 P ops (a6A C N Q) l a w
section control
variable {P:Program} {C:Ctx} {N:Nat} {Q:Exit→Env→Im→Lh→Prop} {ρ:Env} {I:Im} {L:Lh}
theorem wpS.mono {Q':Exit→Env→Im→Lh→Prop} {c:Code} (h:wpS P C N c Q ρ I L) (hq:∀ e ρ I L,Q e ρ I L→Q' e ρ I L):wpS P C N c Q' ρ I L :=
 fun a w ha hw=>wpIn_mono (h a w ha hw) fun _ _ _ ⟨ρ,I,L,h1,h2,h3⟩=>⟨ρ,I,L,h1,h2,hq _ _ _ _ h3⟩
theorem wpS.skip (h:Q .normal ρ I L):wpS P C N .skip Q ρ I L:=fun a w ha hw=>wpIn_skip ⟨ρ,I,L,ha,hw,h⟩
theorem wpS.ret (h:Q .ret ρ I L):wpS P C N .ret Q ρ I L:=fun a w ha hw=>wpIn_ret ⟨ρ,I,L,ha,hw,h⟩
theorem wpS.exit {id:Nat} (h:Q (.exit id) ρ I L):wpS P C N (.exit id) Q ρ I L:=fun a w ha hw=>wpIn_exit ⟨ρ,I,L,ha,hw,h⟩
@[reducible] def b6k (next:Env→Im→Lh→Prop) (Q:Exit→Env→Im→Lh→Prop):Exit→Env→Im→Lh→Prop
 | .normal,ρ,I,L=>next ρ I L
 | e,ρ,I,L=>Q e ρ I L
theorem wpS.seq {x y:Code} (h:wpS P C N x (b6k (wpS P C N y Q) Q) ρ I L):wpS P C N (.seq x y) Q ρ I L:=fun a w ha hw=>by
 refine wpIn_seq (wpIn_mono (h a w ha hw) fun e a w ⟨ρ,I,L,h1,h2,h3⟩ => ?_)
 cases e with
 | normal=>exact h3 a w h1 h2
 | _=>exact⟨ρ,I,L,h1,h2,h3⟩
theorem wpS.cond {c : Operand} {x y : Code} {b : Bool} (hc : ev ρ c = some (.bool b)) (ht : b = true → wpS P C N x Q ρ I L) (hf : b = false → wpS P C N y Q ρ I L) :
    wpS P C N (.cond c x y) Q ρ I L:=fun a w ha hw=>wpIn_cond_split (ha.ev hc) (fun e=>ht e a w ha hw) (fun e=>hf e a w ha hw)
theorem wpS.R4 {c : Operand} {x y : Code} {p : Prop} [Decidable p] (hc : ev ρ c = some (.bool (decide p))) (ht : p → wpS P C N x Q ρ I L) (hf : ¬ p → wpS P C N y Q ρ I L) :
    wpS P C N (.cond c x y) Q ρ I L := .cond hc (fun e=>ht (of_decide_eq_true e)) (fun e=>hf (of_decide_eq_false e))
@[reducible] def a9k (id:Nat) (Q:Exit→Env→Im→Lh→Prop):Exit→Env→Im→Lh→Prop
 | .exit i,ρ,I,L=>bif Nat.beq i id then Q .normal ρ I L else Q (.exit i) ρ I L
 | e,ρ,I,L=>Q e ρ I L
theorem wpS.block {id:Nat} {c:Code} (h:wpS P C N c (a9k id Q) ρ I L):wpS P C N (.block id c) Q ρ I L:=fun a w ha hw=>by
 refine wpIn_block (wpIn_mono (h a w ha hw) fun e a w ⟨ρ,I,L,h1,h2,h3⟩ => ?_)
 cases e with
 | exit i =>
  by_cases hi:i=id
  ·subst hi
   simp only [Exit.inBlock,if_true]
   exact⟨ρ,I,L,h1,h2,by simpa [a9k] using h3⟩
  ·have hb:Nat.beq i id=false:=a4W hi
   simp only [Exit.inBlock,if_neg hi]
   exact⟨ρ,I,L,h1,h2,by simpa [a9k,hb] using h3⟩
 | _=>exact⟨ρ,I,L,h1,h2,h3⟩
theorem wpS.loop {α : Type} (E : α → Env) (Lf : α → Lh) (F : α → Im → Prop) (μ : α → Nat) {c : Code}
    (x0:α) (h0:F x0 I) (hE:Sub (E x0) ρ) (hL:L=Lf x0)
    (round:∀ x J,Le I J→F x J→wpS P C N c (b6k (fun ρ' J' L'=>∃ x',Sub (E x') ρ'∧L'=Lf x'∧F x' J'∧μ x' < μ x∧Le I J') Q) (E x) J (Lf x)) :
    wpS P C N (.loop c) Q ρ I L:=fun a w ha hw=>by
  intro b k cs hro hfn hroom
  have key : ∀ n x J a w, μ x = n → Le I J → F x J → Fits N (E x) a → St C J (Lf x) w →
      ∃ e a' w',a6A C N Q e a' w'∧ArrivesIn (Machine.fenced P C.fen) P (lone (b.atR a (.code c :: .inLoop c::k)) cs w) b k cs e a' w':=by
    intro n
    induction n using Nat.strongRecOn with
    | _ n ih =>
      intro x J a w hn hJ hF ha hw
      obtain⟨e,a1,w1,⟨ρ1,J1,L1,hf1,hs1,hq1⟩,harr⟩:=round x J hJ hF a w ha hw b (.inLoop c::k) cs hro hfn hroom
      cases e with
      | normal =>
        obtain⟨x',hsub,rfl,hF',hlt,hJ'⟩:=hq1
        obtain⟨e2,a2,w2,hq2,harr2⟩:=ih (μ x') (hn▸hlt) x' J1 a1 w1 rfl hJ' hF' (hf1.sub hsub) hs1
        exact⟨e2,a2,w2,hq2,.of_steps (StepsIn.trans harr (.one (fenced_calm hfn hroom a8) stepR_inLoop)) harr2⟩
      | exit id=>exact⟨_,a1,w1,⟨ρ1,J1,L1,hf1,hs1,hq1⟩,.pass (x := .inLoop c) rfl (fun _ _ => .inl (by simp)) harr⟩
      | goto l=>exact⟨_,a1,w1,⟨ρ1,J1,L1,hf1,hs1,hq1⟩,.pass (x := .inLoop c) rfl (fun _ _ => .inl (by simp)) harr⟩
      | ret=>exact⟨_,a1,w1,⟨ρ1,J1,L1,hf1,hs1,hq1⟩,.pass (x := .inLoop c) rfl (fun _ _ => .inl (by simp)) harr⟩
      | panic ch=>exact⟨_,a1,w1,⟨ρ1,J1,L1,hf1,hs1,hq1⟩,.pass (x := .inLoop c) rfl (fun _ _ => .inl (by simp)) harr⟩
      | outgrown=>exact⟨_,a1,w1,⟨ρ1,J1,L1,hf1,hs1,hq1⟩,.pass (x := .inLoop c) rfl (fun _ _ => .inl (by simp)) harr⟩
  subst hL
  obtain⟨e,a',w',hq,harr⟩:=key _ x0 I a w rfl (Le.refl I) h0 (ha.sub hE) hw
  exact⟨e,a',w',hq,.of_steps (.one (fenced_calm hfn hroom a8) stepR_loop) harr⟩
end control
def Yld (P:Program) (r:Result Next) (K:Value→World→Prop):Prop :=
 match r with
 | .ok (.value v) w'=>K v w'
 | .ok .skip w'=>K undef w'
 | .ok (.enter f args) w'=>Calls P f args w' (fun e w''=>∃ v,e = .returned v∧K v w'')
 | .ok (.round l f tmps assign body) w'=>RoundIn Fence.wide 0 P l f tmps assign body w' (fun e w''=>∃ v,e = .returned v∧K v w'')
 | _=>False
theorem Yld.mono {P:Program} {r:Result Next} {K K':Value→World→Prop} (h:Yld P r K) (hk:∀ v w,K v w→K' v w):Yld P r K':=by
 unfold Yld at *
 split at h
 ·exact hk _ _ h
 ·exact hk _ _ h
 ·exact Calls.mono h (fun e w ⟨v,he,hv⟩=>⟨v,he,hk _ _ hv⟩)
 ·exact RoundIn.mono h (fun e w ⟨v,he,hv⟩=>⟨v,he,hk _ _ hv⟩)
 ·exact h.elim
theorem Yld.wp {C : Ctx} {P : Program} {o : Oper} {a : Act} {w : World} {K : Act → World → Prop} {Q : Exit → Act → World → Prop}
    (h:Yld P ((execOp a.eval o).run P w) (fun v w'=>K (a.put o.dst v) w')):o.wpIn C.fen 0 P a w K Q:=by
  refine⟨fun _ _=>trivial,?_⟩
  have hs:(o.semAt C.fen.round a.eval).run P w=(execOp a.eval o).run P w:=by
    unfold Oper.semAt
    split
    · rename_i c hr hop
      exfalso
      have e:(execOp a.eval o).run P w=((resolve a.eval c o.type).run P w).andThen (fun d w' => .ok (.defer d) w'):=by simp [execOp,hop]
      rw [e] at h
      cases hq:(resolve a.eval c o.type).run P w with
      | ok d w'=>rw [hq] at h;exact h
      | halt x w'=>rw [hq] at h;exact h
    · rfl
  rw [hs]
  generalize (execOp a.eval o).run P w=r at *
  cases r with
  | ok n w' =>
    cases n<;>simp only [Yld] at h<;>simp only [Oper.uponIn]
    case enter f args =>
      refine⟨fun hd=>(by cases hd),(callsIn_wide.2 (Calls.mono h ?_):CallsIn Fence.wide (0 - 1) P f args w' _)⟩
      rintro e w'' ⟨v,rfl,hv⟩
      exact hv
    case round l f tmps assign body =>
      refine⟨fun hd=>(by cases hd),(RoundIn.mono h ?_:RoundIn Fence.wide 0 P l f tmps assign body w' _)⟩
      rintro e w'' ⟨v,rfl,hv⟩
      exact hv
    all_goals first|exact h|exact h.elim
  | halt x w'=>simp only [Yld] at h
def I1 (P:Program) (N:Nat) (o:Oper) (ρ:Env) (I:Im) (L:Lh) (φ:Value→Prop):Prop :=
 ∀ a w,Fits N ρ a→Mem I L w→∃ v,φ v∧((execOp a.eval o).run P w = .ok (.value v) w)
def OpX (P:Program) (N:Nat) (o:Oper) (ρ:Env) (I:Im) (L:Lh) (K:Value→Im→Lh→Prop):Prop :=
 ∀ a w,Fits N ρ a→Mem I L w→Yld P ((execOp a.eval o).run P w) fun v w' =>
  ∃ J X,Chg [] w w'∧Le I J∧b0w w.heap.size I J∧Mem J (X++L) w'∧(∀ p∈X.flatten,w.heap.size≤p.1)∧K v J X
def OpS (P:Program) (C:Ctx) (N:Nat) (o:Oper) (ρ:Env) (I:Im) (L:Lh) (K:Value→Im→Lh→Prop):Prop :=
 ∀ a w,Fits N ρ a→St C I L w→Yld P ((execOp a.eval o).run P w) fun v w'=>∃ J L',St C J L' w'∧K v J L'
section opers
variable {P:Program} {C:Ctx} {N:Nat} {ρ:Env} {I:Im} {L:Lh} {o:Oper}
theorem OpX.H5 {K:Value→Im→Lh→Prop} (h:I1 P N o ρ I L (fun v=>K v I [])):OpX P N o ρ I L K:=fun a w ha hw=>by
 obtain⟨v,hv,hr⟩:=h a w ha hw
 rw [hr]
 exact⟨I,[],Chg.refl _ _,Le.refl _,fun b h0 h1=>absurd h0 h1,hw,by simp,hv⟩
theorem St.step {w w' : World} {J : Im} {X : Lh} (hs : St C I L w) (hc : Chg [] w w') (hle : Le I J) (hn : b0w w.heap.size I J) (hm : Mem J (X ++ L) w')
    (hX:∀ p∈X.flatten,w.heap.size≤p.1):St C J (X++L) w':=by
  refine⟨hm,hs.chg.trans (hc.mono (by simp)),fun p hp => ?_,hs.W3.trans hle,fun b h0 h1 => ?_⟩
  · simp only [List.flatten_append,List.mem_append] at hp
    rcases hp with hp|hp
    · exact .inl (Nat.le_trans hs.chg.size (hX p hp))
    · exact hs.own p hp
  · cases hi:I b with
    | none=>exact Nat.le_trans hs.chg.size (hn b hi h1)
    | some o=>exact hs.new b h0 (by simp [hi])
theorem OpS.ofX {K:Value→Im→Lh→Prop} (h:OpX P N o ρ I L (fun v J X=>K v J (X++L))):OpS P C N o ρ I L K:=fun a w ha hs =>
 (h a w ha hs.mem).mono fun v w' ⟨J,X,hc,hle,hn,hm,hX,hk⟩=>⟨J,X++L,hs.step hc hle hn hm hX,hk⟩
variable {ops:Array Oper} {Q:Exit→Env→Im→Lh→Prop} {rest:List Oper}
theorem wpL.nil (h:Q .normal ρ I L):wpL P C N ops Q [] ρ I L:=fun _ a w ha hs=>wpListIn_nil ⟨ρ,I,L,ha,hs,h⟩
theorem a9l {d : Nat} {op : Op} {ty : TypeId} {ps : String} {af : Array Edge} {g : Option (Nat × Bool)}
    (h:M4 N (⟨some d,op,ty,ps,af,g⟩::rest)=true):d < N∧M4 N rest=true:=by
  simp only [M4,List.all_cons,Bool.and_eq_true] at h
  exact⟨by have:=h.1;simpa [Nat.blt_eq] using this,h.2⟩
theorem b6l {op : Op} {ty : TypeId} {ps : String} {af : Array Edge} {g : Option (Nat × Bool)}
    (h:M4 N (⟨none,op,ty,ps,af,g⟩::rest)=true):M4 N rest=true:=by
  simp only [M4,List.all_cons,Bool.and_eq_true] at h
  exact h.2
theorem wpL.s {d : Nat} {op : Op} {ty : TypeId} {ps : String} {af : Array Edge}
    (h:OpS P C N ⟨some d,op,ty,ps,af,none⟩ ρ I L (fun v J L'=>wpL P C N ops Q rest ((d,v)::ρ) J L')) :
    wpL P C N ops Q (⟨some d,op,ty,ps,af,none⟩::rest) ρ I L:=fun hd a w ha hs=>by
  obtain⟨hlt,hd'⟩:=a9l hd
  refine wpListIn_plain rfl fun K hK=>Yld.wp ((h a w ha hs).mono ?_)
  rintro v w' ⟨J,L',hs',hk⟩
  exact hK _ _ (hk hd' _ _ (ha.put hlt v) hs')
theorem wpL.n {op : Op} {ty : TypeId} {ps : String} {af : Array Edge}
    (h:OpS P C N ⟨none,op,ty,ps,af,none⟩ ρ I L (fun _ J L'=>wpL P C N ops Q rest ρ J L')) :
    wpL P C N ops Q (⟨none,op,ty,ps,af,none⟩::rest) ρ I L:=fun hd a w ha hs=>by
  refine wpListIn_plain rfl fun K hK=>Yld.wp ((h a w ha hs).mono ?_)
  rintro v w' ⟨J,L',hs',hk⟩
  exact hK _ _ (hk (b6l hd) _ _ ha hs')
theorem wpL.x {d : Nat} {op : Op} {ty : TypeId} {ps : String} {af : Array Edge}
    (h:OpX P N ⟨some d,op,ty,ps,af,none⟩ ρ I L (fun v J X=>wpL P C N ops Q rest ((d,v)::ρ) J (X++L))) :
    wpL P C N ops Q (⟨some d,op,ty,ps,af,none⟩::rest) ρ I L := .s (.ofX h)
theorem wpL.v {d : Nat} {op : Op} {ty : TypeId} {ps : String} {af : Array Edge}
    (h:I1 P N ⟨some d,op,ty,ps,af,none⟩ ρ I L (fun v=>wpL P C N ops Q rest ((d,v)::ρ) I L)) :
    wpL P C N ops Q (⟨some d,op,ty,ps,af,none⟩::rest) ρ I L := .s (.ofX (.H5 (by simpa using h)))
end opers
section guards
variable {P:Program} {C:Ctx} {N:Nat} {ρ:Env} {I:Im} {L:Lh} {ops:Array Oper} {Q:Exit→Env→Im→Lh→Prop} {rest:List Oper}
theorem a7o {j dj:Nat} {b:Bool} {a:Act} (ha:Fits N ρ a) (hj:(ops[j]?).bind (·.dst)=some dj) (hb:look ρ dj=some (.bool b)):yielded ops a.tmps j=some b:=by
 unfold yielded
 rw [hj]
 simp [ha.tmp dj _ hb]
theorem wpL.gt {d : Nat} {op : Op} {ty : TypeId} {ps : String} {af : Array Edge} {j : Nat} {want : Bool} (dj : Nat) (hj : (ops[j]?).bind (·.dst) = some dj) (hb : look ρ dj = some (.bool want))
    (h:OpS P C N ⟨some d,op,ty,ps,af,none⟩ ρ I L (fun v J L'=>wpL P C N ops Q rest ((d,v)::ρ) J L')) :
    wpL P C N ops Q (⟨some d,op,ty,ps,af,some (j,want)⟩::rest) ρ I L:=fun hd a w ha hs=>by
  obtain⟨hlt,hd'⟩:=a9l hd
  refine wpListIn_step fun K hK => ?_
  rw [if_pos (by simp [Region.wanted,a7o ha hj hb])]
  have h1:=h a w ha hs
  have h2:Yld P ((execOp a.eval ⟨some d,op,ty,ps,af,some (j,want)⟩).run P w) fun v w'=>∃ J L',St C J L' w'∧wpL P C N ops Q rest ((d,v)::ρ) J L':=h1
  refine Yld.wp (h2.mono ?_)
  rintro v w' ⟨J,L',hs',hk⟩
  exact hK _ _ (hk hd' _ _ (ha.put hlt v) hs')
theorem wpL.gf {d : Nat} {op : Op} {ty : TypeId} {ps : String} {af : Array Edge} {j : Nat} {want : Bool} (dj : Nat) (hj : (ops[j]?).bind (·.dst) = some dj) (hb : look ρ dj = some (.bool (!want)))
    (h:wpL P C N ops Q rest ((d,undef)::ρ) I L) :
    wpL P C N ops Q (⟨some d,op,ty,ps,af,some (j,want)⟩::rest) ρ I L:=fun hd a w ha hs=>by
  obtain⟨hlt,hd'⟩:=a9l hd
  refine wpListIn_step fun K hK => ?_
  rw [if_neg (by simp [Region.wanted,a7o ha hj hb])]
  exact⟨fun _ _=>trivial,hK _ _ (h hd' _ _ (ha.put hlt undef) hs)⟩
end guards
theorem wpS.region {P : Program} {C : Ctx} {N : Nat} {Q : Exit → Env → Im → Lh → Prop} {ρ : Env} {I : Im} {L : Lh} {id : Nat} {l : List Oper} (hd : M4 N l = true) (h : wpL P C N l.toArray Q l ρ I L) :
    wpS P C N (.region id l.toArray false) Q ρ I L:=fun a w ha hs=>wpIn_region_lit (h hd a w ha hs)
theorem a1a:∀ (L:Lh) (i:Nat),(L.set i []).flatten.Sublist L.flatten
 | [],_=>by simp
 | c::r,0=>by simp
 | c::r,i+1=>by simpa using (a1a r i).append_left c
theorem a1I:∀ (L:Lh) (i:Nat) (c:List (Nat×Obj)),L[i]?=some c→∀ c',L.flatten=(L.take i).flatten++(c++(L.drop (i+1)).flatten)∧(L.set i c').flatten=(L.take i).flatten++(c'++(L.drop (i+1)).flatten)
 | [],i,c,h,_=>by simp at h
 | x::r,0,c,h,c'=>by simp at h;subst h;simp
 | x::r,i+1,c,h,c'=>by
  have:=a1I r i c (by simpa using h) c'
  simp only [List.flatten_cons,List.take_succ_cons,List.drop_succ_cons,List.set_cons_succ]
  rw [this.1,this.2]
  simp
theorem F7 {L:Lh} {i:Nat} {c:List (Nat×Obj)} (hc:L[i]?=some c) {p:Nat×Obj} (hp:p∈c):p∈L.flatten :=
 List.mem_flatten.2 ⟨c,List.mem_of_getElem? hc,hp⟩
theorem b4X {L:Lh} (hn:(L.flatten.map Prod.fst).Nodup) {p q:Nat×Obj} (hp:p∈L.flatten) (hq:q∈L.flatten) (h:p.1=q.1):p=q:=by
 have:∀ l:List (Nat×Obj),(l.map Prod.fst).Nodup→p∈l→q∈l→p=q:=by
  intro l
  induction l with
  | nil=>intro _ h;cases h
  | cons x r ih =>
   intro hnd hp hq
   simp only [List.map_cons,List.nodup_cons,List.mem_map,not_exists,not_and] at hnd
   rcases List.mem_cons.1 hp with rfl|hp'<;>rcases List.mem_cons.1 hq with rfl|hq'
   ·rfl
   ·exact absurd h.symm (hnd.1 q hq')
   ·exact absurd h (hnd.1 p hp')
   ·exact ih hnd.2 hp' hq'
 exact this _ hn hp hq
open Classical in
/-- I and the chunk c together. -/
noncomputable def Im.with (I:Im) (c:List (Nat×Obj)):Im:=fun b=>if h:∃ o,(b,o)∈c then some (Classical.choose h) else I b
theorem Im.a1b {I:Im} {c:List (Nat×Obj)} (hn:(c.map Prod.fst).Nodup) {p:Nat×Obj} (hp:p∈c):I.with c p.1=some p.2:=by
 have h:∃ o,(p.1,o)∈c:=⟨p.2,hp⟩
 unfold Im.with
 rw [dif_pos h]
 have h2:=Classical.choose_spec h
 have:=b4X (L := [c]) (by simpa using hn) (p:=(p.1,Classical.choose h)) (q:=p) (by simpa using h2) (by simpa using hp) rfl
 exact congrArg some (congrArg Prod.snd this)
theorem Im.a0Z {I:Im} {c:List (Nat×Obj)} (hs:∀ p∈c,I p.1=none):Le I (I.with c):=fun b o hb=>by
 unfold Im.with
 rw [dif_neg]
 ·exact hb
 ·rintro⟨o',ho⟩
  rw [hs _ ho] at hb
  cases hb
theorem Im.W5 {I:Im} {c:List (Nat×Obj)} {b:Nat} {o:Obj} (h:I.with c b=some o):(b,o)∈c∨I b=some o:=by
 unfold Im.with at h
 split at h
 ·rename_i hx
  cases h
  exact .inl (Classical.choose_spec hx)
 ·exact .inr h
theorem Mem.freeze {I:Im} {L:Lh} {w:World} (hm:Mem I L w) {i:Nat} {c:List (Nat×Obj)} (hc:L[i]?=some c):Mem (I.with c) (L.set i []) w:=by
 have hsplit:=a1I L i c hc []
 have hnd:=hm.nodup
 rw [hsplit.1] at hnd
 have hmem:∀ p∈(L.set i []).flatten,p∈L.flatten:=fun p hp=>(a1a L i).subset hp
 have hap:∀ p∈(L.set i []).flatten,∀ q∈c,p.1≠q.1:=by
  intro p hp q hq e
  rw [hsplit.2] at hp
  simp only [List.map_append,List.nodup_append,List.nil_append,List.mem_append] at hnd hp
  rcases hp with hp|hp
  ·exact hnd.2.2 p.1 (List.mem_map_of_mem hp) q.1 (by simp;exact .inl ⟨_,hq⟩) e
  ·exact hnd.2.1.2.2 q.1 (List.mem_map_of_mem hq) p.1 (List.mem_map_of_mem hp) e.symm
 refine⟨fun b o hb => ?_,fun p hp=>hm.loc p (hmem p hp),fun p hp => ?_,?_⟩
 ·rcases Im.W5 hb with h|h
  ·exact hm.loc (b,o) (F7 hc h)
  ·exact hm.im b o h
 ·unfold Im.with
  rw [dif_neg]
  ·exact hm.sep p (hmem p hp)
  ·rintro⟨o',ho⟩
   exact hap p hp _ ho rfl
 ·exact(((a1a L i).map Prod.fst).nodup hm.nodup)
theorem St.freeze {C:Ctx} {I:Im} {L:Lh} {w:World} (hs:St C I L w) {i:Nat} {c:List (Nat×Obj)} (hc:L[i]?=some c) (hM:∀ p∈c,p.1∈C.M→False):St C (I.with c) (L.set i []) w:=by
 have hcs:∀ p∈c,I p.1=none:=fun p hp=>hs.mem.sep p (F7 hc hp)
 refine⟨hs.mem.freeze hc,hs.chg,fun p hp=>hs.own p ((a1a L i).subset hp),hs.W3.trans (Im.a0Z hcs),fun b h0 h1 => ?_⟩
 cases hb:I.with c b with
 | none=>exact absurd hb h1
 | some o =>
  rcases Im.W5 hb with h|h
  ·rcases hs.own (b,o) (F7 hc h) with h2|h2
   ·exact h2
   ·exact(hM _ h h2).elim
  ·exact hs.new b h0 (by simp [h])
theorem a2g {L:Lh} {i:Nat} {c:List (Nat×Obj)} (hn:(L.flatten.map Prod.fst).Nodup) (hc:L[i]?=some c):(c.map Prod.fst).Nodup:=by
 have hsplit:=(a1I L i c hc []).1
 rw [hsplit] at hn
 simp only [List.map_append,List.nodup_append] at hn
 exact hn.2.1.1
section freeze
variable {P:Program} {C:Ctx} {N:Nat} {Q:Exit→Env→Im→Lh→Prop} {ρ:Env} {I:Im} {L:Lh}
theorem wpS.freeze (i : Nat) {c : List (Nat × Obj)} {code : Code} (hc : L[i]? = some c) (hM : ∀ p ∈ c, p.1 ∈ C.M → False)
    (h:∀ J,Le I J→(∀ p∈c,J p.1=some p.2)→wpS P C N code Q ρ J (L.set i [])):wpS P C N code Q ρ I L:=fun a w ha hs =>
  h (I.with c) (Im.a0Z fun p hp=>hs.mem.sep p (F7 hc hp)) (fun p hp=>Im.a1b (a2g hs.mem.nodup hc) hp) a w ha (hs.freeze hc hM)
theorem wpL.freeze (i : Nat) {c : List (Nat × Obj)} {ops : Array Oper} {l : List Oper} (hc : L[i]? = some c) (hM : ∀ p ∈ c, p.1 ∈ C.M → False)
    (h:∀ J,Le I J→(∀ p∈c,J p.1=some p.2)→wpL P C N ops Q l ρ J (L.set i [])):wpL P C N ops Q l ρ I L:=fun hd a w ha hs =>
  h (I.with c) (Im.a0Z fun p hp=>hs.mem.sep p (F7 hc hp)) (fun p hp=>Im.a1b (a2g hs.mem.nodup hc) hp) hd a w ha (hs.freeze hc hM)
end freeze
structure a9m (P:Program) (f:FuncId):Prop where
 ok:∃ fn,P.funcs[f]?=some fn∧(fn.name == "runtime.NumGoroutine")=false∧fn.body.isNone=false
structure c2U (P:Program) (f:FuncId) (args:Array Value) (I:Im) (L:Lh) (post:Value→Im→Lh→Prop):Prop where
 ok:a9m P f
 run:∀ w,Mem I L w→Calls P f args w fun e w'=>∃ v J L',e = .returned v∧Chg (L.flatten.map Prod.fst) w w'∧Le I J∧b0w w.heap.size I J∧Mem J L' w' ∧
  (∀ p∈L'.flatten,w.heap.size≤p.1∨p.1∈L.flatten.map Prod.fst)∧post v J L'
structure Fun (P:Program) (f:FuncId) (args:Array Value) (I:Im) (post:Value→Im→Prop):Prop where
 ok:a9m P f
 run:∀ w,Mem I [] w→Calls P f args w fun e w'=>∃ v J,e = .returned v∧Chg [] w w'∧Le I J∧b0w w.heap.size I J∧Mem J [] w'∧post v J
theorem Fun.mono {P:Program} {f:FuncId} {args:Array Value} {I:Im} {post post':Value→Im→Prop} (h:Fun P f args I post) (hp:∀ v J,Le I J→post v J→post' v J):Fun P f args I post' :=
 ⟨h.ok,fun w hm=>(h.run w hm).mono fun e w' ⟨v,J,a1,a2,a3,a4,a5,a6⟩=>⟨v,J,a1,a2,a3,a4,a5,hp v J a3 a6⟩⟩
theorem Mem.drop {I:Im} {L:Lh} {w:World} (h:Mem I L w):Mem I [] w:=⟨h.im,by simp,by simp,by simp⟩
def Fin (P:Program) (fn:Func) (ρ:Env) (I:Im) (L:Lh) (v:Value):Prop :=
 ∀ N a w,Fits N ρ a→Mem I L w→(results fn a.tmps).run P w = .ok v w
def b8U (P:Program) (fn:Func) (post:Value→Im→Lh→Prop):Exit→Env→Im→Lh→Prop
 | .normal,ρ,I,L | .ret,ρ,I,L=>∃ v,Fin P fn ρ I L v∧post v I L
 | _,_,_,_=>False
def a1p:List Value→Nat→Env
 | [],_ => []
 | v::r,k=>(k,v)::a1p r (k+1)
theorem a6C:∀ (l:List Value) (k t:Nat) (v:Value),look (a1p l k) t=some v→k≤t∧l[t - k]?=some v
 | [],_,_,_,h=>by simp [a1p,look] at h
 | x::r,k,t,v,h=>by
  rw [a1p,U0] at h
  by_cases e:k=t
  ·subst e;simp at h;subst h;simp
  ·rw [if_neg e] at h
   obtain⟨h1,h2⟩:=a6C r (k+1) t v h
   refine⟨by omega,?_⟩
   rw [show t - k=(t - (k+1))+1 by omega]
   simpa using h2
theorem b0x {P : Program} {fn : Func} {C : Ctx} {N : Nat} {post : Value → Im → Lh → Prop} {R : Ending → World → Prop} (h : ∀ v J L w, St C J L w → post v J L → R (.returned v) w)
    (e:Exit) (a:Act) (w:World) (hq:a6A C N (b8U P fn post) e a w):bodyPost P fn R e a w:=by
  obtain⟨ρ,J,L,hf,hs,hq⟩:=hq
  cases e with
  | normal=>obtain⟨v,hfin,hp⟩:=hq;exact⟨hf.defers,v,hfin N a w hf hs.mem,h v J L w hs hp⟩
  | ret=>obtain⟨v,hfin,hp⟩:=hq;exact⟨hf.defers,v,hfin N a w hf hs.mem,h v J L w hs hp⟩
  | _=>exact hq.elim
theorem a1J {P : Program} {f : FuncId} {fn : Func} {c : Code} {l : List Value} {I : Im} {L : Lh} {M : List Nat} {w : World} {post : Value → Im → Lh → Prop} {R : Ending → World → Prop}
    (hf:P.funcs[f]?=some fn) (hb:fn.body=some c) (N:Nat) (hN:fn.ntmps=N) (hl:Nat.ble l.length N=true) (hm:Mem I L w) (hM:∀ p∈L.flatten,p.1∈M)
    (h:wpS P ⟨w,M,I,none⟩ N c (b8U P fn post) (a1p l 0) I L) (hR:∀ v J L' w',St ⟨w,M,I,none⟩ J L' w'→post v J L'→R (.returned v) w'):Calls P f l.toArray w R:=by
  refine calls_of_wp hf hb (wpIn_wide.1 (wpIn_mono (h _ w ?_ ?_) (b0x hR)))
  · have hl':l.length≤N:=Nat.le_of_ble_eq_true hl
    refine⟨rfl,by simp [hN];omega,fun t v hv => ?_⟩
    obtain⟨_,h2⟩:=a6C l 0 t v hv
    have hlt:t < l.length:=(List.getElem?_eq_some_iff.1 (by simpa using h2)).1
    rw [Array.getElem?_append_left (by simpa using hlt)]
    simpa using h2
  · exact⟨hm,Chg.refl _ _,fun p hp => .inr (hM p hp),Le.refl _,fun b h0 h1=>absurd h0 h1⟩
theorem Fun.intro {P : Program} {f : FuncId} {fn : Func} {c : Code} {l : List Value} {I : Im} {post : Value → Im → Prop} (hf : P.funcs[f]? = some fn) (hb : fn.body = some c) (hn : (fn.name == "runtime.NumGoroutine") = false)
    (N:Nat) (hN:fn.ntmps=N) (hl:Nat.ble l.length N=true) (σ:Env) (hσ:a1p l 0=σ)
    (h:∀ C:Ctx,C.M = []→wpS P C N c (b8U P fn (fun v J _=>post v J)) σ I []):Fun P f l.toArray I post :=
  ⟨⟨fn,hf,hn,by simp [hb]⟩,fun w hm=>a1J hf hb N hN hl hm (M := []) (by simp) (hσ▸h ⟨w,[],I,none⟩ rfl)
    fun v J L' w' hs hp=>⟨v,J,rfl,hs.chg,hs.W3,fun b h0 h1=>hs.new b h0 h1,hs.mem.drop,hp⟩⟩
def evL (ρ:Env):List Operand→Option (List Value)
 | []=>some []
 | x::r=>match ev ρ x,evL ρ r with
  | some v,some l=>some (v::l)
  | _,_=>none
theorem Fits.evL {N:Nat} {ρ:Env} {a:Act} (h:Fits N ρ a):∀ {l:List Operand} {vs:List Value},evL ρ l=some vs→l.map a.eval=vs
 | [],vs,hl=>by simp [Fl.evL] at hl;subst hl;rfl
 | x::r,vs,hl=>by
  simp only [Fl.evL] at hl
  cases hx:Fl.ev ρ x with
  | none=>simp [hx] at hl
  | some v =>
   cases hr:Fl.evL ρ r with
   | none=>simp [hx,hr] at hl
   | some l =>
    simp [hx,hr] at hl
    subst hl
    simp [h.ev hx,h.evL hr]
theorem a1K {P : Program} {f : FuncId} (ok : a9m P f) {a : Act} {w : World} {o : Oper} {F : Operand} {args : Array Operand} {tys : Array TypeId} (ho : o.op = .call ⟨.value F, args, tys⟩)
    (hF:a.eval F = .func (.func f) #[] #[]) {vs:List Value} (hv:args.toList.map a.eval=vs):(execOp a.eval o).run P w = .ok (.enter f vs.toArray) w:=by
  obtain⟨fn,h1,h2,h3⟩:=ok.ok
  subst hv
  have hargs:args.map a.eval=(args.toList.map a.eval).toArray:=by cases args;simp
  have h2':¬fn.name = "runtime.NumGoroutine" := by simpa using h2
  have h3':fn.body≠none:=by intro e;simp [e] at h3
  simp [execOp,ho,resolve,Deferred.ofValue,hF,invoke,callFunc,program,Sem.run,h1,h2',h3',←hargs]
section calls
variable {P:Program} {C:Ctx} {N:Nat} {ρ:Env} {I:Im} {L:Lh} {f:FuncId} {d:Option Nat} {F:Operand} {args:Array Operand} {tys:Array TypeId} {ty:TypeId} {ps:String} {af:Array Edge} {g:Option (Nat×Bool)} {vs:List Value}
theorem OpX.call {post : Value → Im → Prop} {K : Value → Im → Lh → Prop} (hF : ev ρ F = some (.func (.func f) #[] #[])) (hv : evL ρ args.toList = some vs) (h : Fun P f vs.toArray I post)
    (k:∀ v J,Le I J→post v J→K v J []):OpX P N ⟨d,.call ⟨.value F,args,tys⟩,ty,ps,af,g⟩ ρ I L K:=fun a w ha hm=>by
  rw [a1K h.ok rfl (ha.ev hF) (ha.evL hv)]
  refine(h.run w hm.drop).mono ?_
  rintro e w' ⟨v,J,rfl,hc,hle,hn,hm',hp⟩
  refine⟨v,rfl,J,[],hc,hle,hn,?_,by simp,k v J hle hp⟩
  have hlt:∀ p∈L.flatten,p.1 < w.heap.size:=fun p hp=>C6 (hm.loc p hp)
  refine⟨hm'.im,fun p hp=>(hc.block p.1 (hlt p hp) (by simp)).trans (hm.loc p hp),fun p hp => ?_,hm.nodup⟩
  cases hj:J p.1 with
  | none=>rfl
  | some o=>exact absurd (hn p.1 (hm.sep p hp) (by simp [hj])) (by have:=hlt p hp;omega)
theorem OpX.b8V {φ : Value → Prop} {K : Value → Im → Lh → Prop} (hF : ev ρ F = some (.func (.func f) #[] #[])) (hv : evL ρ args.toList = some vs)
    (h:∀ J,Le I J→(∀ p∈L.flatten,J p.1=some p.2)→Fun P f vs.toArray J (fun v _=>φ v))
    (k:∀ v,φ v→K v I []):OpX P N ⟨d,.call ⟨.value F,args,tys⟩,ty,ps,af,g⟩ ρ I L K:=fun a w ha hm=>by
  have hcs:∀ p∈L.flatten,I p.1=none:=hm.sep
  have h1:=h (I.with L.flatten) (Im.a0Z hcs) (fun p hp=>Im.a1b hm.nodup hp)
  have hm2:Mem (I.with L.flatten) [] w:=⟨fun b o hb=>by
    rcases Im.W5 hb with h|h
    · exact hm.loc (b,o) h
    · exact hm.im b o h,by simp,by simp,by simp⟩
  rw [a1K h1.ok rfl (ha.ev hF) (ha.evL hv)]
  refine(h1.run w hm2).mono ?_
  rintro e w' ⟨v,J,rfl,hc,hle,hn,hm',hp⟩
  refine⟨v,rfl,I,[],hc,Le.refl _,fun b h0 h1=>absurd h0 h1,⟨fun b o hb => ?_,fun p hp => ?_,hm.sep,hm.nodup⟩,by simp,k v hp⟩
  · exact(hc.block b (C6 (hm.im b o hb)) (by simp)).trans (hm.im b o hb)
  · exact(hc.block p.1 (C6 (hm.loc p hp)) (by simp)).trans (hm.loc p hp)
end calls
end Go.Fl
namespace Go.Fl
open Go.RowKit
inductive Spec where
 | is (x:Value)
 | val (p:Value→Im→Prop) (mono:∀ v I J,p v I→Le I J→p v J)
 | new (o:Obj)
def Spec.holds:Spec→Value→Im→Prop
 | .is x,v,_=>v=x
 | .val p _,v,J=>p v J
 | .new _,v,_=>∃ b,v = .pointer (some ⟨b,0,none⟩)
theorem Spec.b2p {S:Spec} {v:Value} {I J:Im} (h:S.holds v I) (hle:Le I J):S.holds v J:=by
 cases S with
 | is x=>exact h
 | val p m=>exact m v I J h hle
 | new o=>exact h
def Spec.opx (P:Program) (N:Nat) (o:Oper) (ρ:Env) (J:Im) (L:Lh):Spec→Prop
 | .is x=>OpX P N o ρ J L (fun v J' X=>X = []∧v=x)
 | .val p _=>OpX P N o ρ J L (fun v J' X=>X = []∧p v J')
 | .new obj=>OpX P N o ρ J L (fun v _ X=>∃ b,v = .pointer (some ⟨b,0,none⟩)∧X = [[(b,obj)]])
def C4 (o:Oper):List Nat:=o.op.operands.toList.filterMap fun | .tmp t=>some t|_=>none
def J0 (s:List (Nat×Nat)) (t:Nat):Option Nat :=
 match s with
 | []=>none
 | p::r=>bif Nat.beq p.1 t then some p.2 else J0 r t
def U9 (acc:List (Nat×Spec)) (j:Nat):Option Spec :=
 match acc with
 | []=>none
 | (i,S)::r=>bif Nat.beq i j then some S else U9 r j
def Y8 (sp:Nat→Option Spec) (s:List (Nat×Nat)) (ρ0 ρ:Env) (J:Im):List Nat→Prop→Prop
 | [],G=>G
 | t::ts,G =>
  match J0 s t with
  | none=>look ρ t=look ρ0 t→Y8 sp s ρ0 ρ J ts G
  | some j=>match sp j with
   | some (.is x)=>look ρ t=some x→Y8 sp s ρ0 ρ J ts G
   | some (.val p _)=>∀ v,look ρ t=some v→p v J→Y8 sp s ρ0 ρ J ts G
   | some (.new _)=>∀ b,look ρ t=some (.pointer (some ⟨b,0,none⟩))→Y8 sp s ρ0 ρ J ts G
   | none=>True
def a9n (P:Program) (N:Nat) (ops:Array Oper) (sp:Nat→Option Spec) (ρ0:Env) (I:Im) (L:Lh) (o:Oper) (s:List (Nat×Nat)) (S:Spec):Prop :=
 ∀ J,Le I J→∀ ρ,Y8 sp s ρ0 ρ J (C4 o) (
  match o.guard with
  | none=>S.opx P N o ρ J L
  | some (g,want)=>∀ v,(match sp g with|some T=>T.holds v J|none=>False) →
   (v = .bool want→S.opx P N o ρ J L)∧((∀ b,v = .bool b→b≠want)→S.holds undef J∧∀ o,S ≠ .new o))
def chain (P:Program) (N:Nat) (ops:Array Oper) (ρ0:Env) (I:Im) (L:Lh) (F:List (Nat×Spec)→Prop):List Oper→List (List (Nat×Nat))→Nat→List (Nat×Spec)→Prop
 | [],_,_,acc=>F acc
 | o::os,s::ss,k,acc=>∃ S,a9n P N ops (U9 acc) ρ0 I L o s S∧chain P N ops ρ0 I L F os ss (k+1) ((k,S)::acc)
 | _,[],_,_=>False
def a63 (J:Im) (sp:Nat→Option Spec) (G:Env→Lh→Prop):List Oper→Nat→Env→Lh→Prop
 | o::os,k,ρ,L =>
  match o.dst,sp k with
  | some d,some (.is x)=>a63 J sp G os (k+1) ((d,x)::ρ) L
  | some d,some (.val p _)=>∀ v,p v J→a63 J sp G os (k+1) ((d,v)::ρ) L
  | some d,some (.new obj)=>∀ b,a63 J sp G os (k+1) ((d,.pointer (some ⟨b,0,none⟩))::ρ) ([(b,obj)]::L)
  | _,_=>False
 | [],_,ρ,L=>G ρ L
def a1E (ops:Array Oper):Bool:=(List.range ops.size).all fun i =>
 match ops[i]? with
 | some o=>o.after.all fun e => !Region.binds .any e||Nat.blt e.on i
 | none=>true
def a0I (ops:Array Oper) (n i:Nat) (s:List (Nat×Nat)) (t:Nat):Bool :=
 match J0 s t with
 | some j=>Nat.blt j n&&((ops[j]?).bind (·.dst) == some t)&&Region.waitsFor .any ops i j
 | none=>(List.range n).all fun j => !((ops[j]?).bind (·.dst) == some t)||j == i||Region.waitsFor .any ops j i
def b2q (ops:Array Oper) (n:Nat) (ss:List (List (Nat×Nat))) (i:Nat):Bool :=
 match ops[i]?,ss[i]? with
 | some o,some s=>o.dst.isSome&&(C4 o).all (a0I ops n i s) &&
  (match o.guard with|none=>true|some (g,_)=>Nat.blt g n&&Region.waitsFor .any ops i g)
 | _,_=>false
def b2r (ops:Array Oper) (n:Nat):Bool:=(List.range n).all fun i=>(List.range i).all fun j => !((ops[i]?).bind (·.dst) == (ops[j]?).bind (·.dst))
def Q4 (size n:Nat):Array Bool:=((List.range size).map fun i=>Nat.blt i n).toArray
def a8x (ops:Array Oper) (n:Nat) (ss:List (List (Nat×Nat))):Bool :=
 Nat.ble n ops.size&&a1E ops&&(List.range n).all (b2q ops n ss)&&b2r ops n &&
 (n == ops.size||(Region.sinkB .any ops n&&Region.chainB .any ops n))&&Region.seqB .any ops (ops.size - n) n (Q4 ops.size n)
def unl (listed:Array Bool):Nat→Nat
 | 0=>0
 | n+1=>unl listed n+(if listed.getD n true=false then 1 else 0)
theorem a7p {listed:Array Bool} {i:Nat}:∀ {n:Nat},n≤i→unl (listed.setIfInBounds i true) n=unl listed n
 | 0,_=>rfl
 | n+1,h=>by
  rw [unl,unl,a7p (by omega),getD_set_ne true (by omega)]
theorem a7c {listed:Array Bool} {i:Nat} (hi:listed.getD i true=false):∀ {n:Nat},i < n→unl (listed.setIfInBounds i true) n+1=unl listed n
 | 0,h=>by omega
 | n+1,h=>by
  by_cases e:i=n
  ·subst e
   have hlt:i < listed.size:=by
    rcases Nat.lt_or_ge i listed.size with h'|h'
    ·exact h'
    ·simp [Array.getElem?_eq_none h'] at hi
   have:(listed.setIfInBounds i true).getD i true=true:=by simp [hlt]
   rw [unl,unl,a7p (Nat.le_refl _),if_pos hi,this]
   simp
  ·rw [unl,unl,getD_set_ne true (by omega)]
   have:=a7c hi (n:=n) (by omega)
   omega
theorem a2I {listed:Array Bool}:∀ {n:Nat},unl listed n=0→∀ j,j < n→listed.getD j true=true
 | 0,_,j,h=>by omega
 | n+1,h0,j,h=>by
  rw [unl] at h0
  by_cases e:j=n
  ·subst e
   cases hl:listed.getD j true with
   | true=>rfl
   | false=>rw [if_pos hl] at h0;omega
  ·have h1:unl listed n=0:=by omega
   exact a2I h1 j (by omega)
theorem a9o {listed:Array Bool} {n m:Nat} (h:unl listed n=m+1):∃ i,i < n∧listed.getD i true=false∧∀ j,j < i→listed.getD j true=true:=by
 induction n with
 | zero=>simp [unl] at h
 | succ n ih =>
  by_cases h0:unl listed n=0
  ·rw [unl,h0] at h
   refine⟨n,by omega,?_,fun j hj=>a2I h0 j hj⟩
   cases hl:listed.getD n true with
   | false=>rfl
   | true=>simp [hl] at h
  ·rw [unl] at h
   obtain⟨m',hm'⟩:∃ m',unl listed n=m'+1:=⟨unl listed n - 1,by omega⟩
   have key:∀ k m',unl listed k=m'+1→∃ i,i < k∧listed.getD i true=false∧∀ j,j < i→listed.getD j true=true:=by
    intro k
    induction k with
    | zero=>intro m' h;simp [unl] at h
    | succ k ihk =>
     intro m' h
     by_cases h1:unl listed k=0
     ·rw [unl,h1] at h
      refine⟨k,by omega,?_,fun j hj=>a2I h1 j hj⟩
      cases hl:listed.getD k true with
      | false=>rfl
      | true=>simp [hl] at h
     ·obtain⟨m2,hm2⟩:∃ m2,unl listed k=m2+1:=⟨unl listed k - 1,by omega⟩
      obtain⟨i,hi,hr⟩:=ihk m2 hm2
      exact⟨i,by omega,hr⟩
   obtain⟨i,hi,hr⟩:=key n m' hm'
   exact⟨i,by omega,hr⟩
theorem G7 {listed:Array Bool} {i:Nat} (hi:i < listed.size):(listed.setIfInBounds i true).getD i false=true:=by simp [hi]
theorem a4X {listed:Array Bool} {i:Nat} (hi:i < listed.size) {b:Bool} (h:listed.getD i true=b):listed.getD i false=b:=by
 simp [hi] at h ⊢;exact h
def a0i (g:Nat→Option Value):List Nat→Env
 | [] => []
 | t::ts=>match g t with
  | some v=>(t,v)::a0i g ts
  | none=>a0i g ts
theorem a0J {g:Nat→Option Value}:∀ {ts:List Nat} {t:Nat} {v:Value},look (a0i g ts) t=some v→t∈ts∧g t=some v
 | [],t,v,h=>by simp [a0i,look] at h
 | s::ts,t,v,h=>by
  rw [a0i] at h
  cases hg:g s with
  | none=>rw [hg] at h;have:=a0J h;exact⟨List.mem_cons_of_mem _ this.1,this.2⟩
  | some u =>
   rw [hg,U0] at h
   by_cases e:s=t
   ·subst e;simp at h;subst h;exact⟨List.mem_cons_self,hg⟩
   ·rw [if_neg e] at h;have:=a0J h;exact⟨List.mem_cons_of_mem _ this.1,this.2⟩
theorem L6 {g:Nat→Option Value}:∀ {ts:List Nat} {t:Nat},t∈ts→look (a0i g ts) t=g t
 | s::ts,t,h=>by
  rw [a0i]
  by_cases e:s=t
  ·subst e
   cases hg:g s with
   | none =>
    simp only
    cases hl:look (a0i g ts) s with
    | none=>rfl
    | some v=>have:=(a0J hl).2;rw [hg] at this;cases this
   | some u=>simp only [U0,if_true]
  ·have hm:t∈ts:=by rcases List.mem_cons.1 h with h|h;exact absurd h.symm e;exact h
   cases hg:g s with
   | none=>exact L6 hm
   | some u=>simp only [U0,if_neg e];exact L6 hm
theorem a0j {sp : Nat → Option Spec} {s : List (Nat × Nat)} {ρ0 ρ : Env} {J : Im} {G : Prop} : ∀ {ts : List Nat}, Y8 sp s ρ0 ρ J ts G →
    (∀ t∈ts,match J0 s t with|none=>look ρ t=look ρ0 t|some j=>∃ v S,look ρ t=some v∧sp j=some S∧S.holds v J)→G
  | [],h,_=>h
  | t::ts,h,hk=>by
    have h0:=hk t (List.mem_cons_self)
    have hk':∀ t∈ts,match J0 s t with|none=>look ρ t=look ρ0 t|some j=>∃ v S,look ρ t=some v∧sp j=some S∧S.holds v J:=fun t' ht'=>hk t' (List.mem_cons_of_mem _ ht')
    rw [Y8] at h
    cases hs:J0 s t with
    | none =>
      rw [hs] at h h0
      exact a0j (h h0) hk'
    | some j =>
      rw [hs] at h h0
      obtain⟨v,S,h1,h2,h3⟩:=h0
      simp only [h2] at h
      cases S with
      | is x=>simp only [Spec.holds] at h3;subst h3;exact a0j (h h1) hk'
      | val p m=>exact a0j (h v h1 h3) hk'
      | new o=>obtain⟨b,rfl⟩:=h3;exact a0j (h b h1) hk'
theorem Y3 {sp sp':Nat→Option Spec} {s:List (Nat×Nat)} {ρ0 ρ:Env} {J:Im} {G G':Prop} (hG:G→G'):∀ {ts:List Nat},(∀ t∈ts,∀ j,J0 s t=some j→sp j=sp' j)→Y8 sp s ρ0 ρ J ts G→Y8 sp' s ρ0 ρ J ts G'
 | [],_,h=>hG h
 | t::ts,he,h=>by
  have he':∀ t∈ts,∀ j,J0 s t=some j→sp j=sp' j:=fun t' ht'=>he t' (List.mem_cons_of_mem _ ht')
  rw [Y8] at h ⊢
  cases hs:J0 s t with
  | none=>rw [hs] at h;exact fun hx=>Y3 hG he' (h hx)
  | some j =>
   rw [hs] at h
   have:=he t List.mem_cons_self j hs
   simp only [←this]
   cases hj:sp j with
   | none=>trivial
   | some S =>
    simp only [hj] at h
    cases S with
    | is x=>exact fun hx=>Y3 hG he' (h hx)
    | val p m=>exact fun v hx hp=>Y3 hG he' (h v hx hp)
    | new o=>exact fun b hx=>Y3 hG he' (h b hx)
theorem b2s {P : Program} {N : Nat} {ops : Array Oper} {sp sp' : Nat → Option Spec} {ρ0 : Env} {I : Im} {L : Lh} {o : Oper} {s : List (Nat × Nat)} {S : Spec} (h : a9n P N ops sp ρ0 I L o s S)
    (he:∀ t∈C4 o,∀ j,J0 s t=some j→sp j=sp' j) (hg:∀ g w,o.guard=some (g,w)→sp g=sp' g):a9n P N ops sp' ρ0 I L o s S:=fun J hJ ρ=>by
  refine Y3 ?_ he (h J hJ ρ)
  cases hgd:o.guard with
  | none=>exact id
  | some gw =>
    obtain⟨g,w⟩:=gw
    have:=hg g w hgd
    simp only [←this]
    exact id
theorem St.drop {C:Ctx} {I:Im} {X L:Lh} {w:World} (h:St C I (X++L) w):St C I L w:=by
 have hsub:L.flatten.Sublist (X++L).flatten:=by simp
 exact⟨⟨h.mem.im,fun p hp=>h.mem.loc p (hsub.subset hp),fun p hp=>h.mem.sep p (hsub.subset hp),(hsub.map Prod.fst).nodup h.mem.nodup⟩,h.chg,fun p hp=>h.own p (hsub.subset hp),h.W3,h.new⟩
structure b2t (C:Ctx) (N n m n0:Nat) (ops:Array Oper) (sp:Nat→Option Spec) (ρ0:Env) (I:Im) (L:Lh) (listed:Array Bool) (J:Im) (vs:Nat→Value) (bs:Nat→Nat) (a:Act) (w:World):Prop where
 head:HeadInv .any ops m listed
 le:Le I J
 st:St C J L w
 base:n0≤w.heap.size
 lt0:∀ p∈L.flatten,p.1 < n0
 c2V:C.w0.heap.size≤n0
 blk:∀ j,j < n→listed.getD j false=true→∀ obj,sp j=some (.new obj)→w.heap[bs j]?=some obj∧J (bs j)=none∧n0≤bs j
 inj:∀ j k,j < n→k < n→listed.getD j false=true→listed.getD k false=true→(∃ o,sp j=some (.new o))→(∃ o,sp k=some (.new o))→j≠k→bs j≠bs k
 val:∀ j,j < n→listed.getD j false=true→∃ S,sp j=some S∧S.holds (vs j) J∧(∀ o,S = .new o→vs j = .pointer (some ⟨bs j,0,none⟩))
 defers:a.defers = []
 size:a.tmps.size=N
 a5u:∀ j d,j < n→listed.getD j false=true→(ops[j]?).bind (·.dst)=some d→a.tmps[d]?=some (vs j)
 a7q:∀ t v,look ρ0 t=some v→(∀ j,j < n→listed.getD j false=true→(ops[j]?).bind (·.dst)≠some t)→a.tmps[t]?=some v
theorem a0K {ops:Array Oper} {j i:Nat} {oj:Oper} (hj:ops[j]?=some oj) (h:Region.waitsFor .any ops j i=true):∃ e∈oj.after,Region.binds .any e=true∧e.on=i:=by
 obtain⟨o',h1,e,he,hb,ho⟩:=Region.waitsFor_spec h
 have:o'=oj:=Option.some.inj (h1.symm.trans hj)
 subst this
 exact⟨e,he,hb,ho⟩
section phi
variable {P:Program} {C:Ctx} {N n m n0:Nat} {l:List Oper} {ss:List (List (Nat×Nat))} {sp:Nat→Option Spec} {ρ0:Env} {I:Im} {L:Lh}
theorem b2t.step {listed : Array Bool} {J : Im} {vs : Nat → Value} {bs : Nat → Nat} {a : Act} {w : World} {Q' : Exit → Act → World → Prop}
    (hN:M4 N l=true) (hok:∀ i,i < n→b2q l.toArray n ss i=true) (hdst:b2r l.toArray n=true)
    (inv:b2t C N n m n0 l.toArray sp ρ0 I L listed J vs bs a w) (hnm:n≤m) {i:Nat} (hr:i∈Region.ready .any l.toArray listed) (hin:i < n)
    (hd:∀ o s,l[i]?=some o→ss[i]?=some s→∃ S,sp i=some S∧a9n P N l.toArray sp ρ0 I L o s S)
    {K:Act→World→Prop} (hK:∀ J vs bs a' w,b2t C N n m n0 l.toArray sp ρ0 I L (listed.setIfInBounds i true) J vs bs a' w→(∃ v,∀ o,l[i]?=some o→a'=a.put o.dst v)→K a' w) :
    wpOpIn C.fen 0 P l.toArray Q' i K a w:=by
  obtain⟨hun,o,ho,hall⟩:=mem_ready.1 hr
  have hol:l[i]?=some o:=by simpa using ho
  have hok':=hok i hin
  unfold b2q at hok'
  simp only [ho] at hok'
  cases hs:ss[i]? with
  | none=>simp [hs] at hok'
  | some s =>
  simp only [hs,Bool.and_eq_true] at hok'
  obtain⟨⟨hdsome,hreads⟩,hguard⟩:=hok'
  obtain⟨d,hod⟩:=Option.isSome_iff_exists.1 hdsome
  have hdN:d < N:=by
    have:=List.all_eq_true.1 hN o (List.mem_of_getElem? hol)
    rw [hod] at this
    simpa [Nat.blt_eq] using this
  obtain⟨S,hS,hduty⟩:=hd o s hol hs
  -- the slots that are read
  have hlisted:∀ j,Region.waitsFor .any l.toArray i j=true→listed.getD j false=true:=fun j hw=>by
    obtain⟨e,he,hb,heq⟩:=a0K ho hw
    exact heq▸hall e he hb
  have hilt:i < listed.size:=by
    rcases Nat.lt_or_ge i listed.size with h'|h'
    · exact h'
    · simp [Array.getElem?_eq_none h'] at hun
  have hiun:listed.getD i false=false:=getD_both hun
  have hnot:∀ j,Region.waitsFor .any l.toArray j i=true→listed.getD j false=true→False:=fun j hw hl=>by
    obtain⟨oj,hoj,e,he,hb,heq⟩:=Region.waitsFor_spec hw
    have:=inv.head.closed j oj hoj hl e he hb
    rw [heq,hiun] at this
    cases this
  let g:Nat→Option Value:=fun t=>match J0 s t with|some j=>some (vs j)|none=>look ρ0 t
  have hfits:Fits N (a0i g (C4 o)) a:=by
    refine⟨inv.defers,inv.size,fun t v hv => ?_⟩
    obtain⟨hmem,hg⟩:=a0J hv
    have hro:=List.all_eq_true.1 hreads t hmem
    unfold a0I at hro
    cases hsrc:J0 s t with
    | some j =>
      simp only [hsrc,Bool.and_eq_true,beq_iff_eq] at hro
      have hgv:vs j=v:=by simpa [g,hsrc] using hg
      rw [←hgv]
      exact inv.a5u j t (by simpa [Nat.blt_eq] using hro.1.1) (hlisted j hro.2) hro.1.2
    | none =>
      simp only [hsrc] at hro
      refine inv.a7q t v (by simpa [g,hsrc] using hg) fun j hj hl hdj => ?_
      have h1:=List.all_eq_true.1 hro j (List.mem_range.2 hj)
      simp only [hdj,beq_self_eq_true,Bool.not_true,Bool.false_or,Bool.or_eq_true,beq_iff_eq] at h1
      rcases h1 with h1|h1
      · subst h1;rw [hiun] at hl;cases hl
      · exact hnot j h1 hl
  have hbind:=a0j (hduty J inv.le (a0i g (C4 o))) (fun t ht=>by
    have hro:=List.all_eq_true.1 hreads t ht
    unfold a0I at hro
    cases hsrc:J0 s t with
    | none=>simp only;rw [L6 ht];simp [g,hsrc]
    | some j =>
      simp only
      simp only [hsrc,Bool.and_eq_true,beq_iff_eq] at hro
      obtain⟨T,hT,hh,_⟩:=inv.val j (by simpa [Nat.blt_eq] using hro.1.1) (hlisted j hro.2)
      exact⟨vs j,T,by rw [L6 ht];simp [g,hsrc],hT,hh⟩)
  clear hduty
  -- what a finished operation does to the invariant
  have fin : ∀ v J' b w', Chg [] w w' → Le J J' → b0w w.heap.size J J' → St C J' L w' → S.holds v J' →
      (∀ obj,S = .new obj→v = .pointer (some ⟨b,0,none⟩)∧w'.heap[b]?=some obj∧J' b=none∧w.heap.size≤b)→K (a.put o.dst v) w':=by
    intro v J' b w' hc hle hn hst hh hnew
    refine hK J' (fun j=>if j=i then v else vs j) (fun j=>if j=i then b else bs j) _ _ ?_ ⟨v,fun o' ho'=>by rw [hol] at ho';cases ho';rfl⟩
    have hput:∀ j,j≠i→(listed.setIfInBounds i true).getD j false=listed.getD j false:=fun j hj=>getD_set_ne false (Ne.symm hj)
    have hdne:∀ j,j < n→j≠i→∀ d',(l.toArray[j]?).bind (·.dst)=some d'→d'≠d:=by
      intro j hj hji d' hd' e
      subst e
      have hdi:(l.toArray[i]?).bind (·.dst)=some d':=by rw [ho];exact hod
      rcases Nat.lt_or_gt_of_ne hji with h1|h1
      · have:=List.all_eq_true.1 (List.all_eq_true.1 hdst i (List.mem_range.2 hin)) j (List.mem_range.2 h1)
        rw [hdi,hd'] at this
        simp at this
      · have:=List.all_eq_true.1 (List.all_eq_true.1 hdst j (List.mem_range.2 hj)) i (List.mem_range.2 h1)
        rw [hdi,hd'] at this
        simp at this
    refine⟨inv.head.set hr (Nat.lt_of_lt_of_le hin hnm),inv.le.trans hle,hst,Nat.le_trans inv.base hc.size,inv.lt0,inv.c2V,fun j hj hl obj hobj => ?_,fun j k hj hk hlj hlk hoj hok2 hjk => ?_,fun j hj hl => ?_,?_,?_,fun j d' hj hl hd' => ?_,fun t u hu hno => ?_⟩
    · by_cases hji:j=i
      · subst hji
        have hSobj:S = .new obj:=Option.some.inj (hS.symm.trans hobj)
        obtain⟨_,h2,h3,h4⟩:=hnew obj hSobj
        simp only [if_true]
        exact⟨h2,h3,Nat.le_trans inv.base h4⟩
      · rw [hput j hji] at hl
        obtain⟨h1,h2,h3⟩:=inv.blk j hj hl obj hobj
        simp only [if_neg hji]
        refine⟨(hc.block _ (C6 h1) (by simp)).trans h1,?_,h3⟩
        cases hx:J' (bs j) with
        | none=>rfl
        | some ob=>exact absurd (hn (bs j) h2 (by simp [hx])) (by have:=C6 h1;omega)
    · by_cases hji:j=i
      · by_cases hki:k=i
        · exact absurd (hji.trans hki.symm) hjk
        · subst hji
          obtain⟨obj,hobj⟩:=hoj
          have hSobj:S = .new obj:=Option.some.inj (hS.symm.trans hobj)
          obtain⟨_,_,_,h4⟩:=hnew obj hSobj
          rw [hput k hki] at hlk
          obtain⟨obj2,hobj2⟩:=hok2
          have:=C6 (inv.blk k hk hlk obj2 hobj2).1
          simp only [if_true,if_neg hki]
          omega
      · rw [hput j hji] at hlj
        by_cases hki:k=i
        · subst hki
          obtain⟨obj,hobj⟩:=hok2
          have hSobj:S = .new obj:=Option.some.inj (hS.symm.trans hobj)
          obtain⟨_,_,_,h4⟩:=hnew obj hSobj
          obtain⟨obj2,hobj2⟩:=hoj
          have:=C6 (inv.blk j hj hlj obj2 hobj2).1
          simp only [if_true,if_neg hji]
          omega
        · rw [hput k hki] at hlk
          simp only [if_neg hji,if_neg hki]
          exact inv.inj j k hj hk hlj hlk hoj hok2 hjk
    · by_cases hji:j=i
      · subst hji
        refine⟨S,hS,by simpa using hh,fun ob hob => ?_⟩
        simpa using (hnew ob hob).1
      · rw [hput j hji] at hl
        obtain⟨T,hT,h1,h2⟩:=inv.val j hj hl
        refine⟨T,hT,?_,fun ob hob => ?_⟩
        · simp only [if_neg hji];exact Spec.b2p h1 hle
        · simp only [if_neg hji];exact h2 ob hob
    · rw [hod];exact inv.defers
    · rw [hod];simp [Act.put,inv.size]
    · rw [hod]
      by_cases hji:j=i
      · subst hji
        have:d'=d:=by rw [ho] at hd';exact Option.some.inj (hd'.symm.trans hod)
        subst this
        simp [Act.put,inv.size,hdN]
      · rw [hput j hji] at hl
        have hne:=hdne j hj hji d' hd'
        simp only [if_neg hji,Act.put,Array.getElem?_setIfInBounds_ne (Ne.symm hne)]
        exact inv.a5u j d' hj hl hd'
    · rw [hod]
      have hdt:d≠t:=by
        intro e
        subst e
        exact hno i hin (G7 hilt) (by rw [ho];exact hod)
      simp only [Act.put,Array.getElem?_setIfInBounds_ne hdt]
      refine inv.a7q t u hu fun j hj hl=>hno j hj ?_
      by_cases hji:j=i
      · subst hji;rw [hiun] at hl;cases hl
      · rw [hput j hji];exact hl
  have run:S.opx P N o (a0i g (C4 o)) J L→o.wpIn C.fen 0 P a w K Q':=by
    intro h
    cases S with
    | is x =>
      refine Yld.wp ((h a w hfits inv.st.mem).mono ?_)
      rintro v w' ⟨J',X,hc,hle,hn,hm,hX,rfl,hp⟩
      exact fin v J' 0 w' hc hle hn ((inv.st.step hc hle hn hm hX).drop) hp (fun obj h=>by cases h)
    | val p m =>
      refine Yld.wp ((h a w hfits inv.st.mem).mono ?_)
      rintro v w' ⟨J',X,hc,hle,hn,hm,hX,rfl,hp⟩
      exact fin v J' 0 w' hc hle hn ((inv.st.step hc hle hn hm hX).drop) hp (fun obj h=>by cases h)
    | new obj =>
      refine Yld.wp ((h a w hfits inv.st.mem).mono ?_)
      rintro v w' ⟨J',X,hc,hle,hn,hm,hX,b,rfl,rfl⟩
      refine fin _ J' b w' hc hle hn ((inv.st.step hc hle hn hm hX).drop) ⟨b,rfl⟩ (fun obj' h => ?_)
      cases h
      exact⟨a8,hm.loc (b,obj) (by simp),hm.sep (b,obj) (by simp),hX (b,obj) (by simp)⟩
  unfold wpOpIn
  simp only [ho]
  cases hg:o.guard with
  | none =>
    rw [hg] at hbind
    rw [if_pos (by simp [Region.wanted,hg])]
    exact run hbind
  | some gw =>
    obtain⟨gi,want⟩:=gw
    rw [hg] at hbind hguard
    simp only [Bool.and_eq_true] at hguard
    have hgn:gi < n:=by simpa [Nat.blt_eq] using hguard.1
    have hgl:=hlisted gi hguard.2
    obtain⟨T,hT,hh,_⟩:=inv.val gi hgn hgl
    have hb2:=hbind (vs gi) (by rw [hT];exact hh)
    have hogi:=hok gi hgn
    unfold b2q at hogi
    obtain⟨og,hog⟩:∃ og,l.toArray[gi]?=some og:=by
      cases hx:l.toArray[gi]? with
      | none=>simp [hx] at hogi
      | some og=>exact⟨og,rfl⟩
    obtain⟨sg,hsg⟩:∃ sg,ss[gi]?=some sg:=by
      cases hx:ss[gi]? with
      | none=>simp [hog,hx] at hogi
      | some sg=>exact⟨sg,rfl⟩
    simp only [hog,hsg,Bool.and_eq_true] at hogi
    obtain⟨dg,hdg⟩:=Option.isSome_iff_exists.1 hogi.1.1
    have htg:=inv.a5u gi dg hgn hgl (by rw [hog];exact hdg)
    have hy:yielded l.toArray a.tmps gi=(match vs gi with | .bool b=>some b|_=>none):=by
      unfold yielded
      rw [hog]
      simp only [Option.bind_some,hdg,htg]
      cases vs gi<;>rfl
    by_cases hv:vs gi = .bool want
    · rw [if_pos (by simp [Region.wanted,hg,hy,hv])]
      exact run (hb2.1 hv)
    · have hnw:∀ b,vs gi = .bool b→b≠want:=fun b hb e=>hv (by rw [hb,e])
      have hwf:¬Region.wanted o (yielded l.toArray a.tmps)=true:=by
        simp only [Region.wanted,hg,hy]
        cases hx:vs gi<;>simp
        rename_i b
        exact hnw b hx
      rw [if_neg hwf]
      refine⟨fun _ _=>trivial,?_⟩
      obtain⟨h1,hSv⟩:=hb2.2 hnw
      exact fin undef J 0 w (Chg.refl _ _) (Le.refl _) (fun b h0 h1=>absurd h0 h1) inv.st h1 (fun obj h=>absurd h (hSv obj))
end phi
end Go.Fl
namespace Go.Fl
open Go.RowKit
theorem St.cons {C:Ctx} {I:Im} {L:Lh} {w:World} (hs:St C I L w) {b:Nat} {o:Obj} (hb:w.heap[b]?=some o) (hI:I b=none) (hn:∀ p∈L.flatten,p.1≠b) (ho:C.w0.heap.size≤b):St C I ([(b,o)]::L) w:=by
 refine⟨⟨hs.mem.im,fun p hp => ?_,fun p hp => ?_,?_⟩,hs.chg,fun p hp => ?_,hs.W3,hs.new⟩
 ·simp only [List.flatten_cons,List.cons_append,List.nil_append,List.mem_cons] at hp
  rcases hp with rfl|hp
  ·exact hb
  ·exact hs.mem.loc p hp
 ·simp only [List.flatten_cons,List.cons_append,List.nil_append,List.mem_cons] at hp
  rcases hp with rfl|hp
  ·exact hI
  ·exact hs.mem.sep p hp
 ·simp only [List.flatten_cons,List.cons_append,List.nil_append,List.map_cons,List.nodup_cons,List.mem_map,not_exists,not_and]
  exact⟨fun p hp=>hn p hp,hs.mem.nodup⟩
 ·simp only [List.flatten_cons,List.cons_append,List.nil_append,List.mem_cons] at hp
  rcases hp with rfl|hp
  ·exact .inl ho
  ·exact hs.own p hp
section phi
variable {P:Program} {C:Ctx} {N n m n0:Nat} {l:List Oper} {ss:List (List (Nat×Nat))} {sp:Nat→Option Spec} {ρ0:Env} {I:Im} {L:Lh}
theorem a4o {listed : Array Bool} {J : Im} {vs : Nat → Value} {bs : Nat → Nat} {a : Act} {w : World} (inv : b2t C N n n n0 l.toArray sp ρ0 I L listed J vs bs a w)
    (hall:∀ j,j < n→listed.getD j false=true) {G:Env→Lh→Prop} :
    ∀ (os:List Oper) (k:Nat) (ρ:Env) (Lk:Lh),(∀ j,os[j]?=(l.take n)[k+j]?)→k≤n →
      (∀ t v,look ρ t=some v→(∀ j,k≤j→j < n→(l.toArray[j]?).bind (·.dst)≠some t)→a.tmps[t]?=some v)→St C J Lk w →
      (∀ p∈Lk.flatten,p∈L.flatten∨∃ j,j < k∧p.1=bs j∧∃ o,sp j=some (.new o)) →
      a63 J sp G os k ρ Lk→∃ ρ' L',Fits N ρ' a∧St C J L' w∧G ρ' L'
  | os,k,ρ,Lk,hos,hk,htmp,hst,hblk,h=>by
    by_cases hkn:k=n
    · subst hkn
      have ho:os = []:=by
        cases os with
        | nil=>rfl
        | cons x r =>
          have:=hos 0
          have h9:(l.take k)[k+0]?=none:=List.getElem?_eq_none (by rw [List.length_take];omega)
          rw [h9] at this
          cases this
      subst ho
      simp only [a63] at h
      exact⟨ρ,Lk,⟨inv.defers,inv.size,fun t v hv=>htmp t v hv (fun j h1 h2=>by omega)⟩,hst,h⟩
    · have hkn':k < n:=by omega
      cases os with
      | nil =>
        have h1:=hos 0
        simp at h1
        have hj:=hall k hkn'
        have hl:l.length≤k:=by omega
        have hsz:=inv.head.size
        have:k < listed.size:=by
          rcases Nat.lt_or_ge k listed.size with h'|h'
          · exact h'
          · simp [Array.getElem?_eq_none h'] at hj
        simp at hsz
        omega
      | cons o os =>
        have h1:=hos 0
        have hol:l[k]?=some o:=by simpa [hkn'] using h1.symm
        obtain⟨T,hT,hh,hnew⟩:=inv.val k hkn' (hall k hkn')
        have hos':∀ j,os[j]?=(l.take n)[k+1+j]?:=fun j=>by have:=hos (j+1);simpa [Nat.add_assoc,Nat.add_comm 1 j] using this
        cases hod:o.dst with
        | none=>simp only [a63,hod] at h
        | some d =>
          have htk:=inv.a5u k d hkn' (hall k hkn') (by simp [hol,hod])
          have htmp':∀ x,x=vs k→∀ t v,look ((d,x)::ρ) t=some v→(∀ j,k+1≤j→j < n→(l.toArray[j]?).bind (·.dst)≠some t)→a.tmps[t]?=some v:=by
            rintro x rfl t v hv hno
            rw [U0] at hv
            by_cases e:d=t
            · subst e;simp at hv;subst hv;exact htk
            · rw [if_neg e] at hv
              refine htmp t v hv fun j h3 h4 => ?_
              by_cases hjk:j=k
              · subst hjk
                intro he
                simp [hol,hod] at he
                exact e he
              · exact hno j (by omega) h4
          have hblk':∀ p∈Lk.flatten,p∈L.flatten∨∃ j,j < k+1∧p.1=bs j∧∃ o,sp j=some (.new o):=fun p hp=>by
            rcases hblk p hp with h3|⟨j,h3,h4⟩
            · exact .inl h3
            · exact .inr ⟨j,by omega,h4⟩
          cases T with
          | is x =>
            simp only [a63,hod,hT] at h
            exact a4o inv hall os (k+1) _ Lk hos' (by omega) (htmp' x hh.symm) hst hblk' h
          | val p m =>
            simp only [a63,hod,hT] at h
            exact a4o inv hall os (k+1) _ Lk hos' (by omega) (htmp' (vs k) rfl) hst hblk' (h (vs k) hh)
          | new obj =>
            simp only [a63,hod,hT] at h
            obtain⟨hb1,hb2,hb3⟩:=inv.blk k hkn' (hall k hkn') obj hT
            refine a4o inv hall os (k+1) _ _ hos' (by omega) (htmp' _ (hnew obj rfl).symm) (hst.cons hb1 hb2 (fun q hq => ?_) (Nat.le_trans inv.c2V hb3)) (fun q hq => ?_) (h (bs k))
            · rcases hblk q hq with h3|⟨j,h3,h4,h5⟩
              · have:=inv.lt0 q h3;omega
              · rw [h4]
                exact inv.inj j k (by omega) hkn' (hall j (by omega)) (hall k hkn') h5 ⟨obj,hT⟩ (by omega)
            · simp only [List.flatten_cons,List.cons_append,List.nil_append,List.mem_cons] at hq
              rcases hq with rfl|hq
              · exact .inr ⟨k,by omega,rfl,obj,hT⟩
              · exact hblk' q hq
theorem a1L {listed : Array Bool} {ops : Array Oper} (hb : a1E ops = true) (hsz : listed.size = ops.size) {i : Nat} (hi : listed.getD i true = false) (hlt : ∀ j, j < i → listed.getD j true = true) :
    i∈Region.ready .any ops listed:=by
  have hil:i < listed.size:=by
    rcases Nat.lt_or_ge i listed.size with h'|h'
    · exact h'
    · simp [Array.getElem?_eq_none h'] at hi
  rw [mem_ready]
  refine⟨hi,ops[i]'(by omega),by simp,fun e he hbind => ?_⟩
  have h1:=List.all_eq_true.1 hb i (List.mem_range.2 (by omega))
  simp only [Array.getElem?_eq_getElem (show i < ops.size by omega),Array.all_eq_true_iff_forall_mem] at h1
  have h2:=h1 e he
  rw [hbind] at h2
  have hlt2:e.on < i:=by simpa [Nat.blt_eq] using h2
  have h3:=hlt e.on hlt2
  have:e.on < listed.size:=by omega
  simp [this] at h3 ⊢
  exact h3
theorem a0k {F : Fence} {m : Nat} {P : Program} {md : Region.Mode} {ops : Array Oper} {Q' : Exit → Act → World → Prop} : ∀ (l : List Oper) (k : Nat) (listed : Array Bool) (a : Act) (w : World), (∀ j, l[j]? = ops[k + j]?) →
    Region.seqB md ops l.length k listed=true→wpListIn F m P ops Q' l a w→wpAnyIn F m P md ops Q' l.length listed a w
  | [],_,_,_,_,_,hB,h=>⟨by simpa [Region.seqB] using hB,h⟩
  | o::l,k,listed,a,w,hl,hB,h=>by
    have h0:ops[k]?=some o:=by simpa using (hl 0).symm
    simp only [List.length_cons,Region.seqB,Bool.and_eq_true,decide_eq_true_eq] at hB
    refine⟨fun h1=>(by rw [hB.1] at h1;cases h1),fun i hi => ?_⟩
    rw [hB.1] at hi
    have hik:i=k:=by simpa using hi
    subst hik
    have hw:wpOpIn F m P ops Q' i (wpListIn F m P ops Q' l) a w:=by unfold wpOpIn;simp only [h0];exact h
    exact wpOpIn_mono (fun a' w' h'=>a0k l (i+1) _ a' w' (fun j=>by have:=hl (j+1);simpa [Nat.add_assoc,Nat.add_comm 1 j] using this) hB.2 h') hw
theorem a8y {Q' : Exit → Act → World → Prop} (hN : M4 N l = true) (hback : a1E l.toArray = true) (hok : ∀ i, i < n → b2q l.toArray n ss i = true) (hdst : b2r l.toArray n = true)
    (hle:n≤l.length) (htail:n=l.length∨(Region.sinkB .any l.toArray n=true∧Region.chainB .any l.toArray n=true)) (hseq:Region.seqB .any l.toArray (l.length - n) n (Q4 l.length n)=true)
    (hd:∀ i o s,i < n→l[i]?=some o→ss[i]?=some s→∃ S,sp i=some S∧a9n P N l.toArray sp ρ0 I L o s S)
    (hfin:∀ listed J vs bs a w,b2t C N n n n0 l.toArray sp ρ0 I L listed J vs bs a w→(∀ j,j < n→listed.getD j false=true)→wpListIn C.fen 0 P l.toArray Q' (l.drop n) a w) :
    ∀ (m:Nat) (listed:Array Bool) J vs bs a w,b2t C N n n n0 l.toArray sp ρ0 I L listed J vs bs a w→unl listed n=m→wpAnyIn C.fen 0 P .any l.toArray Q' (m+(l.length - n)) listed a w
  | 0,listed,J,vs,bs,a,w,inv,hm=>by
    have hsz:listed.size=l.length:=by simpa using inv.head.size
    have hall:∀ j,j < n→listed.getD j false=true:=fun j hj=>a4X (by omega) (a2I hm j hj)
    have heq:listed=Q4 l.length n:=by
      refine Array.ext (by simp [Q4,hsz]) fun j h1 h2 => ?_
      have e1:(Q4 l.length n)[j]'h2=Nat.blt j n:=by simp [Q4]
      rw [e1]
      by_cases hj:j < n
      · have:=hall j hj
        simp [h1] at this
        rw [this]
        exact(Nat.blt_eq▸hj:Nat.blt j n=true).symm
      · have:=inv.head.tail j (by omega) (by simp;omega)
        simp [h1] at this
        rw [this]
        cases hb:Nat.blt j n
        · rfl
        · exact absurd (Nat.blt_eq▸hb:j < n) hj
    have hw:=hfin listed J vs bs a w inv hall
    have h2:=a0k (md := .any) (Q':=Q') (l.drop n) n listed a w (fun j=>by simp [List.getElem?_drop]) (by rw [heq];simpa using hseq) hw
    simpa using h2
  | m+1,listed,J,vs,bs,a,w,inv,hm=>by
    have hsz:listed.size=l.length:=by simpa using inv.head.size
    obtain⟨i,hin,hi,hlt⟩:=a9o hm
    have hr:=a1L hback (by simpa using inv.head.size) hi hlt
    rw [show m+1+(l.length - n)=(m+(l.length - n))+1 by omega]
    refine⟨fun h0=>(by rw [h0] at hr;cases hr),fun j hj => ?_⟩
    have hjn:j < n:=by
      rcases Nat.lt_or_ge j n with h|h
      · exact h
      · rcases htail with ht|⟨hs,hc⟩
        · obtain⟨_,o,ho,_⟩:=mem_ready.1 hj
          have:=(Array.getElem?_eq_some_iff.1 ho).1
          simp at this
          omega
        · have hnl:n < l.toArray.size:=by
            obtain⟨_,o,ho,_⟩:=mem_ready.1 hj
            have:=(Array.getElem?_eq_some_iff.1 ho).1
            omega
          exact absurd hj (tail_waits hs hc hnl inv.head _ i rfl hin hi j h)
    refine inv.step hN hok hdst (Nat.le_refl _) hj hjn (fun o s h1 h2=>hd j o s hjn h1 h2) fun J' vs' bs' a' w' inv' _ => ?_
    refine a8y hN hback hok hdst hle htail hseq hd hfin m _ J' vs' bs' a' w' inv' ?_
    have hu:=(mem_ready.1 hj).1
    have:=a7c hu hjn
    omega
theorem a3c (i:Nat) (S:Spec) (acc:List (Nat×Spec)) (j:Nat):U9 ((i,S)::acc) j=if i=j then some S else U9 acc j:=by
 by_cases h:i=j
 ·subst h;simp [U9]
 ·simp [U9,h,a4W h]
theorem a7r {F : List (Nat × Spec) → Prop} (hn : n ≤ l.length) (hss : n ≤ ss.length) : ∀ (m k : Nat) (acc : List (Nat × Spec)), k + m = n → (∀ j, U9 acc j ≠ none → j < k) →
    chain P N l.toArray ρ0 I L F ((l.take n).drop k) (ss.drop k) k acc→∃ full,F full∧(∀ j,j < k→U9 full j=U9 acc j) ∧
      ∀ i o s,k≤i→i < n→l[i]?=some o→ss[i]?=some s→∃ S acc',U9 full i=some S∧a9n P N l.toArray (U9 acc') ρ0 I L o s S∧∀ j,j < i→U9 acc' j=U9 full j
  | 0,k,acc,hk,hacc,h=>by
    have hnil:(l.take n).drop k = []:=by rw [List.drop_eq_nil_iff,List.length_take];omega
    rw [hnil,chain] at h
    exact⟨acc,h,fun _ _=>rfl,fun i o s h1 h2=>by omega⟩
  | m+1,k,acc,hk,hacc,h=>by
    have hkl:k < (l.take n).length:=by rw [List.length_take];omega
    have hks:k < ss.length:=by omega
    rw [List.drop_eq_getElem_cons hkl,List.drop_eq_getElem_cons hks,chain] at h
    obtain⟨S,hd,hr⟩:=h
    obtain⟨full,hF,hold,hnew⟩:=a7r hn hss m (k+1) ((k,S)::acc) (by omega) (fun j hj=>by
      rw [a3c] at hj
      by_cases e:k=j
      · omega
      · rw [if_neg e] at hj;have:=hacc j hj;omega) hr
    refine⟨full,hF,fun j hj => ?_,fun i o s h1 h2 h3 h4 => ?_⟩
    · rw [hold j (by omega),a3c,if_neg (by omega)]
    · by_cases e:i=k
      · subst e
        have e1:(l.take n)[i]=o:=by
          have:(l.take n)[i]?=some o:=by rw [List.getElem?_take,if_pos h2];exact h3
          rw [List.getElem?_eq_getElem hkl] at this
          exact Option.some.inj this
        have e2:ss[i]=s:=by rw [List.getElem?_eq_getElem hks] at h4;exact Option.some.inj h4
        rw [e1,e2] at hd
        refine⟨S,acc,?_,hd,fun j hj => ?_⟩
        · rw [hold i (by omega),a3c,if_pos rfl]
        · rw [hold j (by omega),a3c,if_neg (by omega)]
      · exact hnew i o s (by omega) h2 h3 h4
theorem wpS.draw {Q : Exit → Env → Im → Lh → Prop} {id : Nat} (hm : P.follows .mixedOrders = true) (n : Nat) (ss : List (List (Nat × Nat)))
    (hN:M4 N l=true) (hB:a8x l.toArray n ss=true) (hss:Nat.ble n ss.length=true)
    (hch:chain P N l.toArray ρ0 I L (fun acc=>∀ J,Le I J→a63 J (U9 acc) (fun ρ L'=>wpL P C N l.toArray Q (l.drop n) ρ J L') (l.take n) 0 ρ0 L) (l.take n) ss 0 []) :
    wpS P C N (.region id l.toArray true) Q ρ0 I L:=fun a w ha hs=>by
  have hB0:=hB
  simp only [a8x,Bool.and_eq_true,Bool.or_eq_true] at hB
  obtain⟨⟨⟨⟨⟨hle,hback⟩,hok⟩,hdst⟩,htail⟩,hseq⟩:=hB
  have hle':n≤l.length:=by simpa using Nat.le_of_ble_eq_true hle
  obtain⟨full,hfin,_,hduty⟩:=a7r hle' (Nat.le_of_ble_eq_true hss) n 0 [] (by omega) (fun j hj=>absurd rfl hj) (by simpa using hch)
  have hd:∀ i o s,i < n→l[i]?=some o→ss[i]?=some s→∃ S,U9 full i=some S∧a9n P N l.toArray (U9 full) ρ0 I L o s S:=fun i o s hi ho hsi=>by
    obtain⟨S,acc',h1,h2,h3⟩:=hduty i o s (Nat.zero_le _) hi ho hsi
    have hoi:=List.all_eq_true.1 hok i (List.mem_range.2 hi)
    unfold b2q at hoi
    have ho':l.toArray[i]?=some o:=by simpa using ho
    simp only [ho',hsi,Bool.and_eq_true] at hoi
    have hback':∀ j,Region.waitsFor .any l.toArray i j=true→j < i:=fun j hw=>by
      obtain⟨e,he,hb,heq⟩:=a0K ho' hw
      have hil:i < l.toArray.size:=(Array.getElem?_eq_some_iff.1 ho').1
      have h4:=List.all_eq_true.1 hback i (List.mem_range.2 hil)
      simp only [ho',Array.all_eq_true_iff_forall_mem] at h4
      have h5:=h4 e he
      rw [hb] at h5
      have:e.on < i:=by simpa [Nat.blt_eq] using h5
      omega
    refine⟨S,h1,b2s h2 (fun t ht j hj => ?_) (fun g w hg => ?_)⟩
    · have h6:=List.all_eq_true.1 hoi.1.2 t ht
      unfold a0I at h6
      simp only [hj,Bool.and_eq_true] at h6
      exact h3 j (hback' j h6.2)
    · have h6:=hoi.2
      rw [hg] at h6
      simp only [Bool.and_eq_true] at h6
      exact h3 g (hback' g h6.2)
  have hs':St C I L { w with drawn:=w.drawn+1 }:=⟨⟨hs.mem.im,hs.mem.loc,hs.mem.sep,hs.mem.nodup⟩,⟨hs.chg.os,hs.chg.tape,hs.chg.output,hs.chg.size,hs.chg.block⟩,hs.own,hs.W3,hs.new⟩
  refine wpIn_region_any hm ?_
  have inv0:b2t C N n n w.heap.size l.toArray (U9 full) ρ0 I L (Array.replicate l.toArray.size false) I (fun _=>undef) (fun _=>0) a { w with drawn:=w.drawn+1 }:=by
    have hnl:∀ j,(Array.replicate l.toArray.size false).getD j false=true→False:=fun j hl=>by rw [getD_replicate_false] at hl;cases hl
    refine⟨⟨by simp,fun j oj _ hl=>(hnl j hl).elim,fun t _ ht=>getD_in (by simpa using ht) (getD_replicate_false _ _)⟩,Le.refl _,hs',Nat.le_refl _,fun p hp=>C6 (hs.mem.loc p hp),hs.chg.size,
      fun j _ hl=>(hnl j hl).elim,fun j k _ _ hl=>(hnl j hl).elim,fun j _ hl=>(hnl j hl).elim,ha.defers,ha.size,fun j d _ hl=>(hnl j hl).elim,fun t v hv _=>ha.tmp t v hv⟩
  have hunl:unl (Array.replicate l.toArray.size false) n=n:=by
    have key:∀ k,k≤l.toArray.size→unl (Array.replicate l.toArray.size false) k=k:=by
      intro k
      induction k with
      | zero=>intro _;rfl
      | succ k ih =>
        intro hk
        rw [unl,ih (by omega),if_pos (getD_in (by simp at hk ⊢;omega) (getD_replicate_false _ _))]
    exact key n (by simpa using hle')
  have hmain:=a8y (C:=C) (n0:=w.heap.size) (Q':=a6A C N Q) hN hback (fun i hi=>List.all_eq_true.1 hok i (List.mem_range.2 hi)) hdst hle'
    (by rcases htail with h | h
        · exact .inl (by simpa using h)
        · exact .inr h) (by simpa using hseq) hd
    (fun listed J vs bs a' w' inv hall=>by
      obtain⟨ρ',L',h1,h2,h3⟩:=a4o inv hall (l.take n) 0 ρ0 L (fun j=>by simp) (Nat.zero_le _)
        (fun t v hv hno=>inv.a7q t v hv (fun j hj _=>hno j (Nat.zero_le _) hj)) inv.st (fun p hp => .inl hp) (hfin J inv.le)
      have hNd:M4 N (l.drop n)=true:=by
        simp only [M4,List.all_eq_true] at hN ⊢
        exact fun o ho=>hN o (List.mem_of_mem_drop ho)
      exact h3 hNd a' w' h1 h2)
    n _ _ _ _ _ _ inv0 hunl
  rw [show n+(l.length - n)=l.toArray.size by simp;omega] at hmain
  exact hmain
end phi
end Go.Fl
namespace Go.Fl
open Go.RowKit
def u8 (x:UInt8):Value := .int .u8 (x.toNat:Int)
def u32 (x:UInt32):Value := .int .u32 (x.toNat:Int)
def u64 (x:UInt64):Value := .int .u64 (x.toNat:Int)
abbrev i64 (n:Int):Value := .int .i64 n
theorem wrap_i64 {n:Int} (h1 : -9223372036854775808≤n) (h2:n≤9223372036854775807):IntKind.wrap .i64 n=n:=by
 exact IntWalk.i64_in n ⟨h1,h2⟩
theorem wrap_u8 (n:Int):IntKind.wrap .u8 n=n % 256:=by simp [IntKind.wrap,IntKind.bits,IntKind.signed]
theorem wrap_u32 (n:Int):IntKind.wrap .u32 n=n % 4294967296:=by simp [IntKind.wrap,IntKind.bits,IntKind.signed]
theorem wrap_u64 (n:Int):IntKind.wrap .u64 n=n % 18446744073709551616:=by simp [IntKind.wrap,IntKind.bits,IntKind.signed]
section
variable {P:Program} {C:Ctx} {N:Nat} {ρ:Env} {I:Im} {L:Lh} {φ:Value→Prop} {d:Option Nat} {ty:TypeId} {ps:String} {af:Array Edge} {g:Option (Nat×Bool)}
theorem I1.mk {o:Oper} {v:Value} (hv:φ v) (h:∀ a w,Fits N ρ a→Mem I L w→(execOp a.eval o).run P w = .ok (.value v) w):I1 P N o ρ I L φ:=fun a w ha hm=>⟨v,hv,h a w ha hm⟩
variable {x y z:Operand} {T T2:TypeId}
theorem I1.move {v:Value} (hx:ev ρ x=some v) (k:φ v):I1 P N ⟨d,.move x,ty,ps,af,g⟩ ρ I L φ := .mk k fun a w ha _=>by simp [execOp,ha.ev hx]
theorem I1.assign {v:Value} (hx:ev ρ x=some v) (k:φ v):I1 P N ⟨d,.assign x,ty,ps,af,g⟩ ρ I L φ := .mk k fun a w ha _=>by simp [execOp,ha.ev hx]
theorem I1.c0T {v:Value} (hc:ev ρ x=some (.bool true)) (hx:ev ρ y=some v) (k:φ v):I1 P N ⟨d,.pick x y z,ty,ps,af,g⟩ ρ I L φ := .mk k fun a w ha _=>by simp [execOp,ha.ev hc,ha.ev hx,asBool]
theorem I1.c0U {v:Value} (hc:ev ρ x=some (.bool false)) (hx:ev ρ z=some v) (k:φ v):I1 P N ⟨d,.pick x y z,ty,ps,af,g⟩ ρ I L φ := .mk k fun a w ha _=>by simp [execOp,ha.ev hc,ha.ev hx,asBool]
theorem I1.extract {vs:Array Value} {v:Value} {i:Nat} (hx:ev ρ x=some (.tuple vs)) (hv:vs[i]?=some v) (k:φ v):I1 P N ⟨d,.extract x i,ty,ps,af,g⟩ ρ I L φ := .mk k fun a w ha _=>by simp [execOp,ha.ev hx,Instr.extract,hv]
theorem I1.add {m n : Int} (hx : ev ρ x = some (i64 m)) (hy : ev ρ y = some (i64 n)) (h1 : -9223372036854775808 ≤ m + n) (h2 : m + n ≤ 9223372036854775807) (k : φ (i64 (m + n))) :
    I1 P N ⟨d,.binOp .add T x y T2,ty,ps,af,g⟩ ρ I L φ := .mk k fun a w ha _=>by simp [execOp,ha.ev hx,ha.ev hy,eqGuard,binOp,Op.intArith,wrap_i64 h1 h2]
theorem I1.sub {m n : Int} (hx : ev ρ x = some (i64 m)) (hy : ev ρ y = some (i64 n)) (h1 : -9223372036854775808 ≤ m - n) (h2 : m - n ≤ 9223372036854775807) (k : φ (i64 (m - n))) :
    I1 P N ⟨d,.binOp .sub T x y T2,ty,ps,af,g⟩ ρ I L φ := .mk k fun a w ha _=>by simp [execOp,ha.ev hx,ha.ev hy,eqGuard,binOp,Op.intArith,wrap_i64 h1 h2]
theorem I1.mul {m n : Int} (hx : ev ρ x = some (i64 m)) (hy : ev ρ y = some (i64 n)) (h1 : -9223372036854775808 ≤ m * n) (h2 : m * n ≤ 9223372036854775807) (k : φ (i64 (m * n))) :
    I1 P N ⟨d,.binOp .mul T x y T2,ty,ps,af,g⟩ ρ I L φ := .mk k fun a w ha _=>by simp [execOp,ha.ev hx,ha.ev hy,eqGuard,binOp,Op.intArith,wrap_i64 h1 h2]
theorem I1.quo {m n : Int} (hx : ev ρ x = some (i64 m)) (hy : ev ρ y = some (i64 n)) (h0 : 0 ≤ m) (h1 : m ≤ 9223372036854775807) (h2 : 0 < n) (k : φ (i64 (m / n))) :
    I1 P N ⟨d,.binOp .quo T x y T2,ty,ps,af,g⟩ ρ I L φ := .mk k fun a w ha _=>by
  have hn:n≠0:=by omega
  have h3:m.tdiv n=m/n:=Int.tdiv_eq_ediv_of_nonneg h0
  have h4:0≤m/n:=Int.ediv_nonneg h0 (by omega)
  have h5:m/n≤m:=Int.ediv_le_self _ h0
  simp [execOp,ha.ev hx,ha.ev hy,eqGuard,binOp,Op.intDiv,hn,h3,wrap_i64 (n:=m/n) (by omega) (by omega)]
theorem I1.rem {m n : Int} (hx : ev ρ x = some (i64 m)) (hy : ev ρ y = some (i64 n)) (h0 : 0 ≤ m) (h2 : 0 < n) (k : φ (i64 (m % n))) :
    I1 P N ⟨d,.binOp .rem T x y T2,ty,ps,af,g⟩ ρ I L φ := .mk k fun a w ha _=>by
  have hn:n≠0:=by omega
  have h3:m.tmod n=m % n:=Int.tmod_eq_emod_of_nonneg h0
  simp [execOp,ha.ev hx,ha.ev hy,eqGuard,binOp,Op.intDiv,hn,h3]
theorem I1.tmod {m n : Int} (hx : ev ρ x = some (i64 m)) (hy : ev ρ y = some (i64 n)) (hn : n ≠ 0) (k : φ (i64 (m.tmod n))) :
    I1 P N ⟨d,.binOp .rem T x y T2,ty,ps,af,g⟩ ρ I L φ := .mk k fun a w ha _=>by simp [execOp,ha.ev hx,ha.ev hy,eqGuard,binOp,Op.intDiv,hn]
section cmp
variable {kd:IntKind} {m n:Int}
theorem I1.lss (hx:ev ρ x=some (.int kd m)) (hy:ev ρ y=some (.int kd n)) (k:φ (.bool (decide (m < n)))):I1 P N ⟨d,.binOp .lss T x y T2,ty,ps,af,g⟩ ρ I L φ :=
 .mk k fun a w ha _=>by simp [execOp,ha.ev hx,ha.ev hy,eqGuard,binOp,Op.intCmp]
theorem I1.leq (hx:ev ρ x=some (.int kd m)) (hy:ev ρ y=some (.int kd n)) (k:φ (.bool (decide (m≤n)))):I1 P N ⟨d,.binOp .leq T x y T2,ty,ps,af,g⟩ ρ I L φ :=
 .mk k fun a w ha _=>by simp [execOp,ha.ev hx,ha.ev hy,eqGuard,binOp,Op.intCmp]
theorem I1.gtr (hx:ev ρ x=some (.int kd m)) (hy:ev ρ y=some (.int kd n)) (k:φ (.bool (decide (n < m)))):I1 P N ⟨d,.binOp .gtr T x y T2,ty,ps,af,g⟩ ρ I L φ :=
 .mk k fun a w ha _=>by simp [execOp,ha.ev hx,ha.ev hy,eqGuard,binOp,Op.intCmp]
theorem I1.geq (hx:ev ρ x=some (.int kd m)) (hy:ev ρ y=some (.int kd n)) (k:φ (.bool (decide (n≤m)))):I1 P N ⟨d,.binOp .geq T x y T2,ty,ps,af,g⟩ ρ I L φ :=
 .mk k fun a w ha _=>by simp [execOp,ha.ev hx,ha.ev hy,eqGuard,binOp,Op.intCmp]
theorem I1.a9p (hx:ev ρ x=some (.int kd m)) (hy:ev ρ y=some (.int kd n)) (k:φ (.bool (decide (m=n)))):I1 P N ⟨d,.binOp .eql T x y T2,ty,ps,af,g⟩ ρ I L φ :=
 .mk k fun a w ha _=>by
  have:(m == n)=decide (m=n):=rfl
  simp [execOp,ha.ev hx,ha.ev hy,eqGuard,binOp,Op.intCmp,this]
theorem I1.b0y (hx:ev ρ x=some (.int kd m)) (hy:ev ρ y=some (.int kd n)) (k:φ (.bool (decide (m≠n)))):I1 P N ⟨d,.binOp .neq T x y T2,ty,ps,af,g⟩ ρ I L φ :=
 .mk k fun a w ha _=>by
  have:(m != n)=decide (m≠n):=by by_cases h:m=n<;>simp [h,bne]
  simp only [execOp,ha.ev hx,ha.ev hy,eqGuard,binOp,Op.intCmp,this]
  simp [Sem.run]
end cmp
theorem I1.not {b:Bool} (hx:ev ρ x=some (.bool b)) (k:φ (.bool (!b))):I1 P N ⟨d,.unOp .not T x,ty,ps,af,g⟩ ρ I L φ :=
 .mk k fun a w ha _=>by simp [execOp,ha.ev hx,Op.unary]
theorem Z3 (x:UInt32):BitVec.ofInt 32 (x.toNat:Int)=x.toBitVec:=by
 apply BitVec.eq_of_toNat_eq
 have:=x.toNat_lt
 simp [BitVec.toNat_ofInt]
theorem a1M (x:UInt64):BitVec.ofInt 64 (x.toNat:Int)=x.toBitVec:=by
 apply BitVec.eq_of_toNat_eq
 have:=x.toNat_lt
 simp [BitVec.toNat_ofInt]
theorem a4p (x:UInt8):BitVec.ofInt 8 (x.toNat:Int)=x.toBitVec:=by
 apply BitVec.eq_of_toNat_eq
 have:=x.toNat_lt
 simp [BitVec.toNat_ofInt]
theorem I1.a3L {m n:UInt32} (hx:ev ρ x=some (u32 m)) (hy:ev ρ y=some (u32 n)) (k:φ (u32 (m+n))):I1 P N ⟨d,.binOp .add T x y T2,ty,ps,af,g⟩ ρ I L φ :=
 .mk k fun a w ha _=>by simp [execOp,ha.ev hx,ha.ev hy,eqGuard,binOp,Op.intArith,u32,wrap_u32]
theorem a4q (b:BitVec 32):IntKind.wrap .u32 (b.toNat:Int)=b.toNat:=by rw [wrap_u32];have:=b.isLt;omega
theorem a5Y (b:BitVec 64):IntKind.wrap .u64 (b.toNat:Int)=b.toNat:=by rw [wrap_u64];have:=b.isLt;omega
theorem b0z (b:BitVec 8):IntKind.wrap .u8 (b.toNat:Int)=b.toNat:=by rw [wrap_u8];have:=b.isLt;omega
theorem b6m (T:TypeId) (m n:UInt8):binOp .xor T (u8 m) (u8 n)=pure (u8 (m ^^^ n)):=by
 unfold binOp u8
 simp only [ne_eq,not_true,if_false]
 show(pure (Value.int .u8 (IntKind.wrap .u8 ((BitVec.ofInt 8 m.toNat ^^^ BitVec.ofInt 8 n.toNat).toNat:Int))):Sem Value)=_
 rw [a4p,a4p,b0z]
 rfl
theorem I1.b8W {m n:UInt8} (hx:ev ρ x=some (u8 m)) (hy:ev ρ y=some (u8 n)) (k:φ (u8 (m ^^^ n))):I1 P N ⟨d,.binOp .xor T x y T2,ty,ps,af,g⟩ ρ I L φ :=
 .mk k fun a w ha _=>by simp [execOp,ha.ev hx,ha.ev hy,eqGuard,b6m]
theorem b8X (T:TypeId) (m n:UInt8):binOp .or T (u8 m) (u8 n)=pure (u8 (m ||| n)):=by
 unfold binOp u8
 simp only [ne_eq,not_true,if_false]
 show(pure (Value.int .u8 (IntKind.wrap .u8 ((BitVec.ofInt 8 m.toNat ||| BitVec.ofInt 8 n.toNat).toNat:Int))):Sem Value)=_
 rw [a4p,a4p,b0z]
 rfl
theorem I1.or8 {m n:UInt8} (hx:ev ρ x=some (u8 m)) (hy:ev ρ y=some (u8 n)) (k:φ (u8 (m ||| n))):I1 P N ⟨d,.binOp .or T x y T2,ty,ps,af,g⟩ ρ I L φ :=
 .mk k fun a w ha _=>by simp [execOp,ha.ev hx,ha.ev hy,eqGuard,b8X]
theorem b4Y (T:TypeId) (m n:UInt32):binOp .xor T (u32 m) (u32 n)=pure (u32 (m ^^^ n)):=by
 unfold binOp u32
 simp only [ne_eq,not_true,if_false]
 show(pure (Value.int .u32 (IntKind.wrap .u32 ((BitVec.ofInt 32 m.toNat ^^^ BitVec.ofInt 32 n.toNat).toNat:Int))):Sem Value)=_
 rw [Z3,Z3,a4q]
 rfl
theorem I1.a3M {m n:UInt32} (hx:ev ρ x=some (u32 m)) (hy:ev ρ y=some (u32 n)) (k:φ (u32 (m ^^^ n))):I1 P N ⟨d,.binOp .xor T x y T2,ty,ps,af,g⟩ ρ I L φ :=
 .mk k fun a w ha _=>by simp [execOp,ha.ev hx,ha.ev hy,eqGuard,b4Y]
theorem b4Z (T:TypeId) (m n:UInt32):binOp .and T (u32 m) (u32 n)=pure (u32 (m &&& n)):=by
 unfold binOp u32
 simp only [ne_eq,not_true,if_false]
 show(pure (Value.int .u32 (IntKind.wrap .u32 ((BitVec.ofInt 32 m.toNat &&& BitVec.ofInt 32 n.toNat).toNat:Int))):Sem Value)=_
 rw [Z3,Z3,a4q]
 rfl
theorem I1.b0A {m n:UInt32} (hx:ev ρ x=some (u32 m)) (hy:ev ρ y=some (u32 n)) (k:φ (u32 (m &&& n))):I1 P N ⟨d,.binOp .and T x y T2,ty,ps,af,g⟩ ρ I L φ :=
 .mk k fun a w ha _=>by simp [execOp,ha.ev hx,ha.ev hy,eqGuard,b4Z]
theorem b6n (T:TypeId) (m n:UInt32):binOp .or T (u32 m) (u32 n)=pure (u32 (m ||| n)):=by
 unfold binOp u32
 simp only [ne_eq,not_true,if_false]
 show(pure (Value.int .u32 (IntKind.wrap .u32 ((BitVec.ofInt 32 m.toNat ||| BitVec.ofInt 32 n.toNat).toNat:Int))):Sem Value)=_
 rw [Z3,Z3,a4q]
 rfl
theorem I1.b8Y {m n:UInt32} (hx:ev ρ x=some (u32 m)) (hy:ev ρ y=some (u32 n)) (k:φ (u32 (m ||| n))):I1 P N ⟨d,.binOp .or T x y T2,ty,ps,af,g⟩ ρ I L φ :=
 .mk k fun a w ha _=>by simp [execOp,ha.ev hx,ha.ev hy,eqGuard,b6n]
theorem b6o (m:UInt32):Op.unary .xor (u32 m)=pure (u32 (~~~m)):=by
 unfold Op.unary u32
 show(pure (Value.int .u32 (IntKind.wrap .u32 ((BitVec.ofInt 32 (2^32 - 1) ^^^ BitVec.ofInt 32 m.toNat).toNat:Int))):Sem Value)=_
 rw [Z3,a4q]
 have h:BitVec.ofInt 32 (2^32 - 1) ^^^ m.toBitVec = ~~~ m.toBitVec:=by
  rw [show BitVec.ofInt 32 (2^32 - 1)=BitVec.allOnes 32 from by decide]
  exact BitVec.allOnes_xor
 rw [h]
 rfl
theorem I1.c2W {m:UInt32} (hx:ev ρ x=some (u32 m)) (k:φ (u32 (~~~m))):I1 P N ⟨d,.unOp .xor T x,ty,ps,af,g⟩ ρ I L φ :=
 .mk k fun a w ha _=>by simp [execOp,ha.ev hx,b6o]
theorem b5a (T:TypeId) (m:UInt32) (kd:IntKind) (n:Nat) (h:n < 32):binOp .shl T (u32 m) (.int kd (n:Int))=pure (u32 (m <<< UInt32.ofNat n)):=by
 unfold u32
 show Op.shift .shl .u32 m.toNat kd n=_
 unfold Op.shift
 rw [if_neg (by omega)]
 have e:min ((n:Int).toNat) (IntKind.bits .u32)=n:=by simp [IntKind.bits];omega
 have hs:((m <<< UInt32.ofNat n).toNat:Int)=(m.toNat*2^n:Int) % 4294967296:=by
  have h1:(UInt32.ofNat n).toNat=n:=by simp;omega
  rw [UInt32.toNat_shiftLeft,h1,Nat.mod_eq_of_lt h,Nat.shiftLeft_eq]
  rw [Int.natCast_emod,Int.natCast_mul,Int.natCast_pow]
  rfl
 simp only [e,wrap_u32,hs]
theorem b5b (T:TypeId) (m:UInt32) (kd:IntKind) (n:Nat) (h:n < 32):binOp .shr T (u32 m) (.int kd (n:Int))=pure (u32 (m >>> UInt32.ofNat n)):=by
 unfold u32
 show Op.shift .shr .u32 m.toNat kd n=_
 unfold Op.shift
 rw [if_neg (by omega)]
 have e:min ((n:Int).toNat) (IntKind.bits .u32)=n:=by simp [IntKind.bits];omega
 have hs:((m >>> UInt32.ofNat n).toNat:Int)=Int.fdiv m.toNat (2^n):=by
  have h1:(UInt32.ofNat n).toNat=n:=by simp;omega
  rw [UInt32.toNat_shiftRight,h1,Nat.mod_eq_of_lt h,Nat.shiftRight_eq_div_pow,Int.fdiv_eq_ediv_of_nonneg _ (Int.pow_nonneg (by omega)),Int.natCast_ediv,Int.natCast_pow]
  rfl
 show(pure (Value.int .u32 (Int.fdiv m.toNat (2^(min ((n:Int).toNat) (IntKind.bits .u32))))):Sem Value)=_
 rw [e,hs]
theorem b5c (T:TypeId) (m n:UInt64):binOp .and T (u64 m) (u64 n)=pure (u64 (m &&& n)):=by
 unfold binOp u64
 simp only [ne_eq,not_true,if_false]
 show(pure (Value.int .u64 (IntKind.wrap .u64 ((BitVec.ofInt 64 m.toNat &&& BitVec.ofInt 64 n.toNat).toNat:Int))):Sem Value)=_
 rw [a1M,a1M,a5Y]
 rfl
theorem I1.b6p {m n:UInt64} (hx:ev ρ x=some (u64 m)) (hy:ev ρ y=some (u64 n)) (k:φ (u64 (m &&& n))):I1 P N ⟨d,.binOp .and T x y T2,ty,ps,af,g⟩ ρ I L φ :=
 .mk k fun a w ha _=>by simp [execOp,ha.ev hx,ha.ev hy,eqGuard,b5c]
theorem b6q (T:TypeId) (m n:UInt64):binOp .or T (u64 m) (u64 n)=pure (u64 (m ||| n)):=by
 unfold binOp u64
 simp only [ne_eq,not_true,if_false]
 show(pure (Value.int .u64 (IntKind.wrap .u64 ((BitVec.ofInt 64 m.toNat ||| BitVec.ofInt 64 n.toNat).toNat:Int))):Sem Value)=_
 rw [a1M,a1M,a5Y]
 rfl
theorem I1.b6r {m n:UInt64} (hx:ev ρ x=some (u64 m)) (hy:ev ρ y=some (u64 n)) (k:φ (u64 (m ||| n))):I1 P N ⟨d,.binOp .or T x y T2,ty,ps,af,g⟩ ρ I L φ :=
 .mk k fun a w ha _=>by simp [execOp,ha.ev hx,ha.ev hy,eqGuard,b6q]
theorem b6s (m:UInt64):Op.unary .xor (u64 m)=pure (u64 (~~~m)):=by
 unfold Op.unary u64
 show(pure (Value.int .u64 (IntKind.wrap .u64 ((BitVec.ofInt 64 (2^64 - 1) ^^^ BitVec.ofInt 64 m.toNat).toNat:Int))):Sem Value)=_
 rw [a1M,a5Y]
 have h:BitVec.ofInt 64 (2^64 - 1) ^^^ m.toBitVec = ~~~ m.toBitVec:=by
  rw [show BitVec.ofInt 64 (2^64 - 1)=BitVec.allOnes 64 from by decide]
  exact BitVec.allOnes_xor
 rw [h]
 rfl
theorem I1.b6t {m:UInt64} (hx:ev ρ x=some (u64 m)) (k:φ (u64 (~~~m))):I1 P N ⟨d,.unOp .xor T x,ty,ps,af,g⟩ ρ I L φ :=
 .mk k fun a w ha _=>by simp [execOp,ha.ev hx,b6s]
theorem b5d (T:TypeId) (m:UInt64) (kd:IntKind) (n:Nat) (h:n < 64):binOp .shl T (u64 m) (.int kd (n:Int))=pure (u64 (m <<< UInt64.ofNat n)):=by
 unfold u64
 show Op.shift .shl .u64 m.toNat kd n=_
 unfold Op.shift
 rw [if_neg (by omega)]
 have e:min ((n:Int).toNat) (IntKind.bits .u64)=n:=by simp [IntKind.bits];omega
 have hs:((m <<< UInt64.ofNat n).toNat:Int)=(m.toNat*2^n:Int) % 18446744073709551616:=by
  have h1:(UInt64.ofNat n).toNat=n:=by simp;omega
  rw [UInt64.toNat_shiftLeft,h1,Nat.mod_eq_of_lt h,Nat.shiftLeft_eq]
  rw [Int.natCast_emod,Int.natCast_mul,Int.natCast_pow]
  rfl
 simp only [e,wrap_u64,hs]
theorem b5e (T:TypeId) (m:UInt64) (kd:IntKind) (n:Nat) (h:n < 64):binOp .shr T (u64 m) (.int kd (n:Int))=pure (u64 (m >>> UInt64.ofNat n)):=by
 unfold u64
 show Op.shift .shr .u64 m.toNat kd n=_
 unfold Op.shift
 rw [if_neg (by omega)]
 have e:min ((n:Int).toNat) (IntKind.bits .u64)=n:=by simp [IntKind.bits];omega
 have hs:((m >>> UInt64.ofNat n).toNat:Int)=Int.fdiv m.toNat (2^n):=by
  have h1:(UInt64.ofNat n).toNat=n:=by simp;omega
  rw [UInt64.toNat_shiftRight,h1,Nat.mod_eq_of_lt h,Nat.shiftRight_eq_div_pow,Int.fdiv_eq_ediv_of_nonneg _ (Int.pow_nonneg (by omega)),Int.natCast_ediv,Int.natCast_pow]
  rfl
 show(pure (Value.int .u64 (Int.fdiv m.toNat (2^(min ((n:Int).toNat) (IntKind.bits .u64))))):Sem Value)=_
 rw [e,hs]
end
end Go.Fl
namespace Go.Fl
open Go.RowKit
section
variable {P:Program} {C:Ctx} {N:Nat} {ρ:Env} {I:Im} {L:Lh} {φ:Value→Prop} {d:Option Nat} {ty:TypeId} {ps:String} {af:Array Edge} {g:Option (Nat×Bool)}
variable {x y z:Operand} {T T2:TypeId}
theorem I1.b3R {m:UInt32} {kd:IntKind} {j:Int} (n:Nat) (hx:ev ρ x=some (u32 m)) (hy:ev ρ y=some (.int kd j)) (hj:j=(n:Int)) (h:n < 32) (k:φ (u32 (m <<< UInt32.ofNat n))):I1 P N ⟨d,.binOp .shl T x y T2,ty,ps,af,g⟩ ρ I L φ :=
 .mk k fun a w ha _=>by subst hj;simp [execOp,ha.ev hx,ha.ev hy,eqGuard,b5a T m kd n h]
theorem I1.b3S {m:UInt32} {kd:IntKind} {j:Int} (n:Nat) (hx:ev ρ x=some (u32 m)) (hy:ev ρ y=some (.int kd j)) (hj:j=(n:Int)) (h:n < 32) (k:φ (u32 (m >>> UInt32.ofNat n))):I1 P N ⟨d,.binOp .shr T x y T2,ty,ps,af,g⟩ ρ I L φ :=
 .mk k fun a w ha _=>by subst hj;simp [execOp,ha.ev hx,ha.ev hy,eqGuard,b5b T m kd n h]
theorem I1.a1t {m:UInt64} {kd:IntKind} {j:Int} (n:Nat) (hx:ev ρ x=some (u64 m)) (hy:ev ρ y=some (.int kd j)) (hj:j=(n:Int)) (h:n < 64) (k:φ (u64 (m <<< UInt64.ofNat n))):I1 P N ⟨d,.binOp .shl T x y T2,ty,ps,af,g⟩ ρ I L φ :=
 .mk k fun a w ha _=>by subst hj;simp [execOp,ha.ev hx,ha.ev hy,eqGuard,b5d T m kd n h]
theorem I1.b0B {m:UInt64} {kd:IntKind} {j:Int} (n:Nat) (hx:ev ρ x=some (u64 m)) (hy:ev ρ y=some (.int kd j)) (hj:j=(n:Int)) (h:n < 64) (k:φ (u64 (m >>> UInt64.ofNat n))):I1 P N ⟨d,.binOp .shr T x y T2,ty,ps,af,g⟩ ρ I L φ :=
 .mk k fun a w ha _=>by subst hj;simp [execOp,ha.ev hx,ha.ev hy,eqGuard,b5e T m kd n h]
theorem I1.b6u {m n:UInt64} (hx:ev ρ x=some (u64 m)) (hy:ev ρ y=some (u64 n)) (k:φ (u64 (m+n))):I1 P N ⟨d,.binOp .add T x y T2,ty,ps,af,g⟩ ρ I L φ :=
 .mk k fun a w ha _=>by simp [execOp,ha.ev hx,ha.ev hy,eqGuard,binOp,Op.intArith,u64,wrap_u64]
theorem I1.b3T {m n:UInt64} (hx:ev ρ x=some (u64 m)) (hy:ev ρ y=some (u64 n)) (k:φ (u64 (m*n))):I1 P N ⟨d,.binOp .mul T x y T2,ty,ps,af,g⟩ ρ I L φ :=
 .mk k fun a w ha _=>by simp [execOp,ha.ev hx,ha.ev hy,eqGuard,binOp,Op.intArith,u64,wrap_u64]
theorem I1.b3U {m n:UInt64} (hx:ev ρ x=some (u64 m)) (hy:ev ρ y=some (u64 n)) (k:φ (u64 (m - n))):I1 P N ⟨d,.binOp .sub T x y T2,ty,ps,af,g⟩ ρ I L φ :=
 .mk k fun a w ha _=>by
  have e:(((m.toNat:Int) - n.toNat) % 18446744073709551616)=((m - n).toNat:Int):=by
   have h1:=m.toNat_lt;have h2:=n.toNat_lt
   rw [UInt64.toNat_sub]
   omega
  simp [execOp,ha.ev hx,ha.ev hy,eqGuard,binOp,Op.intArith,u64,wrap_u64,e]
theorem I1.neg {m:Int} (hx:ev ρ x=some (i64 m)) (h : -9223372036854775807≤m∧m≤9223372036854775807) (k:φ (i64 (-m))):I1 P N ⟨d,.unOp .neg T x,ty,ps,af,g⟩ ρ I L φ :=
 .mk k fun a w ha _=>by simp [execOp,ha.ev hx,Op.unary,Op.intArith,wrap_i64 (n := -m) (by omega) (by omega)]
theorem run_convert_int {S D : TypeId} {ds : TypeDesc} {k : IntKind} (hS : P.underlying S = some ds) (hD : P.underlying D = some (.int k)) (j : IntKind) (n : Int) (w : World) :
    (convert S D (.int j n)).run P w = .ok (.int k (k.wrap n)) w:=by
  simp [convert,run_underlying hS,run_underlying hD,Conv.intToInt]
section conv
variable {S D:TypeId} {ds:TypeDesc}
theorem I1.c2X {j : IntKind} {n : Int} (hS : P.underlying S = some ds) (hD : P.underlying D = some (.int .i64)) (hx : ev ρ x = some (.int j n)) (h1 : -9223372036854775808 ≤ n) (h2 : n ≤ 9223372036854775807) (k : φ (i64 n)) :
    I1 P N ⟨d,.convert S D x,ty,ps,af,g⟩ ρ I L φ := .mk k fun a w ha _=>by simp [execOp,ha.ev hx,run_convert_int hS hD,wrap_i64 h1 h2]
theorem I1.b6v {j : IntKind} {n : Int} (hS : P.underlying S = some ds) (hD : P.underlying D = some (.int .u8)) (hx : ev ρ x = some (.int j n)) (k : φ (u8 (UInt8.ofInt n))) :
    I1 P N ⟨d,.convert S D x,ty,ps,af,g⟩ ρ I L φ := .mk k fun a w ha _=>by
  have e:IntKind.wrap .u8 n=((UInt8.ofInt n).toNat:Int):=by
    rw [wrap_u8]
    show _=(((UInt8.ofNat (n % 2^8).toNat).toNat:Nat):Int)
    simp only [UInt8.toNat_ofNat']
    omega
  simp [execOp,ha.ev hx,run_convert_int hS hD,e,u8]
theorem I1.a1N {j : IntKind} {n : Int} (hS : P.underlying S = some ds) (hD : P.underlying D = some (.int .u64)) (hx : ev ρ x = some (.int j n)) (k : φ (u64 (UInt64.ofInt n))) :
    I1 P N ⟨d,.convert S D x,ty,ps,af,g⟩ ρ I L φ := .mk k fun a w ha _=>by
  have e:IntKind.wrap .u64 n=((UInt64.ofInt n).toNat:Int):=by
    rw [wrap_u64]
    show _=(((UInt64.ofNat (n % 2^64).toNat).toNat:Nat):Int)
    simp only [UInt64.toNat_ofNat']
    omega
  simp [execOp,ha.ev hx,run_convert_int hS hD,e,u64]
theorem I1.a5v {m : UInt8} (hS : P.underlying S = some ds) (hD : P.underlying D = some (.int .u32)) (hx : ev ρ x = some (u8 m)) (k : φ (u32 m.toUInt32)) :
    I1 P N ⟨d,.convert S D x,ty,ps,af,g⟩ ρ I L φ := .mk k fun a w ha _=>by
  have h:=m.toNat_lt
  have e:IntKind.wrap .u32 (m.toNat:Int)=(m.toUInt32.toNat:Int):=by rw [wrap_u32];simp;omega
  simp [execOp,ha.ev hx,u8,run_convert_int hS hD,e,u32]
theorem I1.a7s {m : UInt8} (hS : P.underlying S = some ds) (hD : P.underlying D = some (.int .u64)) (hx : ev ρ x = some (u8 m)) (k : φ (u64 m.toUInt64)) :
    I1 P N ⟨d,.convert S D x,ty,ps,af,g⟩ ρ I L φ := .mk k fun a w ha _=>by
  have h:=m.toNat_lt
  have e:IntKind.wrap .u64 (m.toNat:Int)=(m.toUInt64.toNat:Int):=by rw [wrap_u64];simp;omega
  simp [execOp,ha.ev hx,u8,run_convert_int hS hD,e,u64]
theorem I1.b6w {m : UInt32} (hS : P.underlying S = some ds) (hD : P.underlying D = some (.int .u8)) (hx : ev ρ x = some (u32 m)) (k : φ (u8 m.toUInt8)) :
    I1 P N ⟨d,.convert S D x,ty,ps,af,g⟩ ρ I L φ := .mk k fun a w ha _=>by
  have e:IntKind.wrap .u8 (m.toNat:Int)=(m.toUInt8.toNat:Int):=by rw [wrap_u8];simp
  simp [execOp,ha.ev hx,u32,run_convert_int hS hD,e,u8]
theorem I1.a2J {m : UInt64} (hS : P.underlying S = some ds) (hD : P.underlying D = some (.int .u8)) (hx : ev ρ x = some (u64 m)) (k : φ (u8 m.toUInt8)) :
    I1 P N ⟨d,.convert S D x,ty,ps,af,g⟩ ρ I L φ := .mk k fun a w ha _=>by
  have e:IntKind.wrap .u8 (m.toNat:Int)=(m.toUInt8.toNat:Int):=by rw [wrap_u8];simp
  simp [execOp,ha.ev hx,u64,run_convert_int hS hD,e,u8]
end conv
section len
variable {E:TypeId} {a0:Option Addr} {n c:Nat}
theorem I1.len (hT:P.underlying T=some (.slice E)) (hx:ev ρ x=some (.slice a0 n c)) (k:φ (i64 n)):I1 P N ⟨d,.call ⟨.builtin .len,#[x],#[T]⟩,ty,ps,af,g⟩ ρ I L φ :=
 .mk k fun a w ha _=>by simp [execOp,resolve,invoke,builtin,Builtin.len_,run_underlying hT,ha.ev hx,goInt]
theorem I1.c1s {s:ByteArray} (hT:P.underlying T=some .string) (hx:ev ρ x=some (.string s)) (k:φ (i64 s.size)):I1 P N ⟨d,.call ⟨.builtin .len,#[x],#[T]⟩,ty,ps,af,g⟩ ρ I L φ :=
 .mk k fun a w ha _=>by simp [execOp,resolve,invoke,builtin,Builtin.len_,run_underlying hT,ha.ev hx,goInt]
end len
theorem I1.a5w {m n:Int} {ts:Array TypeId} (hx:ev ρ x=some (i64 m)) (hy:ev ρ y=some (i64 n)) (k:φ (i64 (min m n))):I1 P N ⟨d,.call ⟨.builtin .min,#[x,y],ts⟩,ty,ps,af,g⟩ ρ I L φ :=
 .mk k fun a w ha _=>by
  have e:(if n < m then n else m)=min m n:=by simp only [Int.min_def];split<;>split<;>omega
  simp [execOp,resolve,invoke,builtin,Builtin.min_,Builtin.min2,ha.ev hx,ha.ev hy,e]
theorem I1.a8i {m n:Int} {ts:Array TypeId} (hx:ev ρ x=some (i64 m)) (hy:ev ρ y=some (i64 n)) (k:φ (i64 (max m n))):I1 P N ⟨d,.call ⟨.builtin .max,#[x,y],ts⟩,ty,ps,af,g⟩ ρ I L φ :=
 .mk k fun a w ha _=>by
  have e:(if m < n then n else m)=max m n:=by simp only [Int.max_def];split<;>split<;>omega
  simp [execOp,resolve,invoke,builtin,Builtin.max_,Builtin.max2,ha.ev hx,ha.ev hy,e]
end
end Go.Fl
namespace Go.Fl
open Go.RowKit
abbrev row (cs:List Value) (e:TypeId):Obj := .cells cs.toArray e (0,0)
abbrev ptr (b o:Nat):Value := .pointer (some ⟨b,o,none⟩)
abbrev slc (b o n c:Nat):Value := .slice (some ⟨b,o,none⟩) n c
def C9 (cs:List Value) (o:Nat) (vs:List Value):List Value:=cs.take o++vs++cs.drop (o+vs.length)
def H7 (cs:List Value) (o n:Nat):List Value:=(cs.drop o).take n
theorem a7t (cs:List Value):H7 cs 0 cs.length=cs:=by simp [H7]
theorem a7u (cs vs:List Value) (h:vs.length=cs.length):C9 cs 0 vs=vs:=by simp [C9,h]
theorem Y4 (cs:List Value) (o:Nat) (vs:List Value) (h:o+vs.length≤cs.length):(C9 cs o vs).length=cs.length:=by simp [C9];omega
theorem b2u (cs:List Value) (o:Nat) (v:Value) (h:o < cs.length):C9 cs o [v]=cs.set o v:=by
 simp only [C9,List.length_singleton]
 rw [List.set_eq_take_append_cons_drop,if_pos h]
 simp
theorem a4E (xs sp:List Value) (o:Nat) (vs:List Value) (h:o+vs.length≤xs.length):C9 (xs++sp) o vs=C9 xs o vs++sp:=by
 simp only [C9]
 rw [List.take_append_of_le_length (by omega),List.drop_append_of_le_length (by omega)]
 simp
def Cells (I:Im) (b o:Nat) (xs:List Value):Prop:=∃ cs e fr,I b=some (.cells cs e fr)∧∀ i v,xs[i]?=some v→cs[o+i]?=some v
theorem Cells.mono {I J:Im} {b o:Nat} {xs:List Value} (h:Cells I b o xs) (hle:Le I J):Cells J b o xs:=by
 obtain⟨cs,e,fr,h1,h2⟩:=h
 exact⟨cs,e,fr,hle _ _ h1,h2⟩
theorem Cells.b6x {I:Im} {b:Nat} {cs:List Value} {e:TypeId} (h:I b=some (row cs e)):Cells I b 0 cs:=⟨_,_,_,h,fun i v hv=>by simpa using hv⟩
theorem Cells.sub {I:Im} {b o:Nat} {xs ys:List Value} (k:Nat) (h:Cells I b o xs) (hs:∀ i v,ys[i]?=some v→xs[k+i]?=some v):Cells I b (o+k) ys:=by
 obtain⟨cs,e,fr,h1,h2⟩:=h
 exact⟨cs,e,fr,h1,fun i v hv=>by rw [Nat.add_assoc];exact h2 _ _ (hs i v hv)⟩
theorem cell_of {w:World} {b o:Nat} {cs:Array Value} {e:TypeId} {fr:Nat×Nat} (h:w.heap[b]?=some (.cells cs e fr)):w.cell? ⟨b,o,none⟩=cs[o]?:=by simp [World.cell?,h]
theorem Cells.cell {I:Im} {L:Lh} {w:World} {b o:Nat} {xs:List Value} (h:Cells I b o xs) (hm:Mem I L w) {i:Nat} {v:Value} (hv:xs[i]?=some v):w.cell? ⟨b,o+i,none⟩=some v:=by
 obtain⟨cs,e,fr,h1,h2⟩:=h
 rw [cell_of (hm.im _ _ h1)]
 exact h2 i v hv
def Sl (I:Im) (s:Nat) (v:Value) (n:Nat) (xs:List Value):Prop :=
 ∃ a c,v = .slice a n c∧xs.length=n*s∧n≤c∧c≤maxLen∧(a=none→c=0)∧(xs ≠ []→∃ b o,a=some ⟨b,o,none⟩∧Cells I b o xs)
theorem Sl.mono {I J:Im} {s:Nat} {v:Value} {n:Nat} {xs:List Value} (h:Sl I s v n xs) (hle:Le I J):Sl J s v n xs:=by
 obtain⟨a,c,h1,h2,h3,h4,h5,h6⟩:=h
 exact⟨a,c,h1,h2,h3,h4,h5,fun hx=>by obtain⟨b,o,ha,hc⟩:=h6 hx;exact⟨b,o,ha,hc.mono hle⟩⟩
theorem Sl.nil (I:Im) (s:Nat):Sl I s (.slice none 0 0) 0 []:=⟨none,0,rfl,by simp,Nat.le_refl _,by simp [maxLen],fun _=>rfl,fun h=>absurd rfl h⟩
theorem Sl.open {I:Im} {s:Nat} {v:Value} {n:Nat} {xs:List Value} (h:Sl I s v n xs) (hx:xs ≠ []):∃ b o c,v=slc b o n c∧Cells I b o xs∧n≤c∧c≤maxLen:=by
 obtain⟨a,c,h1,h2,h3,h4,h5,h6⟩:=h
 obtain⟨b,o,rfl,hc⟩:=h6 hx
 exact⟨b,o,c,h1,hc,h3,h4⟩
theorem Sl.shape {I:Im} {s:Nat} {v:Value} {n:Nat} {xs:List Value} (h:Sl I s v n xs):∃ a c,v = .slice a n c∧n≤c∧c≤maxLen:=by
 obtain⟨a,c,h1,h2,h3,h4,h5,h6⟩:=h
 exact⟨a,c,h1,h3,h4⟩
theorem Sl.len {I:Im} {s:Nat} {v:Value} {n:Nat} {xs:List Value} (h:Sl I s v n xs):xs.length=n*s:=by
 obtain⟨a,c,h1,h2,h3,h4,h5,h6⟩:=h
 exact h2
theorem Sl.a3N {I:Im} {s b o n c:Nat} {xs:List Value} (h:Cells I b o xs) (hl:xs.length=n*s) (h1:n≤c) (h2:c≤maxLen):Sl I s (slc b o n c) n xs :=
 ⟨_,c,rfl,hl,h1,h2,(fun h=>by cases h),fun _=>⟨b,o,rfl,h⟩⟩
def Own (e:TypeId) (s:Nat) (v:Value) (n:Nat) (xs:List Value) (X:List (Nat×Obj)):Prop :=
 (v = .slice none 0 0∧n=0∧xs = []∧X = []) ∨
 ∃ b c sp,v=slc b 0 n c∧X = [(b,row (xs++sp) e)]∧xs.length=n*s∧(xs++sp).length=c*s∧n≤c∧c≤maxLen
theorem Own.nil (e:TypeId) (s:Nat):Own e s (.slice none 0 0) 0 [] [] := .inl ⟨rfl,rfl,rfl,rfl⟩
theorem Own.made {e:TypeId} {s b n:Nat} {xs:List Value} (h:xs.length=n*s) (hn:n≤maxLen):Own e s (slc b 0 n n) n xs [(b,row xs e)] :=
 .inr ⟨b,n,[],rfl,by simp,h,by simpa using h,Nat.le_refl _,hn⟩
theorem Own.sl {e:TypeId} {s:Nat} {v:Value} {n:Nat} {xs:List Value} {X:List (Nat×Obj)} (h:Own e s v n xs X) {J:Im} (hJ:∀ p∈X,J p.1=some p.2):Sl J s v n xs:=by
 rcases h with ⟨rfl,rfl,rfl,rfl⟩|⟨b,c,sp,rfl,rfl,h1,h2,h3,h4⟩
 ·exact Sl.nil J s
 ·refine Sl.a3N ?_ h1 h3 h4
  have:=Cells.b6x (hJ (b,row (xs++sp) e) (by simp))
  have h5:=this.sub (ys:=xs) 0 (fun i v hv=>by
   rw [Nat.zero_add,List.getElem?_append_left (List.getElem?_eq_some_iff.1 hv).1];exact hv)
  simpa using h5
theorem Own.shape {e:TypeId} {s:Nat} {v:Value} {n:Nat} {xs:List Value} {X:List (Nat×Obj)} (h:Own e s v n xs X):∃ a c,v = .slice a n c:=by
 rcases h with ⟨rfl,rfl,rfl,rfl⟩|⟨b,c,sp,rfl,rfl,h1,h2,h3,h4⟩
 ·exact⟨_,_,a8⟩
 ·exact⟨_,_,a8⟩
theorem Own.len {e:TypeId} {s:Nat} {v:Value} {n:Nat} {xs:List Value} {X:List (Nat×Obj)} (h:Own e s v n xs X):xs.length=n*s:=by
 rcases h with ⟨rfl,rfl,rfl,rfl⟩|⟨b,c,sp,rfl,rfl,h1,h2,h3,h4⟩
 ·simp
 ·exact h1
def a0E:TypeDesc→Bool
 | .struct _ | .array _ _=>true
 | _=>false
def D7 (P:Program) (T:TypeId) (n:Nat):Prop:=(P.info? T).map (·.size)=some n
theorem D7.of {P:Program} {T:TypeId} {n:Nat} (h:(P.info? T).map (·.size)=some n):D7 P T n:=h
theorem D7.run {P:Program} {T:TypeId} {n:Nat} (h:D7 P T n) (w:World):(sizeOf T).run P w = .ok n w:=by
 unfold D7 at h
 cases hq:P.info? T with
 | none=>simp [hq] at h
 | some i=>simp [hq] at h;simp [sizeOf,typeInfo,hq,h]
def p4 (P:Program) (T:TypeId) (i:Nat):Option (Nat×Nat×Bool) :=
 match P.underlying T with
 | some (.struct fs)=>match fs[i]? with
  | some f=>match P.info? f.type,P.underlying f.type with
   | some inf,some dd=>some (f.offset,inf.size,a0E dd)
   | _,_=>none
  | none=>none
 | _=>none
def K9 (P:Program) (T:TypeId):Option (Nat×Nat×Bool) :=
 match P.underlying T with
 | some (.array n e)=>match P.info? e,P.underlying e with
  | some inf,some dd=>some (n,inf.size,a0E dd)
  | _,_=>none
 | _=>none
theorem a1F {P:Program} {T:TypeId} {dd:TypeDesc} (h:P.underlying T=some dd) (w:World):(isAgg T).run P w = .ok (a0E dd) w:=by
 unfold isAgg
 rw [Sem.run_bind,run_underlying h]
 cases dd<;>rfl
theorem Addr.add_plain (b o j:Nat):(⟨b,o,none⟩:Addr).add j=⟨b,o+j,none⟩:=by unfold Addr.add;split<;>simp_all
section
variable {P:Program} {C:Ctx} {N:Nat} {ρ:Env} {I:Im} {L:Lh} {φ:Value→Prop} {d:Option Nat} {ty:TypeId} {ps:String} {af:Array Edge} {g:Option (Nat×Bool)}
variable {x y z:Operand} {T T2 E:TypeId}
theorem I1.fieldAddr {i off sz b o:Nat} {ag:Bool} (hf:p4 P T i=some (off,sz+1,ag)) (hx:ev ρ x=some (ptr b o)) (k:φ (ptr b (o+off))):I1 P N ⟨d,.fieldAddr T x i,ty,ps,af,g⟩ ρ I L φ :=
 .mk k fun a w ha _=>by
  unfold p4 at hf
  split at hf
  ·rename_i fs hu
   split at hf
   ·rename_i f hfi
    split at hf
    ·rename_i inf dd h1 h2
     simp only [Option.some.injEq,Prod.mk.injEq] at hf
     obtain⟨rfl,h3,_⟩:=hf
     have hs:D7 P f.type (sz+1):=by simp [D7,h1,h3]
     simp [execOp,ha.ev hx,Instr.fieldAt,run_underlying hu,hfi,Instr.sureAddr,fieldPlace,hs.run,Addr.add_plain]
    ·cases hf
   ·cases hf
  ·cases hf
theorem I1.C8 {n sz b o : Nat} {ag : Bool} {kd : IntKind} {i : Int} (hf : K9 P T = some (n, sz, ag)) (hx : ev ρ x = some (ptr b o)) (hy : ev ρ y = some (.int kd i)) (h0 : 0 ≤ i) (h1 : i < n)
    (k:φ (ptr b (o+i.toNat*sz))):I1 P N ⟨d,.indexAddr T x y,ty,ps,af,g⟩ ρ I L φ :=
  .mk k fun a w ha _=>by
    unfold K9 at hf
    split at hf
    · rename_i m e hu
      split at hf
      · rename_i inf dd h2 h3
        simp only [Option.some.injEq,Prod.mk.injEq] at hf
        obtain⟨rfl,h4,_⟩:=hf
        have hs:D7 P e sz:=by simp [D7,h2,h4]
        simp [execOp,ha.ev hx,ha.ev hy,Instr.indexAt,asIntOf,run_underlying hu,Instr.sureAddr,h0,h1,hs.run,Addr.add_plain]
      · cases hf
    · cases hf
theorem I1.Z4 {n c sz b o : Nat} {kd : IntKind} {i : Int} (hT : P.underlying T = some (.slice E)) (hs : D7 P E sz) (hx : ev ρ x = some (slc b o n c)) (hy : ev ρ y = some (.int kd i)) (h0 : 0 ≤ i) (h1 : i < n)
    (k:φ (ptr b (o+i.toNat*sz))):I1 P N ⟨d,.indexAddr T x y,ty,ps,af,g⟩ ρ I L φ :=
  .mk k fun a w ha _=>by
    simp [execOp,ha.ev hx,ha.ev hy,Instr.indexAt,asIntOf,run_underlying hT,h0,h1,hs.run,Addr.add_plain]
theorem run_load {w:World} {b o:Nat} {v:Value} {dd:TypeDesc} (hT:P.underlying T=some dd) (hd:a0E dd=false) (hc:w.cell? ⟨b,o,none⟩=some v):(Instr.loadAt T (ptr b o)).run P w = .ok v w:=by
 simp [Instr.loadAt,Instr.sureAddr,loadVar,a1F hT,hd,load,Sem.run,hc]
theorem a5Z {w : World} {b o : Nat} {vs : List Value} {dd : TypeDesc} (hT : P.underlying T = some dd) (hd : a0E dd = true) (hs : D7 P T vs.length) (hc : ∀ j v, vs[j]? = some v → w.cell? ⟨b, o + j, none⟩ = some v) :
    (Instr.loadAt T (ptr b o)).run P w = .ok (.agg vs.toArray) w:=by
  have hl:(loadCells ⟨b,o,none⟩ vs.length).run P w = .ok vs.toArray w:=run_loadCells_list (P:=P) w ⟨b,o,none⟩ vs (fun j v hv=>by rw [Addr.add_plain];exact hc j v hv)
  simp [Instr.loadAt,Instr.sureAddr,loadVar,a1F hT,hd,hs.run,hl]
theorem I1.b3V {b o off j : Nat} {xs : List Value} {v : Value} {dd : TypeDesc} (hT : P.underlying T = some dd) (hd : a0E dd = false) (hx : ev ρ x = some (ptr b off)) (hc : Cells I b o xs) (ho : off = o + j) (hj : xs[j]? = some v) (k : φ v) :
    I1 P N ⟨d,.load T x,ty,ps,af,g⟩ ρ I L φ := .mk k fun a w ha hm=>by
  subst ho
  simp [execOp,ha.ev hx,run_load hT hd (hc.cell hm hj)]
theorem Z5 {w:World} (hm:Mem I L w) {i b:Nat} {cs:List Value} {e:TypeId} (hL:L[i]?=some [(b,row cs e)]) (o:Nat):w.cell? ⟨b,o,none⟩=cs[o]?:=by
 have:=hm.loc (b,row cs e) (F7 hL (by simp))
 rw [cell_of this]
 simp
theorem I1.V0 (i : Nat) {b off : Nat} {cs : List Value} {e : TypeId} {v : Value} {dd : TypeDesc} (hT : P.underlying T = some dd) (hd : a0E dd = false) (hx : ev ρ x = some (ptr b off)) (hL : L[i]? = some [(b, row cs e)]) (hj : cs[off]? = some v) (k : φ v) :
    I1 P N ⟨d,.load T x,ty,ps,af,g⟩ ρ I L φ := .mk k fun a w ha hm=>by
  simp [execOp,ha.ev hx,run_load hT hd (show w.cell? ⟨b,off,none⟩=some v by rw [Z5 hm hL];exact hj)]
theorem I1.c1t (i : Nat) {b off : Nat} {cs vs : List Value} {e : TypeId} {dd : TypeDesc} (hT : P.underlying T = some dd) (hd : a0E dd = true) (hs : D7 P T vs.length) (hx : ev ρ x = some (ptr b off)) (hL : L[i]? = some [(b, row cs e)])
    (hv:H7 cs off vs.length=vs) (k:φ (.agg vs.toArray)):I1 P N ⟨d,.load T x,ty,ps,af,g⟩ ρ I L φ := .mk k fun a w ha hm=>by
  simp [execOp,ha.ev hx,a5Z hT hd hs (fun j v hj=>by
    rw [Z5 hm hL]
    rw [←hv,H7,List.getElem?_take] at hj
    split at hj
    · simpa using hj
    · cases hj)]
theorem I1.a9q (i : Nat) {b : Nat} {cs : List Value} {e : TypeId} {dd : TypeDesc} (hT : P.underlying T = some dd) (hd : a0E dd = true) (hs : D7 P T cs.length) (hx : ev ρ x = some (ptr b 0)) (hL : L[i]? = some [(b, row cs e)])
    (k:φ (.agg cs.toArray)):I1 P N ⟨d,.load T x,ty,ps,af,g⟩ ρ I L φ := .c1t i hT hd hs hx hL (a7t cs) k
theorem b0C {dd : TypeDesc} {cs : List Value} {off sz : Nat} (hT : P.underlying T = some dd) (hs : D7 P T sz) (w : World) :
    (a0E dd=true→(part T cs.toArray off).run P w = .ok (.agg (H7 cs off sz).toArray) w)∧(∀ v,a0E dd=false→cs[off]?=some v→(part T cs.toArray off).run P w = .ok v w):=by
  refine⟨fun hd => ?_,fun v hd hv => ?_⟩
  · have:cs.toArray.extract off (off+sz)=(H7 cs off sz).toArray:=by simp [H7]
    simp only [part,Sem.run_bind,a1F hT,hd,Result.andThen_ok,if_true,hs.run,this,Sem.run_pure]
  · simp [part,a1F hT,hd,hv]
theorem I1.c1u {cs : List Value} {n sz : Nat} {kd : IntKind} {i : Int} {v : Value} (hf : K9 P T = some (n, sz, false)) (hx : ev ρ x = some (.agg cs.toArray)) (hy : ev ρ y = some (.int kd i)) (h0 : 0 ≤ i) (h1 : i < n)
    (hv:cs[i.toNat*sz]?=some v) (k:φ v):I1 P N ⟨d,.index T x y,ty,ps,af,g⟩ ρ I L φ :=
  .mk k fun a w ha hm=>by
    unfold K9 at hf
    split at hf
    · rename_i m e hu
      split at hf
      · rename_i inf dd h2 h3
        simp only [Option.some.injEq,Prod.mk.injEq] at hf
        obtain⟨rfl,h4,h5⟩:=hf
        have hs:D7 P e sz:=by simp [D7,h2,h4]
        have:=(b0C (cs:=cs) (off:=i.toNat*sz) h3 hs w).2 v h5 hv
        simp [execOp,ha.ev hx,ha.ev hy,Instr.index,asIntOf,run_underlying hu,h0,h1,hs.run,this]
      · cases hf
    · cases hf
theorem I1.b6y {s : ByteArray} {kd : IntKind} {i : Nat} {c : UInt8} (hT : P.underlying T = some .string) (hx : ev ρ x = some (.string s)) (hy : ev ρ y = some (.int kd (i : Int))) (hv : s.data.toList[i]? = some c) (k : φ (u8 c)) :
    I1 P N ⟨d,.index T x y,ty,ps,af,g⟩ ρ I L φ :=
  .mk k fun a w ha hm=>by
    have hi:i < s.data.toList.length:=(List.getElem?_eq_some_iff.1 hv).1
    have hi':i < s.size:=by simpa using hi
    have hg:s[i]?=some c:=by
      rw [getElem?_pos s i hi']
      rw [List.getElem?_eq_getElem hi] at hv
      exact hv
    simp [execOp,ha.ev hx,ha.ev hy,Instr.index,asIntOf,run_underlying hT,hg,u8]
end
end Go.Fl
namespace Go.Fl
open Go.RowKit
section
variable {P:Program} {C:Ctx} {N:Nat} {ρ:Env} {I:Im} {L:Lh} {φ:Value→Prop} {K:Value→Im→Lh→Prop} {d:Option Nat} {ty:TypeId} {ps:String} {af:Array Edge} {g:Option (Nat×Bool)}
variable {x y z:Operand} {T T2 E:TypeId}
theorem a65 {a : Option Addr} {n c sz l h : Nat} {lo hi : Option Value} (hT : P.underlying T = some (.slice E)) (hs : D7 P E sz)
    (hlo:(lo=none∧l=0)∨∃ kd,lo=some (.int kd (l:Int))) (hhi:(hi=none∧h=n)∨∃ kd,hi=some (.int kd (h:Int))) (h1:l≤h) (h2:h≤c) (w:World) :
    (Instr.sliceAt T (.slice a n c) lo hi none).run P w = .ok (.slice (if c=l then a else a.map (·.add (l*sz))) (h - l) (c - l)) w:=by
  have e1:(h:Int)≤(c:Int):=by omega
  have e2:(l:Int)≤(h:Int):=by omega
  have hsb:(Instr.sliceBounds true n c lo hi none).run P w = .ok (l,h,c) w:=by
    rcases hlo with ⟨rfl,rfl⟩|⟨kl,rfl⟩<;>rcases hhi with ⟨rfl,rfl⟩|⟨kh,rfl⟩ <;>
      simp [Instr.sliceBounds,Instr.sliceBound,asIntOf,h1,h2]
  simp only [Instr.sliceAt,Instr.slice,Sem.run_bind,run_underlying hT,Result.andThen_ok,hsb,hs.run,Sem.run_pure]
theorem I1.slice {lo hi : Option Operand} {v : Value} {n sz l h : Nat} {xs : List Value} (hT : P.underlying T = some (.slice E)) (hs : D7 P E sz) (hx : ev ρ x = some v) (hv : Sl I sz v n xs)
    (hlo:(lo=none∧l=0)∨∃ kd o,lo=some o∧ev ρ o=some (.int kd (l:Int))) (hhi:(hi=none∧h=n)∨∃ kd o,hi=some o∧ev ρ o=some (.int kd (h:Int))) (h1:l≤h) (h2:h≤n)
    (k:∀ v',Sl I sz v' (h - l) ((xs.take (h*sz)).drop (l*sz))→φ v'):I1 P N ⟨d,.slice T x lo hi none,ty,ps,af,g⟩ ρ I L φ:=by
  obtain⟨a,c,rfl,hl,hnc,hcm,hnone,hcells⟩:=hv
  refine .mk (k (.slice (if c=l then a else a.map (·.add (l*sz))) (h - l) (c - l)) ?_) fun ac w ha hm => ?_
  · have hmul:(h - l)*sz=h*sz - l*sz:=Nat.sub_mul _ _ _
    have hle:h*sz≤n*sz:=Nat.mul_le_mul_right _ h2
    refine⟨_,_,rfl,by rw [List.length_drop,List.length_take,hl,hmul];omega,by omega,by unfold maxLen at *;omega,fun hn => ?_,fun hne => ?_⟩
    · split at hn
      · omega
      · have:=hnone (by simpa using hn);omega
    · have hxs:xs ≠ []:=by intro e;subst e;simp at hne
      obtain⟨b,o,rfl,hc⟩:=hcells hxs
      have hcl:c≠l:=by
        intro e
        apply hne
        apply List.eq_nil_of_length_eq_zero
        rw [List.length_drop,List.length_take,hl]
        have:h=l:=by omega
        subst this
        omega
      rw [if_neg hcl]
      refine⟨b,o+l*sz,by simp [Addr.add_plain],hc.sub (l*sz) fun i u hu => ?_⟩
      rw [List.getElem?_drop,List.getElem?_take] at hu
      split at hu
      · exact hu
      · cases hu
  · have hlo':((lo.map ac.eval)=none∧l=0)∨∃ kd,lo.map ac.eval=some (.int kd (l:Int)):=by
      rcases hlo with ⟨rfl,rfl⟩|⟨kd,o,rfl,ho⟩
      · exact .inl ⟨a8,a8⟩
      · exact .inr ⟨kd,by simp [ha.ev ho]⟩
    have hhi':((hi.map ac.eval)=none∧h=n)∨∃ kd,hi.map ac.eval=some (.int kd (h:Int)):=by
      rcases hhi with ⟨rfl,rfl⟩|⟨kd,o,rfl,ho⟩
      · exact .inl ⟨a8,a8⟩
      · exact .inr ⟨kd,by simp [ha.ev ho]⟩
    simp [execOp,ha.ev hx,a65 hT hs hlo' hhi' h1 (Nat.le_trans h2 hnc) w]
theorem I1.a7v {n sz b o:Nat} {ag:Bool} (hf:K9 P T=some (n,sz,ag)) (hx:ev ρ x=some (ptr b o)) (k:φ (slc b o n n)):I1 P N ⟨d,.slice T x none none none,ty,ps,af,g⟩ ρ I L φ :=
 .mk k fun a w ha hm=>by
  unfold K9 at hf
  split at hf
  ·rename_i m e hu
   split at hf
   ·rename_i inf dd h2 h3
    simp only [Option.some.injEq,Prod.mk.injEq] at hf
    obtain⟨rfl,h4,_⟩:=hf
    have hs:D7 P e sz:=by simp [D7,h2,h4]
    simp [execOp,ha.ev hx,Instr.sliceAt,run_underlying hu,Instr.sureAddr,Instr.sliceBounds,hs.run,Addr.add_plain]
   ·cases hf
  ·cases hf
def W6 (P:Program) (T:TypeId):Option (List Value):=((P.info? T).bind (·.zero)).map (·.cells.toList)
theorem a2L {zs:List Value} (h:W6 P T=some zs) (w:World):∃ z,(zeroValue T).run P w = .ok z w∧z.cells=zs.toArray:=by
 unfold W6 at h
 cases hq:P.info? T with
 | none=>simp [hq] at h
 | some i =>
  cases hz:i.zero with
  | none=>simp [hq,hz] at h
  | some z =>
   refine⟨z,by simp [zeroValue,typeInfo,hq,hz],?_⟩
   simp [hq,hz] at h
   rw [←h]
theorem a7e {o : Oper} {cs : List Value} {e : TypeId} {v : Nat → Value} (h : ∀ a w, Fits N ρ a → Mem I L w → (execOp a.eval o).run P w = .ok (.value (v w.heap.size)) (w.alloc (row cs e)))
    (k:∀ b,K (v b) I [[(b,row cs e)]]):OpX P N o ρ I L K:=fun a w ha hm=>by
  rw [h a w ha hm]
  have hnew:(w.alloc (row cs e)).heap[w.heap.size]?=some (row cs e):=heap_alloc_new w _
  have hold:∀ b,b < w.heap.size→(w.alloc (row cs e)).heap[b]?=w.heap[b]?:=fun b hb=>heap_alloc_old w _ hb
  refine⟨I,[[(w.heap.size,row cs e)]],⟨rfl,rfl,rfl,by simp,fun k hk _=>hold k hk⟩,Le.refl _,fun b h0 h1=>absurd h0 h1,⟨fun b o hb => ?_,fun p hp => ?_,fun p hp => ?_,?_⟩,?_,k _⟩
  · exact(hold b (C6 (hm.im b o hb))).trans (hm.im b o hb)
  · simp only [List.cons_append,List.nil_append,List.flatten_cons,List.mem_cons] at hp
    rcases hp with rfl|hp
    · exact hnew
    · exact(hold _ (C6 (hm.loc p hp))).trans (hm.loc p hp)
  · simp only [List.cons_append,List.nil_append,List.flatten_cons,List.mem_cons] at hp
    rcases hp with rfl|hp
    · cases hi:I w.heap.size with
      | none=>rfl
      | some o=>have:=C6 (hm.im _ o hi);omega
    · exact hm.sep p hp
  · simp only [List.cons_append,List.nil_append,List.flatten_cons,List.map_cons,List.nodup_cons,List.mem_map,not_exists,not_and]
    refine⟨fun p hp e => ?_,hm.nodup⟩
    have:=C6 (hm.loc p hp)
    omega
  · intro p hp;simp at hp;subst hp;exact Nat.le_refl _
theorem OpX.alloc {zs:List Value} (hz:W6 P T=some zs) (k:∀ b,K (ptr b 0) I [[(b,row zs T)]]):OpX P N ⟨d,.alloc T,ty,ps,af,g⟩ ρ I L K :=
 a7e (v:=fun b=>ptr b 0) (fun a w ha hm=>by
  obtain⟨z,h1,h2⟩:=a2L hz w
  simp only [execOp,Instr.alloc,Sem.run_bind,h1,Result.andThen_ok,newVar,newRow,h2,newObj,Sem.run,Sem.run_pure]
  rfl) k
theorem OpX.box {v:Value} {cs:List Value} (hx:ev ρ x=some v) (hv:v.cells.toList=cs) (k:∀ b,K (ptr b 0) I [[(b,row cs T)]]):OpX P N ⟨d,.box T x,ty,ps,af,g⟩ ρ I L K :=
 a7e (v:=fun b=>ptr b 0) (fun a w ha hm=>by
  have:v.cells=cs.toArray:=by rw [←hv]
  simp only [execOp,Instr.box,Sem.run_bind,ha.ev hx,Result.andThen_ok,newVar,newRow,this,newObj,Sem.run,Sem.run_pure]
  rfl) k
def evP (ρ:Env):List (Nat×Operand)→Option (List (Nat×Value))
 | []=>some []
 | p::r=>match ev ρ p.2,evP ρ r with
  | some v,some l=>some ((p.1,v)::l)
  | _,_=>none
theorem Fits.evP {a:Act} (h:Fits N ρ a):∀ {l:List (Nat×Operand)} {vs:List (Nat×Value)},evP ρ l=some vs→l.map (fun p=>(p.1,a.eval p.2))=vs
 | [],vs,hl=>by simp [Fl.evP] at hl;subst hl;rfl
 | p::r,vs,hl=>by
  simp only [Fl.evP] at hl
  cases hx:Fl.ev ρ p.2 with
  | none=>simp [hx] at hl
  | some v =>
   cases hr:Fl.evP ρ r with
   | none=>simp [hx,hr] at hl
   | some l =>
    simp [hx,hr] at hl
    subst hl
    simp [h.ev hx,h.evP hr]
def S5 (sz:Nat):Nat→List (Nat×Value)→Option (List Value)
 | _,[]=>some []
 | i,p::r=>bif Nat.beq p.1 i&&Nat.beq p.2.cells.size sz then (S5 sz (i+1) r).map (p.2.cells.toList ++ ·) else none
theorem V1 {cs:List Value} {o:Nat} {vs:List Value} (h:o≤cs.length) (i:Nat):(C9 cs o vs)[i]?=if i < o then cs[i]? else if i < o+vs.length then vs[i - o]? else cs[i]?:=by
 have h1:(cs.take o).length=o:=by simp;omega
 simp only [C9,List.append_assoc]
 by_cases hi:i < o
 ·rw [if_pos hi,List.getElem?_append_left (by omega),List.getElem?_take,if_pos hi]
 ·rw [if_neg hi,List.getElem?_append_right (by omega),h1]
  by_cases h2:i < o+vs.length
  ·rw [if_pos h2,List.getElem?_append_left (by omega)]
  ·rw [if_neg h2,List.getElem?_append_right (by omega),List.getElem?_drop]
   congr 1
   omega
theorem b0E {cells vs:Array Value} {off:Nat} (h:off+vs.size≤cells.size):(vs.zipIdx.foldl (fun cs (c,j)=>cs.setIfInBounds (off+j) c) cells).toList=C9 cells.toList off vs.toList:=by
  have key : ∀ (l : List Value) (k : Nat) (cs : Array Value), off + k + l.length ≤ cs.size →
      ((l.zipIdx k).foldl (fun cs (p:Value×Nat)=>cs.setIfInBounds (off+p.2) p.1) cs).toList=C9 cs.toList (off+k) l:=by
    intro l
    induction l with
    | nil=>intro k cs _;simp [C9]
    | cons v r ih =>
      intro k cs hl
      simp only [List.zipIdx_cons,List.foldl_cons]
      simp only [List.length_cons] at hl
      rw [ih (k+1) _ (by simp;omega)]
      apply List.ext_getElem?
      intro i
      rw [V1 (by simp;omega),V1 (by simp;omega)]
      simp only [Array.toList_setIfInBounds,List.getElem?_set,List.length_cons,Array.length_toList]
      by_cases h1:i < off+k
      · rw [if_pos (by omega),if_pos h1,if_neg (by omega)]
      · rw [if_neg h1]
        by_cases h2:i=off+k
        · subst h2
          rw [if_pos (by omega),if_pos rfl,if_pos (by omega),if_pos (by omega)]
          simp
        · rw [if_neg (by omega)]
          by_cases h3:i < off+(k+1)+r.length
          · rw [if_pos h3,if_pos (by omega),show i - (off+k)=(i - (off+(k+1)))+1 by omega]
            simp
          · rw [if_neg h3,if_neg (by omega),if_neg (by omega)]
  have:=key vs.toList 0 cells (by simpa using h)
  rw [←Array.foldl_toList]
  simpa using this
theorem a52 {sz : Nat} : ∀ (pv : List (Nat × Value)) (i : Nat) (cells : Array Value) (vs : List Value), S5 sz i pv = some vs → i * sz + vs.length ≤ cells.size →
    ∃ out,Instr.fill (fun i=>some (i*sz,sz)) cells pv=some out∧out.toList=C9 cells.toList (i*sz) vs
  | [],i,cells,vs,h,hl=>by simp [S5] at h;subst h;exact⟨cells,rfl,by simp [C9]⟩
  | p::r,i,cells,vs,h,hl=>by
    unfold S5 at h
    cases hb:(Nat.beq p.1 i&&Nat.beq p.2.cells.size sz) with
    | false=>simp [hb] at h
    | true =>
      simp only [hb,cond_true] at h
      simp only [Bool.and_eq_true] at hb
      have hp1:p.1=i:=Nat.eq_of_beq_eq_true hb.1
      have hp2:p.2.cells.size=sz:=Nat.eq_of_beq_eq_true hb.2
      cases hr:S5 sz (i+1) r with
      | none=>simp [hr] at h
      | some us =>
        simp [hr] at h
        subst h
        have hlen:(p.2.cells.toList++us).length=sz+us.length:=by simp [hp2]
        rw [hlen] at hl
        have hseg:=b0E (cells:=cells) (vs:=p.2.cells) (off:=i*sz) (by omega)
        obtain⟨pi,pv⟩:=p
        simp only at hp1 hp2 hseg
        subst hp1
        obtain⟨out,h1,h2⟩:=a52 r (pi+1) (pv.cells.zipIdx.foldl (fun cs (c,j)=>cs.setIfInBounds (pi*sz+j) c) cells) us hr (by
          have:(pv.cells.zipIdx.foldl (fun cs (c,j)=>cs.setIfInBounds (pi*sz+j) c) cells).size=cells.size:=by
            rw [←Array.length_toList,hseg,Y4 _ _ _ (by simp;omega)];simp
          rw [this,Nat.succ_mul]
          omega)
        refine⟨out,?_,?_⟩
        · simp only [Instr.fill]
          rw [if_neg (by simp [hp2];omega)]
          exact h1
        · rw [h2,hseg]
          have hz:pv.cells.toList.length=sz:=by simpa using hp2
          have hsl:=Y4 cells.toList (pi*sz) pv.cells.toList (by simp [hp2];omega)
          simp only [Array.length_toList] at hsl
          apply List.ext_getElem?
          intro i
          simp only [Nat.succ_mul] at *
          rw [V1 (by rw [hsl];omega),V1 (by simp;omega),V1 (by simp;omega),hlen,hz]
          by_cases h3:i < pi*sz
          · rw [if_pos (by omega),if_pos h3,if_pos h3]
          · rw [if_neg h3,if_neg h3]
            by_cases h4:i < pi*sz+sz
            · rw [if_pos h4,if_pos h4,if_pos (by omega),List.getElem?_append_left (by omega)]
            · rw [if_neg h4]
              by_cases h5:i < pi*sz+sz+us.length
              · rw [if_pos h5,if_pos (by omega),List.getElem?_append_right (by omega),hz]
                congr 1
                omega
              · rw [if_neg h5,if_neg h4,if_neg (by omega)]
theorem OpX.buildSlice {n sz : Nat} {zs vs : List Value} {parts : Array (Nat × Operand)} {pv : List (Nat × Value)} (hT : P.underlying T = some (.slice E)) (hs : D7 P E sz) (hz : W6 P E = some zs) (hzl : zs.length = sz)
    (hp:evP ρ parts.toList=some pv) (hside:S5 sz 0 pv=some vs) (hlen:vs.length=n*sz) (hn:n*sz≤16777216) (k:∀ b,K (slc b 0 n n) I [[(b,row vs E)]]) :
    OpX P N ⟨d,.buildSlice T n parts,ty,ps,af,g⟩ ρ I L K :=
  a7e (v:=fun b=>slc b 0 n n) (fun a w ha hm=>by
    obtain⟨zv,h1,h2⟩:=a2L hz w
    have hparts:(parts.map fun (i,x)=>(i,a.eval x)).toList=pv:=by rw [Array.toList_map];exact ha.evP hp
    have hn':¬(16777216 < n*sz):=by omega
    obtain⟨zero,hzero,hzsz⟩:∃ zero:Array Value,(if n*sz=0 then (pure #[]:Sem (Array Value)) else do pure (←zeroValue E).cells).run P w = .ok zero w∧(n*sz≠0→zero.size=sz):=by
      by_cases h0:n*sz=0
      · exact⟨#[],by simp [h0],fun h=>absurd h0 h⟩
      · exact⟨zv.cells,by simp [h0,h1],fun _=>by rw [h2];simpa using hzl⟩
    obtain⟨out,ho1,ho2⟩:=a52 (sz:=sz) pv 0 ((Array.range (n*sz)).map (zero[· % zero.size]!)) vs hside (by simp [hlen])
    have ho3:out=vs.toArray:=by
      apply Array.ext'
      rw [ho2]
      simp [C9,hlen]
    simp only [execOp,Instr.buildSlice,Sem.run_bind,run_underlying hT,Result.andThen_ok,hs.run]
    rw [if_neg hn']
    have hparts2:(parts.map fun x=>(x.1,a.eval x.2)).toList=pv:=hparts
    by_cases h0:n*sz=0
    · rw [if_pos h0] at hzero
      have hz0 : #[]=zero:=by simp only [Sem.run_pure,Result.ok.injEq] at hzero;exact hzero.1
      subst hz0
      rw [if_pos h0]
      simp only [Sem.run_bind,Sem.run_pure,Result.andThen_ok,hparts2,ho1,newRow,newObj,Sem.run,ho3]
      rfl
    · have hz0:zv.cells=zero:=by
        rw [if_neg h0] at hzero
        simp only [Sem.run_bind,h1,Result.andThen_ok,Sem.run_pure,Result.ok.injEq] at hzero
        exact hzero.1
      subst hz0
      rw [if_neg h0]
      simp only [Sem.run_bind,Sem.run_pure,h1,Result.andThen_ok,hparts2,ho1,newRow,newObj,Sem.run,ho3]
      rfl) k
end
end Go.Fl
namespace Go.Fl
open Go.RowKit
theorem St.write {C : Ctx} {I : Im} {L : Lh} {w w' : World} (hs : St C I L w) {i b : Nat} {o o' : Obj} (hL : L[i]? = some [(b, o)])
    (hb:w'.heap[b]?=some o') (hk:∀ k,k≠b→w'.heap[k]?=w.heap[k]?) (hsz:w'.heap.size=w.heap.size) (h1:w'.os=w.os) (h2:w'.tape=w.tape) (h3:w'.output=w.output) :
    St C I (L.set i [(b,o')]) w':=by
  have hm:=hs.mem
  have hsplit:=a1I L i _ hL [(b,o')]
  have hbm:(b,o)∈L.flatten:=F7 hL (by simp)
  have hnd:=hm.nodup
  rw [hsplit.1] at hnd
  have hoth:∀ p,p∈(L.take i).flatten∨p∈(L.drop (i+1)).flatten→p∈L.flatten∧p.1≠b:=by
    intro p hp
    rw [hsplit.1]
    simp only [List.map_append,List.nodup_append] at hnd
    rcases hp with hp|hp
    · exact⟨by simp [hp],fun hx=>hnd.2.2 p.1 (List.mem_map_of_mem hp) b (by simp) hx⟩
    · exact⟨by simp [hp],fun hx=>hnd.2.1.2.2 b (by simp) p.1 (List.mem_map_of_mem hp) hx.symm⟩
  have hcas:∀ p∈(L.set i [(b,o')]).flatten,p=(b,o')∨(p∈(L.take i).flatten∨p∈(L.drop (i+1)).flatten):=by
    intro p hp
    rw [hsplit.2] at hp
    simp only [List.mem_append,List.mem_singleton] at hp
    rcases hp with hp|hp|hp
    · exact .inr (.inl hp)
    · exact .inl hp
    · exact .inr (.inr hp)
  refine⟨⟨fun k ob hI => ?_,fun p hp => ?_,fun p hp => ?_,?_⟩,⟨h1.trans hs.chg.os,h2.trans hs.chg.tape,h3.trans hs.chg.output,by rw [hsz];exact hs.chg.size,fun k hk0 hkM => ?_⟩,fun p hp => ?_,hs.W3,hs.new⟩
  · have:k≠b:=by
      rintro rfl
      have:=hm.sep _ hbm
      rw [this] at hI
      cases hI
    rw [hk k this]
    exact hm.im k ob hI
  · rcases hcas p hp with rfl|h
    · exact hb
    · obtain⟨h4,h5⟩:=hoth p h
      rw [hk _ h5]
      exact hm.loc p h4
  · rcases hcas p hp with rfl|h
    · exact hm.sep (b,o) hbm
    · exact hm.sep p (hoth p h).1
  · rw [hsplit.2]
    simpa using hnd
  · have:k≠b:=by
      rintro rfl
      rcases hs.own _ hbm with h|h
      · simp at h;omega
      · exact hkM h
    rw [hk k this]
    exact hs.chg.block k hk0 hkM
  · rcases hcas p hp with rfl|h
    · exact hs.own (b,o) hbm
    · exact hs.own p (hoth p h).1
theorem St.setRow {C:Ctx} {I:Im} {L:Lh} {w:World} (hs:St C I L w) {i b:Nat} {cs:List Value} {e:TypeId} (hL:L[i]?=some [(b,row cs e)]) (cs':List Value):St C I (L.set i [(b,row cs' e)]) (w.setRow b cs'.toArray):=by
 have hb:=hs.mem.loc (b,row cs e) (F7 hL (by simp))
 exact hs.write hL (setRow_heap w b _ _ e (0,0) hb) (fun k hk=>setRow_other w b k _ hk) (by simp) rfl rfl rfl
section
variable {P:Program} {C:Ctx} {N:Nat} {ρ:Env} {I:Im} {L:Lh} {φ:Value→Prop} {K:Value→Im→Lh→Prop} {d:Option Nat} {ty:TypeId} {ps:String} {af:Array Edge} {g:Option (Nat×Bool)}
variable {x y z:Operand} {T T2 E:TypeId}
def a0A (vs:List Value):Bool:=vs.all (·.oneCell')
theorem OpS.store (i : Nat) {b off : Nat} {v : Value} {cs vs : List Value} {e : TypeId} (hs : D7 P T vs.length) (hx : ev ρ x = some (ptr b off)) (hy : ev ρ y = some v) (hv : v.cells.toList = vs) (h1 : a0A vs = true)
    (hL:L[i]?=some [(b,row cs e)]) (hle:off+vs.length≤cs.length) (k:K undef I (L.set i [(b,row (C9 cs off vs) e)])) :
    OpS P C N ⟨d,.store T x y,ty,ps,af,g⟩ ρ I L K:=fun a w ha hst=>by
  have hb:=hst.mem.loc (b,row cs e) (F7 hL (by simp))
  have hvs:v.cells.size=vs.length:=by rw [←hv];simp
  have hall:∀ u∈vs,u.oneCell'=true:=fun u hu=>List.all_eq_true.1 h1 u hu
  have hrun:=run_storeCells_at P b off e vs 0 cs.toArray w hb (by simpa using hle) hall
  have hr:(execOp a.eval ⟨d,.store T x y,ty,ps,af,g⟩).run P w = .ok .skip (w.setRow b (C9 cs off vs).toArray):=by
    simp only [Nat.add_zero] at hrun
    simp [execOp,ha.ev hx,ha.ev hy,Instr.storeAt,Instr.sureAddr,storeVar,hs.run,hvs,hv,hrun,C9]
  rw [hr]
  exact⟨I,_,hst.setRow hL _,k⟩
theorem OpS.a9r (i : Nat) {b off : Nat} {v : Value} {cs : List Value} {e : TypeId} (hs : D7 P T 1) (hx : ev ρ x = some (ptr b off)) (hy : ev ρ y = some v) (hv : v.cells.toList = [v]) (h1 : v.oneCell' = true)
    (hL:L[i]?=some [(b,row cs e)]) (hle:off < cs.length) (k:K undef I (L.set i [(b,row (C9 cs off [v]) e)])):OpS P C N ⟨d,.store T x y,ty,ps,af,g⟩ ρ I L K :=
  .store i (vs := [v]) hs hx hy hv (by simp [a0A,h1]) hL (by simp only [List.length_singleton];omega) k
theorem OpS.c1v (i m : Nat) {b off : Nat} {cs vs : List Value} {e : TypeId} (hs : D7 P T m) (hx : ev ρ x = some (ptr b off)) (hy : ev ρ y = some (.agg vs.toArray)) (hm : vs.length = m) (h1 : a0A vs = true)
    (hL:L[i]?=some [(b,row cs e)]) (hle:off+m≤cs.length) (k:K undef I (L.set i [(b,row (C9 cs off vs) e)])):OpS P C N ⟨d,.store T x y,ty,ps,af,g⟩ ρ I L K :=
  .store i (vs:=vs) (by rw [hm];exact hs) hx hy rfl h1 hL (by rw [hm];exact hle) k
theorem OpS.a3d (i m : Nat) {b : Nat} {cs vs : List Value} {e : TypeId} (hs : D7 P T m) (hx : ev ρ x = some (ptr b 0)) (hy : ev ρ y = some (.agg vs.toArray)) (hm : vs.length = m) (h1 : a0A vs = true)
    (hL:L[i]?=some [(b,row cs e)]) (hle:cs.length=m) (k:K undef I (L.set i [(b,row vs e)])):OpS P C N ⟨d,.store T x y,ty,ps,af,g⟩ ρ I L K :=
  .c1v i m hs hx hy hm h1 hL (by omega) (by rw [a7u _ _ (by omega)];exact k)
theorem a3O {α:Type} (f:α→Value) (l:List α) (h:∀ x,(f x).oneCell'=true):a0A (l.map f)=true:=by
 simp [a0A,h]
structure Src (P:Program) (I:Im) (L:Lh) (s:Nat) (v:Value) (m:Nat) (news:List Value):Prop where
 len:∀ w,(Builtin.lenOf v).run P w = .ok m w
 cells:∀ w,Mem I L w→∀ k,k≤m→(Builtin.firstCells s k v).run P w = .ok (news.take (k*s)).toArray w
 size:news.length=m*s
theorem Src.sl {s m:Nat} {v:Value} {news:List Value} (h:Sl I s v m news):Src P I L s v m news:=by
 obtain⟨a,c,rfl,hl,hnc,hcm,hnone,hcells⟩:=h
 refine⟨fun w=>by simp [Builtin.lenOf],fun w hm k hk => ?_,hl⟩
 have hle:k*s≤m*s:=Nat.mul_le_mul_right _ hk
 have htl:(news.take (k*s)).length=k*s:=by rw [List.length_take,hl];exact Nat.min_eq_left hle
 by_cases hn:news = []
 ·subst hn
  cases a with
  | none=>simp [Builtin.firstCells]
  | some ad =>
   have h0:k*s=0:=by simp at htl;omega
   simp [Builtin.firstCells,loadCells,h0,loadCellsFrom]
 ·obtain⟨b,o,rfl,hc⟩:=hcells hn
  have:=run_loadCells_list (P:=P) w ⟨b,o,none⟩ (news.take (k*s)) (fun j u hj=>by
   rw [List.getElem?_take] at hj
   split at hj
   ·rw [Addr.add_plain];exact hc.cell hm hj
   ·cases hj)
  rw [htl] at this
  simp only [Builtin.firstCells,this]
theorem Src.chunk {s b n c:Nat} {cs:List Value} {e:TypeId} (i:Nat) (hL:L[i]?=some [(b,row cs e)]) (h:cs.length=n*s):Src P I L s (slc b 0 n c) n cs:=by
 refine⟨fun w=>by simp [Builtin.lenOf],fun w hm k hk => ?_,h⟩
 have hle:k*s≤n*s:=Nat.mul_le_mul_right _ hk
 have htl:(cs.take (k*s)).length=k*s:=by rw [List.length_take,h];exact Nat.min_eq_left hle
 have:=run_loadCells_list (P:=P) w ⟨b,0,none⟩ (cs.take (k*s)) (fun j u hj=>by
  rw [List.getElem?_take] at hj
  split at hj
  ·rw [Addr.add_plain,Z5 hm hL];simpa using hj
  ·cases hj)
 rw [htl] at this
 simp only [Builtin.firstCells,this]
theorem Src.own {s m:Nat} {v:Value} {news:List Value} {X:List (Nat×Obj)} {e:TypeId} (i:Nat) (hL:L[i]?=some X) (h:Own e s v m news X):Src P I L s v m news:=by
 rcases h with ⟨rfl,rfl,rfl,rfl⟩|⟨b,c,sp,rfl,rfl,h1,h2,h3,h4⟩
 ·exact Src.sl (Sl.nil I s)
 ·refine⟨fun w=>by simp [Builtin.lenOf],fun w hm k hk => ?_,h1⟩
  have hle:k*s≤m*s:=Nat.mul_le_mul_right _ hk
  have htl:(news.take (k*s)).length=k*s:=by rw [List.length_take,h1];exact Nat.min_eq_left hle
  have:=run_loadCells_list (P:=P) w ⟨b,0,none⟩ (news.take (k*s)) (fun j u hj=>by
   rw [List.getElem?_take] at hj
   split at hj
   ·rw [Addr.add_plain,Z5 hm hL,Nat.zero_add,List.getElem?_append_left (List.getElem?_eq_some_iff.1 hj).1];exact hj
   ·cases hj)
  rw [htl] at this
  simp only [Builtin.firstCells,this]
def C5 (l:List UInt8):List Value:=l.map u8
theorem a2r {n m : Nat} {inf : TypeInfo} {zv : Value} {a : Option Addr} {c : Nat} {v : Value} {news : List Value} {U E2 : TypeId} {w : World}
    (hT:P.underlying T=some (.slice E)) (hi:P.info? E=some inf) (hz:inf.zero=some zv) (hU:P.underlying U=some (.slice E2))
    (hlen:∀ w,(Builtin.lenOf v).run P w = .ok m w) (hcells:∀ w',w'.heap=w.heap→(Builtin.firstCells inf.size m v).run P w' = .ok news.toArray w')
    (hn63:n+m≤9223372036854775807) (hb:(n+m)*inf.bytes≤140737488355328) :
    (n+m≤c→(Builtin.append_ #[T,U] ty #[.slice a n c,v]).run P w=((match a with|some ad=>storeCells (ad.add (n*inf.size)) news|none=>pure ()).run P w).andThen fun _ w' => .ok (.slice a (n+m) c) w') ∧
    (c < n+m→∀ olds,((Builtin.firstCells inf.size n (.slice a n c)).run P w.drew = .ok olds w.drew) →
      (Builtin.append_ #[T,U] ty #[.slice a n c,v]).run P w = .ok (.slice (some ⟨w.heap.size,0,none⟩) (n+m) (grownCap w (n+m) c E))
        (w.drew.alloc (.cells (olds++news.toArray++Builtin.zeroCells zv.cells (grownCap w (n+m) c E - (n+m))) E))):=by
  refine⟨fun hle => ?_,fun hlt olds hold => ?_⟩
  · have hc:=hcells w rfl
    cases a<;>simp [Builtin.append_,run_underlying hT,run_underlying hU,sizeOf,typeInfo,hi,hlen,hle,hc]
  · have hc:=hcells w.drew rfl
    have h63':¬(9223372036854775807 < ((n:Int)+(m:Int))):=by omega
    have hfit:¬(281474976710656 < Builtin.nextslicecap (n+m) c*inf.bytes):=by have:=growslice_fits hlt hb;omega
    have hnle:¬(n+m≤c):=by omega
    simp [Builtin.append_,run_underlying hT,run_underlying hU,sizeOf,typeInfo,zeroValue,hi,hz,hlen,hnle,h63',hfit,Question.forced,newRow,grownCap,hold,hc]
theorem a1O {n m : Nat} {inf : TypeInfo} {zv : Value} {a : Option Addr} {c : Nat} {v : Value} {news : List Value} {U : TypeId} {w : World}
    (hT:P.underlying T=some (.slice E)) (hi:P.info? E=some inf) (hz:inf.zero=some zv) (hU:P.underlying U=some .string)
    (hlen:∀ w,(Builtin.lenOf v).run P w = .ok m w) (hcells:∀ w',w'.heap=w.heap→(Builtin.firstCells inf.size m v).run P w' = .ok news.toArray w')
    (hn63:n+m≤9223372036854775807) (hb:(n+m)*inf.bytes≤140737488355328) :
    (n+m≤c→(Builtin.append_ #[T,U] ty #[.slice a n c,v]).run P w=((match a with|some ad=>storeCells (ad.add (n*inf.size)) news|none=>pure ()).run P w).andThen fun _ w' => .ok (.slice a (n+m) c) w') ∧
    (c < n+m→∀ olds,((Builtin.firstCells inf.size n (.slice a n c)).run P w.drew = .ok olds w.drew) →
      (Builtin.append_ #[T,U] ty #[.slice a n c,v]).run P w = .ok (.slice (some ⟨w.heap.size,0,none⟩) (n+m) (grownCap w (n+m) c E))
        (w.drew.alloc (.cells (olds++news.toArray++Builtin.zeroCells zv.cells (grownCap w (n+m) c E - (n+m))) E))):=by
  refine⟨fun hle => ?_,fun hlt olds hold => ?_⟩
  · have hc:=hcells w rfl
    cases a<;>simp [Builtin.append_,run_underlying hT,run_underlying hU,sizeOf,typeInfo,hi,hlen,hle,hc]
  · have hc:=hcells w.drew rfl
    have h63':¬(9223372036854775807 < ((n:Int)+(m:Int))):=by omega
    have hfit:¬(281474976710656 < Builtin.nextslicecap (n+m) c*inf.bytes):=by have:=growslice_fits hlt hb;omega
    have hnle:¬(n+m≤c):=by omega
    simp [Builtin.append_,run_underlying hT,run_underlying hU,sizeOf,typeInfo,zeroValue,hi,hz,hlen,hnle,h63',hfit,Question.forced,newRow,grownCap,hold,hc]
structure Elt (P:Program) (T E:TypeId) (s by_:Nat):Prop where
 und:P.underlying T=some (.slice E)
 info:∃ inf zv,P.info? E=some inf∧inf.zero=some zv∧inf.size=s∧inf.bytes=by_∧zv.cells.size=s
def c2Y (P:Program) (T:TypeId):Option (TypeId×Nat×Nat×Nat) :=
 match P.underlying T with
 | some (.slice E)=>match P.info? E with
  | some inf=>match inf.zero with
   | some zv=>some (E,inf.size,inf.bytes,zv.cells.size)
   | none=>none
  | none=>none
 | _=>none
theorem Elt.of {E:TypeId} {s by_:Nat} (h:c2Y P T=some (E,s,by_,s)):Elt P T E s by_:=by
 unfold c2Y at h
 split at h
 ·rename_i e hu
  split at h
  ·rename_i inf hi
   split at h
   ·rename_i zv hz
    simp only [Option.some.injEq,Prod.mk.injEq] at h
    obtain⟨rfl,h1,h2,h3⟩:=h
    exact⟨hu,inf,zv,hi,hz,h1,h2,h3⟩
   ·cases h
  ·cases h
 ·cases h
theorem Elt.size {E:TypeId} {s by_:Nat} (h:Elt P T E s by_):D7 P E s:=by
 obtain⟨inf,zv,hi,hz,h1,_,_⟩:=h.info
 simp [D7,hi,h1]
theorem St.b2v {C:Ctx} {I:Im} {L:Lh} {w:World} (hs:St C I L w) (i:Nat):St C I (L.set i []) w:=by
 have hsub:=a1a L i
 exact⟨⟨hs.mem.im,fun p hp=>hs.mem.loc p (hsub.subset hp),fun p hp=>hs.mem.sep p (hsub.subset hp),(hsub.map Prod.fst).nodup hs.mem.nodup⟩,hs.chg,fun p hp=>hs.own p (hsub.subset hp),hs.W3,hs.new⟩
theorem St.replace {C : Ctx} {I : Im} {L : Lh} {w w' : World} (hs : St C I L w) {i : Nat} {X : List (Nat × Obj)} (hL : L[i]? = some X) {o : Obj} (hw : w'.heap = w.heap.push o) (h1 : w'.os = w.os) (h2 : w'.tape = w.tape) (h3 : w'.output = w.output) :
    St C I (L.set i [(w.heap.size,o)]) w':=by
  have hnew:w'.heap[w.heap.size]?=some o:=by rw [hw];simp
  have hold:∀ b,b < w.heap.size→w'.heap[b]?=w.heap[b]?:=fun b hb=>by rw [hw,Array.getElem?_push,if_neg (by omega)]
  have hm:=hs.mem
  have hsplit:=a1I L i X hL [(w.heap.size,o)]
  have hnd:=hm.nodup
  rw [hsplit.1] at hnd
  have hoth:∀ p,p∈(L.take i).flatten∨p∈(L.drop (i+1)).flatten→p∈L.flatten:=by
    intro p hp
    rw [hsplit.1]
    rcases hp with hp|hp<;>simp [hp]
  have hcas:∀ p∈(L.set i [(w.heap.size,o)]).flatten,p=(w.heap.size,o)∨(p∈(L.take i).flatten∨p∈(L.drop (i+1)).flatten):=by
    intro p hp
    rw [hsplit.2] at hp
    simp only [List.mem_append,List.mem_singleton] at hp
    rcases hp with hp|hp|hp
    · exact .inr (.inl hp)
    · exact .inl hp
    · exact .inr (.inr hp)
  have hlt:∀ p∈L.flatten,p.1 < w.heap.size:=fun p hp=>C6 (hm.loc p hp)
  refine⟨⟨fun k ob hI => ?_,fun p hp => ?_,fun p hp => ?_,?_⟩,⟨h1.trans hs.chg.os,h2.trans hs.chg.tape,h3.trans hs.chg.output,by rw [hw];have:=hs.chg.size;simp;omega,fun k hk0 hkM => ?_⟩,fun p hp => ?_,hs.W3,hs.new⟩
  · rw [hold k (C6 (hm.im k ob hI))];exact hm.im k ob hI
  · rcases hcas p hp with rfl|h
    · exact hnew
    · have:=hoth p h;rw [hold _ (hlt p this)];exact hm.loc p this
  · rcases hcas p hp with rfl|h
    · cases hi:I w.heap.size with
      | none=>rfl
      | some ob=>have:=C6 (hm.im _ ob hi);omega
    · exact hm.sep p (hoth p h)
  · rw [hsplit.2]
    simp only [List.map_append,List.map_cons,List.map_nil,List.nodup_append] at hnd ⊢
    refine⟨hnd.1,⟨by simp,hnd.2.1.2.1,?_⟩,?_⟩
    · intro x hx y hy e
      obtain⟨q,hq,rfl⟩:=List.mem_map.1 hy
      simp at hx
      have:=hlt q (hoth q (.inr hq))
      omega
    · intro x hx y hy e
      obtain⟨q,hq,rfl⟩:=List.mem_map.1 hx
      have h5:=hlt q (hoth q (.inl hq))
      simp only [List.mem_append,List.mem_singleton] at hy
      rcases hy with rfl|hy
      · omega
      · exact hnd.2.2 _ (List.mem_map_of_mem hq) y (by simp only [List.mem_append];exact .inr hy) e
  · have:k < w.heap.size:=Nat.lt_of_lt_of_le hk0 hs.chg.size
    rw [hold k this]
    exact hs.chg.block k hk0 hkM
  · rcases hcas p hp with rfl|h
    · exact .inl hs.chg.size
    · exact hs.own p (hoth p h)
theorem OpS.b0F (i : Nat) {n m : Nat} {a0 : Option Addr} {c : Nat} {u : Value} {xs news : List Value} {X : List (Nat × Obj)} {U : TypeId} {inf : TypeInfo} {zv : Value} (hzs : zv.cells.size = inf.size) {a : Act} {w : World}
    (hxe:ev ρ x=some (.slice a0 n c)) (hye:ev ρ y=some u) (ha:Fits N ρ a) (hst:St C I L w) (hL:L[i]?=some X) (hown:Own E inf.size (.slice a0 n c) n xs X) (hnl:news.length=m*inf.size) (h1:a0A news=true)
    (hn63:n+m≤maxLen)
    (hboth:(n+m≤c→(Builtin.append_ #[T,U] ty #[.slice a0 n c,u]).run P w=((match a0 with|some ad=>storeCells (ad.add (n*inf.size)) news|none=>pure ()).run P w).andThen fun _ w' => .ok (.slice a0 (n+m) c) w') ∧
    (c < n+m→∀ olds,((Builtin.firstCells inf.size n (.slice a0 n c)).run P w.drew = .ok olds w.drew) →
      (Builtin.append_ #[T,U] ty #[.slice a0 n c,u]).run P w = .ok (.slice (some ⟨w.heap.size,0,none⟩) (n+m) (grownCap w (n+m) c E))
        (w.drew.alloc (.cells (olds++news.toArray++Builtin.zeroCells zv.cells (grownCap w (n+m) c E - (n+m))) E))))
    (k:∀ v' X',Own E inf.size v' (n+m) (xs++news) X'→K v' I (L.set i X')) :
    Yld P ((execOp a.eval ⟨d,.call ⟨.builtin .append,#[x,y],#[T,U]⟩,ty,ps,af,g⟩).run P w) fun v w'=>∃ J L',St C J L' w'∧K v J L':=by
  have hmem:∀ w',w'.heap=w.heap→Mem I L w':=fun w' hw=>⟨by rw [hw];exact hst.mem.im,by rw [hw];exact hst.mem.loc,hst.mem.sep,hst.mem.nodup⟩
  have hop:∀ r,(Builtin.append_ #[T,U] ty #[.slice a0 n c,u]).run P w=r→(execOp a.eval ⟨d,.call ⟨.builtin .append,#[x,y],#[T,U]⟩,ty,ps,af,g⟩).run P w=r.andThen fun v w' => .ok (.value v) w':=fun r hr=>by
    simp [execOp,resolve,invoke,builtin,ha.ev hxe,ha.ev hye,hr]
  have hxl:=hown.len
  by_cases hroom:n+m≤c
  · have hr:=hboth.1 hroom
    rcases hown with ⟨hv,rfl,rfl,rfl⟩|⟨b,c',sp,hv,rfl,h2,h3,h4,h5⟩
    · cases hv
      have hm0:m=0:=by omega
      subst hm0
      have hn0:news = []:=List.eq_nil_of_length_eq_zero (by simpa using hnl)
      subst hn0
      rw [hop _ hr]
      refine⟨I,L.set i [],?_,k _ _ (by simpa using Own.nil E inf.size)⟩
      exact hst.b2v i
    · cases hv
      rw [hop _ hr]
      have hbh:=hst.mem.loc (b,row (xs++sp) E) (F7 hL (by simp))
      have hfit:n*inf.size+news.length≤(xs++sp).length:=by rw [hnl,h3,←Nat.add_mul];exact Nat.mul_le_mul_right _ hroom
      have hall:∀ u∈news,u.oneCell'=true:=fun u hu=>List.all_eq_true.1 h1 u hu
      have hst2:=run_storeCells_at P b (n*inf.size) E news 0 (xs++sp).toArray w hbh (by simpa using hfit) hall
      simp only [Nat.add_zero] at hst2
      have hseg:List.take (n*inf.size) (xs++sp)++news++List.drop (n*inf.size+news.length) (xs++sp)=(xs++news)++sp.drop news.length:=by
        rw [←h2,List.take_left,List.drop_append]
        simp
      simp only [Addr.add_plain,Nat.zero_add,hst2,Result.andThen_ok]
      refine⟨I,L.set i [(b,row ((xs++news)++sp.drop news.length) E)],?_,k _ _ (.inr ⟨b,c,sp.drop news.length,a8,a8,?_,?_,hroom,h5⟩)⟩
      · rw [hseg];exact hst.setRow hL _
      · rw [List.length_append,h2,hnl,Nat.add_mul]
      · have:(xs++sp).length=n*inf.size+sp.length:=by rw [List.length_append,h2]
        simp only [List.length_append,List.length_drop]
        rw [h3] at this hfit
        omega
  · have hlt:c < n+m:=by omega
    have hold:(Builtin.firstCells inf.size n (.slice a0 n c)).run P w.drew = .ok xs.toArray w.drew:=by
      have:=(Src.own (P:=P) (I:=I) i hL hown).cells w.drew (hmem w.drew rfl) n (Nat.le_refl _)
      rwa [←hxl,List.take_length] at this
    have hr:=hboth.2 hlt _ hold
    rw [hop _ hr]
    have hge:=grownCap_ge w (n+m) c E
    have hcm:grownCap w (n+m) c E≤maxLen:=grownCap_le_maxLen w (n+m) c E hn63
    refine⟨I,_,hst.replace hL a8 a8 a8 a8,k _ _ (.inr ⟨w.heap.size,_,(Builtin.zeroCells zv.cells (grownCap w (n+m) c E - (n+m))).toList,a8,?_,?_,?_,hge,hcm⟩)⟩
    · have hz2:xs.toArray++news.toArray++Builtin.zeroCells zv.cells (grownCap w (n+m) c E - (n+m))=(xs++news++(Builtin.zeroCells zv.cells (grownCap w (n+m) c E - (n+m))).toList).toArray:=by
        apply Array.ext'
        simp
      rw [hz2]
    · rw [List.length_append,hxl,hnl,Nat.add_mul]
    · simp only [List.length_append,Array.length_toList,size_zeroCells,hzs,hxl,hnl,←Nat.add_mul]
      congr 1
      omega
theorem OpS.append (i : Nat) {s by_ n m : Nat} {v u : Value} {xs news : List Value} {X : List (Nat × Obj)} {U : TypeId} (he : Elt P T E s by_) (hs0 : 0 < s) (hU : (∃ E2, P.underlying U = some (.slice E2)) ∨ P.underlying U = some .string)
    (hx:ev ρ x=some v) (hy:ev ρ y=some u) (hL:L[i]?=some X) (hown:Own E s v n xs X) (hsrc:Src P I L s u m news) (h1:a0A news=true)
    (hn63:n+m≤maxLen) (hb:(n+m)*by_≤140737488355328) (k:∀ v' X',Own E s v' (n+m) (xs++news) X'→K v' I (L.set i X')) :
    OpS P C N ⟨d,.call ⟨.builtin .append,#[x,y],#[T,U]⟩,ty,ps,af,g⟩ ρ I L K:=fun a w ha hst=>by
  obtain⟨inf,zv,hi,hz,rfl,rfl,hzs⟩:=he.info
  have hmem:∀ w',w'.heap=w.heap→Mem I L w':=fun w' hw=>⟨by rw [hw];exact hst.mem.im,by rw [hw];exact hst.mem.loc,hst.mem.sep,hst.mem.nodup⟩
  have hcells:∀ w',w'.heap=w.heap→(Builtin.firstCells inf.size m u).run P w' = .ok news.toArray w':=fun w' hw=>by
    have:=hsrc.cells w' (hmem w' hw) m (Nat.le_refl _)
    rwa [←hsrc.size,List.take_length] at this
  have h63:n+m≤9223372036854775807:=by unfold maxLen at hn63;omega
  obtain⟨a0,c,rfl⟩:=hown.shape
  have hboth:(n+m≤c→(Builtin.append_ #[T,U] ty #[.slice a0 n c,u]).run P w=((match a0 with|some ad=>storeCells (ad.add (n*inf.size)) news|none=>pure ()).run P w).andThen fun _ w' => .ok (.slice a0 (n+m) c) w') ∧
    (c < n+m→∀ olds,((Builtin.firstCells inf.size n (.slice a0 n c)).run P w.drew = .ok olds w.drew) →
      (Builtin.append_ #[T,U] ty #[.slice a0 n c,u]).run P w = .ok (.slice (some ⟨w.heap.size,0,none⟩) (n+m) (grownCap w (n+m) c E))
        (w.drew.alloc (.cells (olds++news.toArray++Builtin.zeroCells zv.cells (grownCap w (n+m) c E - (n+m))) E))):=by
    rcases hU with ⟨E2,hU⟩|hU
    · exact a2r he.und hi hz hU hsrc.len hcells h63 hb
    · exact a1O he.und hi hz hU hsrc.len hcells h63 hb
  exact b0F i hzs hx hy ha hst hL hown hsrc.size h1 hn63 hboth k
theorem wpL.forget {C:Ctx} {ops:Array Oper} {Q:Exit→Env→Im→Lh→Prop} {l:List Oper} {X L:Lh} (h:wpL P C N ops Q l ρ I L):wpL P C N ops Q l ρ I (X++L):=fun hd a w ha hs=>h hd a w ha hs.drop
theorem wpS.forget {C:Ctx} {c:Code} {Q:Exit→Env→Im→Lh→Prop} {X L:Lh} (h:wpS P C N c Q ρ I L):wpS P C N c Q ρ I (X++L):=fun a w ha hs=>h a w ha hs.drop
def b6z (tmps:Array Value):ResultVar→Sem Value
 | .tmp t=>pure (tmps.getD t undef)
 | .cell a t=>do loadVar t (←asAddr (tmps.getD a undef))
theorem a1v (fn:Func) (tmps:Array Value):results fn tmps=(do let vs ←fn.results.mapM (b6z tmps);pure (if h:vs.size=1 then vs[0] else .tuple vs)):=by
 unfold results
 congr 1
def a56 (P:Program) (r:ResultVar) (ρ:Env) (I:Im) (L:Lh) (v:Value):Prop :=
 ∀ N a w,Fits N ρ a→Mem I L w→(b6z a.tmps r).run P w = .ok v w
theorem a56.tmp {t:Nat} {v:Value} (h:look ρ t=some v):a56 P (.tmp t) ρ I L v:=fun N a w ha hm=>by simp [b6z,ha.tmp t v h]
theorem a56.b0G (i : Nat) {t b : Nat} {cs : List Value} {e : TypeId} {dd : TypeDesc} (hT : P.underlying T = some dd) (hd : a0E dd = true) (hs : D7 P T cs.length) (h : look ρ t = some (ptr b 0)) (hL : L[i]? = some [(b, row cs e)]) :
    a56 P (.cell t T) ρ I L (.agg cs.toArray):=fun N a w ha hm=>by
  have hr:=a5Z (P:=P) (T:=T) (w:=w) (b:=b) (o:=0) (vs:=cs) hT hd hs (fun j v hv=>by rw [Z5 hm hL];simpa using hv)
  simp only [Instr.loadAt,Instr.sureAddr,Sem.run_bind,Sem.run_pure,Result.andThen_ok] at hr
  have ht:a.tmps.getD t undef=ptr b 0:=by simp [ha.tmp t _ h]
  simp only [b6z,ht,asAddr,Sem.run_bind,Sem.run_pure,Result.andThen_ok,hr]
theorem a56.c2Z (i : Nat) {t b : Nat} {v : Value} {e : TypeId} {dd : TypeDesc} (hT : P.underlying T = some dd) (hd : a0E dd = false) (h : look ρ t = some (ptr b 0)) (hL : L[i]? = some [(b, row [v] e)]) :
    a56 P (.cell t T) ρ I L v:=fun N a w ha hm=>by
  have hr:=run_load (P:=P) (T:=T) (w:=w) (b:=b) (o:=0) (v:=v) hT hd (by rw [Z5 hm hL];rfl)
  simp only [Instr.loadAt,Instr.sureAddr,Sem.run_bind,Sem.run_pure,Result.andThen_ok] at hr
  have ht:a.tmps.getD t undef=ptr b 0:=by simp [ha.tmp t _ h]
  simp only [b6z,ht,asAddr,Sem.run_bind,Sem.run_pure,Result.andThen_ok,hr]
theorem Fin.r0 {fn:Func} (h:fn.results = #[]):Fin P fn ρ I L (.tuple #[]):=fun N a w ha hm=>by simp [a1v,h]
theorem Fin.r1 {fn:Func} {r:ResultVar} {v:Value} (h:fn.results = #[r]) (h1:a56 P r ρ I L v):Fin P fn ρ I L v:=fun N a w ha hm=>by
 simp [a1v,h,h1 N a w ha hm]
theorem Fin.r2 {fn:Func} {r r2:ResultVar} {v v2:Value} (h:fn.results = #[r,r2]) (h1:a56 P r ρ I L v) (h2:a56 P r2 ρ I L v2):Fin P fn ρ I L (.tuple #[v,v2]):=fun N a w ha hm=>by
 simp [a1v,h,h1 N a w ha hm,h2 N a w ha hm]
theorem Fin.r3 {fn:Func} {r r2 r3:ResultVar} {v v2 v3:Value} (h:fn.results = #[r,r2,r3]) (h1:a56 P r ρ I L v) (h2:a56 P r2 ρ I L v2) (h3:a56 P r3 ρ I L v3):Fin P fn ρ I L (.tuple #[v,v2,v3]):=fun N a w ha hm=>by
 simp [a1v,h,h1 N a w ha hm,h2 N a w ha hm,h3 N a w ha hm]
theorem b0H {v u:Value} (h:ev ρ x=some v) (h2:ev ρ y=some u):evL ρ [x,y]=some [v,u]:=by simp [evL,h,h2]
theorem OpX.a0L {f : FuncId} {F : Operand} {args : Array Operand} {tys : Array TypeId} {vs : List Value} {r : Value} (hF : ev ρ F = some (.func (.func f) #[] #[])) (hv : evL ρ args.toList = some vs)
    (h:∀ J,Le I J→(∀ p∈L.flatten,J p.1=some p.2)→Fun P f vs.toArray J (fun v _=>v=r)) (k:K r I []):OpX P N ⟨d,.call ⟨.value F,args,tys⟩,ty,ps,af,g⟩ ρ I L K :=
  .b8V hF hv h (fun v hv=>hv▸k)
end
end Go.Fl
namespace Go.Fl
open Go.RowKit
section
variable {P:Program} {C:Ctx} {N:Nat} {ρ:Env} {I:Im} {L:Lh} {φ:Value→Prop} {K:Value→Im→Lh→Prop} {d:Option Nat} {ty:TypeId} {ps:String} {af:Array Edge} {g:Option (Nat×Bool)}
variable {x y z:Operand} {T T2 E:TypeId}
theorem I1.U1 {n sz : Nat} {ag : Bool} {zs vs : List Value} {parts : Array (Nat × Operand)} {pv : List (Nat × Value)} (hT : K9 P T = some (n, sz, ag)) (hz : W6 P T = some zs) (hzl : zs.length = n * sz)
    (hp:evP ρ parts.toList=some pv) (hside:S5 sz 0 pv=some vs) (hlen:vs.length=n*sz) (k:φ (.agg vs.toArray)) :
    I1 P N ⟨d,.build T parts,ty,ps,af,g⟩ ρ I L φ := .mk k fun a w ha hm=>by
  obtain⟨zv,h1,h2⟩:=a2L hz w
  have hparts:(parts.map fun x=>(x.1,a.eval x.2)).toList=pv:=by rw [Array.toList_map];exact ha.evP hp
  obtain⟨out,ho1,ho2⟩:=a52 (sz:=sz) pv 0 zv.cells vs hside (by rw [h2];simp [hlen,hzl])
  have ho3:out=vs.toArray:=by
    apply Array.ext'
    rw [ho2,h2]
    simp [C9,hlen,hzl]
  unfold K9 at hT
  split at hT
  · rename_i m e hu
    split at hT
    · rename_i inf dd h3 h4
      simp only [Option.some.injEq,Prod.mk.injEq] at hT
      obtain⟨rfl,h5,_⟩:=hT
      have hs:D7 P e sz:=by simp [D7,h3,h5]
      simp only [execOp,Instr.build,Sem.run_bind,h1,Result.andThen_ok,run_underlying hu,hs.run,hparts,ho1,Sem.run_pure,ho3]
    · cases hT
  · cases hT
def D2 (P:Program) (T:TypeId):Option (List (Nat×Nat)) :=
 match P.underlying T with
 | some (.struct fs)=>fs.toList.mapM fun f=>(P.info? f.type).map fun i=>(f.offset,i.size)
 | _=>none
end
end Go.Fl
namespace Go.Fl
open Go.RowKit
section late
variable {P:Program} {C:Ctx} {N n n0:Nat} {l:List Oper} {ss:List (List (Nat×Nat))} {sp:Nat→Option Spec} {ρ0:Env} {I:Im} {L:Lh}
end late
end Go.Fl
namespace Go.Fl
open Go.RowKit
section
variable {P:Program} {C:Ctx} {N:Nat} {ρ:Env} {I:Im} {L:Lh} {φ:Value→Prop} {K:Value→Im→Lh→Prop} {d:Option Nat} {ty:TypeId} {ps:String} {af:Array Edge} {g:Option (Nat×Bool)}
variable {x y z:Operand} {T T2 E:TypeId}
theorem a9s (w:World) (dd:Nat) {a:Option Addr} {n c:Nat} (hT:P.underlying T=some (.slice E)):(Op.equalIn (dd+1) T (.slice a n c) (.slice none 0 0)).run P w = .ok a.isNone w:=by
 cases a<;>simp [Op.equalIn,run_underlying hT]
theorem b2w (w:World) {a:Option Addr} {n c:Nat} (hT:P.underlying T=some (.slice E)):(Op.equal T (.slice a n c) (.slice none 0 0)).run P w = .ok a.isNone w:=a9s w 9999 hT
theorem b0I (w:World) {a:Option Addr} {n c:Nat} (hT:P.underlying T=some (.slice E)):(binOp .eql T (.slice a n c) (.slice none 0 0)).run P w = .ok (.bool a.isNone) w:=by
 simp only [binOp]
 rw [Sem.run_bind,b2w w hT]
 simp
theorem I1.b8Z {a : Option Addr} {n c : Nat} (hT : P.underlying T = some (.slice E)) (hx : ev ρ x = some (.slice a n c)) (hy : ev ρ y = some (.slice none 0 0)) (k : φ (.bool a.isNone)) :
    I1 P N ⟨d,.binOp .eql T x y T2,ty,ps,af,g⟩ ρ I L φ := .mk k fun ac w ha _=>by
  simp [execOp,ha.ev hx,ha.ev hy,eqGuard,b0I w hT]
theorem wpL.pad {ops:Array Oper} {Q:Exit→Env→Im→Lh→Prop} {l:List Oper} (h:wpL P C N ops Q l ρ I ([]::L)):wpL P C N ops Q l ρ I L:=fun hd a w ha hs =>
 h hd a w ha ⟨⟨hs.mem.im,by simpa using hs.mem.loc,by simpa using hs.mem.sep,by simpa using hs.mem.nodup⟩,hs.chg,by simpa using hs.own,hs.W3,hs.new⟩
theorem wpS.pad {c:Code} {Q:Exit→Env→Im→Lh→Prop} (h:wpS P C N c Q ρ I ([]::L)):wpS P C N c Q ρ I L:=fun a w ha hs =>
 h a w ha ⟨⟨hs.mem.im,by simpa using hs.mem.loc,by simpa using hs.mem.sep,by simpa using hs.mem.nodup⟩,hs.chg,by simpa using hs.own,hs.W3,hs.new⟩
def b0J (P:Program) (E:TypeId) (by_:Nat) (zv:Value):Prop:=((P.info? E).bind fun inf=>inf.zero.map fun z=>(inf.size,inf.bytes,z))=some (1,by_,zv)
theorem b0J.of {by_:Nat} {zv:Value} (h:((P.info? E).bind fun inf=>inf.zero.map fun z=>(inf.size,inf.bytes,z))=some (1,by_,zv)):b0J P E by_ zv:=h
theorem b0J.get {by_:Nat} {zv:Value} (h:b0J P E by_ zv):∃ inf,P.info? E=some inf∧inf.zero=some zv∧inf.size=1∧inf.bytes=by_:=by
 unfold b0J at h
 cases hi:P.info? E with
 | none=>simp [hi] at h
 | some inf =>
  cases hz:inf.zero with
  | none=>simp [hi,hz] at h
  | some z =>
   simp [hi,hz] at h
   obtain⟨h1,h2,rfl⟩:=h
   exact⟨inf,a8,hz,h1,h2⟩
end
end Go.Fl
namespace Go.Fl
open Go.RowKit
section
variable {P:Program} {C:Ctx} {N:Nat} {ρ:Env} {I:Im} {L:Lh} {φ:Value→Prop} {K:Value→Im→Lh→Prop} {d:Option Nat} {ty:TypeId} {ps:String} {af:Array Edge} {g:Option (Nat×Bool)}
variable {x y z:Operand} {T T2 E:TypeId}
theorem a3P (w:World) (dd:Nat) {kd kd2:IntKind} {m n:Int} (hT:P.underlying T=some (.int kd2)):(Op.equalIn (dd+1) T (.int kd m) (.int kd n)).run P w = .ok (decide (m=n)) w:=by
 have:(m == n)=decide (m=n):=rfl
 simp [Op.equalIn,run_underlying hT,this]
theorem a5x (w:World) {dd:TypeDesc} (hT:P.underlying E=some dd) (hd:a0E dd=false) {cs:Array Value} {i:Nat} {v:Value} (hv:cs[i]?=some v):(part E cs i).run P w = .ok v w:=by
 simp [part,a1F hT,hd,hv]
theorem a0M (w : World) (dd : Nat) {kd kd2 : IntKind} (hE : P.underlying E = some (.int kd2)) (ags bs : List Int) (hl : ags.length = bs.length) : ∀ is : List Nat, (∀ i ∈ is, i < ags.length) →
    (Op.eqItems (dd+1) E 1 (ags.map (Value.int kd)).toArray (bs.map (Value.int kd)).toArray is).run P w = .ok (is.all fun i=>decide (ags[i]?=bs[i]?)) w
  | [],_=>by simp [Op.eqItems]
  | i::is,h=>by
    have hi:=h i List.mem_cons_self
    have h1:(ags.map (Value.int kd)).toArray[i*1]?=some (.int kd ags[i]):=by simp [hi]
    have h2:(bs.map (Value.int kd)).toArray[i*1]?=some (.int kd (bs[i]'(by omega))):=by simp [show i < bs.length by omega]
    have h3:(ags[i]?=bs[i]?)=(ags[i]=bs[i]'(by omega)):=by
      rw [List.getElem?_eq_getElem hi,List.getElem?_eq_getElem (show i < bs.length by omega)]
      simp
    simp only [Op.eqItems,Sem.run_bind,a5x w hE rfl h1,a5x w hE rfl h2,Result.andThen_ok,a3P w dd hE,List.all_cons,h3]
    by_cases he:ags[i]=bs[i]'(by omega)
    · simp only [he,decide_true,Bool.not_true,Bool.false_eq_true,if_false,Bool.true_and]
      exact a0M w dd hE ags bs hl is fun j hj=>h j (List.mem_cons_of_mem _ hj)
    · simp [he]
theorem a5y {α:Type} [DecidableEq α] (ags bs:List α) (hl:ags.length=bs.length):((List.range ags.length).all fun i=>decide (ags[i]?=bs[i]?))=decide (ags=bs):=by
 by_cases h:ags=bs
 ·subst h;simp
 ·rw [decide_eq_false h]
  rw [List.all_eq_false]
  refine Classical.byContradiction fun hno=>h (List.ext_getElem? fun i => ?_)
  rcases Nat.lt_or_ge i ags.length with hi|hi
  ·refine Classical.byContradiction fun hne=>hno ⟨i,List.mem_range.2 hi,by simpa using hne⟩
  ·rw [List.getElem?_eq_none hi,List.getElem?_eq_none (by omega)]
theorem b2x (w : World) {kd kd2 : IntKind} {n : Nat} (hT : P.underlying T = some (.array n E)) (hs : D7 P E 1) (hE : P.underlying E = some (.int kd2)) (ags bs : List Int) (ha : ags.length = n) (hb : bs.length = n) :
    (Op.equal T (.agg (ags.map (Value.int kd)).toArray) (.agg (bs.map (Value.int kd)).toArray)).run P w = .ok (decide (ags=bs)) w:=by
  unfold D7 at hs
  cases hi:P.info? E with
  | none=>simp [hi] at hs
  | some inf =>
    have hc:P.cellsOf E=1:=by simp [hi] at hs;simp [Program.cellsOf,hi,hs]
    have h1:=run_equalIn_array (P:=P) w 9999 (ags.map (Value.int kd)).toArray (bs.map (Value.int kd)).toArray hT hi
    rw [hc,←ha,a0M w 9998 hE ags bs (by omega) _ (fun i hi=>List.mem_range.1 hi),a5y ags bs (by omega)] at h1
    exact h1
theorem b2y (w:World) {xs ys:Array Value} {b:Bool} (h:(Op.equal T (.agg xs) (.agg ys)).run P w = .ok b w):(binOp .eql T (.agg xs) (.agg ys)).run P w = .ok (.bool b) w:=by
 simp only [binOp]
 rw [Sem.run_bind,h]
 simp
theorem a57 (w:World) {op:BinOp} {xs ys:Array Value} (hg:P.eqGuardType P.depth T=false):(eqGuard op T x y (.agg xs) (.agg ys)).run P w = .ok () w:=run_eqGuard_agg w op T x y xs ys hg
theorem a6F {α:Type} (f:α→Int) (hf:∀ a b,f a=f b→a=b) (ags bs:List α):(ags.map f=bs.map f)↔ags=bs:=⟨fun h=>List.map_inj_right (fun a b=>hf a b) |>.1 h,fun h=>h▸rfl⟩
theorem I1.c4b {n : Nat} {ags bs : List UInt8} (hT : P.underlying T = some (.array n E)) (hs : D7 P E 1) (hE : P.underlying E = some (.int .u8)) (hg : P.eqGuardType P.depth T = false) (ha' : ags.length = n) (hb' : bs.length = n)
    (hx:ev ρ x=some (.agg (C5 ags).toArray)) (hy:ev ρ y=some (.agg (C5 bs).toArray)) (k:φ (.bool (decide (ags=bs)))):I1 P N ⟨d,.binOp .eql T x y T2,ty,ps,af,g⟩ ρ I L φ := .mk k fun a w ha _=>by
  have e1:∀ l:List UInt8,C5 l=(l.map fun c=>(c.toNat:Int)).map (Value.int .u8):=fun l=>by simp [C5,u8]
  have h:=b2x (P:=P) (T:=T) (kd := .u8) w hT hs hE (ags.map fun c=>(c.toNat:Int)) (bs.map fun c=>(c.toNat:Int)) (by simpa using ha') (by simpa using hb')
  rw [←e1,←e1] at h
  have hd:decide ((ags.map fun c=>(c.toNat:Int))=(bs.map fun c=>(c.toNat:Int)))=decide (ags=bs):=by
    rw [decide_eq_decide]
    exact a6F _ (fun a b h=>UInt8.toNat_inj.1 (Int.ofNat_inj.1 h)) ags bs
  rw [hd] at h
  simp only [execOp,ha.ev hx,ha.ev hy,Sem.run_bind,a57 w hg,b2y w h,Result.andThen_ok,Sem.run_pure]
theorem OpX.frz {o:Oper} (h:OpX P N o ρ I L (fun v J X=>∀ J',Le J J'→(∀ p∈X.flatten,J' p.1=some p.2)→K v J' [])):OpX P N o ρ I L K:=fun a w ha hm =>
 (h a w ha hm).mono fun v w' ⟨J,X,hc,hle,hn,hm',hX,hk⟩=>by
  have hnd:(X.flatten.map Prod.fst).Nodup:=by
   have hsub:X.flatten.Sublist (X++L).flatten:=by simp
   exact(hsub.map Prod.fst).nodup hm'.nodup
  have hsepX:∀ p∈X.flatten,J p.1=none:=fun p hp=>hm'.sep p (by simp [hp])
  have hdis:∀ p∈L.flatten,∀ q∈X.flatten,p.1≠q.1:=fun p hp q hq e=>by
   have:=hm'.nodup
   simp only [List.flatten_append,List.map_append,List.nodup_append] at this
   exact this.2.2 q.1 (List.mem_map_of_mem hq) p.1 (List.mem_map_of_mem hp) e.symm
  refine⟨J.with X.flatten,[],hc,hle.trans (Im.a0Z hsepX),fun b h0 h1 => ?_,⟨fun b o hb => ?_,fun p hp=>hm'.loc p (by simp at hp ⊢;exact .inr hp),fun p hp => ?_,?_⟩,by simp,hk _ (Im.a0Z hsepX) (fun p hp=>Im.a1b hnd hp)⟩
  ·cases hj:J b with
   | some o=>exact hn b h0 (by simp [hj])
   | none =>
    obtain⟨o,ho⟩:=Option.ne_none_iff_exists'.1 h1
    rcases Im.W5 ho with h2|h2
    ·exact hX _ h2
    ·rw [hj] at h2;cases h2
  ·rcases Im.W5 hb with h2|h2
   ·exact hm'.loc (b,o) (by simp [h2])
   ·exact hm'.im b o h2
  ·have hp':p∈L.flatten:=by simpa using hp
   cases hj:(J.with X.flatten) p.1 with
   | none=>rfl
   | some o =>
    rcases Im.W5 hj with h2|h2
    ·exact absurd rfl (hdis p hp' (p.1,o) h2)
    ·rw [hm'.sep p (by simp at hp' ⊢;exact .inr hp')] at h2;cases h2
  ·have hsub:L.flatten.Sublist (X++L).flatten:=by simp
   simpa using (hsub.map Prod.fst).nodup hm'.nodup
end
end Go.Fl
namespace Go.Proofs.YtalibdhdngbbcaaGreatDoor
open Go.Proofs.Tryz
open Go.Fl
theorem sz5:D7 prog 5 1 := .of (by kernel_rfl)
theorem c4d:b0J prog 5 1 (u8 0) := .of (by kernel_rfl)
theorem z5:W6 prog 5=some ([u8 0]):=by kernel_rfl
theorem c1x:D7 prog 24 32 := .of (by kernel_rfl)
theorem b5f:prog.eqGuardType prog.depth 24=false:=by kernel_rfl
theorem V2:K9 prog 24=some (32,1,false):=by kernel_rfl
theorem z24:W6 prog 24=some (List.replicate 32 (u8 0)):=by kernel_rfl
theorem c1y:p4 prog 28 0=some (0,1,false):=by kernel_rfl
theorem c1z:p4 prog 28 1=some (1,32,true):=by kernel_rfl
theorem b2z:p4 prog 28 2=some (33,1,false):=by kernel_rfl
theorem a4Y:p4 prog 28 3=some (34,1,false):=by kernel_rfl
theorem a4Z:p4 prog 28 4=some (35,1,false):=by kernel_rfl
theorem a0B:D2 prog 28=some [(0,1),(1,32),(33,1),(34,1),(35,1)]:=by kernel_rfl
theorem b2A:p4 prog 31 0=some (0,1,false):=by kernel_rfl
theorem c20:D2 prog 31=some [(0,1),(1,1)]:=by kernel_rfl
theorem b6A:p4 prog 34 0=some (0,1,false):=by kernel_rfl
theorem b6B:p4 prog 34 1=some (1,32,true):=by kernel_rfl
theorem c1A:p4 prog 34 2=some (33,1,false):=by kernel_rfl
theorem c4e:D2 prog 34=some [(0,1),(1,32),(33,1)]:=by kernel_rfl
theorem c1B:p4 prog 37 0=some (0,1,false):=by kernel_rfl
theorem c1C:p4 prog 37 1=some (1,1,false):=by kernel_rfl
theorem a9t:p4 prog 37 2=some (2,1,false):=by kernel_rfl
theorem a6a:p4 prog 37 3=some (3,32,true):=by kernel_rfl
theorem a9u:D2 prog 37=some [(0,1),(1,1),(2,1),(3,32)]:=by kernel_rfl
theorem b2B:p4 prog 40 0=some (0,1,false):=by kernel_rfl
theorem b6C:p4 prog 40 1=some (1,1,false):=by kernel_rfl
theorem c21:D2 prog 40=some [(0,1),(1,1)]:=by kernel_rfl
theorem P0:p4 prog 42 0=some (0,36,true):=by kernel_rfl
theorem b6D:p4 prog 42 1=some (36,2,true):=by kernel_rfl
theorem b2C:p4 prog 42 2=some (38,34,true):=by kernel_rfl
theorem a3Q:p4 prog 42 3=some (72,35,true):=by kernel_rfl
theorem b2D:p4 prog 42 4=some (107,1,false):=by kernel_rfl
theorem b6E:p4 prog 42 5=some (108,2,true):=by kernel_rfl
theorem b2E:p4 prog 42 6=some (110,1,false):=by kernel_rfl
theorem b6F:p4 prog 42 7=some (111,1,false):=by kernel_rfl
theorem c1D:p4 prog 45 0=some (0,2,true):=by kernel_rfl
theorem c1E:p4 prog 45 1=some (2,1,false):=by kernel_rfl
theorem b6G:p4 prog 45 2=some (3,1,false):=by kernel_rfl
theorem a6b:p4 prog 45 3=some (4,1,false):=by kernel_rfl
theorem a9v:p4 prog 45 4=some (5,32,true):=by kernel_rfl
theorem a6c:p4 prog 45 5=some (37,1,false):=by kernel_rfl
theorem c4f:D2 prog 45=some [(0,2),(2,1),(3,1),(4,1),(5,32),(37,1)]:=by kernel_rfl
theorem c1F:p4 prog 51 0=some (0,1,false):=by kernel_rfl
theorem c1G:p4 prog 51 1=some (1,1,false):=by kernel_rfl
theorem c1H:p4 prog 51 2=some (2,1,false):=by kernel_rfl
theorem b6H:p4 prog 51 3=some (3,1,false):=by kernel_rfl
theorem c22:D2 prog 51=some [(0,1),(1,1),(2,1),(3,1)]:=by kernel_rfl
theorem c1I:p4 prog 57 0=some (0,1,false):=by kernel_rfl
theorem b6I:p4 prog 57 1=some (1,1,false):=by kernel_rfl
theorem b6J:p4 prog 57 2=some (2,1,false):=by kernel_rfl
theorem a7w:p4 prog 57 3=some (3,1,false):=by kernel_rfl
theorem a3R:p4 prog 57 4=some (4,1,false):=by kernel_rfl
theorem a3e:p4 prog 57 5=some (5,1,false):=by kernel_rfl
theorem a3S:p4 prog 57 6=some (6,1,false):=by kernel_rfl
theorem b2F:p4 prog 57 7=some (7,1,false):=by kernel_rfl
theorem b6K:D2 prog 57=some [(0,1),(1,1),(2,1),(3,1),(4,1),(5,1),(6,1),(7,1)]:=by kernel_rfl
theorem a1P:Elt prog 64 5 1 1 := .of (by kernel_rfl)
theorem a9w:p4 prog 66 0=some (0,1,false):=by kernel_rfl
theorem a9x:p4 prog 66 1=some (1,1,false):=by kernel_rfl
theorem c1J:p4 prog 66 2=some (2,32,true):=by kernel_rfl
theorem b9a:D2 prog 66=some [(0,1),(1,1),(2,32)]:=by kernel_rfl
theorem b6L:p4 prog 73 0=some (0,1,false):=by kernel_rfl
theorem a9y:p4 prog 73 1=some (1,1,false):=by kernel_rfl
theorem c4g:D2 prog 73=some [(0,1),(1,1)]:=by kernel_rfl
theorem a7x:p4 prog 79 0=some (0,1,false):=by kernel_rfl
theorem Z6:p4 prog 79 1=some (1,1,false):=by kernel_rfl
theorem K1:p4 prog 79 2=some (2,1,false):=by kernel_rfl
theorem K2:p4 prog 79 3=some (3,1,false):=by kernel_rfl
theorem a9z:p4 prog 79 4=some (4,1,false):=by kernel_rfl
theorem a7y:p4 prog 79 5=some (5,1,false):=by kernel_rfl
theorem a5z:D2 prog 79=some [(0,1),(1,1),(2,1),(3,1),(4,1),(5,1)]:=by kernel_rfl
theorem c1K:p4 prog 84 0=some (0,1,false):=by kernel_rfl
theorem c1L:p4 prog 84 1=some (1,6,true):=by kernel_rfl
theorem b6M:p4 prog 84 2=some (7,1,false):=by kernel_rfl
theorem b6N:p4 prog 84 3=some (8,1,false):=by kernel_rfl
theorem b6O:p4 prog 84 4=some (9,1,false):=by kernel_rfl
theorem c23:D2 prog 84=some [(0,1),(1,6),(7,1),(8,1),(9,1)]:=by kernel_rfl
theorem a42:p4 prog 89 0=some (0,1,false):=by kernel_rfl
theorem a2s:p4 prog 89 1=some (1,1,false):=by kernel_rfl
theorem b5g:D2 prog 89=some [(0,1),(1,1)]:=by kernel_rfl
theorem b6P:p4 prog 98 0=some (0,1,false):=by kernel_rfl
theorem b6Q:p4 prog 98 1=some (1,32,true):=by kernel_rfl
theorem c1M:D2 prog 98=some [(0,1),(1,32)]:=by kernel_rfl
theorem b9b:p4 prog 103 0=some (0,1,false):=by kernel_rfl
theorem b9c:p4 prog 103 1=some (1,32,true):=by kernel_rfl
theorem c0W:D2 prog 103=some [(0,1),(1,32)]:=by kernel_rfl
theorem b9d:p4 prog 111 0=some (0,1,false):=by kernel_rfl
theorem a7f:p4 prog 111 1=some (1,1,false):=by kernel_rfl
theorem b6R:D2 prog 111=some [(0,1),(1,1)]:=by kernel_rfl
theorem b9e:p4 prog 116 0=some (0,1,false):=by kernel_rfl
theorem b9f:p4 prog 116 1=some (1,32,true):=by kernel_rfl
theorem a9A:p4 prog 116 2=some (33,1,false):=by kernel_rfl
theorem b3W:D2 prog 116=some [(0,1),(1,32),(33,1)]:=by kernel_rfl
theorem b3X:p4 prog 120 0=some (0,1,false):=by kernel_rfl
theorem b3Y:p4 prog 120 1=some (1,1,false):=by kernel_rfl
theorem c24:D2 prog 120=some [(0,1),(1,1)]:=by kernel_rfl
theorem b3Z:p4 prog 123 0=some (0,1,false):=by kernel_rfl
theorem a5A:p4 prog 123 1=some (1,1,false):=by kernel_rfl
theorem a9B:p4 prog 123 2=some (2,32,true):=by kernel_rfl
theorem a8z:D2 prog 123=some [(0,1),(1,1),(2,32)]:=by kernel_rfl
theorem b6S:K9 prog 130=some (8,1,false):=by kernel_rfl
theorem b9g:p4 prog 183 0=some (0,1,false):=by kernel_rfl
theorem b9h:p4 prog 183 1=some (1,1,false):=by kernel_rfl
theorem b9i:p4 prog 183 2=some (2,1,false):=by kernel_rfl
theorem b9j:p4 prog 183 3=some (3,1,false):=by kernel_rfl
theorem c0X:K9 prog 184=some (8,1,false):=by kernel_rfl
theorem b4a:p4 prog 192 0=some (0,32,true):=by kernel_rfl
theorem b4b:p4 prog 192 1=some (32,1,false):=by kernel_rfl
theorem b9k:p4 prog 192 2=some (33,32,true):=by kernel_rfl
theorem c0Y:D2 prog 192=some [(0,32),(32,1),(33,32)]:=by kernel_rfl
theorem b4c:p4 prog 209 0=some (0,32,true):=by kernel_rfl
theorem b9l:p4 prog 209 1=some (32,1,false):=by kernel_rfl
theorem b9m:p4 prog 209 2=some (33,1,false):=by kernel_rfl
theorem b4d:p4 prog 209 3=some (34,1,false):=by kernel_rfl
theorem c0Z:D2 prog 209=some [(0,32),(32,1),(33,1),(34,1)]:=by kernel_rfl
theorem a9C:p4 prog 213 0=some (0,1,false):=by kernel_rfl
theorem a3f:p4 prog 213 1=some (1,1,false):=by kernel_rfl
theorem a4r:p4 prog 213 2=some (2,1,false):=by kernel_rfl
theorem c26:D2 prog 213=some [(0,1),(1,1),(2,1)]:=by kernel_rfl
theorem c00:K9 prog 223=some (2,1,false):=by kernel_rfl
theorem b6T:D7 prog 238 1 := .of (by kernel_rfl)
theorem a3T:D7 prog 241 8 := .of (by kernel_rfl)
theorem a0a:K9 prog 241=some (8,1,false):=by kernel_rfl
theorem b5h:W6 prog 241=some (List.replicate 8 (u32 0)):=by kernel_rfl
theorem b6U:D7 prog 260 64 := .of (by kernel_rfl)
theorem a5B:K9 prog 260=some (64,1,false):=by kernel_rfl
theorem b9n:W6 prog 260=some (List.replicate 64 (u32 0)):=by kernel_rfl
end Go.Proofs.YtalibdhdngbbcaaGreatDoor
namespace Go.Sha
open Go.Fl
def a7z (x:UInt32) (n:Nat):UInt32:=x >>> UInt32.ofNat n ||| x <<< UInt32.ofNat (32 - n)
def s0 (x:UInt32):UInt32:=a7z x 7 ^^^ a7z x 18 ^^^ x >>> UInt32.ofNat 3
def s1 (x:UInt32):UInt32:=a7z x 17 ^^^ a7z x 19 ^^^ x >>> UInt32.ofNat 10
def beW (l:List UInt8) (t:Nat):UInt32 :=
 (l.getD (4*t) 0).toUInt32 <<< UInt32.ofNat 24 ||| (l.getD (4*t+1) 0).toUInt32 <<< UInt32.ofNat 16 ||| (l.getD (4*t+2) 0).toUInt32 <<< UInt32.ofNat 8 ||| (l.getD (4*t+3) 0).toUInt32
def next (l:List UInt8) (w:List UInt32) (t:Nat):UInt32 :=
 if t < 16 then beW l t else s1 (w.getD (t - 2) 0)+w.getD (t - 7) 0+s0 (w.getD (t - 15) 0)+w.getD (t - 16) 0
def wl (l:List UInt8):Nat→List UInt32
 | 0 => []
 | t+1=>wl l t ++ [next l (wl l t) t]
theorem a2M (l:List UInt8):∀ t,(wl l t).length=t
 | 0=>rfl
 | t+1=>by simp [wl,a2M l t]
def a0N (l:List UInt8) (t:Nat):List Value:=(wl l t++List.replicate (64 - t) 0).map u32
theorem a2t (l:List UInt8) (t:Nat) (h:t≤64):(a0N l t).length=64:=by simp [a0N,a2M];omega
theorem b0K (l:List UInt8):a0N l 0=List.replicate 64 (u32 0):=by simp [a0N,wl]
theorem b2G (l:List UInt8):a0N l 64=(wl l 64).map u32:=by simp [a0N]
theorem a3g (l:List UInt8) (t i j:Nat) (hj:j=i) (h:i < t):(a0N l t)[j]?=some (u32 ((wl l t).getD i 0)):=by
 subst hj
 have hl:=a2M l t
 simp only [a0N,List.map_append]
 rw [List.getElem?_append_left (by simp;omega),List.getElem?_map]
 simp [List.getD,List.getElem?_eq_getElem (show j < (wl l t).length by omega)]
theorem a7A (l:List UInt8) (t j:Nat) (hj:j=t) (h:t < 64):C9 (a0N l t) j [u32 (next l (wl l t) t)]=a0N l (t+1):=by
 subst hj
 have hl:=a2M l j
 rw [b2u _ _ _ (by rw [a2t l j (by omega)];exact h)]
 simp only [a0N,wl,List.map_append]
 rw [List.set_append_right _ _ (by simp;omega)]
 have:64 - j=(64 - (j+1))+1:=by omega
 rw [this,List.replicate_succ]
 simp [hl]
theorem b9o (l:List UInt8) (i j:Nat) (hj:j=i) (h:i < l.length):(C5 l)[j]?=some (u8 (l.getD i 0)):=by
 subst hj
 simp [C5,List.getD,h]
structure H8 where
 (a b c d e f g h:UInt32)
def H8.l (x:H8):List UInt32 := [x.a,x.b,x.c,x.d,x.e,x.f,x.g,x.h]
def H8.cells (x:H8):List Value := [u32 x.a,u32 x.b,u32 x.c,u32 x.d,u32 x.e,u32 x.f,u32 x.g,u32 x.h]
def H8.v (x:H8):Value := .agg x.cells.toArray
def H8.at (x:H8) (i:Nat):UInt32:=x.l.getD i 0
def kk:List UInt32 := [0x428a2f98,0x71374491,0xb5c0fbcf,0xe9b5dba5,0x3956c25b,0x59f111f1,0x923f82a4,0xab1c5ed5,0xd807aa98,0x12835b01,0x243185be,0x550c7dc3,0x72be5d74,0x80deb1fe,0x9bdc06a7,0xc19bf174,0xe49b69c1,0xefbe4786,0x0fc19dc6,0x240ca1cc,0x2de92c6f,0x4a7484aa,0x5cb0a9dc,0x76f988da,0x983e5152,0xa831c66d,0xb00327c8,0xbf597fc7,0xc6e00bf3,0xd5a79147,0x06ca6351,0x14292967,0x27b70a85,0x2e1b2138,0x4d2c6dfc,0x53380d13,0x650a7354,0x766a0abb,0x81c2c92e,0x92722c85,0xa2bfe8a1,0xa81a664b,0xc24b8b70,0xc76c51a3,0xd192e819,0xd6990624,0xf40e3585,0x106aa070,0x19a4c116,0x1e376c08,0x2748774c,0x34b0bcb5,0x391c0cb3,0x4ed8aa4a,0x5b9cca4f,0x682e6ff3,0x748f82ee,0x78a5636f,0x84c87814,0x8cc70208,0x90befffa,0xa4506ceb,0xbef9a3f7,0xc67178f2]
def c27 (x:H8) (k w:UInt32):UInt32:=x.h+((a7z x.e 6 ^^^ a7z x.e 11) ^^^ a7z x.e 25)+((x.e &&& x.f) ^^^ (~~~x.e &&& x.g))+k+w
def c4h (x:H8):UInt32:=((a7z x.a 2 ^^^ a7z x.a 13) ^^^ a7z x.a 22)+(((x.a &&& x.b) ^^^ (x.a &&& x.c)) ^^^ (x.b &&& x.c))
def rnd (x:H8) (k w:UInt32):H8:=⟨c27 x k w+c4h x,x.a,x.b,x.c,x.d+c27 x k w,x.e,x.f,x.g⟩
def rounds (ws:List UInt32) (x:H8):Nat→H8
 | 0=>x
 | t+1=>rnd (rounds ws x t) (kk.getD t 0) (ws.getD t 0)
def H8.add (x y:H8):H8:=⟨x.a+y.a,x.b+y.b,x.c+y.c,x.d+y.d,x.e+y.e,x.f+y.f,x.g+y.g,x.h+y.h⟩
def compress (x:H8) (l:List UInt8):H8:=(rounds (wl l 64) x 64).add x
def H8.mix (v o:H8) (i:Nat):List Value:=((v.add o).l.take i++v.l.drop i).map u32
theorem b9p (v o:H8) (i j:Nat) (hj:j=i) (h:i < 8):(v.mix o i)[j]?=some (u32 (v.at i)):=by
 subst hj
 match j,h with
 | 0,_|1,_|2,_|3,_|4,_|5,_|6,_|7,_=>rfl
theorem a8A (o:H8) (i j:Nat) (hj:j=i) (h:i < 8):o.cells[j]?=some (u32 (o.at i)):=by
 subst hj
 match j,h with
 | 0,_|1,_|2,_|3,_|4,_|5,_|6,_|7,_=>rfl
theorem b9q (v o:H8) (i j:Nat) (hj:j=i) (h:i < 8):C9 (v.mix o i) j [u32 (v.at i+o.at i)]=v.mix o (i+1):=by
 subst hj
 match j,h with
 | 0,_|1,_|2,_|3,_|4,_|5,_|6,_|7,_=>rfl
theorem b2H (v o:H8) (i:Nat) (h:i≤8):(v.mix o i).length=8:=by
 simp [H8.mix,H8.l];omega
theorem c01 (l:List UInt32) (i j:Nat) (hj:j=i) (h:i < l.length):(l.map u32)[j]?=some (u32 (l.getD i 0)):=by
 subst hj
 simp [List.getD,h]
def iv:H8:=⟨0x6a09e667,0xbb67ae85,0x3c6ef372,0xa54ff53a,0x510e527f,0x9b05688c,0x1f83d9ab,0x5be0cd19⟩
def feed (x:H8) (l:List UInt8):Nat→H8
 | 0=>x
 | k+1=>compress (feed x l k) ((l.drop (64*k)).take 64)
def a3h (x:H8) (l:List UInt8):H8:=feed x l (l.length/64)
def rest (l:List UInt8):List UInt8:=l.drop (64*(l.length/64))
def S0 (n:UInt64) (k:Nat):List UInt8:=(List.range k).map fun j=>(n >>> UInt64.ofNat (56 - 8*j)).toUInt8
def a2f (w:UInt32):List UInt8 := [(w >>> UInt32.ofNat 24).toUInt8,(w >>> UInt32.ofNat 16).toUInt8,(w >>> UInt32.ofNat 8).toUInt8,w.toUInt8]
def a6d (m:Nat):Nat:=(119 - m % 64) % 64
def pad (m:Nat) (n:UInt64):List UInt8:=(128::List.replicate (a6d m) 0)++S0 n 8
def a43 (x:H8) (r:List UInt8) (len:Nat):List UInt8:=(a3h x (r++pad r.length (UInt64.ofInt (len:Int)*8))).l.flatMap a2f
def a6e (l:List UInt8):List UInt8:=a43 (a3h iv l) (rest l) l.length
theorem a2h:∀ l:List UInt32,(l.flatMap a2f).length=4*l.length
 | []=>rfl
 | x::r=>by simp [a2h r,a2f];omega
theorem H8.length (y:H8):y.l.length=8:=rfl
theorem a4F (l:List UInt8):(C5 l).length=l.length:=by simp [C5]
theorem c1N (y:H8) (k:Nat) (h:k < 8):y.l[k]?=some (y.at k):=by
 have:k < y.l.length:=h
 simp [H8.at,List.getD,this]
theorem b0L (A R:List Value) (z a:Value) (o:Nat) (h:o=A.length):C9 (A++z::R) o [a]=(A ++ [a])++R:=by
 subst h
 simp [C9]
theorem E4 (n:UInt64) (k:Nat):(S0 n k).length=k:=by simp [S0]
theorem a2N (n:UInt64) (k:Nat):S0 n (k+1)=S0 n k ++ [(n >>> UInt64.ofNat (56 - 8*k)).toUInt8]:=by simp [S0,List.range_succ]
theorem b2I (m:Nat) (n:UInt64):(pad m n).length=a6d m+9:=by simp [pad,E4]
theorem b9r (m:Nat):a6d m < 64:=by unfold a6d;omega
def a9E (l:List UInt8):List UInt8:=l++pad l.length (UInt64.ofInt (l.length:Int)*8)
def b2J (l:List UInt8):List UInt8:=(feed iv (a9E l) ((a9E l).length/64)).l.flatMap a2f
def a68 (D:List UInt8) (i:Nat):List Value:=C5 (D.take i++List.replicate (32 - i) 0)
theorem b0M:∀ (l:List UInt32) (q r:Nat),r < 4→(l.flatMap a2f)[4*q+r]?=(l[q]?).bind fun w=>(a2f w)[r]?
 | [],q,r,_=>by simp
 | w::t,0,r,h=>by
  rw [List.flatMap_cons,List.getElem?_append_left (by simp [a2f];omega)]
  simp
 | w::t,q+1,r,h=>by
  have:=b0M t q r h
  rw [List.flatMap_cons,List.getElem?_append_right (by simp [a2f];omega)]
  have e:4*(q+1)+r - (a2f w).length=4*q+r:=by simp [a2f];omega
  rw [e,this]
  simp
theorem b6V (w:UInt32) (r:Nat) (h:r < 4):(a2f w)[r]?=some ((w >>> UInt32.ofNat (24 - 8*r)).toUInt8):=by
 match r,h with
 | 0,_=>rfl
 | 1,_=>rfl
 | 2,_=>rfl
 | 3,_=>simp [a2f]
theorem b9s (y:H8) (i:Nat) (h:i < 32):(y.l.flatMap a2f)[i]?=some ((y.at (i/4) >>> UInt32.ofNat (24 - 8*(i % 4))).toUInt8):=by
 have h1:=b0M y.l (i/4) (i % 4) (by omega)
 rw [Nat.div_add_mod] at h1
 rw [h1,c1N y _ (by omega)]
 exact b6V _ _ (by omega)
theorem a6G (D:List UInt8) (i:Nat) (hD:D.length=32) (h:i≤32):(a68 D i).length=32:=by
 rw [a68,a4F,List.length_append,List.length_take,List.length_replicate,hD];omega
theorem b6W (D:List UInt8) (i o:Nat) (c:UInt8) (ho:o=i) (h:i < 32) (hD:D.length=32) (hc:D[i]?=some c):C9 (a68 D i) o [u8 c]=a68 D (i+1):=by
 subst ho
 have e:32 - o=(32 - (o+1))+1:=by omega
 have e1:a68 D o=C5 (D.take o)++u8 0::C5 (List.replicate (32 - (o+1)) 0):=by rw [a68,e,List.replicate_succ];simp [C5]
 rw [e1,b0L _ _ _ _ _ (by rw [a4F,List.length_take,hD];omega)]
 simp [a68,C5,List.take_add_one,hc]
theorem a9F (k:Nat) (h:k < 8):((UInt64.ofInt (56 - 8*(k:Int))).toNat:Int)=((56 - 8*k:Nat):Int):=by
 have:∀ k:Fin 8,((UInt64.ofInt (56 - 8*(k.val:Int))).toNat:Int)=((56 - 8*k.val:Nat):Int):=by decide +kernel
 exact this ⟨k,h⟩
theorem c28 (i:Nat):((UInt64.ofInt (24 - 8*((i:Int) % 4))).toNat:Int)=((24 - 8*(i % 4):Nat):Int):=by
 have h:∀ r:Fin 4,((UInt64.ofInt (24 - 8*(r.val:Int))).toNat:Int)=((24 - 8*r.val:Nat):Int):=by decide +kernel
 have:=h ⟨i % 4,by omega⟩
 simpa using this
end Go.Sha
namespace Go.Proofs.YtalibdhdngbbcaaGreatDoor
open Go.Proofs.Tryz
open Go.Fl Go.Sha
theorem c02 (n:Nat) (h1:n < 33):(UInt64.ofNat n).toNat=n:=by simp;omega
open Go.Fl
theorem c1O (n:Nat) (h1:n < 32):(32:UInt64) - UInt64.ofNat n=UInt64.ofNat (32 - n):=by
 have:∀ n:Fin 32,(32:UInt64) - UInt64.ofNat n.val=UInt64.ofNat (32 - n.val):=by decide +kernel
 exact this ⟨n,h1⟩
theorem O8 (I : Im) (x : UInt32) (n : Nat) (h0 : 0 < n) (h1 : n < 32) :
    Fun prog 193 #[u32 x,u64 (UInt64.ofNat n)] I (fun v J=>v=u32 (a7z x n)):=by
  refine Fun.intro (l := [u32 x,u64 (UInt64.ofNat n)]) func193 rfl (by kernel_rfl) 13 rfl rfl [(0,u32 x),(1,u64 (UInt64.ofNat n))] rfl fun C hC=>(.seq (.region rfl (.v (.assign rfl (.nil (.seq (.region rfl (.v (.move rfl (.v (.move rfl (.v (.b3S n rfl rfl (by rw [c02 n (by omega)]) h1 (.v (.move rfl (.v (.move rfl (.v (.b3U (m:=32) rfl rfl ?_)))))))))))))))))))
  rw [c1O n h1]
  refine .v (.b3R (32 - n) a8 a8 (by rw [c02 _ (by omega)]) (by omega) (.v (.b8Y a8 a8 (.v (.assign a8 ?_)))))
  exact .nil (.ret ⟨_,.r1 a8 (.tmp a8),a8⟩)
set_option maxRecDepth 10000 in
theorem a8j (I:Im):Fun prog 194 #[] I (fun v J=>v = .agg (kk.map u32).toArray):=by
 refine Fun.intro (l := []) func194 rfl (by kernel_rfl) 2 rfl rfl [] rfl fun C hC=>(.seq (.region rfl (.x (.alloc b9n fun b => .nil (.seq (.region rfl (.v (.U1 (vs:=kk.map u32) a5B b9n rfl rfl rfl rfl ?_))))))))
 exact .n (.a3d 0 64 b6U a8 a8 a8 (a3O _ _ fun _=>a8) a8 a8 (.nil (.ret ⟨_,.r1 a8 (.b0G (cs:=kk.map u32) 0 underlying260 a8 b6U a8 a8),a8⟩)))
theorem b0N (I:Im):Fun prog 178 #[] I (fun v J=>v=iv.v):=by
 refine Fun.intro (l := []) func178 rfl (by kernel_rfl) 2 rfl rfl [] rfl fun C hC=>(.seq (.region rfl (.x (.alloc b5h fun b => .nil (.seq (.region rfl (.v (.U1 (vs:=iv.cells) a0a b5h rfl rfl rfl rfl ?_))))))))
 exact .n (.a3d 0 8 a3T a8 a8 a8 a8 a8 a8 (.nil (.ret ⟨_,.r1 a8 (.b0G (cs:=iv.cells) 0 underlying241 a8 a3T a8 a8),a8⟩)))
theorem H8.add_comm (x y:H8):x.add y=y.add x:=by simp [H8.add,UInt32.add_comm]
theorem b5i (I : Im) (x : H8) (l : List UInt8) (hl : l.length = 64) (s : Value) (hs : Sl I 1 s 64 (C5 l)) :
    Fun prog 179 #[x.v,s] I (fun v J=>v=(compress x l).v):=by
  obtain⟨bb,oo,cc,rfl,hc,h1,h2⟩:=hs.open (by intro e;have:=congrArg List.length e;simp [C5,hl] at this)
  refine Fun.intro (l := [x.v,slc bb oo 64 cc]) func179 rfl (by kernel_rfl) 202 rfl rfl [(0,x.v),(1,slc bb oo 64 cc)] rfl fun C hC=>(.seq (.region rfl (.x (.box (cs:=x.cells) rfl rfl fun b2 => .x (.alloc b5h fun b4 => .nil (.seq (.region rfl (.x (.alloc b9n fun b5 => .nil (.seq (.seq (.region rfl (.v (.assign rfl ?_))))))))))))))
  refine .nil (.block (.loop (α:=Nat) (fun k => [(6,i64 k),(1,slc bb oo 64 cc),(2,ptr b2 0),(4,ptr b4 0),(5,ptr b5 0)])
    (fun k => [[(b5,row (a0N l k) 260)],[(b4,row (List.replicate 8 (u32 0)) 241)],[(b2,row x.cells 241)]]) (fun k _=>k≤16) (fun k=>16 - k) 0 (by omega)
    (.cons rfl (.cons rfl (.cons rfl (.cons rfl (.cons rfl (.nil _)))))) (by rw [b0K];rfl) fun k J hJ hk => ?_))
  have hcJ:=hc.mono hJ
  refine .seq (.seq (.region a8 (.v (.move a8 (.v (.lss a8 a8 (.nil (.R4 a8 (fun hlt => .skip ?_) (fun hge => .exit ?_)))))))))
  · have hk16:k < 16:=by omega
    refine .seq (.block (.draw (by kernel_rfl) 35 [[],[],[],[(28,2)],[(27,1),(29,3)],[(30,4)],[(31,5)],[(32,6)],[],[],[(35,9)],[(36,10)],[(34,8),(37,11)],[(38,12)],[(39,13)],[(40,14)],[(33,7),(41,15)],[],[],[(44,18)],[(45,19)],[(43,17),(46,20)],[(47,21)],[(48,22)],[(49,23)],[(42,16),(50,24)],[],[],[(53,27)],[(54,28)],[(52,26),(55,29)],[(56,30)],[(57,31)],[(51,25),(58,32)],[(26,0)]] a8 (by kernel_rfl) a8 ?_))
    refine⟨.is _,fun JJ hJJ ρ e6 => .H5 (.move e6 ⟨a8,a8⟩),?_⟩
    refine⟨.is _,fun JJ hJJ ρ e1 => .H5 (.move e1 ⟨a8,a8⟩),?_⟩
    refine⟨.is _,fun JJ hJJ ρ e6 => .H5 (.move e6 ⟨a8,a8⟩),?_⟩
    refine⟨.is _,fun JJ hJJ ρ e28 => .H5 (.mul a8 e28 (by omega) (by omega) ⟨a8,a8⟩),?_⟩
    refine⟨.is _,fun JJ hJJ ρ e27 e29 => .H5 (.Z4 a1P.und a1P.size e27 e29 (by omega) (by omega) ⟨a8,a8⟩),?_⟩
    refine⟨.is _,fun JJ hJJ ρ e30 => .H5 (.b3V underlying5 a8 e30 (hcJ.mono hJJ) a8 (b9o l (4*k) _ (by omega) (by omega)) ⟨a8,a8⟩),?_⟩
    refine⟨.is _,fun JJ hJJ ρ e31 => .H5 (.a5v underlying5 underlying238 e31 ⟨a8,a8⟩),?_⟩
    refine⟨.is _,fun JJ hJJ ρ e32 => .H5 (.b3R 24 e32 a8 a8 (by decide) ⟨a8,a8⟩),?_⟩
    refine⟨.is _,fun JJ hJJ ρ e1 => .H5 (.move e1 ⟨a8,a8⟩),?_⟩
    refine⟨.is _,fun JJ hJJ ρ e6 => .H5 (.move e6 ⟨a8,a8⟩),?_⟩
    refine⟨.is _,fun JJ hJJ ρ e35 => .H5 (.mul a8 e35 (by omega) (by omega) ⟨a8,a8⟩),?_⟩
    refine⟨.is _,fun JJ hJJ ρ e36 => .H5 (.add e36 a8 (by omega) (by omega) ⟨a8,a8⟩),?_⟩
    refine⟨.is _,fun JJ hJJ ρ e34 e37 => .H5 (.Z4 a1P.und a1P.size e34 e37 (by omega) (by omega) ⟨a8,a8⟩),?_⟩
    refine⟨.is _,fun JJ hJJ ρ e38 => .H5 (.b3V underlying5 a8 e38 (hcJ.mono hJJ) a8 (b9o l (4*k+1) _ (by omega) (by omega)) ⟨a8,a8⟩),?_⟩
    refine⟨.is _,fun JJ hJJ ρ e39 => .H5 (.a5v underlying5 underlying238 e39 ⟨a8,a8⟩),?_⟩
    refine⟨.is _,fun JJ hJJ ρ e40 => .H5 (.b3R 16 e40 a8 a8 (by decide) ⟨a8,a8⟩),?_⟩
    refine⟨.is _,fun JJ hJJ ρ e33 e41 => .H5 (.b8Y e33 e41 ⟨a8,a8⟩),?_⟩
    refine⟨.is _,fun JJ hJJ ρ e1 => .H5 (.move e1 ⟨a8,a8⟩),?_⟩
    refine⟨.is _,fun JJ hJJ ρ e6 => .H5 (.move e6 ⟨a8,a8⟩),?_⟩
    refine⟨.is _,fun JJ hJJ ρ e44 => .H5 (.mul a8 e44 (by omega) (by omega) ⟨a8,a8⟩),?_⟩
    refine⟨.is _,fun JJ hJJ ρ e45 => .H5 (.add e45 a8 (by omega) (by omega) ⟨a8,a8⟩),?_⟩
    refine⟨.is _,fun JJ hJJ ρ e43 e46 => .H5 (.Z4 a1P.und a1P.size e43 e46 (by omega) (by omega) ⟨a8,a8⟩),?_⟩
    refine⟨.is _,fun JJ hJJ ρ e47 => .H5 (.b3V underlying5 a8 e47 (hcJ.mono hJJ) a8 (b9o l (4*k+2) _ (by omega) (by omega)) ⟨a8,a8⟩),?_⟩
    refine⟨.is _,fun JJ hJJ ρ e48 => .H5 (.a5v underlying5 underlying238 e48 ⟨a8,a8⟩),?_⟩
    refine⟨.is _,fun JJ hJJ ρ e49 => .H5 (.b3R 8 e49 a8 a8 (by decide) ⟨a8,a8⟩),?_⟩
    refine⟨.is _,fun JJ hJJ ρ e42 e50 => .H5 (.b8Y e42 e50 ⟨a8,a8⟩),?_⟩
    refine⟨.is _,fun JJ hJJ ρ e1 => .H5 (.move e1 ⟨a8,a8⟩),?_⟩
    refine⟨.is _,fun JJ hJJ ρ e6 => .H5 (.move e6 ⟨a8,a8⟩),?_⟩
    refine⟨.is _,fun JJ hJJ ρ e53 => .H5 (.mul a8 e53 (by omega) (by omega) ⟨a8,a8⟩),?_⟩
    refine⟨.is _,fun JJ hJJ ρ e54 => .H5 (.add e54 a8 (by omega) (by omega) ⟨a8,a8⟩),?_⟩
    refine⟨.is _,fun JJ hJJ ρ e52 e55 => .H5 (.Z4 a1P.und a1P.size e52 e55 (by omega) (by omega) ⟨a8,a8⟩),?_⟩
    refine⟨.is _,fun JJ hJJ ρ e56 => .H5 (.b3V underlying5 a8 e56 (hcJ.mono hJJ) a8 (b9o l (4*k+3) _ (by omega) (by omega)) ⟨a8,a8⟩),?_⟩
    refine⟨.is _,fun JJ hJJ ρ e57 => .H5 (.a5v underlying5 underlying238 e57 ⟨a8,a8⟩),?_⟩
    refine⟨.is _,fun JJ hJJ ρ e51 e58 => .H5 (.b8Y e51 e58 ⟨a8,a8⟩),?_⟩
    refine⟨.is _,fun JJ hJJ ρ e5 e26 => .H5 (.C8 a5B e5 e26 (by omega) (by omega) ⟨a8,a8⟩),?_⟩
    intro J2 hJ2 
    have hset:=a7A l k (0+(k:Int).toNat*1) (by simp) (by omega)
    refine .n (.a9r 0 b6T a8 a8 a8 a8 a8 (by rw [a2t l k (by omega)];simp;omega) (.nil (.region a8 (.v (.move a8 (.v (.add a8 a8 (by omega) (by omega) (.v (.assign a8 ?_)))))))))
    refine .nil ⟨k+1,.cons rfl (.cons rfl (.cons rfl (.cons rfl (.cons rfl (.nil _))))),?_,by omega,by omega,hJ.trans hJ2⟩
    simp only [next,if_pos hk16,beW] at hset
    exact congrArg (fun c => [[(b5,row c 260)],[(b4,row (List.replicate 8 (u32 0)) 241)],[(b2,row x.cells 241)]]) hset
  have hk16:k=16:=by omega
  subst hk16
  refine .seq (.seq (.region a8 (.v (.assign a8 ?_))))
  refine .nil (.block (.loop (α:=Nat) (fun k => [(7,i64 k),(1,slc bb oo 64 cc),(2,ptr b2 0),(4,ptr b4 0),(5,ptr b5 0)])
    (fun k => [[(b5,row (a0N l k) 260)],[(b4,row (List.replicate 8 (u32 0)) 241)],[(b2,row x.cells 241)]]) (fun k _=>16≤k∧k≤64) (fun k=>64 - k) 16 (by omega)
    (.cons rfl (.cons rfl (.cons rfl (.cons rfl (.cons rfl (.nil _)))))) rfl fun k J1 hJ1 hk => ?_))
  refine .seq (.seq (.region a8 (.v (.move a8 (.v (.lss a8 a8 (.nil (.R4 a8 (fun hlt => .skip ?_) (fun hge => .exit ?_)))))))))
  · have hk64:k < 64:=by omega
    refine .seq (.block (.seq (.draw (by kernel_rfl) 10 [[],[(65,0)],[(66,1)],[(67,2)],[],[(69,4)],[(70,5)],[(71,6)],[(68,3)],[(72,7)]] a8 (by kernel_rfl) a8 ?_)))
    refine⟨.is _,fun JJ hJJ ρ e7 => .H5 (.move e7 ⟨a8,a8⟩),?_⟩
    refine⟨.is _,fun JJ hJJ ρ e65 => .H5 (.sub e65 a8 (by omega) (by omega) ⟨a8,a8⟩),?_⟩
    refine⟨.is _,fun JJ hJJ ρ e5 e66 => .H5 (.C8 a5B e5 e66 (by omega) (by omega) ⟨a8,a8⟩),?_⟩
    refine⟨.is _,fun JJ hJJ ρ e67 => .H5 (.V0 0 underlying238 a8 e67 a8 (a3g l k (k - 2) _ (by omega) (by omega)) ⟨a8,a8⟩),?_⟩
    refine⟨.is _,fun JJ hJJ ρ e7 => .H5 (.move e7 ⟨a8,a8⟩),?_⟩
    refine⟨.is _,fun JJ hJJ ρ e69 => .H5 (.sub e69 a8 (by omega) (by omega) ⟨a8,a8⟩),?_⟩
    refine⟨.is _,fun JJ hJJ ρ e5 e70 => .H5 (.C8 a5B e5 e70 (by omega) (by omega) ⟨a8,a8⟩),?_⟩
    refine⟨.is _,fun JJ hJJ ρ e71 => .H5 (.V0 0 underlying238 a8 e71 a8 (a3g l k (k - 15) _ (by omega) (by omega)) ⟨a8,a8⟩),?_⟩
    refine⟨.is _,fun JJ hJJ ρ e68 => .H5 (.assign e68 ⟨a8,a8⟩),?_⟩
    refine⟨.is _,fun JJ hJJ ρ e72 => .H5 (.assign e72 ⟨a8,a8⟩),?_⟩
    intro J2 hJ2 
    refine .nil (.draw (by kernel_rfl) 29 [[],[],[(74,1)],[],[(76,3)],[(75,2),(77,4)],[],[(79,6)],[(78,5),(80,7)],[],[(82,9)],[(83,10)],[(84,11)],[(81,8),(85,12)],[],[(87,14)],[],[(89,16)],[(88,15),(90,17)],[],[(92,19)],[(91,18),(93,20)],[(86,13),(94,21)],[],[(96,23)],[(97,24)],[(98,25)],[(95,22),(99,26)],[(73,0)]] a8 (by kernel_rfl) a8 ?_)
    refine⟨.is _,fun JJ hJJ ρ e7 => .H5 (.move e7 ⟨a8,a8⟩),?_⟩
    refine⟨.is _,fun JJ hJJ ρ e8 => .H5 (.move e8 ⟨a8,a8⟩),?_⟩
    refine⟨.is _,fun JJ hJJ ρ e74 => .a0L a8 (b0H e74 a8) (fun J hJ hL=>O8 J _ 17 (by decide) (by decide)) ⟨a8,a8⟩,?_⟩
    refine⟨.is _,fun JJ hJJ ρ e8 => .H5 (.move e8 ⟨a8,a8⟩),?_⟩
    refine⟨.is _,fun JJ hJJ ρ e76 => .a0L a8 (b0H e76 a8) (fun J hJ hL=>O8 J _ 19 (by decide) (by decide)) ⟨a8,a8⟩,?_⟩
    refine⟨.is _,fun JJ hJJ ρ e75 e77 => .H5 (.a3M e75 e77 ⟨a8,a8⟩),?_⟩
    refine⟨.is _,fun JJ hJJ ρ e8 => .H5 (.move e8 ⟨a8,a8⟩),?_⟩
    refine⟨.is _,fun JJ hJJ ρ e79 => .H5 (.b3S 10 e79 a8 a8 (by decide) ⟨a8,a8⟩),?_⟩
    refine⟨.is _,fun JJ hJJ ρ e78 e80 => .H5 (.a3M e78 e80 ⟨a8,a8⟩),?_⟩
    refine⟨.is _,fun JJ hJJ ρ e7 => .H5 (.move e7 ⟨a8,a8⟩),?_⟩
    refine⟨.is _,fun JJ hJJ ρ e82 => .H5 (.sub e82 a8 (by omega) (by omega) ⟨a8,a8⟩),?_⟩
    refine⟨.is _,fun JJ hJJ ρ e5 e83 => .H5 (.C8 a5B e5 e83 (by omega) (by omega) ⟨a8,a8⟩),?_⟩
    refine⟨.is _,fun JJ hJJ ρ e84 => .H5 (.V0 0 underlying238 a8 e84 a8 (a3g l k (k - 7) _ (by omega) (by omega)) ⟨a8,a8⟩),?_⟩
    refine⟨.is _,fun JJ hJJ ρ e81 e85 => .H5 (.a3L e81 e85 ⟨a8,a8⟩),?_⟩
    refine⟨.is _,fun JJ hJJ ρ e9 => .H5 (.move e9 ⟨a8,a8⟩),?_⟩
    refine⟨.is _,fun JJ hJJ ρ e87 => .a0L a8 (b0H e87 a8) (fun J hJ hL=>O8 J _ 7 (by decide) (by decide)) ⟨a8,a8⟩,?_⟩
    refine⟨.is _,fun JJ hJJ ρ e9 => .H5 (.move e9 ⟨a8,a8⟩),?_⟩
    refine⟨.is _,fun JJ hJJ ρ e89 => .a0L a8 (b0H e89 a8) (fun J hJ hL=>O8 J _ 18 (by decide) (by decide)) ⟨a8,a8⟩,?_⟩
    refine⟨.is _,fun JJ hJJ ρ e88 e90 => .H5 (.a3M e88 e90 ⟨a8,a8⟩),?_⟩
    refine⟨.is _,fun JJ hJJ ρ e9 => .H5 (.move e9 ⟨a8,a8⟩),?_⟩
    refine⟨.is _,fun JJ hJJ ρ e92 => .H5 (.b3S 3 e92 a8 a8 (by decide) ⟨a8,a8⟩),?_⟩
    refine⟨.is _,fun JJ hJJ ρ e91 e93 => .H5 (.a3M e91 e93 ⟨a8,a8⟩),?_⟩
    refine⟨.is _,fun JJ hJJ ρ e86 e94 => .H5 (.a3L e86 e94 ⟨a8,a8⟩),?_⟩
    refine⟨.is _,fun JJ hJJ ρ e7 => .H5 (.move e7 ⟨a8,a8⟩),?_⟩
    refine⟨.is _,fun JJ hJJ ρ e96 => .H5 (.sub e96 a8 (by omega) (by omega) ⟨a8,a8⟩),?_⟩
    refine⟨.is _,fun JJ hJJ ρ e5 e97 => .H5 (.C8 a5B e5 e97 (by omega) (by omega) ⟨a8,a8⟩),?_⟩
    refine⟨.is _,fun JJ hJJ ρ e98 => .H5 (.V0 0 underlying238 a8 e98 a8 (a3g l k (k - 16) _ (by omega) (by omega)) ⟨a8,a8⟩),?_⟩
    refine⟨.is _,fun JJ hJJ ρ e95 e99 => .H5 (.a3L e95 e99 ⟨a8,a8⟩),?_⟩
    refine⟨.is _,fun JJ hJJ ρ e5 e73 => .H5 (.C8 a5B e5 e73 (by omega) (by omega) ⟨a8,a8⟩),?_⟩
    intro J3 hJ3 
    have hset:=a7A l k (0+(k:Int).toNat*1) (by simp) hk64
    refine .n (.a9r 0 b6T a8 a8 a8 a8 a8 (by rw [a2t l k (by omega)];simp;omega) (.nil (.region a8 (.v (.move a8 (.v (.add a8 a8 (by omega) (by omega) (.v (.assign a8 ?_)))))))))
    refine .nil ⟨k+1,.cons rfl (.cons rfl (.cons rfl (.cons rfl (.cons rfl (.nil _))))),?_,by omega,by omega,hJ1.trans (hJ2.trans hJ3)⟩
    simp only [next,if_neg (show ¬k < 16 by omega)] at hset
    exact congrArg (fun c => [[(b5,row c 260)],[(b4,row (List.replicate 8 (u32 0)) 241)],[(b2,row x.cells 241)]]) hset
  have hk64:k=64:=by omega
  subst hk64
  rw [b2G]
  unfold compress
  have hw:(wl l 64).length=64:=a2M l 64
  generalize wl l 64=ws at hw ⊢
  refine .seq (.region a8 (.x (.a0L a8 a8 (fun J _ _=>a8j J) (.x (.alloc b9n fun b10=>(.n (.a3d 0 64 b6U a8 a8 a8 (a3O _ _ fun _=>a8) a8 a8 (.nil (.seq (.region a8 (.v (.a9q (cs:=x.cells) 3 underlying241 a8 a3T a8 a8 (.x (.alloc b5h fun b11=>(.n (.a3d 0 8 a3T a8 a8 a8 a8 a8 a8 (.nil (.seq (.seq (.region a8 (.v (.assign a8 ?_))))))))))))))))))))))
  refine .nil (.block (.loop (α:=Nat) (fun k => [(12,i64 k),(2,ptr b2 0),(4,ptr b4 0),(5,ptr b5 0),(10,ptr b10 0),(11,ptr b11 0)])
    (fun k => [[(b11,row (rounds ws x k).cells 241)],[(b10,row (kk.map u32) 260)],[(b5,row (ws.map u32) 260)],[(b4,row (List.replicate 8 (u32 0)) 241)],[(b2,row x.cells 241)]])
    (fun k _=>k≤64) (fun k=>64 - k) 0 (by omega)
    (.cons rfl (.cons rfl (.cons rfl (.cons rfl (.cons rfl (.cons rfl (.nil _))))))) rfl fun k J2 hJ2 hk => ?_))
  refine .seq (.seq (.region a8 (.v (.move a8 (.v (.lss a8 a8 (.nil (.R4 a8 (fun hlt => .skip ?_) (fun hge => .exit ?_)))))))))
  · have hk64:k < 64:=by omega
    refine .seq (.block (.seq ?_))
    generalize hX:rounds ws x k=X
    refine .draw (by kernel_rfl) 18 [[],[(108,0)],[],[(110,2)],[],[(112,4)],[],[(114,6)],[],[(116,8)],[],[(118,10)],[(109,1)],[(111,3)],[(113,5)],[(115,7)],[(117,9)],[(119,11)]] a8 (by kernel_rfl) a8 ?_
    refine⟨.is _,fun JJ hJJ ρ e11 => .H5 (.C8 a0a e11 a8 (by omega) (by omega) ⟨a8,a8⟩),?_⟩
    refine⟨.is _,fun JJ hJJ ρ e108 => .H5 (.V0 0 underlying238 a8 e108 a8 (v:=u32 X.a) a8 ⟨a8,a8⟩),?_⟩
    refine⟨.is _,fun JJ hJJ ρ e11 => .H5 (.C8 a0a e11 a8 (by omega) (by omega) ⟨a8,a8⟩),?_⟩
    refine⟨.is _,fun JJ hJJ ρ e110 => .H5 (.V0 0 underlying238 a8 e110 a8 (v:=u32 X.b) a8 ⟨a8,a8⟩),?_⟩
    refine⟨.is _,fun JJ hJJ ρ e11 => .H5 (.C8 a0a e11 a8 (by omega) (by omega) ⟨a8,a8⟩),?_⟩
    refine⟨.is _,fun JJ hJJ ρ e112 => .H5 (.V0 0 underlying238 a8 e112 a8 (v:=u32 X.c) a8 ⟨a8,a8⟩),?_⟩
    refine⟨.is _,fun JJ hJJ ρ e11 => .H5 (.C8 a0a e11 a8 (by omega) (by omega) ⟨a8,a8⟩),?_⟩
    refine⟨.is _,fun JJ hJJ ρ e114 => .H5 (.V0 0 underlying238 a8 e114 a8 (v:=u32 X.e) a8 ⟨a8,a8⟩),?_⟩
    refine⟨.is _,fun JJ hJJ ρ e11 => .H5 (.C8 a0a e11 a8 (by omega) (by omega) ⟨a8,a8⟩),?_⟩
    refine⟨.is _,fun JJ hJJ ρ e116 => .H5 (.V0 0 underlying238 a8 e116 a8 (v:=u32 X.f) a8 ⟨a8,a8⟩),?_⟩
    refine⟨.is _,fun JJ hJJ ρ e11 => .H5 (.C8 a0a e11 a8 (by omega) (by omega) ⟨a8,a8⟩),?_⟩
    refine⟨.is _,fun JJ hJJ ρ e118 => .H5 (.V0 0 underlying238 a8 e118 a8 (v:=u32 X.g) a8 ⟨a8,a8⟩),?_⟩
    refine⟨.is _,fun JJ hJJ ρ e109 => .H5 (.assign e109 ⟨a8,a8⟩),?_⟩
    refine⟨.is _,fun JJ hJJ ρ e111 => .H5 (.assign e111 ⟨a8,a8⟩),?_⟩
    refine⟨.is _,fun JJ hJJ ρ e113 => .H5 (.assign e113 ⟨a8,a8⟩),?_⟩
    refine⟨.is _,fun JJ hJJ ρ e115 => .H5 (.assign e115 ⟨a8,a8⟩),?_⟩
    refine⟨.is _,fun JJ hJJ ρ e117 => .H5 (.assign e117 ⟨a8,a8⟩),?_⟩
    refine⟨.is _,fun JJ hJJ ρ e119 => .H5 (.assign e119 ⟨a8,a8⟩),?_⟩
    intro J3 hJ3 
    refine .nil (.seq (.draw (by kernel_rfl) 29 [[],[(120,0)],[],[(122,2)],[],[(124,4)],[(123,3),(125,5)],[],[(127,7)],[(126,6),(128,8)],[(121,1),(129,9)],[],[],[(131,11),(132,12)],[],[(134,14)],[],[(135,15),(136,16)],[(133,13),(137,17)],[(130,10),(138,18)],[],[(140,20)],[(141,21)],[(139,19),(142,22)],[],[(144,24)],[(145,25)],[(143,23),(146,26)],[(147,27)]] a8 (by kernel_rfl) a8 ?_))
    refine⟨.is _,fun JJ hJJ ρ e11 => .H5 (.C8 a0a e11 a8 (by omega) (by omega) ⟨a8,a8⟩),?_⟩
    refine⟨.is _,fun JJ hJJ ρ e120 => .H5 (.V0 0 underlying238 a8 e120 a8 (v:=u32 X.h) a8 ⟨a8,a8⟩),?_⟩
    refine⟨.is _,fun JJ hJJ ρ e16 => .H5 (.move e16 ⟨a8,a8⟩),?_⟩
    refine⟨.is _,fun JJ hJJ ρ e122 => .a0L a8 (b0H e122 a8) (fun J hJ hL=>O8 J _ 6 (by decide) (by decide)) ⟨a8,a8⟩,?_⟩
    refine⟨.is _,fun JJ hJJ ρ e16 => .H5 (.move e16 ⟨a8,a8⟩),?_⟩
    refine⟨.is _,fun JJ hJJ ρ e124 => .a0L a8 (b0H e124 a8) (fun J hJ hL=>O8 J _ 11 (by decide) (by decide)) ⟨a8,a8⟩,?_⟩
    refine⟨.is _,fun JJ hJJ ρ e123 e125 => .H5 (.a3M e123 e125 ⟨a8,a8⟩),?_⟩
    refine⟨.is _,fun JJ hJJ ρ e16 => .H5 (.move e16 ⟨a8,a8⟩),?_⟩
    refine⟨.is _,fun JJ hJJ ρ e127 => .a0L a8 (b0H e127 a8) (fun J hJ hL=>O8 J _ 25 (by decide) (by decide)) ⟨a8,a8⟩,?_⟩
    refine⟨.is _,fun JJ hJJ ρ e126 e128 => .H5 (.a3M e126 e128 ⟨a8,a8⟩),?_⟩
    refine⟨.is _,fun JJ hJJ ρ e121 e129 => .H5 (.a3L e121 e129 ⟨a8,a8⟩),?_⟩
    refine⟨.is _,fun JJ hJJ ρ e16 => .H5 (.move e16 ⟨a8,a8⟩),?_⟩
    refine⟨.is _,fun JJ hJJ ρ e17 => .H5 (.move e17 ⟨a8,a8⟩),?_⟩
    refine⟨.is _,fun JJ hJJ ρ e131 e132 => .H5 (.b0A e131 e132 ⟨a8,a8⟩),?_⟩
    refine⟨.is _,fun JJ hJJ ρ e16 => .H5 (.move e16 ⟨a8,a8⟩),?_⟩
    refine⟨.is _,fun JJ hJJ ρ e134 => .H5 (.c2W e134 ⟨a8,a8⟩),?_⟩
    refine⟨.is _,fun JJ hJJ ρ e18 => .H5 (.move e18 ⟨a8,a8⟩),?_⟩
    refine⟨.is _,fun JJ hJJ ρ e135 e136 => .H5 (.b0A e135 e136 ⟨a8,a8⟩),?_⟩
    refine⟨.is _,fun JJ hJJ ρ e133 e137 => .H5 (.a3M e133 e137 ⟨a8,a8⟩),?_⟩
    refine⟨.is _,fun JJ hJJ ρ e130 e138 => .H5 (.a3L e130 e138 ⟨a8,a8⟩),?_⟩
    refine⟨.is _,fun JJ hJJ ρ e12 => .H5 (.move e12 ⟨a8,a8⟩),?_⟩
    refine⟨.is _,fun JJ hJJ ρ e10 e140 => .H5 (.C8 a5B e10 e140 (by omega) (by omega) ⟨a8,a8⟩),?_⟩
    refine⟨.is _,fun JJ hJJ ρ e141 => .H5 (.V0 1 underlying238 a8 e141 a8 (c01 kk k _ (by simp) hk64) ⟨a8,a8⟩),?_⟩
    refine⟨.is _,fun JJ hJJ ρ e139 e142 => .H5 (.a3L e139 e142 ⟨a8,a8⟩),?_⟩
    refine⟨.is _,fun JJ hJJ ρ e12 => .H5 (.move e12 ⟨a8,a8⟩),?_⟩
    refine⟨.is _,fun JJ hJJ ρ e5 e144 => .H5 (.C8 a5B e5 e144 (by omega) (by omega) ⟨a8,a8⟩),?_⟩
    refine⟨.is _,fun JJ hJJ ρ e145 => .H5 (.V0 2 underlying238 a8 e145 a8 (c01 ws k _ (by simp) (by omega)) ⟨a8,a8⟩),?_⟩
    refine⟨.is _,fun JJ hJJ ρ e143 e146 => .H5 (.a3L e143 e146 ⟨a8,a8⟩),?_⟩
    refine⟨.is _,fun JJ hJJ ρ e147 => .H5 (.assign e147 ⟨a8,a8⟩),?_⟩
    intro J4 hJ4 
    refine .nil (.seq (.region a8 (.v (.move a8 (.x (.a0L a8 a8 (fun J hJ hL=>O8 J _ 2 (by decide) (by decide)) (.v (.move a8 (.x (.a0L a8 a8 (fun J hJ hL=>O8 J _ 13 (by decide) (by decide)) (.v (.a3M a8 a8 (.v (.move a8 (.x (.a0L a8 a8 (fun J hJ hL=>O8 J _ 22 (by decide) (by decide)) (.v (.a3M a8 a8 (.v (.move a8 (.v (.move a8 (.v (.b0A a8 a8 (.v (.move a8 (.v (.move a8 (.v (.b0A a8 a8 (.v (.a3M a8 a8 (.v (.move a8 (.v (.move a8 (.v (.b0A a8 a8 (.v (.a3M a8 a8 (.v (.a3L a8 a8 (.v (.assign a8 (.nil (.region a8 (.v (.move a8 (.v (.move a8 (.v (.a3L a8 a8 (.v (.C8 a0a a8 a8 (by omega) (by omega) (.v (.V0 0 underlying238 a8 a8 a8 (v:=u32 X.a) a8 (.v (.C8 a0a a8 a8 (by omega) (by omega) (.v (.V0 0 underlying238 a8 a8 a8 (v:=u32 X.b) a8 (.v (.C8 a0a a8 a8 (by omega) (by omega) (.v (.V0 0 underlying238 a8 a8 a8 (v:=u32 X.c) a8 (.v (.C8 a0a a8 a8 (by omega) (by omega) (.v (.V0 0 underlying238 a8 a8 a8 (v:=u32 X.d) a8 (.v (.move a8 (.v (.a3L a8 a8 (.v (.C8 a0a a8 a8 (by omega) (by omega) (.v (.V0 0 underlying238 a8 a8 a8 (v:=u32 X.e) a8 (.v (.C8 a0a a8 a8 (by omega) (by omega) (.v (.V0 0 underlying238 a8 a8 a8 (v:=u32 X.f) a8 (.v (.C8 a0a a8 a8 (by omega) (by omega) (.v (.V0 0 underlying238 a8 a8 a8 (v:=u32 X.g) a8 (.v (.U1 a0a b5h a8 a8 a8 a8 (.n (.a3d 0 8 a3T a8 a8 a8 a8 a8 a8 (.nil (.region a8 (.v (.move a8 (.v (.add a8 a8 (by omega) (by omega) (.v (.assign a8 ?_))))))))))))))))))))))))))))))))))))))))))))))))))))))))))))))))))))))))))))))))))))))))))))))))
    refine .nil ⟨k+1,.cons rfl (.cons rfl (.cons rfl (.cons rfl (.cons rfl (.cons rfl (.nil _)))))),?_,by omega,by omega,hJ2.trans (hJ3.trans hJ4)⟩
    subst hX
    rfl
  have hk64:k=64:=by omega
  subst hk64
  generalize rounds ws x 64=v
  refine .seq (.seq (.region a8 (.v (.assign a8 ?_))))
  refine .nil (.block (.loop (α:=Nat) (fun k => [(21,i64 k),(2,ptr b2 0),(4,ptr b4 0),(11,ptr b11 0)])
    (fun k => [[(b11,row v.cells 241)],[(b10,row (kk.map u32) 260)],[(b5,row (ws.map u32) 260)],[(b4,row (List.replicate 8 (u32 0)) 241)],[(b2,row (x.mix v k) 241)]])
    (fun k _=>k≤8) (fun k=>8 - k) 0 (by omega)
    (.cons rfl (.cons rfl (.cons rfl (.cons rfl (.nil _))))) rfl fun k J3 hJ3 hk => ?_))
  refine .seq (.seq (.region a8 (.v (.move a8 (.v (.lss a8 a8 (.nil (.R4 a8 (fun hlt => .skip ?_) (fun hge => .exit ?_)))))))))
  · have hk8:k < 8:=by omega
    refine .seq (.block (.draw (by kernel_rfl) 9 [[],[],[(193,1)],[(194,2)],[],[(196,4)],[(197,5)],[(195,3),(198,6)],[(192,0)]] a8 (by kernel_rfl) a8 ?_))
    refine⟨.is _,fun JJ hJJ ρ e21 => .H5 (.move e21 ⟨a8,a8⟩),?_⟩
    refine⟨.is _,fun JJ hJJ ρ e21 => .H5 (.move e21 ⟨a8,a8⟩),?_⟩
    refine⟨.is _,fun JJ hJJ ρ e2 e193 => .H5 (.C8 a0a e2 e193 (by omega) (by omega) ⟨a8,a8⟩),?_⟩
    refine⟨.is _,fun JJ hJJ ρ e194 => .H5 (.V0 4 underlying238 a8 e194 a8 (b9p x v k _ (by simp) hk8) ⟨a8,a8⟩),?_⟩
    refine⟨.is _,fun JJ hJJ ρ e21 => .H5 (.move e21 ⟨a8,a8⟩),?_⟩
    refine⟨.is _,fun JJ hJJ ρ e11 e196 => .H5 (.C8 a0a e11 e196 (by omega) (by omega) ⟨a8,a8⟩),?_⟩
    refine⟨.is _,fun JJ hJJ ρ e197 => .H5 (.V0 0 underlying238 a8 e197 a8 (a8A v k _ (by simp) hk8) ⟨a8,a8⟩),?_⟩
    refine⟨.is _,fun JJ hJJ ρ e195 e198 => .H5 (.a3L e195 e198 ⟨a8,a8⟩),?_⟩
    refine⟨.is _,fun JJ hJJ ρ e2 e192 => .H5 (.C8 a0a e2 e192 (by omega) (by omega) ⟨a8,a8⟩),?_⟩
    intro J4 hJ4 
    have hset:=b9q x v k (0+(k:Int).toNat*1) (by simp) hk8
    refine .n (.a9r 4 b6T a8 a8 a8 a8 a8 (by rw [b2H x v k hk];simp;omega) (.nil (.region a8 (.v (.move a8 (.v (.add a8 a8 (by omega) (by omega) (.v (.assign a8 ?_)))))))))
    refine .nil ⟨k+1,.cons rfl (.cons rfl (.cons rfl (.cons rfl (.nil _)))),?_,by omega,by omega,hJ3.trans hJ4⟩
    exact congrArg (fun c => [[(b11,row v.cells 241)],[(b10,row (kk.map u32) 260)],[(b5,row (ws.map u32) 260)],[(b4,row (List.replicate 8 (u32 0)) 241)],[(b2,row c 241)]]) hset
  have hk8:k=8:=by omega
  subst hk8
  refine .seq (.region a8 (.v (.a9q (cs:=(x.add v).cells) 4 underlying241 a8 a3T a8 a8 (.n (.a3d 3 8 a3T a8 a8 a8 a8 a8 a8 (.nil (.ret ⟨_,.r1 a8 (.b0G (cs:=(x.add v).cells) 3 underlying241 a8 a3T a8 a8),?_⟩)))))))
  rw [H8.add_comm v x]
  rfl
theorem a8B (I:Im) (n:UInt64):Fun prog 133 #[u64 n] I (fun v J=>Sl J 1 v 8 (C5 (S0 n 8))):=by
 refine Fun.intro (l := [u64 n]) func133 rfl (by kernel_rfl) 18 rfl rfl [(0,u64 n)] rfl fun C hC=>(.seq (.region rfl (.v (.assign rfl (.nil (.seq (.region rfl (.v (.assign rfl (.nil (.seq (.seq (.region rfl (.pad (.v (.assign rfl ?_))))))))))))))))
 refine .nil (.block (.loop (α:=Nat×Value×List (Nat×Obj)) (fun x => [(4,i64 (56 - 8*(x.1:Int))),(3,x.2.1),(0,u64 n)])
  (fun k => [k.2.2]) (fun k J=>k.1≤8∧Own 5 1 k.2.1 k.1 (C5 (S0 n k.1)) k.2.2) (fun k=>8 - k.1) (0,.slice none 0 0,[]) ⟨by simp,Own.nil _ _⟩
  (.cons rfl (.cons rfl (.cons rfl (.nil _)))) rfl fun x2 J2 hJ2 hF => ?_))
 obtain⟨k,v2,X2⟩:=x2
 obtain⟨hk,hown2⟩:=hF
 dsimp only at hk hown2 ⊢
 refine .seq (.seq (.region a8 (.v (.move a8 (.v (.geq a8 a8 (.nil (.R4 a8 (fun hge => .skip ?_) (fun hlt => .exit ?_)))))))))
 ·have hk8:k < 8:=by omega
  refine .seq (.block (.region a8 (.v (.move a8 (.v (.move a8 (.v (.move a8 (.v (.a1N underlying3 underlying206 a8 (.v (.b0B (56 - 8*k) a8 a8 (a9F k hk8) (by omega) (.v (.a2J underlying54 underlying5 a8 ?_))))))))))))))
  generalize hq:(n >>> UInt64.ofNat (56 - 8*k)).toUInt8=q
  refine .x (.buildSlice (n:=1) (zs := [u8 0]) (vs := [u8 q]) (pv := [(0,u8 q)]) a1P.und a1P.size z5 a8 a8 a8 a8 (by decide) fun b34=>(.s (.append 1 a1P (by decide) (.inl ⟨_,underlying64⟩) a8 a8 a8 hown2 (.chunk 0 a8 a8) a8 (by unfold maxLen;omega) (by omega) fun v' X' hown'=>(.v (.assign a8 (.forget (X := [_]) (.nil (.region a8 (.v (.move a8 (.v (.sub a8 a8 (by omega) (by omega) (.v (.assign a8 ?_))))))))))))))
  refine .nil ⟨(k+1,v',X'),.cons ?_ (.cons rfl (.cons rfl (.nil _))),rfl,⟨by dsimp only;omega,?_⟩,by dsimp only;omega,hJ2⟩
  ·exact congrArg (fun q=>some (i64 q)) (by dsimp only;omega)
  ·have e1:C5 (S0 n k) ++ [u8 q]=C5 (S0 n (k+1)):=by rw [a2N,hq];simp [C5]
   rw [e1] at hown'
   exact hown'
 ·have hk2:k=8:=by omega
  subst hk2
  refine .seq (.region a8 (.v (.move a8 (.v (.assign a8 ?_)))))
  exact .nil (.freeze 0 rfl (fun p _ hM=>by rw [hC] at hM;cases hM) fun J hJ hp => .ret ⟨_,.r1 rfl (.tmp rfl),hown2.sl hp⟩)
theorem c29 {J:Im} {v':Value} {m:List UInt8} {k:Nat} (h:Sl J 1 v' (64*k+64 - 64*k) (((C5 m).take ((64*k+64)*1)).drop (64*k*1))):Sl J 1 v' 64 (C5 ((m.drop (64*k)).take 64)):=by
 have e1:64*k+64 - 64*k=64:=by omega
 have e2:((C5 m).take ((64*k+64)*1)).drop (64*k*1)=C5 ((m.drop (64*k)).take 64):=by
  simp only [Nat.mul_one,C5,←List.map_take,←List.map_drop,List.drop_take]
  rw [e1]
 rw [e1,e2] at h
 exact h
theorem b9t (I : Im) (b : Value) (bs : List UInt8) (hb : Sl I 1 b bs.length (C5 bs)) (hlen : bs.length ≤ 17592186044416) :
    Fun prog 154 #[b] I (fun v J=>v = .agg (C5 (b2J bs)).toArray):=by
  obtain⟨a1,c1,rfl,_,_⟩:=id hb.shape
  generalize hbv:Value.slice a1 bs.length c1=b at *
  refine Fun.intro (l := [b]) func154 rfl (by kernel_rfl) 59 rfl rfl [(0,b)] rfl fun C hC=>(.seq (.region rfl (.x (.alloc z24 fun b2 => .nil (.seq (.region rfl (.x (.buildSlice (n:=0) (zs := [u8 0]) (vs := []) (pv := []) a1P.und a1P.size z5 rfl rfl rfl rfl (by decide) fun b8=>(.v (.move rfl ?_))))))))))
  have hown0:Own 5 1 (slc b8 0 0 0) 0 [] [(b8,row [] 5)]:=Own.made rfl (by decide)
  refine .s (.append 0 a1P (by decide) (.inl ⟨_,underlying64⟩) a8 a8 a8 hown0 (.sl hb) (a3O _ _ fun _=>a8) (by unfold maxLen;omega) (by omega) fun v0 X0 hown0'=>(.x (.buildSlice (n:=1) (zs := [u8 0]) (vs := [u8 128]) (pv := [(0,u8 128)]) a1P.und a1P.size z5 a8 a8 a8 a8 (by decide) fun b11=>(.s (.append 1 a1P (by decide) (.inl ⟨_,underlying64⟩) a8 a8 a8 hown0' (.chunk 0 a8 a8) a8 (by unfold maxLen;omega) (by omega) fun v1 X1 hown1=>(.v (.assign a8 ?_)))))))
  have hz:=b9r bs.length
  have hzd:a6d bs.length=(119 - bs.length % 64) % 64:=rfl
  refine .forget (X := [_]) (.nil (.seq (.block (.loop (α:=Nat×Value×List (Nat×Obj)) (fun x => [(3,x.2.1),(0,b),(2,ptr b2 0)])
    (fun k => [k.2.2,[(b2,row (List.replicate 32 (u8 0)) 24)]])
    (fun k J=>k.1≤a6d bs.length∧Own 5 1 k.2.1 (bs.length+1+k.1) (C5 (bs++128::List.replicate k.1 0)) k.2.2) (fun k=>a6d bs.length - k.1) (0,v1,X1) ⟨by simp,by simpa [C5] using hown1⟩
    (.cons rfl (.cons rfl (.cons rfl (.nil _)))) rfl fun x1 J1 hJ1 hF => ?_))))
  obtain⟨k,v,X⟩:=x1
  obtain⟨hk,hown⟩:=hF
  dsimp only at hk hown ⊢
  obtain⟨a3,c3,rfl⟩:=id hown.shape
  generalize hvv:Value.slice a3 (bs.length+1+k) c3=v at *
  refine .seq (.seq (.region a8 (.v (.move a8 (.v (.len (a0:=a3) (n:=bs.length+1+k) (c:=c3) underlying64 (by rw [hvv];rfl) (.v (.rem a8 a8 (by omega) (by omega) (.v (.b0y a8 a8 (.nil (.R4 a8 (fun hne => .skip ?_) (fun heq => .exit ?_)))))))))))))
  · have hk2:k < a6d bs.length:=by
      rcases Nat.lt_or_ge k (a6d bs.length) with h|h
      · exact h
      · exact absurd (show((bs.length+1+k:Nat):Int) % 64=56 by omega) hne
    refine .block (.region a8 (.v (.move a8 (.x (.buildSlice (n:=1) (zs := [u8 0]) (vs := [u8 0]) (pv := [(0,u8 0)]) a1P.und a1P.size z5 a8 a8 a8 a8 (by decide) fun b19=>(.s (.append 1 a1P (by decide) (.inl ⟨_,underlying64⟩) a8 a8 a8 hown (.chunk 0 a8 a8) a8 (by unfold maxLen;omega) (by omega) fun v' X' hown'=>(.v (.assign a8 ?_)))))))))
    refine .forget (X := [_]) (.nil ⟨(k+1,v',X'),.cons rfl (.cons rfl (.cons rfl (.nil _))),rfl,⟨by dsimp only;omega,?_⟩,by dsimp only;omega,hJ1⟩)
    have e1:C5 (bs++128::List.replicate k 0) ++ [u8 0]=C5 (bs++128::List.replicate (k+1) 0):=by simp [C5,List.replicate_succ']
    rw [e1] at hown'
    exact hown'
  · have hk2:k=a6d bs.length:=by
      have:((bs.length+1+k:Nat):Int) % 64=56:=by
        by_cases h:((bs.length+1+k:Nat):Int) % 64=56
        · exact h
        · exact absurd h heq
      omega
    subst hk2
    refine .seq (.region a8 (.v (.move a8 (.v (.move a8 (.v (.len (a0:=a1) (n:=bs.length) (c:=c1) underlying64 (by rw [hbv];rfl) (.v (.a1N underlying3 underlying54 a8 (.v (.b3T (n:=8) a8 a8 ?_)))))))))))
    generalize hn:UInt64.ofInt (bs.length:Int)*8=n
    refine .x (.call a8 a8 (a8B J1 n) fun v5 J2 hJ2 h5=>(.s (.append 0 a1P (by decide) (.inl ⟨_,underlying64⟩) a8 a8 a8 hown (.sl h5) (a3O _ _ fun _=>a8) (by unfold maxLen;omega) (by omega) fun v6 X6 hown6=>(.v (.assign a8 ?_)))))
    have hm0:C5 (bs++128::List.replicate (a6d bs.length) 0)++C5 (S0 n 8)=C5 (a9E bs):=by
      rw [a9E,hn];simp [C5,pad]
    have hml:(a9E bs).length=bs.length+1+a6d bs.length+8:=by simp [a9E,b2I];omega
    rw [hm0,←hml] at hown6
    have hsha:b2J bs=(feed iv (a9E bs) ((a9E bs).length/64)).l.flatMap a2f:=rfl
    generalize a9E bs=m at hown6 hml hsha
    refine .nil (.seq (.region rfl (.x (.a0L rfl rfl (fun J _ _=>b0N J) (.x (.alloc b5h fun b4=>(.n (.a3d 0 8 a3T rfl rfl rfl rfl rfl rfl (.nil (.freeze 1 rfl (fun p _ hM=>by rw [hC] at hM;cases hM) fun J3 hJ3 hp3 => ?_))))))))))
    have hm:Sl J3 1 v6 m.length (C5 m):=hown6.sl hp3
    obtain⟨a6,c6,rfl,_,_⟩:=id hm.shape
    generalize hvv6:Value.slice a6 m.length c6=v6 at *
    refine .seq (.seq (.region a8 (.v (.assign a8 ?_))))
    refine .nil (.block (.loop (α:=Nat) (fun k => [(5,i64 (64*(k:Int))),(3,v6),(4,ptr b4 0),(2,ptr b2 0)])
      (fun k => [[(b4,row (feed iv m k).cells 241)],[],[(b2,row (List.replicate 32 (u8 0)) 24)]])
      (fun k _=>64*k≤m.length) (fun k=>m.length - 64*k) 0 (by omega)
      (.cons rfl (.cons rfl (.cons rfl (.cons rfl (.nil _))))) rfl fun k J4 hJ4 hk => ?_))
    refine .seq (.seq (.region a8 (.v (.move a8 (.v (.move a8 (.v (.len (a0:=a6) (n:=m.length) (c:=c6) underlying64 (by rw [hvv6];rfl) (.v (.lss a8 a8 (.nil (.R4 a8 (fun hlt => .skip ?_) (fun hge => .exit ?_)))))))))))))
    · have hk64:64*k+64≤m.length:=by omega
      generalize hX:feed iv m k=Y
      refine .seq (.block (.draw (by kernel_rfl) 7 [[],[],[],[],[(37,3)],[(35,1),(36,2),(38,4)],[(34,0),(39,5)]] a8 (by kernel_rfl) a8 ?_))
      refine⟨.is _,fun JJ hJJ ρ e4 => .H5 (.a9q (cs:=Y.cells) 0 underlying241 a8 a3T e4 a8 ⟨a8,a8⟩),?_⟩
      refine⟨.is _,fun JJ hJJ ρ e3 => .H5 (.move e3 ⟨a8,a8⟩),?_⟩
      refine⟨.is _,fun JJ hJJ ρ e5 => .H5 (.move e5 ⟨a8,a8⟩),?_⟩
      refine⟨.is _,fun JJ hJJ ρ e5 => .H5 (.move e5 ⟨a8,a8⟩),?_⟩
      refine⟨.is _,fun JJ hJJ ρ e37 => .H5 (.add e37 a8 (by omega) (by omega) ⟨a8,a8⟩),?_⟩
      refine⟨.val (fun v J=>Sl J 1 v 64 (C5 ((m.drop (64*k)).take 64))) (fun _ _ _ h hle=>h.mono hle),fun JJ hJJ ρ e35 e36 e38 => .H5 (.slice (l:=64*k) (h:=64*k+64) a1P.und a1P.size e35 (hm.mono (hJ4.trans hJJ)) (.inr ⟨_,_,a8,e36.trans (congrArg (fun q=>some (i64 q)) (by omega))⟩) (.inr ⟨_,_,a8,e38.trans (congrArg (fun q=>some (i64 q)) (by omega))⟩) (by omega) (by omega) fun v' hv'=>⟨a8,c29 hv'⟩),?_⟩
      refine⟨.is _,fun JJ hJJ ρ e34 v39 e39 q39 => .a0L a8 (b0H e34 e39) (fun J hJ hL=>b5i J Y _ (by simp;omega) v39 (q39.mono hJ)) ⟨a8,a8⟩,?_⟩
      intro J5 hJ5 v39 q39
      refine .n (.a3d 0 8 a3T a8 a8 a8 a8 a8 a8 (.nil (.region a8 (.v (.move a8 (.v (.add a8 a8 (by omega) (by omega) (.v (.assign a8 ?_)))))))))
      refine .nil ⟨k+1,.cons ?_ (.cons rfl (.cons rfl (.cons rfl (.nil _)))),?_,by omega,by omega,hJ4.trans hJ5⟩
      · exact congrArg (fun q=>some (i64 q)) (by omega)
      · subst hX
        rfl
    have hkm:m.length/64=k:=by omega
    rw [hkm] at hsha
    generalize hY:feed iv m k=Y at hsha ⊢
    have hDl:(Y.l.flatMap a2f).length=32:=by rw [a2h,H8.length]
    refine .seq (.region a8 (.x (.alloc z24 fun b6 => .nil (.seq (.seq (.region a8 (.v (.assign a8 ?_))))))))
    refine .nil (.block (.loop (α:=Nat) (fun k => [(7,i64 k),(6,ptr b6 0),(4,ptr b4 0),(2,ptr b2 0)])
      (fun k => [[(b6,row (a68 (Y.l.flatMap a2f) k) 24)],[(b4,row Y.cells 241)],[],[(b2,row (List.replicate 32 (u8 0)) 24)]])
      (fun k _=>k≤32) (fun k=>32 - k) 0 (by omega)
      (.cons rfl (.cons rfl (.cons rfl (.cons rfl (.nil _))))) rfl fun i J5 hJ5 hi => ?_))
    refine .seq (.seq (.region a8 (.v (.move a8 (.v (.lss a8 a8 (.nil (.R4 a8 (fun hlt => .skip ?_) (fun hge => .exit ?_)))))))))
    · have hi32:i < 32:=by omega
      refine .seq (.block (.region a8 (.v (.move a8 (.v (.move a8 (.v (.quo a8 a8 (by omega) (by omega) (by omega) (.v (.C8 a0a a8 a8 (by omega) (by omega) (.v (.V0 1 underlying238 a8 a8 a8 (a8A Y (i/4) _ (by omega) (by omega)) (.v (.move a8 (.v (.rem a8 a8 (by omega) (by omega) (.v (.mul a8 a8 (by omega) (by omega) (.v (.sub a8 a8 (by omega) (by omega) (.v (.a1N underlying3 underlying206 a8 (.v (.b3S (24 - 8*(i % 4)) a8 a8 (c28 i) (by omega) (.v (.b6w underlying238 underlying5 a8 (.v (.C8 V2 a8 a8 (by omega) (by omega) ?_))))))))))))))))))))))))))))
      have hset:=b6W (Y.l.flatMap a2f) i (0+(i:Int).toNat*1) _ (by simp) hi32 hDl (b9s Y i hi32)
      refine .n (.a9r 0 sz5 a8 a8 a8 a8 a8 (by rw [a6G _ i hDl hi];simp;omega) (.nil (.region a8 (.v (.move a8 (.v (.add a8 a8 (by omega) (by omega) (.v (.assign a8 ?_)))))))))
      refine .nil ⟨i+1,.cons rfl (.cons rfl (.cons rfl (.cons rfl (.nil _)))),?_,by omega,by omega,hJ5⟩
      exact congrArg (fun c => [[(b6,row c 24)],[(b4,row Y.cells 241)],[],[(b2,row (List.replicate 32 (u8 0)) 24)]]) hset
    have hi32:i=32:=by omega
    subst hi32
    have ho:a68 (Y.l.flatMap a2f) 32=C5 (Y.l.flatMap a2f):=by
      rw [a68,List.take_of_length_le (by omega)];simp
    have hol:=a6G (Y.l.flatMap a2f) 32 hDl (Nat.le_refl _)
    refine .seq (.region a8 (.v (.a9q (cs:=a68 (Y.l.flatMap a2f) 32) 0 underlying24 a8 (by rw [hol];exact c1x) a8 a8 (.n (.a3d 3 32 c1x a8 a8 hol (a3O _ _ fun _=>a8) a8 a8 (.nil (.ret ⟨_,.r1 a8 (.b0G (cs:=a68 (Y.l.flatMap a2f) 32) 3 underlying24 a8 (by rw [hol];exact c1x) a8 a8),?_⟩)))))))
    rw [ho,hsha]
end Go.Proofs.YtalibdhdngbbcaaGreatDoor
namespace Go.Sha
open Go.Fl
theorem a8C (x:H8) (l m:List UInt8):∀ k,64*k≤l.length→feed x (l++m) k=feed x l k
 | 0,_=>rfl
 | k+1,h=>by
  rw [feed,feed,a8C x l m k (by omega),List.drop_append_of_le_length (by omega),List.take_append_of_le_length (by simp;omega)]
theorem b0O (x:H8) (l:List UInt8) (a:Nat):∀ b,feed x l (a+b)=feed (feed x l a) (l.drop (64*a)) b
 | 0=>rfl
 | b+1=>by
  rw [←Nat.add_assoc,feed,feed,b0O x l a b,List.drop_drop,Nat.mul_add]
theorem a2i (l:List UInt8):(rest l).length=l.length % 64:=by
 rw [rest,List.length_drop];omega
theorem a4G (x:H8) (l m:List UInt8):a3h (a3h x l) (rest l++m)=a3h x (l++m):=by
 have h1:(l++m).length/64=l.length/64+(rest l++m).length/64:=by
  rw [List.length_append,List.length_append,a2i];omega
 unfold a3h
 rw [h1,b0O,a8C x l m _ (by omega)]
 congr 1
 rw [rest,List.drop_append_of_le_length (by omega)]
theorem b0P (l m:List UInt8):rest (rest l++m)=rest (l++m):=by
 have h1:64*((l++m).length/64)=64*(l.length/64)+64*((rest l++m).length/64):=by
  rw [List.length_append,List.length_append,a2i];omega
 have h2:(l++m).drop (64*(l.length/64))=rest l++m:=by rw [rest,List.drop_append_of_le_length (by omega)]
 conv=>rhs;unfold rest
 rw [h1,←List.drop_drop,h2,rest]
theorem b9u (m k:Nat) (n:UInt64) (h:m % 64=k % 64):pad m n=pad k n:=by
 unfold pad a6d;rw [h]
theorem b5j (l:List UInt8):b2J l=a6e l:=by
 unfold a6e a43
 rw [a4G,b9u (rest l).length l.length _ (by rw [a2i];omega)]
 rfl
theorem a8k (l:List UInt8):(a6e l).length=32:=by rw [a6e,a43,a2h,H8.length]
end Go.Sha
namespace Go.Ab
open Go.Fl Go.RowKit
class p2 (α:Type) where
 size:Nat
 agg:Bool
 rep:Im→α→List Value→Prop
 len:∀ {I x cs},rep I x cs→cs.length=size
 mono:∀ {I J x cs},Le I J→rep I x cs→rep J x cs
 one:agg=false→size=1
 flat:∀ {I x cs},rep I x cs→a0A cs=true
open p2 (rep)
def asV (ag:Bool) (cs:List Value):Value:=if ag then .agg cs.toArray else cs.headD undef
def K4 {α:Type} [p2 α] (I:Im):List α→List Value→Prop
 | [],cs=>cs = []
 | x::l,cs=>∃ c r,cs=c++r∧rep I x c∧K4 I l r
theorem K4.mono {α:Type} [p2 α] {I J:Im} (hle:Le I J):∀ {l:List α} {cs:List Value},K4 I l cs→K4 J l cs
 | [],_,h=>h
 | x::l,_,h=>by obtain⟨c,r,h1,h2,h3⟩:=h;exact⟨c,r,h1,p2.mono hle h2,K4.mono hle h3⟩
theorem K4.len {α:Type} [p2 α] {I:Im}:∀ {l:List α} {cs:List Value},K4 I l cs→cs.length=l.length*p2.size α
 | [],_,h=>by simp [K4] at h;simp [h]
 | x::l,_,h=>by
  obtain⟨c,r,rfl,h2,h3⟩:=h
  simp [p2.len h2,h3.len,Nat.succ_mul,Nat.add_comm]
theorem a6H {xs ys:List Value} (h:a0A xs=true) (k:a0A ys=true):a0A (xs++ys)=true:=by
 simp only [a0A,List.all_append,Bool.and_eq_true] at *;exact⟨h,k⟩
theorem K4.flat {α:Type} [p2 α] {I:Im}:∀ {l:List α} {cs:List Value},K4 I l cs→a0A cs=true
 | [],_,h=>by simp [K4] at h;simp [h,a0A]
 | x::l,_,h=>by
  obtain⟨c,r,rfl,h2,h3⟩:=h
  exact a6H (p2.flat h2) h3.flat
theorem K4.append {α:Type} [p2 α] {I:Im}:∀ {l m:List α} {cs ds:List Value},K4 I l cs→K4 I m ds→K4 I (l++m) (cs++ds)
 | [],_,_,_,h,k=>by simp [K4] at h;simpa [h] using k
 | x::l,_,_,_,h,k=>by
  obtain⟨c,r,rfl,h2,h3⟩:=h
  exact⟨c,r++_,by simp,h2,h3.append k⟩
theorem K4.one {α:Type} [p2 α] {I:Im} {x:α} {c:List Value} (h:rep I x c):K4 I [x] c:=⟨c,[],by simp,h,rfl⟩
theorem K4.split {α:Type} [p2 α] {I:Im}:∀ {l m:List α} {cs:List Value},K4 I (l++m) cs→K4 I l (cs.take (l.length*p2.size α))∧K4 I m (cs.drop (l.length*p2.size α))
 | [],_,_,h=>by simp [K4];simpa using h
 | x::l,m,_,h=>by
  obtain⟨c,r,rfl,h2,h3⟩:=h
  have hl:=p2.len h2
  obtain⟨h4,h5⟩:=h3.split
  have e:(x::l).length*p2.size α=c.length+l.length*p2.size α:=by simp [hl,Nat.succ_mul,Nat.add_comm]
  rw [e,List.take_length_add_append,List.drop_length_add_append]
  exact⟨⟨c,_,a8,h2,h4⟩,h5⟩
theorem K4.get {α:Type} [p2 α] {I:Im} {l:List α} {cs:List Value} (h:K4 I l cs) (k:Nat) (hk:k < l.length):rep I l[k] (H7 cs (k*p2.size α) (p2.size α)):=by
 have e:l=l.take k++(l[k]::l.drop (k+1)):=by simp
 rw [e] at h
 obtain⟨_,h2⟩:=h.split
 obtain⟨c,r,h3,h4,h5⟩:=h2
 have hl:(l.take k).length=k:=by simp;omega
 rw [hl] at h3
 have:H7 cs (k*p2.size α) (p2.size α)=c:=by rw [H7,h3,←p2.len h4];simp
 rw [this];exact h4
theorem K4.set {α:Type} [p2 α] {I:Im} {l:List α} {cs vs:List Value} {y:α} (h:K4 I l cs) (k:Nat) (hk:k < l.length) (hy:rep I y vs):K4 I (l.set k y) (C9 cs (k*p2.size α) vs):=by
 have e:l=l.take k++(l[k]::l.drop (k+1)):=by simp
 have e2:l.set k y=l.take k++(y::l.drop (k+1)):=List.set_eq_take_append_cons_drop .. |>.trans (by simp [hk])
 rw [e] at h
 obtain⟨h1,h2⟩:=h.split
 obtain⟨c,r,h3,h4,h5⟩:=h2
 have hl:(l.take k).length=k:=by simp;omega
 rw [hl] at h1 h3
 rw [e2,C9]
 have hd:cs.drop (k*p2.size α+vs.length)=r:=by
  rw [←List.drop_drop,h3,p2.len hy,←p2.len h4];simp
 rw [hd,List.append_assoc]
 exact h1.append ⟨vs,r,rfl,hy,h5⟩
structure K5 (n:Nat) (α:Type) where
 l:List α
 h:l.length=n
instance {n:Nat} {α:Type} [DecidableEq α]:DecidableEq (K5 n α):=fun a b =>
 if h:a.l=b.l then isTrue (by cases a;cases b;cases h;rfl) else isFalse (fun e=>h (by rw [e]))
@[simp] theorem K5.len {n:Nat} {α:Type} (a:K5 n α):a.l.length=n:=a.h
theorem K5.ext {n:Nat} {α:Type} {a b:K5 n α} (h:a.l=b.l):a=b:=by cases a;cases b;cases h;rfl
instance {n:Nat} {α:Type} [Inhabited α]:Inhabited (K5 n α):=⟨⟨List.replicate n default,by simp⟩⟩
instance {n:Nat} {α:Type} [p2 α]:p2 (K5 n α) where
 size:=n*p2.size α
 agg:=true
 rep I x cs:=K4 I x.l cs
 len {_ x _} h:=by rw [h.len,x.h]
 mono hle h:=h.mono hle
 one h:=by cases h
 flat h:=h.flat
structure j6 (α β:Type) [p2 α] [p2 β] where
 off:Nat
 get:α→β
 set:β→α→α
 fits:off+p2.size β≤p2.size α
 a48:∀ {I x cs},rep I x cs→rep I (get x) (H7 cs off (p2.size β))
 a6f:∀ {I x cs y vs},rep I x cs→rep I y vs→rep I (set y x) (C9 cs off vs)
def SlA {α:Type} [p2 α] (I:Im) (v:Value) (l:List α):Prop:=∃ xs,Sl I (p2.size α) v l.length xs∧K4 I l xs
inductive AV:Type 1 where
 | v {α:Type} [r:p2 α] (x:α)
 | p {α:Type} [r:p2 α] (x:α)
 | raw (u:Value)
 | vc {α:Type} [r:p2 α] (l:List α)
 | ln {α β:Type} [r:p2 α] [s:p2 β] (w:Value) (l:j6 α β)
 | el {α β:Type} [r:p2 α] [s:p2 β] (w:Value) (k:Nat) (l:j6 α β)
 | sv {α β:Type} {n:Nat} [r:p2 α] [s:p2 β] (w:Value) (l:j6 α (K5 n β))
 | t2 (a b:AV)
 | t3 (a b c:AV)
 | t4 (a b c d:AV)
 | opt (c:Bool) (a:AV)
 | pr (p:Im→Value→Prop) (m:∀ {I J:Im} {u:Value},Le I J→p I u→p J u)
 | any
def b2K:Value→Option Nat
 | .pointer (some ⟨b,0,none⟩)=>some b
 | .slice (some ⟨b,0,none⟩) _ _=>some b
 | _=>none
def F8 (I:Im):AV→Value→Prop
 | @AV.v α r x,u=>∃ cs,@p2.rep α r I x cs∧u=asV (@p2.agg α r) cs
 | @AV.p α r x,u=>∃ b o cs,u=ptr b o ∧ @p2.rep α r I x cs∧Cells I b o cs
 | .raw w,u=>u=w
 | @AV.vc α r l,u=>(∃ a,u = .slice a l.length l.length) ∧ @SlA α r I u l
 | @AV.ln α β r s w l,u=>∃ b,b2K w=some b∧u=ptr b (@j6.off α β r s l)
 | @AV.el α β r s w k l,u=>∃ b,b2K w=some b∧u=ptr b (k * @p2.size α r + @j6.off α β r s l)
 | @AV.sv α β n r s w l,u=>∃ b,b2K w=some b∧u=slc b (@j6.off α (K5 n β) r _ l) n n
 | .t2 a b,u=>∃ x y,u = .tuple #[x,y]∧F8 I a x∧F8 I b y
 | .t3 a b c,u=>∃ x y z,u = .tuple #[x,y,z]∧F8 I a x∧F8 I b y∧F8 I c z
 | .t4 a b c d,u=>∃ x y z t,u = .tuple #[x,y,z,t]∧F8 I a x∧F8 I b y∧F8 I c z∧F8 I d t
 | .opt c a,u=>c=true→F8 I a u
 | .pr p _,u=>p I u
 | .any,_=>True
theorem F8.mono {I J:Im} (hle:Le I J):∀ {a:AV} {u:Value},F8 I a u→F8 J a u
 | @AV.v α r x,_,h=>by obtain⟨cs,h1,h2⟩:=h;exact⟨cs,@p2.mono α r _ _ _ _ hle h1,h2⟩
 | @AV.p α r x,_,h=>by obtain⟨b,o,cs,h1,h2,h3⟩:=h;exact⟨b,o,cs,h1,@p2.mono α r _ _ _ _ hle h2,h3.mono hle⟩
 | .raw w,_,h=>h
 | @AV.vc α r l,_,h=>⟨h.1,by obtain⟨_,xs,h1,h2⟩:=h;exact⟨xs,h1.mono hle,h2.mono hle⟩⟩
 | @AV.ln α β r s w l,_,h=>h
 | @AV.el α β r s w k l,_,h=>h
 | @AV.sv α β n r s w l,_,h=>h
 | .t2 a b,_,h=>by obtain⟨x,y,h1,h2,h3⟩:=h;exact⟨x,y,h1,h2.mono hle,h3.mono hle⟩
 | .t3 a b c,_,h=>by obtain⟨x,y,z,h1,h2,h3,h4⟩:=h;exact⟨x,y,z,h1,h2.mono hle,h3.mono hle,h4.mono hle⟩
 | .t4 a b c d,_,h=>by obtain⟨x,y,z,t,h1,h2,h3,h4,h5⟩:=h;exact⟨x,y,z,t,h1,h2.mono hle,h3.mono hle,h4.mono hle,h5.mono hle⟩
 | .opt c a,_,h=>fun hc=>(h hc).mono hle
 | .pr _ m,_,h=>m hle h
 | .any,_,h=>h
instance:p2 Int where
 size:=1
 agg:=false
 rep _ x cs:=cs = [i64 x] ∧ -9223372036854775808≤x∧x≤9223372036854775807
 len h:=by simp [h.1]
 mono _ h:=h
 one _:=rfl
 flat h:=by simp [h.1,a0A,Value.oneCell']
instance:p2 UInt8 where
 size:=1
 agg:=false
 rep _ x cs:=cs = [u8 x]
 len h:=by simp [h]
 mono _ h:=h
 one _:=rfl
 flat h:=by simp [h,a0A,u8,Value.oneCell']
instance:p2 UInt64 where
 size:=1
 agg:=false
 rep _ x cs:=cs = [u64 x]
 len h:=by simp [h]
 mono _ h:=h
 one _:=rfl
 flat h:=by simp [h,a0A,u64,Value.oneCell']
instance:p2 Bool where
 size:=1
 agg:=false
 rep _ x cs:=cs = [.bool x]
 len h:=by simp [h]
 mono _ h:=h
 one _:=rfl
 flat h:=by simp [h,a0A,Value.oneCell']
structure T5 where
 l:List UInt8
instance:Inhabited T5:=⟨⟨[]⟩⟩
instance:DecidableEq T5:=fun a b=>if h:a.l=b.l then isTrue (by cases a;cases b;cases h;rfl) else isFalse (fun e=>h (by rw [e]))
instance:p2 T5 where
 size:=1
 agg:=false
 rep _ x cs:=(∃ b:ByteArray,cs = [.string b]∧b.data.toList=x.l)∧x.l.length≤9223372036854775807
 len h:=by obtain⟨⟨b,h,_⟩,_⟩:=h;simp [h]
 mono _ h:=h
 one _:=rfl
 flat h:=by obtain⟨⟨b,h,_⟩,_⟩:=h;simp [h,a0A,Value.oneCell']
instance {α:Type} [p2 α]:p2 (List α) where
 size:=1
 agg:=false
 rep I x cs:=∃ v,cs = [v]∧SlA I v x
 len h:=by obtain⟨v,h,_⟩:=h;simp [h]
 mono hle h:=by obtain⟨v,h,xs,h1,h2⟩:=h;exact⟨v,h,xs,h1.mono hle,h2.mono hle⟩
 one _:=rfl
 flat h:=by
  obtain⟨v,h,xs,h1,_⟩:=h
  obtain⟨a,c,rfl,_⟩:=h1
  simp [h,a0A,Value.oneCell']
instance:p2 Unit where
 size:=0
 agg:=true
 rep _ _ cs:=cs = []
 len h:=by simp [h]
 mono _ h:=h
 one h:=by cases h
 flat h:=by simp [h,a0A]
instance {α β:Type} [p2 α] [p2 β]:p2 (α×β) where
 size:=p2.size α+p2.size β
 agg:=true
 rep I x cs:=∃ c r,cs=c++r∧rep I x.1 c∧rep I x.2 r
 len h:=by obtain⟨c,r,rfl,h1,h2⟩:=h;simp [p2.len h1,p2.len h2]
 mono hle h:=by obtain⟨c,r,e,h1,h2⟩:=h;exact⟨c,r,e,p2.mono hle h1,p2.mono hle h2⟩
 one h:=by cases h
 flat h:=by obtain⟨c,r,rfl,h1,h2⟩:=h;exact a6H (p2.flat h1) (p2.flat h2)
@[reducible] def p2.via {S T:Type} [p2 T] (f:S→T):p2 S where
 size:=p2.size T
 agg:=true
 rep I x cs:=p2.rep I (f x) cs
 len h:=p2.len h
 mono hle h:=p2.mono hle h
 one h:=by cases h
 flat h:=p2.flat h
theorem b0Q {cs:List Value} {n:Nat} (h:cs.length=n):H7 cs 0 n=cs:=by subst h;exact a7t cs
def j6.id {α:Type} [p2 α]:j6 α α where
 off:=0
 get x:=x
 set y _:=y
 fits:=by simp
 a48 h:=by rw [b0Q (p2.len h)];exact h
 a6f h k:=by rw [a7u _ _ (by rw [p2.len h,p2.len k])];exact k
def j6.fst {α β:Type} [p2 α] [p2 β]:j6 (α×β) α where
 off:=0
 get x:=x.1
 set y x:=(y,x.2)
 fits:=by simp [p2.size]
 a48 h:=by
  obtain⟨c,r,rfl,h1,h2⟩:=h
  have:H7 (c++r) 0 (p2.size α)=c:=by rw [H7,←p2.len h1];simp
  rw [this];exact h1
 a6f h k:=by
  obtain⟨c,r,rfl,h1,h2⟩:=h
  refine⟨_,r,?_,k,h2⟩
  rw [C9,Nat.zero_add,p2.len k,←p2.len h1];simp
def j6.snd {α β:Type} [p2 α] [p2 β]:j6 (α×β) β where
 off:=p2.size α
 get x:=x.2
 set y x:=(x.1,y)
 fits:=by simp [p2.size]
 a48 h:=by
  obtain⟨c,r,rfl,h1,h2⟩:=h
  have:H7 (c++r) (p2.size α) (p2.size β)=r:=by rw [H7,←p2.len h1,←p2.len h2];simp
  rw [this];exact h2
 a6f h k:=by
  obtain⟨c,r,rfl,h1,h2⟩:=h
  refine⟨c,_,?_,h1,k⟩
  rw [C9,p2.len k,←p2.len h1,←p2.len h2]
  simp
theorem a4H {cs:List Value} {o n p m:Nat} (h:p+m≤n):H7 (H7 cs o n) p m=H7 cs (o+p) m:=by
 simp only [H7,List.drop_take,List.take_take,List.drop_drop]
 congr 1;omega
theorem a2u {cs vs:List Value} {o n p:Nat} (h:p+vs.length≤n) (hn:o+n≤cs.length):C9 cs o (C9 (H7 cs o n) p vs)=C9 cs (o+p) vs:=by
 have hl:(H7 cs o n).length=n:=by simp [H7];omega
 have hll:(C9 (H7 cs o n) p vs).length=n:=by rw [Y4 _ _ _ (by omega),hl]
 apply List.ext_getElem?
 intro i
 rw [V1 (cs:=cs) (o:=o) (by omega),V1 (cs:=cs) (o:=o+p) (by omega),hll]
 by_cases h1:i < o
 ·rw [if_pos h1,if_pos (by omega)]
 ·rw [if_neg h1]
  by_cases h2:i < o+n
  ·rw [if_pos h2,V1 (by omega)]
   have hg:∀ j,j < n→(H7 cs o n)[j]?=cs[o+j]?:=fun j hj=>by simp [H7,hj]
   by_cases h3:i - o < p
   ·rw [if_pos h3,if_pos (by omega),hg _ (by omega)];congr 1;omega
   ·rw [if_neg h3,if_neg (show ¬i < o+p by omega)]
    by_cases h4:i - o < p+vs.length
    ·rw [if_pos h4,if_pos (by omega)];congr 1;omega
    ·rw [if_neg h4,if_neg (by omega),hg _ (by omega)];congr 1;omega
  ·rw [if_neg h2,if_neg (by omega),if_neg (by omega)]
def j6.comp {α β γ:Type} [p2 α] [p2 β] [p2 γ] (l:j6 α β) (m:j6 β γ):j6 α γ where
 off:=l.off+m.off
 get x:=m.get (l.get x)
 set y x:=l.set (m.set y (l.get x)) x
 fits:=by have:=l.fits;have:=m.fits;omega
 a48 h:=by
  have:=m.a48 (l.a48 h)
  rwa [a4H m.fits] at this
 a6f h k:=by
  have h1:=l.a48 h
  have h2:=l.a6f h (m.a6f h1 k)
  have hf:=l.fits
  have hm:=m.fits
  rw [a2u (by rw [p2.len k];exact m.fits) (by rw [p2.len h];exact hf)] at h2
  exact h2
def j6.idx {n:Nat} {α:Type} [p2 α] (k:Nat) (hk:k < n):j6 (K5 n α) α where
 off:=k*p2.size α
 get x:=x.l[k]'(by rw [x.h];exact hk)
 set y x:=⟨x.l.set k y,by simp [x.h]⟩
 fits:=by
  have:=Nat.mul_le_mul_right (p2.size α) (Nat.succ_le_of_lt hk)
  simp only [p2.size,Nat.succ_mul] at *;exact this
 a48 {_ x _} h:=K4.get h k (by rw [x.h];exact hk)
 a6f {_ x _ _ _} h y:=K4.set h k (by rw [x.h];exact hk) y
def j6.via {S T β:Type} [r:p2 T] [p2 β] (f:S→T) (m:j6 T β) (get:S→β) (set:β→S→S) (hg:∀ x,get x=m.get (f x)) (hs:∀ y x,f (set y x)=m.set y (f x)) : @j6 S β (p2.via f) _ :=
  letI:p2 S:=p2.via f
  { off := m.off, get := get, set := set, fits := m.fits, a48 := fun {_ x _} h => by rw [hg]; exact m.a48 h, a6f := fun {_ x _ y _} h k => by
      have:=m.a6f h k
      rw [←hs] at this;exact this }
end Go.Ab
namespace Go.Ab
open Go.Fl Go.RowKit
open p2 (rep)
def a1c (e:TypeId) (s:Nat) (v:Value) (n:Nat) (xs:List Value) (X:List (Nat×Obj)):Prop :=
 ((∃ a,v = .slice a 0 0)∧n=0∧xs = []∧X = []) ∨
 ∃ b c sp q,v=slc b 0 n c∧X = [(b,.cells (xs++sp).toArray e q)]∧xs.length=n*s∧(xs++sp).length=c*s∧n≤c∧c≤maxLen∧(q=(0,0)∨q=((xs++sp).length,(xs++sp).length+1))
theorem a1c.nil (e:TypeId) (s:Nat):a1c e s (.slice none 0 0) 0 [] [] := .inl ⟨⟨none,rfl⟩,rfl,rfl,rfl⟩
theorem a1c.empty (e:TypeId) (s:Nat) (a:Option Addr):a1c e s (.slice a 0 0) 0 [] [] := .inl ⟨⟨a,rfl⟩,rfl,rfl,rfl⟩
theorem Sl.empty (I:Im) (s:Nat) (a:Option Addr):Sl I s (.slice a 0 0) 0 []:=⟨a,0,rfl,by simp,Nat.le_refl _,by simp [maxLen],fun _=>rfl,fun h=>absurd rfl h⟩
theorem a1c.of {e:TypeId} {s n:Nat} {v:Value} {xs:List Value} {X:List (Nat×Obj)} (h:Own e s v n xs X):a1c e s v n xs X:=by
 rcases h with ⟨h1,h2⟩|⟨b,c,sp,h1,h2,h3,h4,h5,h6⟩
 ·exact .inl ⟨⟨none,h1⟩,h2⟩
 ·exact .inr ⟨b,c,sp,(0,0),h1,h2,h3,h4,h5,h6,.inl a8⟩
theorem a1c.shape {e:TypeId} {s n:Nat} {v:Value} {xs:List Value} {X:List (Nat×Obj)} (h:a1c e s v n xs X):∃ a c,v = .slice a n c:=by
 rcases h with ⟨⟨a,rfl⟩,rfl,_⟩|⟨b,c,sp,q,rfl,_⟩
 ·exact⟨_,_,a8⟩
 ·exact⟨_,_,a8⟩
theorem a1c.len {e:TypeId} {s n:Nat} {v:Value} {xs:List Value} {X:List (Nat×Obj)} (h:a1c e s v n xs X):xs.length=n*s:=by
 rcases h with ⟨_,rfl,rfl,_⟩|⟨b,c,sp,q,_,_,h,_⟩
 ·simp
 ·exact h
theorem a1c.le {e:TypeId} {s n:Nat} {v:Value} {xs:List Value} {X:List (Nat×Obj)} (h:a1c e s v n xs X):n≤9223372036854775807:=by
 rcases h with ⟨_,rfl,rfl,_⟩|⟨b,c,sp,q,_,_,_,_,h1,h2,_⟩
 ·simp
 ·unfold maxLen at h2;omega
theorem a1c.sl {e:TypeId} {s n:Nat} {v:Value} {xs:List Value} {X:List (Nat×Obj)} (h:a1c e s v n xs X) {J:Im} (hJ:∀ p∈X,J p.1=some p.2):Sl J s v n xs:=by
 rcases h with ⟨⟨a,rfl⟩,rfl,rfl,rfl⟩|⟨b,c,sp,q,rfl,rfl,h3,h4,h5,h6,_⟩
 ·exact Sl.empty J s a
 ·refine Sl.a3N ⟨_,_,_,hJ _ (List.mem_singleton.2 rfl),fun i v hv => ?_⟩ h3 h5 h6
  have hi:=(List.getElem?_eq_some_iff.1 hv).1
  simp only [Nat.zero_add,List.getElem?_toArray]
  rw [List.getElem?_append_left hi];exact hv
theorem Q5 (P : Program) (g o : Nat) (t : TypeId) (q : Nat × Nat) : ∀ (vs : List Value) (i : Nat) (cur : Array Value) (w : World), w.heap[g]? = some (.cells cur t q) → o + i + vs.length ≤ cur.size → (∀ v ∈ vs, v.oneCell' = true) →
    (∀ j,j < cur.size→¬(q.1≤j∧j < q.2))→(storeCells ⟨g,o,none⟩ vs i).run P w = .ok () (w.setRow g (cur.toList.take (o+i)++vs++cur.toList.drop (o+i+vs.length)).toArray)
  | [],i,cur,w,hg,_,_,_=>by
    simp only [storeCells,List.append_nil,List.length_nil,Nat.add_zero,List.take_append_drop,Array.toArray_toList]
    rw [setRow_self w g cur t q hg]
    rfl
  | v::rest,i,cur,w,hg,hl,h1,hq=>by
    have hi:o+i < cur.size:=by simp at hl;omega
    have hadd:(⟨g,o,none⟩:Addr).add i=⟨g,o+i,none⟩:=by unfold Addr.add;split<;>simp_all
    have hcell:w.cell? ⟨g,o+i,none⟩=some cur[o+i]:=by simp [World.cell?,hg,hi]
    have hfro:w.frozen? ⟨g,o+i,none⟩=false:=by
      have:=hq (o+i) hi
      simp only [World.frozen?,hg]
      simp only [Bool.and_eq_false_iff,decide_eq_false_iff_not]
      omega
    have hst:(store ((⟨g,o,none⟩:Addr).add i) v).run P w = .ok () (w.setRow g (cur.setIfInBounds (o+i) v)):=by
      rw [hadd,run_store P w _ v _ (h1 v (by simp)),hcell]
      simp [hfro,setCell_eq_setRow w g (o+i) cur t q v hg]
    have ih:=Q5 P g o t q rest (i+1) (cur.setIfInBounds (o+i) v) (w.setRow g (cur.setIfInBounds (o+i) v)) (setRow_heap w g cur _ t _ hg) (by simp at hl ⊢;omega) (fun x hx=>h1 x (by simp [hx])) (by simpa using hq)
    simp only [storeCells,Sem.run_bind,hst,Result.andThen_ok,ih,setRow_setRow]
    congr 3
    have e:=list_seg_step cur.toList (o+i) v rest (by simp at hl ⊢;omega)
    simpa [Array.toList_setIfInBounds,Nat.add_assoc] using e
theorem a7g {C:Ctx} {I:Im} {L:Lh} {w:World} (hs:St C I L w) {i b:Nat} {cs:List Value} {e:TypeId} {q:Nat×Nat} (hL:L[i]?=some [(b,.cells cs.toArray e q)]) (cs':List Value):St C I (L.set i [(b,.cells cs'.toArray e q)]) (w.setRow b cs'.toArray):=by
 have hb:=hs.mem.loc (b,.cells cs.toArray e q) (F7 hL (by simp))
 exact hs.write hL (setRow_heap w b _ _ e q hb) (fun k hk=>setRow_other w b k _ hk) (by simp) rfl rfl rfl
section
variable {P:Program} {C:Ctx} {N:Nat} {ρ:Env} {I:Im} {L:Lh} {K:Value→Im→Lh→Prop} {d:Option Nat} {ty:TypeId} {ps:String} {af:Array Edge} {g:Option (Nat×Bool)}
variable {x y z:Operand} {T T2 E:TypeId}
theorem a6I {w:World} (hm:Mem I L w) {i b:Nat} {cs:List Value} {e:TypeId} {q:Nat×Nat} (hL:L[i]?=some [(b,.cells cs.toArray e q)]) (o:Nat):w.cell? ⟨b,o,none⟩=cs[o]?:=by
 have:=hm.loc (b,.cells cs.toArray e q) (F7 hL (by simp))
 rw [cell_of this]
 simp
theorem Src.c3a {s m:Nat} {v:Value} {news:List Value} {X:List (Nat×Obj)} {e:TypeId} (i:Nat) (hL:L[i]?=some X) (h:a1c e s v m news X):Src P I L s v m news:=by
 rcases h with ⟨⟨a,rfl⟩,rfl,rfl,rfl⟩|⟨b,c,sp,q,rfl,rfl,h1,h2,h3,h4,h5⟩
 ·exact Src.sl (Sl.empty I s a)
 ·refine⟨fun w=>by simp [Builtin.lenOf],fun w hm k hk => ?_,h1⟩
  have hle:k*s≤m*s:=Nat.mul_le_mul_right _ hk
  have htl:(news.take (k*s)).length=k*s:=by rw [List.length_take,h1];exact Nat.min_eq_left hle
  have:=run_loadCells_list (P:=P) w ⟨b,0,none⟩ (news.take (k*s)) (fun j u hj=>by
   rw [List.getElem?_take] at hj
   split at hj
   ·rw [Addr.add_plain,a6I hm hL,Nat.zero_add,List.getElem?_append_left (List.getElem?_eq_some_iff.1 hj).1];exact hj
   ·cases hj)
  rw [htl] at this
  simp only [Builtin.firstCells,this]
theorem OpS.a9G (i : Nat) {n m : Nat} {a0 : Option Addr} {c : Nat} {u : Value} {xs news : List Value} {X : List (Nat × Obj)} {U : TypeId} {inf : TypeInfo} {zv : Value} (hzs : zv.cells.size = inf.size) {a : Act} {w : World}
    (hxe:ev ρ x=some (.slice a0 n c)) (hye:ev ρ y=some u) (ha:Fits N ρ a) (hst:St C I L w) (hL:L[i]?=some X) (hown:a1c E inf.size (.slice a0 n c) n xs X) (hnl:news.length=m*inf.size) (h1:a0A news=true)
    (hn63:n+m≤maxLen)
    (hboth:(n+m≤c→(Builtin.append_ #[T,U] ty #[.slice a0 n c,u]).run P w=((match a0 with|some ad=>storeCells (ad.add (n*inf.size)) news|none=>pure ()).run P w).andThen fun _ w' => .ok (.slice a0 (n+m) c) w') ∧
    (c < n+m→∀ olds,((Builtin.firstCells inf.size n (.slice a0 n c)).run P w.drew = .ok olds w.drew) →
      (Builtin.append_ #[T,U] ty #[.slice a0 n c,u]).run P w = .ok (.slice (some ⟨w.heap.size,0,none⟩) (n+m) (grownCap w (n+m) c E))
        (w.drew.alloc (.cells (olds++news.toArray++Builtin.zeroCells zv.cells (grownCap w (n+m) c E - (n+m))) E))))
    (k:∀ v' X',a1c E inf.size v' (n+m) (xs++news) X'→(∀ p∈X',p.1∈X.map Prod.fst∨C.w0.heap.size≤p.1)→K v' I (L.set i X')) :
    Yld P ((execOp a.eval ⟨d,.call ⟨.builtin .append,#[x,y],#[T,U]⟩,ty,ps,af,g⟩).run P w) fun v w'=>∃ J L',St C J L' w'∧K v J L':=by
  have hmem:∀ w',w'.heap=w.heap→Mem I L w':=fun w' hw=>⟨by rw [hw];exact hst.mem.im,by rw [hw];exact hst.mem.loc,hst.mem.sep,hst.mem.nodup⟩
  have hop:∀ r,(Builtin.append_ #[T,U] ty #[.slice a0 n c,u]).run P w=r→(execOp a.eval ⟨d,.call ⟨.builtin .append,#[x,y],#[T,U]⟩,ty,ps,af,g⟩).run P w=r.andThen fun v w' => .ok (.value v) w':=fun r hr=>by
    simp [execOp,resolve,invoke,builtin,ha.ev hxe,ha.ev hye,hr]
  have hxl:=hown.len
  by_cases hroom:n+m≤c
  · have hr:=hboth.1 hroom
    rcases hown with ⟨⟨a1,hv⟩,rfl,rfl,rfl⟩|⟨b,c',sp,q,hv,rfl,h2,h3,h4,h5,h6⟩
    · cases hv
      have hm0:m=0:=by omega
      subst hm0
      have hn0:news = []:=List.eq_nil_of_length_eq_zero (by simpa using hnl)
      subst hn0
      have hr2:(Builtin.append_ #[T,U] ty #[.slice a0 0 0,u]).run P w = .ok (.slice a0 0 0) w:=by
        rw [hr];cases a0<;>rfl
      rw [hop _ hr2]
      refine⟨I,L.set i [],?_,k _ _ (by simpa using a1c.empty E inf.size a0) (by simp)⟩
      exact hst.b2v i
    · cases hv
      rw [hop _ hr]
      have hbh:=hst.mem.loc (b,.cells (xs++sp).toArray E q) (F7 hL (by simp))
      have hfit:n*inf.size+news.length≤(xs++sp).length:=by rw [hnl,h3,←Nat.add_mul];exact Nat.mul_le_mul_right _ hroom
      have hall:∀ u∈news,u.oneCell'=true:=fun u hu=>List.all_eq_true.1 h1 u hu
      have hst2:=Q5 P b (n*inf.size) E q news 0 (xs++sp).toArray w hbh (by simpa using hfit) hall (fun j hj=>by rcases h6 with rfl|rfl<;>simp at hj ⊢ <;> omega)
      simp only [Nat.add_zero] at hst2
      have hseg:List.take (n*inf.size) (xs++sp)++news++List.drop (n*inf.size+news.length) (xs++sp)=(xs++news)++sp.drop news.length:=by
        rw [←h2,List.take_left,List.drop_append]
        simp
      simp only [Addr.add_plain,Nat.zero_add,hst2,Result.andThen_ok]
      refine⟨I,L.set i [(b,.cells ((xs++news)++sp.drop news.length).toArray E q)],?_,k _ _ (.inr ⟨b,c,sp.drop news.length,q,a8,a8,?_,?_,hroom,h5,?_⟩) (by simp)⟩
      · rw [hseg];exact a7g hst hL _
      · rw [List.length_append,h2,hnl,Nat.add_mul]
      · have:(xs++sp).length=n*inf.size+sp.length:=by rw [List.length_append,h2]
        simp only [List.length_append,List.length_drop]
        rw [h3] at this hfit
        omega
      · have hle:news.length≤sp.length:=by rw [List.length_append,h2] at hfit;omega
        have e:((xs++news)++sp.drop news.length).length=(xs++sp).length:=by simp;omega
        rw [e];exact h6
  · have hlt:c < n+m:=by omega
    have hold:(Builtin.firstCells inf.size n (.slice a0 n c)).run P w.drew = .ok xs.toArray w.drew:=by
      have:=(Src.c3a (P:=P) (I:=I) i hL hown).cells w.drew (hmem w.drew rfl) n (Nat.le_refl _)
      rwa [←hxl,List.take_length] at this
    have hr:=hboth.2 hlt _ hold
    rw [hop _ hr]
    have hge:=grownCap_ge w (n+m) c E
    have hcm:grownCap w (n+m) c E≤maxLen:=grownCap_le_maxLen w (n+m) c E hn63
    refine⟨I,_,hst.replace hL a8 a8 a8 a8,k _ _ (.inr ⟨w.heap.size,_,(Builtin.zeroCells zv.cells (grownCap w (n+m) c E - (n+m))).toList,(0,0),a8,?_,?_,?_,hge,hcm,.inl a8⟩) (fun p hp => .inr (by simp only [List.mem_singleton] at hp;subst hp;exact hst.chg.size))⟩
    · have hz2:xs.toArray++news.toArray++Builtin.zeroCells zv.cells (grownCap w (n+m) c E - (n+m))=(xs++news++(Builtin.zeroCells zv.cells (grownCap w (n+m) c E - (n+m))).toList).toArray:=by
        apply Array.ext'
        simp
      rw [hz2]
    · rw [List.length_append,hxl,hnl,Nat.add_mul]
    · simp only [List.length_append,Array.length_toList,size_zeroCells,hzs,hxl,hnl,←Nat.add_mul]
      congr 1
      omega
theorem OpS.b4e (i : Nat) {s by_ n m : Nat} {v u : Value} {xs news : List Value} {X : List (Nat × Obj)} {U : TypeId} (he : Elt P T E s by_) (hs0 : 0 < s) (hU : (∃ E2, P.underlying U = some (.slice E2)) ∨ P.underlying U = some .string)
    (hx:ev ρ x=some v) (hy:ev ρ y=some u) (hL:L[i]?=some X) (hown:a1c E s v n xs X) (hsrc:Src P I L s u m news) (h1:a0A news=true)
    (hn63:n+m≤maxLen) (hb:(n+m)*by_≤140737488355328) (k:∀ v' X',a1c E s v' (n+m) (xs++news) X'→(∀ p∈X',p.1∈X.map Prod.fst∨C.w0.heap.size≤p.1)→K v' I (L.set i X')) :
    OpS P C N ⟨d,.call ⟨.builtin .append,#[x,y],#[T,U]⟩,ty,ps,af,g⟩ ρ I L K:=fun a w ha hst=>by
  obtain⟨inf,zv,hi,hz,rfl,rfl,hzs⟩:=he.info
  have hmem:∀ w',w'.heap=w.heap→Mem I L w':=fun w' hw=>⟨by rw [hw];exact hst.mem.im,by rw [hw];exact hst.mem.loc,hst.mem.sep,hst.mem.nodup⟩
  have hcells:∀ w',w'.heap=w.heap→(Builtin.firstCells inf.size m u).run P w' = .ok news.toArray w':=fun w' hw=>by
    have:=hsrc.cells w' (hmem w' hw) m (Nat.le_refl _)
    rwa [←hsrc.size,List.take_length] at this
  have h63:n+m≤9223372036854775807:=by unfold maxLen at hn63;omega
  obtain⟨a0,c,rfl⟩:=hown.shape
  have hboth:(n+m≤c→(Builtin.append_ #[T,U] ty #[.slice a0 n c,u]).run P w=((match a0 with|some ad=>storeCells (ad.add (n*inf.size)) news|none=>pure ()).run P w).andThen fun _ w' => .ok (.slice a0 (n+m) c) w') ∧
    (c < n+m→∀ olds,((Builtin.firstCells inf.size n (.slice a0 n c)).run P w.drew = .ok olds w.drew) →
      (Builtin.append_ #[T,U] ty #[.slice a0 n c,u]).run P w = .ok (.slice (some ⟨w.heap.size,0,none⟩) (n+m) (grownCap w (n+m) c E))
        (w.drew.alloc (.cells (olds++news.toArray++Builtin.zeroCells zv.cells (grownCap w (n+m) c E - (n+m))) E))):=by
    rcases hU with ⟨E2,hU⟩|hU
    · exact a2r he.und hi hz hU hsrc.len hcells h63 hb
    · exact a1O he.und hi hz hU hsrc.len hcells h63 hb
  exact a9G i hzs hx hy ha hst hL hown hsrc.size h1 hn63 hboth k
end
end Go.Ab
namespace Go.Ab
open Go.Fl Go.RowKit
open p2 (rep)
abbrev x5:=List (Nat×AV)
def F0:x5→Nat→Option AV
 | [],_=>none
 | (s,v)::r,t=>bif Nat.beq s t then some v else F0 r t
theorem I8 (s:Nat) (v:AV) (ρ:x5) (t:Nat):F0 ((s,v)::ρ) t=if s=t then some v else F0 ρ t:=by
 by_cases h:s=t
 ·subst h;simp [F0]
 ·simp [F0,h,a4W h]
class UB (α:Type) where
 ub:Im→Value→α→List (Nat×Obj)→Prop
 mono:∀ {I J w x X},Le I J→ub I w x X→ub J w x X
inductive D8:Type 1 where
 | ob {α:Type} [r:p2 α] (w:Value) (x:α)
 | own {α:Type} [r:p2 α] (E:TypeId) (w:Value) (l:List α)
 | fz (w:Value) (a:AV)
 | usr {α:Type} [r:UB α] (w:Value) (x:α)
 | none_
def D8.a69 (I:Im):D8→List (Nat×Obj)→Prop
 | @D8.ob α r w x,X=>∃ b T cs,w=ptr b 0∧X = [(b,row cs T)] ∧ @p2.rep α r I x cs
 | @D8.own α r E w l,X=>∃ xs,a1c E (@p2.size α r) w l.length xs X ∧ @K4 α r I l xs
 | .fz w a,X=>X = []∧F8 I a w
 | @D8.usr α r w x,X=>r.ub I w x X
 | .none_,_=>True
theorem D8.mono {I J:Im} (hle:Le I J):∀ {B:D8} {X:List (Nat×Obj)},B.a69 I X→B.a69 J X
 | @D8.ob α r w x,_,h=>by obtain⟨b,T,cs,h1,h2,h3⟩:=h;exact⟨b,T,cs,h1,h2,@p2.mono α r _ _ _ _ hle h3⟩
 | @D8.own α r E w l,_,h=>by obtain⟨xs,h1,h2⟩:=h;exact⟨xs,h1,h2.mono hle⟩
 | .fz w a,_,h=>⟨h.1,h.2.mono hle⟩
 | @D8.usr α r w x,_,h=>r.mono hle h
 | .none_,_,_=>trivial
abbrev j7:=List (Bool×D8)
def b2L (n0:Nat) (I:Im) (B:Bool×D8) (X:List (Nat×Obj)):Prop:=B.2.a69 I X∧(B.1=true→∀ p∈X,n0≤p.1)
def U2 (n0:Nat) (I:Im):j7→Lh→Prop
 | [],L=>L = []
 | B::H,L=>∃ X R,L=X::R∧b2L n0 I B X∧U2 n0 I H R
theorem b2L.mono {n0:Nat} {I J:Im} (hle:Le I J) {B:Bool×D8} {X:List (Nat×Obj)} (h:b2L n0 I B X):b2L n0 J B X:=⟨D8.mono hle h.1,h.2⟩
theorem U2.mono {n0:Nat} {I J:Im} (hle:Le I J):∀ {H:j7} {L:Lh},U2 n0 I H L→U2 n0 J H L
 | [],_,h=>h
 | B::H,_,h=>by obtain⟨X,R,h1,h2,h3⟩:=h;exact⟨X,R,h1,h2.mono hle,h3.mono hle⟩
theorem U2.append {n0:Nat} {I:Im}:∀ {H K:j7} {L M:Lh},U2 n0 I H L→U2 n0 I K M→U2 n0 I (H++K) (L++M)
 | [],_,_,_,h,k=>by simp [U2] at h;simpa [h] using k
 | B::H,_,_,_,h,k=>by obtain⟨X,R,rfl,h2,h3⟩:=h;exact⟨X,R++_,rfl,h2,h3.append k⟩
structure RSt (C:Ctx) (I:Im) (L:Lh) (σ:x5) (H:j7) (ρ:Env):Prop where
 env:∀ t a,F0 σ t=some a→∃ u,Fl.look ρ t=some u∧F8 I a u
 heap:U2 C.w0.heap.size I H L
 W3:Le C.I0 I
theorem RSt.mono {C:Ctx} {I J:Im} {L:Lh} {σ:x5} {H:j7} {ρ:Env} (hle:Le I J) (h:RSt C I L σ H ρ):RSt C J L σ H ρ :=
 ⟨fun t a ht=>by obtain⟨u,h1,h2⟩:=h.env t a ht;exact⟨u,h1,h2.mono hle⟩,h.heap.mono hle,h.W3.trans hle⟩
theorem RSt.put {C : Ctx} {I J : Im} {L L' : Lh} {σ : x5} {H H' : j7} {ρ : Env} (hle : Le I J) (h : RSt C I L σ H ρ) {d : Nat} {r : AV} {v : Value} (hv : F8 J r v) (hH : U2 C.w0.heap.size J H' L') :
    RSt C J L' ((d,r)::σ) H' ((d,v)::ρ):=by
  refine⟨fun t a ht => ?_,hH,h.W3.trans hle⟩
  rw [I8] at ht
  rw [Fl.U0]
  by_cases e:d=t
  · rw [if_pos e] at ht ⊢;cases ht;exact⟨v,rfl,hv⟩
  · rw [if_neg e] at ht ⊢
    obtain⟨u,h1,h2⟩:=h.env t a ht
    exact⟨u,h1,h2.mono hle⟩
def a7B (σ' σ:x5):Prop:=∀ t a,F0 σ' t=some a→F0 σ t=some a
theorem a7B.nil (σ:x5):a7B [] σ:=fun _ _ h=>by simp [F0] at h
theorem a7B.cons {σ' σ:x5} {t:Nat} {a:AV} (h:F0 σ t=some a) (k:a7B σ' σ):a7B ((t,a)::σ') σ:=fun s b hb=>by
 rw [I8] at hb
 by_cases e:t=s
 ·subst e;simp at hb;subst hb;exact h
 ·rw [if_neg e] at hb;exact k s b hb
theorem RSt.sub {C:Ctx} {I:Im} {L:Lh} {σ σ':x5} {H:j7} {ρ:Env} (h:RSt C I L σ H ρ) (k:a7B σ' σ):RSt C I L σ' H ρ:=⟨fun t a ht=>h.env t a (k t a ht),h.heap,h.W3⟩
def qA (C:Ctx) (Q:Exit→x5→j7→Prop):Exit→Env→Im→Lh→Prop:=fun e ρ I L=>∃ σ H,RSt C I L σ H ρ∧Q e σ H
def I9 (P:Program) (C:Ctx) (N:Nat) (c:Code) (Q:Exit→x5→j7→Prop) (σ:x5) (H:j7):Prop :=
 ∀ ρ I L,RSt C I L σ H ρ→wpS P C N c (qA C Q) ρ I L
def D1 (P:Program) (C:Ctx) (N:Nat) (ops:Array Oper) (Q:Exit→x5→j7→Prop) (l:List Oper) (σ:x5) (H:j7):Prop :=
 ∀ ρ I L,RSt C I L σ H ρ→wpL P C N ops (qA C Q) l ρ I L
def D5 (C:Ctx) (σ:x5) (H:j7) (x:Operand) (a:AV):Prop:=∀ ρ I L,RSt C I L σ H ρ→∃ u,ev ρ x=some u∧F8 I a u
section evA
variable {C:Ctx} {σ:x5} {H:j7}
theorem D5.t {t:Nat} {a:AV} (h:F0 σ t=some a):D5 C σ H (.tmp t) a:=fun ρ I L hs=>hs.env t a h
theorem D5.i {n:Int} (h:(decide (-9223372036854775808≤n)&&decide (n≤9223372036854775807))=true):D5 C σ H (.const (.int .i64 n)) (.v n):=fun ρ I L hs=>by
 simp only [Bool.and_eq_true,decide_eq_true_eq] at h
 exact⟨_,a8,_,⟨a8,h.1,h.2⟩,a8⟩
theorem D5.u8 (x:UInt8) {m:Int} (h:m=(x.toNat:Int)):D5 C σ H (.const (.int .u8 m)) (.v x):=fun ρ I L hs=>⟨_,rfl,_,rfl,by rw [h];rfl⟩
theorem D5.u64 (x:UInt64) {m:Int} (h:m=(x.toNat:Int)):D5 C σ H (.const (.int .u64 m)) (.v x):=fun ρ I L hs=>⟨_,rfl,_,rfl,by rw [h];rfl⟩
theorem D5.b {x:Bool}:D5 C σ H (.const (.bool x)) (.v x):=fun ρ I L hs=>⟨_,rfl,_,rfl,rfl⟩
theorem D5.s {x:ByteArray} (l:List UInt8) (h:x.data.toList=l) (hl:l.length≤9223372036854775807):D5 C σ H (.const (.string x)) (.v (T5.mk l)):=fun ρ I L hs=>⟨_,rfl,_,⟨⟨x,rfl,h⟩,hl⟩,rfl⟩
theorem D5.b5k {α:Type} [p2 α]:D5 C σ H (.const (.slice none 0 0)) (.v ([]:List α)):=fun ρ I L hs=>⟨_,rfl,_,⟨_,rfl,[],Sl.nil I _,rfl⟩,rfl⟩
theorem D5.raw {u:Value}:D5 C σ H (.const u) (.raw u):=fun ρ I L hs=>⟨_,rfl,rfl⟩
theorem D5.c {α:Type} {r:p2 α} {t:Nat} {l:List α} (h:F0 σ t=some (.vc l)):D5 C σ H (.tmp t) (.v l):=fun ρ I L hs=>by
 obtain⟨u,h1,h2,h3⟩:=hs.env t _ h
 exact⟨u,h1,[u],⟨u,a8,h3⟩,a8⟩
theorem D5.o {t:Nat} {a:AV} {c:Bool} (h:F0 σ t=some (.opt c a)) (hc:c=true):D5 C σ H (.tmp t) a:=fun ρ I L hs=>by
 obtain⟨u,h1,h2⟩:=hs.env t _ h
 exact⟨u,h1,h2 hc⟩
theorem D5.int {x:Operand} {n:Int} (h:D5 C σ H x (.v n)) {ρ:Env} {I:Im} {L:Lh} (hs:RSt C I L σ H ρ):ev ρ x=some (i64 n) ∧ -9223372036854775808≤n∧n≤9223372036854775807:=by
 obtain⟨u,h1,cs,⟨rfl,h2⟩,rfl⟩:=h ρ I L hs
 exact⟨h1,h2⟩
theorem D5.bool {x:Operand} {b:Bool} (h:D5 C σ H x (.v b)) {ρ:Env} {I:Im} {L:Lh} (hs:RSt C I L σ H ρ):ev ρ x=some (.bool b):=by
 obtain⟨u,h1,cs,rfl,rfl⟩:=h ρ I L hs
 exact h1
theorem D5.by8 {x:Operand} {n:UInt8} (h:D5 C σ H x (.v n)) {ρ:Env} {I:Im} {L:Lh} (hs:RSt C I L σ H ρ):ev ρ x=some (Fl.u8 n):=by
 obtain⟨u,h1,cs,rfl,rfl⟩:=h ρ I L hs
 exact h1
theorem D5.a0l {x:Operand} {n:UInt64} (h:D5 C σ H x (.v n)) {ρ:Env} {I:Im} {L:Lh} (hs:RSt C I L σ H ρ):ev ρ x=some (Fl.u64 n):=by
 obtain⟨u,h1,cs,rfl,rfl⟩:=h ρ I L hs
 exact h1
theorem D5.str {x:Operand} {s:T5} (h:D5 C σ H x (.v s)) {ρ:Env} {I:Im} {L:Lh} (hs:RSt C I L σ H ρ):∃ b,ev ρ x=some (.string b)∧b.data.toList=s.l:=by
 obtain⟨u,h1,cs,⟨⟨b,rfl,h2⟩,_⟩,rfl⟩:=h ρ I L hs
 exact⟨b,h1,h2⟩
theorem D5.a8D {x:Operand} {s:T5} (h:D5 C σ H x (.v s)) {ρ:Env} {I:Im} {L:Lh} (hs:RSt C I L σ H ρ):s.l.length≤9223372036854775807:=by
 obtain⟨u,h1,cs,⟨_,h2⟩,rfl⟩:=h ρ I L hs
 exact h2
theorem D5.sl {α:Type} {r:p2 α} {x:Operand} {l:List α} (h:D5 C σ H x (.v l)) {ρ:Env} {I:Im} {L:Lh} (hs:RSt C I L σ H ρ):∃ u,ev ρ x=some u∧SlA I u l:=by
 obtain⟨u,h1,cs,⟨v,rfl,h2⟩,rfl⟩:=h ρ I L hs
 exact⟨_,h1,h2⟩
end evA
section control
variable {P:Program} {C:Ctx} {N:Nat} {Q:Exit→x5→j7→Prop} {σ:x5} {H:j7}
theorem I9.skip (h:Q .normal σ H):I9 P C N .skip Q σ H:=fun ρ I L hs => .skip ⟨σ,H,hs,h⟩
theorem I9.ret (h:Q .ret σ H):I9 P C N .ret Q σ H:=fun ρ I L hs => .ret ⟨σ,H,hs,h⟩
theorem I9.exit {id:Nat} (h:Q (.exit id) σ H):I9 P C N (.exit id) Q σ H:=fun ρ I L hs => .exit ⟨σ,H,hs,h⟩
@[reducible] def a8E (next:x5→j7→Prop) (Q:Exit→x5→j7→Prop):Exit→x5→j7→Prop
 | .normal,σ,H=>next σ H
 | e,σ,H=>Q e σ H
theorem I9.seq {x y:Code} (h:I9 P C N x (a8E (I9 P C N y Q) Q) σ H):I9 P C N (.seq x y) Q σ H:=fun ρ I L hs=>by
 refine .seq ((h ρ I L hs).mono fun e ρ I L ⟨σ,H,h1,h2⟩ => ?_)
 cases e with
 | normal=>exact h2 ρ I L h1
 | _=>exact⟨σ,H,h1,h2⟩
theorem I9.cond {c:Operand} {x y:Code} {b:Bool} (hc:D5 C σ H c (.v b)) (ht:b=true→I9 P C N x Q σ H) (hf:b=false→I9 P C N y Q σ H):I9 P C N (.cond c x y) Q σ H :=
 fun ρ I L hs => .cond (hc.bool hs) (fun e=>ht e ρ I L hs) (fun e=>hf e ρ I L hs)
theorem I9.R4 {c:Operand} {x y:Code} {p:Prop} {_:Decidable p} (hc:D5 C σ H c (.v (decide p))) (ht:p→I9 P C N x Q σ H) (hf:¬p→I9 P C N y Q σ H):I9 P C N (.cond c x y) Q σ H :=
 .cond hc (fun e=>ht (of_decide_eq_true e)) (fun e=>hf (of_decide_eq_false e))
@[reducible] def a5a (id:Nat) (Q:Exit→x5→j7→Prop):Exit→x5→j7→Prop
 | .exit i,σ,H=>bif Nat.beq i id then Q .normal σ H else Q (.exit i) σ H
 | e,σ,H=>Q e σ H
theorem I9.block {id:Nat} {c:Code} (h:I9 P C N c (a5a id Q) σ H):I9 P C N (.block id c) Q σ H:=fun ρ I L hs=>by
 refine .block ((h ρ I L hs).mono fun e ρ I L ⟨σ,H,h1,h2⟩ => ?_)
 cases e with
 | exit i =>
  simp only [a9k,a5a] at *
  cases hb:Nat.beq i id with
  | true=>simp only [hb,cond_true] at *;exact⟨σ,H,h1,h2⟩
  | false=>simp only [hb,cond_false] at *;exact⟨σ,H,h1,h2⟩
 | _=>exact⟨σ,H,h1,h2⟩
theorem wpS.c3b {Q : Exit → Env → Im → Lh → Prop} {ρ : Env} {I : Im} {L : Lh} {α : Type} (E : α → Env) (Lf : α → Lh) (F : α → Im → Prop) (μ : α → Nat) {c : Code}
    (x0:α) (h0:F x0 I) (hE:Sub (E x0) ρ) (hL:L=Lf x0)
    (round:∀ x J,F x J→wpS P C N c (b6k (fun ρ' J' L'=>∃ x',Sub (E x') ρ'∧L'=Lf x'∧F x' J'∧μ x' < μ x) Q) (E x) J (Lf x)) :
    wpS P C N (.loop c) Q ρ I L:=fun a w ha hw=>by
  intro b k cs hro hfn hroom
  have key : ∀ n x J a w, μ x = n → F x J → Fits N (E x) a → St C J (Lf x) w →
      ∃ e a' w',a6A C N Q e a' w'∧ArrivesIn (Machine.fenced P C.fen) P (lone (b.atR a (.code c :: .inLoop c::k)) cs w) b k cs e a' w':=by
    intro n
    induction n using Nat.strongRecOn with
    | _ n ih =>
      intro x J a w hn hF ha hw
      obtain⟨e,a1,w1,⟨ρ1,J1,L1,hf1,hs1,hq1⟩,harr⟩:=round x J hF a w ha hw b (.inLoop c::k) cs hro hfn hroom
      cases e with
      | normal =>
        obtain⟨x',hsub,rfl,hF',hlt⟩:=hq1
        obtain⟨e2,a2,w2,hq2,harr2⟩:=ih (μ x') (hn▸hlt) x' J1 a1 w1 rfl hF' (hf1.sub hsub) hs1
        exact⟨e2,a2,w2,hq2,.of_steps (StepsIn.trans harr (.one (fenced_calm hfn hroom a8) stepR_inLoop)) harr2⟩
      | exit id=>exact⟨_,a1,w1,⟨ρ1,J1,L1,hf1,hs1,hq1⟩,.pass (x := .inLoop c) rfl (fun _ _ => .inl (by simp)) harr⟩
      | goto l=>exact⟨_,a1,w1,⟨ρ1,J1,L1,hf1,hs1,hq1⟩,.pass (x := .inLoop c) rfl (fun _ _ => .inl (by simp)) harr⟩
      | ret=>exact⟨_,a1,w1,⟨ρ1,J1,L1,hf1,hs1,hq1⟩,.pass (x := .inLoop c) rfl (fun _ _ => .inl (by simp)) harr⟩
      | panic ch=>exact⟨_,a1,w1,⟨ρ1,J1,L1,hf1,hs1,hq1⟩,.pass (x := .inLoop c) rfl (fun _ _ => .inl (by simp)) harr⟩
      | outgrown=>exact⟨_,a1,w1,⟨ρ1,J1,L1,hf1,hs1,hq1⟩,.pass (x := .inLoop c) rfl (fun _ _ => .inl (by simp)) harr⟩
  subst hL
  obtain⟨e,a',w',hq,harr⟩:=key _ x0 I a w rfl h0 (ha.sub hE) hw
  exact⟨e,a',w',hq,.of_steps (.one (fenced_calm hfn hroom a8) stepR_loop) harr⟩
theorem I9.loop {α : Type} (E : α → x5) (Hf : α → j7) (F : α → Prop) (μ : α → Nat) {c : Code}
    (x0:α) (h0:F x0) (hE:a7B (E x0) σ) (hH:H=Hf x0)
    (round:∀ x,F x→I9 P C N c (a8E (fun σ' H'=>∃ x',a7B (E x') σ'∧H'=Hf x'∧F x'∧μ x' < μ x) Q) (E x) (Hf x)) :
    I9 P C N (.loop c) Q σ H:=fun ρ I L hs=>by
  refine wpS.c3b (α:=α×Env×Lh) (fun y=>y.2.1) (fun y=>y.2.2) (fun y J=>F y.1∧RSt C J y.2.2 (E y.1) (Hf y.1) y.2.1) (fun y=>μ y.1) (x0,ρ,L) ⟨h0,hH▸hs.sub hE⟩ (Sub.refl _) rfl ?_
  rintro⟨x,ρ1,L1⟩ J ⟨hF,hR⟩
  refine(round x hF ρ1 J L1 hR).mono fun e ρ2 J2 L2 ⟨σ2,H2,h1,h2⟩ => ?_
  cases e with
  | normal =>
    obtain⟨x',k1,k2,k3,k4⟩:=h2
    subst k2
    exact⟨(x',ρ2,L2),Sub.refl _,a8,⟨k3,h1.sub k1⟩,k4⟩
  | _=>exact⟨σ2,H2,h1,h2⟩
theorem I9.E1 (R : x5) {α : Type} (V : α → x5 → x5) (Hf : α → j7) (F : α → Prop) (μ : α → Nat) {c : Code}
    (x0:α) (hR:a7B R σ) (h0:F x0) (hE:a7B (V x0 R) σ) (hH:H=Hf x0)
    (round:∀ x,F x→I9 P C N c (a8E (fun σ' H'=>∃ x',a7B (V x' R) σ'∧H'=Hf x'∧F x'∧μ x' < μ x) Q) (V x R) (Hf x)) :
    I9 P C N (.loop c) Q σ H := .loop (fun x=>V x R) Hf F μ x0 h0 hE hH round
end control
abbrev c8:Bool×D8:=(true,.none_)
abbrev j1 (l:List (Bool×D8)) (k:Nat):Bool×D8:=List.getD l k (true,.none_)
abbrev c9:Bool:=true
abbrev j0:Bool:=false
end Go.Ab
