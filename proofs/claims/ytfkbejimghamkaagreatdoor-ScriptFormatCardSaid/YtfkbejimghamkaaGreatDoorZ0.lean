/- Plain Lean over any program, and walks of this seat's functions: contracts, each proved once (part 0). -/
import Derived.Lib.ItoaNum
import Derived.Lib.AtoiAll
import Derived.WalkKit
import Derived.KernelRfl
import Derived.StillTail
import Derived.OrdersIn
import Derived.TacticsIn
import Derived.RangeFuncIn
import Derived.RangeFuncRecord
import Derived.Laws.MakeOwn
import Derived.ChangeKeysEq
import Derived.Test.YtfkbejimghamkaaGreatDoorProg
import Derived.Laws.CopyRow
import Derived.Laws.IdiomStrings
set_option maxRecDepth 1000000
set_option synthInstance.maxSize 1000000
set_option synthInstance.maxHeartbeats 10000000
set_option linter.unusedVariables false
set_option linter.unusedSimpArgs false
namespace Go
universe u
theorem a8 {α : Sort u} {a : α} : a = a := rfl
end Go
namespace Go.Ab
open Go.Lib
theorem O0 (n:Nat):decDigits n=if n < 10 then [UInt8.ofNat (48+n)] else decDigits (n/10) ++ [UInt8.ofNat (48+n % 10)]:=by
 rw [decDigits];by_cases h:n < 10<;>simp [h]
theorem a5p {p:Nat→Prop} (h0:∀ n,n < 10→p n) (h1:∀ n,10≤n→p (n/10)→p n):∀ n,p n:=by
 intro n
 induction n using Nat.strongRecOn with
 | _ n ih =>
  by_cases h:n < 10
  ·exact h0 n h
  ·exact h1 n (by omega) (ih (n/10) (by omega))
def digit (c:UInt8):Bool:=decide (48≤c)&&decide (c≤57)
theorem a1e {k:Nat} (h:k < 10):(UInt8.ofNat (48+k)).toNat=48+k:=by simp [UInt8.toNat_ofNat'];omega
theorem a6m {k:Nat} (h:k < 10):digit (UInt8.ofNat (48+k))=true:=by
 have:=a1e h
 simp only [digit,Bool.and_eq_true,decide_eq_true_eq,UInt8.le_iff_toNat_le,this]
 constructor<;>simp<;>omega
theorem a1V:∀ n,(decDigits n).all digit=true:=a5p (fun n h=>by rw [O0,if_pos h,List.all_cons,a6m h];rfl) fun n h ih=>by
 rw [O0,if_neg (by omega),List.all_append,ih,List.all_cons,a6m (show n % 10 < 10 by omega)];rfl
theorem a5q (n:Nat):decDigits n ≠ []:=by rw [O0];split<;>simp
theorem S6 {k:Nat}:∀ n,n < 10^k→(decDigits n).length≤max 1 k:=by
 induction k with
 | zero=>intro n h;rw [O0,if_pos (by omega)];simp
 | succ k ih =>
  intro n h
  rw [O0]
  split
  ·simp
  ·have:=ih (n/10) (by rw [Nat.pow_succ] at h;omega)
   simp only [List.length_append,List.length_singleton]
   by_cases hk:k=0
   ·subst hk;omega
   ·omega
theorem a88 (l:List UInt8) (k:Nat) (hk:k < 10):∀ acc u,parseUint10 acc l = .ok u→u < 1000000000000000000→parseUint10 acc (l ++ [UInt8.ofNat (48+k)]) = .ok (u*10+k):=by
 have hd:=a1e hk
 induction l with
 | nil =>
  intro acc u h hu
  simp only [parseUint10] at h
  injection h with h
  subst h
  simp only [List.nil_append,parseUint10,hd]
  rw [if_pos (by omega),if_neg (by omega),if_neg (by omega)]
  congr 1;omega
 | cons c r ih =>
  intro acc u h hu
  simp only [parseUint10] at h
  simp only [List.cons_append,parseUint10]
  split at h
  ·rename_i hc
   rw [if_pos hc]
   split at h
   ·cases h
   ·rename_i h1
    rw [if_neg h1]
    split at h
    ·cases h
    ·rename_i h2
     rw [if_neg h2]
     exact ih _ _ h hu
  ·cases h
theorem a4N : ∀ n, n < 1000000000000000000 → parseUint10 0 (decDigits n) = .ok n := a5p (fun n h _ => by
    rw [O0,if_pos h]
    have hd:=a1e h
    simp only [parseUint10,hd]
    rw [if_pos (by omega),if_neg (by omega),if_neg (by omega)]
    congr 1;omega) fun n h ih hn=>by
  rw [O0,if_neg (by omega),a88 _ _ (by omega) 0 (n/10) (ih (by omega)) (by omega)]
  congr 1;omega
theorem a3Q {n:Nat} (h:n < 1000000000000000000):atoiAll (decDigits n) = .ok (n:Int):=by
 have hp:=a4N n h
 have hd:=a1V n
 have hne:=a5q n
 cases hl:decDigits n with
 | nil=>exact absurd hl hne
 | cons c r =>
  rw [hl] at hp hd
  have hc:digit c=true:=by simp only [List.all_cons,Bool.and_eq_true] at hd;exact hd.1
  simp only [digit,Bool.and_eq_true,decide_eq_true_eq,UInt8.le_iff_toNat_le] at hc
  have h1:48≤c.toNat:=hc.1
  clear hc
  unfold atoiAll
  have e1:¬(c.toNat=43∨c.toNat=45):=by omega
  have e2:¬c.toNat=45:=by omega
  have hm:parseMag (c::r) = .ok n:=by unfold parseMag;rw [if_neg (by simp),hp]
  have h3:¬9223372036854775808≤n:=by omega
  simp only [show ¬c.toNat=43 by omega,e2,or_self,if_false,hm,not_false_eq_true,true_and,false_and,h3]
def y2 (c:UInt8):List UInt8→List UInt8×List UInt8×Bool
 | []=>([],[],false)
 | x::r=>if x=c then ([],r,true) else (x::(y2 c r).1,(y2 c r).2.1,(y2 c r).2.2)
theorem a0w {c:UInt8}:∀ {a:List UInt8} (b:List UInt8),(∀ x∈a,x≠c)→y2 c (a++c::b)=(a,b,true)
 | [],b,_=>by simp [y2]
 | x::a,b,h=>by
  have ih:=a0w (a:=a) b fun y hy=>h y (by simp [hy])
  rw [List.cons_append,y2,if_neg (h x (by simp)),ih]
theorem a5r {c:UInt8}:∀ {a:List UInt8},(∀ x∈a,x≠c)→y2 c a=(a,[],false)
 | [],_=>rfl
 | x::a,h=>by rw [y2,if_neg (h x (by simp)),a5r fun y hy=>h y (by simp [hy])]
def A0 (c:UInt8):List UInt8→List (List UInt8)
 | [] => [[]]
 | x::r=>if x=c then []::A0 c r else match A0 c r with | [] => [[x]]|h::t=>(x::h)::t
def E0 (c:UInt8):List (List UInt8)→List UInt8
 | [] => []
 | [x]=>x
 | x::y::l=>x++c::E0 c (y::l)
theorem a1w (c:UInt8):∀ l,A0 c l ≠ []
 | []=>by simp [A0]
 | x::r=>by rw [A0];split<;>(try simp)<;>split<;>simp
theorem a3R {c:UInt8}:∀ {a:List UInt8} (b:List UInt8),(∀ x∈a,x≠c)→A0 c (a++c::b)=a::A0 c b
 | [],b,_=>by simp [A0]
 | x::a,b,h=>by
  have ih:=a3R (a:=a) b fun y hy=>h y (by simp [hy])
  rw [List.cons_append,A0,if_neg (h x (by simp)),ih]
theorem a4O {c:UInt8}:∀ {a:List UInt8},(∀ x∈a,x≠c)→A0 c a = [a]
 | [],_=>rfl
 | x::a,h=>by rw [A0,if_neg (h x (by simp)),a4O fun y hy=>h y (by simp [hy])]
theorem a0R {c:UInt8}:∀ {l:List (List UInt8)},l ≠ []→(∀ a∈l,∀ x∈a,x≠c)→A0 c (E0 c l)=l
 | [],h,_=>absurd rfl h
 | [a],_,h=>by rw [E0,a4O (h a (by simp))]
 | a::b::l,_,h=>by rw [E0,a3R _ (h a (by simp)),a0R (by simp) fun y hy=>h y (by simp [hy])]
def G6 (m:UInt64) (n:Nat):List Nat:=(List.range n).filter fun i=>m.toNat.testBit i
def orL (l:List Nat):UInt64:=l.foldl (fun m i=>m ||| (1 <<< UInt64.ofNat i)) 0
theorem a5s {i:Nat} (h:i < 64) (j:Nat):((1:UInt64) <<< UInt64.ofNat i).toNat.testBit j=decide (i=j):=by
 rw [UInt64.toNat_shiftLeft,UInt64.toNat_ofNat']
 have e:i % 2^64 % 64=i:=by omega
 rw [e]
 show(1 <<< i % 2^64).testBit j=_
 rw [Nat.testBit_mod_two_pow,Nat.one_shiftLeft,Nat.testBit_two_pow]
 by_cases hj:i=j
 ·subst hj;simp [h]
 ·simp [hj]
theorem a8x:∀ (l:List Nat) (m:UInt64),(∀ i∈l,i < 64)→∀ j,(l.foldl (fun m i=>m ||| (1 <<< UInt64.ofNat i)) m).toNat.testBit j=(m.toNat.testBit j||decide (j∈l))
 | [],m,_,j=>by simp
 | i::l,m,h,j=>by
  rw [List.foldl_cons,a8x l _ (fun k hk=>h k (by simp [hk])) j,UInt64.toNat_or,Nat.testBit_or,a5s (h i (by simp))]
  by_cases e:i=j
  ·subst e;simp
  ·have e2:¬j=i:=fun x=>e x.symm
   simp [e,e2]
theorem a5t {m:UInt64} {n:Nat} (hn:n≤64) (hm:m.toNat < 2^n):orL (G6 m n)=m:=by
 apply UInt64.toNat_inj.1
 apply Nat.eq_of_testBit_eq
 intro j
 unfold orL
 rw [a8x _ _ (fun i hi=>by
  have:=(List.mem_filter.1 hi).1
  have:=List.mem_range.1 this
  omega)]
 unfold G6
 by_cases hj:j < n
 ·simp [hj]
 ·rw [Nat.testBit_lt_two_pow (Nat.lt_of_lt_of_le hm (Nat.pow_le_pow_right (by decide) (by omega)))]
  simp [hj]
end Go.Ab
namespace Go.Fl
open Go.RowKit
theorem a1W {s t:Nat} (h:s≠t):Nat.beq s t=false:=by
 cases hb:Nat.beq s t
 ·rfl
 ·exact absurd (Nat.eq_of_beq_eq_true hb) h
abbrev Env:=List (Nat×Value)
def look:Env→Nat→Option Value
 | [],_=>none
 | (s,v)::r,t=>bif Nat.beq s t then some v else look r t
def ev (ρ:Env):Operand→Option Value
 | .tmp t=>look ρ t
 | .const v=>some v
 | .global g=>some (.pointer (some ⟨g,0,none⟩))
 | .func f=>some (.func (.func f) #[] #[])
structure Fits (N:Nat) (ρ:Env) (a:Act):Prop where
 defers:a.defers = []
 size:a.tmps.size=N
 tmp:∀ t v,look ρ t=some v→a.tmps[t]?=some v
theorem Fits.ev {N:Nat} {ρ:Env} {a:Act} (h:Fits N ρ a) {x:Operand} {v:Value} (hx:ev ρ x=some v):a.eval x=v:=by
 cases x with
 | tmp t=>have:=h.tmp t v hx;simp [Act.eval,this]
 | const u=>simpa [Fl.ev,Act.eval] using hx
 | global g=>simpa [Fl.ev,Act.eval] using hx
 | func f=>simpa [Fl.ev,Act.eval] using hx
theorem M6 (s:Nat) (v:Value) (ρ:Env) (t:Nat):look ((s,v)::ρ) t=if s=t then some v else look ρ t:=by
 by_cases h:s=t
 ·subst h;simp [look]
 ·simp [look,h,a1W h]
theorem Fits.put {N:Nat} {ρ:Env} {a:Act} (h:Fits N ρ a) {d:Nat} (hd:d < N) (v:Value):Fits N ((d,v)::ρ) (a.put (some d) v):=by
 refine⟨h.defers,by simp [Act.put,h.size],fun t u hu => ?_⟩
 rw [M6] at hu
 by_cases e:d=t
 ·subst e
  simp at hu
  subst hu
  simp [Act.put,h.size,hd]
 ·rw [if_neg e] at hu
  simp only [Act.put,Array.getElem?_setIfInBounds_ne e]
  exact h.tmp t u hu
def Sub (σ ρ:Env):Prop:=∀ t v,look σ t=some v→look ρ t=some v
theorem Sub.refl (ρ:Env):Sub ρ ρ:=fun _ _ h=>h
theorem Fits.sub {N:Nat} {σ ρ:Env} {a:Act} (h:Fits N ρ a) (k:Sub σ ρ):Fits N σ a:=⟨h.defers,h.size,fun t v hv=>h.tmp t v (k t v hv)⟩
abbrev Im:=Nat→Option Obj
abbrev Lh:=List (List (Nat×Obj))
def Le (I J:Im):Prop:=∀ b o,I b=some o→J b=some o
theorem Le.refl (I:Im):Le I I:=fun _ _ h=>h
theorem Le.trans {I J K:Im} (h:Le I J) (k:Le J K):Le I K:=fun b o ho=>k b o (h b o ho)
structure Mem (I:Im) (L:Lh) (w:World):Prop where
 im:∀ b o,I b=some o→w.heap[b]?=some o
 loc:∀ p∈L.flatten,w.heap[p.1]?=some p.2
 sep:∀ p∈L.flatten,I p.1=none
 nodup:(L.flatten.map Prod.fst).Nodup
structure Chg (M:List Nat) (w w':World):Prop where
 os:w'.os=w.os
 tape:w'.tape=w.tape
 output:w'.output=w.output
 size:w.heap.size≤w'.heap.size
 block:∀ k,k < w.heap.size→k∉M→w'.heap[k]?=w.heap[k]?
theorem Chg.refl (M:List Nat) (w:World):Chg M w w:=⟨rfl,rfl,rfl,Nat.le_refl _,fun _ _ _=>rfl⟩
theorem Chg.trans {M:List Nat} {a b c:World} (h:Chg M a b) (k:Chg M b c):Chg M a c :=
 ⟨k.os.trans h.os,k.tape.trans h.tape,k.output.trans h.output,Nat.le_trans h.size k.size,
  fun i hi hm=>(k.block i (Nat.lt_of_lt_of_le hi h.size) hm).trans (h.block i hi hm)⟩
theorem Chg.mono {M M':List Nat} {a b:World} (h:Chg M a b) (hm:∀ k∈M,k < a.heap.size→k∈M'):Chg M' a b :=
 ⟨h.os,h.tape,h.output,h.size,fun i hi hn=>h.block i hi (fun hx=>hn (hm i hx hi))⟩
structure Ctx where
 w0:World
 M:List Nat
 I0:Im
 rd:Option Nat
abbrev Ctx.fen (C:Ctx):Fence := { Fence.wide with round:=C.rd }
structure St (C:Ctx) (I:Im) (L:Lh) (w:World):Prop where
 mem:Mem I L w
 S4:Chg C.M C.w0 w
 own:∀ p∈L.flatten,C.w0.heap.size≤p.1∨p.1∈C.M
 U0:Le C.I0 I
 new:∀ b,C.I0 b=none→I b≠none→C.w0.heap.size≤b
def a4P (n:Nat) (I J:Im):Prop:=∀ b,I b=none→J b≠none→n≤b
theorem A8 {w:World} {b:Nat} {o:Obj} (h:w.heap[b]?=some o):b < w.heap.size:=(Array.getElem?_eq_some_iff.1 h).1
def a3S (C:Ctx) (N:Nat) (Q:Exit→Env→Im→Lh→Prop):Exit→Act→World→Prop :=
 fun e a w=>∃ ρ I L,Fits N ρ a∧St C I L w∧Q e ρ I L
def wpS (P:Program) (C:Ctx) (N:Nat) (c:Code) (Q:Exit→Env→Im→Lh→Prop) (ρ:Env) (I:Im) (L:Lh):Prop :=
 ∀ a w,Fits N ρ a→St C I L w→c.wpIn C.fen 0 P (a3S C N Q) a w
def H7 (N:Nat) (l:List Oper):Bool:=l.all fun o=>match o.dst with|some d=>Nat.blt d N|none=>true
def wpL (P:Program) (C:Ctx) (N:Nat) (ops:Array Oper) (Q:Exit→Env→Im→Lh→Prop) (l:List Oper) (ρ:Env) (I:Im) (L:Lh):Prop :=
 H7 N l=true→∀ a w,Fits N ρ a→St C I L w→wpListIn C.fen 0 P ops (a3S C N Q) l a w
section control
variable {P:Program} {C:Ctx} {N:Nat} {Q:Exit→Env→Im→Lh→Prop} {ρ:Env} {I:Im} {L:Lh}
theorem wpS.mono {Q':Exit→Env→Im→Lh→Prop} {c:Code} (h:wpS P C N c Q ρ I L) (hq:∀ e ρ I L,Q e ρ I L→Q' e ρ I L):wpS P C N c Q' ρ I L :=
 fun a w ha hw=>wpIn_mono (h a w ha hw) fun _ _ _ ⟨ρ,I,L,h1,h2,h3⟩=>⟨ρ,I,L,h1,h2,hq _ _ _ _ h3⟩
theorem wpS.skip (h:Q .normal ρ I L):wpS P C N .skip Q ρ I L:=fun a w ha hw=>wpIn_skip ⟨ρ,I,L,ha,hw,h⟩
theorem wpS.ret (h:Q .ret ρ I L):wpS P C N .ret Q ρ I L:=fun a w ha hw=>wpIn_ret ⟨ρ,I,L,ha,hw,h⟩
theorem wpS.exit {id:Nat} (h:Q (.exit id) ρ I L):wpS P C N (.exit id) Q ρ I L:=fun a w ha hw=>wpIn_exit ⟨ρ,I,L,ha,hw,h⟩
@[reducible] def b2j (next:Env→Im→Lh→Prop) (Q:Exit→Env→Im→Lh→Prop):Exit→Env→Im→Lh→Prop
 | .normal,ρ,I,L=>next ρ I L
 | e,ρ,I,L=>Q e ρ I L
theorem wpS.seq {x y:Code} (h:wpS P C N x (b2j (wpS P C N y Q) Q) ρ I L):wpS P C N (.seq x y) Q ρ I L:=fun a w ha hw=>by
 refine wpIn_seq (wpIn_mono (h a w ha hw) fun e a w ⟨ρ,I,L,h1,h2,h3⟩ => ?_)
 cases e with
 | normal=>exact h3 a w h1 h2
 | _=>exact⟨ρ,I,L,h1,h2,h3⟩
theorem wpS.cond {c : Operand} {x y : Code} {b : Bool} (hc : ev ρ c = some (.bool b)) (ht : b = true → wpS P C N x Q ρ I L) (hf : b = false → wpS P C N y Q ρ I L) :
    wpS P C N (.cond c x y) Q ρ I L:=fun a w ha hw=>wpIn_cond_split (ha.ev hc) (fun e=>ht e a w ha hw) (fun e=>hf e a w ha hw)
@[reducible] def a5u (id:Nat) (Q:Exit→Env→Im→Lh→Prop):Exit→Env→Im→Lh→Prop
 | .exit i,ρ,I,L=>bif Nat.beq i id then Q .normal ρ I L else Q (.exit i) ρ I L
 | e,ρ,I,L=>Q e ρ I L
theorem wpS.block {id:Nat} {c:Code} (h:wpS P C N c (a5u id Q) ρ I L):wpS P C N (.block id c) Q ρ I L:=fun a w ha hw=>by
 refine wpIn_block (wpIn_mono (h a w ha hw) fun e a w ⟨ρ,I,L,h1,h2,h3⟩ => ?_)
 cases e with
 | exit i =>
  by_cases hi:i=id
  ·subst hi
   simp only [Exit.inBlock,if_true]
   exact⟨ρ,I,L,h1,h2,by simpa [a5u] using h3⟩
  ·have hb:Nat.beq i id=false:=a1W hi
   simp only [Exit.inBlock,if_neg hi]
   exact⟨ρ,I,L,h1,h2,by simpa [a5u,hb] using h3⟩
 | _=>exact⟨ρ,I,L,h1,h2,h3⟩
end control
def Yld (P:Program) (r:Result Next) (K:Value→World→Prop):Prop :=
 match r with
 | .ok (.value v) w'=>K v w'
 | .ok .skip w'=>K undef w'
 | .ok (.enter f args) w'=>Calls P f args w' (fun e w''=>∃ v,e = .returned v∧K v w'')
 | .ok (.round l f tmps assign body) w'=>RoundIn Fence.wide 0 P l f tmps assign body w' (fun e w''=>∃ v,e = .returned v∧K v w'')
 | _=>False
theorem Yld.mono {P:Program} {r:Result Next} {K K':Value→World→Prop} (h:Yld P r K) (hk:∀ v w,K v w→K' v w):Yld P r K':=by
 unfold Yld at *
 split at h
 ·exact hk _ _ h
 ·exact hk _ _ h
 ·exact Calls.mono h (fun e w ⟨v,he,hv⟩=>⟨v,he,hk _ _ hv⟩)
 ·exact RoundIn.mono h (fun e w ⟨v,he,hv⟩=>⟨v,he,hk _ _ hv⟩)
 ·exact h.elim
theorem Yld.wp {C : Ctx} {P : Program} {o : Oper} {a : Act} {w : World} {K : Act → World → Prop} {Q : Exit → Act → World → Prop}
    (h:Yld P ((execOp a.eval o).run P w) (fun v w'=>K (a.put o.dst v) w')):o.wpIn C.fen 0 P a w K Q:=by
  refine⟨fun _ _=>trivial,?_⟩
  have hs:(o.semAt C.fen.round a.eval).run P w=(execOp a.eval o).run P w:=by
    unfold Oper.semAt
    split
    · rename_i c hr hop
      exfalso
      have e:(execOp a.eval o).run P w=((resolve a.eval c o.type).run P w).andThen (fun d w' => .ok (.defer d) w'):=by simp [execOp,hop]
      rw [e] at h
      cases hq:(resolve a.eval c o.type).run P w with
      | ok d w'=>rw [hq] at h;exact h
      | halt x w'=>rw [hq] at h;exact h
    · rfl
  rw [hs]
  generalize (execOp a.eval o).run P w=r at *
  cases r with
  | ok n w' =>
    cases n<;>simp only [Yld] at h<;>simp only [Oper.uponIn]
    case enter f args =>
      refine⟨fun hd=>(by cases hd),(callsIn_wide.2 (Calls.mono h ?_):CallsIn Fence.wide (0 - 1) P f args w' _)⟩
      rintro e w'' ⟨v,rfl,hv⟩
      exact hv
    case round l f tmps assign body =>
      refine⟨fun hd=>(by cases hd),(RoundIn.mono h ?_:RoundIn Fence.wide 0 P l f tmps assign body w' _)⟩
      rintro e w'' ⟨v,rfl,hv⟩
      exact hv
    all_goals first|exact h|exact h.elim
  | halt x w'=>simp only [Yld] at h
def J0 (P:Program) (N:Nat) (o:Oper) (ρ:Env) (I:Im) (L:Lh) (φ:Value→Prop):Prop :=
 ∀ a w,Fits N ρ a→Mem I L w→∃ v,φ v∧((execOp a.eval o).run P w = .ok (.value v) w)
def OpX (P:Program) (N:Nat) (o:Oper) (ρ:Env) (I:Im) (L:Lh) (K:Value→Im→Lh→Prop):Prop :=
 ∀ a w,Fits N ρ a→Mem I L w→Yld P ((execOp a.eval o).run P w) fun v w' =>
  ∃ J X,Chg [] w w'∧Le I J∧a4P w.heap.size I J∧Mem J (X++L) w'∧(∀ p∈X.flatten,w.heap.size≤p.1)∧K v J X
def OpS (P:Program) (C:Ctx) (N:Nat) (o:Oper) (ρ:Env) (I:Im) (L:Lh) (K:Value→Im→Lh→Prop):Prop :=
 ∀ a w,Fits N ρ a→St C I L w→Yld P ((execOp a.eval o).run P w) fun v w'=>∃ J L',St C J L' w'∧K v J L'
section opers
variable {P:Program} {C:Ctx} {N:Nat} {ρ:Env} {I:Im} {L:Lh} {o:Oper}
theorem OpX.ofV {K:Value→Im→Lh→Prop} (h:J0 P N o ρ I L (fun v=>K v I [])):OpX P N o ρ I L K:=fun a w ha hw=>by
 obtain⟨v,hv,hr⟩:=h a w ha hw
 rw [hr]
 exact⟨I,[],Chg.refl _ _,Le.refl _,fun b h0 h1=>absurd h0 h1,hw,by simp,hv⟩
theorem St.step {w w' : World} {J : Im} {X : Lh} (hs : St C I L w) (hc : Chg [] w w') (hle : Le I J) (hn : a4P w.heap.size I J) (hm : Mem J (X ++ L) w')
    (hX:∀ p∈X.flatten,w.heap.size≤p.1):St C J (X++L) w':=by
  refine⟨hm,hs.S4.trans (hc.mono (by simp)),fun p hp => ?_,hs.U0.trans hle,fun b h0 h1 => ?_⟩
  · simp only [List.flatten_append,List.mem_append] at hp
    rcases hp with hp|hp
    · exact .inl (Nat.le_trans hs.S4.size (hX p hp))
    · exact hs.own p hp
  · cases hi:I b with
    | none=>exact Nat.le_trans hs.S4.size (hn b hi h1)
    | some o=>exact hs.new b h0 (by simp [hi])
theorem OpS.ofX {K:Value→Im→Lh→Prop} (h:OpX P N o ρ I L (fun v J X=>K v J (X++L))):OpS P C N o ρ I L K:=fun a w ha hs =>
 (h a w ha hs.mem).mono fun v w' ⟨J,X,hc,hle,hn,hm,hX,hk⟩=>⟨J,X++L,hs.step hc hle hn hm hX,hk⟩
variable {ops:Array Oper} {Q:Exit→Env→Im→Lh→Prop} {rest:List Oper}
theorem wpL.nil (h:Q .normal ρ I L):wpL P C N ops Q [] ρ I L:=fun _ a w ha hs=>wpListIn_nil ⟨ρ,I,L,ha,hs,h⟩
theorem a5v {d : Nat} {op : Op} {ty : TypeId} {ps : String} {af : Array Edge} {g : Option (Nat × Bool)}
    (h:H7 N (⟨some d,op,ty,ps,af,g⟩::rest)=true):d < N∧H7 N rest=true:=by
  simp only [H7,List.all_cons,Bool.and_eq_true] at h
  exact⟨by have:=h.1;simpa [Nat.blt_eq] using this,h.2⟩
theorem a9S {op : Op} {ty : TypeId} {ps : String} {af : Array Edge} {g : Option (Nat × Bool)}
    (h:H7 N (⟨none,op,ty,ps,af,g⟩::rest)=true):H7 N rest=true:=by
  simp only [H7,List.all_cons,Bool.and_eq_true] at h
  exact h.2
theorem wpL.s {d : Nat} {op : Op} {ty : TypeId} {ps : String} {af : Array Edge}
    (h:OpS P C N ⟨some d,op,ty,ps,af,none⟩ ρ I L (fun v J L'=>wpL P C N ops Q rest ((d,v)::ρ) J L')) :
    wpL P C N ops Q (⟨some d,op,ty,ps,af,none⟩::rest) ρ I L:=fun hd a w ha hs=>by
  obtain⟨hlt,hd'⟩:=a5v hd
  refine wpListIn_plain rfl fun K hK=>Yld.wp ((h a w ha hs).mono ?_)
  rintro v w' ⟨J,L',hs',hk⟩
  exact hK _ _ (hk hd' _ _ (ha.put hlt v) hs')
theorem wpL.n {op : Op} {ty : TypeId} {ps : String} {af : Array Edge}
    (h:OpS P C N ⟨none,op,ty,ps,af,none⟩ ρ I L (fun _ J L'=>wpL P C N ops Q rest ρ J L')) :
    wpL P C N ops Q (⟨none,op,ty,ps,af,none⟩::rest) ρ I L:=fun hd a w ha hs=>by
  refine wpListIn_plain rfl fun K hK=>Yld.wp ((h a w ha hs).mono ?_)
  rintro v w' ⟨J,L',hs',hk⟩
  exact hK _ _ (hk (a9S hd) _ _ ha hs')
theorem wpL.x {d : Nat} {op : Op} {ty : TypeId} {ps : String} {af : Array Edge}
    (h:OpX P N ⟨some d,op,ty,ps,af,none⟩ ρ I L (fun v J X=>wpL P C N ops Q rest ((d,v)::ρ) J (X++L))) :
    wpL P C N ops Q (⟨some d,op,ty,ps,af,none⟩::rest) ρ I L := .s (.ofX h)
end opers
section guards
variable {P:Program} {C:Ctx} {N:Nat} {ρ:Env} {I:Im} {L:Lh} {ops:Array Oper} {Q:Exit→Env→Im→Lh→Prop} {rest:List Oper}
theorem a3T {j dj:Nat} {b:Bool} {a:Act} (ha:Fits N ρ a) (hj:(ops[j]?).bind (·.dst)=some dj) (hb:look ρ dj=some (.bool b)):yielded ops a.tmps j=some b:=by
 unfold yielded
 rw [hj]
 simp [ha.tmp dj _ hb]
theorem wpL.gt {d : Nat} {op : Op} {ty : TypeId} {ps : String} {af : Array Edge} {j : Nat} {want : Bool} (dj : Nat) (hj : (ops[j]?).bind (·.dst) = some dj) (hb : look ρ dj = some (.bool want))
    (h:OpS P C N ⟨some d,op,ty,ps,af,none⟩ ρ I L (fun v J L'=>wpL P C N ops Q rest ((d,v)::ρ) J L')) :
    wpL P C N ops Q (⟨some d,op,ty,ps,af,some (j,want)⟩::rest) ρ I L:=fun hd a w ha hs=>by
  obtain⟨hlt,hd'⟩:=a5v hd
  refine wpListIn_step fun K hK => ?_
  rw [if_pos (by simp [Region.wanted,a3T ha hj hb])]
  have h1:=h a w ha hs
  have h2:Yld P ((execOp a.eval ⟨some d,op,ty,ps,af,some (j,want)⟩).run P w) fun v w'=>∃ J L',St C J L' w'∧wpL P C N ops Q rest ((d,v)::ρ) J L':=h1
  refine Yld.wp (h2.mono ?_)
  rintro v w' ⟨J,L',hs',hk⟩
  exact hK _ _ (hk hd' _ _ (ha.put hlt v) hs')
theorem wpL.gf {d : Nat} {op : Op} {ty : TypeId} {ps : String} {af : Array Edge} {j : Nat} {want : Bool} (dj : Nat) (hj : (ops[j]?).bind (·.dst) = some dj) (hb : look ρ dj = some (.bool (!want)))
    (h:wpL P C N ops Q rest ((d,undef)::ρ) I L) :
    wpL P C N ops Q (⟨some d,op,ty,ps,af,some (j,want)⟩::rest) ρ I L:=fun hd a w ha hs=>by
  obtain⟨hlt,hd'⟩:=a5v hd
  refine wpListIn_step fun K hK => ?_
  rw [if_neg (by simp [Region.wanted,a3T ha hj hb])]
  exact⟨fun _ _=>trivial,hK _ _ (h hd' _ _ (ha.put hlt undef) hs)⟩
end guards
theorem wpS.region {P : Program} {C : Ctx} {N : Nat} {Q : Exit → Env → Im → Lh → Prop} {ρ : Env} {I : Im} {L : Lh} {id : Nat} {l : List Oper} (hd : H7 N l = true) (h : wpL P C N l.toArray Q l ρ I L) :
    wpS P C N (.region id l.toArray false) Q ρ I L:=fun a w ha hs=>wpIn_region_lit (h hd a w ha hs)
theorem W0:∀ (L:Lh) (i:Nat),(L.set i []).flatten.Sublist L.flatten
 | [],_=>by simp
 | c::r,0=>by simp
 | c::r,i+1=>by simpa using (W0 r i).append_left c
theorem Y7:∀ (L:Lh) (i:Nat) (c:List (Nat×Obj)),L[i]?=some c→∀ c',L.flatten=(L.take i).flatten++(c++(L.drop (i+1)).flatten)∧(L.set i c').flatten=(L.take i).flatten++(c'++(L.drop (i+1)).flatten)
 | [],i,c,h,_=>by simp at h
 | x::r,0,c,h,c'=>by simp at h;subst h;simp
 | x::r,i+1,c,h,c'=>by
  have:=Y7 r i c (by simpa using h) c'
  simp only [List.flatten_cons,List.take_succ_cons,List.drop_succ_cons,List.set_cons_succ]
  rw [this.1,this.2]
  simp
theorem E7 {L:Lh} {i:Nat} {c:List (Nat×Obj)} (hc:L[i]?=some c) {p:Nat×Obj} (hp:p∈c):p∈L.flatten :=
 List.mem_flatten.2 ⟨c,List.mem_of_getElem? hc,hp⟩
theorem a89 {L:Lh} (hn:(L.flatten.map Prod.fst).Nodup) {p q:Nat×Obj} (hp:p∈L.flatten) (hq:q∈L.flatten) (h:p.1=q.1):p=q:=by
 have:∀ l:List (Nat×Obj),(l.map Prod.fst).Nodup→p∈l→q∈l→p=q:=by
  intro l
  induction l with
  | nil=>intro _ h;cases h
  | cons x r ih =>
   intro hnd hp hq
   simp only [List.map_cons,List.nodup_cons,List.mem_map,not_exists,not_and] at hnd
   rcases List.mem_cons.1 hp with rfl|hp'<;>rcases List.mem_cons.1 hq with rfl|hq'
   ·rfl
   ·exact absurd h.symm (hnd.1 q hq')
   ·exact absurd h (hnd.1 p hp')
   ·exact ih hnd.2 hp' hq'
 exact this _ hn hp hq
open Classical in
/-- I and the chunk c together. -/
noncomputable def Im.with (I:Im) (c:List (Nat×Obj)):Im:=fun b=>if h:∃ o,(b,o)∈c then some (Classical.choose h) else I b
theorem Im.a3U {I:Im} {c:List (Nat×Obj)} (hn:(c.map Prod.fst).Nodup) {p:Nat×Obj} (hp:p∈c):I.with c p.1=some p.2:=by
 have h:∃ o,(p.1,o)∈c:=⟨p.2,hp⟩
 unfold Im.with
 rw [dif_pos h]
 have h2:=Classical.choose_spec h
 have:=a89 (L := [c]) (by simpa using hn) (p:=(p.1,Classical.choose h)) (q:=p) (by simpa using h2) (by simpa using hp) rfl
 exact congrArg some (congrArg Prod.snd this)
theorem Im.a2j {I:Im} {c:List (Nat×Obj)} (hs:∀ p∈c,I p.1=none):Le I (I.with c):=fun b o hb=>by
 unfold Im.with
 rw [dif_neg]
 ·exact hb
 ·rintro⟨o',ho⟩
  rw [hs _ ho] at hb
  cases hb
theorem Im.a0x {I:Im} {c:List (Nat×Obj)} {b:Nat} {o:Obj} (h:I.with c b=some o):(b,o)∈c∨I b=some o:=by
 unfold Im.with at h
 split at h
 ·rename_i hx
  cases h
  exact .inl (Classical.choose_spec hx)
 ·exact .inr h
theorem Mem.freeze {I:Im} {L:Lh} {w:World} (hm:Mem I L w) {i:Nat} {c:List (Nat×Obj)} (hc:L[i]?=some c):Mem (I.with c) (L.set i []) w:=by
 have hsplit:=Y7 L i c hc []
 have hnd:=hm.nodup
 rw [hsplit.1] at hnd
 have hmem:∀ p∈(L.set i []).flatten,p∈L.flatten:=fun p hp=>(W0 L i).subset hp
 have hap:∀ p∈(L.set i []).flatten,∀ q∈c,p.1≠q.1:=by
  intro p hp q hq e
  rw [hsplit.2] at hp
  simp only [List.map_append,List.nodup_append,List.nil_append,List.mem_append] at hnd hp
  rcases hp with hp|hp
  ·exact hnd.2.2 p.1 (List.mem_map_of_mem hp) q.1 (by simp;exact .inl ⟨_,hq⟩) e
  ·exact hnd.2.1.2.2 q.1 (List.mem_map_of_mem hq) p.1 (List.mem_map_of_mem hp) e.symm
 refine⟨fun b o hb => ?_,fun p hp=>hm.loc p (hmem p hp),fun p hp => ?_,?_⟩
 ·rcases Im.a0x hb with h|h
  ·exact hm.loc (b,o) (E7 hc h)
  ·exact hm.im b o h
 ·unfold Im.with
  rw [dif_neg]
  ·exact hm.sep p (hmem p hp)
  ·rintro⟨o',ho⟩
   exact hap p hp _ ho rfl
 ·exact(((W0 L i).map Prod.fst).nodup hm.nodup)
theorem St.freeze {C:Ctx} {I:Im} {L:Lh} {w:World} (hs:St C I L w) {i:Nat} {c:List (Nat×Obj)} (hc:L[i]?=some c) (hM:∀ p∈c,p.1∈C.M→False):St C (I.with c) (L.set i []) w:=by
 have hcs:∀ p∈c,I p.1=none:=fun p hp=>hs.mem.sep p (E7 hc hp)
 refine⟨hs.mem.freeze hc,hs.S4,fun p hp=>hs.own p ((W0 L i).subset hp),hs.U0.trans (Im.a2j hcs),fun b h0 h1 => ?_⟩
 cases hb:I.with c b with
 | none=>exact absurd hb h1
 | some o =>
  rcases Im.a0x hb with h|h
  ·rcases hs.own (b,o) (E7 hc h) with h2|h2
   ·exact h2
   ·exact(hM _ h h2).elim
  ·exact hs.new b h0 (by simp [h])
theorem a1f {L:Lh} {i:Nat} {c:List (Nat×Obj)} (hn:(L.flatten.map Prod.fst).Nodup) (hc:L[i]?=some c):(c.map Prod.fst).Nodup:=by
 have hsplit:=(Y7 L i c hc []).1
 rw [hsplit] at hn
 simp only [List.map_append,List.nodup_append] at hn
 exact hn.2.1.1
section freeze
variable {P:Program} {C:Ctx} {N:Nat} {Q:Exit→Env→Im→Lh→Prop} {ρ:Env} {I:Im} {L:Lh}
theorem wpS.freeze (i : Nat) {c : List (Nat × Obj)} {code : Code} (hc : L[i]? = some c) (hM : ∀ p ∈ c, p.1 ∈ C.M → False)
    (h:∀ J,Le I J→(∀ p∈c,J p.1=some p.2)→wpS P C N code Q ρ J (L.set i [])):wpS P C N code Q ρ I L:=fun a w ha hs =>
  h (I.with c) (Im.a2j fun p hp=>hs.mem.sep p (E7 hc hp)) (fun p hp=>Im.a3U (a1f hs.mem.nodup hc) hp) a w ha (hs.freeze hc hM)
theorem wpL.freeze (i : Nat) {c : List (Nat × Obj)} {ops : Array Oper} {l : List Oper} (hc : L[i]? = some c) (hM : ∀ p ∈ c, p.1 ∈ C.M → False)
    (h:∀ J,Le I J→(∀ p∈c,J p.1=some p.2)→wpL P C N ops Q l ρ J (L.set i [])):wpL P C N ops Q l ρ I L:=fun hd a w ha hs =>
  h (I.with c) (Im.a2j fun p hp=>hs.mem.sep p (E7 hc hp)) (fun p hp=>Im.a3U (a1f hs.mem.nodup hc) hp) hd a w ha (hs.freeze hc hM)
end freeze
structure O5 (P:Program) (f:FuncId):Prop where
 ok:∃ fn,P.funcs[f]?=some fn∧(fn.name == "runtime.NumGoroutine")=false∧fn.body.isNone=false
structure b3U (P:Program) (f:FuncId) (args:Array Value) (I:Im) (L:Lh) (post:Value→Im→Lh→Prop):Prop where
 ok:O5 P f
 run:∀ w,Mem I L w→Calls P f args w fun e w'=>∃ v J L',e = .returned v∧Chg (L.flatten.map Prod.fst) w w'∧Le I J∧a4P w.heap.size I J∧Mem J L' w' ∧
  (∀ p∈L'.flatten,w.heap.size≤p.1∨p.1∈L.flatten.map Prod.fst)∧post v J L'
structure Fun (P:Program) (f:FuncId) (args:Array Value) (I:Im) (post:Value→Im→Prop):Prop where
 ok:O5 P f
 run:∀ w,Mem I [] w→Calls P f args w fun e w'=>∃ v J,e = .returned v∧Chg [] w w'∧Le I J∧a4P w.heap.size I J∧Mem J [] w'∧post v J
theorem Fun.mono {P:Program} {f:FuncId} {args:Array Value} {I:Im} {post post':Value→Im→Prop} (h:Fun P f args I post) (hp:∀ v J,Le I J→post v J→post' v J):Fun P f args I post' :=
 ⟨h.ok,fun w hm=>(h.run w hm).mono fun e w' ⟨v,J,a1,a2,a3,a4,a5,a6⟩=>⟨v,J,a1,a2,a3,a4,a5,hp v J a3 a6⟩⟩
theorem Mem.drop {I:Im} {L:Lh} {w:World} (h:Mem I L w):Mem I [] w:=⟨h.im,by simp,by simp,by simp⟩
def Fin (P:Program) (fn:Func) (ρ:Env) (I:Im) (L:Lh) (v:Value):Prop :=
 ∀ N a w,Fits N ρ a→Mem I L w→(results fn a.tmps).run P w = .ok v w
def b2E (P:Program) (fn:Func) (post:Value→Im→Lh→Prop):Exit→Env→Im→Lh→Prop
 | .normal,ρ,I,L | .ret,ρ,I,L=>∃ v,Fin P fn ρ I L v∧post v I L
 | _,_,_,_=>False
def W6:List Value→Nat→Env
 | [],_ => []
 | v::r,k=>(k,v)::W6 r (k+1)
theorem a3a:∀ (l:List Value) (k t:Nat) (v:Value),look (W6 l k) t=some v→k≤t∧l[t - k]?=some v
 | [],_,_,_,h=>by simp [W6,look] at h
 | x::r,k,t,v,h=>by
  rw [W6,M6] at h
  by_cases e:k=t
  ·subst e;simp at h;subst h;simp
  ·rw [if_neg e] at h
   obtain⟨h1,h2⟩:=a3a r (k+1) t v h
   refine⟨by omega,?_⟩
   rw [show t - k=(t - (k+1))+1 by omega]
   simpa using h2
theorem a6n {P : Program} {fn : Func} {C : Ctx} {N : Nat} {post : Value → Im → Lh → Prop} {R : Ending → World → Prop} (h : ∀ v J L w, St C J L w → post v J L → R (.returned v) w)
    (e:Exit) (a:Act) (w:World) (hq:a3S C N (b2E P fn post) e a w):bodyPost P fn R e a w:=by
  obtain⟨ρ,J,L,hf,hs,hq⟩:=hq
  cases e with
  | normal=>obtain⟨v,hfin,hp⟩:=hq;exact⟨hf.defers,v,hfin N a w hf hs.mem,h v J L w hs hp⟩
  | ret=>obtain⟨v,hfin,hp⟩:=hq;exact⟨hf.defers,v,hfin N a w hf hs.mem,h v J L w hs hp⟩
  | _=>exact hq.elim
theorem Y8 {P : Program} {f : FuncId} {fn : Func} {c : Code} {l : List Value} {I : Im} {L : Lh} {M : List Nat} {w : World} {post : Value → Im → Lh → Prop} {R : Ending → World → Prop}
    (hf:P.funcs[f]?=some fn) (hb:fn.body=some c) (N:Nat) (hN:fn.ntmps=N) (hl:Nat.ble l.length N=true) (hm:Mem I L w) (hM:∀ p∈L.flatten,p.1∈M)
    (h:wpS P ⟨w,M,I,none⟩ N c (b2E P fn post) (W6 l 0) I L) (hR:∀ v J L' w',St ⟨w,M,I,none⟩ J L' w'→post v J L'→R (.returned v) w'):Calls P f l.toArray w R:=by
  refine calls_of_wp hf hb (wpIn_wide.1 (wpIn_mono (h _ w ?_ ?_) (a6n hR)))
  · have hl':l.length≤N:=Nat.le_of_ble_eq_true hl
    refine⟨rfl,by simp [hN];omega,fun t v hv => ?_⟩
    obtain⟨_,h2⟩:=a3a l 0 t v hv
    have hlt:t < l.length:=(List.getElem?_eq_some_iff.1 (by simpa using h2)).1
    rw [Array.getElem?_append_left (by simpa using hlt)]
    simpa using h2
  · exact⟨hm,Chg.refl _ _,fun p hp => .inr (hM p hp),Le.refl _,fun b h0 h1=>absurd h0 h1⟩
def evL (ρ:Env):List Operand→Option (List Value)
 | []=>some []
 | x::r=>match ev ρ x,evL ρ r with
  | some v,some l=>some (v::l)
  | _,_=>none
theorem Fits.evL {N:Nat} {ρ:Env} {a:Act} (h:Fits N ρ a):∀ {l:List Operand} {vs:List Value},evL ρ l=some vs→l.map a.eval=vs
 | [],vs,hl=>by simp [Fl.evL] at hl;subst hl;rfl
 | x::r,vs,hl=>by
  simp only [Fl.evL] at hl
  cases hx:Fl.ev ρ x with
  | none=>simp [hx] at hl
  | some v =>
   cases hr:Fl.evL ρ r with
   | none=>simp [hx,hr] at hl
   | some l =>
    simp [hx,hr] at hl
    subst hl
    simp [h.ev hx,h.evL hr]
theorem a0S {P : Program} {f : FuncId} (ok : O5 P f) {a : Act} {w : World} {o : Oper} {F : Operand} {args : Array Operand} {tys : Array TypeId} (ho : o.op = .call ⟨.value F, args, tys⟩)
    (hF:a.eval F = .func (.func f) #[] #[]) {vs:List Value} (hv:args.toList.map a.eval=vs):(execOp a.eval o).run P w = .ok (.enter f vs.toArray) w:=by
  obtain⟨fn,h1,h2,h3⟩:=ok.ok
  subst hv
  have hargs:args.map a.eval=(args.toList.map a.eval).toArray:=by cases args;simp
  have h2':¬fn.name = "runtime.NumGoroutine" := by simpa using h2
  have h3':fn.body≠none:=by intro e;simp [e] at h3
  simp [execOp,ho,resolve,Deferred.ofValue,hF,invoke,callFunc,program,Sem.run,h1,h2',h3',←hargs]
section calls
variable {P:Program} {C:Ctx} {N:Nat} {ρ:Env} {I:Im} {L:Lh} {f:FuncId} {d:Option Nat} {F:Operand} {args:Array Operand} {tys:Array TypeId} {ty:TypeId} {ps:String} {af:Array Edge} {g:Option (Nat×Bool)} {vs:List Value}
theorem OpX.call {post : Value → Im → Prop} {K : Value → Im → Lh → Prop} (hF : ev ρ F = some (.func (.func f) #[] #[])) (hv : evL ρ args.toList = some vs) (h : Fun P f vs.toArray I post)
    (k:∀ v J,Le I J→post v J→K v J []):OpX P N ⟨d,.call ⟨.value F,args,tys⟩,ty,ps,af,g⟩ ρ I L K:=fun a w ha hm=>by
  rw [a0S h.ok rfl (ha.ev hF) (ha.evL hv)]
  refine(h.run w hm.drop).mono ?_
  rintro e w' ⟨v,J,rfl,hc,hle,hn,hm',hp⟩
  refine⟨v,rfl,J,[],hc,hle,hn,?_,by simp,k v J hle hp⟩
  have hlt:∀ p∈L.flatten,p.1 < w.heap.size:=fun p hp=>A8 (hm.loc p hp)
  refine⟨hm'.im,fun p hp=>(hc.block p.1 (hlt p hp) (by simp)).trans (hm.loc p hp),fun p hp => ?_,hm.nodup⟩
  cases hj:J p.1 with
  | none=>rfl
  | some o=>exact absurd (hn p.1 (hm.sep p hp) (by simp [hj])) (by have:=hlt p hp;omega)
end calls
end Go.Fl
namespace Go.Fl
open Go.RowKit
inductive Spec where
 | is (x:Value)
 | val (p:Value→Im→Prop) (mono:∀ v I J,p v I→Le I J→p v J)
 | new (o:Obj)
def Spec.holds:Spec→Value→Im→Prop
 | .is x,v,_=>v=x
 | .val p _,v,J=>p v J
 | .new _,v,_=>∃ b,v = .pointer (some ⟨b,0,none⟩)
theorem Spec.a7o {S:Spec} {v:Value} {I J:Im} (h:S.holds v I) (hle:Le I J):S.holds v J:=by
 cases S with
 | is x=>exact h
 | val p m=>exact m v I J h hle
 | new o=>exact h
def Spec.opx (P:Program) (N:Nat) (o:Oper) (ρ:Env) (J:Im) (L:Lh):Spec→Prop
 | .is x=>OpX P N o ρ J L (fun v J' X=>X = []∧v=x)
 | .val p _=>OpX P N o ρ J L (fun v J' X=>X = []∧p v J')
 | .new obj=>OpX P N o ρ J L (fun v _ X=>∃ b,v = .pointer (some ⟨b,0,none⟩)∧X = [[(b,obj)]])
def y5 (o:Oper):List Nat:=o.op.operands.toList.filterMap fun | .tmp t=>some t|_=>none
def E9 (s:List (Nat×Nat)) (t:Nat):Option Nat :=
 match s with
 | []=>none
 | p::r=>bif Nat.beq p.1 t then some p.2 else E9 r t
def O6 (acc:List (Nat×Spec)) (j:Nat):Option Spec :=
 match acc with
 | []=>none
 | (i,S)::r=>bif Nat.beq i j then some S else O6 r j
def R0 (sp:Nat→Option Spec) (s:List (Nat×Nat)) (ρ0 ρ:Env) (J:Im):List Nat→Prop→Prop
 | [],G=>G
 | t::ts,G =>
  match E9 s t with
  | none=>look ρ t=look ρ0 t→R0 sp s ρ0 ρ J ts G
  | some j=>match sp j with
   | some (.is x)=>look ρ t=some x→R0 sp s ρ0 ρ J ts G
   | some (.val p _)=>∀ v,look ρ t=some v→p v J→R0 sp s ρ0 ρ J ts G
   | some (.new _)=>∀ b,look ρ t=some (.pointer (some ⟨b,0,none⟩))→R0 sp s ρ0 ρ J ts G
   | none=>True
def a5w (P:Program) (N:Nat) (ops:Array Oper) (sp:Nat→Option Spec) (ρ0:Env) (I:Im) (L:Lh) (o:Oper) (s:List (Nat×Nat)) (S:Spec):Prop :=
 ∀ J,Le I J→∀ ρ,R0 sp s ρ0 ρ J (y5 o) (
  match o.guard with
  | none=>S.opx P N o ρ J L
  | some (g,want)=>∀ v,(match sp g with|some T=>T.holds v J|none=>False) →
   (v = .bool want→S.opx P N o ρ J L)∧((∀ b,v = .bool b→b≠want)→S.holds undef J∧∀ o,S ≠ .new o))
def chain (P:Program) (N:Nat) (ops:Array Oper) (ρ0:Env) (I:Im) (L:Lh) (F:List (Nat×Spec)→Prop):List Oper→List (List (Nat×Nat))→Nat→List (Nat×Spec)→Prop
 | [],_,_,acc=>F acc
 | o::os,s::ss,k,acc=>∃ S,a5w P N ops (O6 acc) ρ0 I L o s S∧chain P N ops ρ0 I L F os ss (k+1) ((k,S)::acc)
 | _,[],_,_=>False
def a3A (J:Im) (sp:Nat→Option Spec) (G:Env→Lh→Prop):List Oper→Nat→Env→Lh→Prop
 | o::os,k,ρ,L =>
  match o.dst,sp k with
  | some d,some (.is x)=>a3A J sp G os (k+1) ((d,x)::ρ) L
  | some d,some (.val p _)=>∀ v,p v J→a3A J sp G os (k+1) ((d,v)::ρ) L
  | some d,some (.new obj)=>∀ b,a3A J sp G os (k+1) ((d,.pointer (some ⟨b,0,none⟩))::ρ) ([(b,obj)]::L)
  | _,_=>False
 | [],_,ρ,L=>G ρ L
def X6 (ops:Array Oper):Bool:=(List.range ops.size).all fun i =>
 match ops[i]? with
 | some o=>o.after.all fun e => !Region.binds .any e||Nat.blt e.on i
 | none=>true
def S7 (ops:Array Oper) (n i:Nat) (s:List (Nat×Nat)) (t:Nat):Bool :=
 match E9 s t with
 | some j=>Nat.blt j n&&((ops[j]?).bind (·.dst) == some t)&&Region.waitsFor .any ops i j
 | none=>(List.range n).all fun j => !((ops[j]?).bind (·.dst) == some t)||j == i||Region.waitsFor .any ops j i
def a7p (ops:Array Oper) (n:Nat) (ss:List (List (Nat×Nat))) (i:Nat):Bool :=
 match ops[i]?,ss[i]? with
 | some o,some s=>o.dst.isSome&&(y5 o).all (S7 ops n i s) &&
  (match o.guard with|none=>true|some (g,_)=>Nat.blt g n&&Region.waitsFor .any ops i g)
 | _,_=>false
def a7q (ops:Array Oper) (n:Nat):Bool:=(List.range n).all fun i=>(List.range i).all fun j => !((ops[i]?).bind (·.dst) == (ops[j]?).bind (·.dst))
def J7 (size n:Nat):Array Bool:=((List.range size).map fun i=>Nat.blt i n).toArray
def a4Q (ops:Array Oper) (n:Nat) (ss:List (List (Nat×Nat))):Bool :=
 Nat.ble n ops.size&&X6 ops&&(List.range n).all (a7p ops n ss)&&a7q ops n &&
 (n == ops.size||(Region.sinkB .any ops n&&Region.chainB .any ops n))&&Region.seqB .any ops (ops.size - n) n (J7 ops.size n)
def unl (listed:Array Bool):Nat→Nat
 | 0=>0
 | n+1=>unl listed n+(if listed.getD n true=false then 1 else 0)
theorem a3V {listed:Array Bool} {i:Nat}:∀ {n:Nat},n≤i→unl (listed.setIfInBounds i true) n=unl listed n
 | 0,_=>rfl
 | n+1,h=>by
  rw [unl,unl,a3V (by omega),getD_set_ne true (by omega)]
theorem a3J {listed:Array Bool} {i:Nat} (hi:listed.getD i true=false):∀ {n:Nat},i < n→unl (listed.setIfInBounds i true) n+1=unl listed n
 | 0,h=>by omega
 | n+1,h=>by
  by_cases e:i=n
  ·subst e
   have hlt:i < listed.size:=by
    rcases Nat.lt_or_ge i listed.size with h'|h'
    ·exact h'
    ·simp [Array.getElem?_eq_none h'] at hi
   have:(listed.setIfInBounds i true).getD i true=true:=by simp [hlt]
   rw [unl,unl,a3V (Nat.le_refl _),if_pos hi,this]
   simp
  ·rw [unl,unl,getD_set_ne true (by omega)]
   have:=a3J hi (n:=n) (by omega)
   omega
theorem a0y {listed:Array Bool}:∀ {n:Nat},unl listed n=0→∀ j,j < n→listed.getD j true=true
 | 0,_,j,h=>by omega
 | n+1,h0,j,h=>by
  rw [unl] at h0
  by_cases e:j=n
  ·subst e
   cases hl:listed.getD j true with
   | true=>rfl
   | false=>rw [if_pos hl] at h0;omega
  ·have h1:unl listed n=0:=by omega
   exact a0y h1 j (by omega)
theorem a5x {listed:Array Bool} {n m:Nat} (h:unl listed n=m+1):∃ i,i < n∧listed.getD i true=false∧∀ j,j < i→listed.getD j true=true:=by
 induction n with
 | zero=>simp [unl] at h
 | succ n ih =>
  by_cases h0:unl listed n=0
  ·rw [unl,h0] at h
   refine⟨n,by omega,?_,fun j hj=>a0y h0 j hj⟩
   cases hl:listed.getD n true with
   | false=>rfl
   | true=>simp [hl] at h
  ·rw [unl] at h
   obtain⟨m',hm'⟩:∃ m',unl listed n=m'+1:=⟨unl listed n - 1,by omega⟩
   have key:∀ k m',unl listed k=m'+1→∃ i,i < k∧listed.getD i true=false∧∀ j,j < i→listed.getD j true=true:=by
    intro k
    induction k with
    | zero=>intro m' h;simp [unl] at h
    | succ k ihk =>
     intro m' h
     by_cases h1:unl listed k=0
     ·rw [unl,h1] at h
      refine⟨k,by omega,?_,fun j hj=>a0y h1 j hj⟩
      cases hl:listed.getD k true with
      | false=>rfl
      | true=>simp [hl] at h
     ·obtain⟨m2,hm2⟩:∃ m2,unl listed k=m2+1:=⟨unl listed k - 1,by omega⟩
      obtain⟨i,hi,hr⟩:=ihk m2 hm2
      exact⟨i,by omega,hr⟩
   obtain⟨i,hi,hr⟩:=key n m' hm'
   exact⟨i,by omega,hr⟩
theorem C8 {listed:Array Bool} {i:Nat} (hi:i < listed.size):(listed.setIfInBounds i true).getD i false=true:=by simp [hi]
theorem a1Y {listed:Array Bool} {i:Nat} (hi:i < listed.size) {b:Bool} (h:listed.getD i true=b):listed.getD i false=b:=by
 simp [hi] at h ⊢;exact h
def S8 (g:Nat→Option Value):List Nat→Env
 | [] => []
 | t::ts=>match g t with
  | some v=>(t,v)::S8 g ts
  | none=>S8 g ts
theorem U6 {g:Nat→Option Value}:∀ {ts:List Nat} {t:Nat} {v:Value},look (S8 g ts) t=some v→t∈ts∧g t=some v
 | [],t,v,h=>by simp [S8,look] at h
 | s::ts,t,v,h=>by
  rw [S8] at h
  cases hg:g s with
  | none=>rw [hg] at h;have:=U6 h;exact⟨List.mem_cons_of_mem _ this.1,this.2⟩
  | some u =>
   rw [hg,M6] at h
   by_cases e:s=t
   ·subst e;simp at h;subst h;exact⟨List.mem_cons_self,hg⟩
   ·rw [if_neg e] at h;have:=U6 h;exact⟨List.mem_cons_of_mem _ this.1,this.2⟩
theorem H3 {g:Nat→Option Value}:∀ {ts:List Nat} {t:Nat},t∈ts→look (S8 g ts) t=g t
 | s::ts,t,h=>by
  rw [S8]
  by_cases e:s=t
  ·subst e
   cases hg:g s with
   | none =>
    simp only
    cases hl:look (S8 g ts) s with
    | none=>rfl
    | some v=>have:=(U6 hl).2;rw [hg] at this;cases this
   | some u=>simp only [M6,if_true]
  ·have hm:t∈ts:=by rcases List.mem_cons.1 h with h|h;exact absurd h.symm e;exact h
   cases hg:g s with
   | none=>exact H3 hm
   | some u=>simp only [M6,if_neg e];exact H3 hm
theorem S9 {sp : Nat → Option Spec} {s : List (Nat × Nat)} {ρ0 ρ : Env} {J : Im} {G : Prop} : ∀ {ts : List Nat}, R0 sp s ρ0 ρ J ts G →
    (∀ t∈ts,match E9 s t with|none=>look ρ t=look ρ0 t|some j=>∃ v S,look ρ t=some v∧sp j=some S∧S.holds v J)→G
  | [],h,_=>h
  | t::ts,h,hk=>by
    have h0:=hk t (List.mem_cons_self)
    have hk':∀ t∈ts,match E9 s t with|none=>look ρ t=look ρ0 t|some j=>∃ v S,look ρ t=some v∧sp j=some S∧S.holds v J:=fun t' ht'=>hk t' (List.mem_cons_of_mem _ ht')
    rw [R0] at h
    cases hs:E9 s t with
    | none =>
      rw [hs] at h h0
      exact S9 (h h0) hk'
    | some j =>
      rw [hs] at h h0
      obtain⟨v,S,h1,h2,h3⟩:=h0
      simp only [h2] at h
      cases S with
      | is x=>simp only [Spec.holds] at h3;subst h3;exact S9 (h h1) hk'
      | val p m=>exact S9 (h v h1 h3) hk'
      | new o=>obtain⟨b,rfl⟩:=h3;exact S9 (h b h1) hk'
theorem Q3 {sp sp':Nat→Option Spec} {s:List (Nat×Nat)} {ρ0 ρ:Env} {J:Im} {G G':Prop} (hG:G→G'):∀ {ts:List Nat},(∀ t∈ts,∀ j,E9 s t=some j→sp j=sp' j)→R0 sp s ρ0 ρ J ts G→R0 sp' s ρ0 ρ J ts G'
 | [],_,h=>hG h
 | t::ts,he,h=>by
  have he':∀ t∈ts,∀ j,E9 s t=some j→sp j=sp' j:=fun t' ht'=>he t' (List.mem_cons_of_mem _ ht')
  rw [R0] at h ⊢
  cases hs:E9 s t with
  | none=>rw [hs] at h;exact fun hx=>Q3 hG he' (h hx)
  | some j =>
   rw [hs] at h
   have:=he t List.mem_cons_self j hs
   simp only [←this]
   cases hj:sp j with
   | none=>trivial
   | some S =>
    simp only [hj] at h
    cases S with
    | is x=>exact fun hx=>Q3 hG he' (h hx)
    | val p m=>exact fun v hx hp=>Q3 hG he' (h v hx hp)
    | new o=>exact fun b hx=>Q3 hG he' (h b hx)
theorem a7r {P : Program} {N : Nat} {ops : Array Oper} {sp sp' : Nat → Option Spec} {ρ0 : Env} {I : Im} {L : Lh} {o : Oper} {s : List (Nat × Nat)} {S : Spec} (h : a5w P N ops sp ρ0 I L o s S)
    (he:∀ t∈y5 o,∀ j,E9 s t=some j→sp j=sp' j) (hg:∀ g w,o.guard=some (g,w)→sp g=sp' g):a5w P N ops sp' ρ0 I L o s S:=fun J hJ ρ=>by
  refine Q3 ?_ he (h J hJ ρ)
  cases hgd:o.guard with
  | none=>exact id
  | some gw =>
    obtain⟨g,w⟩:=gw
    have:=hg g w hgd
    simp only [←this]
    exact id
theorem St.drop {C:Ctx} {I:Im} {X L:Lh} {w:World} (h:St C I (X++L) w):St C I L w:=by
 have hsub:L.flatten.Sublist (X++L).flatten:=by simp
 exact⟨⟨h.mem.im,fun p hp=>h.mem.loc p (hsub.subset hp),fun p hp=>h.mem.sep p (hsub.subset hp),(hsub.map Prod.fst).nodup h.mem.nodup⟩,h.S4,fun p hp=>h.own p (hsub.subset hp),h.U0,h.new⟩
structure a7s (C:Ctx) (N n m n0:Nat) (ops:Array Oper) (sp:Nat→Option Spec) (ρ0:Env) (I:Im) (L:Lh) (listed:Array Bool) (J:Im) (vs:Nat→Value) (bs:Nat→Nat) (a:Act) (w:World):Prop where
 head:HeadInv .any ops m listed
 le:Le I J
 st:St C J L w
 base:n0≤w.heap.size
 lt0:∀ p∈L.flatten,p.1 < n0
 b3V:C.w0.heap.size≤n0
 blk:∀ j,j < n→listed.getD j false=true→∀ obj,sp j=some (.new obj)→w.heap[bs j]?=some obj∧J (bs j)=none∧n0≤bs j
 inj:∀ j k,j < n→k < n→listed.getD j false=true→listed.getD k false=true→(∃ o,sp j=some (.new o))→(∃ o,sp k=some (.new o))→j≠k→bs j≠bs k
 val:∀ j,j < n→listed.getD j false=true→∃ S,sp j=some S∧S.holds (vs j) J∧(∀ o,S = .new o→vs j = .pointer (some ⟨bs j,0,none⟩))
 defers:a.defers = []
 size:a.tmps.size=N
 a2k:∀ j d,j < n→listed.getD j false=true→(ops[j]?).bind (·.dst)=some d→a.tmps[d]?=some (vs j)
 a3W:∀ t v,look ρ0 t=some v→(∀ j,j < n→listed.getD j false=true→(ops[j]?).bind (·.dst)≠some t)→a.tmps[t]?=some v
theorem R4 {ops:Array Oper} {j i:Nat} {oj:Oper} (hj:ops[j]?=some oj) (h:Region.waitsFor .any ops j i=true):∃ e∈oj.after,Region.binds .any e=true∧e.on=i:=by
 obtain⟨o',h1,e,he,hb,ho⟩:=Region.waitsFor_spec h
 have:o'=oj:=Option.some.inj (h1.symm.trans hj)
 subst this
 exact⟨e,he,hb,ho⟩
section phi
variable {P:Program} {C:Ctx} {N n m n0:Nat} {l:List Oper} {ss:List (List (Nat×Nat))} {sp:Nat→Option Spec} {ρ0:Env} {I:Im} {L:Lh}
theorem a7s.step {listed : Array Bool} {J : Im} {vs : Nat → Value} {bs : Nat → Nat} {a : Act} {w : World} {Q' : Exit → Act → World → Prop}
    (hN:H7 N l=true) (hok:∀ i,i < n→a7p l.toArray n ss i=true) (hdst:a7q l.toArray n=true)
    (inv:a7s C N n m n0 l.toArray sp ρ0 I L listed J vs bs a w) (hnm:n≤m) {i:Nat} (hr:i∈Region.ready .any l.toArray listed) (hin:i < n)
    (hd:∀ o s,l[i]?=some o→ss[i]?=some s→∃ S,sp i=some S∧a5w P N l.toArray sp ρ0 I L o s S)
    {K:Act→World→Prop} (hK:∀ J vs bs a' w,a7s C N n m n0 l.toArray sp ρ0 I L (listed.setIfInBounds i true) J vs bs a' w→(∃ v,∀ o,l[i]?=some o→a'=a.put o.dst v)→K a' w) :
    wpOpIn C.fen 0 P l.toArray Q' i K a w:=by
  obtain⟨hun,o,ho,hall⟩:=mem_ready.1 hr
  have hol:l[i]?=some o:=by simpa using ho
  have hok':=hok i hin
  unfold a7p at hok'
  simp only [ho] at hok'
  cases hs:ss[i]? with
  | none=>simp [hs] at hok'
  | some s =>
  simp only [hs,Bool.and_eq_true] at hok'
  obtain⟨⟨hdsome,hreads⟩,hguard⟩:=hok'
  obtain⟨d,hod⟩:=Option.isSome_iff_exists.1 hdsome
  have hdN:d < N:=by
    have:=List.all_eq_true.1 hN o (List.mem_of_getElem? hol)
    rw [hod] at this
    simpa [Nat.blt_eq] using this
  obtain⟨S,hS,hduty⟩:=hd o s hol hs
  -- the slots that are read
  have hlisted:∀ j,Region.waitsFor .any l.toArray i j=true→listed.getD j false=true:=fun j hw=>by
    obtain⟨e,he,hb,heq⟩:=R4 ho hw
    exact heq▸hall e he hb
  have hilt:i < listed.size:=by
    rcases Nat.lt_or_ge i listed.size with h'|h'
    · exact h'
    · simp [Array.getElem?_eq_none h'] at hun
  have hiun:listed.getD i false=false:=getD_both hun
  have hnot:∀ j,Region.waitsFor .any l.toArray j i=true→listed.getD j false=true→False:=fun j hw hl=>by
    obtain⟨oj,hoj,e,he,hb,heq⟩:=Region.waitsFor_spec hw
    have:=inv.head.closed j oj hoj hl e he hb
    rw [heq,hiun] at this
    cases this
  let g:Nat→Option Value:=fun t=>match E9 s t with|some j=>some (vs j)|none=>look ρ0 t
  have hfits:Fits N (S8 g (y5 o)) a:=by
    refine⟨inv.defers,inv.size,fun t v hv => ?_⟩
    obtain⟨hmem,hg⟩:=U6 hv
    have hro:=List.all_eq_true.1 hreads t hmem
    unfold S7 at hro
    cases hsrc:E9 s t with
    | some j =>
      simp only [hsrc,Bool.and_eq_true,beq_iff_eq] at hro
      have hgv:vs j=v:=by simpa [g,hsrc] using hg
      rw [←hgv]
      exact inv.a2k j t (by simpa [Nat.blt_eq] using hro.1.1) (hlisted j hro.2) hro.1.2
    | none =>
      simp only [hsrc] at hro
      refine inv.a3W t v (by simpa [g,hsrc] using hg) fun j hj hl hdj => ?_
      have h1:=List.all_eq_true.1 hro j (List.mem_range.2 hj)
      simp only [hdj,beq_self_eq_true,Bool.not_true,Bool.false_or,Bool.or_eq_true,beq_iff_eq] at h1
      rcases h1 with h1|h1
      · subst h1;rw [hiun] at hl;cases hl
      · exact hnot j h1 hl
  have hbind:=S9 (hduty J inv.le (S8 g (y5 o))) (fun t ht=>by
    have hro:=List.all_eq_true.1 hreads t ht
    unfold S7 at hro
    cases hsrc:E9 s t with
    | none=>simp only;rw [H3 ht];simp [g,hsrc]
    | some j =>
      simp only
      simp only [hsrc,Bool.and_eq_true,beq_iff_eq] at hro
      obtain⟨T,hT,hh,_⟩:=inv.val j (by simpa [Nat.blt_eq] using hro.1.1) (hlisted j hro.2)
      exact⟨vs j,T,by rw [H3 ht];simp [g,hsrc],hT,hh⟩)
  clear hduty
  -- what a finished operation does to the invariant
  have fin : ∀ v J' b w', Chg [] w w' → Le J J' → a4P w.heap.size J J' → St C J' L w' → S.holds v J' →
      (∀ obj,S = .new obj→v = .pointer (some ⟨b,0,none⟩)∧w'.heap[b]?=some obj∧J' b=none∧w.heap.size≤b)→K (a.put o.dst v) w':=by
    intro v J' b w' hc hle hn hst hh hnew
    refine hK J' (fun j=>if j=i then v else vs j) (fun j=>if j=i then b else bs j) _ _ ?_ ⟨v,fun o' ho'=>by rw [hol] at ho';cases ho';rfl⟩
    have hput:∀ j,j≠i→(listed.setIfInBounds i true).getD j false=listed.getD j false:=fun j hj=>getD_set_ne false (Ne.symm hj)
    have hdne:∀ j,j < n→j≠i→∀ d',(l.toArray[j]?).bind (·.dst)=some d'→d'≠d:=by
      intro j hj hji d' hd' e
      subst e
      have hdi:(l.toArray[i]?).bind (·.dst)=some d':=by rw [ho];exact hod
      rcases Nat.lt_or_gt_of_ne hji with h1|h1
      · have:=List.all_eq_true.1 (List.all_eq_true.1 hdst i (List.mem_range.2 hin)) j (List.mem_range.2 h1)
        rw [hdi,hd'] at this
        simp at this
      · have:=List.all_eq_true.1 (List.all_eq_true.1 hdst j (List.mem_range.2 hj)) i (List.mem_range.2 h1)
        rw [hdi,hd'] at this
        simp at this
    refine⟨inv.head.set hr (Nat.lt_of_lt_of_le hin hnm),inv.le.trans hle,hst,Nat.le_trans inv.base hc.size,inv.lt0,inv.b3V,fun j hj hl obj hobj => ?_,fun j k hj hk hlj hlk hoj hok2 hjk => ?_,fun j hj hl => ?_,?_,?_,fun j d' hj hl hd' => ?_,fun t u hu hno => ?_⟩
    · by_cases hji:j=i
      · subst hji
        have hSobj:S = .new obj:=Option.some.inj (hS.symm.trans hobj)
        obtain⟨_,h2,h3,h4⟩:=hnew obj hSobj
        simp only [if_true]
        exact⟨h2,h3,Nat.le_trans inv.base h4⟩
      · rw [hput j hji] at hl
        obtain⟨h1,h2,h3⟩:=inv.blk j hj hl obj hobj
        simp only [if_neg hji]
        refine⟨(hc.block _ (A8 h1) (by simp)).trans h1,?_,h3⟩
        cases hx:J' (bs j) with
        | none=>rfl
        | some ob=>exact absurd (hn (bs j) h2 (by simp [hx])) (by have:=A8 h1;omega)
    · by_cases hji:j=i
      · by_cases hki:k=i
        · exact absurd (hji.trans hki.symm) hjk
        · subst hji
          obtain⟨obj,hobj⟩:=hoj
          have hSobj:S = .new obj:=Option.some.inj (hS.symm.trans hobj)
          obtain⟨_,_,_,h4⟩:=hnew obj hSobj
          rw [hput k hki] at hlk
          obtain⟨obj2,hobj2⟩:=hok2
          have:=A8 (inv.blk k hk hlk obj2 hobj2).1
          simp only [if_true,if_neg hki]
          omega
      · rw [hput j hji] at hlj
        by_cases hki:k=i
        · subst hki
          obtain⟨obj,hobj⟩:=hok2
          have hSobj:S = .new obj:=Option.some.inj (hS.symm.trans hobj)
          obtain⟨_,_,_,h4⟩:=hnew obj hSobj
          obtain⟨obj2,hobj2⟩:=hoj
          have:=A8 (inv.blk j hj hlj obj2 hobj2).1
          simp only [if_true,if_neg hji]
          omega
        · rw [hput k hki] at hlk
          simp only [if_neg hji,if_neg hki]
          exact inv.inj j k hj hk hlj hlk hoj hok2 hjk
    · by_cases hji:j=i
      · subst hji
        refine⟨S,hS,by simpa using hh,fun ob hob => ?_⟩
        simpa using (hnew ob hob).1
      · rw [hput j hji] at hl
        obtain⟨T,hT,h1,h2⟩:=inv.val j hj hl
        refine⟨T,hT,?_,fun ob hob => ?_⟩
        · simp only [if_neg hji];exact Spec.a7o h1 hle
        · simp only [if_neg hji];exact h2 ob hob
    · rw [hod];exact inv.defers
    · rw [hod];simp [Act.put,inv.size]
    · rw [hod]
      by_cases hji:j=i
      · subst hji
        have:d'=d:=by rw [ho] at hd';exact Option.some.inj (hd'.symm.trans hod)
        subst this
        simp [Act.put,inv.size,hdN]
      · rw [hput j hji] at hl
        have hne:=hdne j hj hji d' hd'
        simp only [if_neg hji,Act.put,Array.getElem?_setIfInBounds_ne (Ne.symm hne)]
        exact inv.a2k j d' hj hl hd'
    · rw [hod]
      have hdt:d≠t:=by
        intro e
        subst e
        exact hno i hin (C8 hilt) (by rw [ho];exact hod)
      simp only [Act.put,Array.getElem?_setIfInBounds_ne hdt]
      refine inv.a3W t u hu fun j hj hl=>hno j hj ?_
      by_cases hji:j=i
      · subst hji;rw [hiun] at hl;cases hl
      · rw [hput j hji];exact hl
  have run:S.opx P N o (S8 g (y5 o)) J L→o.wpIn C.fen 0 P a w K Q':=by
    intro h
    cases S with
    | is x =>
      refine Yld.wp ((h a w hfits inv.st.mem).mono ?_)
      rintro v w' ⟨J',X,hc,hle,hn,hm,hX,rfl,hp⟩
      exact fin v J' 0 w' hc hle hn ((inv.st.step hc hle hn hm hX).drop) hp (fun obj h=>by cases h)
    | val p m =>
      refine Yld.wp ((h a w hfits inv.st.mem).mono ?_)
      rintro v w' ⟨J',X,hc,hle,hn,hm,hX,rfl,hp⟩
      exact fin v J' 0 w' hc hle hn ((inv.st.step hc hle hn hm hX).drop) hp (fun obj h=>by cases h)
    | new obj =>
      refine Yld.wp ((h a w hfits inv.st.mem).mono ?_)
      rintro v w' ⟨J',X,hc,hle,hn,hm,hX,b,rfl,rfl⟩
      refine fin _ J' b w' hc hle hn ((inv.st.step hc hle hn hm hX).drop) ⟨b,rfl⟩ (fun obj' h => ?_)
      cases h
      exact⟨a8,hm.loc (b,obj) (by simp),hm.sep (b,obj) (by simp),hX (b,obj) (by simp)⟩
  unfold wpOpIn
  simp only [ho]
  cases hg:o.guard with
  | none =>
    rw [hg] at hbind
    rw [if_pos (by simp [Region.wanted,hg])]
    exact run hbind
  | some gw =>
    obtain⟨gi,want⟩:=gw
    rw [hg] at hbind hguard
    simp only [Bool.and_eq_true] at hguard
    have hgn:gi < n:=by simpa [Nat.blt_eq] using hguard.1
    have hgl:=hlisted gi hguard.2
    obtain⟨T,hT,hh,_⟩:=inv.val gi hgn hgl
    have hb2:=hbind (vs gi) (by rw [hT];exact hh)
    have hogi:=hok gi hgn
    unfold a7p at hogi
    obtain⟨og,hog⟩:∃ og,l.toArray[gi]?=some og:=by
      cases hx:l.toArray[gi]? with
      | none=>simp [hx] at hogi
      | some og=>exact⟨og,rfl⟩
    obtain⟨sg,hsg⟩:∃ sg,ss[gi]?=some sg:=by
      cases hx:ss[gi]? with
      | none=>simp [hog,hx] at hogi
      | some sg=>exact⟨sg,rfl⟩
    simp only [hog,hsg,Bool.and_eq_true] at hogi
    obtain⟨dg,hdg⟩:=Option.isSome_iff_exists.1 hogi.1.1
    have htg:=inv.a2k gi dg hgn hgl (by rw [hog];exact hdg)
    have hy:yielded l.toArray a.tmps gi=(match vs gi with | .bool b=>some b|_=>none):=by
      unfold yielded
      rw [hog]
      simp only [Option.bind_some,hdg,htg]
      cases vs gi<;>rfl
    by_cases hv:vs gi = .bool want
    · rw [if_pos (by simp [Region.wanted,hg,hy,hv])]
      exact run (hb2.1 hv)
    · have hnw:∀ b,vs gi = .bool b→b≠want:=fun b hb e=>hv (by rw [hb,e])
      have hwf:¬Region.wanted o (yielded l.toArray a.tmps)=true:=by
        simp only [Region.wanted,hg,hy]
        cases hx:vs gi<;>simp
        rename_i b
        exact hnw b hx
      rw [if_neg hwf]
      refine⟨fun _ _=>trivial,?_⟩
      obtain⟨h1,hSv⟩:=hb2.2 hnw
      exact fin undef J 0 w (Chg.refl _ _) (Le.refl _) (fun b h0 h1=>absurd h0 h1) inv.st h1 (fun obj h=>absurd h (hSv obj))
end phi
end Go.Fl
namespace Go.Fl
open Go.RowKit
theorem St.cons {C:Ctx} {I:Im} {L:Lh} {w:World} (hs:St C I L w) {b:Nat} {o:Obj} (hb:w.heap[b]?=some o) (hI:I b=none) (hn:∀ p∈L.flatten,p.1≠b) (ho:C.w0.heap.size≤b):St C I ([(b,o)]::L) w:=by
 refine⟨⟨hs.mem.im,fun p hp => ?_,fun p hp => ?_,?_⟩,hs.S4,fun p hp => ?_,hs.U0,hs.new⟩
 ·simp only [List.flatten_cons,List.cons_append,List.nil_append,List.mem_cons] at hp
  rcases hp with rfl|hp
  ·exact hb
  ·exact hs.mem.loc p hp
 ·simp only [List.flatten_cons,List.cons_append,List.nil_append,List.mem_cons] at hp
  rcases hp with rfl|hp
  ·exact hI
  ·exact hs.mem.sep p hp
 ·simp only [List.flatten_cons,List.cons_append,List.nil_append,List.map_cons,List.nodup_cons,List.mem_map,not_exists,not_and]
  exact⟨fun p hp=>hn p hp,hs.mem.nodup⟩
 ·simp only [List.flatten_cons,List.cons_append,List.nil_append,List.mem_cons] at hp
  rcases hp with rfl|hp
  ·exact .inl ho
  ·exact hs.own p hp
section phi
variable {P:Program} {C:Ctx} {N n m n0:Nat} {l:List Oper} {ss:List (List (Nat×Nat))} {sp:Nat→Option Spec} {ρ0:Env} {I:Im} {L:Lh}
theorem a1y {listed : Array Bool} {J : Im} {vs : Nat → Value} {bs : Nat → Nat} {a : Act} {w : World} (inv : a7s C N n n n0 l.toArray sp ρ0 I L listed J vs bs a w)
    (hall:∀ j,j < n→listed.getD j false=true) {G:Env→Lh→Prop} :
    ∀ (os:List Oper) (k:Nat) (ρ:Env) (Lk:Lh),(∀ j,os[j]?=(l.take n)[k+j]?)→k≤n →
      (∀ t v,look ρ t=some v→(∀ j,k≤j→j < n→(l.toArray[j]?).bind (·.dst)≠some t)→a.tmps[t]?=some v)→St C J Lk w →
      (∀ p∈Lk.flatten,p∈L.flatten∨∃ j,j < k∧p.1=bs j∧∃ o,sp j=some (.new o)) →
      a3A J sp G os k ρ Lk→∃ ρ' L',Fits N ρ' a∧St C J L' w∧G ρ' L'
  | os,k,ρ,Lk,hos,hk,htmp,hst,hblk,h=>by
    by_cases hkn:k=n
    · subst hkn
      have ho:os = []:=by
        cases os with
        | nil=>rfl
        | cons x r =>
          have:=hos 0
          have h9:(l.take k)[k+0]?=none:=List.getElem?_eq_none (by rw [List.length_take];omega)
          rw [h9] at this
          cases this
      subst ho
      simp only [a3A] at h
      exact⟨ρ,Lk,⟨inv.defers,inv.size,fun t v hv=>htmp t v hv (fun j h1 h2=>by omega)⟩,hst,h⟩
    · have hkn':k < n:=by omega
      cases os with
      | nil =>
        have h1:=hos 0
        simp at h1
        have hj:=hall k hkn'
        have hl:l.length≤k:=by omega
        have hsz:=inv.head.size
        have:k < listed.size:=by
          rcases Nat.lt_or_ge k listed.size with h'|h'
          · exact h'
          · simp [Array.getElem?_eq_none h'] at hj
        simp at hsz
        omega
      | cons o os =>
        have h1:=hos 0
        have hol:l[k]?=some o:=by simpa [hkn'] using h1.symm
        obtain⟨T,hT,hh,hnew⟩:=inv.val k hkn' (hall k hkn')
        have hos':∀ j,os[j]?=(l.take n)[k+1+j]?:=fun j=>by have:=hos (j+1);simpa [Nat.add_assoc,Nat.add_comm 1 j] using this
        cases hod:o.dst with
        | none=>simp only [a3A,hod] at h
        | some d =>
          have htk:=inv.a2k k d hkn' (hall k hkn') (by simp [hol,hod])
          have htmp':∀ x,x=vs k→∀ t v,look ((d,x)::ρ) t=some v→(∀ j,k+1≤j→j < n→(l.toArray[j]?).bind (·.dst)≠some t)→a.tmps[t]?=some v:=by
            rintro x rfl t v hv hno
            rw [M6] at hv
            by_cases e:d=t
            · subst e;simp at hv;subst hv;exact htk
            · rw [if_neg e] at hv
              refine htmp t v hv fun j h3 h4 => ?_
              by_cases hjk:j=k
              · subst hjk
                intro he
                simp [hol,hod] at he
                exact e he
              · exact hno j (by omega) h4
          have hblk':∀ p∈Lk.flatten,p∈L.flatten∨∃ j,j < k+1∧p.1=bs j∧∃ o,sp j=some (.new o):=fun p hp=>by
            rcases hblk p hp with h3|⟨j,h3,h4⟩
            · exact .inl h3
            · exact .inr ⟨j,by omega,h4⟩
          cases T with
          | is x =>
            simp only [a3A,hod,hT] at h
            exact a1y inv hall os (k+1) _ Lk hos' (by omega) (htmp' x hh.symm) hst hblk' h
          | val p m =>
            simp only [a3A,hod,hT] at h
            exact a1y inv hall os (k+1) _ Lk hos' (by omega) (htmp' (vs k) rfl) hst hblk' (h (vs k) hh)
          | new obj =>
            simp only [a3A,hod,hT] at h
            obtain⟨hb1,hb2,hb3⟩:=inv.blk k hkn' (hall k hkn') obj hT
            refine a1y inv hall os (k+1) _ _ hos' (by omega) (htmp' _ (hnew obj rfl).symm) (hst.cons hb1 hb2 (fun q hq => ?_) (Nat.le_trans inv.b3V hb3)) (fun q hq => ?_) (h (bs k))
            · rcases hblk q hq with h3|⟨j,h3,h4,h5⟩
              · have:=inv.lt0 q h3;omega
              · rw [h4]
                exact inv.inj j k (by omega) hkn' (hall j (by omega)) (hall k hkn') h5 ⟨obj,hT⟩ (by omega)
            · simp only [List.flatten_cons,List.cons_append,List.nil_append,List.mem_cons] at hq
              rcases hq with rfl|hq
              · exact .inr ⟨k,by omega,rfl,obj,hT⟩
              · exact hblk' q hq
theorem Y9 {listed : Array Bool} {ops : Array Oper} (hb : X6 ops = true) (hsz : listed.size = ops.size) {i : Nat} (hi : listed.getD i true = false) (hlt : ∀ j, j < i → listed.getD j true = true) :
    i∈Region.ready .any ops listed:=by
  have hil:i < listed.size:=by
    rcases Nat.lt_or_ge i listed.size with h'|h'
    · exact h'
    · simp [Array.getElem?_eq_none h'] at hi
  rw [mem_ready]
  refine⟨hi,ops[i]'(by omega),by simp,fun e he hbind => ?_⟩
  have h1:=List.all_eq_true.1 hb i (List.mem_range.2 (by omega))
  simp only [Array.getElem?_eq_getElem (show i < ops.size by omega),Array.all_eq_true_iff_forall_mem] at h1
  have h2:=h1 e he
  rw [hbind] at h2
  have hlt2:e.on < i:=by simpa [Nat.blt_eq] using h2
  have h3:=hlt e.on hlt2
  have:e.on < listed.size:=by omega
  simp [this] at h3 ⊢
  exact h3
theorem T0 {F : Fence} {m : Nat} {P : Program} {md : Region.Mode} {ops : Array Oper} {Q' : Exit → Act → World → Prop} : ∀ (l : List Oper) (k : Nat) (listed : Array Bool) (a : Act) (w : World), (∀ j, l[j]? = ops[k + j]?) →
    Region.seqB md ops l.length k listed=true→wpListIn F m P ops Q' l a w→wpAnyIn F m P md ops Q' l.length listed a w
  | [],_,_,_,_,_,hB,h=>⟨by simpa [Region.seqB] using hB,h⟩
  | o::l,k,listed,a,w,hl,hB,h=>by
    have h0:ops[k]?=some o:=by simpa using (hl 0).symm
    simp only [List.length_cons,Region.seqB,Bool.and_eq_true,decide_eq_true_eq] at hB
    refine⟨fun h1=>(by rw [hB.1] at h1;cases h1),fun i hi => ?_⟩
    rw [hB.1] at hi
    have hik:i=k:=by simpa using hi
    subst hik
    have hw:wpOpIn F m P ops Q' i (wpListIn F m P ops Q' l) a w:=by unfold wpOpIn;simp only [h0];exact h
    exact wpOpIn_mono (fun a' w' h'=>T0 l (i+1) _ a' w' (fun j=>by have:=hl (j+1);simpa [Nat.add_assoc,Nat.add_comm 1 j] using this) hB.2 h') hw
theorem a4R {Q' : Exit → Act → World → Prop} (hN : H7 N l = true) (hback : X6 l.toArray = true) (hok : ∀ i, i < n → a7p l.toArray n ss i = true) (hdst : a7q l.toArray n = true)
    (hle:n≤l.length) (htail:n=l.length∨(Region.sinkB .any l.toArray n=true∧Region.chainB .any l.toArray n=true)) (hseq:Region.seqB .any l.toArray (l.length - n) n (J7 l.length n)=true)
    (hd:∀ i o s,i < n→l[i]?=some o→ss[i]?=some s→∃ S,sp i=some S∧a5w P N l.toArray sp ρ0 I L o s S)
    (hfin:∀ listed J vs bs a w,a7s C N n n n0 l.toArray sp ρ0 I L listed J vs bs a w→(∀ j,j < n→listed.getD j false=true)→wpListIn C.fen 0 P l.toArray Q' (l.drop n) a w) :
    ∀ (m:Nat) (listed:Array Bool) J vs bs a w,a7s C N n n n0 l.toArray sp ρ0 I L listed J vs bs a w→unl listed n=m→wpAnyIn C.fen 0 P .any l.toArray Q' (m+(l.length - n)) listed a w
  | 0,listed,J,vs,bs,a,w,inv,hm=>by
    have hsz:listed.size=l.length:=by simpa using inv.head.size
    have hall:∀ j,j < n→listed.getD j false=true:=fun j hj=>a1Y (by omega) (a0y hm j hj)
    have heq:listed=J7 l.length n:=by
      refine Array.ext (by simp [J7,hsz]) fun j h1 h2 => ?_
      have e1:(J7 l.length n)[j]'h2=Nat.blt j n:=by simp [J7]
      rw [e1]
      by_cases hj:j < n
      · have:=hall j hj
        simp [h1] at this
        rw [this]
        exact(Nat.blt_eq▸hj:Nat.blt j n=true).symm
      · have:=inv.head.tail j (by omega) (by simp;omega)
        simp [h1] at this
        rw [this]
        cases hb:Nat.blt j n
        · rfl
        · exact absurd (Nat.blt_eq▸hb:j < n) hj
    have hw:=hfin listed J vs bs a w inv hall
    have h2:=T0 (md := .any) (Q':=Q') (l.drop n) n listed a w (fun j=>by simp [List.getElem?_drop]) (by rw [heq];simpa using hseq) hw
    simpa using h2
  | m+1,listed,J,vs,bs,a,w,inv,hm=>by
    have hsz:listed.size=l.length:=by simpa using inv.head.size
    obtain⟨i,hin,hi,hlt⟩:=a5x hm
    have hr:=Y9 hback (by simpa using inv.head.size) hi hlt
    rw [show m+1+(l.length - n)=(m+(l.length - n))+1 by omega]
    refine⟨fun h0=>(by rw [h0] at hr;cases hr),fun j hj => ?_⟩
    have hjn:j < n:=by
      rcases Nat.lt_or_ge j n with h|h
      · exact h
      · rcases htail with ht|⟨hs,hc⟩
        · obtain⟨_,o,ho,_⟩:=mem_ready.1 hj
          have:=(Array.getElem?_eq_some_iff.1 ho).1
          simp at this
          omega
        · have hnl:n < l.toArray.size:=by
            obtain⟨_,o,ho,_⟩:=mem_ready.1 hj
            have:=(Array.getElem?_eq_some_iff.1 ho).1
            omega
          exact absurd hj (tail_waits hs hc hnl inv.head _ i rfl hin hi j h)
    refine inv.step hN hok hdst (Nat.le_refl _) hj hjn (fun o s h1 h2=>hd j o s hjn h1 h2) fun J' vs' bs' a' w' inv' _ => ?_
    refine a4R hN hback hok hdst hle htail hseq hd hfin m _ J' vs' bs' a' w' inv' ?_
    have hu:=(mem_ready.1 hj).1
    have:=a3J hu hjn
    omega
theorem a0U (i:Nat) (S:Spec) (acc:List (Nat×Spec)) (j:Nat):O6 ((i,S)::acc) j=if i=j then some S else O6 acc j:=by
 by_cases h:i=j
 ·subst h;simp [O6]
 ·simp [O6,h,a1W h]
theorem a3X {F : List (Nat × Spec) → Prop} (hn : n ≤ l.length) (hss : n ≤ ss.length) : ∀ (m k : Nat) (acc : List (Nat × Spec)), k + m = n → (∀ j, O6 acc j ≠ none → j < k) →
    chain P N l.toArray ρ0 I L F ((l.take n).drop k) (ss.drop k) k acc→∃ full,F full∧(∀ j,j < k→O6 full j=O6 acc j) ∧
      ∀ i o s,k≤i→i < n→l[i]?=some o→ss[i]?=some s→∃ S acc',O6 full i=some S∧a5w P N l.toArray (O6 acc') ρ0 I L o s S∧∀ j,j < i→O6 acc' j=O6 full j
  | 0,k,acc,hk,hacc,h=>by
    have hnil:(l.take n).drop k = []:=by rw [List.drop_eq_nil_iff,List.length_take];omega
    rw [hnil,chain] at h
    exact⟨acc,h,fun _ _=>rfl,fun i o s h1 h2=>by omega⟩
  | m+1,k,acc,hk,hacc,h=>by
    have hkl:k < (l.take n).length:=by rw [List.length_take];omega
    have hks:k < ss.length:=by omega
    rw [List.drop_eq_getElem_cons hkl,List.drop_eq_getElem_cons hks,chain] at h
    obtain⟨S,hd,hr⟩:=h
    obtain⟨full,hF,hold,hnew⟩:=a3X hn hss m (k+1) ((k,S)::acc) (by omega) (fun j hj=>by
      rw [a0U] at hj
      by_cases e:k=j
      · omega
      · rw [if_neg e] at hj;have:=hacc j hj;omega) hr
    refine⟨full,hF,fun j hj => ?_,fun i o s h1 h2 h3 h4 => ?_⟩
    · rw [hold j (by omega),a0U,if_neg (by omega)]
    · by_cases e:i=k
      · subst e
        have e1:(l.take n)[i]=o:=by
          have:(l.take n)[i]?=some o:=by rw [List.getElem?_take,if_pos h2];exact h3
          rw [List.getElem?_eq_getElem hkl] at this
          exact Option.some.inj this
        have e2:ss[i]=s:=by rw [List.getElem?_eq_getElem hks] at h4;exact Option.some.inj h4
        rw [e1,e2] at hd
        refine⟨S,acc,?_,hd,fun j hj => ?_⟩
        · rw [hold i (by omega),a0U,if_pos rfl]
        · rw [hold j (by omega),a0U,if_neg (by omega)]
      · exact hnew i o s (by omega) h2 h3 h4
theorem wpS.draw {Q : Exit → Env → Im → Lh → Prop} {id : Nat} (hm : P.follows .mixedOrders = true) (n : Nat) (ss : List (List (Nat × Nat)))
    (hN:H7 N l=true) (hB:a4Q l.toArray n ss=true) (hss:Nat.ble n ss.length=true)
    (hch:chain P N l.toArray ρ0 I L (fun acc=>∀ J,Le I J→a3A J (O6 acc) (fun ρ L'=>wpL P C N l.toArray Q (l.drop n) ρ J L') (l.take n) 0 ρ0 L) (l.take n) ss 0 []) :
    wpS P C N (.region id l.toArray true) Q ρ0 I L:=fun a w ha hs=>by
  have hB0:=hB
  simp only [a4Q,Bool.and_eq_true,Bool.or_eq_true] at hB
  obtain⟨⟨⟨⟨⟨hle,hback⟩,hok⟩,hdst⟩,htail⟩,hseq⟩:=hB
  have hle':n≤l.length:=by simpa using Nat.le_of_ble_eq_true hle
  obtain⟨full,hfin,_,hduty⟩:=a3X hle' (Nat.le_of_ble_eq_true hss) n 0 [] (by omega) (fun j hj=>absurd rfl hj) (by simpa using hch)
  have hd:∀ i o s,i < n→l[i]?=some o→ss[i]?=some s→∃ S,O6 full i=some S∧a5w P N l.toArray (O6 full) ρ0 I L o s S:=fun i o s hi ho hsi=>by
    obtain⟨S,acc',h1,h2,h3⟩:=hduty i o s (Nat.zero_le _) hi ho hsi
    have hoi:=List.all_eq_true.1 hok i (List.mem_range.2 hi)
    unfold a7p at hoi
    have ho':l.toArray[i]?=some o:=by simpa using ho
    simp only [ho',hsi,Bool.and_eq_true] at hoi
    have hback':∀ j,Region.waitsFor .any l.toArray i j=true→j < i:=fun j hw=>by
      obtain⟨e,he,hb,heq⟩:=R4 ho' hw
      have hil:i < l.toArray.size:=(Array.getElem?_eq_some_iff.1 ho').1
      have h4:=List.all_eq_true.1 hback i (List.mem_range.2 hil)
      simp only [ho',Array.all_eq_true_iff_forall_mem] at h4
      have h5:=h4 e he
      rw [hb] at h5
      have:e.on < i:=by simpa [Nat.blt_eq] using h5
      omega
    refine⟨S,h1,a7r h2 (fun t ht j hj => ?_) (fun g w hg => ?_)⟩
    · have h6:=List.all_eq_true.1 hoi.1.2 t ht
      unfold S7 at h6
      simp only [hj,Bool.and_eq_true] at h6
      exact h3 j (hback' j h6.2)
    · have h6:=hoi.2
      rw [hg] at h6
      simp only [Bool.and_eq_true] at h6
      exact h3 g (hback' g h6.2)
  have hs':St C I L { w with drawn:=w.drawn+1 }:=⟨⟨hs.mem.im,hs.mem.loc,hs.mem.sep,hs.mem.nodup⟩,⟨hs.S4.os,hs.S4.tape,hs.S4.output,hs.S4.size,hs.S4.block⟩,hs.own,hs.U0,hs.new⟩
  refine wpIn_region_any hm ?_
  have inv0:a7s C N n n w.heap.size l.toArray (O6 full) ρ0 I L (Array.replicate l.toArray.size false) I (fun _=>undef) (fun _=>0) a { w with drawn:=w.drawn+1 }:=by
    have hnl:∀ j,(Array.replicate l.toArray.size false).getD j false=true→False:=fun j hl=>by rw [getD_replicate_false] at hl;cases hl
    refine⟨⟨by simp,fun j oj _ hl=>(hnl j hl).elim,fun t _ ht=>getD_in (by simpa using ht) (getD_replicate_false _ _)⟩,Le.refl _,hs',Nat.le_refl _,fun p hp=>A8 (hs.mem.loc p hp),hs.S4.size,
      fun j _ hl=>(hnl j hl).elim,fun j k _ _ hl=>(hnl j hl).elim,fun j _ hl=>(hnl j hl).elim,ha.defers,ha.size,fun j d _ hl=>(hnl j hl).elim,fun t v hv _=>ha.tmp t v hv⟩
  have hunl:unl (Array.replicate l.toArray.size false) n=n:=by
    have key:∀ k,k≤l.toArray.size→unl (Array.replicate l.toArray.size false) k=k:=by
      intro k
      induction k with
      | zero=>intro _;rfl
      | succ k ih =>
        intro hk
        rw [unl,ih (by omega),if_pos (getD_in (by simp at hk ⊢;omega) (getD_replicate_false _ _))]
    exact key n (by simpa using hle')
  have hmain:=a4R (C:=C) (n0:=w.heap.size) (Q':=a3S C N Q) hN hback (fun i hi=>List.all_eq_true.1 hok i (List.mem_range.2 hi)) hdst hle'
    (by rcases htail with h | h
        · exact .inl (by simpa using h)
        · exact .inr h) (by simpa using hseq) hd
    (fun listed J vs bs a' w' inv hall=>by
      obtain⟨ρ',L',h1,h2,h3⟩:=a1y inv hall (l.take n) 0 ρ0 L (fun j=>by simp) (Nat.zero_le _)
        (fun t v hv hno=>inv.a3W t v hv (fun j hj _=>hno j (Nat.zero_le _) hj)) inv.st (fun p hp => .inl hp) (hfin J inv.le)
      have hNd:H7 N (l.drop n)=true:=by
        simp only [H7,List.all_eq_true] at hN ⊢
        exact fun o ho=>hN o (List.mem_of_mem_drop ho)
      exact h3 hNd a' w' h1 h2)
    n _ _ _ _ _ _ inv0 hunl
  rw [show n+(l.length - n)=l.toArray.size by simp;omega] at hmain
  exact hmain
end phi
end Go.Fl
namespace Go.Fl
open Go.RowKit
def u8 (x:UInt8):Value := .int .u8 (x.toNat:Int)
def u64 (x:UInt64):Value := .int .u64 (x.toNat:Int)
abbrev i64 (n:Int):Value := .int .i64 n
theorem wrap_i64 {n:Int} (h1 : -9223372036854775808≤n) (h2:n≤9223372036854775807):IntKind.wrap .i64 n=n:=by
 exact IntWalk.i64_in n ⟨h1,h2⟩
theorem wrap_u8 (n:Int):IntKind.wrap .u8 n=n % 256:=by simp [IntKind.wrap,IntKind.bits,IntKind.signed]
theorem wrap_u64 (n:Int):IntKind.wrap .u64 n=n % 18446744073709551616:=by simp [IntKind.wrap,IntKind.bits,IntKind.signed]
section
variable {P:Program} {C:Ctx} {N:Nat} {ρ:Env} {I:Im} {L:Lh} {φ:Value→Prop} {d:Option Nat} {ty:TypeId} {ps:String} {af:Array Edge} {g:Option (Nat×Bool)}
theorem J0.mk {o:Oper} {v:Value} (hv:φ v) (h:∀ a w,Fits N ρ a→Mem I L w→(execOp a.eval o).run P w = .ok (.value v) w):J0 P N o ρ I L φ:=fun a w ha hm=>⟨v,hv,h a w ha hm⟩
variable {x y z:Operand} {T T2:TypeId}
theorem J0.move {v:Value} (hx:ev ρ x=some v) (k:φ v):J0 P N ⟨d,.move x,ty,ps,af,g⟩ ρ I L φ := .mk k fun a w ha _=>by simp [execOp,ha.ev hx]
theorem J0.assign {v:Value} (hx:ev ρ x=some v) (k:φ v):J0 P N ⟨d,.assign x,ty,ps,af,g⟩ ρ I L φ := .mk k fun a w ha _=>by simp [execOp,ha.ev hx]
theorem J0.b2k {v:Value} (hc:ev ρ x=some (.bool true)) (hx:ev ρ y=some v) (k:φ v):J0 P N ⟨d,.pick x y z,ty,ps,af,g⟩ ρ I L φ := .mk k fun a w ha _=>by simp [execOp,ha.ev hc,ha.ev hx,asBool]
theorem J0.b2l {v:Value} (hc:ev ρ x=some (.bool false)) (hx:ev ρ z=some v) (k:φ v):J0 P N ⟨d,.pick x y z,ty,ps,af,g⟩ ρ I L φ := .mk k fun a w ha _=>by simp [execOp,ha.ev hc,ha.ev hx,asBool]
theorem J0.extract {vs:Array Value} {v:Value} {i:Nat} (hx:ev ρ x=some (.tuple vs)) (hv:vs[i]?=some v) (k:φ v):J0 P N ⟨d,.extract x i,ty,ps,af,g⟩ ρ I L φ := .mk k fun a w ha _=>by simp [execOp,ha.ev hx,Instr.extract,hv]
theorem J0.add {m n : Int} (hx : ev ρ x = some (i64 m)) (hy : ev ρ y = some (i64 n)) (h1 : -9223372036854775808 ≤ m + n) (h2 : m + n ≤ 9223372036854775807) (k : φ (i64 (m + n))) :
    J0 P N ⟨d,.binOp .add T x y T2,ty,ps,af,g⟩ ρ I L φ := .mk k fun a w ha _=>by simp [execOp,ha.ev hx,ha.ev hy,eqGuard,binOp,Op.intArith,wrap_i64 h1 h2]
theorem J0.sub {m n : Int} (hx : ev ρ x = some (i64 m)) (hy : ev ρ y = some (i64 n)) (h1 : -9223372036854775808 ≤ m - n) (h2 : m - n ≤ 9223372036854775807) (k : φ (i64 (m - n))) :
    J0 P N ⟨d,.binOp .sub T x y T2,ty,ps,af,g⟩ ρ I L φ := .mk k fun a w ha _=>by simp [execOp,ha.ev hx,ha.ev hy,eqGuard,binOp,Op.intArith,wrap_i64 h1 h2]
theorem J0.mul {m n : Int} (hx : ev ρ x = some (i64 m)) (hy : ev ρ y = some (i64 n)) (h1 : -9223372036854775808 ≤ m * n) (h2 : m * n ≤ 9223372036854775807) (k : φ (i64 (m * n))) :
    J0 P N ⟨d,.binOp .mul T x y T2,ty,ps,af,g⟩ ρ I L φ := .mk k fun a w ha _=>by simp [execOp,ha.ev hx,ha.ev hy,eqGuard,binOp,Op.intArith,wrap_i64 h1 h2]
theorem J0.quo {m n : Int} (hx : ev ρ x = some (i64 m)) (hy : ev ρ y = some (i64 n)) (h0 : 0 ≤ m) (h1 : m ≤ 9223372036854775807) (h2 : 0 < n) (k : φ (i64 (m / n))) :
    J0 P N ⟨d,.binOp .quo T x y T2,ty,ps,af,g⟩ ρ I L φ := .mk k fun a w ha _=>by
  have hn:n≠0:=by omega
  have h3:m.tdiv n=m/n:=Int.tdiv_eq_ediv_of_nonneg h0
  have h4:0≤m/n:=Int.ediv_nonneg h0 (by omega)
  have h5:m/n≤m:=Int.ediv_le_self _ h0
  simp [execOp,ha.ev hx,ha.ev hy,eqGuard,binOp,Op.intDiv,hn,h3,wrap_i64 (n:=m/n) (by omega) (by omega)]
theorem J0.rem {m n : Int} (hx : ev ρ x = some (i64 m)) (hy : ev ρ y = some (i64 n)) (h0 : 0 ≤ m) (h2 : 0 < n) (k : φ (i64 (m % n))) :
    J0 P N ⟨d,.binOp .rem T x y T2,ty,ps,af,g⟩ ρ I L φ := .mk k fun a w ha _=>by
  have hn:n≠0:=by omega
  have h3:m.tmod n=m % n:=Int.tmod_eq_emod_of_nonneg h0
  simp [execOp,ha.ev hx,ha.ev hy,eqGuard,binOp,Op.intDiv,hn,h3]
theorem J0.tmod {m n : Int} (hx : ev ρ x = some (i64 m)) (hy : ev ρ y = some (i64 n)) (hn : n ≠ 0) (k : φ (i64 (m.tmod n))) :
    J0 P N ⟨d,.binOp .rem T x y T2,ty,ps,af,g⟩ ρ I L φ := .mk k fun a w ha _=>by simp [execOp,ha.ev hx,ha.ev hy,eqGuard,binOp,Op.intDiv,hn]
section cmp
variable {kd:IntKind} {m n:Int}
theorem J0.lss (hx:ev ρ x=some (.int kd m)) (hy:ev ρ y=some (.int kd n)) (k:φ (.bool (decide (m < n)))):J0 P N ⟨d,.binOp .lss T x y T2,ty,ps,af,g⟩ ρ I L φ :=
 .mk k fun a w ha _=>by simp [execOp,ha.ev hx,ha.ev hy,eqGuard,binOp,Op.intCmp]
theorem J0.leq (hx:ev ρ x=some (.int kd m)) (hy:ev ρ y=some (.int kd n)) (k:φ (.bool (decide (m≤n)))):J0 P N ⟨d,.binOp .leq T x y T2,ty,ps,af,g⟩ ρ I L φ :=
 .mk k fun a w ha _=>by simp [execOp,ha.ev hx,ha.ev hy,eqGuard,binOp,Op.intCmp]
theorem J0.gtr (hx:ev ρ x=some (.int kd m)) (hy:ev ρ y=some (.int kd n)) (k:φ (.bool (decide (n < m)))):J0 P N ⟨d,.binOp .gtr T x y T2,ty,ps,af,g⟩ ρ I L φ :=
 .mk k fun a w ha _=>by simp [execOp,ha.ev hx,ha.ev hy,eqGuard,binOp,Op.intCmp]
theorem J0.geq (hx:ev ρ x=some (.int kd m)) (hy:ev ρ y=some (.int kd n)) (k:φ (.bool (decide (n≤m)))):J0 P N ⟨d,.binOp .geq T x y T2,ty,ps,af,g⟩ ρ I L φ :=
 .mk k fun a w ha _=>by simp [execOp,ha.ev hx,ha.ev hy,eqGuard,binOp,Op.intCmp]
theorem J0.a5y (hx:ev ρ x=some (.int kd m)) (hy:ev ρ y=some (.int kd n)) (k:φ (.bool (decide (m=n)))):J0 P N ⟨d,.binOp .eql T x y T2,ty,ps,af,g⟩ ρ I L φ :=
 .mk k fun a w ha _=>by
  have:(m == n)=decide (m=n):=rfl
  simp [execOp,ha.ev hx,ha.ev hy,eqGuard,binOp,Op.intCmp,this]
theorem J0.a9a (hx:ev ρ x=some (.int kd m)) (hy:ev ρ y=some (.int kd n)) (k:φ (.bool (decide (m≠n)))):J0 P N ⟨d,.binOp .neq T x y T2,ty,ps,af,g⟩ ρ I L φ :=
 .mk k fun a w ha _=>by
  have:(m != n)=decide (m≠n):=by by_cases h:m=n<;>simp [h,bne]
  simp only [execOp,ha.ev hx,ha.ev hy,eqGuard,binOp,Op.intCmp,this]
  simp [Sem.run]
end cmp
theorem J0.not {b:Bool} (hx:ev ρ x=some (.bool b)) (k:φ (.bool (!b))):J0 P N ⟨d,.unOp .not T x,ty,ps,af,g⟩ ρ I L φ :=
 .mk k fun a w ha _=>by simp [execOp,ha.ev hx,Op.unary]
theorem Z0 (x:UInt64):BitVec.ofInt 64 (x.toNat:Int)=x.toBitVec:=by
 apply BitVec.eq_of_toNat_eq
 have:=x.toNat_lt
 simp [BitVec.toNat_ofInt]
theorem a1z (x:UInt8):BitVec.ofInt 8 (x.toNat:Int)=x.toBitVec:=by
 apply BitVec.eq_of_toNat_eq
 have:=x.toNat_lt
 simp [BitVec.toNat_ofInt]
theorem a2K (b:BitVec 64):IntKind.wrap .u64 (b.toNat:Int)=b.toNat:=by rw [wrap_u64];have:=b.isLt;omega
theorem a6o (b:BitVec 8):IntKind.wrap .u8 (b.toNat:Int)=b.toNat:=by rw [wrap_u8];have:=b.isLt;omega
theorem b3W (T:TypeId) (m n:UInt8):binOp .xor T (u8 m) (u8 n)=pure (u8 (m ^^^ n)):=by
 unfold binOp u8
 simp only [ne_eq,not_true,if_false]
 show(pure (Value.int .u8 (IntKind.wrap .u8 ((BitVec.ofInt 8 m.toNat ^^^ BitVec.ofInt 8 n.toNat).toNat:Int))):Sem Value)=_
 rw [a1z,a1z,a6o]
 rfl
theorem b1t (T:TypeId) (m n:UInt8):binOp .or T (u8 m) (u8 n)=pure (u8 (m ||| n)):=by
 unfold binOp u8
 simp only [ne_eq,not_true,if_false]
 show(pure (Value.int .u8 (IntKind.wrap .u8 ((BitVec.ofInt 8 m.toNat ||| BitVec.ofInt 8 n.toNat).toNat:Int))):Sem Value)=_
 rw [a1z,a1z,a6o]
 rfl
theorem J0.or8 {m n:UInt8} (hx:ev ρ x=some (u8 m)) (hy:ev ρ y=some (u8 n)) (k:φ (u8 (m ||| n))):J0 P N ⟨d,.binOp .or T x y T2,ty,ps,af,g⟩ ρ I L φ :=
 .mk k fun a w ha _=>by simp [execOp,ha.ev hx,ha.ev hy,eqGuard,b1t]
theorem b3X (T:TypeId) (m:UInt8) (kd:IntKind) (n:Nat) (h:n < 8):binOp .shr T (u8 m) (.int kd (n:Int))=pure (u8 (m >>> UInt8.ofNat n)):=by
 unfold u8
 show Op.shift .shr .u8 m.toNat kd n=_
 unfold Op.shift
 rw [if_neg (by omega)]
 have e:min ((n:Int).toNat) (IntKind.bits .u8)=n:=by simp [IntKind.bits];omega
 have hs:((m >>> UInt8.ofNat n).toNat:Int)=Int.fdiv m.toNat (2^n):=by
  have h1:(UInt8.ofNat n).toNat=n:=by simp;omega
  rw [UInt8.toNat_shiftRight,h1,Nat.mod_eq_of_lt h,Nat.shiftRight_eq_div_pow,Int.fdiv_eq_ediv_of_nonneg _ (Int.pow_nonneg (by omega)),Int.natCast_ediv,Int.natCast_pow]
  rfl
 show(pure (Value.int .u8 (Int.fdiv m.toNat (2^(min ((n:Int).toNat) (IntKind.bits .u8))))):Sem Value)=_
 rw [e,hs]
theorem a9b (T:TypeId) (m n:UInt64):binOp .and T (u64 m) (u64 n)=pure (u64 (m &&& n)):=by
 unfold binOp u64
 simp only [ne_eq,not_true,if_false]
 show(pure (Value.int .u64 (IntKind.wrap .u64 ((BitVec.ofInt 64 m.toNat &&& BitVec.ofInt 64 n.toNat).toNat:Int))):Sem Value)=_
 rw [Z0,Z0,a2K]
 rfl
theorem J0.a9T {m n:UInt64} (hx:ev ρ x=some (u64 m)) (hy:ev ρ y=some (u64 n)) (k:φ (u64 (m &&& n))):J0 P N ⟨d,.binOp .and T x y T2,ty,ps,af,g⟩ ρ I L φ :=
 .mk k fun a w ha _=>by simp [execOp,ha.ev hx,ha.ev hy,eqGuard,a9b]
theorem a9U (T:TypeId) (m n:UInt64):binOp .or T (u64 m) (u64 n)=pure (u64 (m ||| n)):=by
 unfold binOp u64
 simp only [ne_eq,not_true,if_false]
 show(pure (Value.int .u64 (IntKind.wrap .u64 ((BitVec.ofInt 64 m.toNat ||| BitVec.ofInt 64 n.toNat).toNat:Int))):Sem Value)=_
 rw [Z0,Z0,a2K]
 rfl
theorem J0.b2F {m n:UInt64} (hx:ev ρ x=some (u64 m)) (hy:ev ρ y=some (u64 n)) (k:φ (u64 (m ||| n))):J0 P N ⟨d,.binOp .or T x y T2,ty,ps,af,g⟩ ρ I L φ :=
 .mk k fun a w ha _=>by simp [execOp,ha.ev hx,ha.ev hy,eqGuard,a9U]
theorem a9V (m:UInt64):Op.unary .xor (u64 m)=pure (u64 (~~~m)):=by
 unfold Op.unary u64
 show(pure (Value.int .u64 (IntKind.wrap .u64 ((BitVec.ofInt 64 (2^64 - 1) ^^^ BitVec.ofInt 64 m.toNat).toNat:Int))):Sem Value)=_
 rw [Z0,a2K]
 have h:BitVec.ofInt 64 (2^64 - 1) ^^^ m.toBitVec = ~~~ m.toBitVec:=by
  rw [show BitVec.ofInt 64 (2^64 - 1)=BitVec.allOnes 64 from by decide]
  exact BitVec.allOnes_xor
 rw [h]
 rfl
theorem J0.a9W {m:UInt64} (hx:ev ρ x=some (u64 m)) (k:φ (u64 (~~~m))):J0 P N ⟨d,.unOp .xor T x,ty,ps,af,g⟩ ρ I L φ :=
 .mk k fun a w ha _=>by simp [execOp,ha.ev hx,a9V]
theorem a9c (T:TypeId) (m:UInt64) (kd:IntKind) (n:Nat) (h:n < 64):binOp .shl T (u64 m) (.int kd (n:Int))=pure (u64 (m <<< UInt64.ofNat n)):=by
 unfold u64
 show Op.shift .shl .u64 m.toNat kd n=_
 unfold Op.shift
 rw [if_neg (by omega)]
 have e:min ((n:Int).toNat) (IntKind.bits .u64)=n:=by simp [IntKind.bits];omega
 have hs:((m <<< UInt64.ofNat n).toNat:Int)=(m.toNat*2^n:Int) % 18446744073709551616:=by
  have h1:(UInt64.ofNat n).toNat=n:=by simp;omega
  rw [UInt64.toNat_shiftLeft,h1,Nat.mod_eq_of_lt h,Nat.shiftLeft_eq]
  rw [Int.natCast_emod,Int.natCast_mul,Int.natCast_pow]
  rfl
 simp only [e,wrap_u64,hs]
theorem a9d (T:TypeId) (m:UInt64) (kd:IntKind) (n:Nat) (h:n < 64):binOp .shr T (u64 m) (.int kd (n:Int))=pure (u64 (m >>> UInt64.ofNat n)):=by
 unfold u64
 show Op.shift .shr .u64 m.toNat kd n=_
 unfold Op.shift
 rw [if_neg (by omega)]
 have e:min ((n:Int).toNat) (IntKind.bits .u64)=n:=by simp [IntKind.bits];omega
 have hs:((m >>> UInt64.ofNat n).toNat:Int)=Int.fdiv m.toNat (2^n):=by
  have h1:(UInt64.ofNat n).toNat=n:=by simp;omega
  rw [UInt64.toNat_shiftRight,h1,Nat.mod_eq_of_lt h,Nat.shiftRight_eq_div_pow,Int.fdiv_eq_ediv_of_nonneg _ (Int.pow_nonneg (by omega)),Int.natCast_ediv,Int.natCast_pow]
  rfl
 show(pure (Value.int .u64 (Int.fdiv m.toNat (2^(min ((n:Int).toNat) (IntKind.bits .u64))))):Sem Value)=_
 rw [e,hs]
end
end Go.Fl
namespace Go.Fl
open Go.RowKit
section
variable {P:Program} {C:Ctx} {N:Nat} {ρ:Env} {I:Im} {L:Lh} {φ:Value→Prop} {d:Option Nat} {ty:TypeId} {ps:String} {af:Array Edge} {g:Option (Nat×Bool)}
variable {x y z:Operand} {T T2:TypeId}
theorem J0.T1 {m:UInt64} {kd:IntKind} {j:Int} (n:Nat) (hx:ev ρ x=some (u64 m)) (hy:ev ρ y=some (.int kd j)) (hj:j=(n:Int)) (h:n < 64) (k:φ (u64 (m <<< UInt64.ofNat n))):J0 P N ⟨d,.binOp .shl T x y T2,ty,ps,af,g⟩ ρ I L φ :=
 .mk k fun a w ha _=>by subst hj;simp [execOp,ha.ev hx,ha.ev hy,eqGuard,a9c T m kd n h]
theorem J0.a4S {m:UInt64} {kd:IntKind} {j:Int} (n:Nat) (hx:ev ρ x=some (u64 m)) (hy:ev ρ y=some (.int kd j)) (hj:j=(n:Int)) (h:n < 64) (k:φ (u64 (m >>> UInt64.ofNat n))):J0 P N ⟨d,.binOp .shr T x y T2,ty,ps,af,g⟩ ρ I L φ :=
 .mk k fun a w ha _=>by subst hj;simp [execOp,ha.ev hx,ha.ev hy,eqGuard,a9d T m kd n h]
theorem J0.a9X {m n:UInt64} (hx:ev ρ x=some (u64 m)) (hy:ev ρ y=some (u64 n)) (k:φ (u64 (m - n))):J0 P N ⟨d,.binOp .sub T x y T2,ty,ps,af,g⟩ ρ I L φ :=
 .mk k fun a w ha _=>by
  have e:(((m.toNat:Int) - n.toNat) % 18446744073709551616)=((m - n).toNat:Int):=by
   have h1:=m.toNat_lt;have h2:=n.toNat_lt
   rw [UInt64.toNat_sub]
   omega
  simp [execOp,ha.ev hx,ha.ev hy,eqGuard,binOp,Op.intArith,u64,wrap_u64,e]
theorem J0.neg {m:Int} (hx:ev ρ x=some (i64 m)) (h : -9223372036854775807≤m∧m≤9223372036854775807) (k:φ (i64 (-m))):J0 P N ⟨d,.unOp .neg T x,ty,ps,af,g⟩ ρ I L φ :=
 .mk k fun a w ha _=>by simp [execOp,ha.ev hx,Op.unary,Op.intArith,wrap_i64 (n := -m) (by omega) (by omega)]
theorem run_convert_int {S D : TypeId} {ds : TypeDesc} {k : IntKind} (hS : P.underlying S = some ds) (hD : P.underlying D = some (.int k)) (j : IntKind) (n : Int) (w : World) :
    (convert S D (.int j n)).run P w = .ok (.int k (k.wrap n)) w:=by
  simp [convert,run_underlying hS,run_underlying hD,Conv.intToInt]
section conv
variable {S D:TypeId} {ds:TypeDesc}
theorem J0.b3Y {j : IntKind} {n : Int} (hS : P.underlying S = some ds) (hD : P.underlying D = some (.int .i64)) (hx : ev ρ x = some (.int j n)) (h1 : -9223372036854775808 ≤ n) (h2 : n ≤ 9223372036854775807) (k : φ (i64 n)) :
    J0 P N ⟨d,.convert S D x,ty,ps,af,g⟩ ρ I L φ := .mk k fun a w ha _=>by simp [execOp,ha.ev hx,run_convert_int hS hD,wrap_i64 h1 h2]
theorem J0.a9Y {j : IntKind} {n : Int} (hS : P.underlying S = some ds) (hD : P.underlying D = some (.int .u8)) (hx : ev ρ x = some (.int j n)) (k : φ (u8 (UInt8.ofInt n))) :
    J0 P N ⟨d,.convert S D x,ty,ps,af,g⟩ ρ I L φ := .mk k fun a w ha _=>by
  have e:IntKind.wrap .u8 n=((UInt8.ofInt n).toNat:Int):=by
    rw [wrap_u8]
    show _=(((UInt8.ofNat (n % 2^8).toNat).toNat:Nat):Int)
    simp only [UInt8.toNat_ofNat']
    omega
  simp [execOp,ha.ev hx,run_convert_int hS hD,e,u8]
theorem J0.a7t {j : IntKind} {n : Int} (hS : P.underlying S = some ds) (hD : P.underlying D = some (.int .u64)) (hx : ev ρ x = some (.int j n)) (k : φ (u64 (UInt64.ofInt n))) :
    J0 P N ⟨d,.convert S D x,ty,ps,af,g⟩ ρ I L φ := .mk k fun a w ha _=>by
  have e:IntKind.wrap .u64 n=((UInt64.ofInt n).toNat:Int):=by
    rw [wrap_u64]
    show _=(((UInt64.ofNat (n % 2^64).toNat).toNat:Nat):Int)
    simp only [UInt64.toNat_ofNat']
    omega
  simp [execOp,ha.ev hx,run_convert_int hS hD,e,u64]
end conv
section len
variable {E:TypeId} {a0:Option Addr} {n c:Nat}
theorem J0.len (hT:P.underlying T=some (.slice E)) (hx:ev ρ x=some (.slice a0 n c)) (k:φ (i64 n)):J0 P N ⟨d,.call ⟨.builtin .len,#[x],#[T]⟩,ty,ps,af,g⟩ ρ I L φ :=
 .mk k fun a w ha _=>by simp [execOp,resolve,invoke,builtin,Builtin.len_,run_underlying hT,ha.ev hx,goInt]
theorem J0.b2G {s:ByteArray} (hT:P.underlying T=some .string) (hx:ev ρ x=some (.string s)) (k:φ (i64 s.size)):J0 P N ⟨d,.call ⟨.builtin .len,#[x],#[T]⟩,ty,ps,af,g⟩ ρ I L φ :=
 .mk k fun a w ha _=>by simp [execOp,resolve,invoke,builtin,Builtin.len_,run_underlying hT,ha.ev hx,goInt]
end len
theorem J0.a4C {m n:Int} {ts:Array TypeId} (hx:ev ρ x=some (i64 m)) (hy:ev ρ y=some (i64 n)) (k:φ (i64 (min m n))):J0 P N ⟨d,.call ⟨.builtin .min,#[x,y],ts⟩,ty,ps,af,g⟩ ρ I L φ :=
 .mk k fun a w ha _=>by
  have e:(if n < m then n else m)=min m n:=by simp only [Int.min_def];split<;>split<;>omega
  simp [execOp,resolve,invoke,builtin,Builtin.min_,Builtin.min2,ha.ev hx,ha.ev hy,e]
theorem J0.b1u {m n:Int} {ts:Array TypeId} (hx:ev ρ x=some (i64 m)) (hy:ev ρ y=some (i64 n)) (k:φ (i64 (max m n))):J0 P N ⟨d,.call ⟨.builtin .max,#[x,y],ts⟩,ty,ps,af,g⟩ ρ I L φ :=
 .mk k fun a w ha _=>by
  have e:(if m < n then n else m)=max m n:=by simp only [Int.max_def];split<;>split<;>omega
  simp [execOp,resolve,invoke,builtin,Builtin.max_,Builtin.max2,ha.ev hx,ha.ev hy,e]
end
end Go.Fl
namespace Go.Fl
open Go.RowKit
abbrev row (cs:List Value) (e:TypeId):Obj := .cells cs.toArray e (0,0)
abbrev ptr (b o:Nat):Value := .pointer (some ⟨b,o,none⟩)
abbrev slc (b o n c:Nat):Value := .slice (some ⟨b,o,none⟩) n c
def D5 (cs:List Value) (o:Nat) (vs:List Value):List Value:=cs.take o++vs++cs.drop (o+vs.length)
def E8 (cs:List Value) (o n:Nat):List Value:=(cs.drop o).take n
theorem a7u (cs:List Value):E8 cs 0 cs.length=cs:=by simp [E8]
theorem a7v (cs vs:List Value) (h:vs.length=cs.length):D5 cs 0 vs=vs:=by simp [D5,h]
theorem V7 (cs:List Value) (o:Nat) (vs:List Value) (h:o+vs.length≤cs.length):(D5 cs o vs).length=cs.length:=by simp [D5];omega
theorem a4D (xs sp:List Value) (o:Nat) (vs:List Value) (h:o+vs.length≤xs.length):D5 (xs++sp) o vs=D5 xs o vs++sp:=by
 simp only [D5]
 rw [List.take_append_of_le_length (by omega),List.drop_append_of_le_length (by omega)]
 simp
def Cells (I:Im) (b o:Nat) (xs:List Value):Prop:=∃ cs e fr,I b=some (.cells cs e fr)∧∀ i v,xs[i]?=some v→cs[o+i]?=some v
theorem Cells.mono {I J:Im} {b o:Nat} {xs:List Value} (h:Cells I b o xs) (hle:Le I J):Cells J b o xs:=by
 obtain⟨cs,e,fr,h1,h2⟩:=h
 exact⟨cs,e,fr,hle _ _ h1,h2⟩
theorem Cells.a9Z {I:Im} {b:Nat} {cs:List Value} {e:TypeId} (h:I b=some (row cs e)):Cells I b 0 cs:=⟨_,_,_,h,fun i v hv=>by simpa using hv⟩
theorem Cells.sub {I:Im} {b o:Nat} {xs ys:List Value} (k:Nat) (h:Cells I b o xs) (hs:∀ i v,ys[i]?=some v→xs[k+i]?=some v):Cells I b (o+k) ys:=by
 obtain⟨cs,e,fr,h1,h2⟩:=h
 exact⟨cs,e,fr,h1,fun i v hv=>by rw [Nat.add_assoc];exact h2 _ _ (hs i v hv)⟩
theorem cell_of {w:World} {b o:Nat} {cs:Array Value} {e:TypeId} {fr:Nat×Nat} (h:w.heap[b]?=some (.cells cs e fr)):w.cell? ⟨b,o,none⟩=cs[o]?:=by simp [World.cell?,h]
theorem Cells.cell {I:Im} {L:Lh} {w:World} {b o:Nat} {xs:List Value} (h:Cells I b o xs) (hm:Mem I L w) {i:Nat} {v:Value} (hv:xs[i]?=some v):w.cell? ⟨b,o+i,none⟩=some v:=by
 obtain⟨cs,e,fr,h1,h2⟩:=h
 rw [cell_of (hm.im _ _ h1)]
 exact h2 i v hv
def Sl (I:Im) (s:Nat) (v:Value) (n:Nat) (xs:List Value):Prop :=
 ∃ a c,v = .slice a n c∧xs.length=n*s∧n≤c∧c≤maxLen∧(a=none→c=0)∧(xs ≠ []→∃ b o,a=some ⟨b,o,none⟩∧Cells I b o xs)
theorem Sl.mono {I J:Im} {s:Nat} {v:Value} {n:Nat} {xs:List Value} (h:Sl I s v n xs) (hle:Le I J):Sl J s v n xs:=by
 obtain⟨a,c,h1,h2,h3,h4,h5,h6⟩:=h
 exact⟨a,c,h1,h2,h3,h4,h5,fun hx=>by obtain⟨b,o,ha,hc⟩:=h6 hx;exact⟨b,o,ha,hc.mono hle⟩⟩
theorem Sl.nil (I:Im) (s:Nat):Sl I s (.slice none 0 0) 0 []:=⟨none,0,rfl,by simp,Nat.le_refl _,by simp [maxLen],fun _=>rfl,fun h=>absurd rfl h⟩
theorem Sl.a6p {I:Im} {s b o n c:Nat} {xs:List Value} (h:Cells I b o xs) (hl:xs.length=n*s) (h1:n≤c) (h2:c≤maxLen):Sl I s (slc b o n c) n xs :=
 ⟨_,c,rfl,hl,h1,h2,(fun h=>by cases h),fun _=>⟨b,o,rfl,h⟩⟩
def Own (e:TypeId) (s:Nat) (v:Value) (n:Nat) (xs:List Value) (X:List (Nat×Obj)):Prop :=
 (v = .slice none 0 0∧n=0∧xs = []∧X = []) ∨
 ∃ b c sp,v=slc b 0 n c∧X = [(b,row (xs++sp) e)]∧xs.length=n*s∧(xs++sp).length=c*s∧n≤c∧c≤maxLen
theorem Own.made {e:TypeId} {s b n:Nat} {xs:List Value} (h:xs.length=n*s) (hn:n≤maxLen):Own e s (slc b 0 n n) n xs [(b,row xs e)] :=
 .inr ⟨b,n,[],rfl,by simp,h,by simpa using h,Nat.le_refl _,hn⟩
theorem Own.sl {e:TypeId} {s:Nat} {v:Value} {n:Nat} {xs:List Value} {X:List (Nat×Obj)} (h:Own e s v n xs X) {J:Im} (hJ:∀ p∈X,J p.1=some p.2):Sl J s v n xs:=by
 rcases h with ⟨rfl,rfl,rfl,rfl⟩|⟨b,c,sp,rfl,rfl,h1,h2,h3,h4⟩
 ·exact Sl.nil J s
 ·refine Sl.a6p ?_ h1 h3 h4
  have:=Cells.a9Z (hJ (b,row (xs++sp) e) (by simp))
  have h5:=this.sub (ys:=xs) 0 (fun i v hv=>by
   rw [Nat.zero_add,List.getElem?_append_left (List.getElem?_eq_some_iff.1 hv).1];exact hv)
  simpa using h5
def a0z:TypeDesc→Bool
 | .struct _ | .array _ _=>true
 | _=>false
def I4 (P:Program) (T:TypeId) (n:Nat):Prop:=(P.info? T).map (·.size)=some n
theorem I4.of {P:Program} {T:TypeId} {n:Nat} (h:(P.info? T).map (·.size)=some n):I4 P T n:=h
theorem I4.run {P:Program} {T:TypeId} {n:Nat} (h:I4 P T n) (w:World):(sizeOf T).run P w = .ok n w:=by
 unfold I4 at h
 cases hq:P.info? T with
 | none=>simp [hq] at h
 | some i=>simp [hq] at h;simp [sizeOf,typeInfo,hq,h]
def A6 (P:Program) (T:TypeId) (i:Nat):Option (Nat×Nat×Bool) :=
 match P.underlying T with
 | some (.struct fs)=>match fs[i]? with
  | some f=>match P.info? f.type,P.underlying f.type with
   | some inf,some dd=>some (f.offset,inf.size,a0z dd)
   | _,_=>none
  | none=>none
 | _=>none
def a0i (P:Program) (T:TypeId):Option (Nat×Nat×Bool) :=
 match P.underlying T with
 | some (.array n e)=>match P.info? e,P.underlying e with
  | some inf,some dd=>some (n,inf.size,a0z dd)
  | _,_=>none
 | _=>none
theorem a0A {P:Program} {T:TypeId} {dd:TypeDesc} (h:P.underlying T=some dd) (w:World):(isAgg T).run P w = .ok (a0z dd) w:=by
 unfold isAgg
 rw [Sem.run_bind,run_underlying h]
 cases dd<;>rfl
theorem Addr.add_plain (b o j:Nat):(⟨b,o,none⟩:Addr).add j=⟨b,o+j,none⟩:=by unfold Addr.add;split<;>simp_all
section
variable {P:Program} {C:Ctx} {N:Nat} {ρ:Env} {I:Im} {L:Lh} {φ:Value→Prop} {d:Option Nat} {ty:TypeId} {ps:String} {af:Array Edge} {g:Option (Nat×Bool)}
variable {x y z:Operand} {T T2 E:TypeId}
theorem J0.fieldAddr {i off sz b o:Nat} {ag:Bool} (hf:A6 P T i=some (off,sz+1,ag)) (hx:ev ρ x=some (ptr b o)) (k:φ (ptr b (o+off))):J0 P N ⟨d,.fieldAddr T x i,ty,ps,af,g⟩ ρ I L φ :=
 .mk k fun a w ha _=>by
  unfold A6 at hf
  split at hf
  ·rename_i fs hu
   split at hf
   ·rename_i f hfi
    split at hf
    ·rename_i inf dd h1 h2
     simp only [Option.some.injEq,Prod.mk.injEq] at hf
     obtain⟨rfl,h3,_⟩:=hf
     have hs:I4 P f.type (sz+1):=by simp [I4,h1,h3]
     simp [execOp,ha.ev hx,Instr.fieldAt,run_underlying hu,hfi,Instr.sureAddr,fieldPlace,hs.run,Addr.add_plain]
    ·cases hf
   ·cases hf
  ·cases hf
theorem J0.a1Z {n sz b o : Nat} {ag : Bool} {kd : IntKind} {i : Int} (hf : a0i P T = some (n, sz, ag)) (hx : ev ρ x = some (ptr b o)) (hy : ev ρ y = some (.int kd i)) (h0 : 0 ≤ i) (h1 : i < n)
    (k:φ (ptr b (o+i.toNat*sz))):J0 P N ⟨d,.indexAddr T x y,ty,ps,af,g⟩ ρ I L φ :=
  .mk k fun a w ha _=>by
    unfold a0i at hf
    split at hf
    · rename_i m e hu
      split at hf
      · rename_i inf dd h2 h3
        simp only [Option.some.injEq,Prod.mk.injEq] at hf
        obtain⟨rfl,h4,_⟩:=hf
        have hs:I4 P e sz:=by simp [I4,h2,h4]
        simp [execOp,ha.ev hx,ha.ev hy,Instr.indexAt,asIntOf,run_underlying hu,Instr.sureAddr,h0,h1,hs.run,Addr.add_plain]
      · cases hf
    · cases hf
theorem J0.a10 {n c sz b o : Nat} {kd : IntKind} {i : Int} (hT : P.underlying T = some (.slice E)) (hs : I4 P E sz) (hx : ev ρ x = some (slc b o n c)) (hy : ev ρ y = some (.int kd i)) (h0 : 0 ≤ i) (h1 : i < n)
    (k:φ (ptr b (o+i.toNat*sz))):J0 P N ⟨d,.indexAddr T x y,ty,ps,af,g⟩ ρ I L φ :=
  .mk k fun a w ha _=>by
    simp [execOp,ha.ev hx,ha.ev hy,Instr.indexAt,asIntOf,run_underlying hT,h0,h1,hs.run,Addr.add_plain]
theorem run_load {w:World} {b o:Nat} {v:Value} {dd:TypeDesc} (hT:P.underlying T=some dd) (hd:a0z dd=false) (hc:w.cell? ⟨b,o,none⟩=some v):(Instr.loadAt T (ptr b o)).run P w = .ok v w:=by
 simp [Instr.loadAt,Instr.sureAddr,loadVar,a0A hT,hd,load,Sem.run,hc]
theorem a4T {w : World} {b o : Nat} {vs : List Value} {dd : TypeDesc} (hT : P.underlying T = some dd) (hd : a0z dd = true) (hs : I4 P T vs.length) (hc : ∀ j v, vs[j]? = some v → w.cell? ⟨b, o + j, none⟩ = some v) :
    (Instr.loadAt T (ptr b o)).run P w = .ok (.agg vs.toArray) w:=by
  have hl:(loadCells ⟨b,o,none⟩ vs.length).run P w = .ok vs.toArray w:=run_loadCells_list (P:=P) w ⟨b,o,none⟩ vs (fun j v hv=>by rw [Addr.add_plain];exact hc j v hv)
  simp [Instr.loadAt,Instr.sureAddr,loadVar,a0A hT,hd,hs.run,hl]
theorem a11 {w:World} (hm:Mem I L w) {i b:Nat} {cs:List Value} {e:TypeId} (hL:L[i]?=some [(b,row cs e)]) (o:Nat):w.cell? ⟨b,o,none⟩=cs[o]?:=by
 have:=hm.loc (b,row cs e) (E7 hL (by simp))
 rw [cell_of this]
 simp
theorem a90 {dd : TypeDesc} {cs : List Value} {off sz : Nat} (hT : P.underlying T = some dd) (hs : I4 P T sz) (w : World) :
    (a0z dd=true→(part T cs.toArray off).run P w = .ok (.agg (E8 cs off sz).toArray) w)∧(∀ v,a0z dd=false→cs[off]?=some v→(part T cs.toArray off).run P w = .ok v w):=by
  refine⟨fun hd => ?_,fun v hd hv => ?_⟩
  · have:cs.toArray.extract off (off+sz)=(E8 cs off sz).toArray:=by simp [E8]
    simp only [part,Sem.run_bind,a0A hT,hd,Result.andThen_ok,if_true,hs.run,this,Sem.run_pure]
  · simp [part,a0A hT,hd,hv]
theorem J0.a92 {s : ByteArray} {kd : IntKind} {i : Nat} {c : UInt8} (hT : P.underlying T = some .string) (hx : ev ρ x = some (.string s)) (hy : ev ρ y = some (.int kd (i : Int))) (hv : s.data.toList[i]? = some c) (k : φ (u8 c)) :
    J0 P N ⟨d,.index T x y,ty,ps,af,g⟩ ρ I L φ :=
  .mk k fun a w ha hm=>by
    have hi:i < s.data.toList.length:=(List.getElem?_eq_some_iff.1 hv).1
    have hi':i < s.size:=by simpa using hi
    have hg:s[i]?=some c:=by
      rw [getElem?_pos s i hi']
      rw [List.getElem?_eq_getElem hi] at hv
      exact hv
    simp [execOp,ha.ev hx,ha.ev hy,Instr.index,asIntOf,run_underlying hT,hg,u8]
end
end Go.Fl
namespace Go.Fl
open Go.RowKit
section
variable {P:Program} {C:Ctx} {N:Nat} {ρ:Env} {I:Im} {L:Lh} {φ:Value→Prop} {K:Value→Im→Lh→Prop} {d:Option Nat} {ty:TypeId} {ps:String} {af:Array Edge} {g:Option (Nat×Bool)}
variable {x y z:Operand} {T T2 E:TypeId}
theorem a3B {a : Option Addr} {n c sz l h : Nat} {lo hi : Option Value} (hT : P.underlying T = some (.slice E)) (hs : I4 P E sz)
    (hlo:(lo=none∧l=0)∨∃ kd,lo=some (.int kd (l:Int))) (hhi:(hi=none∧h=n)∨∃ kd,hi=some (.int kd (h:Int))) (h1:l≤h) (h2:h≤c) (w:World) :
    (Instr.sliceAt T (.slice a n c) lo hi none).run P w = .ok (.slice (if c=l then a else a.map (·.add (l*sz))) (h - l) (c - l)) w:=by
  have e1:(h:Int)≤(c:Int):=by omega
  have e2:(l:Int)≤(h:Int):=by omega
  have hsb:(Instr.sliceBounds true n c lo hi none).run P w = .ok (l,h,c) w:=by
    rcases hlo with ⟨rfl,rfl⟩|⟨kl,rfl⟩<;>rcases hhi with ⟨rfl,rfl⟩|⟨kh,rfl⟩ <;>
      simp [Instr.sliceBounds,Instr.sliceBound,asIntOf,h1,h2]
  simp only [Instr.sliceAt,Instr.slice,Sem.run_bind,run_underlying hT,Result.andThen_ok,hsb,hs.run,Sem.run_pure]
theorem J0.slice {lo hi : Option Operand} {v : Value} {n sz l h : Nat} {xs : List Value} (hT : P.underlying T = some (.slice E)) (hs : I4 P E sz) (hx : ev ρ x = some v) (hv : Sl I sz v n xs)
    (hlo:(lo=none∧l=0)∨∃ kd o,lo=some o∧ev ρ o=some (.int kd (l:Int))) (hhi:(hi=none∧h=n)∨∃ kd o,hi=some o∧ev ρ o=some (.int kd (h:Int))) (h1:l≤h) (h2:h≤n)
    (k:∀ v',Sl I sz v' (h - l) ((xs.take (h*sz)).drop (l*sz))→φ v'):J0 P N ⟨d,.slice T x lo hi none,ty,ps,af,g⟩ ρ I L φ:=by
  obtain⟨a,c,rfl,hl,hnc,hcm,hnone,hcells⟩:=hv
  refine .mk (k (.slice (if c=l then a else a.map (·.add (l*sz))) (h - l) (c - l)) ?_) fun ac w ha hm => ?_
  · have hmul:(h - l)*sz=h*sz - l*sz:=Nat.sub_mul _ _ _
    have hle:h*sz≤n*sz:=Nat.mul_le_mul_right _ h2
    refine⟨_,_,rfl,by rw [List.length_drop,List.length_take,hl,hmul];omega,by omega,by unfold maxLen at *;omega,fun hn => ?_,fun hne => ?_⟩
    · split at hn
      · omega
      · have:=hnone (by simpa using hn);omega
    · have hxs:xs ≠ []:=by intro e;subst e;simp at hne
      obtain⟨b,o,rfl,hc⟩:=hcells hxs
      have hcl:c≠l:=by
        intro e
        apply hne
        apply List.eq_nil_of_length_eq_zero
        rw [List.length_drop,List.length_take,hl]
        have:h=l:=by omega
        subst this
        omega
      rw [if_neg hcl]
      refine⟨b,o+l*sz,by simp [Addr.add_plain],hc.sub (l*sz) fun i u hu => ?_⟩
      rw [List.getElem?_drop,List.getElem?_take] at hu
      split at hu
      · exact hu
      · cases hu
  · have hlo':((lo.map ac.eval)=none∧l=0)∨∃ kd,lo.map ac.eval=some (.int kd (l:Int)):=by
      rcases hlo with ⟨rfl,rfl⟩|⟨kd,o,rfl,ho⟩
      · exact .inl ⟨a8,a8⟩
      · exact .inr ⟨kd,by simp [ha.ev ho]⟩
    have hhi':((hi.map ac.eval)=none∧h=n)∨∃ kd,hi.map ac.eval=some (.int kd (h:Int)):=by
      rcases hhi with ⟨rfl,rfl⟩|⟨kd,o,rfl,ho⟩
      · exact .inl ⟨a8,a8⟩
      · exact .inr ⟨kd,by simp [ha.ev ho]⟩
    simp [execOp,ha.ev hx,a3B hT hs hlo' hhi' h1 (Nat.le_trans h2 hnc) w]
theorem J0.a94 {lo hi : Option Operand} {s : ByteArray} {l h : Nat} (hT : P.underlying T = some .string) (hx : ev ρ x = some (.string s))
    (hlo:(lo=none∧l=0)∨∃ kd o,lo=some o∧ev ρ o=some (.int kd (l:Int))) (hhi:(hi=none∧h=s.size)∨∃ kd o,hi=some o∧ev ρ o=some (.int kd (h:Int))) (h1:l≤h) (h2:h≤s.size)
    (k:φ (.string (s.extract l h))):J0 P N ⟨d,.slice T x lo hi none,ty,ps,af,g⟩ ρ I L φ :=
  .mk k fun ac w ha hm=>by
    have e1:(h:Int)≤(s.size:Int):=by omega
    have e2:(l:Int)≤(h:Int):=by omega
    have hlo':((lo.map ac.eval)=none∧l=0)∨∃ kd,lo.map ac.eval=some (.int kd (l:Int)):=by
      rcases hlo with ⟨rfl,rfl⟩|⟨kd,o,rfl,ho⟩
      · exact .inl ⟨a8,a8⟩
      · exact .inr ⟨kd,by simp [ha.ev ho]⟩
    have hhi':((hi.map ac.eval)=none∧h=s.size)∨∃ kd,hi.map ac.eval=some (.int kd (h:Int)):=by
      rcases hhi with ⟨rfl,rfl⟩|⟨kd,o,rfl,ho⟩
      · exact .inl ⟨a8,a8⟩
      · exact .inr ⟨kd,by simp [ha.ev ho]⟩
    have hsb:(Instr.sliceBounds false s.size s.size (lo.map ac.eval) (hi.map ac.eval) none).run P w = .ok (l,h,s.size) w:=by
      rcases hlo' with ⟨e,rfl⟩|⟨kl,e⟩<;>rcases hhi' with ⟨e',rfl⟩|⟨kh,e'⟩<;>rw [e,e'] <;>
        simp [Instr.sliceBounds,Instr.sliceBound,asIntOf,h1,h2]
    simp [execOp,ha.ev hx,Instr.sliceAt,Instr.slice,run_underlying hT,hsb]
def a0j (P:Program) (T:TypeId):Option (List Value):=((P.info? T).bind (·.zero)).map (·.cells.toList)
theorem a1A {zs:List Value} (h:a0j P T=some zs) (w:World):∃ z,(zeroValue T).run P w = .ok z w∧z.cells=zs.toArray:=by
 unfold a0j at h
 cases hq:P.info? T with
 | none=>simp [hq] at h
 | some i =>
  cases hz:i.zero with
  | none=>simp [hq,hz] at h
  | some z =>
   refine⟨z,by simp [zeroValue,typeInfo,hq,hz],?_⟩
   simp [hq,hz] at h
   rw [←h]
theorem a3K {o : Oper} {cs : List Value} {e : TypeId} {v : Nat → Value} (h : ∀ a w, Fits N ρ a → Mem I L w → (execOp a.eval o).run P w = .ok (.value (v w.heap.size)) (w.alloc (row cs e)))
    (k:∀ b,K (v b) I [[(b,row cs e)]]):OpX P N o ρ I L K:=fun a w ha hm=>by
  rw [h a w ha hm]
  have hnew:(w.alloc (row cs e)).heap[w.heap.size]?=some (row cs e):=heap_alloc_new w _
  have hold:∀ b,b < w.heap.size→(w.alloc (row cs e)).heap[b]?=w.heap[b]?:=fun b hb=>heap_alloc_old w _ hb
  refine⟨I,[[(w.heap.size,row cs e)]],⟨rfl,rfl,rfl,by simp,fun k hk _=>hold k hk⟩,Le.refl _,fun b h0 h1=>absurd h0 h1,⟨fun b o hb => ?_,fun p hp => ?_,fun p hp => ?_,?_⟩,?_,k _⟩
  · exact(hold b (A8 (hm.im b o hb))).trans (hm.im b o hb)
  · simp only [List.cons_append,List.nil_append,List.flatten_cons,List.mem_cons] at hp
    rcases hp with rfl|hp
    · exact hnew
    · exact(hold _ (A8 (hm.loc p hp))).trans (hm.loc p hp)
  · simp only [List.cons_append,List.nil_append,List.flatten_cons,List.mem_cons] at hp
    rcases hp with rfl|hp
    · cases hi:I w.heap.size with
      | none=>rfl
      | some o=>have:=A8 (hm.im _ o hi);omega
    · exact hm.sep p hp
  · simp only [List.cons_append,List.nil_append,List.flatten_cons,List.map_cons,List.nodup_cons,List.mem_map,not_exists,not_and]
    refine⟨fun p hp e => ?_,hm.nodup⟩
    have:=A8 (hm.loc p hp)
    omega
  · intro p hp;simp at hp;subst hp;exact Nat.le_refl _
theorem OpX.alloc {zs:List Value} (hz:a0j P T=some zs) (k:∀ b,K (ptr b 0) I [[(b,row zs T)]]):OpX P N ⟨d,.alloc T,ty,ps,af,g⟩ ρ I L K :=
 a3K (v:=fun b=>ptr b 0) (fun a w ha hm=>by
  obtain⟨z,h1,h2⟩:=a1A hz w
  simp only [execOp,Instr.alloc,Sem.run_bind,h1,Result.andThen_ok,newVar,newRow,h2,newObj,Sem.run,Sem.run_pure]
  rfl) k
theorem OpX.box {v:Value} {cs:List Value} (hx:ev ρ x=some v) (hv:v.cells.toList=cs) (k:∀ b,K (ptr b 0) I [[(b,row cs T)]]):OpX P N ⟨d,.box T x,ty,ps,af,g⟩ ρ I L K :=
 a3K (v:=fun b=>ptr b 0) (fun a w ha hm=>by
  have:v.cells=cs.toArray:=by rw [←hv]
  simp only [execOp,Instr.box,Sem.run_bind,ha.ev hx,Result.andThen_ok,newVar,newRow,this,newObj,Sem.run,Sem.run_pure]
  rfl) k
def evP (ρ:Env):List (Nat×Operand)→Option (List (Nat×Value))
 | []=>some []
 | p::r=>match ev ρ p.2,evP ρ r with
  | some v,some l=>some ((p.1,v)::l)
  | _,_=>none
theorem Fits.evP {a:Act} (h:Fits N ρ a):∀ {l:List (Nat×Operand)} {vs:List (Nat×Value)},evP ρ l=some vs→l.map (fun p=>(p.1,a.eval p.2))=vs
 | [],vs,hl=>by simp [Fl.evP] at hl;subst hl;rfl
 | p::r,vs,hl=>by
  simp only [Fl.evP] at hl
  cases hx:Fl.ev ρ p.2 with
  | none=>simp [hx] at hl
  | some v =>
   cases hr:Fl.evP ρ r with
   | none=>simp [hx,hr] at hl
   | some l =>
    simp [hx,hr] at hl
    subst hl
    simp [h.ev hx,h.evP hr]
def L8 (sz:Nat):Nat→List (Nat×Value)→Option (List Value)
 | _,[]=>some []
 | i,p::r=>bif Nat.beq p.1 i&&Nat.beq p.2.cells.size sz then (L8 sz (i+1) r).map (p.2.cells.toList ++ ·) else none
theorem O7 {cs:List Value} {o:Nat} {vs:List Value} (h:o≤cs.length) (i:Nat):(D5 cs o vs)[i]?=if i < o then cs[i]? else if i < o+vs.length then vs[i - o]? else cs[i]?:=by
 have h1:(cs.take o).length=o:=by simp;omega
 simp only [D5,List.append_assoc]
 by_cases hi:i < o
 ·rw [if_pos hi,List.getElem?_append_left (by omega),List.getElem?_take,if_pos hi]
 ·rw [if_neg hi,List.getElem?_append_right (by omega),h1]
  by_cases h2:i < o+vs.length
  ·rw [if_pos h2,List.getElem?_append_left (by omega)]
  ·rw [if_neg h2,List.getElem?_append_right (by omega),List.getElem?_drop]
   congr 1
   omega
theorem a6q {cells vs:Array Value} {off:Nat} (h:off+vs.size≤cells.size):(vs.zipIdx.foldl (fun cs (c,j)=>cs.setIfInBounds (off+j) c) cells).toList=D5 cells.toList off vs.toList:=by
  have key : ∀ (l : List Value) (k : Nat) (cs : Array Value), off + k + l.length ≤ cs.size →
      ((l.zipIdx k).foldl (fun cs (p:Value×Nat)=>cs.setIfInBounds (off+p.2) p.1) cs).toList=D5 cs.toList (off+k) l:=by
    intro l
    induction l with
    | nil=>intro k cs _;simp [D5]
    | cons v r ih =>
      intro k cs hl
      simp only [List.zipIdx_cons,List.foldl_cons]
      simp only [List.length_cons] at hl
      rw [ih (k+1) _ (by simp;omega)]
      apply List.ext_getElem?
      intro i
      rw [O7 (by simp;omega),O7 (by simp;omega)]
      simp only [Array.toList_setIfInBounds,List.getElem?_set,List.length_cons,Array.length_toList]
      by_cases h1:i < off+k
      · rw [if_pos (by omega),if_pos h1,if_neg (by omega)]
      · rw [if_neg h1]
        by_cases h2:i=off+k
        · subst h2
          rw [if_pos (by omega),if_pos rfl,if_pos (by omega),if_pos (by omega)]
          simp
        · rw [if_neg (by omega)]
          by_cases h3:i < off+(k+1)+r.length
          · rw [if_pos h3,if_pos (by omega),show i - (off+k)=(i - (off+(k+1)))+1 by omega]
            simp
          · rw [if_neg h3,if_neg (by omega),if_neg (by omega)]
  have:=key vs.toList 0 cells (by simpa using h)
  rw [←Array.foldl_toList]
  simpa using this
theorem a2L {sz : Nat} : ∀ (pv : List (Nat × Value)) (i : Nat) (cells : Array Value) (vs : List Value), L8 sz i pv = some vs → i * sz + vs.length ≤ cells.size →
    ∃ out,Instr.fill (fun i=>some (i*sz,sz)) cells pv=some out∧out.toList=D5 cells.toList (i*sz) vs
  | [],i,cells,vs,h,hl=>by simp [L8] at h;subst h;exact⟨cells,rfl,by simp [D5]⟩
  | p::r,i,cells,vs,h,hl=>by
    unfold L8 at h
    cases hb:(Nat.beq p.1 i&&Nat.beq p.2.cells.size sz) with
    | false=>simp [hb] at h
    | true =>
      simp only [hb,cond_true] at h
      simp only [Bool.and_eq_true] at hb
      have hp1:p.1=i:=Nat.eq_of_beq_eq_true hb.1
      have hp2:p.2.cells.size=sz:=Nat.eq_of_beq_eq_true hb.2
      cases hr:L8 sz (i+1) r with
      | none=>simp [hr] at h
      | some us =>
        simp [hr] at h
        subst h
        have hlen:(p.2.cells.toList++us).length=sz+us.length:=by simp [hp2]
        rw [hlen] at hl
        have hseg:=a6q (cells:=cells) (vs:=p.2.cells) (off:=i*sz) (by omega)
        obtain⟨pi,pv⟩:=p
        simp only at hp1 hp2 hseg
        subst hp1
        obtain⟨out,h1,h2⟩:=a2L r (pi+1) (pv.cells.zipIdx.foldl (fun cs (c,j)=>cs.setIfInBounds (pi*sz+j) c) cells) us hr (by
          have:(pv.cells.zipIdx.foldl (fun cs (c,j)=>cs.setIfInBounds (pi*sz+j) c) cells).size=cells.size:=by
            rw [←Array.length_toList,hseg,V7 _ _ _ (by simp;omega)];simp
          rw [this,Nat.succ_mul]
          omega)
        refine⟨out,?_,?_⟩
        · simp only [Instr.fill]
          rw [if_neg (by simp [hp2];omega)]
          exact h1
        · rw [h2,hseg]
          have hz:pv.cells.toList.length=sz:=by simpa using hp2
          have hsl:=V7 cells.toList (pi*sz) pv.cells.toList (by simp [hp2];omega)
          simp only [Array.length_toList] at hsl
          apply List.ext_getElem?
          intro i
          simp only [Nat.succ_mul] at *
          rw [O7 (by rw [hsl];omega),O7 (by simp;omega),O7 (by simp;omega),hlen,hz]
          by_cases h3:i < pi*sz
          · rw [if_pos (by omega),if_pos h3,if_pos h3]
          · rw [if_neg h3,if_neg h3]
            by_cases h4:i < pi*sz+sz
            · rw [if_pos h4,if_pos h4,if_pos (by omega),List.getElem?_append_left (by omega)]
            · rw [if_neg h4]
              by_cases h5:i < pi*sz+sz+us.length
              · rw [if_pos h5,if_pos (by omega),List.getElem?_append_right (by omega),hz]
                congr 1
                omega
              · rw [if_neg h5,if_neg h4,if_neg (by omega)]
theorem OpX.buildSlice {n sz : Nat} {zs vs : List Value} {parts : Array (Nat × Operand)} {pv : List (Nat × Value)} (hT : P.underlying T = some (.slice E)) (hs : I4 P E sz) (hz : a0j P E = some zs) (hzl : zs.length = sz)
    (hp:evP ρ parts.toList=some pv) (hside:L8 sz 0 pv=some vs) (hlen:vs.length=n*sz) (hn:n*sz≤16777216) (k:∀ b,K (slc b 0 n n) I [[(b,row vs E)]]) :
    OpX P N ⟨d,.buildSlice T n parts,ty,ps,af,g⟩ ρ I L K :=
  a3K (v:=fun b=>slc b 0 n n) (fun a w ha hm=>by
    obtain⟨zv,h1,h2⟩:=a1A hz w
    have hparts:(parts.map fun (i,x)=>(i,a.eval x)).toList=pv:=by rw [Array.toList_map];exact ha.evP hp
    have hn':¬(16777216 < n*sz):=by omega
    obtain⟨zero,hzero,hzsz⟩:∃ zero:Array Value,(if n*sz=0 then (pure #[]:Sem (Array Value)) else do pure (←zeroValue E).cells).run P w = .ok zero w∧(n*sz≠0→zero.size=sz):=by
      by_cases h0:n*sz=0
      · exact⟨#[],by simp [h0],fun h=>absurd h0 h⟩
      · exact⟨zv.cells,by simp [h0,h1],fun _=>by rw [h2];simpa using hzl⟩
    obtain⟨out,ho1,ho2⟩:=a2L (sz:=sz) pv 0 ((Array.range (n*sz)).map (zero[· % zero.size]!)) vs hside (by simp [hlen])
    have ho3:out=vs.toArray:=by
      apply Array.ext'
      rw [ho2]
      simp [D5,hlen]
    simp only [execOp,Instr.buildSlice,Sem.run_bind,run_underlying hT,Result.andThen_ok,hs.run]
    rw [if_neg hn']
    have hparts2:(parts.map fun x=>(x.1,a.eval x.2)).toList=pv:=hparts
    by_cases h0:n*sz=0
    · rw [if_pos h0] at hzero
      have hz0 : #[]=zero:=by simp only [Sem.run_pure,Result.ok.injEq] at hzero;exact hzero.1
      subst hz0
      rw [if_pos h0]
      simp only [Sem.run_bind,Sem.run_pure,Result.andThen_ok,hparts2,ho1,newRow,newObj,Sem.run,ho3]
      rfl
    · have hz0:zv.cells=zero:=by
        rw [if_neg h0] at hzero
        simp only [Sem.run_bind,h1,Result.andThen_ok,Sem.run_pure,Result.ok.injEq] at hzero
        exact hzero.1
      subst hz0
      rw [if_neg h0]
      simp only [Sem.run_bind,Sem.run_pure,h1,Result.andThen_ok,hparts2,ho1,newRow,newObj,Sem.run,ho3]
      rfl) k
end
end Go.Fl
namespace Go.Fl
open Go.RowKit
theorem St.write {C : Ctx} {I : Im} {L : Lh} {w w' : World} (hs : St C I L w) {i b : Nat} {o o' : Obj} (hL : L[i]? = some [(b, o)])
    (hb:w'.heap[b]?=some o') (hk:∀ k,k≠b→w'.heap[k]?=w.heap[k]?) (hsz:w'.heap.size=w.heap.size) (h1:w'.os=w.os) (h2:w'.tape=w.tape) (h3:w'.output=w.output) :
    St C I (L.set i [(b,o')]) w':=by
  have hm:=hs.mem
  have hsplit:=Y7 L i _ hL [(b,o')]
  have hbm:(b,o)∈L.flatten:=E7 hL (by simp)
  have hnd:=hm.nodup
  rw [hsplit.1] at hnd
  have hoth:∀ p,p∈(L.take i).flatten∨p∈(L.drop (i+1)).flatten→p∈L.flatten∧p.1≠b:=by
    intro p hp
    rw [hsplit.1]
    simp only [List.map_append,List.nodup_append] at hnd
    rcases hp with hp|hp
    · exact⟨by simp [hp],fun hx=>hnd.2.2 p.1 (List.mem_map_of_mem hp) b (by simp) hx⟩
    · exact⟨by simp [hp],fun hx=>hnd.2.1.2.2 b (by simp) p.1 (List.mem_map_of_mem hp) hx.symm⟩
  have hcas:∀ p∈(L.set i [(b,o')]).flatten,p=(b,o')∨(p∈(L.take i).flatten∨p∈(L.drop (i+1)).flatten):=by
    intro p hp
    rw [hsplit.2] at hp
    simp only [List.mem_append,List.mem_singleton] at hp
    rcases hp with hp|hp|hp
    · exact .inr (.inl hp)
    · exact .inl hp
    · exact .inr (.inr hp)
  refine⟨⟨fun k ob hI => ?_,fun p hp => ?_,fun p hp => ?_,?_⟩,⟨h1.trans hs.S4.os,h2.trans hs.S4.tape,h3.trans hs.S4.output,by rw [hsz];exact hs.S4.size,fun k hk0 hkM => ?_⟩,fun p hp => ?_,hs.U0,hs.new⟩
  · have:k≠b:=by
      rintro rfl
      have:=hm.sep _ hbm
      rw [this] at hI
      cases hI
    rw [hk k this]
    exact hm.im k ob hI
  · rcases hcas p hp with rfl|h
    · exact hb
    · obtain⟨h4,h5⟩:=hoth p h
      rw [hk _ h5]
      exact hm.loc p h4
  · rcases hcas p hp with rfl|h
    · exact hm.sep (b,o) hbm
    · exact hm.sep p (hoth p h).1
  · rw [hsplit.2]
    simpa using hnd
  · have:k≠b:=by
      rintro rfl
      rcases hs.own _ hbm with h|h
      · simp at h;omega
      · exact hkM h
    rw [hk k this]
    exact hs.S4.block k hk0 hkM
  · rcases hcas p hp with rfl|h
    · exact hs.own (b,o) hbm
    · exact hs.own p (hoth p h).1
theorem St.setRow {C:Ctx} {I:Im} {L:Lh} {w:World} (hs:St C I L w) {i b:Nat} {cs:List Value} {e:TypeId} (hL:L[i]?=some [(b,row cs e)]) (cs':List Value):St C I (L.set i [(b,row cs' e)]) (w.setRow b cs'.toArray):=by
 have hb:=hs.mem.loc (b,row cs e) (E7 hL (by simp))
 exact hs.write hL (setRow_heap w b _ _ e (0,0) hb) (fun k hk=>setRow_other w b k _ hk) (by simp) rfl rfl rfl
section
variable {P:Program} {C:Ctx} {N:Nat} {ρ:Env} {I:Im} {L:Lh} {φ:Value→Prop} {K:Value→Im→Lh→Prop} {d:Option Nat} {ty:TypeId} {ps:String} {af:Array Edge} {g:Option (Nat×Bool)}
variable {x y z:Operand} {T T2 E:TypeId}
def Z1 (vs:List Value):Bool:=vs.all (·.oneCell')
theorem OpS.store (i : Nat) {b off : Nat} {v : Value} {cs vs : List Value} {e : TypeId} (hs : I4 P T vs.length) (hx : ev ρ x = some (ptr b off)) (hy : ev ρ y = some v) (hv : v.cells.toList = vs) (h1 : Z1 vs = true)
    (hL:L[i]?=some [(b,row cs e)]) (hle:off+vs.length≤cs.length) (k:K undef I (L.set i [(b,row (D5 cs off vs) e)])) :
    OpS P C N ⟨d,.store T x y,ty,ps,af,g⟩ ρ I L K:=fun a w ha hst=>by
  have hb:=hst.mem.loc (b,row cs e) (E7 hL (by simp))
  have hvs:v.cells.size=vs.length:=by rw [←hv];simp
  have hall:∀ u∈vs,u.oneCell'=true:=fun u hu=>List.all_eq_true.1 h1 u hu
  have hrun:=run_storeCells_at P b off e vs 0 cs.toArray w hb (by simpa using hle) hall
  have hr:(execOp a.eval ⟨d,.store T x y,ty,ps,af,g⟩).run P w = .ok .skip (w.setRow b (D5 cs off vs).toArray):=by
    simp only [Nat.add_zero] at hrun
    simp [execOp,ha.ev hx,ha.ev hy,Instr.storeAt,Instr.sureAddr,storeVar,hs.run,hvs,hv,hrun,D5]
  rw [hr]
  exact⟨I,_,hst.setRow hL _,k⟩
structure Src (P:Program) (I:Im) (L:Lh) (s:Nat) (v:Value) (m:Nat) (news:List Value):Prop where
 len:∀ w,(Builtin.lenOf v).run P w = .ok m w
 cells:∀ w,Mem I L w→∀ k,k≤m→(Builtin.firstCells s k v).run P w = .ok (news.take (k*s)).toArray w
 size:news.length=m*s
theorem Src.sl {s m:Nat} {v:Value} {news:List Value} (h:Sl I s v m news):Src P I L s v m news:=by
 obtain⟨a,c,rfl,hl,hnc,hcm,hnone,hcells⟩:=h
 refine⟨fun w=>by simp [Builtin.lenOf],fun w hm k hk => ?_,hl⟩
 have hle:k*s≤m*s:=Nat.mul_le_mul_right _ hk
 have htl:(news.take (k*s)).length=k*s:=by rw [List.length_take,hl];exact Nat.min_eq_left hle
 by_cases hn:news = []
 ·subst hn
  cases a with
  | none=>simp [Builtin.firstCells]
  | some ad =>
   have h0:k*s=0:=by simp at htl;omega
   simp [Builtin.firstCells,loadCells,h0,loadCellsFrom]
 ·obtain⟨b,o,rfl,hc⟩:=hcells hn
  have:=run_loadCells_list (P:=P) w ⟨b,o,none⟩ (news.take (k*s)) (fun j u hj=>by
   rw [List.getElem?_take] at hj
   split at hj
   ·rw [Addr.add_plain];exact hc.cell hm hj
   ·cases hj)
  rw [htl] at this
  simp only [Builtin.firstCells,this]
def a0V (l:List UInt8):List Value:=l.map u8
theorem a4E {n m : Nat} {inf : TypeInfo} {zv : Value} {a : Option Addr} {c : Nat} {v : Value} {news : List Value} {U E2 : TypeId} {w : World}
    (hT:P.underlying T=some (.slice E)) (hi:P.info? E=some inf) (hz:inf.zero=some zv) (hU:P.underlying U=some (.slice E2))
    (hlen:∀ w,(Builtin.lenOf v).run P w = .ok m w) (hcells:∀ w',w'.heap=w.heap→(Builtin.firstCells inf.size m v).run P w' = .ok news.toArray w')
    (hn63:n+m≤9223372036854775807) (hb:(n+m)*inf.bytes≤140737488355328) :
    (n+m≤c→(Builtin.append_ #[T,U] ty #[.slice a n c,v]).run P w=((match a with|some ad=>storeCells (ad.add (n*inf.size)) news|none=>pure ()).run P w).andThen fun _ w' => .ok (.slice a (n+m) c) w') ∧
    (c < n+m→∀ olds,((Builtin.firstCells inf.size n (.slice a n c)).run P w.drew = .ok olds w.drew) →
      (Builtin.append_ #[T,U] ty #[.slice a n c,v]).run P w = .ok (.slice (some ⟨w.heap.size,0,none⟩) (n+m) (grownCap w (n+m) c E))
        (w.drew.alloc (.cells (olds++news.toArray++Builtin.zeroCells zv.cells (grownCap w (n+m) c E - (n+m))) E))):=by
  refine⟨fun hle => ?_,fun hlt olds hold => ?_⟩
  · have hc:=hcells w rfl
    cases a<;>simp [Builtin.append_,run_underlying hT,run_underlying hU,sizeOf,typeInfo,hi,hlen,hle,hc]
  · have hc:=hcells w.drew rfl
    have h63':¬(9223372036854775807 < ((n:Int)+(m:Int))):=by omega
    have hfit:¬(281474976710656 < Builtin.nextslicecap (n+m) c*inf.bytes):=by have:=growslice_fits hlt hb;omega
    have hnle:¬(n+m≤c):=by omega
    simp [Builtin.append_,run_underlying hT,run_underlying hU,sizeOf,typeInfo,zeroValue,hi,hz,hlen,hnle,h63',hfit,Question.forced,newRow,grownCap,hold,hc]
theorem a3Y {n m : Nat} {inf : TypeInfo} {zv : Value} {a : Option Addr} {c : Nat} {v : Value} {news : List Value} {U : TypeId} {w : World}
    (hT:P.underlying T=some (.slice E)) (hi:P.info? E=some inf) (hz:inf.zero=some zv) (hU:P.underlying U=some .string)
    (hlen:∀ w,(Builtin.lenOf v).run P w = .ok m w) (hcells:∀ w',w'.heap=w.heap→(Builtin.firstCells inf.size m v).run P w' = .ok news.toArray w')
    (hn63:n+m≤9223372036854775807) (hb:(n+m)*inf.bytes≤140737488355328) :
    (n+m≤c→(Builtin.append_ #[T,U] ty #[.slice a n c,v]).run P w=((match a with|some ad=>storeCells (ad.add (n*inf.size)) news|none=>pure ()).run P w).andThen fun _ w' => .ok (.slice a (n+m) c) w') ∧
    (c < n+m→∀ olds,((Builtin.firstCells inf.size n (.slice a n c)).run P w.drew = .ok olds w.drew) →
      (Builtin.append_ #[T,U] ty #[.slice a n c,v]).run P w = .ok (.slice (some ⟨w.heap.size,0,none⟩) (n+m) (grownCap w (n+m) c E))
        (w.drew.alloc (.cells (olds++news.toArray++Builtin.zeroCells zv.cells (grownCap w (n+m) c E - (n+m))) E))):=by
  refine⟨fun hle => ?_,fun hlt olds hold => ?_⟩
  · have hc:=hcells w rfl
    cases a<;>simp [Builtin.append_,run_underlying hT,run_underlying hU,sizeOf,typeInfo,hi,hlen,hle,hc]
  · have hc:=hcells w.drew rfl
    have h63':¬(9223372036854775807 < ((n:Int)+(m:Int))):=by omega
    have hfit:¬(281474976710656 < Builtin.nextslicecap (n+m) c*inf.bytes):=by have:=growslice_fits hlt hb;omega
    have hnle:¬(n+m≤c):=by omega
    simp [Builtin.append_,run_underlying hT,run_underlying hU,sizeOf,typeInfo,zeroValue,hi,hz,hlen,hnle,h63',hfit,Question.forced,newRow,grownCap,hold,hc]
structure Elt (P:Program) (T E:TypeId) (s by_:Nat):Prop where
 und:P.underlying T=some (.slice E)
 info:∃ inf zv,P.info? E=some inf∧inf.zero=some zv∧inf.size=s∧inf.bytes=by_∧zv.cells.size=s
def b3Z (P:Program) (T:TypeId):Option (TypeId×Nat×Nat×Nat) :=
 match P.underlying T with
 | some (.slice E)=>match P.info? E with
  | some inf=>match inf.zero with
   | some zv=>some (E,inf.size,inf.bytes,zv.cells.size)
   | none=>none
  | none=>none
 | _=>none
theorem Elt.of {E:TypeId} {s by_:Nat} (h:b3Z P T=some (E,s,by_,s)):Elt P T E s by_:=by
 unfold b3Z at h
 split at h
 ·rename_i e hu
  split at h
  ·rename_i inf hi
   split at h
   ·rename_i zv hz
    simp only [Option.some.injEq,Prod.mk.injEq] at h
    obtain⟨rfl,h1,h2,h3⟩:=h
    exact⟨hu,inf,zv,hi,hz,h1,h2,h3⟩
   ·cases h
  ·cases h
 ·cases h
theorem St.b2I {C:Ctx} {I:Im} {L:Lh} {w:World} (hs:St C I L w) (i:Nat):St C I (L.set i []) w:=by
 have hsub:=W0 L i
 exact⟨⟨hs.mem.im,fun p hp=>hs.mem.loc p (hsub.subset hp),fun p hp=>hs.mem.sep p (hsub.subset hp),(hsub.map Prod.fst).nodup hs.mem.nodup⟩,hs.S4,fun p hp=>hs.own p (hsub.subset hp),hs.U0,hs.new⟩
theorem St.replace {C : Ctx} {I : Im} {L : Lh} {w w' : World} (hs : St C I L w) {i : Nat} {X : List (Nat × Obj)} (hL : L[i]? = some X) {o : Obj} (hw : w'.heap = w.heap.push o) (h1 : w'.os = w.os) (h2 : w'.tape = w.tape) (h3 : w'.output = w.output) :
    St C I (L.set i [(w.heap.size,o)]) w':=by
  have hnew:w'.heap[w.heap.size]?=some o:=by rw [hw];simp
  have hold:∀ b,b < w.heap.size→w'.heap[b]?=w.heap[b]?:=fun b hb=>by rw [hw,Array.getElem?_push,if_neg (by omega)]
  have hm:=hs.mem
  have hsplit:=Y7 L i X hL [(w.heap.size,o)]
  have hnd:=hm.nodup
  rw [hsplit.1] at hnd
  have hoth:∀ p,p∈(L.take i).flatten∨p∈(L.drop (i+1)).flatten→p∈L.flatten:=by
    intro p hp
    rw [hsplit.1]
    rcases hp with hp|hp<;>simp [hp]
  have hcas:∀ p∈(L.set i [(w.heap.size,o)]).flatten,p=(w.heap.size,o)∨(p∈(L.take i).flatten∨p∈(L.drop (i+1)).flatten):=by
    intro p hp
    rw [hsplit.2] at hp
    simp only [List.mem_append,List.mem_singleton] at hp
    rcases hp with hp|hp|hp
    · exact .inr (.inl hp)
    · exact .inl hp
    · exact .inr (.inr hp)
  have hlt:∀ p∈L.flatten,p.1 < w.heap.size:=fun p hp=>A8 (hm.loc p hp)
  refine⟨⟨fun k ob hI => ?_,fun p hp => ?_,fun p hp => ?_,?_⟩,⟨h1.trans hs.S4.os,h2.trans hs.S4.tape,h3.trans hs.S4.output,by rw [hw];have:=hs.S4.size;simp;omega,fun k hk0 hkM => ?_⟩,fun p hp => ?_,hs.U0,hs.new⟩
  · rw [hold k (A8 (hm.im k ob hI))];exact hm.im k ob hI
  · rcases hcas p hp with rfl|h
    · exact hnew
    · have:=hoth p h;rw [hold _ (hlt p this)];exact hm.loc p this
  · rcases hcas p hp with rfl|h
    · cases hi:I w.heap.size with
      | none=>rfl
      | some ob=>have:=A8 (hm.im _ ob hi);omega
    · exact hm.sep p (hoth p h)
  · rw [hsplit.2]
    simp only [List.map_append,List.map_cons,List.map_nil,List.nodup_append] at hnd ⊢
    refine⟨hnd.1,⟨by simp,hnd.2.1.2.1,?_⟩,?_⟩
    · intro x hx y hy e
      obtain⟨q,hq,rfl⟩:=List.mem_map.1 hy
      simp at hx
      have:=hlt q (hoth q (.inr hq))
      omega
    · intro x hx y hy e
      obtain⟨q,hq,rfl⟩:=List.mem_map.1 hx
      have h5:=hlt q (hoth q (.inl hq))
      simp only [List.mem_append,List.mem_singleton] at hy
      rcases hy with rfl|hy
      · omega
      · exact hnd.2.2 _ (List.mem_map_of_mem hq) y (by simp only [List.mem_append];exact .inr hy) e
  · have:k < w.heap.size:=Nat.lt_of_lt_of_le hk0 hs.S4.size
    rw [hold k this]
    exact hs.S4.block k hk0 hkM
  · rcases hcas p hp with rfl|h
    · exact .inl hs.S4.size
    · exact hs.own p (hoth p h)
theorem wpL.forget {C:Ctx} {ops:Array Oper} {Q:Exit→Env→Im→Lh→Prop} {l:List Oper} {X L:Lh} (h:wpL P C N ops Q l ρ I L):wpL P C N ops Q l ρ I (X++L):=fun hd a w ha hs=>h hd a w ha hs.drop
theorem wpS.forget {C:Ctx} {c:Code} {Q:Exit→Env→Im→Lh→Prop} {X L:Lh} (h:wpS P C N c Q ρ I L):wpS P C N c Q ρ I (X++L):=fun a w ha hs=>h a w ha hs.drop
def a95 (tmps:Array Value):ResultVar→Sem Value
 | .tmp t=>pure (tmps.getD t undef)
 | .cell a t=>do loadVar t (←asAddr (tmps.getD a undef))
theorem a0W (fn:Func) (tmps:Array Value):results fn tmps=(do let vs ←fn.results.mapM (a95 tmps);pure (if h:vs.size=1 then vs[0] else .tuple vs)):=by
 unfold results
 congr 1
def a2M (P:Program) (r:ResultVar) (ρ:Env) (I:Im) (L:Lh) (v:Value):Prop :=
 ∀ N a w,Fits N ρ a→Mem I L w→(a95 a.tmps r).run P w = .ok v w
theorem a2M.tmp {t:Nat} {v:Value} (h:look ρ t=some v):a2M P (.tmp t) ρ I L v:=fun N a w ha hm=>by simp [a95,ha.tmp t v h]
theorem a2M.b4a (i : Nat) {t b : Nat} {cs : List Value} {e : TypeId} {dd : TypeDesc} (hT : P.underlying T = some dd) (hd : a0z dd = true) (hs : I4 P T cs.length) (h : look ρ t = some (ptr b 0)) (hL : L[i]? = some [(b, row cs e)]) :
    a2M P (.cell t T) ρ I L (.agg cs.toArray):=fun N a w ha hm=>by
  have hr:=a4T (P:=P) (T:=T) (w:=w) (b:=b) (o:=0) (vs:=cs) hT hd hs (fun j v hv=>by rw [a11 hm hL];simpa using hv)
  simp only [Instr.loadAt,Instr.sureAddr,Sem.run_bind,Sem.run_pure,Result.andThen_ok] at hr
  have ht:a.tmps.getD t undef=ptr b 0:=by simp [ha.tmp t _ h]
  simp only [a95,ht,asAddr,Sem.run_bind,Sem.run_pure,Result.andThen_ok,hr]
theorem a2M.b4b (i : Nat) {t b : Nat} {v : Value} {e : TypeId} {dd : TypeDesc} (hT : P.underlying T = some dd) (hd : a0z dd = false) (h : look ρ t = some (ptr b 0)) (hL : L[i]? = some [(b, row [v] e)]) :
    a2M P (.cell t T) ρ I L v:=fun N a w ha hm=>by
  have hr:=run_load (P:=P) (T:=T) (w:=w) (b:=b) (o:=0) (v:=v) hT hd (by rw [a11 hm hL];rfl)
  simp only [Instr.loadAt,Instr.sureAddr,Sem.run_bind,Sem.run_pure,Result.andThen_ok] at hr
  have ht:a.tmps.getD t undef=ptr b 0:=by simp [ha.tmp t _ h]
  simp only [a95,ht,asAddr,Sem.run_bind,Sem.run_pure,Result.andThen_ok,hr]
theorem Fin.r1 {fn:Func} {r:ResultVar} {v:Value} (h:fn.results = #[r]) (h1:a2M P r ρ I L v):Fin P fn ρ I L v:=fun N a w ha hm=>by
 simp [a0W,h,h1 N a w ha hm]
theorem Fin.r2 {fn:Func} {r r2:ResultVar} {v v2:Value} (h:fn.results = #[r,r2]) (h1:a2M P r ρ I L v) (h2:a2M P r2 ρ I L v2):Fin P fn ρ I L (.tuple #[v,v2]):=fun N a w ha hm=>by
 simp [a0W,h,h1 N a w ha hm,h2 N a w ha hm]
theorem Fin.r3 {fn:Func} {r r2 r3:ResultVar} {v v2 v3:Value} (h:fn.results = #[r,r2,r3]) (h1:a2M P r ρ I L v) (h2:a2M P r2 ρ I L v2) (h3:a2M P r3 ρ I L v3):Fin P fn ρ I L (.tuple #[v,v2,v3]):=fun N a w ha hm=>by
 simp [a0W,h,h1 N a w ha hm,h2 N a w ha hm,h3 N a w ha hm]
end
end Go.Fl
namespace Go.Fl
open Go.RowKit
section
variable {P:Program} {C:Ctx} {N:Nat} {ρ:Env} {I:Im} {L:Lh} {φ:Value→Prop} {K:Value→Im→Lh→Prop} {d:Option Nat} {ty:TypeId} {ps:String} {af:Array Edge} {g:Option (Nat×Bool)}
variable {x y z:Operand} {T T2 E:TypeId}
def F3 (P:Program) (T:TypeId):Option (List (Nat×Nat)) :=
 match P.underlying T with
 | some (.struct fs)=>fs.toList.mapM fun f=>(P.info? f.type).map fun i=>(f.offset,i.size)
 | _=>none
end
end Go.Fl
namespace Go.Fl
open Go.RowKit
section late
variable {P:Program} {C:Ctx} {N n n0:Nat} {l:List Oper} {ss:List (List (Nat×Nat))} {sp:Nat→Option Spec} {ρ0:Env} {I:Im} {L:Lh}
end late
end Go.Fl
namespace Go.Fl
open Go.RowKit
section
variable {P:Program} {C:Ctx} {N:Nat} {ρ:Env} {I:Im} {L:Lh} {φ:Value→Prop} {K:Value→Im→Lh→Prop} {d:Option Nat} {ty:TypeId} {ps:String} {af:Array Edge} {g:Option (Nat×Bool)}
variable {x y z:Operand} {T T2 E:TypeId}
theorem wpL.pad {ops:Array Oper} {Q:Exit→Env→Im→Lh→Prop} {l:List Oper} (h:wpL P C N ops Q l ρ I ([]::L)):wpL P C N ops Q l ρ I L:=fun hd a w ha hs =>
 h hd a w ha ⟨⟨hs.mem.im,by simpa using hs.mem.loc,by simpa using hs.mem.sep,by simpa using hs.mem.nodup⟩,hs.S4,by simpa using hs.own,hs.U0,hs.new⟩
theorem wpS.pad {c:Code} {Q:Exit→Env→Im→Lh→Prop} (h:wpS P C N c Q ρ I ([]::L)):wpS P C N c Q ρ I L:=fun a w ha hs =>
 h a w ha ⟨⟨hs.mem.im,by simpa using hs.mem.loc,by simpa using hs.mem.sep,by simpa using hs.mem.nodup⟩,hs.S4,by simpa using hs.own,hs.U0,hs.new⟩
end
end Go.Fl
namespace Go.Fl
open Go.RowKit
section
variable {P:Program} {C:Ctx} {N:Nat} {ρ:Env} {I:Im} {L:Lh} {φ:Value→Prop} {K:Value→Im→Lh→Prop} {d:Option Nat} {ty:TypeId} {ps:String} {af:Array Edge} {g:Option (Nat×Bool)}
variable {x y z:Operand} {T T2 E:TypeId}
theorem a3c (w:World) (dd:Nat) {kd kd2:IntKind} {m n:Int} (hT:P.underlying T=some (.int kd2)):(Op.equalIn (dd+1) T (.int kd m) (.int kd n)).run P w = .ok (decide (m=n)) w:=by
 have:(m == n)=decide (m=n):=rfl
 simp [Op.equalIn,run_underlying hT,this]
theorem a4U (w:World) {op:BinOp} {xs ys:Array Value} (hg:P.eqGuardType P.depth T=false):(eqGuard op T x y (.agg xs) (.agg ys)).run P w = .ok () w:=run_eqGuard_agg w op T x y xs ys hg
theorem OpX.frz {o:Oper} (h:OpX P N o ρ I L (fun v J X=>∀ J',Le J J'→(∀ p∈X.flatten,J' p.1=some p.2)→K v J' [])):OpX P N o ρ I L K:=fun a w ha hm =>
 (h a w ha hm).mono fun v w' ⟨J,X,hc,hle,hn,hm',hX,hk⟩=>by
  have hnd:(X.flatten.map Prod.fst).Nodup:=by
   have hsub:X.flatten.Sublist (X++L).flatten:=by simp
   exact(hsub.map Prod.fst).nodup hm'.nodup
  have hsepX:∀ p∈X.flatten,J p.1=none:=fun p hp=>hm'.sep p (by simp [hp])
  have hdis:∀ p∈L.flatten,∀ q∈X.flatten,p.1≠q.1:=fun p hp q hq e=>by
   have:=hm'.nodup
   simp only [List.flatten_append,List.map_append,List.nodup_append] at this
   exact this.2.2 q.1 (List.mem_map_of_mem hq) p.1 (List.mem_map_of_mem hp) e.symm
  refine⟨J.with X.flatten,[],hc,hle.trans (Im.a2j hsepX),fun b h0 h1 => ?_,⟨fun b o hb => ?_,fun p hp=>hm'.loc p (by simp at hp ⊢;exact .inr hp),fun p hp => ?_,?_⟩,by simp,hk _ (Im.a2j hsepX) (fun p hp=>Im.a3U hnd hp)⟩
  ·cases hj:J b with
   | some o=>exact hn b h0 (by simp [hj])
   | none =>
    obtain⟨o,ho⟩:=Option.ne_none_iff_exists'.1 h1
    rcases Im.a0x ho with h2|h2
    ·exact hX _ h2
    ·rw [hj] at h2;cases h2
  ·rcases Im.a0x hb with h2|h2
   ·exact hm'.loc (b,o) (by simp [h2])
   ·exact hm'.im b o h2
  ·have hp':p∈L.flatten:=by simpa using hp
   cases hj:(J.with X.flatten) p.1 with
   | none=>rfl
   | some o =>
    rcases Im.a0x hj with h2|h2
    ·exact absurd rfl (hdis p hp' (p.1,o) h2)
    ·rw [hm'.sep p (by simp at hp' ⊢;exact .inr hp')] at h2;cases h2
  ·have hsub:L.flatten.Sublist (X++L).flatten:=by simp
   simpa using (hsub.map Prod.fst).nodup hm'.nodup
end
end Go.Fl
namespace Go.Proofs.YtfkbejimghamkaaGreatDoor
open Go.Proofs.Tryz
open Go.Fl
theorem a96:A6 prog 26 0=some (0,1,false):=by kernel_rfl
theorem a97:A6 prog 26 1=some (1,1,false):=by kernel_rfl
theorem a7w:F3 prog 26=some [(0,1),(1,1)]:=by kernel_rfl
theorem a7x:A6 prog 28 0=some (0,1,false):=by kernel_rfl
theorem a7y:A6 prog 28 1=some (1,1,false):=by kernel_rfl
theorem a7z:A6 prog 28 3=some (3,1,false):=by kernel_rfl
theorem a5z:F3 prog 28=some [(0,1),(1,1),(2,1),(3,1)]:=by kernel_rfl
theorem a3Z:A6 prog 30 0=some (0,1,false):=by kernel_rfl
theorem F5:A6 prog 30 1=some (1,1,false):=by kernel_rfl
theorem I8:A6 prog 30 2=some (2,1,false):=by kernel_rfl
theorem R1:A6 prog 30 3=some (3,1,false):=by kernel_rfl
theorem a13:A6 prog 30 4=some (4,1,false):=by kernel_rfl
theorem a5A:A6 prog 30 5=some (5,2,true):=by kernel_rfl
theorem a2N:A6 prog 30 6=some (7,1,false):=by kernel_rfl
theorem P6:A6 prog 30 7=some (8,4,true):=by kernel_rfl
theorem a1a:F3 prog 30=some [(0,1),(1,1),(2,1),(3,1),(4,1),(5,2),(7,1),(8,4)]:=by kernel_rfl
theorem a5B:A6 prog 39 0=some (0,1,false):=by kernel_rfl
theorem R2:A6 prog 39 1=some (1,1,false):=by kernel_rfl
theorem H4:A6 prog 39 2=some (2,1,false):=by kernel_rfl
theorem H5:A6 prog 39 3=some (3,1,false):=by kernel_rfl
theorem a5C:A6 prog 39 4=some (4,1,false):=by kernel_rfl
theorem a30:A6 prog 39 5=some (5,1,false):=by kernel_rfl
theorem a0B:F3 prog 39=some [(0,1),(1,1),(2,1),(3,1),(4,1),(5,1)]:=by kernel_rfl
theorem b5l:a0i prog 53=some (32,1,false):=by kernel_rfl
theorem a7A:A6 prog 56 2=some (33,1,false):=by kernel_rfl
theorem a5D:A6 prog 56 3=some (34,1,false):=by kernel_rfl
theorem b2J:A6 prog 56 5=some (36,1,false):=by kernel_rfl
theorem b5m:F3 prog 56=some [(0,1),(1,32),(33,1),(34,1),(35,1),(36,1),(37,1)]:=by kernel_rfl
theorem a98:A6 prog 75 0=some (0,1,false):=by kernel_rfl
theorem a5E:A6 prog 75 1=some (1,1,false):=by kernel_rfl
theorem b5n:F3 prog 75=some [(0,1),(1,1)]:=by kernel_rfl
theorem a99:A6 prog 85 0=some (0,1,false):=by kernel_rfl
theorem a7B:A6 prog 85 1=some (1,1,false):=by kernel_rfl
theorem b2K:A6 prog 85 2=some (2,1,false):=by kernel_rfl
theorem b0a:A6 prog 85 3=some (3,1,false):=by kernel_rfl
theorem a0g:F3 prog 85=some [(0,1),(1,1),(2,1),(3,1)]:=by kernel_rfl
theorem b4c:F3 prog 112=some [(0,1),(1,1)]:=by kernel_rfl
theorem a6r:a0i prog 117=some (8,1,false):=by kernel_rfl
theorem a4V:a0i prog 118=some (8,1,false):=by kernel_rfl
end Go.Proofs.YtfkbejimghamkaaGreatDoor
namespace Go.Sha
open Go.Fl
structure H8 where
 (a b c d e f g h:UInt32)
def b4d (n:UInt64) (k:Nat):List UInt8:=(List.range k).map fun j=>(n >>> UInt64.ofNat (56 - 8*j)).toUInt8
theorem a6s (n:UInt64) (k:Nat):(b4d n k).length=k:=by simp [b4d]
end Go.Sha
namespace Go.Proofs.YtfkbejimghamkaaGreatDoor
open Go.Proofs.Tryz
open Go.Fl Go.Sha
open Go.Fl
end Go.Proofs.YtfkbejimghamkaaGreatDoor
namespace Go.Sha
open Go.Fl
end Go.Sha
namespace Go.Ab
open Go.Fl Go.RowKit
class p6 (α:Type) where
 size:Nat
 agg:Bool
 rep:Im→α→List Value→Prop
 len:∀ {I x cs},rep I x cs→cs.length=size
 mono:∀ {I J x cs},Le I J→rep I x cs→rep J x cs
 one:agg=false→size=1
 flat:∀ {I x cs},rep I x cs→Z1 cs=true
open p6 (rep)
def asV (ag:Bool) (cs:List Value):Value:=if ag then .agg cs.toArray else cs.headD undef
def J6 {α:Type} [p6 α] (I:Im):List α→List Value→Prop
 | [],cs=>cs = []
 | x::l,cs=>∃ c r,cs=c++r∧rep I x c∧J6 I l r
theorem J6.mono {α:Type} [p6 α] {I J:Im} (hle:Le I J):∀ {l:List α} {cs:List Value},J6 I l cs→J6 J l cs
 | [],_,h=>h
 | x::l,_,h=>by obtain⟨c,r,h1,h2,h3⟩:=h;exact⟨c,r,h1,p6.mono hle h2,J6.mono hle h3⟩
theorem J6.len {α:Type} [p6 α] {I:Im}:∀ {l:List α} {cs:List Value},J6 I l cs→cs.length=l.length*p6.size α
 | [],_,h=>by simp [J6] at h;simp [h]
 | x::l,_,h=>by
  obtain⟨c,r,rfl,h2,h3⟩:=h
  simp [p6.len h2,h3.len,Nat.succ_mul,Nat.add_comm]
theorem a3e {xs ys:List Value} (h:Z1 xs=true) (k:Z1 ys=true):Z1 (xs++ys)=true:=by
 simp only [Z1,List.all_append,Bool.and_eq_true] at *;exact⟨h,k⟩
theorem J6.flat {α:Type} [p6 α] {I:Im}:∀ {l:List α} {cs:List Value},J6 I l cs→Z1 cs=true
 | [],_,h=>by simp [J6] at h;simp [h,Z1]
 | x::l,_,h=>by
  obtain⟨c,r,rfl,h2,h3⟩:=h
  exact a3e (p6.flat h2) h3.flat
theorem J6.append {α:Type} [p6 α] {I:Im}:∀ {l m:List α} {cs ds:List Value},J6 I l cs→J6 I m ds→J6 I (l++m) (cs++ds)
 | [],_,_,_,h,k=>by simp [J6] at h;simpa [h] using k
 | x::l,_,_,_,h,k=>by
  obtain⟨c,r,rfl,h2,h3⟩:=h
  exact⟨c,r++_,by simp,h2,h3.append k⟩
theorem J6.one {α:Type} [p6 α] {I:Im} {x:α} {c:List Value} (h:rep I x c):J6 I [x] c:=⟨c,[],by simp,h,rfl⟩
theorem J6.split {α:Type} [p6 α] {I:Im}:∀ {l m:List α} {cs:List Value},J6 I (l++m) cs→J6 I l (cs.take (l.length*p6.size α))∧J6 I m (cs.drop (l.length*p6.size α))
 | [],_,_,h=>by simp [J6];simpa using h
 | x::l,m,_,h=>by
  obtain⟨c,r,rfl,h2,h3⟩:=h
  have hl:=p6.len h2
  obtain⟨h4,h5⟩:=h3.split
  have e:(x::l).length*p6.size α=c.length+l.length*p6.size α:=by simp [hl,Nat.succ_mul,Nat.add_comm]
  rw [e,List.take_length_add_append,List.drop_length_add_append]
  exact⟨⟨c,_,a8,h2,h4⟩,h5⟩
theorem J6.get {α:Type} [p6 α] {I:Im} {l:List α} {cs:List Value} (h:J6 I l cs) (k:Nat) (hk:k < l.length):rep I l[k] (E8 cs (k*p6.size α) (p6.size α)):=by
 have e:l=l.take k++(l[k]::l.drop (k+1)):=by simp
 rw [e] at h
 obtain⟨_,h2⟩:=h.split
 obtain⟨c,r,h3,h4,h5⟩:=h2
 have hl:(l.take k).length=k:=by simp;omega
 rw [hl] at h3
 have:E8 cs (k*p6.size α) (p6.size α)=c:=by rw [E8,h3,←p6.len h4];simp
 rw [this];exact h4
theorem J6.set {α:Type} [p6 α] {I:Im} {l:List α} {cs vs:List Value} {y:α} (h:J6 I l cs) (k:Nat) (hk:k < l.length) (hy:rep I y vs):J6 I (l.set k y) (D5 cs (k*p6.size α) vs):=by
 have e:l=l.take k++(l[k]::l.drop (k+1)):=by simp
 have e2:l.set k y=l.take k++(y::l.drop (k+1)):=List.set_eq_take_append_cons_drop .. |>.trans (by simp [hk])
 rw [e] at h
 obtain⟨h1,h2⟩:=h.split
 obtain⟨c,r,h3,h4,h5⟩:=h2
 have hl:(l.take k).length=k:=by simp;omega
 rw [hl] at h1 h3
 rw [e2,D5]
 have hd:cs.drop (k*p6.size α+vs.length)=r:=by
  rw [←List.drop_drop,h3,p6.len hy,←p6.len h4];simp
 rw [hd,List.append_assoc]
 exact h1.append ⟨vs,r,rfl,hy,h5⟩
structure Arr (n:Nat) (α:Type) where
 l:List α
 h:l.length=n
@[simp] theorem Arr.len {n:Nat} {α:Type} (a:Arr n α):a.l.length=n:=a.h
instance {n:Nat} {α:Type} [Inhabited α]:Inhabited (Arr n α):=⟨⟨List.replicate n default,by simp⟩⟩
instance {n:Nat} {α:Type} [p6 α]:p6 (Arr n α) where
 size:=n*p6.size α
 agg:=true
 rep I x cs:=J6 I x.l cs
 len {_ x _} h:=by rw [h.len,x.h]
 mono hle h:=h.mono hle
 one h:=by cases h
 flat h:=h.flat
structure p5 (α β:Type) [p6 α] [p6 β] where
 off:Nat
 get:α→β
 set:β→α→α
 fits:off+p6.size β≤p6.size α
 a2l:∀ {I x cs},rep I x cs→rep I (get x) (E8 cs off (p6.size β))
 a3C:∀ {I x cs y vs},rep I x cs→rep I y vs→rep I (set y x) (D5 cs off vs)
def SlA {α:Type} [p6 α] (I:Im) (v:Value) (l:List α):Prop:=∃ xs,Sl I (p6.size α) v l.length xs∧J6 I l xs
inductive AV:Type 1 where
 | v {α:Type} [r:p6 α] (x:α)
 | p {α:Type} [r:p6 α] (x:α)
 | raw (u:Value)
 | vc {α:Type} [r:p6 α] (l:List α)
 | ln {α β:Type} [r:p6 α] [s:p6 β] (w:Value) (l:p5 α β)
 | el {α β:Type} [r:p6 α] [s:p6 β] (w:Value) (k:Nat) (l:p5 α β)
 | sv {α β:Type} {n:Nat} [r:p6 α] [s:p6 β] (w:Value) (l:p5 α (Arr n β))
 | t2 (a b:AV)
 | t3 (a b c:AV)
 | t4 (a b c d:AV)
 | opt (c:Bool) (a:AV)
 | pr (p:Im→Value→Prop) (m:∀ {I J:Im} {u:Value},Le I J→p I u→p J u)
 | any
def a7C:Value→Option Nat
 | .pointer (some ⟨b,0,none⟩)=>some b
 | .slice (some ⟨b,0,none⟩) _ _=>some b
 | _=>none
def D2 (I:Im):AV→Value→Prop
 | @AV.v α r x,u=>∃ cs,@p6.rep α r I x cs∧u=asV (@p6.agg α r) cs
 | @AV.p α r x,u=>∃ b o cs,u=ptr b o ∧ @p6.rep α r I x cs∧Cells I b o cs
 | .raw w,u=>u=w
 | @AV.vc α r l,u=>(∃ a,u = .slice a l.length l.length) ∧ @SlA α r I u l
 | @AV.ln α β r s w l,u=>∃ b,a7C w=some b∧u=ptr b (@p5.off α β r s l)
 | @AV.el α β r s w k l,u=>∃ b,a7C w=some b∧u=ptr b (k * @p6.size α r + @p5.off α β r s l)
 | @AV.sv α β n r s w l,u=>∃ b,a7C w=some b∧u=slc b (@p5.off α (Arr n β) r _ l) n n
 | .t2 a b,u=>∃ x y,u = .tuple #[x,y]∧D2 I a x∧D2 I b y
 | .t3 a b c,u=>∃ x y z,u = .tuple #[x,y,z]∧D2 I a x∧D2 I b y∧D2 I c z
 | .t4 a b c d,u=>∃ x y z t,u = .tuple #[x,y,z,t]∧D2 I a x∧D2 I b y∧D2 I c z∧D2 I d t
 | .opt c a,u=>c=true→D2 I a u
 | .pr p _,u=>p I u
 | .any,_=>True
theorem D2.mono {I J:Im} (hle:Le I J):∀ {a:AV} {u:Value},D2 I a u→D2 J a u
 | @AV.v α r x,_,h=>by obtain⟨cs,h1,h2⟩:=h;exact⟨cs,@p6.mono α r _ _ _ _ hle h1,h2⟩
 | @AV.p α r x,_,h=>by obtain⟨b,o,cs,h1,h2,h3⟩:=h;exact⟨b,o,cs,h1,@p6.mono α r _ _ _ _ hle h2,h3.mono hle⟩
 | .raw w,_,h=>h
 | @AV.vc α r l,_,h=>⟨h.1,by obtain⟨_,xs,h1,h2⟩:=h;exact⟨xs,h1.mono hle,h2.mono hle⟩⟩
 | @AV.ln α β r s w l,_,h=>h
 | @AV.el α β r s w k l,_,h=>h
 | @AV.sv α β n r s w l,_,h=>h
 | .t2 a b,_,h=>by obtain⟨x,y,h1,h2,h3⟩:=h;exact⟨x,y,h1,h2.mono hle,h3.mono hle⟩
 | .t3 a b c,_,h=>by obtain⟨x,y,z,h1,h2,h3,h4⟩:=h;exact⟨x,y,z,h1,h2.mono hle,h3.mono hle,h4.mono hle⟩
 | .t4 a b c d,_,h=>by obtain⟨x,y,z,t,h1,h2,h3,h4,h5⟩:=h;exact⟨x,y,z,t,h1,h2.mono hle,h3.mono hle,h4.mono hle,h5.mono hle⟩
 | .opt c a,_,h=>fun hc=>(h hc).mono hle
 | .pr _ m,_,h=>m hle h
 | .any,_,h=>h
instance:p6 Int where
 size:=1
 agg:=false
 rep _ x cs:=cs = [i64 x] ∧ -9223372036854775808≤x∧x≤9223372036854775807
 len h:=by simp [h.1]
 mono _ h:=h
 one _:=rfl
 flat h:=by simp [h.1,Z1,Value.oneCell']
instance:p6 UInt8 where
 size:=1
 agg:=false
 rep _ x cs:=cs = [u8 x]
 len h:=by simp [h]
 mono _ h:=h
 one _:=rfl
 flat h:=by simp [h,Z1,u8,Value.oneCell']
instance:p6 UInt64 where
 size:=1
 agg:=false
 rep _ x cs:=cs = [u64 x]
 len h:=by simp [h]
 mono _ h:=h
 one _:=rfl
 flat h:=by simp [h,Z1,u64,Value.oneCell']
instance:p6 Bool where
 size:=1
 agg:=false
 rep _ x cs:=cs = [.bool x]
 len h:=by simp [h]
 mono _ h:=h
 one _:=rfl
 flat h:=by simp [h,Z1,Value.oneCell']
structure u0 where
 l:List UInt8
instance:Inhabited u0:=⟨⟨[]⟩⟩
instance:DecidableEq u0:=fun a b=>if h:a.l=b.l then isTrue (by cases a;cases b;cases h;rfl) else isFalse (fun e=>h (by rw [e]))
instance:p6 u0 where
 size:=1
 agg:=false
 rep _ x cs:=(∃ b:ByteArray,cs = [.string b]∧b.data.toList=x.l)∧x.l.length≤9223372036854775807
 len h:=by obtain⟨⟨b,h,_⟩,_⟩:=h;simp [h]
 mono _ h:=h
 one _:=rfl
 flat h:=by obtain⟨⟨b,h,_⟩,_⟩:=h;simp [h,Z1,Value.oneCell']
instance {α:Type} [p6 α]:p6 (List α) where
 size:=1
 agg:=false
 rep I x cs:=∃ v,cs = [v]∧SlA I v x
 len h:=by obtain⟨v,h,_⟩:=h;simp [h]
 mono hle h:=by obtain⟨v,h,xs,h1,h2⟩:=h;exact⟨v,h,xs,h1.mono hle,h2.mono hle⟩
 one _:=rfl
 flat h:=by
  obtain⟨v,h,xs,h1,_⟩:=h
  obtain⟨a,c,rfl,_⟩:=h1
  simp [h,Z1,Value.oneCell']
instance:p6 Unit where
 size:=0
 agg:=true
 rep _ _ cs:=cs = []
 len h:=by simp [h]
 mono _ h:=h
 one h:=by cases h
 flat h:=by simp [h,Z1]
instance {α β:Type} [p6 α] [p6 β]:p6 (α×β) where
 size:=p6.size α+p6.size β
 agg:=true
 rep I x cs:=∃ c r,cs=c++r∧rep I x.1 c∧rep I x.2 r
 len h:=by obtain⟨c,r,rfl,h1,h2⟩:=h;simp [p6.len h1,p6.len h2]
 mono hle h:=by obtain⟨c,r,e,h1,h2⟩:=h;exact⟨c,r,e,p6.mono hle h1,p6.mono hle h2⟩
 one h:=by cases h
 flat h:=by obtain⟨c,r,rfl,h1,h2⟩:=h;exact a3e (p6.flat h1) (p6.flat h2)
@[reducible] def p6.via {S T:Type} [p6 T] (f:S→T):p6 S where
 size:=p6.size T
 agg:=true
 rep I x cs:=p6.rep I (f x) cs
 len h:=p6.len h
 mono hle h:=p6.mono hle h
 one h:=by cases h
 flat h:=p6.flat h
theorem a6t {cs:List Value} {n:Nat} (h:cs.length=n):E8 cs 0 n=cs:=by subst h;exact a7u cs
def p5.id {α:Type} [p6 α]:p5 α α where
 off:=0
 get x:=x
 set y _:=y
 fits:=by simp
 a2l h:=by rw [a6t (p6.len h)];exact h
 a3C h k:=by rw [a7v _ _ (by rw [p6.len h,p6.len k])];exact k
def p5.fst {α β:Type} [p6 α] [p6 β]:p5 (α×β) α where
 off:=0
 get x:=x.1
 set y x:=(y,x.2)
 fits:=by simp [p6.size]
 a2l h:=by
  obtain⟨c,r,rfl,h1,h2⟩:=h
  have:E8 (c++r) 0 (p6.size α)=c:=by rw [E8,←p6.len h1];simp
  rw [this];exact h1
 a3C h k:=by
  obtain⟨c,r,rfl,h1,h2⟩:=h
  refine⟨_,r,?_,k,h2⟩
  rw [D5,Nat.zero_add,p6.len k,←p6.len h1];simp
def p5.snd {α β:Type} [p6 α] [p6 β]:p5 (α×β) β where
 off:=p6.size α
 get x:=x.2
 set y x:=(x.1,y)
 fits:=by simp [p6.size]
 a2l h:=by
  obtain⟨c,r,rfl,h1,h2⟩:=h
  have:E8 (c++r) (p6.size α) (p6.size β)=r:=by rw [E8,←p6.len h1,←p6.len h2];simp
  rw [this];exact h2
 a3C h k:=by
  obtain⟨c,r,rfl,h1,h2⟩:=h
  refine⟨c,_,?_,h1,k⟩
  rw [D5,p6.len k,←p6.len h1,←p6.len h2]
  simp
theorem a1N {cs:List Value} {o n p m:Nat} (h:p+m≤n):E8 (E8 cs o n) p m=E8 cs (o+p) m:=by
 simp only [E8,List.drop_take,List.take_take,List.drop_drop]
 congr 1;omega
theorem a1O {cs vs:List Value} {o n p:Nat} (h:p+vs.length≤n) (hn:o+n≤cs.length):D5 cs o (D5 (E8 cs o n) p vs)=D5 cs (o+p) vs:=by
 have hl:(E8 cs o n).length=n:=by simp [E8];omega
 have hll:(D5 (E8 cs o n) p vs).length=n:=by rw [V7 _ _ _ (by omega),hl]
 apply List.ext_getElem?
 intro i
 rw [O7 (cs:=cs) (o:=o) (by omega),O7 (cs:=cs) (o:=o+p) (by omega),hll]
 by_cases h1:i < o
 ·rw [if_pos h1,if_pos (by omega)]
 ·rw [if_neg h1]
  by_cases h2:i < o+n
  ·rw [if_pos h2,O7 (by omega)]
   have hg:∀ j,j < n→(E8 cs o n)[j]?=cs[o+j]?:=fun j hj=>by simp [E8,hj]
   by_cases h3:i - o < p
   ·rw [if_pos h3,if_pos (by omega),hg _ (by omega)];congr 1;omega
   ·rw [if_neg h3,if_neg (show ¬i < o+p by omega)]
    by_cases h4:i - o < p+vs.length
    ·rw [if_pos h4,if_pos (by omega)];congr 1;omega
    ·rw [if_neg h4,if_neg (by omega),hg _ (by omega)];congr 1;omega
  ·rw [if_neg h2,if_neg (by omega),if_neg (by omega)]
def p5.comp {α β γ:Type} [p6 α] [p6 β] [p6 γ] (l:p5 α β) (m:p5 β γ):p5 α γ where
 off:=l.off+m.off
 get x:=m.get (l.get x)
 set y x:=l.set (m.set y (l.get x)) x
 fits:=by have:=l.fits;have:=m.fits;omega
 a2l h:=by
  have:=m.a2l (l.a2l h)
  rwa [a1N m.fits] at this
 a3C h k:=by
  have h1:=l.a2l h
  have h2:=l.a3C h (m.a3C h1 k)
  have hf:=l.fits
  have hm:=m.fits
  rw [a1O (by rw [p6.len k];exact m.fits) (by rw [p6.len h];exact hf)] at h2
  exact h2
def p5.idx {n:Nat} {α:Type} [p6 α] (k:Nat) (hk:k < n):p5 (Arr n α) α where
 off:=k*p6.size α
 get x:=x.l[k]'(by rw [x.h];exact hk)
 set y x:=⟨x.l.set k y,by simp [x.h]⟩
 fits:=by
  have:=Nat.mul_le_mul_right (p6.size α) (Nat.succ_le_of_lt hk)
  simp only [p6.size,Nat.succ_mul] at *;exact this
 a2l {_ x _} h:=J6.get h k (by rw [x.h];exact hk)
 a3C {_ x _ _ _} h y:=J6.set h k (by rw [x.h];exact hk) y
def p5.via {S T β:Type} [r:p6 T] [p6 β] (f:S→T) (m:p5 T β) (get:S→β) (set:β→S→S) (hg:∀ x,get x=m.get (f x)) (hs:∀ y x,f (set y x)=m.set y (f x)) : @p5 S β (p6.via f) _ :=
  letI:p6 S:=p6.via f
  { off := m.off, get := get, set := set, fits := m.fits, a2l := fun {_ x _} h => by rw [hg]; exact m.a2l h, a3C := fun {_ x _ y _} h k => by
      have:=m.a3C h k
      rw [←hs] at this;exact this }
end Go.Ab
namespace Go.Ab
open Go.Fl Go.RowKit
open p6 (rep)
def X1 (e:TypeId) (s:Nat) (v:Value) (n:Nat) (xs:List Value) (X:List (Nat×Obj)):Prop :=
 ((∃ a,v = .slice a 0 0)∧n=0∧xs = []∧X = []) ∨
 ∃ b c sp q,v=slc b 0 n c∧X = [(b,.cells (xs++sp).toArray e q)]∧xs.length=n*s∧(xs++sp).length=c*s∧n≤c∧c≤maxLen∧(q=(0,0)∨q=((xs++sp).length,(xs++sp).length+1))
theorem X1.nil (e:TypeId) (s:Nat):X1 e s (.slice none 0 0) 0 [] [] := .inl ⟨⟨none,rfl⟩,rfl,rfl,rfl⟩
theorem X1.empty (e:TypeId) (s:Nat) (a:Option Addr):X1 e s (.slice a 0 0) 0 [] [] := .inl ⟨⟨a,rfl⟩,rfl,rfl,rfl⟩
theorem Sl.empty (I:Im) (s:Nat) (a:Option Addr):Sl I s (.slice a 0 0) 0 []:=⟨a,0,rfl,by simp,Nat.le_refl _,by simp [maxLen],fun _=>rfl,fun h=>absurd rfl h⟩
theorem X1.of {e:TypeId} {s n:Nat} {v:Value} {xs:List Value} {X:List (Nat×Obj)} (h:Own e s v n xs X):X1 e s v n xs X:=by
 rcases h with ⟨h1,h2⟩|⟨b,c,sp,h1,h2,h3,h4,h5,h6⟩
 ·exact .inl ⟨⟨none,h1⟩,h2⟩
 ·exact .inr ⟨b,c,sp,(0,0),h1,h2,h3,h4,h5,h6,.inl a8⟩
theorem X1.shape {e:TypeId} {s n:Nat} {v:Value} {xs:List Value} {X:List (Nat×Obj)} (h:X1 e s v n xs X):∃ a c,v = .slice a n c:=by
 rcases h with ⟨⟨a,rfl⟩,rfl,_⟩|⟨b,c,sp,q,rfl,_⟩
 ·exact⟨_,_,a8⟩
 ·exact⟨_,_,a8⟩
theorem X1.len {e:TypeId} {s n:Nat} {v:Value} {xs:List Value} {X:List (Nat×Obj)} (h:X1 e s v n xs X):xs.length=n*s:=by
 rcases h with ⟨_,rfl,rfl,_⟩|⟨b,c,sp,q,_,_,h,_⟩
 ·simp
 ·exact h
theorem X1.le {e:TypeId} {s n:Nat} {v:Value} {xs:List Value} {X:List (Nat×Obj)} (h:X1 e s v n xs X):n≤9223372036854775807:=by
 rcases h with ⟨_,rfl,rfl,_⟩|⟨b,c,sp,q,_,_,_,_,h1,h2,_⟩
 ·simp
 ·unfold maxLen at h2;omega
theorem X1.sl {e:TypeId} {s n:Nat} {v:Value} {xs:List Value} {X:List (Nat×Obj)} (h:X1 e s v n xs X) {J:Im} (hJ:∀ p∈X,J p.1=some p.2):Sl J s v n xs:=by
 rcases h with ⟨⟨a,rfl⟩,rfl,rfl,rfl⟩|⟨b,c,sp,q,rfl,rfl,h3,h4,h5,h6,_⟩
 ·exact Sl.empty J s a
 ·refine Sl.a6p ⟨_,_,_,hJ _ (List.mem_singleton.2 rfl),fun i v hv => ?_⟩ h3 h5 h6
  have hi:=(List.getElem?_eq_some_iff.1 hv).1
  simp only [Nat.zero_add,List.getElem?_toArray]
  rw [List.getElem?_append_left hi];exact hv
theorem T3 (P : Program) (g o : Nat) (t : TypeId) (q : Nat × Nat) : ∀ (vs : List Value) (i : Nat) (cur : Array Value) (w : World), w.heap[g]? = some (.cells cur t q) → o + i + vs.length ≤ cur.size → (∀ v ∈ vs, v.oneCell' = true) →
    (∀ j,j < cur.size→¬(q.1≤j∧j < q.2))→(storeCells ⟨g,o,none⟩ vs i).run P w = .ok () (w.setRow g (cur.toList.take (o+i)++vs++cur.toList.drop (o+i+vs.length)).toArray)
  | [],i,cur,w,hg,_,_,_=>by
    simp only [storeCells,List.append_nil,List.length_nil,Nat.add_zero,List.take_append_drop,Array.toArray_toList]
    rw [setRow_self w g cur t q hg]
    rfl
  | v::rest,i,cur,w,hg,hl,h1,hq=>by
    have hi:o+i < cur.size:=by simp at hl;omega
    have hadd:(⟨g,o,none⟩:Addr).add i=⟨g,o+i,none⟩:=by unfold Addr.add;split<;>simp_all
    have hcell:w.cell? ⟨g,o+i,none⟩=some cur[o+i]:=by simp [World.cell?,hg,hi]
    have hfro:w.frozen? ⟨g,o+i,none⟩=false:=by
      have:=hq (o+i) hi
      simp only [World.frozen?,hg]
      simp only [Bool.and_eq_false_iff,decide_eq_false_iff_not]
      omega
    have hst:(store ((⟨g,o,none⟩:Addr).add i) v).run P w = .ok () (w.setRow g (cur.setIfInBounds (o+i) v)):=by
      rw [hadd,run_store P w _ v _ (h1 v (by simp)),hcell]
      simp [hfro,setCell_eq_setRow w g (o+i) cur t q v hg]
    have ih:=T3 P g o t q rest (i+1) (cur.setIfInBounds (o+i) v) (w.setRow g (cur.setIfInBounds (o+i) v)) (setRow_heap w g cur _ t _ hg) (by simp at hl ⊢;omega) (fun x hx=>h1 x (by simp [hx])) (by simpa using hq)
    simp only [storeCells,Sem.run_bind,hst,Result.andThen_ok,ih,setRow_setRow]
    congr 3
    have e:=list_seg_step cur.toList (o+i) v rest (by simp at hl ⊢;omega)
    simpa [Array.toList_setIfInBounds,Nat.add_assoc] using e
theorem a8y {C:Ctx} {I:Im} {L:Lh} {w:World} (hs:St C I L w) {i b:Nat} {cs:List Value} {e:TypeId} {q:Nat×Nat} (hL:L[i]?=some [(b,.cells cs.toArray e q)]) (cs':List Value):St C I (L.set i [(b,.cells cs'.toArray e q)]) (w.setRow b cs'.toArray):=by
 have hb:=hs.mem.loc (b,.cells cs.toArray e q) (E7 hL (by simp))
 exact hs.write hL (setRow_heap w b _ _ e q hb) (fun k hk=>setRow_other w b k _ hk) (by simp) rfl rfl rfl
section
variable {P:Program} {C:Ctx} {N:Nat} {ρ:Env} {I:Im} {L:Lh} {K:Value→Im→Lh→Prop} {d:Option Nat} {ty:TypeId} {ps:String} {af:Array Edge} {g:Option (Nat×Bool)}
variable {x y z:Operand} {T T2 E:TypeId}
theorem a3f {w:World} (hm:Mem I L w) {i b:Nat} {cs:List Value} {e:TypeId} {q:Nat×Nat} (hL:L[i]?=some [(b,.cells cs.toArray e q)]) (o:Nat):w.cell? ⟨b,o,none⟩=cs[o]?:=by
 have:=hm.loc (b,.cells cs.toArray e q) (E7 hL (by simp))
 rw [cell_of this]
 simp
theorem Src.b4e {s m:Nat} {v:Value} {news:List Value} {X:List (Nat×Obj)} {e:TypeId} (i:Nat) (hL:L[i]?=some X) (h:X1 e s v m news X):Src P I L s v m news:=by
 rcases h with ⟨⟨a,rfl⟩,rfl,rfl,rfl⟩|⟨b,c,sp,q,rfl,rfl,h1,h2,h3,h4,h5⟩
 ·exact Src.sl (Sl.empty I s a)
 ·refine⟨fun w=>by simp [Builtin.lenOf],fun w hm k hk => ?_,h1⟩
  have hle:k*s≤m*s:=Nat.mul_le_mul_right _ hk
  have htl:(news.take (k*s)).length=k*s:=by rw [List.length_take,h1];exact Nat.min_eq_left hle
  have:=run_loadCells_list (P:=P) w ⟨b,0,none⟩ (news.take (k*s)) (fun j u hj=>by
   rw [List.getElem?_take] at hj
   split at hj
   ·rw [Addr.add_plain,a3f hm hL,Nat.zero_add,List.getElem?_append_left (List.getElem?_eq_some_iff.1 hj).1];exact hj
   ·cases hj)
  rw [htl] at this
  simp only [Builtin.firstCells,this]
theorem OpS.a5G (i : Nat) {n m : Nat} {a0 : Option Addr} {c : Nat} {u : Value} {xs news : List Value} {X : List (Nat × Obj)} {U : TypeId} {inf : TypeInfo} {zv : Value} (hzs : zv.cells.size = inf.size) {a : Act} {w : World}
    (hxe:ev ρ x=some (.slice a0 n c)) (hye:ev ρ y=some u) (ha:Fits N ρ a) (hst:St C I L w) (hL:L[i]?=some X) (hown:X1 E inf.size (.slice a0 n c) n xs X) (hnl:news.length=m*inf.size) (h1:Z1 news=true)
    (hn63:n+m≤maxLen)
    (hboth:(n+m≤c→(Builtin.append_ #[T,U] ty #[.slice a0 n c,u]).run P w=((match a0 with|some ad=>storeCells (ad.add (n*inf.size)) news|none=>pure ()).run P w).andThen fun _ w' => .ok (.slice a0 (n+m) c) w') ∧
    (c < n+m→∀ olds,((Builtin.firstCells inf.size n (.slice a0 n c)).run P w.drew = .ok olds w.drew) →
      (Builtin.append_ #[T,U] ty #[.slice a0 n c,u]).run P w = .ok (.slice (some ⟨w.heap.size,0,none⟩) (n+m) (grownCap w (n+m) c E))
        (w.drew.alloc (.cells (olds++news.toArray++Builtin.zeroCells zv.cells (grownCap w (n+m) c E - (n+m))) E))))
    (k:∀ v' X',X1 E inf.size v' (n+m) (xs++news) X'→(∀ p∈X',p.1∈X.map Prod.fst∨C.w0.heap.size≤p.1)→K v' I (L.set i X')) :
    Yld P ((execOp a.eval ⟨d,.call ⟨.builtin .append,#[x,y],#[T,U]⟩,ty,ps,af,g⟩).run P w) fun v w'=>∃ J L',St C J L' w'∧K v J L':=by
  have hmem:∀ w',w'.heap=w.heap→Mem I L w':=fun w' hw=>⟨by rw [hw];exact hst.mem.im,by rw [hw];exact hst.mem.loc,hst.mem.sep,hst.mem.nodup⟩
  have hop:∀ r,(Builtin.append_ #[T,U] ty #[.slice a0 n c,u]).run P w=r→(execOp a.eval ⟨d,.call ⟨.builtin .append,#[x,y],#[T,U]⟩,ty,ps,af,g⟩).run P w=r.andThen fun v w' => .ok (.value v) w':=fun r hr=>by
    simp [execOp,resolve,invoke,builtin,ha.ev hxe,ha.ev hye,hr]
  have hxl:=hown.len
  by_cases hroom:n+m≤c
  · have hr:=hboth.1 hroom
    rcases hown with ⟨⟨a1,hv⟩,rfl,rfl,rfl⟩|⟨b,c',sp,q,hv,rfl,h2,h3,h4,h5,h6⟩
    · cases hv
      have hm0:m=0:=by omega
      subst hm0
      have hn0:news = []:=List.eq_nil_of_length_eq_zero (by simpa using hnl)
      subst hn0
      have hr2:(Builtin.append_ #[T,U] ty #[.slice a0 0 0,u]).run P w = .ok (.slice a0 0 0) w:=by
        rw [hr];cases a0<;>rfl
      rw [hop _ hr2]
      refine⟨I,L.set i [],?_,k _ _ (by simpa using X1.empty E inf.size a0) (by simp)⟩
      exact hst.b2I i
    · cases hv
      rw [hop _ hr]
      have hbh:=hst.mem.loc (b,.cells (xs++sp).toArray E q) (E7 hL (by simp))
      have hfit:n*inf.size+news.length≤(xs++sp).length:=by rw [hnl,h3,←Nat.add_mul];exact Nat.mul_le_mul_right _ hroom
      have hall:∀ u∈news,u.oneCell'=true:=fun u hu=>List.all_eq_true.1 h1 u hu
      have hst2:=T3 P b (n*inf.size) E q news 0 (xs++sp).toArray w hbh (by simpa using hfit) hall (fun j hj=>by rcases h6 with rfl|rfl<;>simp at hj ⊢ <;> omega)
      simp only [Nat.add_zero] at hst2
      have hseg:List.take (n*inf.size) (xs++sp)++news++List.drop (n*inf.size+news.length) (xs++sp)=(xs++news)++sp.drop news.length:=by
        rw [←h2,List.take_left,List.drop_append]
        simp
      simp only [Addr.add_plain,Nat.zero_add,hst2,Result.andThen_ok]
      refine⟨I,L.set i [(b,.cells ((xs++news)++sp.drop news.length).toArray E q)],?_,k _ _ (.inr ⟨b,c,sp.drop news.length,q,a8,a8,?_,?_,hroom,h5,?_⟩) (by simp)⟩
      · rw [hseg];exact a8y hst hL _
      · rw [List.length_append,h2,hnl,Nat.add_mul]
      · have:(xs++sp).length=n*inf.size+sp.length:=by rw [List.length_append,h2]
        simp only [List.length_append,List.length_drop]
        rw [h3] at this hfit
        omega
      · have hle:news.length≤sp.length:=by rw [List.length_append,h2] at hfit;omega
        have e:((xs++news)++sp.drop news.length).length=(xs++sp).length:=by simp;omega
        rw [e];exact h6
  · have hlt:c < n+m:=by omega
    have hold:(Builtin.firstCells inf.size n (.slice a0 n c)).run P w.drew = .ok xs.toArray w.drew:=by
      have:=(Src.b4e (P:=P) (I:=I) i hL hown).cells w.drew (hmem w.drew rfl) n (Nat.le_refl _)
      rwa [←hxl,List.take_length] at this
    have hr:=hboth.2 hlt _ hold
    rw [hop _ hr]
    have hge:=grownCap_ge w (n+m) c E
    have hcm:grownCap w (n+m) c E≤maxLen:=grownCap_le_maxLen w (n+m) c E hn63
    refine⟨I,_,hst.replace hL a8 a8 a8 a8,k _ _ (.inr ⟨w.heap.size,_,(Builtin.zeroCells zv.cells (grownCap w (n+m) c E - (n+m))).toList,(0,0),a8,?_,?_,?_,hge,hcm,.inl a8⟩) (fun p hp => .inr (by simp only [List.mem_singleton] at hp;subst hp;exact hst.S4.size))⟩
    · have hz2:xs.toArray++news.toArray++Builtin.zeroCells zv.cells (grownCap w (n+m) c E - (n+m))=(xs++news++(Builtin.zeroCells zv.cells (grownCap w (n+m) c E - (n+m))).toList).toArray:=by
        apply Array.ext'
        simp
      rw [hz2]
    · rw [List.length_append,hxl,hnl,Nat.add_mul]
    · simp only [List.length_append,Array.length_toList,size_zeroCells,hzs,hxl,hnl,←Nat.add_mul]
      congr 1
      omega
theorem OpS.b1v (i : Nat) {s by_ n m : Nat} {v u : Value} {xs news : List Value} {X : List (Nat × Obj)} {U : TypeId} (he : Elt P T E s by_) (hs0 : 0 < s) (hU : (∃ E2, P.underlying U = some (.slice E2)) ∨ P.underlying U = some .string)
    (hx:ev ρ x=some v) (hy:ev ρ y=some u) (hL:L[i]?=some X) (hown:X1 E s v n xs X) (hsrc:Src P I L s u m news) (h1:Z1 news=true)
    (hn63:n+m≤maxLen) (hb:(n+m)*by_≤140737488355328) (k:∀ v' X',X1 E s v' (n+m) (xs++news) X'→(∀ p∈X',p.1∈X.map Prod.fst∨C.w0.heap.size≤p.1)→K v' I (L.set i X')) :
    OpS P C N ⟨d,.call ⟨.builtin .append,#[x,y],#[T,U]⟩,ty,ps,af,g⟩ ρ I L K:=fun a w ha hst=>by
  obtain⟨inf,zv,hi,hz,rfl,rfl,hzs⟩:=he.info
  have hmem:∀ w',w'.heap=w.heap→Mem I L w':=fun w' hw=>⟨by rw [hw];exact hst.mem.im,by rw [hw];exact hst.mem.loc,hst.mem.sep,hst.mem.nodup⟩
  have hcells:∀ w',w'.heap=w.heap→(Builtin.firstCells inf.size m u).run P w' = .ok news.toArray w':=fun w' hw=>by
    have:=hsrc.cells w' (hmem w' hw) m (Nat.le_refl _)
    rwa [←hsrc.size,List.take_length] at this
  have h63:n+m≤9223372036854775807:=by unfold maxLen at hn63;omega
  obtain⟨a0,c,rfl⟩:=hown.shape
  have hboth:(n+m≤c→(Builtin.append_ #[T,U] ty #[.slice a0 n c,u]).run P w=((match a0 with|some ad=>storeCells (ad.add (n*inf.size)) news|none=>pure ()).run P w).andThen fun _ w' => .ok (.slice a0 (n+m) c) w') ∧
    (c < n+m→∀ olds,((Builtin.firstCells inf.size n (.slice a0 n c)).run P w.drew = .ok olds w.drew) →
      (Builtin.append_ #[T,U] ty #[.slice a0 n c,u]).run P w = .ok (.slice (some ⟨w.heap.size,0,none⟩) (n+m) (grownCap w (n+m) c E))
        (w.drew.alloc (.cells (olds++news.toArray++Builtin.zeroCells zv.cells (grownCap w (n+m) c E - (n+m))) E))):=by
    rcases hU with ⟨E2,hU⟩|hU
    · exact a4E he.und hi hz hU hsrc.len hcells h63 hb
    · exact a3Y he.und hi hz hU hsrc.len hcells h63 hb
  exact a5G i hzs hx hy ha hst hL hown hsrc.size h1 hn63 hboth k
end
end Go.Ab
namespace Go.Ab
open Go.Fl Go.RowKit
open p6 (rep)
abbrev u5:=List (Nat×AV)
def C9:u5→Nat→Option AV
 | [],_=>none
 | (s,v)::r,t=>bif Nat.beq s t then some v else C9 r t
theorem F7 (s:Nat) (v:AV) (ρ:u5) (t:Nat):C9 ((s,v)::ρ) t=if s=t then some v else C9 ρ t:=by
 by_cases h:s=t
 ·subst h;simp [C9]
 ·simp [C9,h,a1W h]
class UB (α:Type) where
 ub:Im→Value→α→List (Nat×Obj)→Prop
 mono:∀ {I J w x X},Le I J→ub I w x X→ub J w x X
inductive C5:Type 1 where
 | ob {α:Type} [r:p6 α] (w:Value) (x:α)
 | own {α:Type} [r:p6 α] (E:TypeId) (w:Value) (l:List α)
 | fz (w:Value) (a:AV)
 | usr {α:Type} [r:UB α] (w:Value) (x:α)
 | none_
def C5.a5H (I:Im):C5→List (Nat×Obj)→Prop
 | @C5.ob α r w x,X=>∃ b T cs,w=ptr b 0∧X = [(b,row cs T)] ∧ @p6.rep α r I x cs
 | @C5.own α r E w l,X=>∃ xs,X1 E (@p6.size α r) w l.length xs X ∧ @J6 α r I l xs
 | .fz w a,X=>X = []∧D2 I a w
 | @C5.usr α r w x,X=>r.ub I w x X
 | .none_,_=>True
theorem C5.mono {I J:Im} (hle:Le I J):∀ {B:C5} {X:List (Nat×Obj)},B.a5H I X→B.a5H J X
 | @C5.ob α r w x,_,h=>by obtain⟨b,T,cs,h1,h2,h3⟩:=h;exact⟨b,T,cs,h1,h2,@p6.mono α r _ _ _ _ hle h3⟩
 | @C5.own α r E w l,_,h=>by obtain⟨xs,h1,h2⟩:=h;exact⟨xs,h1,h2.mono hle⟩
 | .fz w a,_,h=>⟨h.1,h.2.mono hle⟩
 | @C5.usr α r w x,_,h=>r.mono hle h
 | .none_,_,_=>trivial
abbrev j6:=List (Bool×C5)
def a7D (n0:Nat) (I:Im) (B:Bool×C5) (X:List (Nat×Obj)):Prop:=B.2.a5H I X∧(B.1=true→∀ p∈X,n0≤p.1)
def P2 (n0:Nat) (I:Im):j6→Lh→Prop
 | [],L=>L = []
 | B::H,L=>∃ X R,L=X::R∧a7D n0 I B X∧P2 n0 I H R
theorem a7D.mono {n0:Nat} {I J:Im} (hle:Le I J) {B:Bool×C5} {X:List (Nat×Obj)} (h:a7D n0 I B X):a7D n0 J B X:=⟨C5.mono hle h.1,h.2⟩
theorem P2.mono {n0:Nat} {I J:Im} (hle:Le I J):∀ {H:j6} {L:Lh},P2 n0 I H L→P2 n0 J H L
 | [],_,h=>h
 | B::H,_,h=>by obtain⟨X,R,h1,h2,h3⟩:=h;exact⟨X,R,h1,h2.mono hle,h3.mono hle⟩
theorem P2.append {n0:Nat} {I:Im}:∀ {H K:j6} {L M:Lh},P2 n0 I H L→P2 n0 I K M→P2 n0 I (H++K) (L++M)
 | [],_,_,_,h,k=>by simp [P2] at h;simpa [h] using k
 | B::H,_,_,_,h,k=>by obtain⟨X,R,rfl,h2,h3⟩:=h;exact⟨X,R++_,rfl,h2,h3.append k⟩
structure S5 (C:Ctx) (I:Im) (L:Lh) (σ:u5) (H:j6) (ρ:Env):Prop where
 env:∀ t a,C9 σ t=some a→∃ u,Fl.look ρ t=some u∧D2 I a u
 heap:P2 C.w0.heap.size I H L
 U0:Le C.I0 I
theorem S5.mono {C:Ctx} {I J:Im} {L:Lh} {σ:u5} {H:j6} {ρ:Env} (hle:Le I J) (h:S5 C I L σ H ρ):S5 C J L σ H ρ :=
 ⟨fun t a ht=>by obtain⟨u,h1,h2⟩:=h.env t a ht;exact⟨u,h1,h2.mono hle⟩,h.heap.mono hle,h.U0.trans hle⟩
theorem S5.put {C : Ctx} {I J : Im} {L L' : Lh} {σ : u5} {H H' : j6} {ρ : Env} (hle : Le I J) (h : S5 C I L σ H ρ) {d : Nat} {r : AV} {v : Value} (hv : D2 J r v) (hH : P2 C.w0.heap.size J H' L') :
    S5 C J L' ((d,r)::σ) H' ((d,v)::ρ):=by
  refine⟨fun t a ht => ?_,hH,h.U0.trans hle⟩
  rw [F7] at ht
  rw [Fl.M6]
  by_cases e:d=t
  · rw [if_pos e] at ht ⊢;cases ht;exact⟨v,rfl,hv⟩
  · rw [if_neg e] at ht ⊢
    obtain⟨u,h1,h2⟩:=h.env t a ht
    exact⟨u,h1,h2.mono hle⟩
def a3D (σ' σ:u5):Prop:=∀ t a,C9 σ' t=some a→C9 σ t=some a
theorem a3D.nil (σ:u5):a3D [] σ:=fun _ _ h=>by simp [C9] at h
theorem a3D.cons {σ' σ:u5} {t:Nat} {a:AV} (h:C9 σ t=some a) (k:a3D σ' σ):a3D ((t,a)::σ') σ:=fun s b hb=>by
 rw [F7] at hb
 by_cases e:t=s
 ·subst e;simp at hb;subst hb;exact h
 ·rw [if_neg e] at hb;exact k s b hb
theorem S5.sub {C:Ctx} {I:Im} {L:Lh} {σ σ':u5} {H:j6} {ρ:Env} (h:S5 C I L σ H ρ) (k:a3D σ' σ):S5 C I L σ' H ρ:=⟨fun t a ht=>h.env t a (k t a ht),h.heap,h.U0⟩
def qA (C:Ctx) (Q:Exit→u5→j6→Prop):Exit→Env→Im→Lh→Prop:=fun e ρ I L=>∃ σ H,S5 C I L σ H ρ∧Q e σ H
def H6 (P:Program) (C:Ctx) (N:Nat) (c:Code) (Q:Exit→u5→j6→Prop) (σ:u5) (H:j6):Prop :=
 ∀ ρ I L,S5 C I L σ H ρ→wpS P C N c (qA C Q) ρ I L
def C4 (P:Program) (C:Ctx) (N:Nat) (ops:Array Oper) (Q:Exit→u5→j6→Prop) (l:List Oper) (σ:u5) (H:j6):Prop :=
 ∀ ρ I L,S5 C I L σ H ρ→wpL P C N ops (qA C Q) l ρ I L
def A7 (C:Ctx) (σ:u5) (H:j6) (x:Operand) (a:AV):Prop:=∀ ρ I L,S5 C I L σ H ρ→∃ u,ev ρ x=some u∧D2 I a u
section evA
variable {C:Ctx} {σ:u5} {H:j6}
theorem A7.t {t:Nat} {a:AV} (h:C9 σ t=some a):A7 C σ H (.tmp t) a:=fun ρ I L hs=>hs.env t a h
theorem A7.i {n:Int} (h:(decide (-9223372036854775808≤n)&&decide (n≤9223372036854775807))=true):A7 C σ H (.const (.int .i64 n)) (.v n):=fun ρ I L hs=>by
 simp only [Bool.and_eq_true,decide_eq_true_eq] at h
 exact⟨_,a8,_,⟨a8,h.1,h.2⟩,a8⟩
theorem A7.u8 (x:UInt8) {m:Int} (h:m=(x.toNat:Int)):A7 C σ H (.const (.int .u8 m)) (.v x):=fun ρ I L hs=>⟨_,rfl,_,rfl,by rw [h];rfl⟩
theorem A7.u64 (x:UInt64) {m:Int} (h:m=(x.toNat:Int)):A7 C σ H (.const (.int .u64 m)) (.v x):=fun ρ I L hs=>⟨_,rfl,_,rfl,by rw [h];rfl⟩
theorem A7.b {x:Bool}:A7 C σ H (.const (.bool x)) (.v x):=fun ρ I L hs=>⟨_,rfl,_,rfl,rfl⟩
theorem A7.s {x:ByteArray} (l:List UInt8) (h:x.data.toList=l) (hl:l.length≤9223372036854775807):A7 C σ H (.const (.string x)) (.v (u0.mk l)):=fun ρ I L hs=>⟨_,rfl,_,⟨⟨x,rfl,h⟩,hl⟩,rfl⟩
theorem A7.a2O {α:Type} [p6 α]:A7 C σ H (.const (.slice none 0 0)) (.v ([]:List α)):=fun ρ I L hs=>⟨_,rfl,_,⟨_,rfl,[],Sl.nil I _,rfl⟩,rfl⟩
theorem A7.raw {u:Value}:A7 C σ H (.const u) (.raw u):=fun ρ I L hs=>⟨_,rfl,rfl⟩
theorem A7.c {α:Type} {r:p6 α} {t:Nat} {l:List α} (h:C9 σ t=some (.vc l)):A7 C σ H (.tmp t) (.v l):=fun ρ I L hs=>by
 obtain⟨u,h1,h2,h3⟩:=hs.env t _ h
 exact⟨u,h1,[u],⟨u,a8,h3⟩,a8⟩
theorem A7.o {t:Nat} {a:AV} {c:Bool} (h:C9 σ t=some (.opt c a)) (hc:c=true):A7 C σ H (.tmp t) a:=fun ρ I L hs=>by
 obtain⟨u,h1,h2⟩:=hs.env t _ h
 exact⟨u,h1,h2 hc⟩
theorem A7.int {x:Operand} {n:Int} (h:A7 C σ H x (.v n)) {ρ:Env} {I:Im} {L:Lh} (hs:S5 C I L σ H ρ):ev ρ x=some (i64 n) ∧ -9223372036854775808≤n∧n≤9223372036854775807:=by
 obtain⟨u,h1,cs,⟨rfl,h2⟩,rfl⟩:=h ρ I L hs
 exact⟨h1,h2⟩
theorem A7.bool {x:Operand} {b:Bool} (h:A7 C σ H x (.v b)) {ρ:Env} {I:Im} {L:Lh} (hs:S5 C I L σ H ρ):ev ρ x=some (.bool b):=by
 obtain⟨u,h1,cs,rfl,rfl⟩:=h ρ I L hs
 exact h1
theorem A7.by8 {x:Operand} {n:UInt8} (h:A7 C σ H x (.v n)) {ρ:Env} {I:Im} {L:Lh} (hs:S5 C I L σ H ρ):ev ρ x=some (Fl.u8 n):=by
 obtain⟨u,h1,cs,rfl,rfl⟩:=h ρ I L hs
 exact h1
theorem A7.Z2 {x:Operand} {n:UInt64} (h:A7 C σ H x (.v n)) {ρ:Env} {I:Im} {L:Lh} (hs:S5 C I L σ H ρ):ev ρ x=some (Fl.u64 n):=by
 obtain⟨u,h1,cs,rfl,rfl⟩:=h ρ I L hs
 exact h1
theorem A7.str {x:Operand} {s:u0} (h:A7 C σ H x (.v s)) {ρ:Env} {I:Im} {L:Lh} (hs:S5 C I L σ H ρ):∃ b,ev ρ x=some (.string b)∧b.data.toList=s.l:=by
 obtain⟨u,h1,cs,⟨⟨b,rfl,h2⟩,_⟩,rfl⟩:=h ρ I L hs
 exact⟨b,h1,h2⟩
theorem A7.a3g {x:Operand} {s:u0} (h:A7 C σ H x (.v s)) {ρ:Env} {I:Im} {L:Lh} (hs:S5 C I L σ H ρ):s.l.length≤9223372036854775807:=by
 obtain⟨u,h1,cs,⟨_,h2⟩,rfl⟩:=h ρ I L hs
 exact h2
theorem A7.sl {α:Type} {r:p6 α} {x:Operand} {l:List α} (h:A7 C σ H x (.v l)) {ρ:Env} {I:Im} {L:Lh} (hs:S5 C I L σ H ρ):∃ u,ev ρ x=some u∧SlA I u l:=by
 obtain⟨u,h1,cs,⟨v,rfl,h2⟩,rfl⟩:=h ρ I L hs
 exact⟨_,h1,h2⟩
end evA
section control
variable {P:Program} {C:Ctx} {N:Nat} {Q:Exit→u5→j6→Prop} {σ:u5} {H:j6}
theorem H6.skip (h:Q .normal σ H):H6 P C N .skip Q σ H:=fun ρ I L hs => .skip ⟨σ,H,hs,h⟩
theorem H6.ret (h:Q .ret σ H):H6 P C N .ret Q σ H:=fun ρ I L hs => .ret ⟨σ,H,hs,h⟩
theorem H6.exit {id:Nat} (h:Q (.exit id) σ H):H6 P C N (.exit id) Q σ H:=fun ρ I L hs => .exit ⟨σ,H,hs,h⟩
@[reducible] def a4W (next:u5→j6→Prop) (Q:Exit→u5→j6→Prop):Exit→u5→j6→Prop
 | .normal,σ,H=>next σ H
 | e,σ,H=>Q e σ H
theorem H6.seq {x y:Code} (h:H6 P C N x (a4W (H6 P C N y Q) Q) σ H):H6 P C N (.seq x y) Q σ H:=fun ρ I L hs=>by
 refine .seq ((h ρ I L hs).mono fun e ρ I L ⟨σ,H,h1,h2⟩ => ?_)
 cases e with
 | normal=>exact h2 ρ I L h1
 | _=>exact⟨σ,H,h1,h2⟩
theorem H6.cond {c:Operand} {x y:Code} {b:Bool} (hc:A7 C σ H c (.v b)) (ht:b=true→H6 P C N x Q σ H) (hf:b=false→H6 P C N y Q σ H):H6 P C N (.cond c x y) Q σ H :=
 fun ρ I L hs => .cond (hc.bool hs) (fun e=>ht e ρ I L hs) (fun e=>hf e ρ I L hs)
theorem H6.a1g {c:Operand} {x y:Code} {p:Prop} {_:Decidable p} (hc:A7 C σ H c (.v (decide p))) (ht:p→H6 P C N x Q σ H) (hf:¬p→H6 P C N y Q σ H):H6 P C N (.cond c x y) Q σ H :=
 .cond hc (fun e=>ht (of_decide_eq_true e)) (fun e=>hf (of_decide_eq_false e))
@[reducible] def a14 (id:Nat) (Q:Exit→u5→j6→Prop):Exit→u5→j6→Prop
 | .exit i,σ,H=>bif Nat.beq i id then Q .normal σ H else Q (.exit i) σ H
 | e,σ,H=>Q e σ H
theorem H6.block {id:Nat} {c:Code} (h:H6 P C N c (a14 id Q) σ H):H6 P C N (.block id c) Q σ H:=fun ρ I L hs=>by
 refine .block ((h ρ I L hs).mono fun e ρ I L ⟨σ,H,h1,h2⟩ => ?_)
 cases e with
 | exit i =>
  simp only [a5u,a14] at *
  cases hb:Nat.beq i id with
  | true=>simp only [hb,cond_true] at *;exact⟨σ,H,h1,h2⟩
  | false=>simp only [hb,cond_false] at *;exact⟨σ,H,h1,h2⟩
 | _=>exact⟨σ,H,h1,h2⟩
theorem wpS.b4f {Q : Exit → Env → Im → Lh → Prop} {ρ : Env} {I : Im} {L : Lh} {α : Type} (E : α → Env) (Lf : α → Lh) (F : α → Im → Prop) (μ : α → Nat) {c : Code}
    (x0:α) (h0:F x0 I) (hE:Sub (E x0) ρ) (hL:L=Lf x0)
    (round:∀ x J,F x J→wpS P C N c (b2j (fun ρ' J' L'=>∃ x',Sub (E x') ρ'∧L'=Lf x'∧F x' J'∧μ x' < μ x) Q) (E x) J (Lf x)) :
    wpS P C N (.loop c) Q ρ I L:=fun a w ha hw=>by
  intro b k cs hro hfn hroom
  have key : ∀ n x J a w, μ x = n → F x J → Fits N (E x) a → St C J (Lf x) w →
      ∃ e a' w',a3S C N Q e a' w'∧ArrivesIn (Machine.fenced P C.fen) P (lone (b.atR a (.code c :: .inLoop c::k)) cs w) b k cs e a' w':=by
    intro n
    induction n using Nat.strongRecOn with
    | _ n ih =>
      intro x J a w hn hF ha hw
      obtain⟨e,a1,w1,⟨ρ1,J1,L1,hf1,hs1,hq1⟩,harr⟩:=round x J hF a w ha hw b (.inLoop c::k) cs hro hfn hroom
      cases e with
      | normal =>
        obtain⟨x',hsub,rfl,hF',hlt⟩:=hq1
        obtain⟨e2,a2,w2,hq2,harr2⟩:=ih (μ x') (hn▸hlt) x' J1 a1 w1 rfl hF' (hf1.sub hsub) hs1
        exact⟨e2,a2,w2,hq2,.of_steps (StepsIn.trans harr (.one (fenced_calm hfn hroom a8) stepR_inLoop)) harr2⟩
      | exit id=>exact⟨_,a1,w1,⟨ρ1,J1,L1,hf1,hs1,hq1⟩,.pass (x := .inLoop c) rfl (fun _ _ => .inl (by simp)) harr⟩
      | goto l=>exact⟨_,a1,w1,⟨ρ1,J1,L1,hf1,hs1,hq1⟩,.pass (x := .inLoop c) rfl (fun _ _ => .inl (by simp)) harr⟩
      | ret=>exact⟨_,a1,w1,⟨ρ1,J1,L1,hf1,hs1,hq1⟩,.pass (x := .inLoop c) rfl (fun _ _ => .inl (by simp)) harr⟩
      | panic ch=>exact⟨_,a1,w1,⟨ρ1,J1,L1,hf1,hs1,hq1⟩,.pass (x := .inLoop c) rfl (fun _ _ => .inl (by simp)) harr⟩
      | outgrown=>exact⟨_,a1,w1,⟨ρ1,J1,L1,hf1,hs1,hq1⟩,.pass (x := .inLoop c) rfl (fun _ _ => .inl (by simp)) harr⟩
  subst hL
  obtain⟨e,a',w',hq,harr⟩:=key _ x0 I a w rfl h0 (ha.sub hE) hw
  exact⟨e,a',w',hq,.of_steps (.one (fenced_calm hfn hroom a8) stepR_loop) harr⟩
theorem H6.loop {α : Type} (E : α → u5) (Hf : α → j6) (F : α → Prop) (μ : α → Nat) {c : Code}
    (x0:α) (h0:F x0) (hE:a3D (E x0) σ) (hH:H=Hf x0)
    (round:∀ x,F x→H6 P C N c (a4W (fun σ' H'=>∃ x',a3D (E x') σ'∧H'=Hf x'∧F x'∧μ x' < μ x) Q) (E x) (Hf x)) :
    H6 P C N (.loop c) Q σ H:=fun ρ I L hs=>by
  refine wpS.b4f (α:=α×Env×Lh) (fun y=>y.2.1) (fun y=>y.2.2) (fun y J=>F y.1∧S5 C J y.2.2 (E y.1) (Hf y.1) y.2.1) (fun y=>μ y.1) (x0,ρ,L) ⟨h0,hH▸hs.sub hE⟩ (Sub.refl _) rfl ?_
  rintro⟨x,ρ1,L1⟩ J ⟨hF,hR⟩
  refine(round x hF ρ1 J L1 hR).mono fun e ρ2 J2 L2 ⟨σ2,H2,h1,h2⟩ => ?_
  cases e with
  | normal =>
    obtain⟨x',k1,k2,k3,k4⟩:=h2
    subst k2
    exact⟨(x',ρ2,L2),Sub.refl _,a8,⟨k3,h1.sub k1⟩,k4⟩
  | _=>exact⟨σ2,H2,h1,h2⟩
theorem H6.C2 (R : u5) {α : Type} (V : α → u5 → u5) (Hf : α → j6) (F : α → Prop) (μ : α → Nat) {c : Code}
    (x0:α) (hR:a3D R σ) (h0:F x0) (hE:a3D (V x0 R) σ) (hH:H=Hf x0)
    (round:∀ x,F x→H6 P C N c (a4W (fun σ' H'=>∃ x',a3D (V x' R) σ'∧H'=Hf x'∧F x'∧μ x' < μ x) Q) (V x R) (Hf x)) :
    H6 P C N (.loop c) Q σ H := .loop (fun x=>V x R) Hf F μ x0 h0 hE hH round
end control
abbrev c8:Bool×C5:=(true,.none_)
abbrev j2 (l:List (Bool×C5)) (k:Nat):Bool×C5:=List.getD l k (true,.none_)
abbrev j0:Bool:=true
abbrev j1:Bool:=false
end Go.Ab
namespace Go.Ab
open Go.Fl Go.RowKit
open p6 (rep)
theorem OpX.U7 {P:Program} {N:Nat} {o:Oper} {ρ:Env} {I:Im} {L:Lh} {K K':Value→Im→Lh→Prop} (h:OpX P N o ρ I L K) (hk:∀ v J X,Le I J→K v J X→K' v J X):OpX P N o ρ I L K' :=
 fun a w ha hm=>(h a w ha hm).mono fun v w' ⟨J,X,a1,a2,a3,a4,a5,a6⟩=>⟨J,X,a1,a2,a3,a4,a5,hk v J X a2 a6⟩
theorem OpS.a6u {P:Program} {C:Ctx} {N:Nat} {o:Oper} {ρ:Env} {I:Im} {L:Lh} {K K':Value→Im→Lh→Prop} (h:OpS P C N o ρ I L K) (hk:∀ v J X,K v J X→K' v J X):OpS P C N o ρ I L K' :=
 fun a w ha hm=>(h a w ha hm).mono fun v w' ⟨J,X,a1,a2⟩=>⟨J,X,a1,hk v J X a2⟩
def j7 (P:Program) (N:Nat) (C:Ctx) (o:Oper) (σ:u5) (H:j6) (K:AV→Prop):Prop :=
 ∀ ρ I L,S5 C I L σ H ρ→OpX P N o ρ I L (fun v J X=>X = []∧∃ r,D2 J r v∧K r)
def A9 (P:Program) (C:Ctx) (N:Nat) (o:Oper) (σ:u5) (H:j6) (K:AV→j6→Prop):Prop :=
 ∀ ρ I L,S5 C I L σ H ρ→OpS P C N o ρ I L (fun v J L'=>Le I J∧∃ r H',D2 J r v∧P2 C.w0.heap.size J H' L'∧K r H')
theorem j7.ofV {P:Program} {N:Nat} {C:Ctx} {o:Oper} {σ:u5} {H:j6} {K:AV→Prop} (r:AV) (h:∀ ρ I L,S5 C I L σ H ρ→J0 P N o ρ I L (fun v=>D2 I r v)) (k:K r):j7 P N C o σ H K :=
 fun ρ I L hs => .ofV fun a w ha hm=>by
  obtain⟨v,hv,hr⟩:=h ρ I L hs a w ha hm
  exact⟨v,⟨a8,r,hv,k⟩,hr⟩
section opers
variable {P:Program} {C:Ctx} {N:Nat} {ops:Array Oper} {Q:Exit→u5→j6→Prop} {rest:List Oper} {σ:u5} {H:j6}
theorem C4.nil (h:Q .normal σ H):C4 P C N ops Q [] σ H:=fun ρ I L hs => .nil ⟨σ,H,hs,h⟩
theorem C4.p {d : Nat} {op : Op} {ty : TypeId} {ps : String} {af : Array Edge}
    (h:j7 P N C ⟨some d,op,ty,ps,af,none⟩ σ H (fun r=>C4 P C N ops Q rest ((d,r)::σ) H)) :
    C4 P C N ops Q (⟨some d,op,ty,ps,af,none⟩::rest) σ H:=fun ρ I L hs =>
  .x (OpX.U7 (h ρ I L hs) fun v J X hle ⟨hX,r,hr,hk⟩=>by subst hX;exact hk _ _ _ (hs.put hle hr (hs.heap.mono hle)))
theorem C4.h {d : Nat} {op : Op} {ty : TypeId} {ps : String} {af : Array Edge}
    (h:A9 P C N ⟨some d,op,ty,ps,af,none⟩ σ H (fun r H'=>C4 P C N ops Q rest ((d,r)::σ) H')) :
    C4 P C N ops Q (⟨some d,op,ty,ps,af,none⟩::rest) σ H:=fun ρ I L hs =>
  .s (OpS.a6u (h ρ I L hs) fun v J L' ⟨hle,r,H',hr,hH,hk⟩=>hk _ _ _ (hs.put hle hr hH))
theorem C4.n {op : Op} {ty : TypeId} {ps : String} {af : Array Edge}
    (h:A9 P C N ⟨none,op,ty,ps,af,none⟩ σ H (fun _ H'=>C4 P C N ops Q rest σ H')) :
    C4 P C N ops Q (⟨none,op,ty,ps,af,none⟩::rest) σ H:=fun ρ I L hs =>
  .n (OpS.a6u (h ρ I L hs) fun v J L' ⟨hle,r,H',hr,hH,hk⟩=>hk _ _ _ ⟨(hs.mono hle).env,hH,hs.U0.trans hle⟩)
theorem C4.go {d : Nat} {op : Op} {ty : TypeId} {ps : String} {af : Array Edge} {j : Nat} {want : Bool} (dj : Nat) (hj : (ops[j]?).bind (·.dst) = some dj) {b : Bool} (hb : A7 C σ H (.tmp dj) (.v b)) {r : AV}
    (h:b=want→j7 P N C ⟨some d,op,ty,ps,af,none⟩ σ H (fun r'=>r'=r)) (k:C4 P C N ops Q rest ((d,.opt (b == want) r)::σ) H) :
    C4 P C N ops Q (⟨some d,op,ty,ps,af,some (j,want)⟩::rest) σ H:=fun ρ I L hs=>by
  have hbv:=hb.bool hs
  by_cases e:b=want
  · refine .gt dj hj (by rw [←e];exact hbv) (OpS.ofX (OpX.U7 (h e ρ I L hs) fun v J X hle ⟨hX,r',hr,hk⟩ => ?_))
    subst hX;subst hk
    exact k _ _ _ (hs.put hle (r := .opt (b == want) r') (fun _=>hr) (hs.heap.mono hle))
  · have e':b = !want:=by cases b<;>cases want<;>simp_all
    exact .gf dj hj (by rw [←e'];exact hbv) (k _ _ _ (hs.put (Le.refl I) (r := .opt (b == want) r) (fun hc=>absurd (by simpa using hc) e) hs.heap))
theorem H6.region {id:Nat} {l:List Oper} (hd:H7 N l=true) (h:C4 P C N l.toArray Q l σ H):H6 P C N (.region id l.toArray false) Q σ H:=fun ρ I L hs => .region hd (h ρ I L hs)
inductive C1:j6→Bool×C5→(Bool×C5→j6)→Prop
 | z {B:Bool×C5} {H:j6}:C1 (B::H) B (fun X=>X::H)
 | s {A B:Bool×C5} {H:j6} {F:Bool×C5→j6} (h:C1 H B F):C1 (A::H) B (fun X=>A::F X)
theorem C1.get {n0 : Nat} {I : Im} {H : j6} {B : Bool × C5} {F : Bool × C5 → j6} (h : C1 H B F) : ∀ {L : Lh}, P2 n0 I H L →
    ∃ i X,L[i]?=some X∧a7D n0 I B X∧∀ J B' X',Le I J→a7D n0 J B' X'→P2 n0 J (F B') (L.set i X'):=by
  induction h with
  | z =>
    rintro _ ⟨X,R,rfl,h1,h2⟩
    exact⟨0,X,a8,h1,fun J B' X' hle hb=>⟨X',R,a8,hb,h2.mono hle⟩⟩
  | s h ih =>
    rintro _ ⟨X,R,rfl,h1,h2⟩
    obtain⟨i,Y,h3,h4,h5⟩:=ih h2
    exact⟨i+1,Y,by simpa using h3,h4,fun J B' X' hle hb=>⟨X,R.set i X',by simp,h1.mono hle,h5 J B' X' hle hb⟩⟩
theorem a33 {I J:Im} {E:TypeId} {α:Type} {r:p6 α} {w:Value} {l:List α} {X:List (Nat×Obj)} (h:(C5.own E w l).a5H I X) (hle:Le I J) (hp:∀ p∈X,J p.1=some p.2):D2 J (.v l) w:=by
 obtain⟨xs,h1,h2⟩:=h
 obtain⟨a,c,rfl⟩:=h1.shape
 exact⟨_,⟨_,a8,xs,h1.sl hp,h2.mono hle⟩,a8⟩
theorem a9e {I J:Im} {α:Type} {r:p6 α} {w:Value} {x:α} {X:List (Nat×Obj)} (h:(C5.ob w x).a5H I X) (hle:Le I J) (hp:∀ p∈X,J p.1=some p.2):D2 J (.p x) w:=by
 obtain⟨b,T,cs,rfl,rfl,h3⟩:=h
 exact⟨b,0,cs,a8,p6.mono hle h3,Cells.a9Z (hp (b,row cs T) (List.mem_singleton.2 a8))⟩
def Ctx.Ok (C:Ctx):Prop:=∀ k∈C.M,k < C.w0.heap.size
theorem a7E (hC:Ctx.Ok C) {B:C5} {I:Im} {X:List (Nat×Obj)} (h:a7D C.w0.heap.size I (true,B) X):∀ p∈X,p.1∈C.M→False:=fun p hp hm=>by
 have:=h.2 rfl p hp
 have:=hC _ hm
 omega
theorem C4.F0 (hC:Ctx.Ok C) {E:TypeId} {α:Type} {r:p6 α} {w:Value} {l:List α} {os:List Oper} {F:Bool×C5→j6} (h:C1 H (true,.own E w l) F) (k:C4 P C N ops Q os σ (F (true,.fz w (.v l)))):C4 P C N ops Q os σ H:=fun ρ I L hs=>by
 obtain⟨i,X,h1,h2,h3⟩:=h.get hs.heap
 refine .freeze i h1 (a7E hC h2) fun J hle hp=>k ρ J _ ⟨(hs.mono hle).env,h3 J _ [] hle ⟨⟨rfl,a33 h2.1 hle hp⟩,by simp⟩,hs.U0.trans hle⟩
theorem H6.F0 (hC:Ctx.Ok C) {E:TypeId} {α:Type} {r:p6 α} {w:Value} {l:List α} {c:Code} {F:Bool×C5→j6} (h:C1 H (true,.own E w l) F) (k:H6 P C N c Q σ (F (true,.fz w (.v l)))):H6 P C N c Q σ H:=fun ρ I L hs=>by
 obtain⟨i,X,h1,h2,h3⟩:=h.get hs.heap
 refine .freeze i h1 (a7E hC h2) fun J hle hp=>k ρ J _ ⟨(hs.mono hle).env,h3 J _ [] hle ⟨⟨rfl,a33 h2.1 hle hp⟩,by simp⟩,hs.U0.trans hle⟩
theorem H6.a3h (hC:Ctx.Ok C) {α:Type} {r:p6 α} {w:Value} {x:α} {c:Code} {F:Bool×C5→j6} (h:C1 H (true,.ob w x) F) (k:H6 P C N c Q σ (F (true,.fz w (.p x)))):H6 P C N c Q σ H:=fun ρ I L hs=>by
 obtain⟨i,X,h1,h2,h3⟩:=h.get hs.heap
 refine .freeze i h1 (a7E hC h2) fun J hle hp=>k ρ J _ ⟨(hs.mono hle).env,h3 J _ [] hle ⟨⟨rfl,a9e h2.1 hle hp⟩,by simp⟩,hs.U0.trans hle⟩
theorem S5.as {C:Ctx} {I:Im} {L:Lh} {ρ:Env} (t:Nat) {w:Value} {a:AV} {g:Bool} {F:Bool×C5→j6} (ht:C9 σ t=some (.raw w)) (h:C1 H (g,.fz w a) F) (hs:S5 C I L σ H ρ):S5 C I L ((t,a)::σ) H ρ :=
 ⟨fun s b hb=>by
  rw [F7] at hb
  by_cases e:t=s
  ·subst e;simp at hb;subst hb
   obtain⟨u,h1,rfl⟩:=hs.env t _ ht
   obtain⟨i,X,h2,h3,_⟩:=h.get hs.heap
   exact⟨_,h1,h3.1.2⟩
  ·rw [if_neg e] at hb;exact hs.env s b hb,hs.heap,hs.U0⟩
theorem C4.as (t:Nat) {w:Value} {a:AV} {g:Bool} {F:Bool×C5→j6} {os:List Oper} (ht:C9 σ t=some (.raw w)) (h:C1 H (g,.fz w a) F) (k:C4 P C N ops Q os ((t,a)::σ) H):C4 P C N ops Q os σ H :=
 fun ρ I L hs=>k ρ I L (hs.as t ht h)
theorem H6.as (t:Nat) {w:Value} {a:AV} {g:Bool} {F:Bool×C5→j6} {c:Code} (ht:C9 σ t=some (.raw w)) (h:C1 H (g,.fz w a) F) (k:H6 P C N c Q ((t,a)::σ) H):H6 P C N c Q σ H :=
 fun ρ I L hs=>k ρ I L (hs.as t ht h)
theorem S5.asP {C:Ctx} {I:Im} {L:Lh} {ρ:Env} (t:Nat) {α:Type} {r:p6 α} {b:Nat} {a:AV} {g:Bool} {F:Bool×C5→j6} (ht:C9 σ t=some (.ln (ptr b 0) (p5.id (α:=α)))) (h:C1 H (g,.fz (ptr b 0) a) F) (hs:S5 C I L σ H ρ):S5 C I L ((t,a)::σ) H ρ :=
 ⟨fun s c hb=>by
  rw [F7] at hb
  by_cases e:t=s
  ·subst e;simp at hb;subst hb
   obtain⟨u,h1,b',hb',rfl⟩:=hs.env t _ ht
   cases hb'
   obtain⟨i,X,h2,h3,_⟩:=h.get hs.heap
   exact⟨_,h1,h3.1.2⟩
  ·rw [if_neg e] at hb;exact hs.env s c hb,hs.heap,hs.U0⟩
theorem H6.asP (t:Nat) {α:Type} {r:p6 α} {b:Nat} {a:AV} {g:Bool} {F:Bool×C5→j6} {c:Code} (ht:C9 σ t=some (.ln (ptr b 0) (p5.id (α:=α)))) (h:C1 H (g,.fz (ptr b 0) a) F) (k:H6 P C N c Q ((t,a)::σ) H):H6 P C N c Q σ H :=
 fun ρ I L hs=>k ρ I L (hs.asP t ht h)
theorem H6.a2m (t:Nat) {α:Type} {r:p6 α} {l:List α} {c:Code} (ht:C9 σ t=some (.v l)) (k:l.length≤9223372036854775807→H6 P C N c Q σ H):H6 P C N c Q σ H :=
 fun ρ I L hs=>by
  obtain⟨u,_,xs,⟨a,c,_,_,h1,h2,_⟩,_⟩:=A7.sl (.t ht) hs
  exact k (by unfold maxLen at h2;omega) ρ I L hs
theorem H6.a3g (t:Nat) {s:u0} {c:Code} (ht:C9 σ t=some (.v s)) (k:s.l.length≤9223372036854775807→H6 P C N c Q σ H):H6 P C N c Q σ H :=
 fun ρ I L hs=>k (A7.a3g (.t ht) hs) ρ I L hs
end opers
structure Gl where
 p:Im→Prop
 mono:∀ {I J},Le I J→p I→p J
def P5 (I:Im):List AV→List Value→Prop
 | [],vs=>vs = []
 | a::ags,vs=>∃ v r,vs=v::r∧D2 I a v∧P5 I ags r
theorem P5.mono {I J:Im} (hle:Le I J):∀ {ags:List AV} {vs:List Value},P5 I ags vs→P5 J ags vs
 | [],_,h=>h
 | a::ags,_,h=>by obtain⟨v,r,h1,h2,h3⟩:=h;exact⟨v,r,h1,h2.mono hle,h3.mono hle⟩
theorem P5.len {I:Im}:∀ {ags:List AV} {vs:List Value},P5 I ags vs→vs.length=ags.length
 | [],_,h=>by simp [P5] at h;simp [h]
 | a::ags,_,h=>by obtain⟨v,r,rfl,_,h3⟩:=h;simp [h3.len]
@[reducible] def a5I:List AV→Nat→u5
 | [],_ => []
 | a::r,k=>(k,a)::a5I r (k+1)
theorem P5.env {I:Im}:∀ {ags:List AV} {vs:List Value} (k:Nat),P5 I ags vs→∀ t a,C9 (a5I ags k) t=some a→∃ u,Fl.look (W6 vs k) t=some u∧D2 I a u
 | [],_,k,h,t,a,ht=>by simp [a5I,C9] at ht
 | a::ags,_,k,h,t,b,ht=>by
  obtain⟨v,r,rfl,h2,h3⟩:=h
  rw [a5I,F7] at ht
  rw [W6,Fl.M6]
  by_cases e:k=t
  ·rw [if_pos e] at ht ⊢;cases ht;exact⟨v,rfl,h2⟩
  ·rw [if_neg e] at ht ⊢;exact h3.env (k+1) t b ht
def y6 (G:Gl) (P:Program) (f:FuncId) (ags:List AV) (post:AV→Prop):Prop:=∀ I vs,G.p I→P5 I ags vs→Fun P f vs.toArray I (fun v J=>∃ r,D2 J r v∧post r)
def a2P (I:Im):List C5→Lh→Prop
 | [],L=>L = []
 | B::H,L=>∃ X R,L=X::R∧B.a5H I X∧a2P I H R
def E1 (G:Gl) (P:Program) (f:FuncId) (ags:List AV) (Hs:List C5) (post:AV→List C5→Prop):Prop :=
 ∀ I L vs,G.p I→P5 I ags vs→a2P I Hs L→b3U P f vs.toArray I L (fun v J L'=>∃ r Hs',D2 J r v∧a2P J Hs' L'∧post r Hs')
@[reducible] def a4X:List C5→j6
 | [] => []
 | B::r=>(false,B)::a4X r
theorem a2n:∀ Hs:List C5,a4X Hs=Hs.map (fun B=>(false,B))
 | []=>rfl
 | B::r=>by rw [a4X,a2n r];rfl
theorem a2P.toH {n0:Nat} {I:Im}:∀ {Hs:List C5} {L:Lh},a2P I Hs L→P2 n0 I (Hs.map (fun B=>(false,B))) L
 | [],_,h=>h
 | B::Hs,_,h=>by obtain⟨X,R,h1,h2,h3⟩:=h;exact⟨X,R,h1,⟨h2,fun e=>by cases e⟩,h3.toH⟩
theorem a2P.toT {n0:Nat} {I:Im}:∀ {Hs:List C5} {L:Lh},a2P I Hs L→(∀ p∈L.flatten,n0≤p.1)→P2 n0 I (Hs.map (fun B=>(true,B))) L
 | [],_,h,_=>h
 | B::Hs,_,h,hp=>by
  obtain⟨X,R,rfl,h2,h3⟩:=h
  exact⟨X,R,a8,⟨h2,fun _ p h=>hp p (by simp [h])⟩,h3.toT (fun p h=>hp p (by simp only [List.flatten_cons,List.mem_append];exact .inr h))⟩
theorem P2.toK {n0:Nat} {I:Im}:∀ {H:j6} {L:Lh},P2 n0 I H L→a2P I (H.map Prod.snd) L
 | [],_,h=>h
 | B::Hs,_,h=>by obtain⟨X,R,h1,h2,h3⟩:=h;exact⟨X,R,h1,h2.1,h3.toK⟩
def a7F (P:Program) (fn:Func) (C:Ctx) (σ:u5) (H:j6) (r:AV):Prop:=∀ ρ I L,S5 C I L σ H ρ→∃ v,Fin P fn ρ I L v∧D2 I r v
def a3E (P:Program) (fn:Func) (C:Ctx) (post:AV→j6→Prop):Exit→u5→j6→Prop
 | .normal,σ,H | .ret,σ,H=>∃ r,a7F P fn C σ H r∧post r H
 | _,_,_=>False
theorem a3E.q {P : Program} {fn : Func} {C : Ctx} {post : AV → j6 → Prop} {e : Exit} {ρ : Env} {I : Im} {L : Lh} (h : qA C (a3E P fn C post) e ρ I L) :
    b2E P fn (fun v J L'=>∃ r H,D2 J r v∧P2 C.w0.heap.size J H L'∧post r H) e ρ I L:=by
  obtain⟨σ,H,h1,h2⟩:=h
  cases e with
  | normal|ret =>
    obtain⟨r,h3,h4⟩:=h2
    obtain⟨v,h5,h6⟩:=h3 ρ I L h1
    exact⟨v,h5,r,H,h6,h1.heap,h4⟩
  | _=>exact h2.elim
theorem y6.intro {G : Gl} {P : Program} {f : FuncId} {fn : Func} {c : Code} {ags : List AV} {post : AV → Prop} (hf : P.funcs[f]? = some fn) (hb : fn.body = some c) (hn : (fn.name == "runtime.NumGoroutine") = false)
    (N:Nat) (hN:fn.ntmps=N) (hl:Nat.ble ags.length N=true) (σ:u5) (hσ:a5I ags 0=σ)
    (h:∀ C:Ctx,Ctx.Ok C→G.p C.I0→H6 P C N c (a3E P fn C (fun r _=>post r)) σ []):y6 G P f ags post:=fun I vs hG hvs =>
  ⟨⟨fn,hf,hn,by simp [hb]⟩,fun w hm=>Y8 hf hb N hN (by rw [hvs.len];exact hl) hm (M := []) (by simp)
    ((h ⟨w,[],I,none⟩ (fun k hk=>by cases hk) hG (W6 vs 0) I [] ⟨by rw [←hσ];exact hvs.env 0,rfl,Le.refl I⟩).mono fun e ρ J L hq=>a3E.q hq)
    fun v J L' w' hs hp=>by
      obtain⟨r,H,h1,h2,h3⟩:=hp
      exact⟨v,J,a8,hs.S4,hs.U0,fun b h0 h1=>hs.new b h0 h1,hs.mem.drop,r,h1,h3⟩⟩
theorem E1.intro {G : Gl} {P : Program} {f : FuncId} {fn : Func} {c : Code} {ags : List AV} {Hs : List C5} {post : AV → List C5 → Prop} (hf : P.funcs[f]? = some fn) (hb : fn.body = some c) (hn : (fn.name == "runtime.NumGoroutine") = false)
    (N:Nat) (hN:fn.ntmps=N) (hl:Nat.ble ags.length N=true) (σ:u5) (hσ:a5I ags 0=σ) (H0:j6) (hH:a4X Hs=H0)
    (h:∀ C:Ctx,Ctx.Ok C→G.p C.I0→H6 P C N c (a3E P fn C (fun r H=>post r (H.map Prod.snd))) σ H0):E1 G P f ags Hs post:=fun I L vs hG hvs hL =>
  ⟨⟨fn,hf,hn,by simp [hb]⟩,fun w hm=>Y8 hf hb N hN (by rw [hvs.len];exact hl) hm (M:=L.flatten.map Prod.fst) (fun p hp=>List.mem_map_of_mem hp)
    ((h ⟨w, L.flatten.map Prod.fst, I, none⟩ (fun k hk => by
        obtain⟨p,hp,rfl⟩:=List.mem_map.1 hk
        exact A8 (hm.loc p hp)) hG (W6 vs 0) I L ⟨by rw [←hσ];exact hvs.env 0,by rw [←hH,a2n];exact hL.toH,Le.refl I⟩).mono fun e ρ J L hq=>a3E.q hq)
    fun v J L' w' hs hp=>by
      obtain⟨r,H,h1,h2,h3⟩:=hp
      exact⟨v,J,L',a8,hs.S4,hs.U0,fun b h0 h1=>hs.new b h0 h1,hs.mem,hs.own,r,_,h1,h2.toK,h3⟩⟩
theorem y6.mono {G:Gl} {P:Program} {f:FuncId} {ags:List AV} {post post':AV→Prop} (h:y6 G P f ags post) (hp:∀ r,post r→post' r):y6 G P f ags post':=fun I vs hG hvs =>
 (h I vs hG hvs).mono fun v J hle ⟨r,h1,h2⟩=>⟨r,h1,hp r h2⟩
theorem A7.a34 {C:Ctx} {G:Gl} {σ:u5} {H:j6} {g:Nat} {a:AV} (hG:G.p C.I0) (h:∀ I,G.p I→D2 I a (ptr g 0)):A7 C σ H (.global g) a:=fun ρ I L hs=>⟨_,rfl,h I (G.mono hs.U0 hG)⟩
def a0C (C:Ctx) (σ:u5) (H:j6):List Operand→List AV→Prop
 | [],ags=>ags = []
 | x::xs,ags=>∃ a r,ags=a::r∧A7 C σ H x a∧a0C C σ H xs r
theorem a0C.nil {C:Ctx} {σ:u5} {H:j6}:a0C C σ H [] []:=rfl
theorem a0C.cons {C:Ctx} {σ:u5} {H:j6} {x:Operand} {a:AV} {xs:List Operand} {ags:List AV} (h:A7 C σ H x a) (k:a0C C σ H xs ags):a0C C σ H (x::xs) (a::ags):=⟨a,ags,rfl,h,k⟩
theorem a0C.get {C:Ctx} {σ:u5} {H:j6} {ρ:Env} {I:Im} {L:Lh} (hs:S5 C I L σ H ρ):∀ {xs:List Operand} {ags:List AV},a0C C σ H xs ags→∃ vs,evL ρ xs=some vs∧P5 I ags vs
 | [],_,h=>by simp [a0C] at h;subst h;exact⟨[],rfl,rfl⟩
 | x::xs,_,h=>by
  obtain⟨a,r,rfl,h1,h2⟩:=h
  obtain⟨u,h3,h4⟩:=h1 ρ I L hs
  obtain⟨vs,h5,h6⟩:=a0C.get hs h2
  exact⟨u::vs,by simp [evL,h3,h5],u,vs,rfl,h4,h6⟩
def a3i (r:AV):Prop:=∀ I J u,D2 I r u→D2 J r u
class b2L (α:Type) [p6 α]:Prop where
 any:∀ {I J:Im} {x:α} {cs},rep I x cs→rep J x cs
instance:b2L Int:=⟨fun h=>h⟩
theorem a3i.v {α:Type} [p6 α] [b2L α] {x:α}:a3i (.v x):=fun I J u h=>by obtain⟨cs,h1,h2⟩:=h;exact⟨cs,b2L.any h1,h2⟩
section calls
variable {P:Program} {C:Ctx} {N:Nat} {σ:u5} {H:j6} {G:Gl} (hG:G.p C.I0) {f:FuncId} {d:Option Nat} {args:Array Operand} {tys:Array TypeId} {ty:TypeId} {ps:String} {af:Array Edge} {g:Option (Nat×Bool)} {ags:List AV}
include hG
theorem j7.call {post:AV→Prop} {K:AV→Prop} (h:y6 G P f ags post) (hv:a0C C σ H args.toList ags) (k:∀ r,post r→K r):j7 P N C ⟨d,.call ⟨.value (.func f),args,tys⟩,ty,ps,af,g⟩ σ H K:=fun ρ I L hs=>by
 obtain⟨vs,h1,h2⟩:=hv.get hs
 exact .call a8 h1 (h I vs (G.mono hs.U0 hG) h2) fun v J hle ⟨r,h3,h4⟩=>⟨a8,r,h3,k r h4⟩
theorem j7.A4 {r:AV} {K:AV→Prop} (h:y6 G P f ags (fun x=>x=r)) (hv:a0C C σ H args.toList ags) (k:K r):j7 P N C ⟨d,.call ⟨.value (.func f),args,tys⟩,ty,ps,af,g⟩ σ H K :=
 .call hG h hv fun x e=>e▸k
omit hG in
theorem OpS.b0b {ρ : Env} {I : Im} {L : Lh} {F : Operand} {vs : List Value} {post : Value → Im → Lh → Prop} {K : Value → Im → Lh → Prop} (i : Nat) {c : List (Nat × Obj)} (hc : L[i]? = some c) (hF : ev ρ F = some (.func (.func f) #[] #[])) (hv : evL ρ args.toList = some vs)
    (h:b3U P f vs.toArray I [c] post) (k:∀ v J c' (w:World),Le I J→post v J [c']→(∀ p∈c',w.heap.size≤p.1∨p.1∈c.map Prod.fst)→C.w0.heap.size≤w.heap.size→K v J (L.set i c')) (hshape:∀ v J L',post v J L'→∃ c',L' = [c']) :
    OpS P C N ⟨d,.call ⟨.value F,args,tys⟩,ty,ps,af,g⟩ ρ I L K:=fun a w ha hs=>by
  have hm:=hs.mem
  have hsplit:=fun c'=>Y7 L i c hc c'
  have hmc:Mem I [c] w:=⟨hm.im,fun p hp=>hm.loc p (E7 hc (by simpa using hp)),fun p hp=>hm.sep p (E7 hc (by simpa using hp)),by simpa using a1f hm.nodup hc⟩
  rw [a0S h.ok rfl (ha.ev hF) (ha.evL hv)]
  refine(h.run w hmc).mono ?_
  rintro e w' ⟨v,J,L',rfl,hch,hle,hn,hm',hown,hp⟩
  obtain⟨c',rfl⟩:=hshape v J L' hp
  have hlt:∀ p∈L.flatten,p.1 < w.heap.size:=fun p hp=>A8 (hm.loc p hp)
  have hnd:=hm.nodup
  rw [(hsplit c').1] at hnd
  -- the blocks of the other chunks
  have hoth:∀ p,p∈(L.take i).flatten∨p∈(L.drop (i+1)).flatten→p∈L.flatten∧p.1∉c.map Prod.fst:=by
    intro p hp
    rw [(hsplit c').1]
    simp only [List.map_append,List.nodup_append] at hnd
    rcases hp with hp|hp
    · exact⟨by simp [hp],fun hx=>hnd.2.2 p.1 (List.mem_map_of_mem hp) p.1 (by simp only [List.mem_append];exact .inl hx) rfl⟩
    · exact⟨by simp [hp],fun hx=>hnd.2.1.2.2 p.1 hx p.1 (List.mem_map_of_mem hp) rfl⟩
  have hcas:∀ p∈(L.set i c').flatten,p∈c'∨(p∈(L.take i).flatten∨p∈(L.drop (i+1)).flatten):=by
    intro p hp
    rw [(hsplit c').2] at hp
    simp only [List.mem_append] at hp
    rcases hp with hp|hp|hp
    · exact .inr (.inl hp)
    · exact .inl hp
    · exact .inr (.inr hp)
  have hcM:∀ k∈([c]:Lh).flatten.map Prod.fst,k < C.w0.heap.size→k∈C.M:=by
    intro k hk hlt0
    simp only [List.flatten_cons,List.flatten_nil,List.append_nil,List.mem_map] at hk
    obtain⟨p,hp,rfl⟩:=hk
    rcases hs.own p (E7 hc hp) with h1|h1
    · omega
    · exact h1
  have hchg:Chg C.M C.w0 w':=by
    refine⟨hch.os.trans hs.S4.os,hch.tape.trans hs.S4.tape,hch.output.trans hs.S4.output,Nat.le_trans hs.S4.size hch.size,fun k hk hkm => ?_⟩
    rw [hch.block k (Nat.lt_of_lt_of_le hk hs.S4.size) (fun hx=>hkm (hcM k hx hk))]
    exact hs.S4.block k hk hkm
  refine⟨v,rfl,J,L.set i c',⟨⟨hm'.im,fun p hp => ?_,fun p hp => ?_,?_⟩,hchg,fun p hp => ?_,hs.U0.trans hle,fun b h0 h1 => ?_⟩,k v J c' w hle hp (fun p hp=>by simpa using hown p (by simpa using hp)) hs.S4.size⟩
  · rcases hcas p hp with h1|h1
    · exact hm'.loc p (by simpa using h1)
    · obtain⟨h2,h3⟩:=hoth p h1
      exact(hch.block p.1 (hlt p h2) (by simpa using h3)).trans (hm.loc p h2)
  · rcases hcas p hp with h1|h1
    · exact hm'.sep p (by simpa using h1)
    · obtain⟨h2,h3⟩:=hoth p h1
      cases hj:J p.1 with
      | none=>rfl
      | some o=>exact absurd (hn p.1 (hm.sep p h2) (by simp [hj])) (by have:=hlt p h2;omega)
  · rw [(hsplit c').2]
    have hc'nd:=hm'.nodup
    have hblk:∀ p∈c',w.heap.size≤p.1∨p.1∈c.map Prod.fst:=fun p hp=>by
      have:=hown p (by simpa using hp)
      simpa using this
    simp only [List.map_append,List.nodup_append] at hnd ⊢
    refine⟨hnd.1,⟨by simpa using hc'nd,hnd.2.1.2.1,?_⟩,?_⟩
    · rintro x hx y hy rfl
      obtain⟨p,hp,rfl⟩:=List.mem_map.1 hx
      obtain⟨q,hq,hqe⟩:=List.mem_map.1 hy
      obtain⟨h2,h3⟩:=hoth q (.inr hq)
      rcases hblk p hp with h4|h4
      · have:=hlt q h2;omega
      · exact h3 (hqe▸h4)
    · rintro x hx y hy rfl
      obtain⟨q,hq,rfl⟩:=List.mem_map.1 hx
      obtain⟨h2,h3⟩:=hoth q (.inl hq)
      simp only [List.mem_append] at hy
      rcases hy with hy|hy
      · obtain⟨p,hp,hpe⟩:=List.mem_map.1 hy
        rcases hblk p hp with h4|h4
        · have:=hlt q h2;omega
        · exact h3 (hpe▸h4)
      · exact hnd.2.2 q.1 hx q.1 (by simp only [List.mem_append];exact .inr hy) rfl
  · rcases hcas p hp with h1|h1
    · rcases hown p (by simpa using h1) with h2|h2
      · exact .inl (Nat.le_trans hs.S4.size h2)
      · obtain⟨q,hq,hqe⟩:=List.mem_map.1 h2
        rw [←hqe]
        exact hs.own q (E7 hc (by simpa using hq))
    · exact hs.own p (hoth p h1).1
  · cases hi:I b with
    | none=>exact Nat.le_trans hs.S4.size (hn b hi h1)
    | some o=>exact hs.new b h0 (by simp [hi])
theorem A9.H9 {post : AV → List C5 → Prop} {K : AV → j6 → Prop} {b : Bool} {B : C5} {F : Bool × C5 → j6} (h : E1 G P f ags [B] post) (hH : C1 H (b, B) F) (hv : a0C C σ H args.toList ags)
    (hshape:∀ r Hs,post r Hs→∃ B',Hs = [B']) (k:∀ r B',post r [B']→K r (F (b,B'))):A9 P C N ⟨d,.call ⟨.value (.func f),args,tys⟩,ty,ps,af,g⟩ σ H K:=fun ρ I L hs=>by
  obtain⟨vs,h1,h2⟩:=hv.get hs
  obtain⟨i,X,h3,h4,h5⟩:=hH.get hs.heap
  refine OpS.b0b (post:=fun v J L'=>∃ r Hs',D2 J r v∧a2P J Hs' L'∧post r Hs') i h3 rfl h1 (h I [X] vs (G.mono hs.U0 hG) h2 ⟨X,[],rfl,h4.1,rfl⟩) ?_ ?_
  · intro v J c' w hle ⟨r,Hs',q1,q2,q3⟩ q4 hsz
    obtain⟨B',rfl⟩:=hshape r Hs' q3
    obtain⟨X',R,e,q5,q6⟩:=q2
    simp [a2P] at q6
    subst q6
    cases e
    refine⟨hle,r,_,q1,h5 J (b,B') c' hle ⟨q5,fun hb p hp => ?_⟩,k r B' q3⟩
    rcases q4 p hp with h6|h6
    · exact Nat.le_trans hsz h6
    · obtain⟨q,hq,hqe⟩:=List.mem_map.1 h6
      rw [←hqe];exact h4.2 hb q hq
  · intro v J L' ⟨r,Hs',q1,q2,q3⟩
    obtain⟨B',rfl⟩:=hshape r Hs' q3
    obtain⟨X',R,e,q5,q6⟩:=q2
    exact⟨X',by rw [e,q6]⟩
theorem A9.b4g {post : AV → List C5 → Prop} {K : AV → j6 → Prop} (h : E1 G P f ags [] post) (hv : a0C C σ H args.toList ags) (k : ∀ r Hs, post r Hs → K r (Hs.map (fun B => (true, B)) ++ H)) :
    A9 P C N ⟨d,.call ⟨.value (.func f),args,tys⟩,ty,ps,af,g⟩ σ H K:=fun ρ I L hs=>by
  obtain⟨vs,h1,h2⟩:=hv.get hs
  have hM:=h I [] vs (G.mono hs.U0 hG) h2 rfl
  intro a w ha hst
  have hm:=hst.mem
  rw [a0S hM.ok rfl (ha.ev (x := .func f) rfl) (ha.evL h1)]
  refine(hM.run w hm.drop).mono ?_
  rintro e w' ⟨v,J,L',rfl,hc,hle,hn,hm',hown,r,Hs',q1,q2,q3⟩
  have hlt:∀ p∈L.flatten,p.1 < w.heap.size:=fun p hp=>A8 (hm.loc p hp)
  have hnew:∀ p∈L'.flatten,w.heap.size≤p.1:=fun p hp=>by simpa using hown p hp
  have hmem:Mem J (L'++L) w':=by
    refine⟨hm'.im,fun p hp => ?_,fun p hp => ?_,?_⟩
    · simp only [List.flatten_append,List.mem_append] at hp
      rcases hp with hp|hp
      · exact hm'.loc p hp
      · exact(hc.block p.1 (hlt p hp) (by simp)).trans (hm.loc p hp)
    · simp only [List.flatten_append,List.mem_append] at hp
      rcases hp with hp|hp
      · exact hm'.sep p hp
      · cases hj:J p.1 with
        | none=>rfl
        | some o=>exact absurd (hn p.1 (hm.sep p hp) (by simp [hj])) (by have:=hlt p hp;omega)
    · simp only [List.flatten_append,List.map_append]
      refine List.nodup_append.2 ⟨hm'.nodup,hm.nodup,?_⟩
      rintro x hx y hy rfl
      obtain⟨p,hp,rfl⟩:=List.mem_map.1 hx
      obtain⟨q,hq,hqe⟩:=List.mem_map.1 hy
      have:=hnew p hp
      have:=hlt q hq
      omega
  refine⟨v,a8,J,L'++L,hst.step (by simpa using hc) hle hn hmem hnew,hle,r,_,q1,?_,k r Hs' q3⟩
  exact(q2.toT (fun p hp=>Nat.le_trans hst.S4.size (hnew p hp))).append (hs.heap.mono hle)
end calls
end Go.Ab
namespace Go.Ab
open Go.Fl Go.RowKit
open p6 (rep)
def o0 (acc:List (Nat×AV)) (j:Nat):Option AV :=
 match acc with
 | []=>none
 | (i,S)::r=>bif Nat.beq i j then some S else o0 r j
def A5 (σ0:u5) (acc:List (Nat×AV)) (s:List (Nat×Nat)):List Nat→u5
 | [] => []
 | t::ts =>
  match (match E9 s t with|none=>C9 σ0 t|some j=>o0 acc j) with
  | some a=>(t,a)::A5 σ0 acc s ts
  | none=>A5 σ0 acc s ts
def a1P (P:Program) (N:Nat) (C:Ctx) (σ0:u5) (H:j6) (acc:List (Nat×AV)) (o:Oper) (s:List (Nat×Nat)) (r:AV):Prop :=
 match o.guard with
 | none=>j7 P N C o (A5 σ0 acc s (y5 o)) H (fun r'=>r'=r)
 | some (g,want)=>∃ b c,o0 acc g=some (.v b)∧r = .opt (b == want) c∧(b=want→j7 P N C o (A5 σ0 acc s (y5 o)) H (fun r'=>r'=c))
def a7G (P:Program) (N:Nat) (C:Ctx) (σ0:u5) (H:j6) (F:List (Nat×AV)→Prop):List Oper→List (List (Nat×Nat))→Nat→List (Nat×AV)→Prop
 | [],_,_,acc=>F acc
 | o::os,s::ss,k,acc=>∃ r,a1P P N C σ0 H acc o s r∧a7G P N C σ0 H F os ss (k+1) ((k,r)::acc)
 | _,[],_,_=>False
def U1 (acc:List (Nat×AV)):List Oper→Nat→u5→u5
 | o::os,k,σ =>
  match o.dst,o0 acc k with
  | some d,some r=>U1 acc os (k+1) ((d,r)::σ)
  | _,_=>U1 acc os (k+1) σ
 | [],_,σ=>σ
def Z3 (r:AV):Fl.Spec := .val (fun v J=>D2 J r v) (fun v I J h hle=>h.mono hle)
def a1h (acc:List (Nat×AV)):List (Nat×Fl.Spec):=acc.map fun p=>(p.1,Z3 p.2)
theorem R5:∀ (acc:List (Nat×AV)) (j:Nat),O6 (a1h acc) j=(o0 acc j).map Z3
 | [],j=>rfl
 | (i,r)::acc,j=>by
  simp only [a1h,List.map_cons,O6,o0]
  cases Nat.beq i j with
  | true=>rfl
  | false=>simpa [a1h] using R5 acc j
theorem a3L {C : Ctx} {σ0 : u5} {H : j6} {acc : List (Nat × AV)} {s : List (Nat × Nat)} {ρ0 ρ : Env} {I J : Im} {L : Lh} (hs : S5 C I L σ0 H ρ0) (hle : Le I J) (G : Prop) : ∀ (ts : List Nat),
    ((∀ t a,C9 (A5 σ0 acc s ts) t=some a→∃ u,Fl.look ρ t=some u∧D2 J a u)→G)→R0 (O6 (a1h acc)) s ρ0 ρ J ts G
  | [],h=>h (fun t a ht=>by simp [A5,C9] at ht)
  | t::ts,h=>by
    simp only [R0]
    cases hsrc:E9 s t with
    | none =>
      intro hlk
      refine a3L hs hle G ts fun h2=>h fun t' a ht => ?_
      simp only [A5,hsrc] at ht
      cases h0:C9 σ0 t with
      | none=>simp only [h0] at ht;exact h2 t' a ht
      | some b =>
        simp only [h0] at ht
        rw [F7] at ht
        by_cases e:t=t'
        · subst e;simp at ht;subst ht
          obtain⟨u,h3,h4⟩:=hs.env t _ h0
          exact⟨u,hlk.trans h3,h4.mono hle⟩
        · rw [if_neg e] at ht;exact h2 t' a ht
    | some j =>
      simp only [R5]
      cases hj:o0 acc j with
      | none=>simp
      | some r =>
        simp only [Option.map_some,Z3]
        intro v hv hr
        refine a3L hs hle G ts fun h2=>h fun t' a ht => ?_
        simp only [A5,hsrc,hj] at ht
        rw [F7] at ht
        by_cases e:t=t'
        · subst e;simp at ht;subst ht;exact⟨v,hv,hr⟩
        · rw [if_neg e] at ht;exact h2 t' a ht
theorem b1w {P : Program} {N : Nat} {C : Ctx} {ops : Array Oper} {σ0 : u5} {H : j6} {acc : List (Nat × AV)} {ρ0 : Env} {I : Im} {L : Lh} {o : Oper} {s : List (Nat × Nat)} {r : AV} (hs : S5 C I L σ0 H ρ0)
    (h:a1P P N C σ0 H acc o s r):a5w P N ops (O6 (a1h acc)) ρ0 I L o s (Z3 r):=by
  intro J hle ρ
  refine a3L hs hle _ _ fun henv => ?_
  have hR:S5 C J L (A5 σ0 acc s (y5 o)) H ρ:=⟨henv,hs.heap.mono hle,hs.U0.trans hle⟩
  unfold a1P at h
  cases hg:o.guard with
  | none =>
    simp only [hg] at h
    exact OpX.U7 (h ρ J L hR) fun v J' X _ ⟨h1,r',h2,h3⟩=>⟨h1,h3▸h2⟩
  | some p =>
    obtain⟨g,want⟩:=p
    simp only [hg] at h
    obtain⟨b,c,h1,rfl,h2⟩:=h
    intro v hv
    rw [R5,h1] at hv
    simp only [Option.map_some,Z3,Fl.Spec.holds] at hv
    obtain⟨cs,rfl,rfl⟩:=hv
    refine⟨fun e => ?_,fun hne=>⟨?_,fun o e=>by cases e⟩⟩
    · have e':b=want:=by simpa [asV,p6.agg] using e
      exact OpX.U7 (h2 e' ρ J L hR) fun v J' X _ ⟨h3,r',h4,h5⟩=>⟨h3,fun _=>h5▸h4⟩
    · have hb:b≠want:=hne b rfl
      exact fun hc=>absurd (by simpa using hc) hb
theorem a5J {C : Ctx} {H : j6} {acc : List (Nat × AV)} {J : Im} {G : Env → Lh → Prop} : ∀ (os : List Oper) (k : Nat) (σ : u5) (ρ : Env) (L : Lh), S5 C J L σ H ρ →
    (∀ i o,os[i]?=some o→∃ d r,o.dst=some d∧o0 acc (k+i)=some r)→(∀ ρ',S5 C J L (U1 acc os k σ) H ρ'→G ρ' L)→a3A J (O6 (a1h acc)) G os k ρ L
  | [],k,σ,ρ,L,hs,_,h=>h ρ hs
  | o::os,k,σ,ρ,L,hs,hd,h=>by
    obtain⟨d,r,h1,h2⟩:=hd 0 o rfl
    simp only [a3A,h1,R5]
    simp only [Nat.add_zero] at h2
    rw [h2]
    simp only [Option.map_some,Z3]
    intro v hv
    refine a5J os (k+1) ((d,r)::σ) _ L (hs.put (Le.refl J) hv hs.heap) (fun i o' ho => ?_) (fun ρ' h'=>h ρ' ?_)
    · obtain⟨d',r',h3,h4⟩:=hd (i+1) o' (by simpa using ho)
      exact⟨d',r',h3,by rw [show k+1+i=k+(i+1) by omega];exact h4⟩
    · simpa only [U1,h1,h2] using h'
theorem a6v {P : Program} {N : Nat} {C : Ctx} {ops : Array Oper} {σ0 : u5} {H : j6} {ρ0 : Env} {I : Im} {L : Lh} {F : List (Nat × AV) → Prop} {F' : List (Nat × Fl.Spec) → Prop} (hs : S5 C I L σ0 H ρ0) :
    ∀ (os:List Oper) (ss:List (List (Nat×Nat))) (k:Nat) (acc:List (Nat×AV)),(∀ i,i < k→(o0 acc i).isSome)→a7G P N C σ0 H F os ss k acc →
      (∀ acc',(∀ i,i < k+os.length→(o0 acc' i).isSome)→F acc'→F' (a1h acc'))→chain P N ops ρ0 I L F' os ss k (a1h acc)
  | [],ss,k,acc,hk,h,hF=>by
    have hc:F acc:=by cases ss<;>exact h
    cases ss<;>exact hF acc (by simpa using hk) hc
  | o::os,[],k,acc,_,h,_=>h.elim
  | o::os,s::ss,k,acc,hk,h,hF=>by
    obtain⟨r,h1,h2⟩:=h
    refine⟨Z3 r,b1w hs h1,a6v hs os ss (k+1) ((k,r)::acc) (fun i hi => ?_) h2 (fun acc' h3=>hF acc' (fun i hi=>h3 i (by simp only [List.length_cons] at hi;omega)))⟩
    simp only [o0]
    by_cases e:k=i
    · subst e;simp
    · rw [a1W e];exact hk i (by omega)
theorem a4Y {ops:Array Oper} {n:Nat} {ss:List (List (Nat×Nat))} (h:a4Q ops n ss=true) {i:Nat} (hi:i < n):∃ o d,ops[i]?=some o∧o.dst=some d:=by
 simp only [a4Q,Bool.and_eq_true] at h
 have h1:=h.1.1.1.2
 have h2:=List.all_eq_true.1 h1 i (List.mem_range.2 hi)
 unfold a7p at h2
 split at h2
 ·rename_i o s ho hss
  simp only [Bool.and_eq_true] at h2
  obtain⟨d,hd⟩:=Option.isSome_iff_exists.1 h2.1.1
  exact⟨o,d,ho,hd⟩
 ·cases h2
section
variable {P:Program} {C:Ctx} {N:Nat} {Q:Exit→u5→j6→Prop} {σ:u5} {H:j6}
theorem H6.draw {id : Nat} {l : List Oper} (hm : P.follows .mixedOrders = true) (n : Nat) (ss : List (List (Nat × Nat)))
    (hN:H7 N l=true) (hB:a4Q l.toArray n ss=true) (hss:Nat.ble n ss.length=true)
    (hch:a7G P N C σ H (fun acc=>C4 P C N l.toArray Q (l.drop n) (U1 acc (l.take n) 0 σ) H) (l.take n) ss 0 []) :
    H6 P C N (.region id l.toArray true) Q σ H:=fun ρ I L hs=>by
  refine .draw hm n ss hN hB hss ?_
  refine a6v (acc := []) (F:=_) hs _ _ 0 (fun i hi=>by omega) hch fun acc hacc hF J hle => ?_
  refine a5J (l.take n) 0 σ ρ L (hs.mono hle) (fun i o ho => ?_) (fun ρ' h'=>hF ρ' J L h')
  have hi:i < n:=by
    have:=(List.getElem?_eq_some_iff.1 ho).1
    simp at this;omega
  obtain⟨o',d,h1,h2⟩:=a4Y hB hi
  have:o'=o:=by
    rw [List.getElem?_take,if_pos hi] at ho
    have h1':l[i]?=some o':=by simpa using h1
    rw [h1'] at ho;exact Option.some.inj ho
  subst this
  have hlen:i < (l.take n).length:=(List.getElem?_eq_some_iff.1 ho).1
  obtain⟨r,hr⟩:=Option.isSome_iff_exists.1 (hacc i (by omega))
  exact⟨d,r,h2,by simpa using hr⟩
end
class J3 (α:Type) [p6 α] [Inhabited α] where
 zs:List Value
 zero:∀ I,rep I (default:α) zs
instance:J3 Int:=⟨[i64 0],fun _=>⟨rfl,by decide,by decide⟩⟩
instance:J3 UInt8:=⟨[Fl.u8 0],fun _=>rfl⟩
instance:J3 UInt64:=⟨[Fl.u64 0],fun _=>rfl⟩
instance:J3 Bool:=⟨[.bool false],fun _=>rfl⟩
instance:J3 u0:=⟨[.string ⟨#[]⟩],fun _=>⟨⟨_,rfl,rfl⟩,by decide⟩⟩
instance:J3 Unit:=⟨[],fun _=>rfl⟩
instance {α:Type} [p6 α]:J3 (List α):=⟨[.slice none 0 0],fun I=>⟨_,rfl,[],Sl.nil I _,rfl⟩⟩
theorem a1i {α:Type} [p6 α] {I:Im} {x:α} {c:List Value} (h:rep I x c):∀ n,J6 I (List.replicate n x) (List.replicate n c).flatten
 | 0=>rfl
 | n+1=>by simp only [List.replicate_succ,List.flatten_cons];exact⟨c,_,rfl,h,a1i h n⟩
instance {n:Nat} {α:Type} [p6 α] [Inhabited α] [J3 α]:J3 (Arr n α):=⟨(List.replicate n (J3.zs α)).flatten,fun I=>a1i (J3.zero I) n⟩
instance {α β:Type} [p6 α] [p6 β] [Inhabited α] [Inhabited β] [J3 α] [J3 β]:J3 (α×β):=⟨J3.zs α++J3.zs β,fun I=>⟨_,_,rfl,J3.zero I,J3.zero I⟩⟩
@[reducible] def J3.via {S T:Type} [p6 T] [Inhabited S] [Inhabited T] [J3 T] (f:S→T) (h:f default=default) : @J3 S (p6.via f) _ :=
 letI:p6 S:=p6.via f
 ⟨J3.zs T,fun I=>by show rep I (f default) _;rw [h];exact J3.zero I⟩
structure G3 (P:Program) (T:TypeId) (α:Type) [p6 α] [Inhabited α]:Prop where
 size:I4 P T (p6.size α)
 kind:∃ dd,P.underlying T=some dd∧a0z dd=p6.agg α
 zero:∃ zs,a0j P T=some zs∧∀ I,rep I (default:α) zs
 pos:p6.size α≠0
theorem G3.of {P:Program} {T:TypeId} {α:Type} [p6 α] [Inhabited α] [J3 α] (h1:(P.info? T).map (·.size)=some (p6.size α)) (h2:(P.underlying T).map a0z=some (p6.agg α)) (h3:a0j P T=some (J3.zs α)) (h4:p6.size α≠0):G3 P T α :=
 ⟨.of h1,by
  cases h:P.underlying T with
  | none=>simp [h] at h2
  | some dd=>exact⟨dd,rfl,by simpa [h] using h2⟩,⟨_,h3,J3.zero⟩,h4⟩
def a1Q (P:Program) (rv:ResultVar) (C:Ctx) (σ:u5) (H:j6) (a:AV):Prop:=∀ ρ I L,S5 C I L σ H ρ→∃ v,a2M P rv ρ I L v∧D2 I a v
section
variable {P:Program} {C:Ctx} {σ:u5} {H:j6}
theorem a1Q.tmp {t:Nat} {a:AV} (h:C9 σ t=some a):a1Q P (.tmp t) C σ H a:=fun ρ I L hs=>by
 obtain⟨u,h1,h2⟩:=hs.env t a h
 exact⟨u,.tmp h1,h2⟩
theorem a5K {α:Type} [p6 α] {I:Im} {x:α} {cs:List Value} (h:rep I x cs) (hg:p6.agg α=false):∃ v,cs = [v]∧asV (p6.agg α) cs=v:=by
 have h1:=p6.len h
 rw [p6.one hg] at h1
 obtain⟨v,rfl⟩:=List.length_eq_one_iff.1 h1
 exact⟨v,rfl,by rw [hg];rfl⟩
theorem a1Q.cell {t b : Nat} {T : TypeId} {α : Type} {r : p6 α} {i : Inhabited α} {x : α} {g : Bool} {F : Bool × C5 → j6} (ty : G3 P T α) (h : C9 σ t = some (.ln (ptr b 0) (p5.id (α := α)))) (hH : C1 H (g, .ob (ptr b 0) x) F) :
    a1Q P (.cell t T) C σ H (.v x):=fun ρ I L hs=>by
  obtain⟨u,h1,b',hb,rfl⟩:=hs.env t _ h
  cases hb
  obtain⟨i,X,h2,h3,_⟩:=hH.get hs.heap
  obtain⟨b2,T2,cs,hb2,rfl,h5⟩:=h3.1
  cases hb2
  obtain⟨dd,hd1,hd2⟩:=ty.kind
  refine⟨asV (p6.agg α) cs,?_,cs,h5,a8⟩
  cases hag:p6.agg α with
  | true=>exact .b4a i hd1 (hd2.trans hag) (by rw [p6.len h5];exact ty.size) (by simpa [p5.id] using h1) h2
  | false =>
    obtain⟨v,rfl,hv⟩:=a5K h5 hag
    exact .b4b i hd1 (hd2.trans hag) (by simpa [p5.id] using h1) h2
variable {fn:Func} {q q2 q3:ResultVar} {a b c:AV}
theorem a7F.r1 (h:fn.results = #[q]) (h1:a1Q P q C σ H a):a7F P fn C σ H a:=fun ρ I L hs=>by
 obtain⟨v,k1,k2⟩:=h1 ρ I L hs
 exact⟨v,.r1 h k1,k2⟩
theorem a7F.r2 (h:fn.results = #[q,q2]) (h1:a1Q P q C σ H a) (h2:a1Q P q2 C σ H b):a7F P fn C σ H (.t2 a b):=fun ρ I L hs=>by
 obtain⟨v,k1,k2⟩:=h1 ρ I L hs
 obtain⟨v2,l1,l2⟩:=h2 ρ I L hs
 exact⟨_,.r2 h k1 l1,v,v2,a8,k2,l2⟩
theorem a7F.r3 (h:fn.results = #[q,q2,q3]) (h1:a1Q P q C σ H a) (h2:a1Q P q2 C σ H b) (h3:a1Q P q3 C σ H c):a7F P fn C σ H (.t3 a b c):=fun ρ I L hs=>by
 obtain⟨v,k1,k2⟩:=h1 ρ I L hs
 obtain⟨v2,l1,l2⟩:=h2 ρ I L hs
 obtain⟨v3,m1,m2⟩:=h3 ρ I L hs
 exact⟨_,.r3 h k1 l1 m1,v,v2,v3,a8,k2,l2,m2⟩
end
end Go.Ab
namespace Go.Ab
open Go.Fl Go.RowKit
open p6 (rep)
variable {P:Program} {C:Ctx} {N:Nat} {σ:u5} {H:j6} {K:AV→Prop} {d:Option Nat} {ty:TypeId} {ps:String} {af:Array Edge} {g:Option (Nat×Bool)}
variable {x y z:Operand} {T T2 E S D:TypeId}
theorem j7.vk {o:Oper} {r:AV} (k:K r) (h:∀ ρ I L,S5 C I L σ H ρ→J0 P N o ρ I L (fun v=>D2 I r v)):j7 P N C o σ H K := .ofV r h k
theorem j7.move {a:AV} (hx:A7 C σ H x a) (k:K a):j7 P N C ⟨d,.move x,ty,ps,af,g⟩ σ H K :=
 .ofV a (fun ρ I L hs=>by obtain⟨u,h1,h2⟩:=hx ρ I L hs;exact .move h1 h2) k
theorem j7.assign {a:AV} (hx:A7 C σ H x a) (k:K a):j7 P N C ⟨d,.assign x,ty,ps,af,g⟩ σ H K :=
 .ofV a (fun ρ I L hs=>by obtain⟨u,h1,h2⟩:=hx ρ I L hs;exact .assign h1 h2) k
theorem j7.K6 {b v:Bool} (hc:A7 C σ H x (.v b)) (hy:b=true→A7 C σ H y (.v v)) (k:K (.v (b&&v))):j7 P N C ⟨d,.pick x y (.const (.bool false)),ty,ps,af,g⟩ σ H K :=
 .ofV (.v (b&&v)) (fun ρ I L hs=>by
  cases b with
  | true=>obtain⟨w,h1,h2⟩:=hy rfl ρ I L hs;exact .b2k (hc.bool hs) h1 (by simpa using h2)
  | false=>exact .b2l (v := .bool false) (hc.bool hs) rfl ⟨_,rfl,rfl⟩) k
theorem j7.a2Q {b v:Bool} (hc:A7 C σ H x (.v b)) (hz:b=false→A7 C σ H z (.v v)) (k:K (.v (b||v))):j7 P N C ⟨d,.pick x (.const (.bool true)) z,ty,ps,af,g⟩ σ H K :=
 .ofV (.v (b||v)) (fun ρ I L hs=>by
  cases b with
  | true=>exact .b2k (v := .bool true) (hc.bool hs) rfl ⟨_,rfl,rfl⟩
  | false=>obtain⟨w,h1,h2⟩:=hz rfl ρ I L hs;exact .b2l (hc.bool hs) h1 (by simpa using h2)) k
theorem j7.a7H {a b:AV} (hx:A7 C σ H x (.t2 a b)) (k:K a):j7 P N C ⟨d,.extract x 0,ty,ps,af,g⟩ σ H K :=
 .ofV a (fun ρ I L hs=>by obtain⟨u,h1,v,w,rfl,h3,h4⟩:=hx ρ I L hs;exact .extract h1 rfl h3) k
theorem j7.a7I {a b:AV} (hx:A7 C σ H x (.t2 a b)) (k:K b):j7 P N C ⟨d,.extract x 1,ty,ps,af,g⟩ σ H K :=
 .ofV b (fun ρ I L hs=>by obtain⟨u,h1,v,w,rfl,h3,h4⟩:=hx ρ I L hs;exact .extract h1 rfl h4) k
theorem j7.b2M {a b c:AV} (hx:A7 C σ H x (.t3 a b c)) (k:K a):j7 P N C ⟨d,.extract x 0,ty,ps,af,g⟩ σ H K :=
 .ofV a (fun ρ I L hs=>by obtain⟨u,h1,v,w,t,rfl,h3,h4,h5⟩:=hx ρ I L hs;exact .extract h1 rfl h3) k
theorem j7.b2N {a b c:AV} (hx:A7 C σ H x (.t3 a b c)) (k:K b):j7 P N C ⟨d,.extract x 1,ty,ps,af,g⟩ σ H K :=
 .ofV b (fun ρ I L hs=>by obtain⟨u,h1,v,w,t,rfl,h3,h4,h5⟩:=hx ρ I L hs;exact .extract h1 rfl h4) k
theorem j7.b2O {a b c:AV} (hx:A7 C σ H x (.t3 a b c)) (k:K c):j7 P N C ⟨d,.extract x 2,ty,ps,af,g⟩ σ H K :=
 .ofV c (fun ρ I L hs=>by obtain⟨u,h1,v,w,t,rfl,h3,h4,h5⟩:=hx ρ I L hs;exact .extract h1 rfl h5) k
section int
variable {m n:Int} (hx:A7 C σ H x (.v m)) (hy:A7 C σ H y (.v n))
include hx hy
theorem j7.add (h1 : -9223372036854775808≤m+n) (h2:m+n≤9223372036854775807) (k:K (.v (m+n))):j7 P N C ⟨d,.binOp .add T x y T2,ty,ps,af,g⟩ σ H K :=
 .vk k (fun ρ I L hs => .add (hx.int hs).1 (hy.int hs).1 h1 h2 ⟨_,⟨rfl,h1,h2⟩,rfl⟩)
theorem j7.sub (h1 : -9223372036854775808≤m - n) (h2:m - n≤9223372036854775807) (k:K (.v (m - n))):j7 P N C ⟨d,.binOp .sub T x y T2,ty,ps,af,g⟩ σ H K :=
 .vk k (fun ρ I L hs => .sub (hx.int hs).1 (hy.int hs).1 h1 h2 ⟨_,⟨rfl,h1,h2⟩,rfl⟩)
theorem j7.mul (h1 : -9223372036854775808≤m*n) (h2:m*n≤9223372036854775807) (k:K (.v (m*n))):j7 P N C ⟨d,.binOp .mul T x y T2,ty,ps,af,g⟩ σ H K :=
 .vk k (fun ρ I L hs => .mul (hx.int hs).1 (hy.int hs).1 h1 h2 ⟨_,⟨rfl,h1,h2⟩,rfl⟩)
theorem j7.quo (h0:0≤m) (h2:0 < n) (k:K (.v (m/n))):j7 P N C ⟨d,.binOp .quo T x y T2,ty,ps,af,g⟩ σ H K :=
 .vk k (fun ρ I L hs => .quo (hx.int hs).1 (hy.int hs).1 h0 (hx.int hs).2.2 h2 ⟨_,⟨rfl,by have:=Int.ediv_nonneg h0 (Int.le_of_lt h2);omega,by have:=Int.ediv_le_self n h0;have:=(hx.int hs).2.2;omega⟩,rfl⟩)
theorem j7.rem (h0:0≤m) (h2:0 < n) (k:K (.v (m % n))):j7 P N C ⟨d,.binOp .rem T x y T2,ty,ps,af,g⟩ σ H K :=
 .vk k (fun ρ I L hs => .rem (hx.int hs).1 (hy.int hs).1 h0 h2 ⟨_,⟨rfl,by have:=Int.emod_nonneg m (show n≠0 by omega);omega,by have:=Int.emod_lt_of_pos m h2;have:=(hy.int hs).2.2;omega⟩,rfl⟩)
theorem j7.tmod (hn:n≠0) (k:K (.v (m.tmod n))):j7 P N C ⟨d,.binOp .rem T x y T2,ty,ps,af,g⟩ σ H K :=
  .vk k (fun ρ I L hs => .tmod (hx.int hs).1 (hy.int hs).1 hn ⟨_, ⟨rfl, by
      have h1:=(hx.int hs).2
      have h3:(m.tmod n).natAbs≤m.natAbs:=by rw [Int.natAbs_tmod];exact Nat.mod_le _ _
      by_cases hm:0≤m
      · have:=Int.tmod_nonneg n hm;omega
      · omega,by
      have h1:=(hx.int hs).2
      have h3:(m.tmod n).natAbs≤m.natAbs:=by rw [Int.natAbs_tmod];exact Nat.mod_le _ _
      by_cases hm:0≤m
      · omega
      · have e:m.tmod n = -((-m).tmod n):=by rw [Int.neg_tmod];omega
        have:=Int.tmod_nonneg n (show 0 ≤ -m by omega)
        omega⟩,rfl⟩)
theorem j7.lss (k:K (.v (decide (m < n)))):j7 P N C ⟨d,.binOp .lss T x y T2,ty,ps,af,g⟩ σ H K :=
 .vk k (fun ρ I L hs => .lss (hx.int hs).1 (hy.int hs).1 ⟨_,rfl,rfl⟩)
theorem j7.leq (k:K (.v (decide (m≤n)))):j7 P N C ⟨d,.binOp .leq T x y T2,ty,ps,af,g⟩ σ H K :=
 .vk k (fun ρ I L hs => .leq (hx.int hs).1 (hy.int hs).1 ⟨_,rfl,rfl⟩)
theorem j7.gtr (k:K (.v (decide (n < m)))):j7 P N C ⟨d,.binOp .gtr T x y T2,ty,ps,af,g⟩ σ H K :=
 .vk k (fun ρ I L hs => .gtr (hx.int hs).1 (hy.int hs).1 ⟨_,rfl,rfl⟩)
theorem j7.geq (k:K (.v (decide (n≤m)))):j7 P N C ⟨d,.binOp .geq T x y T2,ty,ps,af,g⟩ σ H K :=
 .vk k (fun ρ I L hs => .geq (hx.int hs).1 (hy.int hs).1 ⟨_,rfl,rfl⟩)
theorem j7.a5y (k:K (.v (decide (m=n)))):j7 P N C ⟨d,.binOp .eql T x y T2,ty,ps,af,g⟩ σ H K :=
 .vk k (fun ρ I L hs => .a5y (hx.int hs).1 (hy.int hs).1 ⟨_,rfl,rfl⟩)
theorem j7.a9a (k:K (.v (decide (m≠n)))):j7 P N C ⟨d,.binOp .neq T x y T2,ty,ps,af,g⟩ σ H K :=
 .vk k (fun ρ I L hs => .a9a (hx.int hs).1 (hy.int hs).1 ⟨_,rfl,rfl⟩)
theorem j7.a4C {ts:Array TypeId} (k:K (.v (min m n))):j7 P N C ⟨d,.call ⟨.builtin .min,#[x,y],ts⟩,ty,ps,af,g⟩ σ H K :=
 .vk k (fun ρ I L hs => .a4C (hx.int hs).1 (hy.int hs).1 ⟨_,⟨rfl,by have:=(hx.int hs).2;have:=(hy.int hs).2;omega,by have:=(hx.int hs).2;omega⟩,rfl⟩)
theorem j7.b1u {ts:Array TypeId} (k:K (.v (max m n))):j7 P N C ⟨d,.call ⟨.builtin .max,#[x,y],ts⟩,ty,ps,af,g⟩ σ H K :=
 .vk k (fun ρ I L hs => .b1u (hx.int hs).1 (hy.int hs).1 ⟨_,⟨rfl,by have:=(hx.int hs).2;omega,by have:=(hx.int hs).2;have:=(hy.int hs).2;omega⟩,rfl⟩)
end int
theorem j7.neg {m:Int} (hx:A7 C σ H x (.v m)) (h1 : -9223372036854775807≤m) (k:K (.v (-m))):j7 P N C ⟨d,.unOp .neg T x,ty,ps,af,g⟩ σ H K :=
 .vk k (fun ρ I L hs => .neg (hx.int hs).1 ⟨h1,(hx.int hs).2.2⟩ ⟨_,⟨rfl,by have:=(hx.int hs).2;omega,by omega⟩,rfl⟩)
theorem j7.not {b:Bool} (hx:A7 C σ H x (.v b)) (k:K (.v (!b))):j7 P N C ⟨d,.unOp .not T x,ty,ps,af,g⟩ σ H K :=
 .vk k (fun ρ I L hs => .not (hx.bool hs) ⟨_,rfl,rfl⟩)
theorem a8z (m n:UInt8):decide ((m.toNat:Int) < n.toNat)=decide (m < n):=by simp [UInt8.lt_iff_toNat_lt]
theorem b1x (m n:UInt8):decide ((m.toNat:Int)=n.toNat)=decide (m=n):=by rw [decide_eq_decide,Int.ofNat_inj,UInt8.toNat_inj]
theorem a6w (m n:UInt64):decide ((m.toNat:Int)=n.toNat)=decide (m=n):=by rw [decide_eq_decide,Int.ofNat_inj,UInt64.toNat_inj]
theorem b0c (m n:UInt64):decide ((m.toNat:Int) < n.toNat)=decide (m < n):=by simp [UInt64.lt_iff_toNat_lt]
section by8
variable {m n:UInt8} (hx:A7 C σ H x (.v m)) (hy:A7 C σ H y (.v n))
include hx hy
theorem j7.b5q (k:K (.v (decide (m < n)))):j7 P N C ⟨d,.binOp .lss T x y T2,ty,ps,af,g⟩ σ H K :=
 .vk k (fun ρ I L hs => .lss (hx.by8 hs) (hy.by8 hs) ⟨_,rfl,by rw [a8z];rfl⟩)
theorem j7.b5r (k:K (.v (decide (n < m)))):j7 P N C ⟨d,.binOp .gtr T x y T2,ty,ps,af,g⟩ σ H K :=
 .vk k (fun ρ I L hs => .gtr (hx.by8 hs) (hy.by8 hs) ⟨_,rfl,by rw [a8z];rfl⟩)
theorem j7.b5s (k:K (.v (decide (m=n)))):j7 P N C ⟨d,.binOp .eql T x y T2,ty,ps,af,g⟩ σ H K :=
 .vk k (fun ρ I L hs => .a5y (hx.by8 hs) (hy.by8 hs) ⟨_,rfl,by rw [b1x];rfl⟩)
theorem j7.or8 (k:K (.v (m ||| n))):j7 P N C ⟨d,.binOp .or T x y T2,ty,ps,af,g⟩ σ H K :=
 .vk k (fun ρ I L hs => .or8 (hx.by8 hs) (hy.by8 hs) ⟨_,rfl,rfl⟩)
end by8
section Z2
variable {m n:UInt64} (hx:A7 C σ H x (.v m)) (hy:A7 C σ H y (.v n))
include hx hy
theorem j7.b2m (k:K (.v (decide (m=n)))):j7 P N C ⟨d,.binOp .eql T x y T2,ty,ps,af,g⟩ σ H K :=
 .vk k (fun ρ I L hs => .a5y (hx.Z2 hs) (hy.Z2 hs) ⟨_,rfl,by rw [a6w];rfl⟩)
theorem j7.a8A (k:K (.v (decide (m≠n)))):j7 P N C ⟨d,.binOp .neq T x y T2,ty,ps,af,g⟩ σ H K :=
 .vk k (fun ρ I L hs => .a9a (hx.Z2 hs) (hy.Z2 hs) ⟨_,rfl,by simp only [ne_eq,decide_not,a6w];rfl⟩)
theorem j7.b2F (k:K (.v (m ||| n))):j7 P N C ⟨d,.binOp .or T x y T2,ty,ps,af,g⟩ σ H K :=
 .vk k (fun ρ I L hs => .b2F (hx.Z2 hs) (hy.Z2 hs) ⟨_,rfl,rfl⟩)
theorem j7.a9T (k:K (.v (m &&& n))):j7 P N C ⟨d,.binOp .and T x y T2,ty,ps,af,g⟩ σ H K :=
 .vk k (fun ρ I L hs => .a9T (hx.Z2 hs) (hy.Z2 hs) ⟨_,rfl,rfl⟩)
theorem j7.a9X (k:K (.v (m - n))):j7 P N C ⟨d,.binOp .sub T x y T2,ty,ps,af,g⟩ σ H K :=
 .vk k (fun ρ I L hs => .a9X (hx.Z2 hs) (hy.Z2 hs) ⟨_,rfl,rfl⟩)
end Z2
section conv
variable {ds:TypeDesc}
theorem j7.b2P {n:UInt8} (hS:P.underlying S=some ds) (hD:P.underlying D=some (.int .i64)) (hx:A7 C σ H x (.v n)) (k:K (.v (n.toNat:Int))):j7 P N C ⟨d,.convert S D x,ty,ps,af,g⟩ σ H K :=
 .vk k (fun ρ I L hs => .b3Y hS hD (hx.by8 hs) (by have:=n.toNat_lt;omega) (by have:=n.toNat_lt;omega) ⟨_,⟨rfl,by have:=n.toNat_lt;omega,by have:=n.toNat_lt;omega⟩,rfl⟩)
theorem j7.a9Y {n:Int} (hS:P.underlying S=some ds) (hD:P.underlying D=some (.int .u8)) (hx:A7 C σ H x (.v n)) (k:K (.v (UInt8.ofInt n))):j7 P N C ⟨d,.convert S D x,ty,ps,af,g⟩ σ H K :=
 .vk k (fun ρ I L hs => .a9Y hS hD (hx.int hs).1 ⟨_,rfl,rfl⟩)
theorem j7.a7t {n:Int} (hS:P.underlying S=some ds) (hD:P.underlying D=some (.int .u64)) (hx:A7 C σ H x (.v n)) (k:K (.v (UInt64.ofInt n))):j7 P N C ⟨d,.convert S D x,ty,ps,af,g⟩ σ H K :=
 .vk k (fun ρ I L hs => .a7t hS hD (hx.int hs).1 ⟨_,rfl,rfl⟩)
end conv
theorem j7.len {α:Type} {r:p6 α} {l:List α} (hT:P.underlying T=some (.slice E)) (hx:A7 C σ H x (.v l)) (k:K (.v (l.length:Int))):j7 P N C ⟨d,.call ⟨.builtin .len,#[x],#[T]⟩,ty,ps,af,g⟩ σ H K :=
 .vk k (fun ρ I L hs=>by
  obtain⟨u,h1,xs,⟨a,c,rfl,_,h3,h4,_⟩,_⟩:=hx.sl hs
  exact .len hT h1 ⟨_,⟨rfl,by omega,by unfold maxLen at h4;omega⟩,rfl⟩)
theorem j7.L9 {α : Type} {r : p6 α} {t : Nat} {w : Value} {l : List α} {b : Bool} {F : Bool × C5 → j6} (hT : P.underlying T = some (.slice E)) (hx : C9 σ t = some (.raw w)) {E' : TypeId} (hH : C1 H (b, .own E' w l) F) (k : K (.v (l.length : Int))) :
    j7 P N C ⟨d,.call ⟨.builtin .len,#[.tmp t],#[T]⟩,ty,ps,af,g⟩ σ H K :=
  .vk k (fun ρ I L hs=>by
    obtain⟨u,h1,rfl⟩:=hs.env t _ hx
    obtain⟨i,X,h2,h3,_⟩:=hH.get hs.heap
    obtain⟨xs,ho,_⟩:=h3.1
    have hle:=ho.le
    obtain⟨a,c,rfl⟩:=ho.shape
    exact .len hT h1 ⟨_,⟨rfl,by omega,by omega⟩,rfl⟩)
theorem j7.b2G {s:u0} (hT:P.underlying T=some .string) (hx:A7 C σ H x (.v s)) (k:K (.v (s.l.length:Int))):j7 P N C ⟨d,.call ⟨.builtin .len,#[x],#[T]⟩,ty,ps,af,g⟩ σ H K :=
 .vk k (fun ρ I L hs=>by
  obtain⟨b,h1,h2⟩:=hx.str hs
  have hb:=hx.a3g hs
  have e:(b.size:Int)=(s.l.length:Int):=by rw [←h2];rfl
  exact .b2G hT h1 ⟨_,⟨congrArg (fun q => [i64 q]) e,by omega,by omega⟩,rfl⟩)
theorem U8 {xs:List Value} {k s i:Nat} {v:Value} (h:(E8 xs k s)[i]?=some v):xs[k+i]?=some v:=by
 simp only [E8,List.getElem?_take,List.getElem?_drop] at h
 split at h
 ·exact h
 ·cases h
theorem j7.idx {α : Type} {r : p6 α} {i : Inhabited α} {l : List α} {n : Int} (tE : G3 P E α) (hT : P.underlying T = some (.slice E)) (hx : A7 C σ H x (.v l)) (hy : A7 C σ H y (.v n)) (h0 : 0 ≤ n) (h1 : n < l.length)
    (k:K (.p (l[n.toNat]'(by omega)))):j7 P N C ⟨d,.indexAddr T x y,ty,ps,af,g⟩ σ H K :=
  .vk k (fun ρ I L hs=>by
    obtain⟨u,hu,xs,hsl,hl⟩:=hx.sl hs
    have hk:n.toNat < l.length:=by omega
    have hg:=hl.get n.toNat hk
    obtain⟨a,c,rfl,hlen,h3,h4,h5,h6⟩:=hsl
    have hz:xs ≠ []:=by
      intro hz
      have:=hl.len
      rw [hz] at this
      simp only [List.length_nil] at this
      rcases Nat.mul_eq_zero.1 this.symm with h|h
      · omega
      · exact tE.pos h
    obtain⟨b,o,rfl,hc⟩:=h6 hz
    exact .a10 hT tE.size hu (hy.int hs).1 h0 h1 ⟨b,_,_,a8,hg,hc.sub (n.toNat*p6.size α) (fun i v hv=>U8 hv)⟩)
end Go.Ab
namespace Go.Ab
open Go.Fl Go.RowKit
open p6 (rep)
variable {P:Program} {C:Ctx} {N:Nat} {σ:u5} {H:j6} {K:AV→Prop} {KH:AV→j6→Prop} {d:Option Nat} {ty:TypeId} {ps:String} {af:Array Edge} {g:Option (Nat×Bool)}
variable {x y z:Operand} {T T2 E S D:TypeId}
theorem j7.b6v {α β : Type} {r : p6 α} {s : p6 β} {n : Nat} {ag : Bool} {w : Value} {l : p5 α (Arr n β)} {i : Int} (hf : a0i P T = some (n, p6.size β, ag)) (hx : A7 C σ H x (.ln w l)) (hy : A7 C σ H y (.v i)) (h0 : 0 ≤ i) (h1 : i < n)
    (k:K (.ln w (l.comp (p5.idx i.toNat (by omega))))):j7 P N C ⟨d,.indexAddr T x y,ty,ps,af,g⟩ σ H K :=
  .vk k (fun ρ I L hs=>by
    obtain⟨u,h2,b,h3,rfl⟩:=hx ρ I L hs
    exact .a1Z hf h2 (hy.int hs).1 h0 h1 ⟨b,h3,a8⟩)
theorem j7.a35 {β : Type} {s : p6 β} {n : Nat} {ag : Bool} {a : Arr n β} {i : Int} (hf : a0i P T = some (n, p6.size β, ag)) (hx : A7 C σ H x (.p a)) (hy : A7 C σ H y (.v i)) (h0 : 0 ≤ i) (h1 : i < n)
    (k:K (.p (a.l[i.toNat]'(by rw [a.h];omega)))):j7 P N C ⟨d,.indexAddr T x y,ty,ps,af,g⟩ σ H K :=
  .vk k (fun ρ I L hs=>by
    obtain⟨u,h2,b,o,cs,rfl,h3,h4⟩:=hx ρ I L hs
    exact .a1Z hf h2 (hy.int hs).1 h0 h1 ⟨b,_,_,a8,J6.get h3 i.toNat (by rw [a.h];omega),h4.sub (i.toNat*p6.size β) (fun j v hv=>U8 hv)⟩)
theorem j7.J4 {β : Type} {s : p6 β} {ib : Inhabited β} {t : Nat} {w : Value} {l : List β} {i : Int} {bb : Bool} {E' : TypeId} {F : Bool × C5 → j6} (tE : G3 P E β) (hT : P.underlying T = some (.slice E)) (hx : C9 σ t = some (.raw w)) (hH : C1 H (bb, .own E' w l) F)
    (hy:A7 C σ H y (.v i)) (h0:0≤i) (h1:i < l.length) (k:K (.el w i.toNat (p5.id (α:=β)))):j7 P N C ⟨d,.indexAddr T (.tmp t) y,ty,ps,af,g⟩ σ H K :=
  .vk k (fun ρ I L hs=>by
    obtain⟨u,h2,rfl⟩:=hs.env t _ hx
    obtain⟨j,X,h3,h4,_⟩:=hH.get hs.heap
    obtain⟨xs,ho,hl⟩:=h4.1
    rcases ho with ⟨_,h,_⟩|⟨b,c,sp,q,rfl,_⟩
    · omega
    · refine .a10 hT tE.size h2 (hy.int hs).1 h0 h1 ⟨b,a8,?_⟩
      simp [p5.id])
theorem j7.a5L {α β γ : Type} {r : p6 α} {s : p6 β} {q : p6 γ} {i off sz : Nat} {ag : Bool} {w : Value} {l : p5 α β} (m : p5 β γ) (hf : A6 P T i = some (off, sz + 1, ag)) (ho : off = m.off) (hx : A7 C σ H x (.ln w l)) (k : K (.ln w (l.comp m))) :
    j7 P N C ⟨d,.fieldAddr T x i,ty,ps,af,g⟩ σ H K :=
  .vk k (fun ρ I L hs=>by
    obtain⟨u,h2,b,h3,rfl⟩:=hx ρ I L hs
    subst ho
    exact .fieldAddr hf h2 ⟨b,h3,a8⟩)
theorem j7.b5t {β γ : Type} {s : p6 β} {q : p6 γ} {i off sz : Nat} {ag : Bool} {a : β} (m : p5 β γ) (hf : A6 P T i = some (off, sz + 1, ag)) (ho : off = m.off) (hx : A7 C σ H x (.p a)) (k : K (.p (m.get a))) :
    j7 P N C ⟨d,.fieldAddr T x i,ty,ps,af,g⟩ σ H K :=
  .vk k (fun ρ I L hs=>by
    obtain⟨u,h2,b,o,cs,rfl,h3,h4⟩:=hx ρ I L hs
    subst ho
    exact .fieldAddr hf h2 ⟨b,_,_,a8,m.a2l h3,h4.sub m.off (fun j v hv=>U8 hv)⟩)
theorem J0.a5M {ρ : Env} {I : Im} {L : Lh} {φ : Value → Prop} {α : Type} [p6 α] [Inhabited α] {I' : Im} {a : α} {vs : List Value} {b off : Nat} (tT : G3 P T α) (hx : ev ρ x = some (ptr b off)) (hr : rep I' a vs)
    (hc:∀ w,Mem I L w→∀ j v,vs[j]?=some v→w.cell? ⟨b,off+j,none⟩=some v) (k:φ (asV (p6.agg α) vs)):J0 P N ⟨d,.load T x,ty,ps,af,g⟩ ρ I L φ := .mk k fun ac w ha hm=>by
  obtain⟨dd,hd1,hd2⟩:=tT.kind
  cases hag:p6.agg α with
  | true =>
    have hs:I4 P T vs.length:=by rw [p6.len hr];exact tT.size
    simp [execOp,ha.ev hx,Fl.a4T hd1 (hd2.trans hag) hs (hc w hm),asV]
  | false =>
    obtain⟨v,rfl,hv⟩:=a5K hr hag
    simp [execOp,ha.ev hx,Fl.run_load hd1 (hd2.trans hag) (show w.cell? ⟨b,off,none⟩=some v by simpa using hc w hm 0 v rfl),asV]
theorem j7.F1 {α:Type} {r:p6 α} {i:Inhabited α} {a:α} (tT:G3 P T α) (hx:A7 C σ H x (.p a)) (k:K (.v a)):j7 P N C ⟨d,.load T x,ty,ps,af,g⟩ σ H K :=
 .vk k (fun ρ I L hs=>by
  obtain⟨u,h2,b,o,cs,rfl,h3,h4⟩:=hx ρ I L hs
  exact J0.a5M tT h2 h3 (fun w hm j v hv=>h4.cell hm hv) ⟨cs,h3,rfl⟩)
theorem j7.ldL {α β : Type} {r : p6 α} {s : p6 β} {i : Inhabited β} {w : Value} {l : p5 α β} {a : α} {bb : Bool} {F : Bool × C5 → j6} (tT : G3 P T β) (hx : A7 C σ H x (.ln w l)) (hH : C1 H (bb, .ob w a) F) (k : K (.v (l.get a))) :
    j7 P N C ⟨d,.load T x,ty,ps,af,g⟩ σ H K :=
  .vk k (fun ρ I L hs=>by
    obtain⟨u,h2,b,h3,rfl⟩:=hx ρ I L hs
    obtain⟨j,X,h4,h5,_⟩:=hH.get hs.heap
    obtain⟨b2,T',cs,rfl,rfl,h6⟩:=h5.1
    cases h3
    exact J0.a5M tT h2 (l.a2l h6) (fun w hm j v hv=>by rw [a11 hm h4];exact U8 hv) ⟨_,l.a2l h6,rfl⟩)
theorem j7.ldE {α β : Type} {r : p6 α} {s : p6 β} {i : Inhabited β} {w : Value} {l : p5 α β} {ags : List α} {kk : Nat} {bb : Bool} {E' : TypeId} {F : Bool × C5 → j6} (tT : G3 P T β) (hx : A7 C σ H x (.el w kk l)) (hH : C1 H (bb, .own E' w ags) F) (hk : kk < ags.length)
    (k:K (.v (l.get ags[kk]))):j7 P N C ⟨d,.load T x,ty,ps,af,g⟩ σ H K :=
  .vk k (fun ρ I L hs=>by
    obtain⟨u,h2,b,h3,rfl⟩:=hx ρ I L hs
    obtain⟨j,X,h4,h5,_⟩:=hH.get hs.heap
    obtain⟨xs,ho,h6⟩:=h5.1
    rcases ho with ⟨_,h,_⟩|⟨b2,c,sp,q,rfl,rfl,_⟩
    · omega
    · cases h3
      have hg:=l.a2l (h6.get kk hk)
      rw [a1N l.fits] at hg
      exact J0.a5M tT h2 hg (fun w hm j v hv=>by
        rw [a3f hm h4]
        have:=U8 hv
        rw [List.getElem?_append_left (List.getElem?_eq_some_iff.1 this).1];exact this) ⟨_,hg,rfl⟩)
theorem a0D {α:Type} [p6 α] {I:Im} {a:α} {vs:List Value} (h:rep I a vs):(asV (p6.agg α) vs).cells.toList=vs:=by
 cases hag:p6.agg α with
 | true=>simp [asV,Value.cells]
 | false =>
  obtain⟨v,rfl,hv⟩:=a5K h hag
  have h1:=p6.flat h
  simp only [Z1,List.all_cons,List.all_nil,Bool.and_true] at h1
  simp only [asV,List.headD_cons]
  cases v<;>first|rfl|(simp [Value.oneCell'] at h1)
theorem A9.stL {α β : Type} {r : p6 α} {s : p6 β} {i : Inhabited β} {w : Value} {l : p5 α β} {a : α} {c : β} {bb : Bool} {F : Bool × C5 → j6} (tT : G3 P T β) (hx : A7 C σ H x (.ln w l)) (hy : A7 C σ H y (.v c)) (hH : C1 H (bb, .ob w a) F)
    (k:KH .any (F (bb,.ob w (l.set c a)))):A9 P C N ⟨d,.store T x y,ty,ps,af,g⟩ σ H KH:=fun ρ I L hs=>by
  obtain⟨u,h2,b,h3,rfl⟩:=hx ρ I L hs
  obtain⟨u,h7,vs,h8,rfl⟩:=hy ρ I L hs
  obtain⟨j,X,h4,h5,h6⟩:=hH.get hs.heap
  obtain⟨b2,T',cs,rfl,rfl,h9⟩:=h5.1
  cases h3
  refine .store j (by rw [p6.len h8];exact tT.size) h2 h7 (a0D h8) (p6.flat h8) h4 (by rw [p6.len h8,p6.len h9];exact l.fits) ⟨Le.refl I,.any,_,trivial,h6 I (bb,.ob (ptr b 0) (l.set c a)) [(b,row (D5 cs l.off vs) T')] (Le.refl I) ⟨⟨b,T',_,a8,a8,l.a3C h9 h8⟩,fun hb p hp => ?_⟩,k⟩
  have:=h5.2 hb (b,row cs T') (by simp)
  simp only [List.mem_singleton] at hp
  subst hp;exact this
theorem A9.W1 {α : Type} {r : p6 α} {i : Inhabited α} {w : Value} {a c : α} {bb : Bool} {F : Bool × C5 → j6} (tT : G3 P T α) (hx : A7 C σ H x (.ln w (p5.id (α := α)))) (hy : A7 C σ H y (.v c)) (hH : C1 H (bb, .ob w a) F)
    (k:KH .any (F (bb,.ob w c))):A9 P C N ⟨d,.store T x y,ty,ps,af,g⟩ σ H KH := .stL tT hx hy hH k
theorem j7.Q4 {α : Type} {r : p6 α} {i : Inhabited α} {w : Value} {a : α} {bb : Bool} {F : Bool × C5 → j6} (tT : G3 P T α) (hx : A7 C σ H x (.ln w (p5.id (α := α)))) (hH : C1 H (bb, .ob w a) F) (k : K (.v a)) :
    j7 P N C ⟨d,.load T x,ty,ps,af,g⟩ σ H K := .ldL tT hx hH k
theorem OpS.b2R {ρ : Env} {I : Im} {L : Lh} {K : Value → Im → Lh → Prop} (i : Nat) {b off : Nat} {v : Value} {cs vs : List Value} {e : TypeId} {q : Nat × Nat} (hs : I4 P T vs.length) (hx : ev ρ x = some (ptr b off)) (hy : ev ρ y = some v) (hv : v.cells.toList = vs) (h1 : Z1 vs = true)
    (hL:L[i]?=some [(b,.cells cs.toArray e q)]) (hq:∀ j,j < cs.length→¬(q.1≤j∧j < q.2)) (hle:off+vs.length≤cs.length) (k:K undef I (L.set i [(b,.cells (D5 cs off vs).toArray e q)])) :
    OpS P C N ⟨d,.store T x y,ty,ps,af,g⟩ ρ I L K:=fun a w ha hst=>by
  have hb:=hst.mem.loc (b,.cells cs.toArray e q) (E7 hL (by simp))
  have hvs:v.cells.size=vs.length:=by rw [←hv];simp
  have hall:∀ u∈vs,u.oneCell'=true:=fun u hu=>List.all_eq_true.1 h1 u hu
  have hrun:=T3 P b off e q vs 0 cs.toArray w hb (by simpa using hle) hall (by simpa using hq)
  have hr:(execOp a.eval ⟨d,.store T x y,ty,ps,af,g⟩).run P w = .ok .skip (w.setRow b (D5 cs off vs).toArray):=by
    simp only [Nat.add_zero] at hrun
    simp [execOp,ha.ev hx,ha.ev hy,Instr.storeAt,Instr.sureAddr,storeVar,hs.run,hvs,hv,hrun,D5]
  rw [hr]
  exact⟨I,_,a8y hst hL _,k⟩
theorem A9.stE {α β : Type} {r : p6 α} {s : p6 β} {i : Inhabited β} {w : Value} {l : p5 α β} {ags : List α} {c : β} {kk : Nat} {bb : Bool} {E' : TypeId} {F : Bool × C5 → j6} (tT : G3 P T β) (hx : A7 C σ H x (.el w kk l)) (hy : A7 C σ H y (.v c))
    (hH:C1 H (bb,.own E' w ags) F) (hk:kk < ags.length) (k:KH .any (F (bb,.own E' w (ags.set kk (l.set c ags[kk]))))):A9 P C N ⟨d,.store T x y,ty,ps,af,g⟩ σ H KH:=fun ρ I L hs=>by
  obtain⟨u,h2,b,h3,rfl⟩:=hx ρ I L hs
  obtain⟨u,h7,vs,h8,rfl⟩:=hy ρ I L hs
  obtain⟨j,X,h4,h5,h6⟩:=hH.get hs.heap
  obtain⟨xs,ho,h9⟩:=h5.1
  rcases ho with ⟨_,h,_⟩|⟨b2,cc,sp,q,rfl,rfl,e1,e2,e3,e4,e5⟩
  · omega
  · cases h3
    have hfit:kk*p6.size α+l.off+vs.length≤xs.length:=by
      rw [p6.len h8,h9.len]
      have:=l.fits
      have h10:=Nat.mul_le_mul_right (p6.size α) (Nat.succ_le_of_lt hk)
      rw [Nat.succ_mul] at h10
      omega
    have hset:J6 I (ags.set kk (l.set c ags[kk])) (D5 xs (kk*p6.size α+l.off) vs):=by
      have h10:=h9.set kk hk (l.a3C (h9.get kk hk) h8)
      rw [a1O (by rw [p6.len h8];exact l.fits) (by
        rw [h9.len]
        have h11:=Nat.mul_le_mul_right (p6.size α) (Nat.succ_le_of_lt hk)
        rw [Nat.succ_mul] at h11
        omega)] at h10
      exact h10
    refine OpS.b2R j (by rw [p6.len h8];exact tT.size) h2 h7 (a0D h8) (p6.flat h8) h4 (fun i hi=>by rcases e5 with rfl|rfl<;>simp at hi ⊢ <;> omega) (by rw [List.length_append];omega) ?_
    have hseg:D5 (xs++sp) (kk*p6.size α+l.off) vs=D5 xs (kk*p6.size α+l.off) vs++sp:=a4D xs sp _ vs hfit
    have hlen:(D5 xs (kk*p6.size α+l.off) vs).length=xs.length:=V7 _ _ _ hfit
    refine⟨Le.refl I,.any,_,trivial,h6 I (bb,.own E' _ (ags.set kk (l.set c ags[kk]))) _ (Le.refl I) ⟨⟨D5 xs (kk*p6.size α+l.off) vs,.inr ⟨b,cc,sp,q,?_,by rw [hseg],by rw [hlen,List.length_set];exact e1,by rw [List.length_append,hlen,←List.length_append];exact e2,by rw [List.length_set];exact e3,e4,?_⟩,hset⟩,fun hb p hp => ?_⟩,k⟩
    · rw [List.length_set]
    · rw [List.length_append,hlen,←List.length_append];exact e5
    · have:=h5.2 hb (b,.cells (xs++sp).toArray E' q) (by simp)
      simp only [List.mem_singleton] at hp
      subst hp;exact this
theorem A9.ofX {o:Oper} (h:∀ ρ I L,S5 C I L σ H ρ→OpX P N o ρ I L (fun v J X=>∃ r B Xc,X = [Xc]∧D2 J r v∧C5.a5H J B Xc∧KH r ((true,B)::H))):A9 P C N o σ H KH:=fun ρ I L hs a w ha hst =>
 (h ρ I L hs a w ha hst.mem).mono fun v w' ⟨J,X,hc,hle,hn,hm,hX,r,B,Xc,e,h1,h2,h3⟩=>by
  subst e
  exact⟨J,[Xc]++L,hst.step hc hle hn hm hX,hle,r,(true,B)::H,h1,⟨Xc,L,a8,⟨h2,fun _ p hp=>Nat.le_trans hst.S4.size (hX p (by simpa using hp))⟩,hs.heap.mono hle⟩,h3⟩
theorem A9.alloc {α:Type} {r:p6 α} {i:Inhabited α} (tT:G3 P T α) (k:∀ b,KH (.ln (ptr b 0) (p5.id (α:=α))) ((true,.ob (ptr b 0) (default:α))::H)):A9 P C N ⟨d,.alloc T,ty,ps,af,g⟩ σ H KH :=
 .ofX fun ρ I L hs=>by
  obtain⟨zs,h1,h2⟩:=tT.zero
  exact .alloc h1 fun b=>⟨.ln (ptr b 0) (p5.id (α:=α)),.ob (ptr b 0) (default:α),_,a8,⟨b,a8,a8⟩,⟨b,T,zs,a8,a8,h2 I⟩,k b⟩
theorem A9.box {α:Type} {r:p6 α} {a:α} (hx:A7 C σ H x (.v a)) (k:∀ b,KH (.ln (ptr b 0) (p5.id (α:=α))) ((true,.ob (ptr b 0) a)::H)):A9 P C N ⟨d,.box T x,ty,ps,af,g⟩ σ H KH :=
 .ofX fun ρ I L hs=>by
  obtain⟨u,h1,cs,h2,rfl⟩:=hx ρ I L hs
  exact .box h1 (a0D h2) fun b=>⟨.ln (ptr b 0) (p5.id (α:=α)),.ob (ptr b 0) a,_,a8,⟨b,a8,a8⟩,⟨b,T,cs,a8,a8,h2⟩,k b⟩
theorem j7.a1j {s:u0} {i:Int} (hT:P.underlying T=some .string) (hx:A7 C σ H x (.v s)) (hy:A7 C σ H y (.v i)) (h0:0≤i) (h1:i < s.l.length) (k:K (.v (s.l[i.toNat]'(by omega)))):j7 P N C ⟨d,.index T x y,ty,ps,af,g⟩ σ H K :=
 .vk k (fun ρ I L hs=>by
  obtain⟨b,h2,h3⟩:=hx.str hs
  obtain⟨h4,_⟩:=hy.int hs
  obtain⟨m,rfl⟩:=Int.eq_ofNat_of_zero_le h0
  refine .a92 hT h2 h4 (c:=s.l[m]'(by omega)) ?_ ⟨_,a8,a8⟩
  rw [h3]
  exact List.getElem?_eq_getElem _)
theorem J6.cut {α:Type} [p6 α] {I:Im} {l:List α} {xs:List Value} (h:J6 I l xs) (a b:Nat) (hb:b≤l.length):J6 I ((l.take b).drop a) ((xs.take (b*p6.size α)).drop (a*p6.size α)):=by
 have h1:J6 I (l.take b) (xs.take (b*p6.size α)):=by
  have h2:=h
  rw [←List.take_append_drop b l] at h2
  have:=h2.split.1
  rwa [List.length_take,Nat.min_eq_left hb] at this
 by_cases ha:a≤b
 ·have h2:=h1
  rw [←List.take_append_drop a (l.take b)] at h2
  have:=h2.split.2
  rwa [List.length_take,List.length_take,Nat.min_eq_left hb,Nat.min_eq_left ha] at this
 ·have e:(l.take b).drop a = []:=List.drop_eq_nil_of_le (by rw [List.length_take];omega)
  have e2:(xs.take (b*p6.size α)).drop (a*p6.size α) = []:=List.drop_eq_nil_of_le (by
   rw [List.length_take]
   exact Nat.le_trans (Nat.min_le_left _ _) (Nat.mul_le_mul_right _ (by omega)))
  rw [e,e2];rfl
theorem j7.sl {α : Type} {r : p6 α} {i0 : Inhabited α} {l : List α} {lo hi : Option Operand} (a b : Nat) (tE : G3 P E α) (hT : P.underlying T = some (.slice E)) (hx : A7 C σ H x (.v l))
    (hlo:(lo=none∧a=0)∨∃ o,lo=some o∧A7 C σ H o (.v (a:Int))) (hhi:(hi=none∧b=l.length)∨∃ o,hi=some o∧A7 C σ H o (.v (b:Int))) (h1:a≤b) (h2:b≤l.length)
    (k:K (.v ((l.take b).drop a))):j7 P N C ⟨d,.slice T x lo hi none,ty,ps,af,g⟩ σ H K :=
  .vk k (fun ρ I L hs=>by
    obtain⟨u,hu,xs,hsl,hl⟩:=hx.sl hs
    refine .slice hT tE.size hu hsl (l:=a) (h:=b) ?_ ?_ h1 h2 (fun v' hv' => ?_)
    · rcases hlo with ⟨rfl,rfl⟩|⟨o,rfl,ho⟩
      · exact .inl ⟨a8,a8⟩
      · exact .inr ⟨_,o,a8,(ho.int hs).1⟩
    · rcases hhi with ⟨rfl,rfl⟩|⟨o,rfl,ho⟩
      · exact .inl ⟨a8,a8⟩
      · exact .inr ⟨_,o,a8,(ho.int hs).1⟩
    · refine⟨_,⟨v',a8,_,?_,hl.cut a b h2⟩,a8⟩
      have e:((l.take b).drop a).length=b - a:=by simp [Nat.min_eq_left h2]
      rw [e];exact hv')
section sl
variable {α:Type} {r:p6 α} {i0:Inhabited α} {l:List α} {i j:Int} (tE:G3 P E α) (hT:P.underlying T=some (.slice E)) (hx:A7 C σ H x (.v l))
include tE hT hx
theorem j7.b1y (hy:A7 C σ H y (.v i)) (h0:0≤i) (h1:i≤l.length) (k:K (.v (l.drop i.toNat))):j7 P N C ⟨d,.slice T x (some y) none none,ty,ps,af,g⟩ σ H K :=
 .sl i.toNat l.length tE hT hx (.inr ⟨y,rfl,by rw [Int.toNat_of_nonneg h0];exact hy⟩) (.inl ⟨rfl,rfl⟩) (by omega) (Nat.le_refl _) (by rw [List.take_length];exact k)
theorem j7.b2S (hz:A7 C σ H z (.v j)) (h0:0≤j) (h1:j≤l.length) (k:K (.v (l.take j.toNat))):j7 P N C ⟨d,.slice T x none (some z) none,ty,ps,af,g⟩ σ H K :=
 .sl 0 j.toNat tE hT hx (.inl ⟨rfl,rfl⟩) (.inr ⟨z,rfl,by rw [Int.toNat_of_nonneg h0];exact hz⟩) (by omega) (by omega) (by rw [List.drop_zero];exact k)
end sl
theorem j7.a6x {s : u0} {lo hi : Option Operand} (a b : Nat) (hT : P.underlying T = some .string) (hx : A7 C σ H x (.v s)) (hlo : (lo = none ∧ a = 0) ∨ ∃ o, lo = some o ∧ A7 C σ H o (.v (a : Int)))
    (hhi:(hi=none∧b=s.l.length)∨∃ o,hi=some o∧A7 C σ H o (.v (b:Int))) (h1:a≤b) (h2:b≤s.l.length) (k:K (.v (u0.mk ((s.l.take b).drop a)))):j7 P N C ⟨d,.slice T x lo hi none,ty,ps,af,g⟩ σ H K :=
  .vk k (fun ρ I L hs=>by
    obtain⟨ba,hu,he⟩:=hx.str hs
    have e:ba.size=s.l.length:=by rw [←he];rfl
    refine .a94 hT hu (l:=a) (h:=b) ?_ ?_ h1 (by omega) ⟨_,⟨⟨_,rfl,?_⟩,by have:=hx.a3g hs;simp only [List.length_drop,List.length_take];omega⟩,rfl⟩
    · rcases hlo with ⟨rfl,rfl⟩|⟨o,rfl,ho⟩
      · exact .inl ⟨a8,a8⟩
      · exact .inr ⟨_,o,a8,(ho.int hs).1⟩
    · rcases hhi with ⟨rfl,rfl⟩|⟨o,rfl,ho⟩
      · exact .inl ⟨a8,e.symm⟩
      · exact .inr ⟨_,o,a8,(ho.int hs).1⟩
    · simp only [ByteArray.data_extract,Array.toList_extract]
      rw [←he,List.extract_eq_take_drop,List.drop_take])
end Go.Ab
namespace Go.Ab
open Go.Fl Go.RowKit
open p6 (rep)
variable {P:Program} {C:Ctx} {N:Nat} {σ:u5} {H:j6} {K:AV→Prop} {KH:AV→j6→Prop} {d:Option Nat} {ty:TypeId} {ps:String} {af:Array Edge} {g:Option (Nat×Bool)}
variable {x y z:Operand} {T T2 E S D U:TypeId}
inductive a4Z {α:Type} [p6 α] (C:Ctx) (σ:u5) (H:j6) (place:Nat→Option (Nat×Nat)):List (Nat×Operand)→α→α→Prop
 | nil {x:α}:a4Z C σ H place [] x x
 | cons {i:Nat} {o:Operand} {γ:Type} {q:p6 γ} {r:List (Nat×Operand)} {x y:α} (m:p5 α γ) (c:γ) (hi:place i=some (m.off,p6.size γ)) (ho:A7 C σ H o (.v c)) (t:a4Z C σ H place r (m.set c x) y):a4Z C σ H place ((i,o)::r) x y
theorem a4Z.run {α : Type} [p6 α] {place : Nat → Option (Nat × Nat)} {ρ : Env} {I : Im} {L : Lh} (hs : S5 C I L σ H ρ) {ps : List (Nat × Operand)} {x y : α} (h : a4Z C σ H place ps x y) : ∀ {cells : Array Value}, rep I x cells.toList →
    ∃ pv out,evP ρ ps=some pv∧Instr.fill place cells pv=some out∧rep I y out.toList:=by
  induction h with
  | nil=>intro cells hc;exact⟨[],cells,rfl,rfl,hc⟩
  | @cons i o γ q r x y m c hi ho t ih =>
    intro cells hc
    obtain⟨u,h1,vs,h2,rfl⟩:=ho ρ I L hs
    have hcv:=a0D h2
    have hsz:(asV (p6.agg γ) vs).cells.size=p6.size γ:=by have:=congrArg List.length hcv;rw [p6.len h2] at this;simpa using this
    have hcl:cells.size=p6.size α:=by have:=p6.len hc;simpa using this
    have hfit:=m.fits
    have hseg:=a6q (cells:=cells) (vs:=(asV (p6.agg γ) vs).cells) (off:=m.off) (by rw [hsz,hcl];exact hfit)
    rw [hcv] at hseg
    obtain⟨pv,out,h3,h4,h5⟩:=ih (cells:=(asV (p6.agg γ) vs).cells.zipIdx.foldl (fun cs (c,j)=>cs.setIfInBounds (m.off+j) c) cells) (by rw [hseg];exact m.a3C hc h2)
    refine⟨(i,asV (p6.agg γ) vs)::pv,out,by simp [evP,h1,h3],?_,h5⟩
    simp only [Instr.fill,hi]
    rw [if_neg (by simp only [hsz,ne_eq,not_true,hcl,gt_iff_lt];simp;omega)]
    exact h4
theorem b0d {offs:List (Nat×Nat)} (hT:F3 P T=some offs) (w:World):∃ fs,P.underlying T=some (.struct fs)∧(fs.mapM fun f=>(do pure (f.offset,←sizeOf f.type):Sem (Nat×Nat))).run P w = .ok offs.toArray w:=by
  unfold F3 at hT
  split at hT
  · rename_i fs hu
    have hpl : ∀ (l : List Field) (o : List (Nat × Nat)), (l.mapM fun f => (P.info? f.type).map fun i => (f.offset, i.size)) = some o →
        (l.mapM fun f=>(do pure (f.offset,←sizeOf f.type):Sem (Nat×Nat))).run P w = .ok o w:=by
      intro l
      induction l with
      | nil=>intro o h;simp at h;subst h;simp
      | cons f r ih =>
        intro o h
        rw [List.mapM_cons] at h
        cases hq:P.info? f.type with
        | none=>simp [hq] at h
        | some inf =>
          cases hr:(r.mapM fun f=>(P.info? f.type).map fun i=>(f.offset,i.size)) with
          | none=>simp [hq,hr] at h
          | some o' =>
            simp [hq,hr] at h
            subst h
            have hsz:I4 P f.type inf.size:=by simp [I4,hq]
            rw [List.mapM_cons,Sem.run_bind,Sem.run_bind,hsz.run]
            simp only [Result.andThen_ok,Sem.run_pure,Sem.run_bind]
            rw [ih o' hr]
            simp
    refine⟨fs,hu,?_⟩
    rw [Array.mapM_eq_mapM_toList,map_eq_pure_bind,Sem.run_bind,hpl fs.toList offs hT]
    simp
  · cases hT
theorem j7.a2R {α : Type} {r : p6 α} {i0 : Inhabited α} {offs : List (Nat × Nat)} {parts : Array (Nat × Operand)} {a : α} (c : α) (hg : p6.agg α = true) (tT : G3 P T α) (hT : F3 P T = some offs) (hp : a4Z C σ H (fun i => offs[i]?) parts.toList (default : α) a) (e : a = c) (k : K (.v c)) :
    j7 P N C ⟨d,.build T parts,ty,ps,af,g⟩ σ H K:=by
  subst e
  exact .vk k (fun ρ I L hs=>by
    obtain⟨zs,hz1,hz2⟩:=tT.zero
    intro ac w ha hm
    obtain⟨zv,h1,h2⟩:=a1A hz1 w
    obtain⟨pv,out,h3,h4,h5⟩:=hp.run hs (cells:=zv.cells) (by rw [h2];exact hz2 I)
    have hparts:(parts.map fun x=>(x.1,ac.eval x.2)).toList=pv:=by rw [Array.toList_map];exact ha.evP h3
    obtain⟨fs,hu,h6⟩:=b0d hT w
    refine⟨.agg out,⟨out.toList,h5,by rw [hg];rfl⟩,?_⟩
    have e1:(fun (i:Nat)=>offs.toArray[i]?)=fun (i:Nat)=>offs[i]?:=by funext i;simp
    simp only [execOp,Instr.build,Sem.run_bind,h1,Result.andThen_ok,run_underlying hu,h6,hparts,Sem.run_pure,e1,h4])
inductive a1k {α:Type} [p6 α] (C:Ctx) (σ:u5) (H:j6):Nat→List (Nat×Operand)→List α→Prop
 | nil {i:Nat}:a1k C σ H i [] []
 | cons {i:Nat} {o:Operand} {c:α} {r:List (Nat×Operand)} {l:List α} (ho:A7 C σ H o (.v c)) (t:a1k C σ H (i+1) r l):a1k C σ H i ((i,o)::r) (c::l)
theorem a1k.run {α:Type} [p6 α] {ρ:Env} {I:Im} {L:Lh} (hs:S5 C I L σ H ρ) {i:Nat} {ps:List (Nat×Operand)} {l:List α} (h:a1k C σ H i ps l):∃ pv vs,evP ρ ps=some pv∧L8 (p6.size α) i pv=some vs∧J6 I l vs:=by
 induction h with
 | nil=>exact⟨[],[],rfl,rfl,rfl⟩
 | @cons i o c r l ho t ih =>
  obtain⟨u,h1,cs,h2,rfl⟩:=ho ρ I L hs
  obtain⟨pv,vs,h3,h4,h5⟩:=ih
  have hcv:=a0D h2
  have hsz:(asV (p6.agg α) cs).cells.size=p6.size α:=by have:=congrArg List.length hcv;rw [p6.len h2] at this;simpa using this
  refine⟨(i,asV (p6.agg α) cs)::pv,cs++vs,by simp [evP,h1,h3],?_,cs,vs,rfl,h2,h5⟩
  have b1:Nat.beq i i=true:=Nat.beq_refl i
  simp only [L8,hsz,b1,Nat.beq_refl,Bool.and_self,cond_true,h4,Option.map_some,hcv]
theorem A9.buildSlice {α : Type} {r : p6 α} {i0 : Inhabited α} {n : Nat} {l : List α} {parts : Array (Nat × Operand)} (tE : G3 P E α) (hT : P.underlying T = some (.slice E)) (hp : a1k C σ H 0 parts.toList l) (hn : l.length = n) (hb : n * p6.size α ≤ 16777216)
    (k:∀ b,KH (.raw (slc b 0 n n)) ((true,.own E (slc b 0 n n) l)::H)):A9 P C N ⟨d,.buildSlice T n parts,ty,ps,af,g⟩ σ H KH :=
  .ofX fun ρ I L hs=>by
    obtain⟨zs,hz1,hz2⟩:=tE.zero
    obtain⟨pv,vs,h1,h2,h3⟩:=hp.run hs
    subst hn
    have hl:=h3.len
    refine .buildSlice hT tE.size hz1 (p6.len (hz2 I)) h1 h2 hl hb fun b=>⟨.raw (slc b 0 l.length l.length),.own E (slc b 0 l.length l.length) l,_,a8,a8,⟨vs,.of (.made hl ?_),h3⟩,k b⟩
    have:1≤p6.size α:=Nat.one_le_iff_ne_zero.2 tE.pos
    have:=Nat.mul_le_mul_left l.length this
    unfold maxLen;omega
structure SlT (P:Program) (T E:TypeId) (α:Type) (by_:Nat) [p6 α] [Inhabited α]:Prop where
 elt:Elt P T E (p6.size α) by_
 ty:G3 P E α
theorem SlT.pos {α:Type} [p6 α] [Inhabited α] {by_:Nat} (st:SlT P T E α by_):0 < p6.size α:=Nat.pos_of_ne_zero st.ty.pos
def a9f (P:Program) (C:Ctx) (σ:u5) (H:j6) (y:Operand) {α:Type} [p6 α] (m:List α):Prop:=∀ ρ I L,S5 C I L σ H ρ→∃ u news,ev ρ y=some u∧Src P I L (p6.size α) u m.length news∧J6 I m news
theorem a9f.v {α:Type} {r:p6 α} {m:List α} (h:A7 C σ H y (.v m)):a9f P C σ H y m:=fun ρ I L hs=>by
 obtain⟨u,h1,xs,h2,h3⟩:=h.sl hs
 exact⟨u,xs,h1,.sl h2,h3⟩
theorem a9f.own {α:Type} {r:p6 α} {t:Nat} {w:Value} {m:List α} {bb:Bool} {E':TypeId} {F:Bool×C5→j6} (ht:C9 σ t=some (.raw w)) (hH:C1 H (bb,.own E' w m) F):a9f P C σ H (.tmp t) m:=fun ρ I L hs=>by
 obtain⟨u,h1,rfl⟩:=hs.env t _ ht
 obtain⟨j,X,h2,h3,_⟩:=hH.get hs.heap
 obtain⟨xs,h4,h5⟩:=h3.1
 exact⟨_,xs,h1,Ab.Src.b4e j h2 h4,h5⟩
theorem A9.append {α : Type} {r : p6 α} {i0 : Inhabited α} {by_ t : Nat} {w : Value} {l m : List α} {bb : Bool} {F : Bool × C5 → j6} (st : SlT P T E α by_) (hU : (∃ E2, P.underlying U = some (.slice E2)) ∨ P.underlying U = some .string) (hx : C9 σ t = some (.raw w))
    (hH:C1 H (bb,.own E w l) F) (hy:a9f P C σ H y m) (hb:(l.length+m.length)*by_≤140737488355328) (hn:l.length+m.length≤9223372036854775807) (k:∀ w',KH (.raw w') (F (true,.own E w' (l++m)))) (hbb:bb=true) :
    A9 P C N ⟨d,.call ⟨.builtin .append,#[.tmp t,y],#[T,U]⟩,ty,ps,af,g⟩ σ H KH:=fun ρ I L hs=>by
  obtain⟨u,h1,rfl⟩:=hs.env t _ hx
  obtain⟨v,news,h2,h3,h4⟩:=hy ρ I L hs
  obtain⟨j,X,h5,h6,h7⟩:=hH.get hs.heap
  obtain⟨xs,h8,h9⟩:=h6.1
  intro a w0 ha hst
  have hfr:=h6.2 hbb
  refine Yld.mono (OpS.b1v (K:=fun v' J L'=>∃ X',L'=L.set j X'∧J=I∧X1 E (p6.size α) v' (l.length+m.length) (xs++news) X'∧(∀ p∈X',p.1∈X.map Prod.fst∨C.w0.heap.size≤p.1)) j st.elt st.pos hU (x := .tmp t) h1 h2 h5 h8 h3 h4.flat (by unfold maxLen;omega) hb (fun v' X' ho hn=>⟨X',rfl,rfl,ho,hn⟩) a w0 ha hst) ?_
  rintro v' w' ⟨J,L',hst',X',rfl,rfl,ho,hnew⟩
  refine⟨J,_,hst',Le.refl J,.raw v',_,rfl,h7 J (true,.own E v' (l++m)) X' (Le.refl J) ⟨⟨xs++news,by rw [List.length_append];exact ho,h9.append h4⟩,fun _ p hp => ?_⟩,k v'⟩
  rcases hnew p hp with h|h
  · obtain⟨q,hq,hqe⟩:=List.mem_map.1 h
    rw [←hqe];exact hfr q hq
  · exact h
end Go.Ab
namespace Go.Ab
open Go.Fl Go.RowKit
open p6 (rep)
variable {P:Program} {C:Ctx} {N:Nat} {σ:u5} {H:j6} {K:AV→Prop} {KH:AV→j6→Prop} {d:Option Nat} {ty:TypeId} {ps:String} {af:Array Edge} {g:Option (Nat×Bool)}
variable {x y z:Operand} {T T2 E S D U:TypeId}
theorem a5N {I:Im}:∀ {l:List UInt8} {cs:List Value},J6 I l cs↔cs=a0V l
 | [],cs=>by simp [J6,a0V]
 | x::l,cs=>by
  constructor
  ·rintro⟨c,r,rfl,h1,h2⟩
   rw [a5N.1 h2,show c = [Fl.u8 x] from h1];rfl
  ·rintro rfl
   exact⟨[Fl.u8 x],a0V l,a8,a8,a5N.2 a8⟩
theorem a7J {a b:ByteArray} {s t:u0} (ha:a.data.toList=s.l) (hb:b.data.toList=t.l):(a.toList == b.toList)=decide (s=t):=by
 have h1:∀ q:ByteArray,q.toList=q.data.toList:=fun q=>ByteArray.toList_eq q
 rw [h1,h1,ha,hb]
 cases s;cases t
 exact Bool.eq_iff_iff.2 (by simp)
theorem j7.b0e {s t:u0} (hx:A7 C σ H x (.v s)) (hy:A7 C σ H y (.v t)) (k:K (.v (decide (s=t)))):j7 P N C ⟨d,.binOp .eql T x y T2,ty,ps,af,g⟩ σ H K :=
 .vk k (fun ρ I L hst=>by
  obtain⟨a,h1,h2⟩:=hx.str hst
  obtain⟨b,h3,h4⟩:=hy.str hst
  exact .mk ⟨_,rfl,rfl⟩ fun ac w ha hm=>by simp [execOp,ha.ev h1,ha.ev h3,eqGuard,binOp_string_eql,a7J h2 h4,asV,p6.agg])
theorem j7.b2T {s t:u0} (hx:A7 C σ H x (.v s)) (hy:A7 C σ H y (.v t)) (k:K (.v (decide (s≠t)))):j7 P N C ⟨d,.binOp .neq T x y T2,ty,ps,af,g⟩ σ H K :=
 .vk k (fun ρ I L hst=>by
  obtain⟨a,h1,h2⟩:=hx.str hst
  obtain⟨b,h3,h4⟩:=hy.str hst
  exact .mk ⟨_,rfl,rfl⟩ fun ac w ha hm=>by
   have:=a7J h2 h4
   simp [execOp,ha.ev h1,ha.ev h3,eqGuard,binOp,Op.stringOp,asV,p6.agg] at this ⊢
   first|exact this|(simp [bne,this]))
end Go.Ab
