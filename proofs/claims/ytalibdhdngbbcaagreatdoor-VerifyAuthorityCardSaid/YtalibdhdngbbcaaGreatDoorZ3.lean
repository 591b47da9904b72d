/- Plain Lean over any program, and walks of this seat's functions: contracts, each proved once (part 3). -/
import Derived.Test.YtalibdhdngbbcaaGreatDoorZ2
import Derived.Shelf.Bytes.SlJoin
import Derived.Laws.StructEq
set_option maxRecDepth 1000000
set_option synthInstance.maxSize 1000000
set_option synthInstance.maxHeartbeats 10000000
set_option linter.unusedVariables false
set_option linter.unusedSimpArgs false
namespace Go.Proofs.YtalibdhdngbbcaaGreatDoor
open Go.Proofs.Tryz
open Go.Fl Go.Ab Go.Mac Go.Sha
structure H3 (a:D6) (n:Nat):Prop where
 X5:a.G2.length≤n
 boxes:a.y7.length≤n
 a5f:0≤a.F4
 a6q:a.F4≤n
 tag:∀ i (h:i < a.G2.length),a.G2[i].Message.length≤1000∧a.G2[i].Tag=(if a.J6 then R7 109 (i+1:Nat) else a1g a.G2[i].Key.l a.G2[i].Message)
 uniq:∀ i (h:i < a.G2.length),a.G2.find? (a3G a.G2[i].Key a.G2[i].Message)=some a.G2[i]
 box:∀ i (h:i < a.y7.length),a.y7[i].Plain.length≤256∧0≤a.y7[i].E7∧a.y7[i].E7≤281474976710656 ∧
  a.y7[i].Box=(if a.J6 then (R7 98 (i+1:Nat)).l++List.replicate (a.y7[i].Plain.length+8) 0 else U5 a.y7[i].Key a.y7[i].E7 a.y7[i].Plain)
theorem H3.new (free:Bool) (seed:Tag) (n:Nat):H3 ⟨free,seed,0,[],[]⟩ n :=
 ⟨Nat.zero_le _,Nat.zero_le _,Int.le_refl _,Int.natCast_nonneg _,fun i h=>(by cases h),fun i h=>(by cases h),fun i h=>(by cases h)⟩
theorem H3.le {a:D6} {n m:Nat} (h:H3 a n) (hm:n≤m):H3 a m :=
 ⟨Nat.le_trans h.X5 hm,Nat.le_trans h.boxes hm,h.a5f,by have:=h.a6q;omega,h.tag,h.uniq,h.box⟩
theorem H3.key {a:D6} {n:Nat} (h:H3 a n) (hn:n < 65536):H3 (O3 a).1 (n+1):=by
 have:=h.a6q
 have:=h.a5f
 unfold O3
 rw [if_neg (by omega)]
 exact⟨Nat.le_succ_of_le h.X5,Nat.le_succ_of_le h.boxes,by show 0≤a.F4+1;omega,by show a.F4+1≤((n+1:Nat):Int);omega,h.tag,h.uniq,h.box⟩
theorem a8P (k:Tag) (m:List UInt8) (x:y6):a3G k m x=true↔x.Key=k∧x.Message=m:=by simp [a3G]
theorem H3.mac {a:D6} {n:Nat} (h:H3 a n) (hn:n < 65536) {k:Tag} {m:List UInt8} (hm:m.length≤1000):H3 (G6 a k m).1 (n+1):=by
 have h1:=h.X5
 cases hf:Q8 a k m with
 | some x =>
  have e:G6 a k m=(a,x.Tag,0):=by unfold G6;rw [if_neg (by omega),hf]
  rw [e];exact h.le (Nat.le_succ _)
 | none =>
  rw [a3n (by omega) hf (by omega)]
  have hnone:∀ x∈a.G2,a3G k m x=false:=fun x hx=>by
   have:=List.find?_eq_none.1 hf x hx
   simpa using this
  refine⟨by simp;exact h1,Nat.le_succ_of_le h.boxes,h.a5f,by have:=h.a6q;show a.F4≤_;omega,fun i hi => ?_,fun i hi => ?_,h.box⟩
  ·simp only [List.length_append,List.length_singleton] at hi
   by_cases e:i < a.G2.length
   ·simp only [List.getElem_append_left e];exact h.tag i e
   ·obtain rfl:i=a.G2.length:=by omega
    simp only [List.getElem_concat_length]
    refine⟨hm,?_⟩
    unfold a2A
    rw [show((a.G2.length+1:Nat):Int)=(a.G2.length:Int)+1 by omega]
  ·simp only [List.length_append,List.length_singleton] at hi
   by_cases e:i < a.G2.length
   ·simp only [List.getElem_append_left e]
    rw [List.find?_append,h.uniq i e];rfl
   ·obtain rfl:i=a.G2.length:=by omega
    simp only [List.getElem_concat_length]
    have:a.G2.find? (a3G k m)=none:=hf
    rw [List.find?_append,this]
    simp [a3G]
theorem H3.boxed {a:D6} {n:Nat} (h:H3 a n) (hn:n < 65536) {k:Tag} {c:Int} {p:List UInt8} (hc0:0≤c) (hc1:c≤281474976710656) (hp:p.length≤256):H3 (O4 a k c p).1 (n+1):=by
 have h1:=h.boxes
 have hr:(decide (c < 0)||decide (281474976710656 < c))=false:=by simp;omega
 cases hf:a.y7.find? (a36 k c p) with
 | some x=>rw [a2C hr (by omega) hf];exact h.le (Nat.le_succ _)
 | none =>
  rw [a2l hr (by omega) hf (by omega)]
  refine⟨Nat.le_succ_of_le h.X5,by simp;exact h1,h.a5f,by have:=h.a6q;show a.F4≤_;omega,h.tag,h.uniq,fun i hi => ?_⟩
  simp only [List.length_append,List.length_singleton] at hi
  by_cases e:i < a.y7.length
  ·simp only [List.getElem_append_left e];exact h.box i e
  ·obtain rfl:i=a.y7.length:=by omega
   simp only [List.getElem_concat_length]
   refine⟨hp,hc0,hc1,?_⟩
   unfold a2B
   rw [show((a.y7.length+1:Nat):Int)=(a.y7.length:Int)+1 by omega]
theorem H3.c1d {a:D6} {n:Nat} (h:H3 a n):∀ x∈a.y7,x.Box.length≤1000000:=fun x hx=>by
 obtain⟨i,hi,rfl⟩:=List.getElem_of_mem hx
 obtain⟨h1,_,_,h2⟩:=h.box i hi
 rw [h2]
 split
 ·simp;omega
 ·simp [U5,R8,E4,M0];omega
theorem F6 (w : Value) (d : o0) (n : Int) (hd : H9 d) (h0 : 0 < n) (h1 : n ≤ 4611686018427387904) :
    G0 gl prog 7 [dk w,.v n] [.ob w d] (fun r Hs=>∃ v:Int,∃ d',0≤v∧v < n∧H9 d'∧r = .v v∧Hs = [.ob w d']) :=
  (a3l w d n hd h0 h1).mono fun r Hs ⟨h2,h3⟩=>⟨_,_,(S4 h0).1,(S4 h0).2,Q7 hd,h2,h3⟩
end Go.Proofs.YtalibdhdngbbcaaGreatDoor
namespace Go.Ab
open Go.Fl Go.RowKit
open p2 (rep)
variable {P:Program} {N:Nat} {C:Ctx} {σ:x5} {H:j7} {K:AV→Prop} {d:Option Nat} {ty:TypeId} {ps:String} {af:Array Edge} {g:Option (Nat×Bool)} {x y:Operand} {T T2:TypeId}
theorem a03 {m:Int} (h0:0≤m) (h1:m≤9223372036854775807):(BitVec.ofInt 64 m).toNat=m.toNat:=by
 rw [BitVec.toNat_ofInt,Int.emod_eq_of_lt h0 (by omega)]
theorem wrap64 {n:Nat} (h:n < 2^63):IntKind.wrap .i64 (n:Int)=(n:Int):=wrap_i64 (by omega) (by omega)
theorem b7A {m n:Int} (h0:0≤m) (h1:0≤n) (hm:m≤9223372036854775807) (hn:n≤9223372036854775807):binOp .and T (i64 m) (i64 n)=pure (i64 ((m.toNat &&& n.toNat:Nat):Int)):=by
 show Op.intBits .and .i64 m n=_
 unfold Op.intBits
 have e:((BitVec.ofInt 64 m) &&& (BitVec.ofInt 64 n)).toNat=m.toNat &&& n.toNat:=by rw [BitVec.toNat_and,a03 h0 hm,a03 h1 hn]
 have hb:m.toNat &&& n.toNat < 2^63:=Nat.lt_of_le_of_lt Nat.and_le_left (by omega)
 show(pure (Value.int .i64 (IntKind.wrap .i64 (((BitVec.ofInt 64 m) &&& (BitVec.ofInt 64 n)).toNat:Int))):Sem Value)=_
 rw [e,wrap64 hb]
theorem b9L {m n:Int} (h0:0≤m) (h1:0≤n) (hm:m≤9223372036854775807) (hn:n≤9223372036854775807):binOp .or T (i64 m) (i64 n)=pure (i64 ((m.toNat ||| n.toNat:Nat):Int)):=by
 show Op.intBits .or .i64 m n=_
 unfold Op.intBits
 have e:((BitVec.ofInt 64 m) ||| (BitVec.ofInt 64 n)).toNat=m.toNat ||| n.toNat:=by rw [BitVec.toNat_or,a03 h0 hm,a03 h1 hn]
 have hb:m.toNat ||| n.toNat < 2^63:=Nat.or_lt_two_pow (by omega) (by omega)
 show(pure (Value.int .i64 (IntKind.wrap .i64 (((BitVec.ofInt 64 m) ||| (BitVec.ofInt 64 n)).toNat:Int))):Sem Value)=_
 rw [e,wrap64 hb]
theorem j5.c4K {m n:Int} (hx:D5 C σ H x (.v m)) (hy:D5 C σ H y (.v n)) (h0:0≤m) (h1:0≤n) (k:K (.v (((m.toNat &&& n.toNat:Nat):Int)))):j5 P N C ⟨d,.binOp .and T x y T2,ty,ps,af,g⟩ σ H K :=
 .vk k (fun ρ I L hs=>by
  obtain⟨e1,_,b1⟩:=hx.int hs
  obtain⟨e2,_,b2⟩:=hy.int hs
  have hb:m.toNat &&& n.toNat≤m.toNat:=Nat.and_le_left
  exact .mk ⟨_,⟨rfl,by omega,by omega⟩,rfl⟩ fun a w ha hm=>by
   simp [execOp,ha.ev e1,ha.ev e2,eqGuard,b7A h0 h1 b1 b2,asV,p2.agg])
theorem j5.orI {m n:Int} (hx:D5 C σ H x (.v m)) (hy:D5 C σ H y (.v n)) (h0:0≤m) (h1:0≤n) (k:K (.v (((m.toNat ||| n.toNat:Nat):Int)))):j5 P N C ⟨d,.binOp .or T x y T2,ty,ps,af,g⟩ σ H K :=
 .vk k (fun ρ I L hs=>by
  obtain⟨e1,_,b1⟩:=hx.int hs
  obtain⟨e2,_,b2⟩:=hy.int hs
  have hb:m.toNat ||| n.toNat < 2^63:=Nat.or_lt_two_pow (by omega) (by omega)
  exact .mk ⟨_,⟨rfl,by omega,by omega⟩,rfl⟩ fun a w ha hm=>by
   simp [execOp,ha.ev e1,ha.ev e2,eqGuard,b9L h0 h1 b1 b2,asV,p2.agg])
theorem j5.c3z {m:Int} {n:UInt64} (hx:D5 C σ H x (.v m)) (hy:D5 C σ H y (.v n)) (h1:n.toNat < 64) (k:K (.v (m >>> n.toNat))):j5 P N C ⟨d,.binOp .shr T x y T2,ty,ps,af,g⟩ σ H K :=
 .vk k (fun ρ I L hs=>by
  have hm:=(hx.int hs).2
  refine .mk ⟨_,⟨rfl,?_,?_⟩,rfl⟩ fun a w ha hm=>by
   have e:=b6Y T m .u64 n.toNat h1
   simp only [execOp,ha.ev (hx.int hs).1,ha.ev (hy.a0l hs),eqGuard]
   simp [Fl.u64,e,asV,p2.agg]
  ·rw [Int.shiftRight_eq_div_pow]
   rcases Int.le_total 0 m with h|h
   ·have:=Int.ediv_nonneg h (Int.natCast_nonneg (2^n.toNat));omega
   ·have h2:(1:Int)≤((2^n.toNat:Nat):Int):=Int.natCast_pos.2 (Nat.two_pow_pos _)
    have:=Int.le_ediv_of_mul_le (a:=m) (b:=m) (c:=((2^n.toNat:Nat):Int)) (by omega) (by have:=Int.mul_le_mul_of_nonpos_left h h2;omega)
    omega
  ·rw [Int.shiftRight_eq_div_pow]
   rcases Int.le_total 0 m with h|h
   ·have:=Int.ediv_le_self ((2^n.toNat:Nat):Int) h;omega
   ·have h2:(0:Int) < ((2^n.toNat:Nat):Int):=Int.natCast_pos.2 (Nat.two_pow_pos _)
    have:=Int.ediv_lt_of_lt_mul (a:=m) (b:=1) h2 (by omega);omega)
theorem a0G {dd:TypeDesc} {b:Bool} (h:P.underlying T=some dd) (hb:a0E dd=b):∀ w,(isAgg T).run P w = .ok b w:=fun w=>hb▸a1F h w
theorem a0H {n:Nat} (h:(P.info? T).map (·.size)=some n):∀ w,(Go.sizeOf T).run P w = .ok n w:=fun w=>D7.run h w
theorem a1h {v:Value} (h:(P.info? T).bind (·.zero)=some v):∀ w,(zeroValue T).run P w = .ok v w:=fun w=>by
 cases hq:P.info? T with
 | none=>simp [hq] at h
 | some i=>simp [hq] at h;simp [zeroValue,typeInfo,hq,h]
theorem G0.b7B {G:Gl} {P:Program} {f:FuncId} {ags:List AV} {E:TypeId} {α:Type} [r:p2 α] {l:List α} {b:AV} (h:G0 G P f ags [] (fun r Hs=>∃ u,r = .t2 (.raw u) b∧Hs = [.own E u l])):p6 G P f ags (fun r=>r = .t2 (.v l) b):=fun I vs hG hvs=>by
 have hM:=h I [] vs hG hvs rfl
 refine⟨hM.ok,fun w hm=>(hM.run w hm).mono ?_⟩
 rintro e w' ⟨v,J,L',rfl,q1,q2,q3,q4,q5,r,Hs',q6,q7,u,rfl,rfl⟩
 obtain⟨X,R,rfl,q8,q9⟩:=q7
 have q9':R = []:=q9
 subst q9'
 obtain⟨x,y,rfl,q6',q6b⟩:=q6
 have q6'':x=u:=q6'
 subst q6''
 have hle:Le J (J.with X):=Im.a0Z fun p hp=>q4.sep p (by simpa using hp)
 refine⟨_,J.with X,rfl,by simpa using q1,q2.trans hle,fun b h0 h1 => ?_,(q4.freeze (i:=0) (c:=X) rfl).drop,.t2 (.v l) b,⟨x,y,rfl,S6 q8 hle (fun p hp=>Im.a1b (by simpa using q4.nodup) hp),q6b.mono hle⟩,rfl⟩
 cases hj:J.with X b with
 | none=>exact absurd hj h1
 | some o =>
  rcases Im.W5 hj with h2|h2
  ·rcases q5 (b,o) (by simpa using h2) with h3|h3
   ·exact h3
   ·cases h3
  ·exact q3 b h0 (by simp [h2])
def AV.b7C (P:Program) {α β γ δ:Type} [p2 α] [p2 β] [p2 γ] [p2 δ] (g:α→β→γ×δ):AV := .clo P (fun x:α×β => [.v x.1,.v x.2]) (fun x => .t2 (.v (g x.1 x.2).1) (.v (g x.1 x.2).2))
section clo
variable {C:Ctx} {σ:x5} {H:j7} {G:Gl} {f:FuncId} {args:Array Operand} {tys:Array TypeId}
theorem j5.b5w {α β γ δ : Type} [p2 α] [p2 β] [p2 γ] [p2 δ] {g2 : α → β → γ × δ} {x : α} {y : β} {t : Nat} {a b : Operand} (ht : F0 σ t = some (.b7C P g2)) (ha : D5 C σ H a (.v x)) (hb : D5 C σ H b (.v y)) (k : K (.t2 (.v (g2 x y).1) (.v (g2 x y).2))) :
    j5 P N C ⟨d,.call ⟨.value (.tmp t),#[a,b],tys⟩,ty,ps,af,g⟩ σ H K := .b4l (ags:=fun x:α×β => [.v x.1,.v x.2]) (r:=fun x => .t2 (.v (g2 x.1 x.2).1) (.v (g2 x.1 x.2).2)) (x,y) ht (.cons ha (.cons hb .nil)) k
theorem j5.b9M (hG : G.p C.I0) {α β γ δ : Type} [p2 α] [p2 β] [p2 γ] [p2 δ] {g2 : α → β → γ × δ} {caps : List AV} (h : ∀ x y, p6 G P f (.v x :: .v y :: caps) (fun r => r = .t2 (.v (g2 x y).1) (.v (g2 x y).2))) (hv : a2v C σ H args.toList caps) (k : K (.b7C P g2)) :
    j5 P N C ⟨d,.makeFunc (.func f) #[] args,ty,ps,af,g⟩ σ H K := .c08 hG (ags:=fun x:α×β => [.v x.1,.v x.2]) (r:=fun x => .t2 (.v (g2 x.1 x.2).1) (.v (g2 x.1 x.2).2)) (fun i=>h i.1 i.2) hv k
end clo
theorem j5.a3q {m : UInt64} {n : Int} (hx : D5 C σ H x (.v m)) (hy : D5 C σ H y (.v n)) (h0 : 0 ≤ n) (h1 : n < 64) (k : K (.v (m >>> UInt64.ofNat n.toNat))) :
    j5 P N C ⟨d,.binOp .shr T x y T2,ty,ps,af,g⟩ σ H K :=
  .vk k (fun ρ I L hs=>I1.b0B n.toNat (hx.a0l hs) (hy.int hs).1 (by omega) (by omega) ⟨_,rfl,rfl⟩)
end Go.Ab
namespace Go.Ab
open Go.Fl Go.RowKit Go.Shelf Go.Proofs
open p2 (rep)
end Go.Ab
namespace Go.Proofs.YtalibdhdngbbcaaGreatDoor
open Go.Proofs.Tryz
open Go.Fl Go.Ab Go.Mac Go.Sha
theorem y3 (l:List Int):H9 (⟨l,0⟩:o0):=Int.le_refl 0
theorem a7k (w : Value) (d : o0) (lo hi : Int) (hd : H9 d) (h : lo ≤ hi) (h0 : -1000000000000000000 ≤ lo) (h1 : hi ≤ 1000000000000000000) :
    G0 gl prog 15 [dk w,.v lo,.v hi] [.ob w d] (fun r Hs=>∃ v:Int,∃ d',lo≤v∧v≤hi∧H9 d'∧r = .v v∧Hs = [.ob w d']):=by
  refine G0.R1 func15 rfl (by kernel_rfl) 15 rfl rfl _ rfl _ rfl fun C hC hG => ?_
  refine .q 10 hG ?_
  refine .sb (by first|omega|(simp;done)|(simp;omega)|(simp at *;omega)) (by first|omega|(simp;done)|(simp;omega)|(simp at *;omega)) ?_
  refine .ad (by first|omega|(simp;done)|(simp;omega)|(simp at *;omega)) (by first|omega|(simp;done)|(simp;omega)|(simp at *;omega)) ?_
  refine .km hG (F6 _ _ _ (by assumption) (by first|omega|(simp;done)|(simp;omega)|(simp at *;omega)) (by first|omega|(simp;done)|(simp;omega)|(simp at *;omega))) .z (by rintro _ _ ⟨_,_,_,_,_,_,rfl⟩;exact⟨_,rfl⟩) fun r13 B13 hr13 => ?_
  obtain⟨v13,d13,h013,h113,hd13,rfl,hB⟩:=hr13
  cases hB
  refine .ad (by first|omega|(simp;done)|(simp;omega)|(simp at *;omega)) (by first|omega|(simp;done)|(simp;omega)|(simp at *;omega)) ?_
  refine .q 3 hG ?_
  refine .e1 a8 a8 ?_
  refine⟨_,.cons .z (.nil),?_⟩
  exact⟨_,_,by omega,by omega,by assumption,rfl,rfl⟩
theorem b1s (w:Value) (d:o0) (hd:H9 d):G0 gl prog 17 [dk w] [.ob w d] (fun r Hs=>∃ s:T5,s.l.length≤16∧∃ d',H9 d'∧r = .v s∧Hs = [.ob w d']):=by
 have hn:=S4 (d:=d) (n:=8) (by decide)
 refine G0.jn func17 (by kernel_rfl) 8 rfl fun C hC hG => ?_
 refine .q 2 hG ?_
 refine .p (.assign (.s [] (by decide) (by decide)) ?_)
 refine .q 3 hG ?_
 refine .bs a8 (by decide) fun b3 => ?_
 refine .q 1 hG ?_
 refine .km hG (a3l _ _ _ hd (by first|omega|(simp;done)|(simp;omega)|(simp at *;omega)) (by first|omega|(simp;done)|(simp;omega)|(simp at *;omega))) .z1 (by rintro _ _ ⟨_,rfl⟩;exact⟨_,rfl⟩) fun r5 B5 hr5 => ?_
 obtain⟨rfl,hB⟩:=hr5
 cases hB
 refine .p (.a2w ty9 underlying128 a8 .z (.t a8) (by first|omega|(simp;done)|(simp;omega)|(simp at *;omega)) (by first|omega|(simp;done)|(simp;omega)|(simp at *;omega)) (.p (.b9A ty9 (.t a8) .z (by first|omega|(simp;done)|(simp;omega)|(simp at *;omega)) ?_)))
 refine .q 2 hG ?_
 refine .drop ?_
 refine .q 1 hG ?_
 refine .e1 a8 a8 ?_
 refine⟨_,?_,_,Q7 hd,a8,a8⟩
 refine(show ∀ s∈_,(T5.l s).length≤16 from ?_) _ (List.getElem_mem _)
 decide
theorem c2f (w:Value) (d:o0) (m:Int) (hd:H9 d) (h0:0≤m) (h1:m≤281474976710657):G0 gl prog 73 [dk w,.v m] [.ob w d] (fun r Hs=>∃ x:Int,0≤x∧x≤m∧∃ d',H9 d'∧r = .v x∧Hs = [.ob w d']):=by
 have hok1:=Q7 (n:=4) hd
 have hn1:=S4 (d:=(P1 d 4).2) (n:=4) (by decide)
 have hn2:=S4 (d:=(P1 d 4).2) (n:=300) (by decide)
 have hn3:=S4 (d:=(P1 d 4).2) (n:=min 3 (m+1)) (by omega)
 have hn4:=S4 (d:=(P1 d 4).2) (n:=m+1) (by omega)
 refine G0.jn func73 (by kernel_rfl) 32 rfl fun C hC hG => ?_
 refine .q 8 hG ?_
 refine .km hG (a3l _ _ _ (by assumption) (by first|omega|(simp;done)|(simp;omega)|(simp at *;omega)) (by first|omega|(simp;done)|(simp;omega)|(simp at *;omega))) .z (by rintro _ _ ⟨_,rfl⟩;exact⟨_,rfl⟩) fun r6 B6 hr6 => ?_
 obtain⟨rfl,hB⟩:=hr6
 cases hB
 refine .q 8 hG ⟨fun hc7 => ?_,fun hc7 => ?_⟩
 ·refine .q 3 hG ?_
  refine .km hG (a3l _ _ _ (by assumption) (by first|omega|(simp;done)|(simp;omega)|(simp at *;omega)) (by first|omega|(simp;done)|(simp;omega)|(simp at *;omega))) .z (by rintro _ _ ⟨_,rfl⟩;exact⟨_,rfl⟩) fun r10 B10 hr10 => ?_
  obtain⟨rfl,hB⟩:=hr10
  cases hB
  refine .q 1 hG ?_
  refine .p (.a5w (.t a8) (.t a8) ?_)
  refine .q 3 hG ?_
  refine .e1 a8 a8 ?_
  refine⟨_,?_,?_,_,Q7 hok1,a8,a8⟩<;>omega
 ·refine .q 6 hG ⟨fun hc13 => ?_,fun hc13 => ?_⟩
  ·refine .q 3 hG ?_
   refine .km hG (a3l _ _ _ (by assumption) (by first|omega|(simp;done)|(simp;omega)|(simp at *;omega)) (by first|omega|(simp;done)|(simp;omega)|(simp at *;omega))) .z (by rintro _ _ ⟨_,rfl⟩;exact⟨_,rfl⟩) fun r16 B16 hr16 => ?_
   obtain⟨rfl,hB⟩:=hr16
   cases hB
   refine .q 1 hG ?_
   refine .p (.a5w (.t a8) (.t a8) ?_)
   refine .q 3 hG ?_
   refine .e1 a8 a8 ?_
   refine⟨_,?_,?_,_,Q7 hok1,a8,a8⟩<;>omega
  ·refine .q 6 hG ⟨fun hc19 => ?_,fun hc19 => ?_⟩
   ·refine .q 5 hG ?_
    refine .ad (by first|omega|(simp;done)|(simp;omega)|(simp at *;omega)) (by first|omega|(simp;done)|(simp;omega)|(simp at *;omega)) (.p (.a5w (.i a8) (.t a8) ?_))
    refine .km hG (a3l _ _ _ (by assumption) (by first|omega|(simp;done)|(simp;omega)|(simp at *;omega)) (by first|omega|(simp;done)|(simp;omega)|(simp at *;omega))) .z (by rintro _ _ ⟨_,rfl⟩;exact⟨_,rfl⟩) fun r26 B26 hr26 => ?_
    obtain⟨rfl,hB⟩:=hr26
    cases hB
    refine .sb (by first|omega|(simp;done)|(simp;omega)|(simp at *;omega)) (by first|omega|(simp;done)|(simp;omega)|(simp at *;omega)) ?_
    refine .q 3 hG ?_
    refine .e1 a8 a8 ?_
    refine⟨_,?_,?_,_,Q7 hok1,a8,a8⟩<;>omega
   ·refine .q 5 hG ?_
    refine .ad (by first|omega|(simp;done)|(simp;omega)|(simp at *;omega)) (by first|omega|(simp;done)|(simp;omega)|(simp at *;omega)) ?_
    refine .km hG (a3l _ _ _ (by assumption) (by first|omega|(simp;done)|(simp;omega)|(simp at *;omega)) (by first|omega|(simp;done)|(simp;omega)|(simp at *;omega))) .z (by rintro _ _ ⟨_,rfl⟩;exact⟨_,rfl⟩) fun r31 B31 hr31 => ?_
    obtain⟨rfl,hB⟩:=hr31
    cases hB
    refine .q 3 hG ?_
    refine .e1 a8 a8 ?_
    refine⟨_,?_,?_,_,Q7 hok1,a8,a8⟩<;>omega
def c2g (f:Nat→UInt8) (b:List UInt8) (k:Nat):List UInt8:=(b.take k).mapIdx (fun i c=>c ^^^ f i)++b.drop k
def b4w (key:Tag) (nb:List UInt8) (k:Nat):Tag:=a1g key.l (a4w.l++nb++S0 (UInt64.ofInt (k:Int)) 8)
def b7D (key:Tag) (nb:List UInt8) (i:Nat):UInt8:=(b4w key nb (i/32)).l.getD (i % 32) 0
theorem b3a (k:Tag) (F9:UInt64) (i:Nat):b7D k (S0 F9 8) i=V5 k F9 i:=by
 unfold b7D V5 b4w a5L
 have e:UInt64.ofInt ((i/32:Nat):Int)=UInt64.ofNat (i/32):=by
  apply UInt64.toNat_inj.1
  simp [UInt64.ofInt];omega
 rw [List.append_assoc,e]
theorem a6P (k:Tag) (F9:UInt64) (p:List UInt8) (m:Nat):c2g (b7D k (S0 F9 8)) p m=J9 k F9 p m:=by
 unfold c2g J9
 rw [show b7D k (S0 F9 8)=V5 k F9 from funext fun i=>b3a k F9 i]
theorem a13 (k:Tag) (n:Int) (p:List UInt8):(U5 k n p).length=p.length+40:=by
 simp [U5,R8,E4,M0,(a1g k.l _).len];omega
def I4 (n:Nat):List UInt8:=if n < 128 then [UInt8.ofNat n] else UInt8.ofNat (n % 128+128)::I4 (n/128)
termination_by n
theorem a1y {n:Nat} (h:n < 128):I4 n = [UInt8.ofNat n]:=by rw [I4,if_pos h]
theorem a3r {n:Nat} (h:¬n < 128):I4 n=UInt8.ofNat (n % 128+128)::I4 (n/128):=by rw [I4,if_neg h]
theorem a38 (k n:Nat) (h:n < 128^(k+1)):(I4 n).length≤k+1:=by
 induction k generalizing n with
 | zero=>rw [a1y (by simpa using h)];simp
 | succ k ih =>
  by_cases h1:n < 128
  ·rw [a1y h1];simp
  ·rw [a3r h1,List.length_cons]
   have:=ih (n/128) (by rw [Nat.pow_succ] at h;omega)
   omega
theorem B1 {n:Nat} (h:n≤281474976710656):(I4 n).length≤7:=a38 6 n (by omega)
theorem b7E (n:Nat):0 < (I4 n).length:=by
 rw [I4];split<;>simp
theorem b7F (n:Nat):n &&& 127=n % 128:=Nat.and_two_pow_sub_one_eq_mod n 7
theorem c3A {n:Nat} (h:n < 128):n ||| 128=n+128:=by
 have:=Nat.two_pow_add_eq_or_of_lt (i:=7) (b:=n) (by simpa using h) 1
 rw [Nat.or_comm];simpa [Nat.add_comm] using this.symm
theorem a3s (n:Nat):UInt8.ofInt (n:Int)=UInt8.ofNat n:=by apply UInt8.toNat_inj.1;simp [UInt8.ofInt];omega
def b3b (n:Int):Bool:=decide (n < 0)||decide (281474976710656 < n)
theorem a94 {n:Int} (h0:0≤n) (h1:n≤281474976710656):b3b n=false:=by unfold b3b;simp;omega
theorem a2m (n:Int) (h0:0≤n) (h1:n≤281474976710656):G0 gl prog 77 [.v n] [] (fun r Hs=>∃ u,r = .raw u∧Hs = [.own 5 u (I4 n.toNat)]):=by
 have hlen:=B1 (n:=n.toNat) (by omega)
 refine G0.a6n func77 rfl (by kernel_rfl) 20 rfl rfl _ rfl _ rfl fun C hC hG => ?_
 refine .q 2 hG ?_
 refine .p (.assign .raw ?_)
 refine .q 3 hG ?_
 refine .p (.assign .raw (.a0Q 5 UInt8 ?_))
 refine .q 3 hG ?_
 refine .E1 (α:=Nat×Value×List UInt8) [] (fun x R=>(0,.v (x.1:Int))::(3,.raw x.2.1)::R) (fun x => [(true,.own 5 x.2.1 x.2.2)]) (fun x=>x.2.2++I4 x.1=I4 n.toNat) (fun x=>x.1) ((n.toNat,.slice none 0 0,[])) (.nil _) ?_ (.cons (congrArg (fun q=>some (AV.v q)) (by dsimp only;omega)) (.cons a8 (.nil _))) (a8) fun x hF => ?_
 ·rfl
 obtain⟨k,w,l⟩:=x
 dsimp only at hF ⊢
 have hl9:=congrArg List.length hF
 rw [List.length_append] at hl9
 refine .q 7 hG ⟨fun hc5 => ?_,fun hc5 => ?_⟩
 ·refine .q 6 hG ?_
  refine .p (.rem (.t a8) (.i a8) (by first|omega|(simp;done)|(simp;omega)|(simp at *;omega)) (by first|omega|(simp;done)|(simp;omega)|(simp at *;omega)) ?_)
  refine .ad (by first|omega|(simp;done)|(simp;omega)|(simp at *;omega)) (by first|omega|(simp;done)|(simp;omega)|(simp at *;omega)) ?_
  refine .q 1 hG ?_
  refine .bs a8 (by decide) fun b11 => ?_
  refine .ap (by first|omega|(simp;done)|(simp;omega)|(simp at *;omega)) (by first|omega|(simp;done)|(simp;omega)|(simp at *;omega)) fun w12 => ?_
  refine .q 1 hG ?_
  refine .drop ?_
  refine .q 3 hG ?_
  refine .p (.quo (.t a8) (.i a8) (by first|omega|(simp;done)|(simp;omega)|(simp at *;omega)) (by first|omega|(simp;done)|(simp;omega)|(simp at *;omega)) ?_)
  refine .q 2 hG ?_
  refine⟨(k/128,w12,_),.cons (congrArg (fun q=>some (AV.v q)) (by dsimp only;omega)) (.cons rfl (.nil _)),rfl,?_,by dsimp only;omega⟩
  dsimp only;rw [←hF,a3r (n:=k) (by omega),List.append_assoc,show((k:Int) % 128+128)=((k % 128+128:Nat):Int) by omega,a3s];rfl
 ·refine .q 6 hG ?_
  refine .bs a8 (by decide) fun b18 => ?_
  refine .ap (by first|omega|(simp;done)|(simp;omega)|(simp at *;omega)) (by first|omega|(simp;done)|(simp;omega)|(simp at *;omega)) fun w19 => ?_
  refine .q 3 hG ?_
  refine .e1 a8 a8 ?_
  exact⟨1,_,rfl,by rw [←hF,a1y (n:=k) (by omega),←a3s];rfl⟩
theorem E6 (n:Int) (h0:0≤n) (h1:n≤281474976710656):p6 gl prog 77 [.v n] (fun r=>r = .v (I4 n.toNat)):=(a2m n h0 h1).a9Q
theorem a7P (b:List UInt8) (hb:b.length≤1000000):G0 gl prog 176 [.v b] [] (fun r Hs=>∃ u,r = .raw u∧Hs = [.own 5 u b]):=by
 refine G0.R1 func176 rfl (by kernel_rfl) 8 rfl rfl _ rfl _ rfl fun C hC hG => ?_
 refine .q 2 hG ?_
 refine .p (.assign .raw ?_)
 refine .q 5 hG ?_
 refine .p (.c1Z underlying64 (.t a8) fun c4 hn4 => ?_)
 refine .q 1 hG ?_
 refine .cond (.t a8) (fun hc4 => ?_) (fun hc4 => ?_)
 ·refine .q 2 hG ?_
  refine .p (.assign .raw ?_)
  refine .q 1 hG ?_
  refine .a0Q 5 UInt8 ?_
  refine .q 1 hG ?_
  refine .e1 a8 a8 ?_
  refine⟨_,.cons .z (.nil),?_⟩
  rw [hn4 hc4];exact⟨_,rfl,rfl⟩
 ·refine .q 3 hG ?_
  refine .h (.buildSlice (α:=UInt8) ty5 underlying64 .nil a8 (by decide) fun b5 => ?_)
  refine .q 1 hG ?_
  refine .ap (by first|omega|(simp;done)|(simp;omega)|(simp at *;omega)) (by first|omega|(simp;done)|(simp;omega)|(simp at *;omega)) fun w7 => ?_
  refine .q 3 hG ?_
  refine .e1 a8 a8 ?_
  refine⟨_,.cons .z (.nil),?_⟩
  rw [List.nil_append];exact⟨w7,rfl,rfl⟩
theorem c4L (k:Nat):((k:Int) >>> (7:Nat))=((k/128:Nat):Int):=by rw [Int.shiftRight_eq_div_pow];rfl
theorem a0R (b:List UInt8) (n:Int) (hb:b.length≤900000) (h0:0≤n) (h1:n≤281474976710656):G0 gl prog 150 [.v b,.v n] [] (fun r Hs=>∃ u,r = .t2 (.raw u) (.v (0:Int))∧Hs = [.own 5 u (b++I4 n.toNat)]):=by
 have hlen:=B1 (n:=n.toNat) (by omega)
 refine G0.a6n func150 rfl (by kernel_rfl) 31 rfl rfl _ rfl _ rfl fun C hC hG => ?_
 refine .q 2 hG ?_
 refine .p (.assign .raw ?_)
 refine .q 12 hG ?_
 refine .cond (.t a8) (fun hc12=>(by exfalso;have hbad:=a94 h0 h1;unfold b3b at hbad;rw [hbad] at hc12;cases hc12)) (fun hc12 => ?_)
 refine .q 4 hG ?_
 refine .k0 hG (a7P _ (by first|omega|(simp;done)|(simp;omega)|(simp at *;omega))) fun r14 Hs14 hr14 => ?_
 obtain⟨u14,rfl,rfl⟩:=hr14
 show D1 _ _ _ _ _ _ _ ((true,_)::_)
 refine .q 4 hG ?_
 refine .E1 (α:=Nat×Value×List UInt8) [] (fun x R=>(1,.v (x.1:Int))::(6,.raw x.2.1)::R) (fun x => [(true,.own 5 x.2.1 x.2.2)]) (fun x=>x.2.2++I4 x.1=b++I4 n.toNat) (fun x=>x.1) ((n.toNat,u14,b)) (.nil _) ?_ (.cons (congrArg (fun q=>some (AV.v q)) (by dsimp only;omega)) (.cons a8 (.nil _))) (a8) fun x hF => ?_
 ·rfl
 obtain⟨k,w,l⟩:=x
 dsimp only at hF ⊢
 have hl9:=congrArg List.length hF
 rw [List.length_append,List.length_append] at hl9
 have hk9:=b7E k
 refine .q 7 hG ⟨fun hc16 => ?_,fun hc16 => ?_⟩
 ·refine .q 3 hG ?_
  have hb6:=b7F k;have hc6:k % 128 < 128:=Nat.mod_lt _ (by decide)
  refine .q 3 hG ?_
  refine .p (.c4K (.t a8) (.i a8) (by first|omega|(simp;done)|(simp;omega)|(simp at *;omega)) (by first|omega|(simp;done)|(simp;omega)|(simp at *;omega)) (.p (.orI (.t a8) (.i a8) (by first|omega|(simp;done)|(simp;omega)|(simp at *;omega)) (by first|omega|(simp;done)|(simp;omega)|(simp at *;omega)) ?_)))
  refine .q 1 hG ?_
  refine .bs a8 (by decide) fun b24 => ?_
  refine .ap (by first|omega|(simp;done)|(simp;omega)|(simp at *;omega)) (by first|omega|(simp;done)|(simp;omega)|(simp at *;omega)) fun w25 => ?_
  refine .q 1 hG ?_
  refine .drop ?_
  refine .q 3 hG ?_
  refine .p (.c3z (.t a8) (.u64 7 a8) (by decide) ?_)
  refine .q 2 hG ?_
  refine⟨(k/128,w25,_),.cons (congrArg (fun q=>some (AV.v q)) (c4L k)) (.cons rfl (.nil _)),rfl,?_,by dsimp only;omega⟩
  dsimp only;rw [←hF,a3r (n:=k) (by omega),List.append_assoc];show l++([UInt8.ofInt (((k &&& 127) ||| 128:Nat):Int)]++I4 (k/128))=_;rw [b7F,c3A (Nat.mod_lt _ (by decide)),a3s];rfl
 ·refine .q 6 hG ?_
  refine .bs a8 (by decide) fun b29 => ?_
  refine .ap (by first|omega|(simp;done)|(simp;omega)|(simp at *;omega)) (by first|omega|(simp;done)|(simp;omega)|(simp at *;omega)) fun w30 => ?_
  refine .q 4 hG ?_
  refine .e2 a8 a8 a8 ?_
  exact⟨1,_,rfl,by rw [←hF,a1y (n:=k) (by omega),←a3s];rfl⟩
theorem a8Q (b x:List UInt8) (hb:b.length≤800000) (hx:x.length≤1024):G0 gl prog 100 [.v b,.v x] [] (fun r Hs=>∃ u,r = .t2 (.raw u) (.v (0:Int))∧Hs = [.own 5 u (b++I4 x.length++x)]):=by
 have hlen:=B1 (n:=x.length) (by omega)
 refine G0.R1 func100 rfl (by kernel_rfl) 22 rfl rfl _ rfl _ rfl fun C hC hG => ?_
 refine .q 12 hG ?_
 refine .R4 (.t a8) (fun hc10=>(by exfalso;omega)) (fun hc10 => ?_)
 refine .q 6 hG ?_
 refine .k0 hG (a0R _ _ (by first|omega|(simp;done)|(simp;omega)|(simp at *;omega)) (by first|omega|(simp;done)|(simp;omega)|(simp at *;omega)) (by first|omega|(simp;done)|(simp;omega)|(simp at *;omega))) fun r15 Hs15 hr15 => ?_
 obtain⟨u15,rfl,rfl⟩:=hr15
 show D1 _ _ _ _ _ _ _ ((true,_)::_)
 refine .q 10 hG ?_
 refine .ap (by first|omega|(simp;done)|(simp;omega)|(simp at *;omega)) (by first|omega|(simp;done)|(simp;omega)|(simp at *;omega)) fun w20 => ?_
 refine .q 5 hG ?_
 refine .e2 a8 a8 a8 ?_
 refine⟨_,.cons .z (.nil),?_⟩
 exact⟨_,a8,a8⟩
theorem a95 (b x:List UInt8) (hb:b.length≤800000) (hx:x.length≤1024):p6 gl prog 100 [.v b,.v x] (fun r=>r = .t2 (.v (b++I4 x.length++x)) (.v (0:Int))):=(a8Q b x hb hx).b7B
theorem b3c (x:List UInt8) (hx:x.length≤1000000):G0 gl prog 153 [.v x] [] (fun r Hs=>∃ u,r = .raw u∧Hs = [.own 5 u (I4 x.length++x)]):=by
 have hlen:=B1 (n:=x.length) (by omega)
 refine G0.R1 func153 rfl (by kernel_rfl) 8 rfl rfl _ rfl _ rfl fun C hC hG => ?_
 refine .q 8 hG ?_
 refine .k0 hG (a2m _ (by first|omega|(simp;done)|(simp;omega)|(simp at *;omega)) (by first|omega|(simp;done)|(simp;omega)|(simp at *;omega))) fun r5 Hs5 hr5 => ?_
 obtain⟨u5,rfl,rfl⟩:=hr5
 show D1 _ _ _ _ _ _ _ ((true,_)::_)
 refine .q 1 hG ?_
 refine .ap (by first|omega|(simp;done)|(simp;omega)|(simp at *;omega)) (by first|omega|(simp;done)|(simp;omega)|(simp at *;omega)) fun w7 => ?_
 refine .q 3 hG ?_
 refine .e1 a8 a8 ?_
 refine⟨_,.cons .z (.nil),?_⟩
 exact⟨_,a8,a8⟩
theorem a0o (x:List UInt8) (hx:x.length≤1000000):p6 gl prog 153 [.v x] (fun r=>r = .v (I4 x.length++x)):=(b3c x hx).a9Q
end Go.Proofs.YtalibdhdngbbcaaGreatDoor
namespace Go.Ab
open Go.Fl Go.RowKit
open p2 (rep)
def EqT (P:Program) (T:TypeId) (k:Nat) (α:Type) [p2 α] [DecidableEq α]:Prop :=
 ∀ (d:Nat) (I:Im) (x y:α) (cs ds:List Value) (w:World),rep I x cs→rep I y ds→(Op.equalIn (d+k) T (asV (p2.agg α) cs) (asV (p2.agg α) ds)).run P w = .ok (decide (x=y)) w
variable {P:Program} {T E:TypeId}
theorem EqT.i64 (hT:P.underlying T=some (.int .i64)):EqT P T 1 Int:=fun d I x y cs ds w hx hy=>by
 obtain⟨rfl,_⟩:=hx
 obtain⟨rfl,_⟩:=hy
 exact a3P w d hT
theorem EqT.u64 (hT:P.underlying T=some (.int .u64)):EqT P T 1 UInt64:=fun d I x y cs ds w hx hy=>by
 obtain rfl:=hx
 obtain rfl:=hy
 refine(a3P w d hT).trans ?_
 congr 1
 rw [decide_eq_decide]
 exact⟨fun h=>UInt64.toNat_inj.1 (Int.ofNat_inj.1 h),fun h=>by rw [h]⟩
theorem EqT.str (hT:P.underlying T=some .string):EqT P T 1 T5:=fun d I x y cs ds w hx hy=>by
 obtain⟨⟨a,rfl,ha⟩,_⟩:=hx
 obtain⟨⟨b,rfl,hb⟩,_⟩:=hy
 refine(run_equalIn_string w d T a b hT).trans ?_
 rw [b2O ha hb]
theorem EqT.a9L {n:Nat} (hT:P.underlying T=some (.array n E)) (hs:D7 P E 1) (hE:P.underlying E=some (.int .u8)):EqT P T 2 (K5 n UInt8):=fun d I x y cs ds w hx hy=>by
 obtain rfl:=a00.1 hx
 obtain rfl:=a00.1 hy
 unfold D7 at hs
 cases hi:P.info? E with
 | none=>simp [hi] at hs
 | some inf =>
  have hc:P.cellsOf E=1:=by simp [hi] at hs;simp [Program.cellsOf,hi,hs]
  have e1:∀ l:List UInt8,C5 l=(l.map fun c=>(c.toNat:Int)).map (Value.int .u8):=fun l=>by simp [C5,Fl.u8]
  have h1:=run_equalIn_array (P:=P) w (d+1) (C5 x.l).toArray (C5 y.l).toArray hT hi
  have h2:∀ (ags bs:List Int),ags.length=n→bs.length=n→(Op.eqItems (d+1) E 1 (ags.map (Value.int .u8)).toArray (bs.map (Value.int .u8)).toArray (List.range n)).run P w = .ok (decide (ags=bs)) w:=fun ags bs ha hb=>by
   rw [←ha,a0M w d hE ags bs (by omega) _ (fun i hi=>List.mem_range.1 hi),a5y ags bs (by omega)]
  rw [hc,e1,e1,h2 _ _ (by simp) (by simp)] at h1
  refine(show(Op.equalIn (d+2) T (.agg (C5 x.l).toArray) (.agg (C5 y.l).toArray)).run P w=_ from ?_)
  rw [e1,e1,h1]
  congr 1
  rw [decide_eq_decide]
  refine(a6F _ (fun a b h=>UInt8.toNat_inj.1 (Int.ofNat_inj.1 h)) x.l y.l).trans ?_
  exact⟨K5.ext,fun h=>by rw [h]⟩
inductive EqF (P:Program) (k:Nat):List Field→Nat→(β:Type)→(s:p2 β)→DecidableEq β→Prop
  | nil {off:Nat}:EqF P k [] off Unit inferInstance inferInstance
  | cons {f : Field} {fs : List Field} {off : Nat} {α β : Type} {r : p2 α} {s : p2 β} {d1 : DecidableEq α} {d2 : DecidableEq β} {dd : TypeDesc} (h1 : f.offset = off) (hn : (f.name ≠ "_") = true) (hT : P.underlying f.type = some dd) (ha : a0E dd = p2.agg α) (hz : D7 P f.type (p2.size α))
      (h2:EqT P f.type k α) (t:EqF P k fs (off+p2.size α) β s d2):EqF P k (f::fs) off (α×β) inferInstance inferInstance
theorem EqF.run {k : Nat} {fs : List Field} {off : Nat} {β : Type} {s : p2 β} {dec : DecidableEq β} (h : EqF P k fs off β s dec) : ∀ (d : Nat) (I : Im) (x y : β) (cs ds : List Value) (w : World), rep I x (cs.drop off) → rep I y (ds.drop off) →
    (Op.eqFields (d+k) cs.toArray ds.toArray fs).run P w = .ok (decide (x=y)) w:=by
  induction h with
  | nil=>intro d I x y cs ds w _ _;rfl
  | @cons f fs off α β r s d1 d2 dd h1 hn hT ha hz h2 t ih =>
    intro d I x y cs ds w hx hy
    obtain⟨c1,r1,e1,q1,q2⟩:=hx
    obtain⟨c2,r2,e2,q3,q4⟩:=hy
    have hp:∀ (zs c rr:List Value) (a:α),zs.drop off=c++rr→rep I a c→(part f.type zs.toArray f.offset).run P w = .ok (asV (p2.agg α) c) w:=fun zs c rr a e hc=>by
      have hl:=p2.len hc
      have hseg:H7 zs off (p2.size α)=c:=by rw [H7,e,←hl];simp
      obtain⟨g1,g2⟩:=b0C (P:=P) (cs:=zs) (off:=f.offset) hT hz w
      rw [h1] at g1 g2 ⊢
      cases hag:p2.agg α with
      | true =>
        rw [g1 (by rw [ha,hag]),hseg];rfl
      | false =>
        have hone:c.length=1:=by rw [hl];exact p2.one hag
        cases c with
        | nil=>simp at hone
        | cons v c =>
          have:c = []:=by simpa using hone
          subst this
          refine g2 v (by rw [ha,hag]) ?_
          have:(zs.drop off)[0]?=some v:=by rw [e];rfl
          simpa using this
    have hdrop:∀ (zs c rr:List Value) (a:α),zs.drop off=c++rr→rep I a c→zs.drop (off+p2.size α)=rr:=fun zs c rr a e hc=>by
      rw [←List.drop_drop,e,←p2.len hc];simp
    have hn':f.name ≠ "_" := by simpa using hn
    simp only [Op.eqFields,if_pos hn',Sem.run_bind,hp cs c1 r1 x.1 e1 q1,hp ds c2 r2 y.1 e2 q3,Result.andThen_ok,h2 d I x.1 y.1 c1 c2 w q1 q3]
    by_cases e:x.1=y.1
    · simp only [e,decide_true,Bool.not_true,Bool.false_eq_true,if_false]
      rw [ih d I x.2 y.2 cs ds w (by rw [hdrop cs c1 r1 x.1 e1 q1];exact q2) (by rw [hdrop ds c2 r2 y.1 e2 q3];exact q4)]
      congr 1
      rw [decide_eq_decide]
      exact⟨fun h=>Prod.ext e h,fun h=>by rw [h]⟩
    · simp only [e,decide_false,Bool.not_false,if_true,Sem.run_pure]
      congr 1
      symm
      rw [decide_eq_false_iff_not]
      exact fun h=>e (by rw [h])
theorem EqT.struct {S β:Type} [s:p2 β] [dS:DecidableEq S] {dec:DecidableEq β} {k:Nat} {fs:Array Field} (f:S→β) (hf:∀ a b,f a=f b→a=b) (hT0:P.underlying T=some (.struct fs)) (hp:P.stoodInHeld T=false) (h:EqF P k fs.toList 0 β s dec) : @EqT P T (k+1) S (p2.via f) dS:=by
 letI:p2 S:=p2.via f
 intro d I x y cs ds w hx hy
 have hfs:P.fieldsOf T=fs:=by unfold Program.fieldsOf;rw [hT0]
 have hT:P.underlying T=some (.struct (P.fieldsOf T)):=by rw [hfs];exact hT0
 have hx':rep I (f x) cs:=hx
 have hy':rep I (f y) ds:=hy
 refine(run_equalIn_struct w (d+k) T cs.toArray ds.toArray hT hp).trans ?_
 rw [hfs,h.run d I (f x) (f y) cs ds w (by simpa using hx') (by simpa using hy')]
 congr 1
 rw [decide_eq_decide]
 exact⟨hf _ _,fun h=>by rw [h]⟩
variable {N:Nat} {C:Ctx} {σ:x5} {H:j7} {K:AV→Prop} {d:Option Nat} {ty:TypeId} {ps:String} {af:Array Edge} {g:Option (Nat×Bool)} {x y:Operand} {T2:TypeId}
theorem j5.a1s {α : Type} {r : p2 α} {dd : DecidableEq α} {k0 : Nat} {a b : α} (he : EqT P T k0 α) (hk : Nat.ble k0 10000 = true) (hag : p2.agg α = true) (hg : P.eqGuardType P.depth T = false) (hx : D5 C σ H x (.v a)) (hy : D5 C σ H y (.v b)) (k : K (.v (decide (a = b)))) :
    j5 P N C ⟨d,.binOp .eql T x y T2,ty,ps,af,g⟩ σ H K :=
  .vk k (fun ρ I L hst => .mk ⟨[.bool (decide (a=b))],rfl,rfl⟩ fun ac w ha hm=>by
    obtain⟨u,h1,cs,h2,rfl⟩:=hx ρ I L hst
    obtain⟨v,h3,ds,h4,rfl⟩:=hy ρ I L hst
    have hke:10000 - k0+k0=10000:=by have:=Nat.le_of_ble_eq_true hk;omega
    have he':=he (10000 - k0) I a b cs ds w h2 h4
    rw [hke] at he'
    rw [hag] at he' h1 h3
    have h5:=run_eql_struct (P:=P) w T cs.toArray ds.toArray
    rw [show(Op.equalIn 10000 T (.agg cs.toArray) (.agg ds.toArray)).run P w=_ from he'] at h5
    have h1':ev ρ x=some (.agg cs.toArray):=h1
    have h3':ev ρ y=some (.agg ds.toArray):=h3
    simp only [execOp,ha.ev h1',ha.ev h3',Sem.run_bind,a57 w hg,h5,Result.andThen_ok,Sem.run_pure]
    rfl)
theorem j5.c4M {α : Type} {r : p2 α} {dd : DecidableEq α} {k0 : Nat} {a b : α} (he : EqT P T k0 α) (hk : Nat.ble k0 10000 = true) (hag : p2.agg α = true) (hg : P.eqGuardType P.depth T = false) (hx : D5 C σ H x (.v a)) (hy : D5 C σ H y (.v b)) (k : K (.v (decide (a ≠ b)))) :
    j5 P N C ⟨d,.binOp .neq T x y T2,ty,ps,af,g⟩ σ H K :=
  .vk k (fun ρ I L hst => .mk ⟨[.bool (decide (a≠b))],rfl,rfl⟩ fun ac w ha hm=>by
    obtain⟨u,h1,cs,h2,rfl⟩:=hx ρ I L hst
    obtain⟨v,h3,ds,h4,rfl⟩:=hy ρ I L hst
    have hke:10000 - k0+k0=10000:=by have:=Nat.le_of_ble_eq_true hk;omega
    have he':=he (10000 - k0) I a b cs ds w h2 h4
    rw [hke] at he'
    rw [hag] at he' h1 h3
    have h5:=run_neq_struct (P:=P) w T cs.toArray ds.toArray
    rw [show(Op.equalIn 10000 T (.agg cs.toArray) (.agg ds.toArray)).run P w=_ from he'] at h5
    have h1':ev ρ x=some (.agg cs.toArray):=h1
    have h3':ev ρ y=some (.agg ds.toArray):=h3
    simp only [execOp,ha.ev h1',ha.ev h3',Sem.run_bind,a57 w hg,h5,Result.andThen_ok,Sem.run_pure]
    by_cases e:a=b<;>simp [e,asV,p2.agg])
end Go.Ab
namespace Go.Proofs.YtalibdhdngbbcaaGreatDoor
open Go.Proofs.Tryz
open Go.Ab Go.Mac
theorem T9:EqT prog 79 2 j2 := .struct j2.f (fun a b h=>by cases a;cases b;simpa [j2.f] using h) underlying79 (by kernel_rfl) (.cons rfl (by simp) underlying3 rfl (.of (by kernel_rfl)) (.i64 underlying3) (.cons rfl (by simp) underlying54 rfl (.of (by kernel_rfl)) (.u64 underlying54) (.cons rfl (by simp) underlying3 rfl (.of (by kernel_rfl)) (.i64 underlying3) (.cons rfl (by simp) underlying3 rfl (.of (by kernel_rfl)) (.i64 underlying3) (.cons rfl (by simp) underlying9 rfl (.of (by kernel_rfl)) (.str underlying9) (.cons rfl (by simp) underlying3 rfl (.of (by kernel_rfl)) (.i64 underlying3) .nil))))))
theorem c3B:EqT prog 89 2 u0 := .struct u0.f (fun a b h=>by cases a;cases b;simpa [u0.f] using h) underlying89 (by kernel_rfl) (.cons rfl (by simp) underlying3 rfl (.of (by kernel_rfl)) (.i64 underlying3) (.cons rfl (by simp) underlying3 rfl (.of (by kernel_rfl)) (.i64 underlying3) .nil))
end Go.Proofs.YtalibdhdngbbcaaGreatDoor
namespace Go.Ab
open Go.Fl Go.RowKit
open p2 (rep)
structure OF (α:Type) where
 E:TypeId
 l:List α
 own:Bool
instance {α:Type} [p2 α]:UB (OF α) where
 ub I w x X:=(x.own=false∧X = []∧F8 I (.v x.l) w)∨(x.own=true∧(D8.own x.E w x.l).a69 I X)
 mono hle h:=h.elim (fun h => .inl ⟨h.1,h.2.1,h.2.2.mono hle⟩) (fun h => .inr ⟨h.1,D8.mono hle h.2⟩)
theorem c2h {α:Type} [p2 α] {I J:Im} {w:Value} {x:OF α} {X:List (Nat×Obj)} (h:(D8.usr w x).a69 I X) (hle:Le I J) (hp:∀ p∈X,J p.1=some p.2):F8 J (.v x.l) w:=by
 rcases h with ⟨_,_,h⟩|⟨_,h⟩
 ·exact h.mono hle
 ·exact S6 h hle hp
section rules
variable {P:Program} {C:Ctx} {N:Nat} {σ:x5} {H:j7} {Q:Exit→x5→j7→Prop}
theorem I9.H5 {α:Type} {r:p2 α} (E:TypeId) {w:Value} {l:List α} {b:Bool} {c:Code} {F:Bool×D8→j7} (hH:y4 H (b,.fz w (.v l)) F) (k:I9 P C N c Q σ (F (b,.usr w (OF.mk E l false)))):I9 P C N c Q σ H:=fun ρ I L hs=>by
 obtain⟨i,X,h2,h3,h4⟩:=hH.get hs.heap
 have hset:L.set i X=L:=by
  obtain⟨hi,e⟩:=List.getElem?_eq_some_iff.1 h2
  rw [←e,List.set_getElem_self]
 have:=h4 I (b,.usr w (OF.mk E l false)) X (Le.refl I) ⟨.inl ⟨rfl,h3.1.1,h3.1.2⟩,h3.2⟩
 rw [hset] at this
 exact k ρ I L ⟨hs.env,this,hs.W3⟩
theorem I9.c1e {α:Type} {r:p2 α} {E:TypeId} {w:Value} {l:List α} {b:Bool} {c:Code} {F:Bool×D8→j7} (hH:y4 H (b,.own E w l) F) (k:I9 P C N c Q σ (F (b,.usr w (OF.mk E l true)))):I9 P C N c Q σ H:=fun ρ I L hs=>by
 obtain⟨i,X,h2,h3,h4⟩:=hH.get hs.heap
 have hset:L.set i X=L:=by
  obtain⟨hi,e⟩:=List.getElem?_eq_some_iff.1 h2
  rw [←e,List.set_getElem_self]
 have:=h4 I (b,.usr w (OF.mk E l true)) X (Le.refl I) ⟨.inr ⟨rfl,h3.1⟩,h3.2⟩
 rw [hset] at this
 exact k ρ I L ⟨hs.env,this,hs.W3⟩
theorem I9.c1f {α:Type} {r:p2 α} {w:Value} {s:OF α} (ho:s.own=true) {b:Bool} {c:Code} {F:Bool×D8→j7} (hH:y4 H (b,.usr w s) F) (k:I9 P C N c Q σ (F (b,.own s.E w s.l))):I9 P C N c Q σ H:=fun ρ I L hs=>by
 obtain⟨i,X,h2,h3,h4⟩:=hH.get hs.heap
 have hset:L.set i X=L:=by
  obtain⟨hi,e⟩:=List.getElem?_eq_some_iff.1 h2
  rw [←e,List.set_getElem_self]
 have h5:(D8.own s.E w s.l).a69 I X:=by
  rcases h3.1 with h|h
  ·rw [ho] at h;cases h.1
  ·exact h.2
 have:=h4 I (b,.own s.E w s.l) X (Le.refl I) ⟨h5,h3.2⟩
 rw [hset] at this
 exact k ρ I L ⟨hs.env,this,hs.W3⟩
theorem I9.c1g (hC:Ctx.Ok C) {α:Type} {r:p2 α} {w:Value} {s:OF α} {c:Code} {F:Bool×D8→j7} (hH:y4 H (true,.usr w s) F) (k:I9 P C N c Q σ (F (true,.fz w (.v s.l)))):I9 P C N c Q σ H:=fun ρ I L hs=>by
 obtain⟨i,X,h1,h2,h3⟩:=hH.get hs.heap
 refine .freeze i h1 (a5b hC h2) fun J hle hp=>k ρ J _ ⟨(hs.mono hle).env,h3 J _ [] hle ⟨⟨rfl,c2h h2.1 hle hp⟩,by simp⟩,hs.W3.trans hle⟩
end rules
theorem j5.c1h {P : Program} {C : Ctx} {N : Nat} {σ : x5} {H : j7} {K : AV → Prop} {d : Option Nat} {ty : TypeId} {ps : String} {af : Array Edge} {g : Option (Nat × Bool)} {x y : Operand} {T T2 : TypeId} {m n : UInt64}
    (hx:D5 C σ H x (.v m)) (hy:D5 C σ H y (.v n)) (k:K (.v (decide (m < n)))):j5 P N C ⟨d,.binOp .lss T x y T2,ty,ps,af,g⟩ σ H K :=
  .vk k (fun ρ I L hs => .lss (hx.a0l hs) (hy.a0l hs) ⟨_,rfl,by rw [b0V];rfl⟩)
theorem D5.a8R {P:Program} {C:Ctx} {σ:x5} {H:j7} {G:Gl} {f:FuncId} (hG:G.p C.I0) {α β:Type} [p2 α] [p2 β] {g1:α→β} (h:∀ x:α,p6 G P f [.v x] (fun r=>r = .v (g1 x))):D5 C σ H (.func f) (.a6k P g1) :=
 show D5 C σ H (.func f) (.clo P (fun x:α => [.v x]) (fun x => .v (g1 x))) from D5.c4v hG h
theorem B3.b4x {P : Program} {C : Ctx} {N : Nat} {σ : x5} {H : j7} {KH : AV → j7 → Prop} {d : Option Nat} {ty : TypeId} {ps : String} {af : Array Edge} {g : Option (Nat × Bool)} {y : Operand} {T E U : TypeId} {α : Type} {r : p2 α} {i0 : Inhabited α} {by_ t : Nat} {w : Value} {l m : List α} {bb : Bool} {F : Bool × D8 → j7} (st : SlT P T E α by_) (hU : (∃ E2, P.underlying U = some (.slice E2)) ∨ P.underlying U = some .string) (hx : F0 σ t = some (.raw w))
    (hH:y4 H (bb,.own E w l) F) (hy:a8n P C σ H y m) (hb:(l.length+m.length)*by_≤140737488355328) (hn:l.length+m.length≤9223372036854775807) (k:∀ w',KH (.raw w') (F (bb,.own E w' (l++m)))) :
    B3 P C N ⟨d,.call ⟨.builtin .append,#[.tmp t,y],#[T,U]⟩,ty,ps,af,g⟩ σ H KH:=fun ρ I L hs=>by
  obtain⟨u,h1,rfl⟩:=hs.env t _ hx
  obtain⟨v,news,h2,h3,h4⟩:=hy ρ I L hs
  obtain⟨j,X,h5,h6,h7⟩:=hH.get hs.heap
  obtain⟨xs,h8,h9⟩:=h6.1
  intro a w0 ha hst
  refine Yld.mono (OpS.b4e (K:=fun v' J L'=>∃ X',L'=L.set j X'∧J=I∧a1c E (p2.size α) v' (l.length+m.length) (xs++news) X'∧(∀ p∈X',p.1∈X.map Prod.fst∨C.w0.heap.size≤p.1)) j st.elt st.pos hU (x := .tmp t) h1 h2 h5 h8 h3 h4.flat (by unfold maxLen;omega) hb (fun v' X' ho hn=>⟨X',rfl,rfl,ho,hn⟩) a w0 ha hst) ?_
  rintro v' w' ⟨J,L',hst',X',rfl,rfl,ho,hnew⟩
  refine⟨J,_,hst',Le.refl J,.raw v',_,rfl,h7 J (bb,.own E v' (l++m)) X' (Le.refl J) ⟨⟨xs++news,by rw [List.length_append];exact ho,h9.append h4⟩,fun hbb p hp => ?_⟩,k v'⟩
  rcases hnew p hp with h|h
  · obtain⟨q,hq,hqe⟩:=List.mem_map.1 h
    rw [←hqe];exact h6.2 hbb q hq
  · exact h
inductive Del:j7→j7→Prop
 | z {B:Bool×D8} {H:j7}:Del (B::H) H
 | s {A:Bool×D8} {H H':j7} (h:Del H H'):Del (A::H) (A::H')
theorem Del.get {n0:Nat} {I:Im} {H H':j7} (h:Del H H'):∀ {L:Lh},U2 n0 I H L→∃ X L',([X]++L':Lh).flatten.Perm L.flatten∧U2 n0 I H' L':=by
 induction h with
 | z =>
  rintro _ ⟨X,R,rfl,h1,h2⟩
  exact⟨X,R,.refl _,h2⟩
 | s h ih =>
  rintro _ ⟨X,R,rfl,h1,h2⟩
  obtain⟨Y,L',h3,h4⟩:=ih h2
  refine⟨Y,X::L',?_,X,L',a8,h1,h4⟩
  simp only [List.singleton_append,List.flatten_cons] at h3 ⊢
  refine(List.Perm.trans ?_ (List.Perm.append_left X h3))
  simp only [←List.append_assoc]
  exact List.Perm.append_right _ List.perm_append_comm
section del
variable {P:Program} {C:Ctx} {N:Nat} {σ:x5} {H H':j7} {Q:Exit→x5→j7→Prop}
theorem I9.del {c:Code} (hd:Del H H') (k:I9 P C N c Q σ H'):I9 P C N c Q σ H:=fun ρ I L hs a w ha hst=>by
 obtain⟨X,L',hp,hr⟩:=hd.get hs.heap
 exact(wpS.forget (X := [X]) (k ρ I L' ⟨hs.env,hr,hs.W3⟩)) a w ha (b2Q hst hp)
theorem D1.del {ops:Array Oper} {os:List Oper} (hd:Del H H') (k:D1 P C N ops Q os σ H'):D1 P C N ops Q os σ H:=fun ρ I L hs hk a w ha hst=>by
 obtain⟨X,L',hp,hr⟩:=hd.get hs.heap
 exact(wpL.forget (X := [X]) (k ρ I L' ⟨hs.env,hr,hs.W3⟩)) hk a w ha (b2Q hst hp)
end del
end Go.Ab
namespace Go.Fl
section scope
variable {P:Program} {b:Frame} {a:Act} {k:List Item} {cs:List Frame} {w:World}
theorem a0e {c:Code}:step P (lone (b.atR a (.code (.scope c)::k)) cs w) = .next (lone (b.atR a (.code c :: .inScope c::k)) cs w) :=
 step_lone_go (by simp [stepG,stepG.exec,Frame.atR])
theorem a8u {c:Code}:step P (lone (b.atR a (.inScope c::k)) cs w) = .next (lone (b.atR a k) cs w) :=
 step_lone_go (by simp [stepG,stepG.exec,Frame.atR])
theorem b1t {F:Fence} {n:Nat} {Q Q':Exit→Act→World→Prop} {c:Code} (h:c.wpIn F n P Q' a w) (hq:∀ e a w,Q' e a w→Q e a w∧∀ l,e ≠ .goto l):(Code.scope c).wpIn F n P Q a w:=by
 intro b k cs hro hb hr
 have h0:(lone (b.atR a (.code (.scope c)::k)) cs w).fenced P F:=fenced_calm hb hr rfl
 obtain⟨e,a₁,w₁,hq1,harr⟩:=h b (.inScope c::k) cs hro hb hr
 obtain⟨hq2,hq3⟩:=hq e a₁ w₁ hq1
 cases e with
 | normal=>exact⟨.normal,a₁,w₁,hq2,.head h0 a0e (StepsIn.trans harr (.one (fenced_calm hb hr rfl) a8u))⟩
 | exit id =>
  have hx:exitTo id (.inScope c::k)=exitTo id k:=by simp [exitTo]
  exact⟨.exit id,a₁,w₁,hq2,fun k' hk => .head h0 a0e (harr.1 k' (by rw [hx];exact hk)),
   fun hr' hk=>let ⟨k₁,h1,h2⟩:=harr.2 hr' (by rw [hx];exact hk);⟨k₁,h1,.head h0 a0e h2⟩⟩
 | goto l=>exact absurd rfl (hq3 l)
 | ret=>exact⟨_,a₁,w₁,hq2,.of_steps (.one h0 a0e) harr⟩
 | panic ch=>exact⟨_,a₁,w₁,hq2,.of_steps (.one h0 a0e) harr⟩
 | outgrown=>exact⟨_,a₁,w₁,hq2,.of_steps (.one h0 a0e) harr⟩
end scope
end Go.Fl
namespace Go.Ab
open Go.Fl Go.RowKit
@[reducible] def c4N (Q:Exit→x5→j7→Prop):Exit→x5→j7→Prop
 | .goto _,_,_=>False
 | e,σ,H=>Q e σ H
theorem I9.scope {P:Program} {C:Ctx} {N:Nat} {σ:x5} {H:j7} {Q:Exit→x5→j7→Prop} {c:Code} (k:I9 P C N c (c4N Q) σ H):I9 P C N (.scope c) Q σ H:=fun ρ I L hs a w ha hst=>by
 refine b1t (k ρ I L hs a w ha hst) ?_
 rintro e a w ⟨ρ,I,L,h1,h2,σ,H,h3,h4⟩
 cases e with
 | goto l=>exact h4.elim
 | _=>exact⟨⟨ρ,I,L,h1,h2,σ,H,h3,h4⟩,fun l h=>by cases h⟩
theorem I9.label {P:Program} {C:Ctx} {N:Nat} {σ:x5} {H:j7} {Q:Exit→x5→j7→Prop} {l:Nat} (h:Q .normal σ H):I9 P C N (.label l) Q σ H:=fun ρ I L hs a w ha hst =>
 wpIn_label ⟨ρ,I,L,ha,hst,σ,H,hs,h⟩
def b7G (P:Program) (N:Nat) (C:Ctx) (σ0:x5) (H:j7) (acc:List (Nat×AV)) (o:Oper) (s:List (Nat×Nat)) (r:AV):Prop :=
  match o.guard with
  | none=>j5 P N C o (D3 σ0 acc s (C4 o)) H (fun r'=>r'=r)
  | some (g, want) => (∃ b c, o9 acc g = some (.v b) ∧ r = .a7a (b == want) c ∧ (b = want → j5 P N C o (D3 σ0 acc s (C4 o)) H (fun r' => r' = c))) ∨
      (∃ b c0 c,o9 acc g=some (.a7a c0 (.v b))∧r = .a7a (c0&&(b == want)) c∧(c0=true→b=want→j5 P N C o (D3 σ0 acc s (C4 o)) H (fun r'=>r'=c)))
def b3e (P:Program) (N:Nat) (C:Ctx) (σ0:x5) (H:j7) (F:List (Nat×AV)→Prop):List Oper→List (List (Nat×Nat))→Nat→List (Nat×AV)→Prop
 | [],_,_,acc=>F acc
 | o::os,s::ss,k,acc=>∃ r,b7G P N C σ0 H acc o s r∧b3e P N C σ0 H F os ss (k+1) ((k,r)::acc)
 | _,[],_,_=>False
theorem b7H {P : Program} {N : Nat} {C : Ctx} {ops : Array Oper} {σ0 : x5} {H : j7} {acc : List (Nat × AV)} {ρ0 : Env} {I : Im} {L : Lh} {o : Oper} {s : List (Nat × Nat)} {r : AV} (hs : RSt C I L σ0 H ρ0)
    (h:b7G P N C σ0 H acc o s r):a9n P N ops (U9 (a3U acc)) ρ0 I L o s (a1R r):=by
  intro J hle ρ
  refine a7h hs hle _ _ fun henv => ?_
  have hR:RSt C J L (D3 σ0 acc s (C4 o)) H ρ:=⟨henv,hs.heap.mono hle,hs.W3.trans hle⟩
  unfold b7G at h
  cases hg:o.guard with
  | none =>
    simp only [hg] at h
    exact OpX.a1Q (h ρ J L hR) fun v J' X _ ⟨h1,r',h2,h3⟩=>⟨h1,h3▸h2⟩
  | some p =>
    obtain⟨g,want⟩:=p
    simp only [hg] at h
    intro v hv
    rcases h with ⟨b,c,h1,rfl,h2⟩|⟨b,c0,c,h1,rfl,h2⟩
    · rw [a0d,h1] at hv
      simp only [Option.map_some,a1R,Fl.Spec.holds] at hv
      obtain⟨cs,rfl,rfl⟩:=hv
      refine⟨fun e => ?_,fun hne=>⟨?_,fun o e=>by cases e⟩⟩
      · have e':b=want:=by simpa [asV,p2.agg] using e
        exact OpX.a1Q (h2 e' ρ J L hR) fun v J' X _ ⟨h3,r',h4,h5⟩=>⟨h3,⟨fun _=>h5▸h4,fun hc=>absurd e' (by simpa using hc)⟩⟩
      · have hb:b≠want:=hne b rfl
        exact⟨fun hc=>absurd (by simpa using hc) hb,fun _=>a8⟩
    · rw [a0d,h1] at hv
      simp only [Option.map_some,a1R,Fl.Spec.holds] at hv
      obtain⟨hv1,hv2⟩:=hv
      cases c0 with
      | false =>
        obtain rfl:=hv2 rfl
        exact⟨fun e=>(by cases e),fun _=>⟨⟨fun hc=>(by simp at hc),fun _=>a8⟩,fun o e=>(by cases e)⟩⟩
      | true =>
        obtain⟨cs,rfl,rfl⟩:=hv1 rfl
        refine⟨fun e => ?_,fun hne=>⟨?_,fun o e=>by cases e⟩⟩
        · have e':b=want:=by simpa [asV,p2.agg] using e
          exact OpX.a1Q (h2 rfl e' ρ J L hR) fun v J' X _ ⟨h3,r',h4,h5⟩=>⟨h3,⟨fun _=>h5▸h4,fun hc=>absurd e' (by simpa using hc)⟩⟩
        · have hb:b≠want:=hne b rfl
          exact⟨fun hc=>absurd (by simpa using hc) hb,fun _=>a8⟩
theorem a8S {P : Program} {N : Nat} {C : Ctx} {ops : Array Oper} {σ0 : x5} {H : j7} {ρ0 : Env} {I : Im} {L : Lh} {F : List (Nat × AV) → Prop} {F' : List (Nat × Fl.Spec) → Prop} (hs : RSt C I L σ0 H ρ0) :
    ∀ (os:List Oper) (ss:List (List (Nat×Nat))) (k:Nat) (acc:List (Nat×AV)),(∀ i,i < k→(o9 acc i).isSome)→b3e P N C σ0 H F os ss k acc →
      (∀ acc',(∀ i,i < k+os.length→(o9 acc' i).isSome)→F acc'→F' (a3U acc'))→chain P N ops ρ0 I L F' os ss k (a3U acc)
  | [],ss,k,acc,hk,h,hF=>by
    have hc:F acc:=by cases ss<;>exact h
    cases ss<;>exact hF acc (by simpa using hk) hc
  | o::os,[],k,acc,_,h,_=>h.elim
  | o::os,s::ss,k,acc,hk,h,hF=>by
    obtain⟨r,h1,h2⟩:=h
    refine⟨a1R r,b7H hs h1,a8S hs os ss (k+1) ((k,r)::acc) (fun i hi => ?_) h2 (fun acc' h3=>hF acc' (fun i hi=>h3 i (by simp only [List.length_cons] at hi;omega)))⟩
    simp only [o9]
    by_cases e:k=i
    · subst e;simp
    · rw [a4W e];exact hk i (by omega)
section b7I
variable {P:Program} {C:Ctx} {N:Nat} {Q:Exit→x5→j7→Prop} {σ:x5} {H:j7}
theorem I9.b7I {id : Nat} {l : List Oper} (hm : P.follows .mixedOrders = true) (n : Nat) (ss : List (List (Nat × Nat)))
    (hN:M4 N l=true) (hB:a8x l.toArray n ss=true) (hss:Nat.ble n ss.length=true)
    (hch:b3e P N C σ H (fun acc=>D1 P C N l.toArray Q (l.drop n) (a1q acc (l.take n) 0 σ) H) (l.take n) ss 0 []) :
    I9 P C N (.region id l.toArray true) Q σ H:=fun ρ I L hs=>by
  refine .draw hm n ss hN hB hss ?_
  refine a8S (acc := []) (F:=_) hs _ _ 0 (fun i hi=>by omega) hch fun acc hacc hF J hle => ?_
  refine a9J (l.take n) 0 σ ρ L (hs.mono hle) (fun i o ho => ?_) (fun ρ' h'=>hF ρ' J L h')
  have hi:i < n:=by
    have:=(List.getElem?_eq_some_iff.1 ho).1
    simp at this;omega
  obtain⟨o',d,h1,h2⟩:=a8H hB hi
  have:o'=o:=by
    rw [List.getElem?_take,if_pos hi] at ho
    have h1':l[i]?=some o':=by simpa using h1
    rw [h1'] at ho;exact Option.some.inj ho
  subst this
  have hlen:i < (l.take n).length:=(List.getElem?_eq_some_iff.1 ho).1
  obtain⟨r,hr⟩:=Option.isSome_iff_exists.1 (hacc i (by omega))
  exact⟨d,r,h2,by simpa using hr⟩
end b7I
theorem j5.c2j {P : Program} {C : Ctx} {N : Nat} {σ : x5} {H : j7} {K : AV → Prop} {d : Option Nat} {ty : TypeId} {ps : String} {af : Array Edge} {g : Option (Nat × Bool)} {x y : Operand} {T E : TypeId} {α : Type} {r : p2 α} {i : Inhabited α} {l : List α} {n : Int}
    (tE:F1 P E α) (hT:P.underlying T=some (.slice E)) (hx:D5 C σ H x (.v l)) (hy:D5 C σ H y (.v n)) (h0:0≤n) (h1:n < l.length) (k:K (.p (l.getD n.toNat default))):j5 P N C ⟨d,.indexAddr T x y,ty,ps,af,g⟩ σ H K :=
  .idx tE hT hx hy h0 h1 (by
    have e:l.getD n.toNat default=l[n.toNat]'(by omega):=by rw [List.getD_eq_getElem?_getD,List.getElem?_eq_getElem (by omega)];rfl
    rw [←e];exact k)
theorem j5.a1t {P:Program} {N:Nat} {C:Ctx} {σ:x5} {H:j7} {K:AV→Prop} {d:Option Nat} {ty:TypeId} {ps:String} {af:Array Edge} {g:Option (Nat×Bool)} {x y:Operand} {T T2:TypeId} {m c:UInt64} (hx:D5 C σ H x (.v m)) (hy:D5 C σ H y (.v c)) (h0:0≤c.toNat) (h1:c.toNat < 64) (k:K (.v (m <<< c))):j5 P N C ⟨d,.binOp .shl T x y T2,ty,ps,af,g⟩ σ H K :=
 .vk k (fun ρ I L hs=>I1.a1t c.toNat (hx.a0l hs) (hy.a0l hs) rfl h1 ⟨[Fl.u64 (m <<< c)],rfl,by rw [UInt64.ofNat_toNat];rfl⟩)
theorem j5.b6t {P:Program} {N:Nat} {C:Ctx} {σ:x5} {H:j7} {K:AV→Prop} {d:Option Nat} {ty:TypeId} {ps:String} {af:Array Edge} {g:Option (Nat×Bool)} {x:Operand} {T:TypeId} {m:UInt64} (hx:D5 C σ H x (.v m)) (k:K (.v (~~~m))):j5 P N C ⟨d,.unOp .xor T x,ty,ps,af,g⟩ σ H K :=
 .vk k (fun ρ I L hs=>I1.b6t (hx.a0l hs) ⟨[Fl.u64 (~~~m)],rfl,rfl⟩)
end Go.Ab
namespace Go.Proofs.YtalibdhdngbbcaaGreatDoor
open Go.Proofs.Tryz
open Go.Fl Go.Ab Go.Mac Go.Sha
abbrev Pred:=j2
def a0p (m:UInt64) (n:Int):Bool:=decide (m≠0)&&(decide (n=64)||decide (m >>> UInt64.ofNat n.toNat=0))
theorem b3f (m:UInt64) (n:Int) (h0:0≤n) (h1:n≤64):p6 gl prog 44 [.v m,.v n] (fun r=>r = .v (a0p m n)):=by
 refine p6.jn func44 (by kernel_rfl) 17 rfl fun C hC hG => ?_
 refine .q 11 hG ?_
 refine .goU 7 a8 (.t a8) (fun hg10 => .move (.q a8 hg10) a8) (.gn 10 a8 a8 (fun hc11 hg11 => .move (.t a8) a8) (.gn 10 a8 a8 (fun hc12 hg12 => .move (.t a8) a8) (.gn 10 a8 a8 (fun hc13 hg13 => .a3q (.ou a8 (Bool.and_eq_true_iff.2 ⟨hc13,beq_iff_eq.2 hg13⟩)) (.ou a8 (Bool.and_eq_true_iff.2 ⟨hc13,beq_iff_eq.2 hg13⟩)) (by first|omega|(simp;done)|(simp;omega)|(have:=hg13;simp at this;omega)) (by first|omega|(simp;done)|(simp;omega)|(have:=hg13;simp at this;omega)) a8) (.gn 10 a8 a8 (fun hc14 hg14 => .b4h (.ou a8 (Bool.and_eq_true_iff.2 ⟨hc14,beq_iff_eq.2 hg14⟩)) (.u64 0 a8) a8) (.go 7 a8 (.t a8) (fun hg15 => .a1r (.ou a8 (beq_iff_eq.2 hg15)) (fun hp=>(.ou a8 (Bool.and_eq_true_iff.2 ⟨(beq_iff_eq.2 hg15),beq_iff_eq.2 hp⟩))) a8) ?_)))))
 refine .q 4 hG ?_
 refine .e1 a8 a8 ?_
 rfl
theorem a5g (s:T5):p6 gl prog 45 [.v s] (fun r=>r = .v (I7 s)):=by
 refine p6.jn func45 (by kernel_rfl) 28 rfl fun C hC hG => ?_
 refine .q 6 hG ?_
 refine .a8D 0 a8 fun hs => ?_
 refine .q 10 hG ?_
 refine .cond (.t a8) (fun hc11 => ?_) (fun hc11 => ?_)
 ·refine .q 5 hG ?_
  refine .e1 a8 a8 ?_
  refine congrArg AV.v ?_;simp only [Bool.or_eq_true,decide_eq_true_eq] at hc11;unfold I7;rcases hc11 with h|h
  ·rw [decide_eq_false (show ¬1≤s.l.length by omega)];rfl
  ·rw [decide_eq_false (show ¬s.l.length≤16 by omega)];simp
 ·refine .q 9 hG ?_
  refine .E1 (α:=Nat) [(0,_),(13,_)] (fun k R=>(14,.v (k:Int))::R) (fun k => []) (fun k=>k≤s.l.length∧(s.l.take k).all a3j=true) (fun k=>s.l.length - k) (0) (.c2 a8 a8 (.nil _)) ?_ (.c2 a8 a8 (.cons a8 (.nil _))) (a8) fun k hF => ?_
  ·simp
  obtain⟨h1,h2⟩:=hF
  refine .q 6 hG ⟨fun hc15 => ?_,fun hc15 => ?_⟩
  ·refine .q 12 hG ?_
   refine .p (.b4j underlying9 (.t a8) (.t a8) (by first|omega|(simp;done)|(simp;omega)|(simp at *;omega)) (by first|omega|(simp;done)|(simp;omega)|(simp at *;omega)) ?_)
   refine .q 4 hG ?_
   refine .go 21 a8 (.t a8) (fun hg24 => .b4j underlying9 (.q a8 hg24) (.q a8 hg24) (by first|omega|(simp;done)|(simp;omega)|(have:=hg24;simp at this;omega)) (by first|omega|(simp;done)|(simp;omega)|(have:=hg24;simp at this;omega)) a8) ?_
   refine .q 3 hG ?_
   refine .cond (.t a8) (fun hc26 => ?_) (fun hc26 => ?_)
   ·refine .q 5 hG ?_
    refine .e1 a8 a8 ?_
    refine congrArg AV.v (Eq.symm ?_);unfold I7;rw [a9X a3j s.l k (by omega),Bool.and_false];unfold a3j;simp only [Bool.or_eq_true,decide_eq_true_eq,Int.toNat_natCast] at hc26;rcases hc26 with h|h
    ·rw [decide_eq_false (UInt8.not_le.2 h)];rfl
    ·rw [decide_eq_false (UInt8.not_le.2 h),Bool.and_false]
   ·refine .q 2 hG ?_
    refine .ad (by first|omega|(simp;done)|(simp;omega)|(simp at *;omega)) (by first|omega|(simp;done)|(simp;omega)|(simp at *;omega)) ?_
    refine .q 2 hG ?_
    refine⟨k+1,.c2 rfl rfl (.cons rfl (.nil _)),rfl,?_,by omega⟩
    refine⟨by omega,?_⟩;rw [all_succ _ _ _ (by omega),h2];simp only [Bool.or_eq_false_iff,decide_eq_false_iff_not,Int.toNat_natCast] at hc26;unfold a3j;simp only [Bool.true_and,Bool.and_eq_true,decide_eq_true_eq];exact⟨UInt8.not_lt.1 hc26.1,UInt8.not_lt.1 hc26.2⟩
  ·refine .q 6 hG ?_
   refine .e1 a8 a8 ?_
   refine congrArg AV.v (Eq.symm ?_);simp only [Bool.or_eq_false_iff,decide_eq_false_iff_not] at hc11;unfold I7;rw [List.take_of_length_le (by omega)] at h2;rw [h2];simp;omega
def G3 (k:Int):Int:=if k=1 then 64 else if k=2 then 32 else 7
def y8 (p:Pred):Bool :=
 if p.Kind=1∨p.Kind=2∨p.Kind=3 then a0p p.Mask (G3 p.Kind)&&decide (p=⟨p.Kind,p.Mask,0,0,⟨[]⟩,0⟩)
 else if p.Kind=4 then decide (0≤p.p3)&&decide (p.p3≤p.To)&&decide (p.To≤67108864)&&decide (p=⟨p.Kind,0,p.p3,p.To,⟨[]⟩,0⟩)
 else if p.Kind=5 then decide (0≤p.p3)&&decide (p.p3 < 1440)&&decide (0≤p.To)&&decide (p.To < 1440)&&decide (p=⟨p.Kind,0,p.p3,p.To,⟨[]⟩,0⟩)
 else if p.Kind=6 then I7 p.Name&&decide (p=⟨p.Kind,0,0,0,p.Name,0⟩)
 else if p.Kind=7 then decide (0≤p.Number)&&decide (p.Number≤1000000)&&decide (p=⟨p.Kind,0,0,0,⟨[]⟩,p.Number⟩)
 else false
theorem a0S:∀ (i:Nat) (h:i < a5I.l.length),0≤a5I.l[i]∧a5I.l[i]≤64:=by decide
theorem P4 (k:Int) (h:k=1∨k=2∨k=3) (h2:k.toNat < a5I.l.length):a5I.l[k.toNat]=G3 k:=by
 rcases h with rfl|rfl|rfl<;>rfl
theorem V6 (p:Pred):p6 gl prog 20 [.v p] (fun r=>r = .v (y8 p)):=by
 refine p6.jn func20 (by kernel_rfl) 118 rfl fun C hC hG => ?_
 refine .q 3 hG fun b1 => ?_
 refine .q 3 hG ?_
 refine .C1 hC .z (.O9 1 a8 .z ?_)
 refine .q 3 hG ?_
 refine .p (.bS1 j2.l0 a8 R3 a5z (fun c0=>(⟨c0,0,0,0,⟨[]⟩,0⟩:j2)) (fun _=>a8) a8 a8 (.t a8) ?_)
 refine .q 1 hG fun b3 => ?_
 refine .q 16 hG ⟨fun hc9 => ?_,fun hc9 => ?_⟩
 ·refine .q 2 hG ⟨fun hc9 => ?_,fun hc9 => ?_⟩
  ·refine .q 8 hG ?_
   refine .draw (by kernel_rfl) 13 [[],[(16,0)],[],[(18,2)],[(19,3)],[(20,4)],[(17,1),(21,5)],[(22,6)],[],[],[(24,8),(25,9)],[(23,7),(26,10)],[(27,11)]] a8 (by kernel_rfl) a8 ?_
   refine⟨_,j5.y9 j2.l1 (fun x=>x.Mask) Z6 a8 (fun _=>a8) (.t a8) a8,?_⟩
   refine⟨_,j5.G8 a2y (.t a8) a8,?_⟩
   refine⟨_,j5.y9 j2.l0 (fun x=>x.Kind) a7x a8 (fun _=>a8) (.t a8) a8,?_⟩
   refine⟨_,j5.G8 I6 (.t a8) a8,?_⟩
   refine⟨_,j5.b9w b6S (.c1P hG a0n) (.t a8) (by first|omega|(simp;done)|(simp;omega)|(simp at *;omega)) (by first|omega|(simp;done)|(simp;omega)|(simp at *;omega)) a8,?_⟩
   refine⟨_,j5.G8 I6 (.t a8) a8,?_⟩
   refine⟨_,j5.p8 hG (b3f _ _ (a0S _ _).1 (a0S _ _).2) (.cons (.t a8) (.cons (.t a8) .nil)) a8,?_⟩
   refine⟨_,j5.move (.t a8) a8,?_⟩
   refine⟨_,⟨_,_,a8,a8,fun hg24=>j5.G8 R3 (.t a8) a8⟩,?_⟩
   refine⟨_,⟨_,_,a8,a8,fun hg25=>j5.Q6 R3 (.t a8) .z a8⟩,?_⟩
   refine⟨_,⟨_,_,a8,a8,fun hg26=>j5.a1s T9 (by decide) a8 (by kernel_rfl) (.q a8 hg26) (.q a8 hg26) a8⟩,?_⟩
   refine⟨_,j5.M5 (.t a8) (fun hp=>(.q a8 hp)) a8,?_⟩
   refine⟨_,j5.assign (.t a8) a8,?_⟩
   show D1 _ _ _ _ _ [] ((2,_)::(27,_)::(26,_)::(25,_)::(24,_)::(23,_)::(22,_)::(21,_)::(20,_)::(19,_)::(18,_)::(17,_)::(16,_)::_) _
   refine .q 2 hG ?_
   refine .e1 a8 a8 ?_
   first|(exfalso;omega)|(refine congrArg AV.v ?_;(try rw [P4 p.Kind (by omega)]);unfold y8;(repeat (first|rw [if_pos (by omega)]|rw [if_neg (by omega)]));(try rfl))
  ·refine .q 6 hG ⟨fun hc28 => ?_,fun hc28 => ?_⟩
   ·refine .q 1 hG ?_
    refine .F3 [c9,j0] (by kernel_rfl) 8 [[],[(30,0)],[],[(32,2)],[],[(34,4),(31,1)],[],[(35,6),(33,3)]] [5,7] a8 (by kernel_rfl) a8 (by kernel_rfl) (by decide) ?_
    refine⟨_,fun H=>j5.y9 j2.l2 (fun x=>x.p3) K1 a8 (fun _=>a8) (.t a8) a8,?_⟩
    refine⟨_,fun H=>j5.G8 I6 (.t a8) a8,?_⟩
    refine⟨_,fun H=>j5.y9 j2.l3 (fun x=>x.To) K2 a8 (fun _=>a8) (.t a8) a8,?_⟩
    refine⟨_,fun H=>j5.G8 I6 (.t a8) a8,?_⟩
    refine⟨_,fun H=>j5.A9 j2.l2 K1 a8 (.t a8) a8,?_⟩
    refine .inl ?_
    refine⟨_,fun H=>j5.A9 j2.l3 K2 a8 (.t a8) a8,?_⟩
    refine .inl ?_
    refine⟨⟨([],j1 [_,c8]),a8⟩,?_⟩
    refine B3.Z0 (fun y x => { x with p3:=y }) I6 (.t rfl) (.t rfl) .z (fun _ _=>rfl) ?_
    refine⟨⟨([],j1 [_,c8]),a8⟩,?_⟩
    refine B3.Z0 (fun y x => { x with To:=y }) I6 (.t rfl) (.t rfl) .z (fun _ _=>rfl) ?_
    refine⟨⟨([],j1 [_,c8]),a8⟩,?_⟩
    show D1 _ _ _ _ _ [] ((35,_)::(34,_)::(33,_)::(32,_)::(31,_)::(30,_)::_) _
    refine .q 21 hG ?_
    refine .go 51 a8 (.t a8) (fun hg54 => .a1s T9 (by decide) a8 (by kernel_rfl) (.q a8 hg54) (.q a8 hg54) a8) ?_
    refine .q 4 hG ?_
    refine .e1 a8 a8 ?_
    first|(exfalso;omega)|(refine congrArg AV.v ?_;(try rw [P4 p.Kind (by omega)]);unfold y8;(repeat (first|rw [if_pos (by omega)]|rw [if_neg (by omega)]));(try rfl))
   ·refine .q 6 hG ⟨fun hc56 => ?_,fun hc56 => ?_⟩
    ·refine .q 1 hG ?_
     refine .F3 [c9,j0] (by kernel_rfl) 8 [[],[(58,0)],[],[(60,2)],[],[(62,4),(59,1)],[],[(63,6),(61,3)]] [5,7] a8 (by kernel_rfl) a8 (by kernel_rfl) (by decide) ?_
     refine⟨_,fun H=>j5.y9 j2.l2 (fun x=>x.p3) K1 a8 (fun _=>a8) (.t a8) a8,?_⟩
     refine⟨_,fun H=>j5.G8 I6 (.t a8) a8,?_⟩
     refine⟨_,fun H=>j5.y9 j2.l3 (fun x=>x.To) K2 a8 (fun _=>a8) (.t a8) a8,?_⟩
     refine⟨_,fun H=>j5.G8 I6 (.t a8) a8,?_⟩
     refine⟨_,fun H=>j5.A9 j2.l2 K1 a8 (.t a8) a8,?_⟩
     refine .inl ?_
     refine⟨_,fun H=>j5.A9 j2.l3 K2 a8 (.t a8) a8,?_⟩
     refine .inl ?_
     refine⟨⟨([],j1 [_,c8]),a8⟩,?_⟩
     refine B3.Z0 (fun y x => { x with p3:=y }) I6 (.t rfl) (.t rfl) .z (fun _ _=>rfl) ?_
     refine⟨⟨([],j1 [_,c8]),a8⟩,?_⟩
     refine B3.Z0 (fun y x => { x with To:=y }) I6 (.t rfl) (.t rfl) .z (fun _ _=>rfl) ?_
     refine⟨⟨([],j1 [_,c8]),a8⟩,?_⟩
     show D1 _ _ _ _ _ [] ((63,_)::(62,_)::(61,_)::(60,_)::(59,_)::(58,_)::_) _
     refine .q 24 hG ?_
     refine .go 82 a8 (.t a8) (fun hg85 => .a1s T9 (by decide) a8 (by kernel_rfl) (.q a8 hg85) (.q a8 hg85) a8) ?_
     refine .q 4 hG ?_
     refine .e1 a8 a8 ?_
     first|(exfalso;omega)|(refine congrArg AV.v ?_;(try rw [P4 p.Kind (by omega)]);unfold y8;(repeat (first|rw [if_pos (by omega)]|rw [if_neg (by omega)]));(try rfl))
    ·refine .q 6 hG ⟨fun hc87 => ?_,fun hc87 => ?_⟩
     ·refine .q 11 hG ?_
      refine .k hG (a5g _) ?_
      refine .q 3 hG ?_
      refine .go 95 a8 (.t a8) (fun hg98 => .a1s T9 (by decide) a8 (by kernel_rfl) (.q a8 hg98) (.q a8 hg98) a8) ?_
      refine .q 4 hG ?_
      refine .e1 a8 a8 ?_
      first|(exfalso;omega)|(refine congrArg AV.v ?_;(try rw [P4 p.Kind (by omega)]);unfold y8;(repeat (first|rw [if_pos (by omega)]|rw [if_neg (by omega)]));(try rfl))
     ·refine .q 6 hG ⟨fun hc100 => ?_,fun hc100 => ?_⟩
      ·refine .q 20 hG ?_
       refine .go 113 a8 (.t a8) (fun hg116 => .a1s T9 (by decide) a8 (by kernel_rfl) (.q a8 hg116) (.q a8 hg116) a8) ?_
       refine .q 4 hG ?_
       refine .e1 a8 a8 ?_
       first|(exfalso;omega)|(refine congrArg AV.v ?_;(try rw [P4 p.Kind (by omega)]);unfold y8;(repeat (first|rw [if_pos (by omega)]|rw [if_neg (by omega)]));(try rfl))
      ·refine .q 6 hG ?_
       refine .e1 a8 a8 ?_
       first|(exfalso;omega)|(refine congrArg AV.v ?_;(try rw [P4 p.Kind (by omega)]);unfold y8;(repeat (first|rw [if_pos (by omega)]|rw [if_neg (by omega)]));(try rfl))
 ·refine .q 6 hG ⟨fun hc9 => ?_,fun hc9 => ?_⟩
  ·refine .q 2 hG ⟨fun hc9 => ?_,fun hc9 => ?_⟩
   ·refine .q 8 hG ?_
    refine .draw (by kernel_rfl) 13 [[],[(16,0)],[],[(18,2)],[(19,3)],[(20,4)],[(17,1),(21,5)],[(22,6)],[],[],[(24,8),(25,9)],[(23,7),(26,10)],[(27,11)]] a8 (by kernel_rfl) a8 ?_
    refine⟨_,j5.y9 j2.l1 (fun x=>x.Mask) Z6 a8 (fun _=>a8) (.t a8) a8,?_⟩
    refine⟨_,j5.G8 a2y (.t a8) a8,?_⟩
    refine⟨_,j5.y9 j2.l0 (fun x=>x.Kind) a7x a8 (fun _=>a8) (.t a8) a8,?_⟩
    refine⟨_,j5.G8 I6 (.t a8) a8,?_⟩
    refine⟨_,j5.b9w b6S (.c1P hG a0n) (.t a8) (by first|omega|(simp;done)|(simp;omega)|(simp at *;omega)) (by first|omega|(simp;done)|(simp;omega)|(simp at *;omega)) a8,?_⟩
    refine⟨_,j5.G8 I6 (.t a8) a8,?_⟩
    refine⟨_,j5.p8 hG (b3f _ _ (a0S _ _).1 (a0S _ _).2) (.cons (.t a8) (.cons (.t a8) .nil)) a8,?_⟩
    refine⟨_,j5.move (.t a8) a8,?_⟩
    refine⟨_,⟨_,_,a8,a8,fun hg24=>j5.G8 R3 (.t a8) a8⟩,?_⟩
    refine⟨_,⟨_,_,a8,a8,fun hg25=>j5.Q6 R3 (.t a8) .z a8⟩,?_⟩
    refine⟨_,⟨_,_,a8,a8,fun hg26=>j5.a1s T9 (by decide) a8 (by kernel_rfl) (.q a8 hg26) (.q a8 hg26) a8⟩,?_⟩
    refine⟨_,j5.M5 (.t a8) (fun hp=>(.q a8 hp)) a8,?_⟩
    refine⟨_,j5.assign (.t a8) a8,?_⟩
    show D1 _ _ _ _ _ [] ((2,_)::(27,_)::(26,_)::(25,_)::(24,_)::(23,_)::(22,_)::(21,_)::(20,_)::(19,_)::(18,_)::(17,_)::(16,_)::_) _
    refine .q 2 hG ?_
    refine .e1 a8 a8 ?_
    first|(exfalso;omega)|(refine congrArg AV.v ?_;(try rw [P4 p.Kind (by omega)]);unfold y8;(repeat (first|rw [if_pos (by omega)]|rw [if_neg (by omega)]));(try rfl))
   ·refine .q 6 hG ⟨fun hc28 => ?_,fun hc28 => ?_⟩
    ·refine .q 1 hG ?_
     refine .F3 [c9,j0] (by kernel_rfl) 8 [[],[(30,0)],[],[(32,2)],[],[(34,4),(31,1)],[],[(35,6),(33,3)]] [5,7] a8 (by kernel_rfl) a8 (by kernel_rfl) (by decide) ?_
     refine⟨_,fun H=>j5.y9 j2.l2 (fun x=>x.p3) K1 a8 (fun _=>a8) (.t a8) a8,?_⟩
     refine⟨_,fun H=>j5.G8 I6 (.t a8) a8,?_⟩
     refine⟨_,fun H=>j5.y9 j2.l3 (fun x=>x.To) K2 a8 (fun _=>a8) (.t a8) a8,?_⟩
     refine⟨_,fun H=>j5.G8 I6 (.t a8) a8,?_⟩
     refine⟨_,fun H=>j5.A9 j2.l2 K1 a8 (.t a8) a8,?_⟩
     refine .inl ?_
     refine⟨_,fun H=>j5.A9 j2.l3 K2 a8 (.t a8) a8,?_⟩
     refine .inl ?_
     refine⟨⟨([],j1 [_,c8]),a8⟩,?_⟩
     refine B3.Z0 (fun y x => { x with p3:=y }) I6 (.t rfl) (.t rfl) .z (fun _ _=>rfl) ?_
     refine⟨⟨([],j1 [_,c8]),a8⟩,?_⟩
     refine B3.Z0 (fun y x => { x with To:=y }) I6 (.t rfl) (.t rfl) .z (fun _ _=>rfl) ?_
     refine⟨⟨([],j1 [_,c8]),a8⟩,?_⟩
     show D1 _ _ _ _ _ [] ((35,_)::(34,_)::(33,_)::(32,_)::(31,_)::(30,_)::_) _
     refine .q 21 hG ?_
     refine .go 51 a8 (.t a8) (fun hg54 => .a1s T9 (by decide) a8 (by kernel_rfl) (.q a8 hg54) (.q a8 hg54) a8) ?_
     refine .q 4 hG ?_
     refine .e1 a8 a8 ?_
     first|(exfalso;omega)|(refine congrArg AV.v ?_;(try rw [P4 p.Kind (by omega)]);unfold y8;(repeat (first|rw [if_pos (by omega)]|rw [if_neg (by omega)]));(try rfl))
    ·refine .q 6 hG ⟨fun hc56 => ?_,fun hc56 => ?_⟩
     ·refine .q 1 hG ?_
      refine .F3 [c9,j0] (by kernel_rfl) 8 [[],[(58,0)],[],[(60,2)],[],[(62,4),(59,1)],[],[(63,6),(61,3)]] [5,7] a8 (by kernel_rfl) a8 (by kernel_rfl) (by decide) ?_
      refine⟨_,fun H=>j5.y9 j2.l2 (fun x=>x.p3) K1 a8 (fun _=>a8) (.t a8) a8,?_⟩
      refine⟨_,fun H=>j5.G8 I6 (.t a8) a8,?_⟩
      refine⟨_,fun H=>j5.y9 j2.l3 (fun x=>x.To) K2 a8 (fun _=>a8) (.t a8) a8,?_⟩
      refine⟨_,fun H=>j5.G8 I6 (.t a8) a8,?_⟩
      refine⟨_,fun H=>j5.A9 j2.l2 K1 a8 (.t a8) a8,?_⟩
      refine .inl ?_
      refine⟨_,fun H=>j5.A9 j2.l3 K2 a8 (.t a8) a8,?_⟩
      refine .inl ?_
      refine⟨⟨([],j1 [_,c8]),a8⟩,?_⟩
      refine B3.Z0 (fun y x => { x with p3:=y }) I6 (.t rfl) (.t rfl) .z (fun _ _=>rfl) ?_
      refine⟨⟨([],j1 [_,c8]),a8⟩,?_⟩
      refine B3.Z0 (fun y x => { x with To:=y }) I6 (.t rfl) (.t rfl) .z (fun _ _=>rfl) ?_
      refine⟨⟨([],j1 [_,c8]),a8⟩,?_⟩
      show D1 _ _ _ _ _ [] ((63,_)::(62,_)::(61,_)::(60,_)::(59,_)::(58,_)::_) _
      refine .q 24 hG ?_
      refine .go 82 a8 (.t a8) (fun hg85 => .a1s T9 (by decide) a8 (by kernel_rfl) (.q a8 hg85) (.q a8 hg85) a8) ?_
      refine .q 4 hG ?_
      refine .e1 a8 a8 ?_
      first|(exfalso;omega)|(refine congrArg AV.v ?_;(try rw [P4 p.Kind (by omega)]);unfold y8;(repeat (first|rw [if_pos (by omega)]|rw [if_neg (by omega)]));(try rfl))
     ·refine .q 6 hG ⟨fun hc87 => ?_,fun hc87 => ?_⟩
      ·refine .q 11 hG ?_
       refine .k hG (a5g _) ?_
       refine .q 3 hG ?_
       refine .go 95 a8 (.t a8) (fun hg98 => .a1s T9 (by decide) a8 (by kernel_rfl) (.q a8 hg98) (.q a8 hg98) a8) ?_
       refine .q 4 hG ?_
       refine .e1 a8 a8 ?_
       first|(exfalso;omega)|(refine congrArg AV.v ?_;(try rw [P4 p.Kind (by omega)]);unfold y8;(repeat (first|rw [if_pos (by omega)]|rw [if_neg (by omega)]));(try rfl))
      ·refine .q 6 hG ⟨fun hc100 => ?_,fun hc100 => ?_⟩
       ·refine .q 20 hG ?_
        refine .go 113 a8 (.t a8) (fun hg116 => .a1s T9 (by decide) a8 (by kernel_rfl) (.q a8 hg116) (.q a8 hg116) a8) ?_
        refine .q 4 hG ?_
        refine .e1 a8 a8 ?_
        first|(exfalso;omega)|(refine congrArg AV.v ?_;(try rw [P4 p.Kind (by omega)]);unfold y8;(repeat (first|rw [if_pos (by omega)]|rw [if_neg (by omega)]));(try rfl))
       ·refine .q 6 hG ?_
        refine .e1 a8 a8 ?_
        first|(exfalso;omega)|(refine congrArg AV.v ?_;(try rw [P4 p.Kind (by omega)]);unfold y8;(repeat (first|rw [if_pos (by omega)]|rw [if_neg (by omega)]));(try rfl))
  ·refine .q 5 hG ⟨fun hc9 => ?_,fun hc9 => ?_⟩
   ·refine .q 8 hG ?_
    refine .draw (by kernel_rfl) 13 [[],[(16,0)],[],[(18,2)],[(19,3)],[(20,4)],[(17,1),(21,5)],[(22,6)],[],[],[(24,8),(25,9)],[(23,7),(26,10)],[(27,11)]] a8 (by kernel_rfl) a8 ?_
    refine⟨_,j5.y9 j2.l1 (fun x=>x.Mask) Z6 a8 (fun _=>a8) (.t a8) a8,?_⟩
    refine⟨_,j5.G8 a2y (.t a8) a8,?_⟩
    refine⟨_,j5.y9 j2.l0 (fun x=>x.Kind) a7x a8 (fun _=>a8) (.t a8) a8,?_⟩
    refine⟨_,j5.G8 I6 (.t a8) a8,?_⟩
    refine⟨_,j5.b9w b6S (.c1P hG a0n) (.t a8) (by first|omega|(simp;done)|(simp;omega)|(simp at *;omega)) (by first|omega|(simp;done)|(simp;omega)|(simp at *;omega)) a8,?_⟩
    refine⟨_,j5.G8 I6 (.t a8) a8,?_⟩
    refine⟨_,j5.p8 hG (b3f _ _ (a0S _ _).1 (a0S _ _).2) (.cons (.t a8) (.cons (.t a8) .nil)) a8,?_⟩
    refine⟨_,j5.move (.t a8) a8,?_⟩
    refine⟨_,⟨_,_,a8,a8,fun hg24=>j5.G8 R3 (.t a8) a8⟩,?_⟩
    refine⟨_,⟨_,_,a8,a8,fun hg25=>j5.Q6 R3 (.t a8) .z a8⟩,?_⟩
    refine⟨_,⟨_,_,a8,a8,fun hg26=>j5.a1s T9 (by decide) a8 (by kernel_rfl) (.q a8 hg26) (.q a8 hg26) a8⟩,?_⟩
    refine⟨_,j5.M5 (.t a8) (fun hp=>(.q a8 hp)) a8,?_⟩
    refine⟨_,j5.assign (.t a8) a8,?_⟩
    show D1 _ _ _ _ _ [] ((2,_)::(27,_)::(26,_)::(25,_)::(24,_)::(23,_)::(22,_)::(21,_)::(20,_)::(19,_)::(18,_)::(17,_)::(16,_)::_) _
    refine .q 2 hG ?_
    refine .e1 a8 a8 ?_
    first|(exfalso;omega)|(refine congrArg AV.v ?_;(try rw [P4 p.Kind (by omega)]);unfold y8;(repeat (first|rw [if_pos (by omega)]|rw [if_neg (by omega)]));(try rfl))
   ·refine .q 6 hG ⟨fun hc28 => ?_,fun hc28 => ?_⟩
    ·refine .q 1 hG ?_
     refine .F3 [c9,j0] (by kernel_rfl) 8 [[],[(30,0)],[],[(32,2)],[],[(34,4),(31,1)],[],[(35,6),(33,3)]] [5,7] a8 (by kernel_rfl) a8 (by kernel_rfl) (by decide) ?_
     refine⟨_,fun H=>j5.y9 j2.l2 (fun x=>x.p3) K1 a8 (fun _=>a8) (.t a8) a8,?_⟩
     refine⟨_,fun H=>j5.G8 I6 (.t a8) a8,?_⟩
     refine⟨_,fun H=>j5.y9 j2.l3 (fun x=>x.To) K2 a8 (fun _=>a8) (.t a8) a8,?_⟩
     refine⟨_,fun H=>j5.G8 I6 (.t a8) a8,?_⟩
     refine⟨_,fun H=>j5.A9 j2.l2 K1 a8 (.t a8) a8,?_⟩
     refine .inl ?_
     refine⟨_,fun H=>j5.A9 j2.l3 K2 a8 (.t a8) a8,?_⟩
     refine .inl ?_
     refine⟨⟨([],j1 [_,c8]),a8⟩,?_⟩
     refine B3.Z0 (fun y x => { x with p3:=y }) I6 (.t rfl) (.t rfl) .z (fun _ _=>rfl) ?_
     refine⟨⟨([],j1 [_,c8]),a8⟩,?_⟩
     refine B3.Z0 (fun y x => { x with To:=y }) I6 (.t rfl) (.t rfl) .z (fun _ _=>rfl) ?_
     refine⟨⟨([],j1 [_,c8]),a8⟩,?_⟩
     show D1 _ _ _ _ _ [] ((35,_)::(34,_)::(33,_)::(32,_)::(31,_)::(30,_)::_) _
     refine .q 21 hG ?_
     refine .go 51 a8 (.t a8) (fun hg54 => .a1s T9 (by decide) a8 (by kernel_rfl) (.q a8 hg54) (.q a8 hg54) a8) ?_
     refine .q 4 hG ?_
     refine .e1 a8 a8 ?_
     first|(exfalso;omega)|(refine congrArg AV.v ?_;(try rw [P4 p.Kind (by omega)]);unfold y8;(repeat (first|rw [if_pos (by omega)]|rw [if_neg (by omega)]));(try rfl))
    ·refine .q 6 hG ⟨fun hc56 => ?_,fun hc56 => ?_⟩
     ·refine .q 1 hG ?_
      refine .F3 [c9,j0] (by kernel_rfl) 8 [[],[(58,0)],[],[(60,2)],[],[(62,4),(59,1)],[],[(63,6),(61,3)]] [5,7] a8 (by kernel_rfl) a8 (by kernel_rfl) (by decide) ?_
      refine⟨_,fun H=>j5.y9 j2.l2 (fun x=>x.p3) K1 a8 (fun _=>a8) (.t a8) a8,?_⟩
      refine⟨_,fun H=>j5.G8 I6 (.t a8) a8,?_⟩
      refine⟨_,fun H=>j5.y9 j2.l3 (fun x=>x.To) K2 a8 (fun _=>a8) (.t a8) a8,?_⟩
      refine⟨_,fun H=>j5.G8 I6 (.t a8) a8,?_⟩
      refine⟨_,fun H=>j5.A9 j2.l2 K1 a8 (.t a8) a8,?_⟩
      refine .inl ?_
      refine⟨_,fun H=>j5.A9 j2.l3 K2 a8 (.t a8) a8,?_⟩
      refine .inl ?_
      refine⟨⟨([],j1 [_,c8]),a8⟩,?_⟩
      refine B3.Z0 (fun y x => { x with p3:=y }) I6 (.t rfl) (.t rfl) .z (fun _ _=>rfl) ?_
      refine⟨⟨([],j1 [_,c8]),a8⟩,?_⟩
      refine B3.Z0 (fun y x => { x with To:=y }) I6 (.t rfl) (.t rfl) .z (fun _ _=>rfl) ?_
      refine⟨⟨([],j1 [_,c8]),a8⟩,?_⟩
      show D1 _ _ _ _ _ [] ((63,_)::(62,_)::(61,_)::(60,_)::(59,_)::(58,_)::_) _
      refine .q 24 hG ?_
      refine .go 82 a8 (.t a8) (fun hg85 => .a1s T9 (by decide) a8 (by kernel_rfl) (.q a8 hg85) (.q a8 hg85) a8) ?_
      refine .q 4 hG ?_
      refine .e1 a8 a8 ?_
      first|(exfalso;omega)|(refine congrArg AV.v ?_;(try rw [P4 p.Kind (by omega)]);unfold y8;(repeat (first|rw [if_pos (by omega)]|rw [if_neg (by omega)]));(try rfl))
     ·refine .q 6 hG ⟨fun hc87 => ?_,fun hc87 => ?_⟩
      ·refine .q 11 hG ?_
       refine .k hG (a5g _) ?_
       refine .q 3 hG ?_
       refine .go 95 a8 (.t a8) (fun hg98 => .a1s T9 (by decide) a8 (by kernel_rfl) (.q a8 hg98) (.q a8 hg98) a8) ?_
       refine .q 4 hG ?_
       refine .e1 a8 a8 ?_
       first|(exfalso;omega)|(refine congrArg AV.v ?_;(try rw [P4 p.Kind (by omega)]);unfold y8;(repeat (first|rw [if_pos (by omega)]|rw [if_neg (by omega)]));(try rfl))
      ·refine .q 6 hG ⟨fun hc100 => ?_,fun hc100 => ?_⟩
       ·refine .q 20 hG ?_
        refine .go 113 a8 (.t a8) (fun hg116 => .a1s T9 (by decide) a8 (by kernel_rfl) (.q a8 hg116) (.q a8 hg116) a8) ?_
        refine .q 4 hG ?_
        refine .e1 a8 a8 ?_
        first|(exfalso;omega)|(refine congrArg AV.v ?_;(try rw [P4 p.Kind (by omega)]);unfold y8;(repeat (first|rw [if_pos (by omega)]|rw [if_neg (by omega)]));(try rfl))
       ·refine .q 6 hG ?_
        refine .e1 a8 a8 ?_
        first|(exfalso;omega)|(refine congrArg AV.v ?_;(try rw [P4 p.Kind (by omega)]);unfold y8;(repeat (first|rw [if_pos (by omega)]|rw [if_neg (by omega)]));(try rfl))
theorem c2k (m:UInt64):(m < 4294967296)↔m >>> 32=0:=by
 rw [UInt64.lt_iff_toNat_lt,←UInt64.toNat_inj,UInt64.toNat_shiftRight]
 show m.toNat < 4294967296↔m.toNat >>> 32=0
 rw [Nat.shiftRight_eq_div_pow];constructor<;>(intro h;omega)
theorem c3C (m:UInt64):(m < 128)↔m >>> 7=0:=by
 rw [UInt64.lt_iff_toNat_lt,←UInt64.toNat_inj,UInt64.toNat_shiftRight]
 show m.toNat < 128↔m.toNat >>> 7=0
 rw [Nat.shiftRight_eq_div_pow];constructor<;>(intro h;omega)
theorem a1i (m:UInt64):a0p m (G3 1)=decide (m≠0):=by unfold a0p G3;simp
theorem a1j (m:UInt64):a0p m (G3 2)=(decide (m≠0)&&decide (m < 4294967296)):=by
 have e:decide (m < 4294967296)=decide (m >>> 32=0):=decide_eq_decide.2 (c2k m)
 rw [e];rfl
theorem a1k (m:UInt64):a0p m (G3 3)=(decide (m≠0)&&decide (m < 128)):=by
 have e:decide (m < 128)=decide (m >>> 7=0):=decide_eq_decide.2 (c3C m)
 rw [e];rfl
theorem a1z (p:Pred):p6 gl prog 84 [.v p] (fun r=>r = .v (y8 p)):=by
 refine p6.jn func84 (by kernel_rfl) 120 rfl fun C hC hG => ?_
 refine .q 3 hG fun b1 => ?_
 refine .q 3 hG ?_
 refine .C1 hC .z (.O9 1 a8 .z ?_)
 refine .q 3 hG ?_
 refine .p (.bS1 j2.l0 a8 R3 a5z (fun c0=>(⟨c0,0,0,0,⟨[]⟩,0⟩:j2)) (fun _=>a8) a8 a8 (.t a8) ?_)
 refine .q 1 hG fun b3 => ?_
 refine .q 19 hG ⟨fun hc10 => ?_,fun hc10 => ?_⟩
 ·refine .F3 [c9,j0] (by kernel_rfl) 8 [[],[(12,0)],[],[(14,2)],[(15,3)],[],[(17,5),(13,1)],[(16,4)]] [6] a8 (by kernel_rfl) a8 (by kernel_rfl) (by decide) ?_
  refine⟨_,fun H=>j5.y9 j2.l1 (fun x=>x.Mask) Z6 a8 (fun _=>a8) (.t a8) a8,?_⟩
  refine⟨_,fun H=>j5.G8 a2y (.t a8) a8,?_⟩
  refine⟨_,fun H=>j5.y9 j2.l1 (fun x=>x.Mask) Z6 a8 (fun _=>a8) (.t a8) a8,?_⟩
  refine⟨_,fun H=>j5.G8 a2y (.t a8) a8,?_⟩
  refine⟨_,fun H=>j5.b4i (.t a8) (.u64 0 a8) a8,?_⟩
  refine⟨_,fun H=>j5.A9 j2.l1 Z6 a8 (.t a8) a8,?_⟩
  refine .inl ?_
  refine⟨_,fun H=>j5.assign (.t a8) a8,?_⟩
  refine⟨⟨([],j1 [_,c8]),a8⟩,?_⟩
  refine B3.Z0 (fun y x => { x with Mask:=y }) a2y (.t rfl) (.t rfl) .z (fun _ _=>rfl) ?_
  refine⟨⟨([],j1 [_,c8]),a8⟩,?_⟩
  show D1 _ _ _ _ _ [] ((4,_)::(17,_)::(16,_)::(15,_)::(14,_)::(13,_)::(12,_)::_) _
  refine .q 7 hG ?_
  refine .go 115 a8 (.t a8) (fun hg118 => .a1s T9 (by decide) a8 (by kernel_rfl) (.q a8 hg118) (.q a8 hg118) a8) ?_
  refine .q 4 hG ?_
  refine .e1 a8 a8 ?_
  refine congrArg AV.v ?_
  unfold y8
  (repeat (first|rw [if_pos (by omega)]|rw [if_neg (by omega)]))
  (try first|rfl|(rw [show G3 p.Kind=G3 1 by rw [hc10],a1i])|(rw [show G3 p.Kind=G3 2 by rw [hc18],a1j])|(rw [show G3 p.Kind=G3 3 by rw [hc31],a1k]))
 ·refine .q 6 hG ⟨fun hc18 => ?_,fun hc18 => ?_⟩
  ·refine .F3 [c9,j0] (by kernel_rfl) 13 [[],[(20,0)],[],[(22,2)],[(23,3)],[(24,4)],[],[(26,6)],[(27,7)],[(25,5),(28,8)],[],[(30,10),(21,1)],[(29,9)]] [11] a8 (by kernel_rfl) a8 (by kernel_rfl) (by decide) ?_
   refine⟨_,fun H=>j5.y9 j2.l1 (fun x=>x.Mask) Z6 a8 (fun _=>a8) (.t a8) a8,?_⟩
   refine⟨_,fun H=>j5.G8 a2y (.t a8) a8,?_⟩
   refine⟨_,fun H=>j5.y9 j2.l1 (fun x=>x.Mask) Z6 a8 (fun _=>a8) (.t a8) a8,?_⟩
   refine⟨_,fun H=>j5.G8 a2y (.t a8) a8,?_⟩
   refine⟨_,fun H=>j5.b4i (.t a8) (.u64 0 a8) a8,?_⟩
   refine⟨_,fun H=>j5.move (.t a8) a8,?_⟩
   refine⟨_,fun H=>⟨_,_,a8,a8,fun hg26=>j5.y9 j2.l1 (fun x=>x.Mask) Z6 a8 (fun _=>a8) (.t a8) a8⟩,?_⟩
   refine⟨_,fun H=>⟨_,_,a8,a8,fun hg27=>j5.G8 a2y (.q a8 hg27) a8⟩,?_⟩
   refine⟨_,fun H=>⟨_,_,a8,a8,fun hg28=>j5.c1h (.q a8 hg28) (.u64 4294967296 a8) a8⟩,?_⟩
   refine⟨_,fun H=>j5.M5 (.t a8) (fun hp=>(.q a8 hp)) a8,?_⟩
   refine⟨_,fun H=>j5.A9 j2.l1 Z6 a8 (.t a8) a8,?_⟩
   refine .inl ?_
   refine⟨_,fun H=>j5.assign (.t a8) a8,?_⟩
   refine⟨⟨([],j1 [_,c8]),a8⟩,?_⟩
   refine B3.Z0 (fun y x => { x with Mask:=y }) a2y (.t rfl) (.t rfl) .z (fun _ _=>rfl) ?_
   refine⟨⟨([],j1 [_,c8]),a8⟩,?_⟩
   show D1 _ _ _ _ _ [] ((4,_)::(30,_)::(29,_)::(28,_)::(27,_)::(26,_)::(25,_)::(24,_)::(23,_)::(22,_)::(21,_)::(20,_)::_) _
   refine .q 7 hG ?_
   refine .go 115 a8 (.t a8) (fun hg118 => .a1s T9 (by decide) a8 (by kernel_rfl) (.q a8 hg118) (.q a8 hg118) a8) ?_
   refine .q 4 hG ?_
   refine .e1 a8 a8 ?_
   refine congrArg AV.v ?_
   unfold y8
   (repeat (first|rw [if_pos (by omega)]|rw [if_neg (by omega)]))
   (try first|rfl|(rw [show G3 p.Kind=G3 1 by rw [hc10],a1i])|(rw [show G3 p.Kind=G3 2 by rw [hc18],a1j])|(rw [show G3 p.Kind=G3 3 by rw [hc31],a1k]))
  ·refine .q 6 hG ⟨fun hc31 => ?_,fun hc31 => ?_⟩
   ·refine .F3 [c9,j0] (by kernel_rfl) 13 [[],[(33,0)],[],[(35,2)],[(36,3)],[(37,4)],[],[(39,6)],[(40,7)],[(38,5),(41,8)],[],[(43,10),(34,1)],[(42,9)]] [11] a8 (by kernel_rfl) a8 (by kernel_rfl) (by decide) ?_
    refine⟨_,fun H=>j5.y9 j2.l1 (fun x=>x.Mask) Z6 a8 (fun _=>a8) (.t a8) a8,?_⟩
    refine⟨_,fun H=>j5.G8 a2y (.t a8) a8,?_⟩
    refine⟨_,fun H=>j5.y9 j2.l1 (fun x=>x.Mask) Z6 a8 (fun _=>a8) (.t a8) a8,?_⟩
    refine⟨_,fun H=>j5.G8 a2y (.t a8) a8,?_⟩
    refine⟨_,fun H=>j5.b4i (.t a8) (.u64 0 a8) a8,?_⟩
    refine⟨_,fun H=>j5.move (.t a8) a8,?_⟩
    refine⟨_,fun H=>⟨_,_,a8,a8,fun hg39=>j5.y9 j2.l1 (fun x=>x.Mask) Z6 a8 (fun _=>a8) (.t a8) a8⟩,?_⟩
    refine⟨_,fun H=>⟨_,_,a8,a8,fun hg40=>j5.G8 a2y (.q a8 hg40) a8⟩,?_⟩
    refine⟨_,fun H=>⟨_,_,a8,a8,fun hg41=>j5.c1h (.q a8 hg41) (.u64 128 a8) a8⟩,?_⟩
    refine⟨_,fun H=>j5.M5 (.t a8) (fun hp=>(.q a8 hp)) a8,?_⟩
    refine⟨_,fun H=>j5.A9 j2.l1 Z6 a8 (.t a8) a8,?_⟩
    refine .inl ?_
    refine⟨_,fun H=>j5.assign (.t a8) a8,?_⟩
    refine⟨⟨([],j1 [_,c8]),a8⟩,?_⟩
    refine B3.Z0 (fun y x => { x with Mask:=y }) a2y (.t rfl) (.t rfl) .z (fun _ _=>rfl) ?_
    refine⟨⟨([],j1 [_,c8]),a8⟩,?_⟩
    show D1 _ _ _ _ _ [] ((4,_)::(43,_)::(42,_)::(41,_)::(40,_)::(39,_)::(38,_)::(37,_)::(36,_)::(35,_)::(34,_)::(33,_)::_) _
    refine .q 7 hG ?_
    refine .go 115 a8 (.t a8) (fun hg118 => .a1s T9 (by decide) a8 (by kernel_rfl) (.q a8 hg118) (.q a8 hg118) a8) ?_
    refine .q 4 hG ?_
    refine .e1 a8 a8 ?_
    refine congrArg AV.v ?_
    unfold y8
    (repeat (first|rw [if_pos (by omega)]|rw [if_neg (by omega)]))
    (try first|rfl|(rw [show G3 p.Kind=G3 1 by rw [hc10],a1i])|(rw [show G3 p.Kind=G3 2 by rw [hc18],a1j])|(rw [show G3 p.Kind=G3 3 by rw [hc31],a1k]))
   ·refine .q 6 hG ⟨fun hc44 => ?_,fun hc44 => ?_⟩
    ·refine .F3 [c9,j0] (by kernel_rfl) 24 [[],[(46,0)],[],[(48,2)],[],[(50,4)],[(51,5)],[(52,6)],[],[(54,8)],[],[(56,10)],[(55,9),(57,11)],[(53,7),(58,12)],[(59,13)],[],[(61,15)],[(62,16)],[(60,14),(63,17)],[],[(65,19),(47,1)],[],[(66,21),(49,3)],[(64,18)]] [20,22] a8 (by kernel_rfl) a8 (by kernel_rfl) (by decide) ?_
     refine⟨_,fun H=>j5.y9 j2.l2 (fun x=>x.p3) K1 a8 (fun _=>a8) (.t a8) a8,?_⟩
     refine⟨_,fun H=>j5.G8 I6 (.t a8) a8,?_⟩
     refine⟨_,fun H=>j5.y9 j2.l3 (fun x=>x.To) K2 a8 (fun _=>a8) (.t a8) a8,?_⟩
     refine⟨_,fun H=>j5.G8 I6 (.t a8) a8,?_⟩
     refine⟨_,fun H=>j5.y9 j2.l2 (fun x=>x.p3) K1 a8 (fun _=>a8) (.t a8) a8,?_⟩
     refine⟨_,fun H=>j5.G8 I6 (.t a8) a8,?_⟩
     refine⟨_,fun H=>j5.geq (.t a8) (.i a8) a8,?_⟩
     refine⟨_,fun H=>j5.move (.t a8) a8,?_⟩
     refine⟨_,fun H=>⟨_,_,a8,a8,fun hg54=>j5.y9 j2.l2 (fun x=>x.p3) K1 a8 (fun _=>a8) (.t a8) a8⟩,?_⟩
     refine⟨_,fun H=>⟨_,_,a8,a8,fun hg55=>j5.G8 I6 (.q a8 hg55) a8⟩,?_⟩
     refine⟨_,fun H=>⟨_,_,a8,a8,fun hg56=>j5.y9 j2.l3 (fun x=>x.To) K2 a8 (fun _=>a8) (.t a8) a8⟩,?_⟩
     refine⟨_,fun H=>⟨_,_,a8,a8,fun hg57=>j5.G8 I6 (.q a8 hg57) a8⟩,?_⟩
     refine⟨_,fun H=>⟨_,_,a8,a8,fun hg58=>j5.leq (.q a8 hg58) (.q a8 hg58) a8⟩,?_⟩
     refine⟨_,fun H=>j5.M5 (.t a8) (fun hp=>(.q a8 hp)) a8,?_⟩
     refine⟨_,fun H=>j5.move (.t a8) a8,?_⟩
     refine⟨_,fun H=>⟨_,_,a8,a8,fun hg61=>j5.y9 j2.l3 (fun x=>x.To) K2 a8 (fun _=>a8) (.t a8) a8⟩,?_⟩
     refine⟨_,fun H=>⟨_,_,a8,a8,fun hg62=>j5.G8 I6 (.q a8 hg62) a8⟩,?_⟩
     refine⟨_,fun H=>⟨_,_,a8,a8,fun hg63=>j5.leq (.q a8 hg63) (.i a8) a8⟩,?_⟩
     refine⟨_,fun H=>j5.M5 (.t a8) (fun hp=>(.q a8 hp)) a8,?_⟩
     refine⟨_,fun H=>j5.A9 j2.l2 K1 a8 (.t a8) a8,?_⟩
     refine .inl ?_
     refine⟨_,fun H=>j5.A9 j2.l3 K2 a8 (.t a8) a8,?_⟩
     refine .inl ?_
     refine⟨_,fun H=>j5.assign (.t a8) a8,?_⟩
     refine⟨⟨([],j1 [_,c8]),a8⟩,?_⟩
     refine B3.Z0 (fun y x => { x with p3:=y }) I6 (.t rfl) (.t rfl) .z (fun _ _=>rfl) ?_
     refine⟨⟨([],j1 [_,c8]),a8⟩,?_⟩
     refine B3.Z0 (fun y x => { x with To:=y }) I6 (.t rfl) (.t rfl) .z (fun _ _=>rfl) ?_
     refine⟨⟨([],j1 [_,c8]),a8⟩,?_⟩
     show D1 _ _ _ _ _ [] ((4,_)::(66,_)::(65,_)::(64,_)::(63,_)::(62,_)::(61,_)::(60,_)::(59,_)::(58,_)::(57,_)::(56,_)::(55,_)::(54,_)::(53,_)::(52,_)::(51,_)::(50,_)::(49,_)::(48,_)::(47,_)::(46,_)::_) _
     refine .q 7 hG ?_
     refine .go 115 a8 (.t a8) (fun hg118 => .a1s T9 (by decide) a8 (by kernel_rfl) (.q a8 hg118) (.q a8 hg118) a8) ?_
     refine .q 4 hG ?_
     refine .e1 a8 a8 ?_
     refine congrArg AV.v ?_
     unfold y8
     (repeat (first|rw [if_pos (by omega)]|rw [if_neg (by omega)]))
     (try first|rfl|(rw [show G3 p.Kind=G3 1 by rw [hc10],a1i])|(rw [show G3 p.Kind=G3 2 by rw [hc18],a1j])|(rw [show G3 p.Kind=G3 3 by rw [hc31],a1k]))
    ·refine .q 6 hG ⟨fun hc67 => ?_,fun hc67 => ?_⟩
     ·refine .F3 [c9,j0] (by kernel_rfl) 27 [[],[(69,0)],[],[(71,2)],[],[(73,4)],[(74,5)],[(75,6)],[],[(77,8)],[(78,9)],[(76,7),(79,10)],[(80,11)],[],[(82,13)],[(83,14)],[(81,12),(84,15)],[(85,16)],[],[(87,18)],[(88,19)],[(86,17),(89,20)],[],[(91,22),(70,1)],[],[(92,24),(72,3)],[(90,21)]] [23,25] a8 (by kernel_rfl) a8 (by kernel_rfl) (by decide) ?_
      refine⟨_,fun H=>j5.y9 j2.l2 (fun x=>x.p3) K1 a8 (fun _=>a8) (.t a8) a8,?_⟩
      refine⟨_,fun H=>j5.G8 I6 (.t a8) a8,?_⟩
      refine⟨_,fun H=>j5.y9 j2.l3 (fun x=>x.To) K2 a8 (fun _=>a8) (.t a8) a8,?_⟩
      refine⟨_,fun H=>j5.G8 I6 (.t a8) a8,?_⟩
      refine⟨_,fun H=>j5.y9 j2.l2 (fun x=>x.p3) K1 a8 (fun _=>a8) (.t a8) a8,?_⟩
      refine⟨_,fun H=>j5.G8 I6 (.t a8) a8,?_⟩
      refine⟨_,fun H=>j5.geq (.t a8) (.i a8) a8,?_⟩
      refine⟨_,fun H=>j5.move (.t a8) a8,?_⟩
      refine⟨_,fun H=>⟨_,_,a8,a8,fun hg77=>j5.y9 j2.l2 (fun x=>x.p3) K1 a8 (fun _=>a8) (.t a8) a8⟩,?_⟩
      refine⟨_,fun H=>⟨_,_,a8,a8,fun hg78=>j5.G8 I6 (.q a8 hg78) a8⟩,?_⟩
      refine⟨_,fun H=>⟨_,_,a8,a8,fun hg79=>j5.lss (.q a8 hg79) (.i a8) a8⟩,?_⟩
      refine⟨_,fun H=>j5.M5 (.t a8) (fun hp=>(.q a8 hp)) a8,?_⟩
      refine⟨_,fun H=>j5.move (.t a8) a8,?_⟩
      refine⟨_,fun H=>⟨_,_,a8,a8,fun hg82=>j5.y9 j2.l3 (fun x=>x.To) K2 a8 (fun _=>a8) (.t a8) a8⟩,?_⟩
      refine⟨_,fun H=>⟨_,_,a8,a8,fun hg83=>j5.G8 I6 (.q a8 hg83) a8⟩,?_⟩
      refine⟨_,fun H=>⟨_,_,a8,a8,fun hg84=>j5.geq (.q a8 hg84) (.i a8) a8⟩,?_⟩
      refine⟨_,fun H=>j5.M5 (.t a8) (fun hp=>(.q a8 hp)) a8,?_⟩
      refine⟨_,fun H=>j5.move (.t a8) a8,?_⟩
      refine⟨_,fun H=>⟨_,_,a8,a8,fun hg87=>j5.y9 j2.l3 (fun x=>x.To) K2 a8 (fun _=>a8) (.t a8) a8⟩,?_⟩
      refine⟨_,fun H=>⟨_,_,a8,a8,fun hg88=>j5.G8 I6 (.q a8 hg88) a8⟩,?_⟩
      refine⟨_,fun H=>⟨_,_,a8,a8,fun hg89=>j5.lss (.q a8 hg89) (.i a8) a8⟩,?_⟩
      refine⟨_,fun H=>j5.M5 (.t a8) (fun hp=>(.q a8 hp)) a8,?_⟩
      refine⟨_,fun H=>j5.A9 j2.l2 K1 a8 (.t a8) a8,?_⟩
      refine .inl ?_
      refine⟨_,fun H=>j5.A9 j2.l3 K2 a8 (.t a8) a8,?_⟩
      refine .inl ?_
      refine⟨_,fun H=>j5.assign (.t a8) a8,?_⟩
      refine⟨⟨([],j1 [_,c8]),a8⟩,?_⟩
      refine B3.Z0 (fun y x => { x with p3:=y }) I6 (.t rfl) (.t rfl) .z (fun _ _=>rfl) ?_
      refine⟨⟨([],j1 [_,c8]),a8⟩,?_⟩
      refine B3.Z0 (fun y x => { x with To:=y }) I6 (.t rfl) (.t rfl) .z (fun _ _=>rfl) ?_
      refine⟨⟨([],j1 [_,c8]),a8⟩,?_⟩
      show D1 _ _ _ _ _ [] ((4,_)::(92,_)::(91,_)::(90,_)::(89,_)::(88,_)::(87,_)::(86,_)::(85,_)::(84,_)::(83,_)::(82,_)::(81,_)::(80,_)::(79,_)::(78,_)::(77,_)::(76,_)::(75,_)::(74,_)::(73,_)::(72,_)::(71,_)::(70,_)::(69,_)::_) _
      refine .q 7 hG ?_
      refine .go 115 a8 (.t a8) (fun hg118 => .a1s T9 (by decide) a8 (by kernel_rfl) (.q a8 hg118) (.q a8 hg118) a8) ?_
      refine .q 4 hG ?_
      refine .e1 a8 a8 ?_
      refine congrArg AV.v ?_
      unfold y8
      (repeat (first|rw [if_pos (by omega)]|rw [if_neg (by omega)]))
      (try first|rfl|(rw [show G3 p.Kind=G3 1 by rw [hc10],a1i])|(rw [show G3 p.Kind=G3 2 by rw [hc18],a1j])|(rw [show G3 p.Kind=G3 3 by rw [hc31],a1k]))
     ·refine .q 6 hG ⟨fun hc93 => ?_,fun hc93 => ?_⟩
      ·refine .draw (by kernel_rfl) 6 [[],[(95,0)],[],[(97,2)],[(98,3)],[]] a8 (by kernel_rfl) a8 ?_
       refine⟨_,j5.y9 j2.l4 (fun x=>x.Name) a9z a8 (fun _=>a8) (.t a8) a8,?_⟩
       refine⟨_,j5.G8 ty9 (.t a8) a8,?_⟩
       refine⟨_,j5.y9 j2.l4 (fun x=>x.Name) a9z a8 (fun _=>a8) (.t a8) a8,?_⟩
       refine⟨_,j5.G8 ty9 (.t a8) a8,?_⟩
       refine⟨_,j5.p8 hG (b2W _) (.cons (.t a8) .nil) a8,?_⟩
       refine⟨_,j5.A9 j2.l4 a9z a8 (.t a8) a8,?_⟩
       show D1 _ _ _ _ _ [_,_] ((100,_)::(99,_)::(98,_)::(97,_)::(96,_)::(95,_)::_) _
       refine .q 9 hG ?_
       refine .go 115 a8 (.t a8) (fun hg118 => .a1s T9 (by decide) a8 (by kernel_rfl) (.q a8 hg118) (.q a8 hg118) a8) ?_
       refine .q 4 hG ?_
       refine .e1 a8 a8 ?_
       refine congrArg AV.v ?_
       unfold y8
       (repeat (first|rw [if_pos (by omega)]|rw [if_neg (by omega)]))
       (try first|rfl|(rw [show G3 p.Kind=G3 1 by rw [hc10],a1i])|(rw [show G3 p.Kind=G3 2 by rw [hc18],a1j])|(rw [show G3 p.Kind=G3 3 by rw [hc31],a1k]))
      ·refine .q 6 hG ⟨fun hc101 => ?_,fun hc101 => ?_⟩
       ·refine .F3 [c9,j0] (by kernel_rfl) 13 [[],[(103,0)],[],[(105,2)],[(106,3)],[(107,4)],[],[(109,6)],[(110,7)],[(108,5),(111,8)],[],[(113,10),(104,1)],[(112,9)]] [11] a8 (by kernel_rfl) a8 (by kernel_rfl) (by decide) ?_
        refine⟨_,fun H=>j5.y9 j2.l5 (fun x=>x.Number) a7y a8 (fun _=>a8) (.t a8) a8,?_⟩
        refine⟨_,fun H=>j5.G8 I6 (.t a8) a8,?_⟩
        refine⟨_,fun H=>j5.y9 j2.l5 (fun x=>x.Number) a7y a8 (fun _=>a8) (.t a8) a8,?_⟩
        refine⟨_,fun H=>j5.G8 I6 (.t a8) a8,?_⟩
        refine⟨_,fun H=>j5.geq (.t a8) (.i a8) a8,?_⟩
        refine⟨_,fun H=>j5.move (.t a8) a8,?_⟩
        refine⟨_,fun H=>⟨_,_,a8,a8,fun hg109=>j5.y9 j2.l5 (fun x=>x.Number) a7y a8 (fun _=>a8) (.t a8) a8⟩,?_⟩
        refine⟨_,fun H=>⟨_,_,a8,a8,fun hg110=>j5.G8 I6 (.q a8 hg110) a8⟩,?_⟩
        refine⟨_,fun H=>⟨_,_,a8,a8,fun hg111=>j5.leq (.q a8 hg111) (.i a8) a8⟩,?_⟩
        refine⟨_,fun H=>j5.M5 (.t a8) (fun hp=>(.q a8 hp)) a8,?_⟩
        refine⟨_,fun H=>j5.A9 j2.l5 a7y a8 (.t a8) a8,?_⟩
        refine .inl ?_
        refine⟨_,fun H=>j5.assign (.t a8) a8,?_⟩
        refine⟨⟨([],j1 [_,c8]),a8⟩,?_⟩
        refine B3.Z0 (fun y x => { x with Number:=y }) I6 (.t rfl) (.t rfl) .z (fun _ _=>rfl) ?_
        refine⟨⟨([],j1 [_,c8]),a8⟩,?_⟩
        show D1 _ _ _ _ _ [] ((4,_)::(113,_)::(112,_)::(111,_)::(110,_)::(109,_)::(108,_)::(107,_)::(106,_)::(105,_)::(104,_)::(103,_)::_) _
        refine .q 7 hG ?_
        refine .go 115 a8 (.t a8) (fun hg118 => .a1s T9 (by decide) a8 (by kernel_rfl) (.q a8 hg118) (.q a8 hg118) a8) ?_
        refine .q 4 hG ?_
        refine .e1 a8 a8 ?_
        refine congrArg AV.v ?_
        unfold y8
        (repeat (first|rw [if_pos (by omega)]|rw [if_neg (by omega)]))
        (try first|rfl|(rw [show G3 p.Kind=G3 1 by rw [hc10],a1i])|(rw [show G3 p.Kind=G3 2 by rw [hc18],a1j])|(rw [show G3 p.Kind=G3 3 by rw [hc31],a1k]))
       ·refine .q 7 hG ?_
        refine .go 115 a8 (.t a8) (fun hg118 => .a1s T9 (by decide) a8 (by kernel_rfl) (.q a8 hg118) (.q a8 hg118) a8) ?_
        refine .q 4 hG ?_
        refine .e1 a8 a8 ?_
        refine congrArg AV.v ?_
        unfold y8
        (repeat (first|rw [if_pos (by omega)]|rw [if_neg (by omega)]))
        (try first|rfl|(rw [show G3 p.Kind=G3 1 by rw [hc10],a1i])|(rw [show G3 p.Kind=G3 2 by rw [hc18],a1j])|(rw [show G3 p.Kind=G3 3 by rw [hc31],a1k]))
def u3 (p:Pred):List UInt8:=I4 p.Kind.toNat++(if p.Kind=4∨p.Kind=5 then I4 p.p3.toNat++I4 p.To.toNat else if p.Kind=6 then I4 p.Name.l.length++p.Name.l else if p.Kind=7 then I4 p.Number.toNat else S0 p.Mask 8)
def U6 (p:Pred):List UInt8×Int:=if y8 p then (u3 p,0) else ([],5)
theorem x8 {p:Pred} (h:y8 p=true):U6 p=(u3 p,0):=by unfold U6;rw [if_pos h]
theorem B2 {p:Pred} (h:¬y8 p=true):U6 p=([],5):=by unfold U6;rw [if_neg h]
structure b7J (p:Pred):Prop where
 kind:1≤p.Kind∧p.Kind≤7
 from_:0≤p.p3∧p.p3≤67108864
 to:0≤p.To∧p.To≤67108864
 name:p.Name.l.length≤16
 num:0≤p.Number∧p.Number≤1000000
theorem L5 {p:Pred} (h:y8 p=true):b7J p:=by
 unfold y8 at h
 obtain⟨k,m,f,t,n,u⟩:=p
 dsimp only at h
 split at h
 ·next hk=>simp only [Bool.and_eq_true,decide_eq_true_eq,j2.mk.injEq] at h;obtain⟨_,_,_,rfl,rfl,rfl,rfl⟩:=h;exact⟨by dsimp only;omega,by simp,by simp,by simp,by simp⟩
 ·split at h
  ·next hk=>simp only [Bool.and_eq_true,decide_eq_true_eq,j2.mk.injEq] at h;obtain⟨h1,_,_,_,_,rfl,rfl⟩:=h;exact⟨by dsimp only;omega,by dsimp only;omega,by dsimp only;omega,by simp,by simp⟩
  ·split at h
   ·next hk=>simp only [Bool.and_eq_true,decide_eq_true_eq,j2.mk.injEq] at h;obtain⟨h1,_,_,_,_,rfl,rfl⟩:=h;exact⟨by dsimp only;omega,by dsimp only;omega,by dsimp only;omega,by simp,by simp⟩
   ·split at h
    ·next hk =>
     simp only [Bool.and_eq_true,decide_eq_true_eq,j2.mk.injEq] at h;obtain⟨h1,_,_,rfl,rfl,_,rfl⟩:=h
     unfold I7 at h1;simp only [Bool.and_eq_true,decide_eq_true_eq] at h1
     exact⟨by dsimp only;omega,by simp,by simp,by dsimp only;omega,by simp⟩
    ·split at h
     ·next hk=>simp only [Bool.and_eq_true,decide_eq_true_eq,j2.mk.injEq] at h;obtain⟨h1,_,_,rfl,rfl,rfl,_⟩:=h;exact⟨by dsimp only;omega,by simp,by simp,by simp,by dsimp only;omega⟩
     ·cases h
theorem G9 {p:Pred} (h:b7J p):(u3 p).length≤24:=by
 have l1:=B1 (n:=p.Kind.toNat) (by have:=h.kind;omega)
 have l2:=B1 (n:=p.p3.toNat) (by have:=h.from_;omega)
 have l3:=B1 (n:=p.To.toNat) (by have:=h.to;omega)
 have l4:=B1 (n:=p.Name.l.length) (by have:=h.name;omega)
 have l5:=B1 (n:=p.Number.toNat) (by have:=h.num;omega)
 have l6:=h.name
 have l0:(I4 p.Kind.toNat).length≤1:=a38 0 _ (by have:=h.kind;omega)
 have l7:(I4 p.Name.l.length).length≤1:=a38 0 _ (by omega)
 unfold u3
 rw [List.length_append]
 split
 ·rw [List.length_append];omega
 ·split
  ·rw [List.length_append];omega
  ·split
   ·omega
   ·rw [E4];omega
def numsL (l:List Int):List UInt8:=(l.map fun n=>I4 n.toNat).flatten
theorem a5h (l:List Int) (k:Nat) (h:k < l.length):numsL (l.take (k+1))=numsL (l.take k)++I4 (l[k]).toNat:=by
 unfold numsL;rw [List.take_succ_eq_append_getElem h,List.map_append,List.flatten_append];simp
theorem a0T (l:List Int) (h:∀ n∈l,0≤n∧n≤281474976710656):(numsL l).length≤7*l.length:=by
 induction l with
 | nil=>simp [numsL]
 | cons n l ih =>
  have h1:=B1 (n:=n.toNat) (by have:=h n (by simp);omega)
  have h2:=ih fun m hm=>h m (by simp [hm])
  unfold numsL at h2 ⊢
  rw [List.map_cons,List.flatten_cons,List.length_append,List.length_cons];omega
theorem a5M (b:List UInt8) (l:List Int) (hb:b.length≤600000) (hl:0 < l.length) (hl2:l.length≤1000) (h:∀ n∈l,0≤n∧n≤281474976710656):G0 gl prog 177 [.v b,.v l] [] (fun r Hs=>∃ u,r = .raw u∧Hs = [.own 5 u (b++numsL l)]):=by
 refine G0.R1 func177 rfl (by kernel_rfl) 21 rfl rfl _ rfl _ rfl fun C hC hG => ?_
 refine .q 6 hG ?_
 refine .name 0 a8 fun w0=>(.H5 5 .z ?_)
 refine .q 6 hG ?_
 refine .E1 (α:=Nat×Value×List UInt8×Bool) [(7,_),(8,_)] (fun x R=>(0,.raw x.2.1)::(9,.v (x.1:Int))::R) (fun x => [(true,.usr x.2.1 (OF.mk 5 x.2.2.1 x.2.2.2))]) (fun x=>x.1≤l.length∧x.2.2.1=b++numsL (l.take x.1)∧(0 < x.1→x.2.2.2=true)) (fun x=>l.length - x.1) ((0,w0,b,false)) (.c2 a8 a8 (.nil _)) ?_ (.c2 a8 a8 (.c2 a8 a8 (.nil _))) (a8) fun x hF => ?_
 ·exact⟨Nat.zero_le _,by simp [numsL],by simp⟩
 obtain⟨k,w,c,o⟩:=x
 obtain⟨h1,h2,h3⟩:=hF
 dsimp only at h1 h2 h3 ⊢
 have hlen9:=a0T (l.take k) (fun n hn=>h n (List.mem_of_mem_take hn))
 have hc9:c.length≤607000:=(by rw [h2,List.length_append];have:(l.take k).length≤l.length:=(by simp;omega);omega)
 refine .q 6 hG ⟨fun hc10 => ?_,fun hc10 => ?_⟩
 ·refine .q 5 hG ?_
  refine .ix (by first|omega|(simp;done)|(simp;omega)|(simp at *;omega)) (by first|omega|(simp;done)|(simp;omega)|(simp at *;omega)) ?_
  refine .q 3 hG ?_
  refine .c1g hC .z (.as 0 a8 .z (.drop ?_))
  refine .q 3 hG ?_
  refine .k0 hG (a0R _ _ (by first|omega|(simp;done)|(simp;omega)|(simp at *;omega)) (h _ (List.getElem_mem _)).1 (h _ (List.getElem_mem _)).2) fun r16 Hs16 hr16 => ?_
  obtain⟨u16,rfl,rfl⟩:=hr16
  show D1 _ _ _ _ _ _ _ ((true,_)::_)
  refine .q 5 hG ?_
  refine .c1e .z ?_
  refine .q 1 hG ?_
  refine .ad (by first|omega|(simp;done)|(simp;omega)|(simp at *;omega)) (by first|omega|(simp;done)|(simp;omega)|(simp at *;omega)) ?_
  refine .q 2 hG ?_
  refine⟨(k+1,u16,_,true),.c2 rfl rfl (.c2 rfl rfl (.nil _)),rfl,?_,by dsimp only;omega⟩
  exact⟨by dsimp only;omega,by dsimp only;rw [a5h l k (by omega),←List.append_assoc,←h2];rfl,fun _=>rfl⟩
 ·refine .q 2 hG ?_
  refine .c1f (h3 (by omega)) .z ?_
  refine .q 5 hG ?_
  refine .e1 a8 a8 ?_
  refine⟨_,.cons .z (.nil),?_⟩
  exact⟨_,rfl,by rw [h2,List.take_of_length_le (by omega)]⟩
theorem a3t (b:List UInt8) (l:List Int) (hb:b.length≤600000) (hl:0 < l.length) (hl2:l.length≤1000) (h:∀ n∈l,0≤n∧n≤281474976710656):p6 gl prog 177 [.v b,.v l] (fun r=>r = .v (b++numsL l)):=(a5M b l hb hl hl2 h).a9Q
theorem a8T (p:Pred):p6 gl prog 151 [.v p] (fun r=>r = .t2 (.v (U6 p).1) (.v (U6 p).2)):=by
 refine p6.jn func151 (by kernel_rfl) 54 rfl fun C hC hG => ?_
 refine .q 3 hG fun b1 => ?_
 refine .q 5 hG ?_
 refine .C1 hC .z (.O9 1 a8 .z ?_)
 refine .q 2 hG ?_
 refine .k hG (V6 _) ?_
 refine .q 2 hG ?_
 refine .cond (.t a8) (fun hc8 => ?_) (fun hc8 => ?_)
 ·refine .q 6 hG ?_
  refine .e2 a8 a8 a8 ?_
  first|(exfalso;omega)|(rw [B2 (by simpa using hc8)])|(rw [x8 hpo];unfold u3;(repeat (first|rw [if_pos (by omega)]|rw [if_neg (by omega)]));(try simp [numsL]);done)|(obtain rfl:j=8:=(by omega);rw [x8 hpo];unfold u3;(repeat (first|rw [if_pos (by omega)]|rw [if_neg (by omega)]));simp [numsL])
 ·refine .q 2 hG ?_
  have hpo:y8 p=true:=by simpa using hc8
  have hp:=L5 hpo
  have hp4:=hp.name
  have hk1:(numsL [p.Kind]).length≤7:=a0T [p.Kind] (by have:=hp.kind;simp;omega)
  refine .q 3 hG ?_
  refine .bs a8 (by decide) fun b11=>(.y0 hC .z (.as 11 a8 .z (.h (.a7D hG (a5M _ _ (by decide) (by simp) (by simp) (by have:=hp.kind;simp;omega)) (.cons .b5k (.cons (.t a8) .nil)) fun r12 Hs12 hr12 => ?_))))
  obtain⟨u12,rfl,rfl⟩:=hr12
  show D1 _ _ _ _ _ _ _ ((true,_)::_)
  refine .q 16 hG ⟨fun hc15 => ?_,fun hc15 => ?_⟩
  ·refine .q 2 hG ⟨fun hc15 => ?_,fun hc15 => ?_⟩
   ·refine .q 1 hG ?_
    refine .y0 hC .z (.as 4 a8 .z ?_)
    refine .q 6 hG ?_
    refine .bs a8 (by decide) fun b23=>(.y0 hC .z (.as 23 a8 .z (.p (.p8 hG (a3t _ _ (by simp;omega) (by simp) (by simp) (by have:=hp.from_;have:=hp.to;simp;omega)) (.cons (.t a8) (.cons (.t a8) .nil)) ?_))))
    refine .q 4 hG ?_
    refine .e2 a8 a8 a8 ?_
    first|(exfalso;omega)|(rw [B2 (by simpa using hc8)])|(rw [x8 hpo];unfold u3;(repeat (first|rw [if_pos (by omega)]|rw [if_neg (by omega)]));(try simp [numsL]);done)|(obtain rfl:j=8:=(by omega);rw [x8 hpo];unfold u3;(repeat (first|rw [if_pos (by omega)]|rw [if_neg (by omega)]));simp [numsL])
   ·refine .q 6 hG ⟨fun hc25 => ?_,fun hc25 => ?_⟩
    ·refine .q 1 hG ?_
     refine .y0 hC .z (.as 4 a8 .z ?_)
     refine .q 4 hG ?_
     refine .h (.T6 underlying9 underlying64 underlying5 (.t a8) fun w30=>(.y0 hC .z (.as 30 a8 .z (.p (.p8 hG (a95 _ _ (by first|omega|(simp;done)|(simp;omega)|(simp at *;omega)) (by first|omega|(simp;done)|(simp;omega)|(simp at *;omega))) (.cons (.t a8) (.cons (.t a8) .nil)) ?_)))))
     refine .q 6 hG ?_
     refine .e2 a8 a8 a8 ?_
     first|(exfalso;omega)|(rw [B2 (by simpa using hc8)])|(rw [x8 hpo];unfold u3;(repeat (first|rw [if_pos (by omega)]|rw [if_neg (by omega)]));(try simp [numsL]);done)|(obtain rfl:j=8:=(by omega);rw [x8 hpo];unfold u3;(repeat (first|rw [if_pos (by omega)]|rw [if_neg (by omega)]));simp [numsL])
    ·refine .q 6 hG ⟨fun hc34 => ?_,fun hc34 => ?_⟩
     ·refine .q 1 hG ?_
      refine .y0 hC .z (.as 4 a8 .z ?_)
      refine .q 4 hG ?_
      refine .bs a8 (by decide) fun b39=>(.y0 hC .z (.as 39 a8 .z (.p (.p8 hG (a3t _ _ (by simp;omega) (by simp) (by simp) (by have:=hp.num;simp;omega)) (.cons (.t a8) (.cons (.t a8) .nil)) ?_))))
      refine .q 4 hG ?_
      refine .e2 a8 a8 a8 ?_
      first|(exfalso;omega)|(rw [B2 (by simpa using hc8)])|(rw [x8 hpo];unfold u3;(repeat (first|rw [if_pos (by omega)]|rw [if_neg (by omega)]));(try simp [numsL]);done)|(obtain rfl:j=8:=(by omega);rw [x8 hpo];unfold u3;(repeat (first|rw [if_pos (by omega)]|rw [if_neg (by omega)]));simp [numsL])
     ·refine .q 7 hG ?_
      refine .E1 (α:=Nat×Value) [(1,_)] (fun x R=>(4,.raw x.2)::(5,.v (56 - 8*(x.1:Int)))::R) (fun x => [(true,.own 5 x.2 (numsL [p.Kind]++S0 p.Mask x.1)),(true,.fz (slc b11 0 1 1) (.v [p.Kind])),(true,.fz (ptr b1 0) (.p p))]) (fun x=>x.1≤8) (fun x=>8 - x.1) ((0,u12)) (.cons a8 (.nil _)) ?_ (.c2 a8 a8 (.cons a8 (.nil _))) (congrArg (fun q => [(true,D8.own _ _ q),_,_]) (by simp [S0])) fun x hF => ?_
      ·simp
      obtain⟨j,w⟩:=x
      dsimp only at hF ⊢
      have hk2:=E4 p.Mask j
      refine .q 7 hG ⟨fun hc42 => ?_,fun hc42 => ?_⟩
      ·refine .q 8 hG ?_
       refine .p (.a3q (.t a8) (.t a8) (by first|omega|(simp;done)|(simp;omega)|(simp at *;omega)) (by first|omega|(simp;done)|(simp;omega)|(simp at *;omega)) (.p (.a2J underlying54 underlying5 (.t a8) ?_)))
       refine .bs a8 (by decide) fun b51 => ?_
       refine .ap (by first|omega|(simp;done)|(simp;omega)|(simp at *;omega)) (by first|omega|(simp;done)|(simp;omega)|(simp at *;omega)) fun w52 => ?_
       refine .q 1 hG ?_
       refine .drop ?_
       refine .q 3 hG ?_
       refine .sb (by first|omega|(simp;done)|(simp;omega)|(simp at *;omega)) (by first|omega|(simp;done)|(simp;omega)|(simp at *;omega)) ?_
       refine .q 2 hG ?_
       refine⟨(j+1,w52),.cons rfl (.cons (congrArg (fun q=>some (AV.v q)) (by dsimp only;omega)) (.cons rfl (.nil _))),congrArg (fun q => [(true,D8.own _ _ q),_,_]) (by dsimp only;rw [a2N,show(56 - 8*(j:Int)).toNat=56 - 8*j by omega];try simp),?_,by dsimp only;omega⟩
       dsimp only;omega
      ·refine .q 2 hG ?_
       refine .y0 hC .z (.as 4 a8 .z ?_)
       refine .q 6 hG ?_
       refine .e2 a8 a8 a8 ?_
       first|(exfalso;omega)|(rw [B2 (by simpa using hc8)])|(rw [x8 hpo];unfold u3;(repeat (first|rw [if_pos (by omega)]|rw [if_neg (by omega)]));(try simp [numsL]);done)|(obtain rfl:j=8:=(by omega);rw [x8 hpo];unfold u3;(repeat (first|rw [if_pos (by omega)]|rw [if_neg (by omega)]));simp [numsL])
  ·refine .q 5 hG ⟨fun hc15 => ?_,fun hc15 => ?_⟩
   ·refine .q 1 hG ?_
    refine .y0 hC .z (.as 4 a8 .z ?_)
    refine .q 6 hG ?_
    refine .bs a8 (by decide) fun b23=>(.y0 hC .z (.as 23 a8 .z (.p (.p8 hG (a3t _ _ (by simp;omega) (by simp) (by simp) (by have:=hp.from_;have:=hp.to;simp;omega)) (.cons (.t a8) (.cons (.t a8) .nil)) ?_))))
    refine .q 4 hG ?_
    refine .e2 a8 a8 a8 ?_
    first|(exfalso;omega)|(rw [B2 (by simpa using hc8)])|(rw [x8 hpo];unfold u3;(repeat (first|rw [if_pos (by omega)]|rw [if_neg (by omega)]));(try simp [numsL]);done)|(obtain rfl:j=8:=(by omega);rw [x8 hpo];unfold u3;(repeat (first|rw [if_pos (by omega)]|rw [if_neg (by omega)]));simp [numsL])
   ·refine .q 6 hG ⟨fun hc25 => ?_,fun hc25 => ?_⟩
    ·refine .q 1 hG ?_
     refine .y0 hC .z (.as 4 a8 .z ?_)
     refine .q 4 hG ?_
     refine .h (.T6 underlying9 underlying64 underlying5 (.t a8) fun w30=>(.y0 hC .z (.as 30 a8 .z (.p (.p8 hG (a95 _ _ (by first|omega|(simp;done)|(simp;omega)|(simp at *;omega)) (by first|omega|(simp;done)|(simp;omega)|(simp at *;omega))) (.cons (.t a8) (.cons (.t a8) .nil)) ?_)))))
     refine .q 6 hG ?_
     refine .e2 a8 a8 a8 ?_
     first|(exfalso;omega)|(rw [B2 (by simpa using hc8)])|(rw [x8 hpo];unfold u3;(repeat (first|rw [if_pos (by omega)]|rw [if_neg (by omega)]));(try simp [numsL]);done)|(obtain rfl:j=8:=(by omega);rw [x8 hpo];unfold u3;(repeat (first|rw [if_pos (by omega)]|rw [if_neg (by omega)]));simp [numsL])
    ·refine .q 6 hG ⟨fun hc34 => ?_,fun hc34 => ?_⟩
     ·refine .q 1 hG ?_
      refine .y0 hC .z (.as 4 a8 .z ?_)
      refine .q 4 hG ?_
      refine .bs a8 (by decide) fun b39=>(.y0 hC .z (.as 39 a8 .z (.p (.p8 hG (a3t _ _ (by simp;omega) (by simp) (by simp) (by have:=hp.num;simp;omega)) (.cons (.t a8) (.cons (.t a8) .nil)) ?_))))
      refine .q 4 hG ?_
      refine .e2 a8 a8 a8 ?_
      first|(exfalso;omega)|(rw [B2 (by simpa using hc8)])|(rw [x8 hpo];unfold u3;(repeat (first|rw [if_pos (by omega)]|rw [if_neg (by omega)]));(try simp [numsL]);done)|(obtain rfl:j=8:=(by omega);rw [x8 hpo];unfold u3;(repeat (first|rw [if_pos (by omega)]|rw [if_neg (by omega)]));simp [numsL])
     ·refine .q 7 hG ?_
      refine .E1 (α:=Nat×Value) [(1,_)] (fun x R=>(4,.raw x.2)::(5,.v (56 - 8*(x.1:Int)))::R) (fun x => [(true,.own 5 x.2 (numsL [p.Kind]++S0 p.Mask x.1)),(true,.fz (slc b11 0 1 1) (.v [p.Kind])),(true,.fz (ptr b1 0) (.p p))]) (fun x=>x.1≤8) (fun x=>8 - x.1) ((0,u12)) (.cons a8 (.nil _)) ?_ (.c2 a8 a8 (.cons a8 (.nil _))) (congrArg (fun q => [(true,D8.own _ _ q),_,_]) (by simp [S0])) fun x hF => ?_
      ·simp
      obtain⟨j,w⟩:=x
      dsimp only at hF ⊢
      have hk2:=E4 p.Mask j
      refine .q 7 hG ⟨fun hc42 => ?_,fun hc42 => ?_⟩
      ·refine .q 8 hG ?_
       refine .p (.a3q (.t a8) (.t a8) (by first|omega|(simp;done)|(simp;omega)|(simp at *;omega)) (by first|omega|(simp;done)|(simp;omega)|(simp at *;omega)) (.p (.a2J underlying54 underlying5 (.t a8) ?_)))
       refine .bs a8 (by decide) fun b51 => ?_
       refine .ap (by first|omega|(simp;done)|(simp;omega)|(simp at *;omega)) (by first|omega|(simp;done)|(simp;omega)|(simp at *;omega)) fun w52 => ?_
       refine .q 1 hG ?_
       refine .drop ?_
       refine .q 3 hG ?_
       refine .sb (by first|omega|(simp;done)|(simp;omega)|(simp at *;omega)) (by first|omega|(simp;done)|(simp;omega)|(simp at *;omega)) ?_
       refine .q 2 hG ?_
       refine⟨(j+1,w52),.cons rfl (.cons (congrArg (fun q=>some (AV.v q)) (by dsimp only;omega)) (.cons rfl (.nil _))),congrArg (fun q => [(true,D8.own _ _ q),_,_]) (by dsimp only;rw [a2N,show(56 - 8*(j:Int)).toNat=56 - 8*j by omega];try simp),?_,by dsimp only;omega⟩
       dsimp only;omega
      ·refine .q 2 hG ?_
       refine .y0 hC .z (.as 4 a8 .z ?_)
       refine .q 6 hG ?_
       refine .e2 a8 a8 a8 ?_
       first|(exfalso;omega)|(rw [B2 (by simpa using hc8)])|(rw [x8 hpo];unfold u3;(repeat (first|rw [if_pos (by omega)]|rw [if_neg (by omega)]));(try simp [numsL]);done)|(obtain rfl:j=8:=(by omega);rw [x8 hpo];unfold u3;(repeat (first|rw [if_pos (by omega)]|rw [if_neg (by omega)]));simp [numsL])
theorem a5i (p:Pred):p6 gl prog 140 [.v p] (fun r=>r = .t2 (.v (U6 p).1) (.v (U6 p).2)):=by
 refine p6.jn func140 (by kernel_rfl) 50 rfl fun C hC hG => ?_
 refine .q 3 hG fun b1 => ?_
 refine .q 5 hG ?_
 refine .C1 hC .z (.O9 1 a8 .z ?_)
 refine .q 2 hG ?_
 refine .k hG (a1z _) ?_
 refine .q 2 hG ?_
 refine .cond (.t a8) (fun hc7 => ?_) (fun hc7 => ?_)
 ·refine .q 6 hG ?_
  refine .e2 a8 a8 a8 ?_
  first|(exfalso;omega)|(rw [B2 (by simpa using hc7)])|(rw [x8 hpo];unfold u3;(repeat (first|rw [if_pos (by omega)]|rw [if_neg (by omega)]));(try simp);done)
 ·refine .q 2 hG ?_
  have hpo:y8 p=true:=by simpa using hc7
  have hp:=L5 hpo
  have hpk:=hp.kind
  refine .q 3 hG ?_
  refine .k0 hG (a2m _ (by omega) (by omega)) fun r10 Hs10 hr10 => ?_
  obtain⟨u10,rfl,rfl⟩:=hr10
  show D1 _ _ _ _ _ _ _ ((true,_)::_)
  refine .q 4 hG ?_
  have hk2:=E4 p.Mask 8
  have hp1:=hp.from_
  have hp2:=hp.to
  have hp3:=hp.num
  have hp4:=hp.name
  have hk1:=B1 (n:=p.Kind.toNat) (by omega)
  have hk3:=B1 (n:=p.p3.toNat) (by omega)
  have hk4:=B1 (n:=p.To.toNat) (by omega)
  have hk5:=B1 (n:=p.Number.toNat) (by omega)
  have hk6:=B1 (n:=p.Name.l.length) (by omega)
  refine .q 12 hG ⟨fun hc13 => ?_,fun hc13 => ?_⟩
  ·refine .q 2 hG ⟨fun hc13 => ?_,fun hc13 => ?_⟩
   ·refine .q 4 hG ?_
    refine .k hG ((a11 _).a9Q) ?_
    refine .ap (by first|omega|(simp;done)|(simp;omega)|(simp at *;omega)) (by first|omega|(simp;done)|(simp;omega)|(simp at *;omega)) fun w21 => ?_
    refine .q 3 hG ?_
    refine .y0 hC .z (.as 4 a8 .z ?_)
    refine .q 6 hG ?_
    refine .e2 a8 a8 a8 ?_
    first|(exfalso;omega)|(rw [B2 (by simpa using hc7)])|(rw [x8 hpo];unfold u3;(repeat (first|rw [if_pos (by omega)]|rw [if_neg (by omega)]));(try simp);done)
   ·refine .q 7 hG ⟨fun hc22 => ?_,fun hc22 => ?_⟩
    ·refine .q 2 hG ⟨fun hc22 => ?_,fun hc22 => ?_⟩
     ·refine .F3 [c9,j0] (by kernel_rfl) 10 [[],[],[(26,1)],[(27,2)],[(25,0),(28,3)],[],[(30,5)],[(31,6)],[(29,4),(32,7)],[(33,8)]] [0,4,8,9] a8 (by kernel_rfl) a8 (by kernel_rfl) (by decide) (.inl ?_)
      refine⟨_,fun H=>j5.y9 j2.l2 (fun x=>x.p3) K1 a8 (fun _=>a8) (.t a8) a8,?_⟩
      refine⟨_,fun H=>j5.G8 I6 (.t a8) a8,?_⟩
      refine⟨_,fun H=>j5.p8 hG (E6 _ (by omega) (by omega)) (.cons (.t a8) .nil) a8,?_⟩
      refine .inl ?_
      refine⟨_,fun H=>j5.y9 j2.l3 (fun x=>x.To) K2 a8 (fun _=>a8) (.t a8) a8,?_⟩
      refine⟨_,fun H=>j5.G8 I6 (.t a8) a8,?_⟩
      refine⟨_,fun H=>j5.p8 hG (E6 _ (by omega) (by omega)) (.cons (.t a8) .nil) a8,?_⟩
      refine .inl (.inl ?_)
      refine⟨⟨([],j1 [_,c8]),a8⟩,?_⟩
      refine B3.ofP (j5.move (.t rfl) ?_)
      refine⟨⟨([],j1 [_,c8]),a8⟩,?_⟩
      refine B3.append O2 (.inl ⟨_,underlying64⟩) rfl .z (.v (.t rfl)) (by first|omega|(simp;done)|(simp;omega)|(simp at *;omega)) (by first|omega|(simp;done)|(simp;omega)|(simp at *;omega)) (fun w29 => ?_) rfl
      refine⟨⟨([],j1 [_,c8]),a8⟩,?_⟩
      refine B3.append O2 (.inl ⟨_,underlying64⟩) rfl .z (.v (.t rfl)) (by first|omega|(simp;done)|(simp;omega)|(simp at *;omega)) (by first|omega|(simp;done)|(simp;omega)|(simp at *;omega)) (fun w33 => ?_) rfl
      refine⟨⟨([],j1 [_,c8]),a8⟩,?_⟩
      refine B3.ofP (j5.assign (.t rfl) ?_)
      refine⟨⟨([],j1 [_,c8]),a8⟩,?_⟩
      show D1 _ _ _ _ _ [] ((4,_)::(33,_)::(32,_)::(31,_)::(30,_)::(29,_)::(28,_)::(27,_)::(26,_)::(25,_)::_) _
      refine .q 2 hG ?_
      refine .y0 hC .z (.as 4 a8 .z ?_)
      refine .q 6 hG ?_
      refine .e2 a8 a8 a8 ?_
      first|(exfalso;omega)|(rw [B2 (by simpa using hc7)])|(rw [x8 hpo];unfold u3;(repeat (first|rw [if_pos (by omega)]|rw [if_neg (by omega)]));(try simp);done)
     ·refine .q 6 hG ⟨fun hc34 => ?_,fun hc34 => ?_⟩
      ·refine .q 4 hG ?_
       refine .h (.T6 underlying9 underlying64 underlying5 (.t a8) fun w39=>(.y0 hC .z (.as 39 a8 .z ?_)))
       refine .k hG (a0o _ (by omega)) ?_
       refine .ap (by first|omega|(simp;done)|(simp;omega)|(simp at *;omega)) (by first|omega|(simp;done)|(simp;omega)|(simp at *;omega)) fun w41 => ?_
       refine .q 3 hG ?_
       refine .y0 hC .z1 (.as 4 a8 .z1 ?_)
       refine .q 6 hG ?_
       refine .e2 a8 a8 a8 ?_
       first|(exfalso;omega)|(rw [B2 (by simpa using hc7)])|(rw [x8 hpo];unfold u3;(repeat (first|rw [if_pos (by omega)]|rw [if_neg (by omega)]));(try simp);done)
      ·refine .q 6 hG ⟨fun hc42 => ?_,fun hc42 => ?_⟩
       ·refine .q 4 hG ?_
        refine .k hG (E6 _ (by omega) (by omega)) ?_
        refine .ap (by first|omega|(simp;done)|(simp;omega)|(simp at *;omega)) (by first|omega|(simp;done)|(simp;omega)|(simp at *;omega)) fun w48 => ?_
        refine .q 3 hG ?_
        refine .y0 hC .z (.as 4 a8 .z ?_)
        refine .q 6 hG ?_
        refine .e2 a8 a8 a8 ?_
        first|(exfalso;omega)|(rw [B2 (by simpa using hc7)])|(rw [x8 hpo];unfold u3;(repeat (first|rw [if_pos (by omega)]|rw [if_neg (by omega)]));(try simp);done)
       ·refine .q 2 hG ?_
        refine .y0 hC .z (.as 4 a8 .z ?_)
        refine .q 6 hG ?_
        refine .e2 a8 a8 a8 ?_
        first|(exfalso;omega)|(rw [B2 (by simpa using hc7)])|(rw [x8 hpo];unfold u3;(repeat (first|rw [if_pos (by omega)]|rw [if_neg (by omega)]));(try simp);done)
    ·refine .q 5 hG ⟨fun hc22 => ?_,fun hc22 => ?_⟩
     ·refine .F3 [c9,j0] (by kernel_rfl) 10 [[],[],[(26,1)],[(27,2)],[(25,0),(28,3)],[],[(30,5)],[(31,6)],[(29,4),(32,7)],[(33,8)]] [0,4,8,9] a8 (by kernel_rfl) a8 (by kernel_rfl) (by decide) (.inl ?_)
      refine⟨_,fun H=>j5.y9 j2.l2 (fun x=>x.p3) K1 a8 (fun _=>a8) (.t a8) a8,?_⟩
      refine⟨_,fun H=>j5.G8 I6 (.t a8) a8,?_⟩
      refine⟨_,fun H=>j5.p8 hG (E6 _ (by omega) (by omega)) (.cons (.t a8) .nil) a8,?_⟩
      refine .inl ?_
      refine⟨_,fun H=>j5.y9 j2.l3 (fun x=>x.To) K2 a8 (fun _=>a8) (.t a8) a8,?_⟩
      refine⟨_,fun H=>j5.G8 I6 (.t a8) a8,?_⟩
      refine⟨_,fun H=>j5.p8 hG (E6 _ (by omega) (by omega)) (.cons (.t a8) .nil) a8,?_⟩
      refine .inl (.inl ?_)
      refine⟨⟨([],j1 [_,c8]),a8⟩,?_⟩
      refine B3.ofP (j5.move (.t rfl) ?_)
      refine⟨⟨([],j1 [_,c8]),a8⟩,?_⟩
      refine B3.append O2 (.inl ⟨_,underlying64⟩) rfl .z (.v (.t rfl)) (by first|omega|(simp;done)|(simp;omega)|(simp at *;omega)) (by first|omega|(simp;done)|(simp;omega)|(simp at *;omega)) (fun w29 => ?_) rfl
      refine⟨⟨([],j1 [_,c8]),a8⟩,?_⟩
      refine B3.append O2 (.inl ⟨_,underlying64⟩) rfl .z (.v (.t rfl)) (by first|omega|(simp;done)|(simp;omega)|(simp at *;omega)) (by first|omega|(simp;done)|(simp;omega)|(simp at *;omega)) (fun w33 => ?_) rfl
      refine⟨⟨([],j1 [_,c8]),a8⟩,?_⟩
      refine B3.ofP (j5.assign (.t rfl) ?_)
      refine⟨⟨([],j1 [_,c8]),a8⟩,?_⟩
      show D1 _ _ _ _ _ [] ((4,_)::(33,_)::(32,_)::(31,_)::(30,_)::(29,_)::(28,_)::(27,_)::(26,_)::(25,_)::_) _
      refine .q 2 hG ?_
      refine .y0 hC .z (.as 4 a8 .z ?_)
      refine .q 6 hG ?_
      refine .e2 a8 a8 a8 ?_
      first|(exfalso;omega)|(rw [B2 (by simpa using hc7)])|(rw [x8 hpo];unfold u3;(repeat (first|rw [if_pos (by omega)]|rw [if_neg (by omega)]));(try simp);done)
     ·refine .q 6 hG ⟨fun hc34 => ?_,fun hc34 => ?_⟩
      ·refine .q 4 hG ?_
       refine .h (.T6 underlying9 underlying64 underlying5 (.t a8) fun w39=>(.y0 hC .z (.as 39 a8 .z ?_)))
       refine .k hG (a0o _ (by omega)) ?_
       refine .ap (by first|omega|(simp;done)|(simp;omega)|(simp at *;omega)) (by first|omega|(simp;done)|(simp;omega)|(simp at *;omega)) fun w41 => ?_
       refine .q 3 hG ?_
       refine .y0 hC .z1 (.as 4 a8 .z1 ?_)
       refine .q 6 hG ?_
       refine .e2 a8 a8 a8 ?_
       first|(exfalso;omega)|(rw [B2 (by simpa using hc7)])|(rw [x8 hpo];unfold u3;(repeat (first|rw [if_pos (by omega)]|rw [if_neg (by omega)]));(try simp);done)
      ·refine .q 6 hG ⟨fun hc42 => ?_,fun hc42 => ?_⟩
       ·refine .q 4 hG ?_
        refine .k hG (E6 _ (by omega) (by omega)) ?_
        refine .ap (by first|omega|(simp;done)|(simp;omega)|(simp at *;omega)) (by first|omega|(simp;done)|(simp;omega)|(simp at *;omega)) fun w48 => ?_
        refine .q 3 hG ?_
        refine .y0 hC .z (.as 4 a8 .z ?_)
        refine .q 6 hG ?_
        refine .e2 a8 a8 a8 ?_
        first|(exfalso;omega)|(rw [B2 (by simpa using hc7)])|(rw [x8 hpo];unfold u3;(repeat (first|rw [if_pos (by omega)]|rw [if_neg (by omega)]));(try simp);done)
       ·refine .q 2 hG ?_
        refine .y0 hC .z (.as 4 a8 .z ?_)
        refine .q 6 hG ?_
        refine .e2 a8 a8 a8 ?_
        first|(exfalso;omega)|(rw [B2 (by simpa using hc7)])|(rw [x8 hpo];unfold u3;(repeat (first|rw [if_pos (by omega)]|rw [if_neg (by omega)]));(try simp);done)
  ·refine .q 6 hG ⟨fun hc13 => ?_,fun hc13 => ?_⟩
   ·refine .q 2 hG ⟨fun hc13 => ?_,fun hc13 => ?_⟩
    ·refine .q 4 hG ?_
     refine .k hG ((a11 _).a9Q) ?_
     refine .ap (by first|omega|(simp;done)|(simp;omega)|(simp at *;omega)) (by first|omega|(simp;done)|(simp;omega)|(simp at *;omega)) fun w21 => ?_
     refine .q 3 hG ?_
     refine .y0 hC .z (.as 4 a8 .z ?_)
     refine .q 6 hG ?_
     refine .e2 a8 a8 a8 ?_
     first|(exfalso;omega)|(rw [B2 (by simpa using hc7)])|(rw [x8 hpo];unfold u3;(repeat (first|rw [if_pos (by omega)]|rw [if_neg (by omega)]));(try simp);done)
    ·refine .q 7 hG ⟨fun hc22 => ?_,fun hc22 => ?_⟩
     ·refine .q 2 hG ⟨fun hc22 => ?_,fun hc22 => ?_⟩
      ·refine .F3 [c9,j0] (by kernel_rfl) 10 [[],[],[(26,1)],[(27,2)],[(25,0),(28,3)],[],[(30,5)],[(31,6)],[(29,4),(32,7)],[(33,8)]] [0,4,8,9] a8 (by kernel_rfl) a8 (by kernel_rfl) (by decide) (.inl ?_)
       refine⟨_,fun H=>j5.y9 j2.l2 (fun x=>x.p3) K1 a8 (fun _=>a8) (.t a8) a8,?_⟩
       refine⟨_,fun H=>j5.G8 I6 (.t a8) a8,?_⟩
       refine⟨_,fun H=>j5.p8 hG (E6 _ (by omega) (by omega)) (.cons (.t a8) .nil) a8,?_⟩
       refine .inl ?_
       refine⟨_,fun H=>j5.y9 j2.l3 (fun x=>x.To) K2 a8 (fun _=>a8) (.t a8) a8,?_⟩
       refine⟨_,fun H=>j5.G8 I6 (.t a8) a8,?_⟩
       refine⟨_,fun H=>j5.p8 hG (E6 _ (by omega) (by omega)) (.cons (.t a8) .nil) a8,?_⟩
       refine .inl (.inl ?_)
       refine⟨⟨([],j1 [_,c8]),a8⟩,?_⟩
       refine B3.ofP (j5.move (.t rfl) ?_)
       refine⟨⟨([],j1 [_,c8]),a8⟩,?_⟩
       refine B3.append O2 (.inl ⟨_,underlying64⟩) rfl .z (.v (.t rfl)) (by first|omega|(simp;done)|(simp;omega)|(simp at *;omega)) (by first|omega|(simp;done)|(simp;omega)|(simp at *;omega)) (fun w29 => ?_) rfl
       refine⟨⟨([],j1 [_,c8]),a8⟩,?_⟩
       refine B3.append O2 (.inl ⟨_,underlying64⟩) rfl .z (.v (.t rfl)) (by first|omega|(simp;done)|(simp;omega)|(simp at *;omega)) (by first|omega|(simp;done)|(simp;omega)|(simp at *;omega)) (fun w33 => ?_) rfl
       refine⟨⟨([],j1 [_,c8]),a8⟩,?_⟩
       refine B3.ofP (j5.assign (.t rfl) ?_)
       refine⟨⟨([],j1 [_,c8]),a8⟩,?_⟩
       show D1 _ _ _ _ _ [] ((4,_)::(33,_)::(32,_)::(31,_)::(30,_)::(29,_)::(28,_)::(27,_)::(26,_)::(25,_)::_) _
       refine .q 2 hG ?_
       refine .y0 hC .z (.as 4 a8 .z ?_)
       refine .q 6 hG ?_
       refine .e2 a8 a8 a8 ?_
       first|(exfalso;omega)|(rw [B2 (by simpa using hc7)])|(rw [x8 hpo];unfold u3;(repeat (first|rw [if_pos (by omega)]|rw [if_neg (by omega)]));(try simp);done)
      ·refine .q 6 hG ⟨fun hc34 => ?_,fun hc34 => ?_⟩
       ·refine .q 4 hG ?_
        refine .h (.T6 underlying9 underlying64 underlying5 (.t a8) fun w39=>(.y0 hC .z (.as 39 a8 .z ?_)))
        refine .k hG (a0o _ (by omega)) ?_
        refine .ap (by first|omega|(simp;done)|(simp;omega)|(simp at *;omega)) (by first|omega|(simp;done)|(simp;omega)|(simp at *;omega)) fun w41 => ?_
        refine .q 3 hG ?_
        refine .y0 hC .z1 (.as 4 a8 .z1 ?_)
        refine .q 6 hG ?_
        refine .e2 a8 a8 a8 ?_
        first|(exfalso;omega)|(rw [B2 (by simpa using hc7)])|(rw [x8 hpo];unfold u3;(repeat (first|rw [if_pos (by omega)]|rw [if_neg (by omega)]));(try simp);done)
       ·refine .q 6 hG ⟨fun hc42 => ?_,fun hc42 => ?_⟩
        ·refine .q 4 hG ?_
         refine .k hG (E6 _ (by omega) (by omega)) ?_
         refine .ap (by first|omega|(simp;done)|(simp;omega)|(simp at *;omega)) (by first|omega|(simp;done)|(simp;omega)|(simp at *;omega)) fun w48 => ?_
         refine .q 3 hG ?_
         refine .y0 hC .z (.as 4 a8 .z ?_)
         refine .q 6 hG ?_
         refine .e2 a8 a8 a8 ?_
         first|(exfalso;omega)|(rw [B2 (by simpa using hc7)])|(rw [x8 hpo];unfold u3;(repeat (first|rw [if_pos (by omega)]|rw [if_neg (by omega)]));(try simp);done)
        ·refine .q 2 hG ?_
         refine .y0 hC .z (.as 4 a8 .z ?_)
         refine .q 6 hG ?_
         refine .e2 a8 a8 a8 ?_
         first|(exfalso;omega)|(rw [B2 (by simpa using hc7)])|(rw [x8 hpo];unfold u3;(repeat (first|rw [if_pos (by omega)]|rw [if_neg (by omega)]));(try simp);done)
     ·refine .q 5 hG ⟨fun hc22 => ?_,fun hc22 => ?_⟩
      ·refine .F3 [c9,j0] (by kernel_rfl) 10 [[],[],[(26,1)],[(27,2)],[(25,0),(28,3)],[],[(30,5)],[(31,6)],[(29,4),(32,7)],[(33,8)]] [0,4,8,9] a8 (by kernel_rfl) a8 (by kernel_rfl) (by decide) (.inl ?_)
       refine⟨_,fun H=>j5.y9 j2.l2 (fun x=>x.p3) K1 a8 (fun _=>a8) (.t a8) a8,?_⟩
       refine⟨_,fun H=>j5.G8 I6 (.t a8) a8,?_⟩
       refine⟨_,fun H=>j5.p8 hG (E6 _ (by omega) (by omega)) (.cons (.t a8) .nil) a8,?_⟩
       refine .inl ?_
       refine⟨_,fun H=>j5.y9 j2.l3 (fun x=>x.To) K2 a8 (fun _=>a8) (.t a8) a8,?_⟩
       refine⟨_,fun H=>j5.G8 I6 (.t a8) a8,?_⟩
       refine⟨_,fun H=>j5.p8 hG (E6 _ (by omega) (by omega)) (.cons (.t a8) .nil) a8,?_⟩
       refine .inl (.inl ?_)
       refine⟨⟨([],j1 [_,c8]),a8⟩,?_⟩
       refine B3.ofP (j5.move (.t rfl) ?_)
       refine⟨⟨([],j1 [_,c8]),a8⟩,?_⟩
       refine B3.append O2 (.inl ⟨_,underlying64⟩) rfl .z (.v (.t rfl)) (by first|omega|(simp;done)|(simp;omega)|(simp at *;omega)) (by first|omega|(simp;done)|(simp;omega)|(simp at *;omega)) (fun w29 => ?_) rfl
       refine⟨⟨([],j1 [_,c8]),a8⟩,?_⟩
       refine B3.append O2 (.inl ⟨_,underlying64⟩) rfl .z (.v (.t rfl)) (by first|omega|(simp;done)|(simp;omega)|(simp at *;omega)) (by first|omega|(simp;done)|(simp;omega)|(simp at *;omega)) (fun w33 => ?_) rfl
       refine⟨⟨([],j1 [_,c8]),a8⟩,?_⟩
       refine B3.ofP (j5.assign (.t rfl) ?_)
       refine⟨⟨([],j1 [_,c8]),a8⟩,?_⟩
       show D1 _ _ _ _ _ [] ((4,_)::(33,_)::(32,_)::(31,_)::(30,_)::(29,_)::(28,_)::(27,_)::(26,_)::(25,_)::_) _
       refine .q 2 hG ?_
       refine .y0 hC .z (.as 4 a8 .z ?_)
       refine .q 6 hG ?_
       refine .e2 a8 a8 a8 ?_
       first|(exfalso;omega)|(rw [B2 (by simpa using hc7)])|(rw [x8 hpo];unfold u3;(repeat (first|rw [if_pos (by omega)]|rw [if_neg (by omega)]));(try simp);done)
      ·refine .q 6 hG ⟨fun hc34 => ?_,fun hc34 => ?_⟩
       ·refine .q 4 hG ?_
        refine .h (.T6 underlying9 underlying64 underlying5 (.t a8) fun w39=>(.y0 hC .z (.as 39 a8 .z ?_)))
        refine .k hG (a0o _ (by omega)) ?_
        refine .ap (by first|omega|(simp;done)|(simp;omega)|(simp at *;omega)) (by first|omega|(simp;done)|(simp;omega)|(simp at *;omega)) fun w41 => ?_
        refine .q 3 hG ?_
        refine .y0 hC .z1 (.as 4 a8 .z1 ?_)
        refine .q 6 hG ?_
        refine .e2 a8 a8 a8 ?_
        first|(exfalso;omega)|(rw [B2 (by simpa using hc7)])|(rw [x8 hpo];unfold u3;(repeat (first|rw [if_pos (by omega)]|rw [if_neg (by omega)]));(try simp);done)
       ·refine .q 6 hG ⟨fun hc42 => ?_,fun hc42 => ?_⟩
        ·refine .q 4 hG ?_
         refine .k hG (E6 _ (by omega) (by omega)) ?_
         refine .ap (by first|omega|(simp;done)|(simp;omega)|(simp at *;omega)) (by first|omega|(simp;done)|(simp;omega)|(simp at *;omega)) fun w48 => ?_
         refine .q 3 hG ?_
         refine .y0 hC .z (.as 4 a8 .z ?_)
         refine .q 6 hG ?_
         refine .e2 a8 a8 a8 ?_
         first|(exfalso;omega)|(rw [B2 (by simpa using hc7)])|(rw [x8 hpo];unfold u3;(repeat (first|rw [if_pos (by omega)]|rw [if_neg (by omega)]));(try simp);done)
        ·refine .q 2 hG ?_
         refine .y0 hC .z (.as 4 a8 .z ?_)
         refine .q 6 hG ?_
         refine .e2 a8 a8 a8 ?_
         first|(exfalso;omega)|(rw [B2 (by simpa using hc7)])|(rw [x8 hpo];unfold u3;(repeat (first|rw [if_pos (by omega)]|rw [if_neg (by omega)]));(try simp);done)
   ·refine .q 5 hG ⟨fun hc13 => ?_,fun hc13 => ?_⟩
    ·refine .q 4 hG ?_
     refine .k hG ((a11 _).a9Q) ?_
     refine .ap (by first|omega|(simp;done)|(simp;omega)|(simp at *;omega)) (by first|omega|(simp;done)|(simp;omega)|(simp at *;omega)) fun w21 => ?_
     refine .q 3 hG ?_
     refine .y0 hC .z (.as 4 a8 .z ?_)
     refine .q 6 hG ?_
     refine .e2 a8 a8 a8 ?_
     first|(exfalso;omega)|(rw [B2 (by simpa using hc7)])|(rw [x8 hpo];unfold u3;(repeat (first|rw [if_pos (by omega)]|rw [if_neg (by omega)]));(try simp);done)
    ·refine .q 7 hG ⟨fun hc22 => ?_,fun hc22 => ?_⟩
     ·refine .q 2 hG ⟨fun hc22 => ?_,fun hc22 => ?_⟩
      ·refine .F3 [c9,j0] (by kernel_rfl) 10 [[],[],[(26,1)],[(27,2)],[(25,0),(28,3)],[],[(30,5)],[(31,6)],[(29,4),(32,7)],[(33,8)]] [0,4,8,9] a8 (by kernel_rfl) a8 (by kernel_rfl) (by decide) (.inl ?_)
       refine⟨_,fun H=>j5.y9 j2.l2 (fun x=>x.p3) K1 a8 (fun _=>a8) (.t a8) a8,?_⟩
       refine⟨_,fun H=>j5.G8 I6 (.t a8) a8,?_⟩
       refine⟨_,fun H=>j5.p8 hG (E6 _ (by omega) (by omega)) (.cons (.t a8) .nil) a8,?_⟩
       refine .inl ?_
       refine⟨_,fun H=>j5.y9 j2.l3 (fun x=>x.To) K2 a8 (fun _=>a8) (.t a8) a8,?_⟩
       refine⟨_,fun H=>j5.G8 I6 (.t a8) a8,?_⟩
       refine⟨_,fun H=>j5.p8 hG (E6 _ (by omega) (by omega)) (.cons (.t a8) .nil) a8,?_⟩
       refine .inl (.inl ?_)
       refine⟨⟨([],j1 [_,c8]),a8⟩,?_⟩
       refine B3.ofP (j5.move (.t rfl) ?_)
       refine⟨⟨([],j1 [_,c8]),a8⟩,?_⟩
       refine B3.append O2 (.inl ⟨_,underlying64⟩) rfl .z (.v (.t rfl)) (by first|omega|(simp;done)|(simp;omega)|(simp at *;omega)) (by first|omega|(simp;done)|(simp;omega)|(simp at *;omega)) (fun w29 => ?_) rfl
       refine⟨⟨([],j1 [_,c8]),a8⟩,?_⟩
       refine B3.append O2 (.inl ⟨_,underlying64⟩) rfl .z (.v (.t rfl)) (by first|omega|(simp;done)|(simp;omega)|(simp at *;omega)) (by first|omega|(simp;done)|(simp;omega)|(simp at *;omega)) (fun w33 => ?_) rfl
       refine⟨⟨([],j1 [_,c8]),a8⟩,?_⟩
       refine B3.ofP (j5.assign (.t rfl) ?_)
       refine⟨⟨([],j1 [_,c8]),a8⟩,?_⟩
       show D1 _ _ _ _ _ [] ((4,_)::(33,_)::(32,_)::(31,_)::(30,_)::(29,_)::(28,_)::(27,_)::(26,_)::(25,_)::_) _
       refine .q 2 hG ?_
       refine .y0 hC .z (.as 4 a8 .z ?_)
       refine .q 6 hG ?_
       refine .e2 a8 a8 a8 ?_
       first|(exfalso;omega)|(rw [B2 (by simpa using hc7)])|(rw [x8 hpo];unfold u3;(repeat (first|rw [if_pos (by omega)]|rw [if_neg (by omega)]));(try simp);done)
      ·refine .q 6 hG ⟨fun hc34 => ?_,fun hc34 => ?_⟩
       ·refine .q 4 hG ?_
        refine .h (.T6 underlying9 underlying64 underlying5 (.t a8) fun w39=>(.y0 hC .z (.as 39 a8 .z ?_)))
        refine .k hG (a0o _ (by omega)) ?_
        refine .ap (by first|omega|(simp;done)|(simp;omega)|(simp at *;omega)) (by first|omega|(simp;done)|(simp;omega)|(simp at *;omega)) fun w41 => ?_
        refine .q 3 hG ?_
        refine .y0 hC .z1 (.as 4 a8 .z1 ?_)
        refine .q 6 hG ?_
        refine .e2 a8 a8 a8 ?_
        first|(exfalso;omega)|(rw [B2 (by simpa using hc7)])|(rw [x8 hpo];unfold u3;(repeat (first|rw [if_pos (by omega)]|rw [if_neg (by omega)]));(try simp);done)
       ·refine .q 6 hG ⟨fun hc42 => ?_,fun hc42 => ?_⟩
        ·refine .q 4 hG ?_
         refine .k hG (E6 _ (by omega) (by omega)) ?_
         refine .ap (by first|omega|(simp;done)|(simp;omega)|(simp at *;omega)) (by first|omega|(simp;done)|(simp;omega)|(simp at *;omega)) fun w48 => ?_
         refine .q 3 hG ?_
         refine .y0 hC .z (.as 4 a8 .z ?_)
         refine .q 6 hG ?_
         refine .e2 a8 a8 a8 ?_
         first|(exfalso;omega)|(rw [B2 (by simpa using hc7)])|(rw [x8 hpo];unfold u3;(repeat (first|rw [if_pos (by omega)]|rw [if_neg (by omega)]));(try simp);done)
        ·refine .q 2 hG ?_
         refine .y0 hC .z (.as 4 a8 .z ?_)
         refine .q 6 hG ?_
         refine .e2 a8 a8 a8 ?_
         first|(exfalso;omega)|(rw [B2 (by simpa using hc7)])|(rw [x8 hpo];unfold u3;(repeat (first|rw [if_pos (by omega)]|rw [if_neg (by omega)]));(try simp);done)
     ·refine .q 5 hG ⟨fun hc22 => ?_,fun hc22 => ?_⟩
      ·refine .F3 [c9,j0] (by kernel_rfl) 10 [[],[],[(26,1)],[(27,2)],[(25,0),(28,3)],[],[(30,5)],[(31,6)],[(29,4),(32,7)],[(33,8)]] [0,4,8,9] a8 (by kernel_rfl) a8 (by kernel_rfl) (by decide) (.inl ?_)
       refine⟨_,fun H=>j5.y9 j2.l2 (fun x=>x.p3) K1 a8 (fun _=>a8) (.t a8) a8,?_⟩
       refine⟨_,fun H=>j5.G8 I6 (.t a8) a8,?_⟩
       refine⟨_,fun H=>j5.p8 hG (E6 _ (by omega) (by omega)) (.cons (.t a8) .nil) a8,?_⟩
       refine .inl ?_
       refine⟨_,fun H=>j5.y9 j2.l3 (fun x=>x.To) K2 a8 (fun _=>a8) (.t a8) a8,?_⟩
       refine⟨_,fun H=>j5.G8 I6 (.t a8) a8,?_⟩
       refine⟨_,fun H=>j5.p8 hG (E6 _ (by omega) (by omega)) (.cons (.t a8) .nil) a8,?_⟩
       refine .inl (.inl ?_)
       refine⟨⟨([],j1 [_,c8]),a8⟩,?_⟩
       refine B3.ofP (j5.move (.t rfl) ?_)
       refine⟨⟨([],j1 [_,c8]),a8⟩,?_⟩
       refine B3.append O2 (.inl ⟨_,underlying64⟩) rfl .z (.v (.t rfl)) (by first|omega|(simp;done)|(simp;omega)|(simp at *;omega)) (by first|omega|(simp;done)|(simp;omega)|(simp at *;omega)) (fun w29 => ?_) rfl
       refine⟨⟨([],j1 [_,c8]),a8⟩,?_⟩
       refine B3.append O2 (.inl ⟨_,underlying64⟩) rfl .z (.v (.t rfl)) (by first|omega|(simp;done)|(simp;omega)|(simp at *;omega)) (by first|omega|(simp;done)|(simp;omega)|(simp at *;omega)) (fun w33 => ?_) rfl
       refine⟨⟨([],j1 [_,c8]),a8⟩,?_⟩
       refine B3.ofP (j5.assign (.t rfl) ?_)
       refine⟨⟨([],j1 [_,c8]),a8⟩,?_⟩
       show D1 _ _ _ _ _ [] ((4,_)::(33,_)::(32,_)::(31,_)::(30,_)::(29,_)::(28,_)::(27,_)::(26,_)::(25,_)::_) _
       refine .q 2 hG ?_
       refine .y0 hC .z (.as 4 a8 .z ?_)
       refine .q 6 hG ?_
       refine .e2 a8 a8 a8 ?_
       first|(exfalso;omega)|(rw [B2 (by simpa using hc7)])|(rw [x8 hpo];unfold u3;(repeat (first|rw [if_pos (by omega)]|rw [if_neg (by omega)]));(try simp);done)
      ·refine .q 6 hG ⟨fun hc34 => ?_,fun hc34 => ?_⟩
       ·refine .q 4 hG ?_
        refine .h (.T6 underlying9 underlying64 underlying5 (.t a8) fun w39=>(.y0 hC .z (.as 39 a8 .z ?_)))
        refine .k hG (a0o _ (by omega)) ?_
        refine .ap (by first|omega|(simp;done)|(simp;omega)|(simp at *;omega)) (by first|omega|(simp;done)|(simp;omega)|(simp at *;omega)) fun w41 => ?_
        refine .q 3 hG ?_
        refine .y0 hC .z1 (.as 4 a8 .z1 ?_)
        refine .q 6 hG ?_
        refine .e2 a8 a8 a8 ?_
        first|(exfalso;omega)|(rw [B2 (by simpa using hc7)])|(rw [x8 hpo];unfold u3;(repeat (first|rw [if_pos (by omega)]|rw [if_neg (by omega)]));(try simp);done)
       ·refine .q 6 hG ⟨fun hc42 => ?_,fun hc42 => ?_⟩
        ·refine .q 4 hG ?_
         refine .k hG (E6 _ (by omega) (by omega)) ?_
         refine .ap (by first|omega|(simp;done)|(simp;omega)|(simp at *;omega)) (by first|omega|(simp;done)|(simp;omega)|(simp at *;omega)) fun w48 => ?_
         refine .q 3 hG ?_
         refine .y0 hC .z (.as 4 a8 .z ?_)
         refine .q 6 hG ?_
         refine .e2 a8 a8 a8 ?_
         first|(exfalso;omega)|(rw [B2 (by simpa using hc7)])|(rw [x8 hpo];unfold u3;(repeat (first|rw [if_pos (by omega)]|rw [if_neg (by omega)]));(try simp);done)
        ·refine .q 2 hG ?_
         refine .y0 hC .z (.as 4 a8 .z ?_)
         refine .q 6 hG ?_
         refine .e2 a8 a8 a8 ?_
         first|(exfalso;omega)|(rw [B2 (by simpa using hc7)])|(rw [x8 hpo];unfold u3;(repeat (first|rw [if_pos (by omega)]|rw [if_neg (by omega)]));(try simp);done)
def a3u (k:Tag) (b:List UInt8) (x:o8):Bool:=decide (x.Key=k)&&decide (x.Box=b)
def a2V (k:Tag) (b:List UInt8):List UInt8:=c2g (b7D k ((b.take (b.length - 32)).take 8)) ((b.take (b.length - 32)).drop 8) ((b.take (b.length - 32)).drop 8).length
def K0 (a:D6) (k:Tag) (b:List UInt8):List UInt8×Int :=
 if a.J6 then match a.y7.find? (a3u k b) with
  | some x=>(x.Plain,0)
  | none=>([],14)
 else if b.length < 40∨296 < b.length then ([],14) else
 if (a1g k.l (a3o.l++b.take (b.length - 32))).l=b.drop (b.length - 32) then (a2V k b,0) else ([],14)
theorem a4Q {a:D6} {k:Tag} {b:List UInt8} {x:o8} (hf:a.J6=true) (h:a.y7.find? (a3u k b)=some x):K0 a k b=(x.Plain,0):=by unfold K0;rw [if_pos hf,h]
theorem a96 {a:D6} {k:Tag} {b:List UInt8} (hf:a.J6=true) (h:a.y7.find? (a3u k b)=none):K0 a k b=([],14):=by unfold K0;rw [if_pos hf,h]
theorem a97 {a:D6} {k:Tag} {b:List UInt8} (hf:a.J6=false) (h:b.length < 40∨296 < b.length):K0 a k b=([],14):=by unfold K0;rw [if_neg (by rw [hf];decide),if_pos h]
theorem b1u {a:D6} {k:Tag} {b:List UInt8} (hf:a.J6=false) (h:¬(b.length < 40∨296 < b.length)) (h2:¬(a1g k.l (a3o.l++b.take (b.length - 32))).l=b.drop (b.length - 32)):K0 a k b=([],14):=by
 unfold K0;rw [if_neg (by rw [hf];decide),if_neg h,if_neg h2]
theorem a7Q {a:D6} {k:Tag} {b:List UInt8} (hf:a.J6=false) (h:¬(b.length < 40∨296 < b.length)) (h2:(a1g k.l (a3o.l++b.take (b.length - 32))).l=b.drop (b.length - 32)):K0 a k b=(a2V k b,0):=by
 unfold K0;rw [if_neg (by rw [hf];decide),if_neg h,if_pos h2]
def a5N (b:List UInt8):Nat→UInt64
 | 0=>0
 | i+1=>256*a5N b i+(b.getD i 0).toUInt64
theorem b3g (b:List UInt8) (j:Nat) (h:(j:Int).toNat < b.length):256*a5N b j+(b[(j:Int).toNat]'h).toUInt64=a5N b (j+1):=by
 have e:b.getD j 0=b[(j:Int).toNat]'h:=by
  rw [List.getD_eq_getElem?_getD,List.getElem?_eq_getElem (by omega)];rfl
 rw [a5N,e]
theorem c3D (n:UInt64) (k:Nat) (hk:k < 64):(n >>> UInt64.ofNat k).toUInt8.toNat=n.toNat/2^k % 256:=by
 rw [UInt64.toNat_toUInt8,UInt64.toNat_shiftRight,UInt64.toNat_ofNat_of_lt' (by have:UInt64.size=18446744073709551616:=rfl;omega),Nat.mod_eq_of_lt hk,Nat.shiftRight_eq_div_pow]
theorem b3h (b:List UInt8) (h:8≤b.length):S0 (a5N b 8) 8=b.take 8:=by
 obtain⟨c0,c1,c2,c3,c4,c5,c6,c7,r,rfl⟩:∃ c0 c1 c2 c3 c4 c5 c6 c7 r,b=c0::c1::c2::c3::c4::c5::c6::c7::r:=by
  match b,h with
  | c0::c1::c2::c3::c4::c5::c6::c7::r,_=>exact⟨_,_,_,_,_,_,_,_,_,rfl⟩
 have l0:=c0.toNat_lt;have l1:=c1.toNat_lt;have l2:=c2.toNat_lt;have l3:=c3.toNat_lt
 have l4:=c4.toNat_lt;have l5:=c5.toNat_lt;have l6:=c6.toNat_lt;have l7:=c7.toNat_lt
 have hN:(a5N (c0::c1::c2::c3::c4::c5::c6::c7::r) 8).toNat=256*(256*(256*(256*(256*(256*(256*c0.toNat+c1.toNat)+c2.toNat)+c3.toNat)+c4.toNat)+c5.toNat)+c6.toNat)+c7.toNat:=by
  simp only [a5N,UInt64.toNat_add,UInt64.toNat_mul,List.getD_cons_zero,List.getD_cons_succ,UInt8.toNat_toUInt64,UInt64.toNat_ofNat]
  omega
 generalize a5N (c0::c1::c2::c3::c4::c5::c6::c7::r) 8=n at hN
 have key:∀ (k:Nat) (c:UInt8),k < 64→n.toNat/2^k % 256=c.toNat→(n >>> UInt64.ofNat k).toUInt8=c:=fun k c hk h=>UInt8.toNat_inj.1 ((c3D n k hk).trans h)
 have e:S0 n 8 = [(n >>> UInt64.ofNat (56 - 8*0)).toUInt8,(n >>> UInt64.ofNat (56 - 8*1)).toUInt8,(n >>> UInt64.ofNat (56 - 8*2)).toUInt8,(n >>> UInt64.ofNat (56 - 8*3)).toUInt8,(n >>> UInt64.ofNat (56 - 8*4)).toUInt8,(n >>> UInt64.ofNat (56 - 8*5)).toUInt8,(n >>> UInt64.ofNat (56 - 8*6)).toUInt8,(n >>> UInt64.ofNat (56 - 8*7)).toUInt8]:=rfl
 rw [e]
 simp only [List.take_succ_cons,List.take_zero]
 rw [key (56 - 8*0) c0 (by omega) (by simp;omega),key (56 - 8*1) c1 (by omega) (by simp;omega),key (56 - 8*2) c2 (by omega) (by simp;omega),key (56 - 8*3) c3 (by omega) (by simp;omega),
  key (56 - 8*4) c4 (by omega) (by simp;omega),key (56 - 8*5) c5 (by omega) (by simp;omega),key (56 - 8*6) c6 (by omega) (by simp;omega),key (56 - 8*7) c7 (by omega) (by simp;omega)]
theorem b9N (a:D6) (k:Tag) (b:List UInt8) (hpl:∀ x∈a.y7,x.Plain.length≤1000000):p6 gl prog 137 [.v a,.v k,.v b] (fun r=>r = .t2 (.v (K0 a k b).1) (.v (K0 a k b).2)):=by
 refine p6.jn func137 (by kernel_rfl) 89 rfl fun C hC hG => ?_
 refine .q 3 hG fun b3 => ?_
 refine .q 1 hG fun b4 => ?_
 refine .q 5 hG ?_
 refine .C1 hC .z (.O9 4 a8 .z (.C1 hC .z1 (.O9 3 a8 .z1 ?_)))
 refine .q 4 hG ?_
 refine .cond (.t a8) (fun hc14 => ?_) (fun hc14 => ?_)
 ·refine .q 6 hG ?_
  refine .E1 (α:=Nat) [(2,_),(3,_),(4,_)] (fun i R=>(8,.v (i:Int))::R) (Function.const _ _) (fun i=>i≤a.y7.length∧∀ j (hj:j < a.y7.length),j < i→a3u k b a.y7[j]=false) (fun i=>a.y7.length - i) (0) (.c2 a8 a8 (.cons a8 (.nil _))) ?_ (.c2 a8 a8 (.c2 a8 a8 (.nil _))) (a8) fun i hF => ?_
  ·simp
  obtain⟨h1,h2⟩:=hF
  refine .q 10 hG ⟨fun hc19 => ?_,fun hc19 => ?_⟩
  ·refine .q 4 hG ?_
   refine .draw (by kernel_rfl) 18 [[],[(22,0)],[],[(23,1),(24,2)],[(25,3)],[(26,4)],[],[(27,5),(28,6)],[(29,7)],[],[(31,9)],[],[(32,10),(33,11)],[(34,12)],[(35,13)],[],[(36,14),(37,15)],[(30,8),(38,16)]] a8 (by kernel_rfl) a8 ?_
   refine⟨_,j5.y9 j8.l4 (fun x=>x.y7) a4Z a8 (fun _=>a8) (.t a8) a8,?_⟩
   refine⟨_,j5.G8 b2U (.t a8) a8,?_⟩
   refine⟨_,j5.move (.t a8) a8,?_⟩
   refine⟨_,j5.idx a4O underlying26 (.t a8) (.t a8) (by first|omega|(simp;done)|(simp;omega)|(simp at *;omega)) (by first|omega|(simp;done)|(simp;omega)|(simp at *;omega)) a8,?_⟩
   refine⟨_,j5.y9 o8.l0 (fun x=>x.Key) b4c a8 (fun _=>a8) (.t a8) a8,?_⟩
   refine⟨_,j5.G8 D0 (.t a8) a8,?_⟩
   refine⟨_,j5.G8 D0 (.t a8) a8,?_⟩
   refine⟨_,j5.a8I underlying24 sz5 underlying5 b5f (.t a8) (.t a8) a8,?_⟩
   refine⟨_,j5.move (.t a8) a8,?_⟩
   refine⟨_,⟨_,_,a8,a8,fun hg31=>j5.y9 j8.l4 (fun x=>x.y7) a4Z a8 (fun _=>a8) (.t a8) a8⟩,?_⟩
   refine⟨_,⟨_,_,a8,a8,fun hg32=>j5.G8 b2U (.q a8 hg32) a8⟩,?_⟩
   refine⟨_,⟨_,_,a8,a8,fun hg33=>j5.move (.t a8) a8⟩,?_⟩
   refine⟨_,⟨_,_,a8,a8,fun hg34=>j5.idx a4O underlying26 (.q a8 hg34) (.q a8 hg34) (by first|omega|(simp;done)|(simp;omega)|(have:=hg34;simp at this;omega)) (by first|omega|(simp;done)|(simp;omega)|(have:=hg34;simp at this;omega)) a8⟩,?_⟩
   refine⟨_,⟨_,_,a8,a8,fun hg35=>j5.y9 o8.l3 (fun x=>x.Box) b4d a8 (fun _=>a8) (.q a8 hg35) a8⟩,?_⟩
   refine⟨_,⟨_,_,a8,a8,fun hg36=>j5.G8 a3J (.q a8 hg36) a8⟩,?_⟩
   refine⟨_,⟨_,_,a8,a8,fun hg37=>j5.move (.t a8) a8⟩,?_⟩
   refine⟨_,⟨_,_,a8,a8,fun hg38=>j5.p8 hG (a7M _ _) (.cons (.q a8 hg38) (.cons (.q a8 hg38) .nil)) a8⟩,?_⟩
   refine⟨_,j5.M5 (.t a8) (fun hp=>(.q a8 hp)) a8,?_⟩
   show D1 _ _ _ _ _ [] ((39,_)::(38,_)::(37,_)::(36,_)::(35,_)::(34,_)::(33,_)::(32,_)::(31,_)::(30,_)::(29,_)::(28,_)::(27,_)::(26,_)::(25,_)::(24,_)::(23,_)::(22,_)::_) _
   refine .q 1 hG ?_
   refine .cond (.t a8) (fun hc39 => ?_) (fun hc39 => ?_)
   ·refine .q 1 hG ?_
    have hb6:=hpl _ (List.getElem_mem (l:=a.y7) (n:=(i:Int).toNat) (by omega))
    refine .q 1 hG ?_
    refine .h (.buildSlice (α:=UInt8) ty5 underlying64 .nil a8 (by decide) fun b40 => ?_)
    refine .q 3 hG ?_
    refine .ix (by first|omega|(simp;done)|(simp;omega)|(simp at *;omega)) (by first|omega|(simp;done)|(simp;omega)|(simp at *;omega)) ?_
    refine .q 2 hG ?_
    refine .ap (by first|omega|(simp;done)|(simp;omega)|(simp at *;omega)) (by first|omega|(simp;done)|(simp;omega)|(simp at *;omega)) fun w47 => ?_
    refine .q 3 hG ?_
    refine .y0 hC .z (.as 6 a8 .z ?_)
    refine .q 1 hG ?_
    refine .e2 a8 a8 a8 ?_
    rw [a4Q hc14 (a7O (k:=i) (by omega) hc39 h2)];rfl
   ·refine .q 1 hG ?_
    refine .X3 17 a8 fun hl17 => ?_
    refine .q 2 hG ?_
    refine .ad (by first|omega|(simp;done)|(simp;omega)|(simp at *;omega)) (by first|omega|(simp;done)|(simp;omega)|(simp at *;omega)) ?_
    refine .q 2 hG ?_
    refine⟨i+1,.c2 rfl rfl (.c2 rfl rfl (.nil _)),rfl,?_,by omega⟩
    refine⟨by omega,fun j hj hji => ?_⟩;rcases Nat.lt_or_ge j i with h|h;exact h2 j hj h;(obtain rfl:j=i:=by omega);exact hc39
  ·refine .q 7 hG ?_
   refine .e2 a8 a8 a8 ?_
   rw [a96 hc14 (a3p fun j hj=>h2 j hj (by omega))]
 ·refine .q 17 hG ?_
  refine .cond (.t a8) (fun hc55 => ?_) (fun hc55 => ?_)
  ·refine .q 6 hG ?_
   refine .e2 a8 a8 a8 ?_
   rw [a97 hc14 (by simp at hc55;omega)]
  ·refine .q 2 hG ?_
   refine .a7H (by kernel_rfl) 8 [[],[],[],[(58,2)],[(57,1),(59,3)],[(60,4)],[(56,0),(61,5)],[]] [7] a8 (by kernel_rfl) a8 (by kernel_rfl) (by decide) ?_
   refine⟨_,fun H=>j5.V3 (by decide) V2 (.t a8) a8,?_⟩
   refine⟨_,fun H=>j5.move (.t a8) a8,?_⟩
   refine⟨_,fun H=>j5.move (.t a8) a8,?_⟩
   refine⟨_,fun H=>j5.sub (.t a8) (.i a8) (by first|omega|(simp;done)|(simp;omega)|(simp at *;omega)) (by first|omega|(simp;done)|(simp;omega)|(simp at *;omega)) a8,?_⟩
   refine⟨_,fun H=>j5.c3d ty5 underlying64 (.t a8) (.t a8) (by first|omega|(simp;done)|(simp;omega)|(simp at *;omega)) (by first|omega|(simp;done)|(simp;omega)|(simp at *;omega)) a8,?_⟩
   refine⟨_,fun H=>j5.p8 hG (a34 _ _ (by first|omega|(simp;done)|(simp;omega)|(simp at *;omega)) (by first|omega|(simp;done)|(simp;omega)|(simp at *;omega))) (.cons (.s [98,111,120] (by decide) (by decide)) (.cons (.t a8) .nil)) a8,?_⟩
   refine⟨_,fun H=>j5.p8 hG (a5K _ _ (by first|omega|(simp;done)|(simp;omega)|(simp at *;omega)) (by first|omega|(simp;done)|(simp;omega)|(simp at *;omega))) (.cons (.t a8) (.cons (.t a8) .nil)) a8,?_⟩
   refine .inl ?_
   refine B3.alloc D0 fun b10 => ?_
   show D1 _ _ _ _ _ [_] ((10,_)::(62,_)::(61,_)::(60,_)::(59,_)::(58,_)::(57,_)::(56,_)::_) _
   refine .q 4 hG ?_
   refine .C1 hC .z (.O9 10 a8 .z (.draw (by kernel_rfl) 7 [[],[],[],[(65,2)],[(64,1),(66,3)],[(63,0),(67,4)],[(68,5)]] a8 (by kernel_rfl) a8 ?_))
   refine⟨_,j5.V3 (by decide) V2 (.t a8) a8,?_⟩
   refine⟨_,j5.move (.t a8) a8,?_⟩
   refine⟨_,j5.move (.t a8) a8,?_⟩
   refine⟨_,j5.sub (.t a8) (.i a8) (by first|omega|(simp;done)|(simp;omega)|(simp at *;omega)) (by first|omega|(simp;done)|(simp;omega)|(simp at *;omega)) a8,?_⟩
   refine⟨_,j5.c1U ty5 underlying64 (.t a8) (.t a8) (by first|omega|(simp;done)|(simp;omega)|(simp at *;omega)) (by first|omega|(simp;done)|(simp;omega)|(simp at *;omega)) a8,?_⟩
   refine⟨_,j5.p8 hG (a7M _ _) (.cons (.t a8) (.cons (.t a8) .nil)) a8,?_⟩
   refine⟨_,j5.not (.t a8) a8,?_⟩
   show D1 _ _ _ _ _ [] ((69,_)::(68,_)::(67,_)::(66,_)::(65,_)::(64,_)::(63,_)::_) _
   refine .q 1 hG ?_
   refine .cond (.t a8) (fun hc69 => ?_) (fun hc69 => ?_)
   ·refine .q 6 hG ?_
    refine .e2 a8 a8 a8 ?_
    have e1:((b.length:Int) - 32).toNat=b.length - 32:=by omega
    rw [e1] at hc69
    have h9:(!decide ((a1g k.l (a3o.l++b.take (b.length - 32))).l=b.drop (b.length - 32)))=true:=hc69
    rw [b1u hc14 (by simp at hc55;omega) (by simpa using h9)]
   ·refine .q 11 hG ?_
    refine .E1 (α:=Nat) [(2,_),(4,_),(9,_)] (fun j R=>(11,.v (a5N b j))::(12,.v (j:Int))::R) (Function.const _ _) (fun j=>j≤8) (fun j=>8 - j) (0) (.c2 a8 a8 (.cons a8 (.nil _))) ?_ (.c2 a8 a8 (.c2 a8 a8 (.cons a8 (.nil _)))) (a8) fun j hF => ?_
    ·simp
    refine .q 7 hG ⟨fun hc71 => ?_,fun hc71 => ?_⟩
    ·refine .q 5 hG ?_
     refine .p (.b3T (.u64 256 a8) (.t a8) ?_)
     refine .q 2 hG ?_
     refine .ix (by first|omega|(simp;done)|(simp;omega)|(simp at *;omega)) (by first|omega|(simp;done)|(simp;omega)|(simp at *;omega)) ?_
     refine .q 1 hG ?_
     refine .p (.a7s underlying5 underlying54 (.t a8) ?_)
     refine .q 5 hG ?_
     refine .ad (by first|omega|(simp;done)|(simp;omega)|(simp at *;omega)) (by first|omega|(simp;done)|(simp;omega)|(simp at *;omega)) ?_
     refine .q 2 hG ?_
     refine⟨j+1,.cons (congrArg (fun q=>some (AV.v q)) (b3g b j _)) (.c2 rfl rfl (.c2 rfl rfl (.nil _))),rfl,?_,by omega⟩
     omega
    ·refine .q 2 hG ?_
     refine .draw (by kernel_rfl) 9 [[],[],[],[],[(85,3)],[(84,2),(86,4)],[(82,0),(83,1),(87,5)],[(88,6)],[]] a8 (by kernel_rfl) a8 ?_
     refine⟨_,j5.G8 D0 (.t a8) a8,?_⟩
     refine⟨_,j5.move (.t a8) a8,?_⟩
     refine⟨_,j5.move (.t a8) a8,?_⟩
     refine⟨_,j5.move (.t a8) a8,?_⟩
     refine⟨_,j5.sub (.t a8) (.i a8) (by first|omega|(simp;done)|(simp;omega)|(simp at *;omega)) (by first|omega|(simp;done)|(simp;omega)|(simp at *;omega)) a8,?_⟩
     refine⟨_,j5.c3e ty5 underlying64 (.t a8) (.i a8) (.t a8) (by first|omega|(simp;done)|(simp;omega)|(simp at *;omega)) (by first|omega|(simp;done)|(simp;omega)|(simp at *;omega)) (by first|omega|(simp;done)|(simp;omega)|(simp at *;omega)) a8,?_⟩
     refine⟨_,j5.p8 hG (a8N _ _ _ (by first|omega|(simp;done)|(simp;omega)|(simp at *;omega))) (.cons (.t a8) (.cons (.t a8) (.cons (.t a8) .nil))) a8,?_⟩
     refine⟨_,j5.assign (.t a8) a8,?_⟩
     refine⟨_,j5.assign (.i a8) a8,?_⟩
     show D1 _ _ _ _ _ [] ((7,_)::(6,_)::(88,_)::(87,_)::(86,_)::(85,_)::(84,_)::(83,_)::(82,_)::_) _
     refine .q 2 hG ?_
     refine .e2 a8 a8 a8 ?_
     obtain rfl:j=8:=by omega
     have e1:((b.length:Int) - 32).toNat=b.length - 32:=by omega
     rw [e1] at hc69
     have h9:(!decide ((a1g k.l (a3o.l++b.take (b.length - 32))).l=b.drop (b.length - 32)))=false:=hc69
     rw [a7Q hc14 (by simp at hc55;omega) (by simpa using h9),e1,←a6P,b3h b (by simp at hc55;omega)]
     unfold a2V
     rw [List.take_take,Nat.min_eq_left (by simp at hc55;omega)];rfl
theorem b1v (n:UInt64):∀ k,k≤8→(S0 n k).foldl (fun a c=>256*a+c.toNat) 0=n.toNat/2^(64 - 8*k):=by
 intro k
 induction k with
 | zero=>intro _;have:=n.toNat_lt;simp [S0];omega
 | succ k ih =>
  intro hk
  rw [a2N,List.foldl_append,ih (by omega)]
  simp only [List.foldl_cons,List.foldl_nil]
  rw [c3D n (56 - 8*k) (by omega)]
  have e1:2^(64 - 8*k)=256*2^(56 - 8*k):=by
   rw [show 64 - 8*k=8+(56 - 8*k) by omega,Nat.pow_add]
  rw [show 64 - 8*(k+1)=56 - 8*k by omega,e1,Nat.mul_comm 256 (2^(56 - 8*k)),←Nat.div_div_eq_div_mul]
  generalize n.toNat/2^(56 - 8*k)=q
  omega
theorem b1w {m n:UInt64} (h:S0 m 8=S0 n 8):m=n:=by
 have h1:=b1v m 8 (by omega)
 have h2:=b1v n 8 (by omega)
 rw [h,h2] at h1
 apply UInt64.toNat_inj.1
 simpa using h1.symm
abbrev Cav:=p9
abbrev Z7:=u9
abbrev Bnd:=x6
abbrev Rq:=u7
def Q1 {α:Type} (f:α→List UInt8) (l:List α):List UInt8:=(l.map f).flatten
theorem a0U {α:Type} (f:α→List UInt8) (l:List α) (k:Nat) (h:k < l.length):Q1 f (l.take (k+1))=Q1 f (l.take k)++f l[k]:=by
 unfold Q1;rw [List.take_succ_eq_append_getElem h,List.map_append,List.flatten_append];simp
theorem a1l {α:Type} (f:α→List UInt8) (l:List α) (m:Nat) (h:∀ x∈l,(f x).length≤m):(Q1 f l).length≤m*l.length:=by
 induction l with
 | nil=>simp [Q1]
 | cons n l ih =>
  have h1:=h n (by simp)
  have h2:=ih fun x hx=>h x (by simp [hx])
  unfold Q1 at h2 ⊢
  rw [List.map_cons,List.flatten_cons,List.length_append,List.length_cons,Nat.mul_add];omega
theorem a1H {α:Type} (f:α→List UInt8) (l:List α) (m k:Nat) (h:∀ x∈l,(f x).length≤m):(Q1 f (l.take k)).length≤m*l.length:=by
 have h1:=a1l f (l.take k) m fun x hx=>h x (List.mem_of_mem_take hx)
 have h2:(l.take k).length≤l.length:=by simp;omega
 exact Nat.le_trans h1 (Nat.mul_le_mul_left m h2)
def H6 (c:Cav):Bool :=
 if c.X4 then decide (c.a3X=default)&&decide (0≤c.G5)&&decide (c.G5≤7)&&(decide (1≤c.p7.length)&&decide (c.p7.length≤1024))&&(decide (1≤c.Box.length)&&decide (c.Box.length≤1024))
 else y8 c.a3X&&decide (c.G5=0)&&decide (c.p7.length=0)&&decide (c.Box.length=0)
def Z8 (x:List UInt8):List UInt8:=I4 x.length++x
def E0 (c:Cav):List UInt8:=if c.X4 then 2::(I4 c.G5.toNat++Z8 c.p7++Z8 c.Box) else 1::u3 c.a3X
def S8 (c:Cav):List UInt8×Int:=if H6 c then (E0 c,0) else ([],5)
theorem a0V {x:List UInt8} (h:x.length≤1024):(Z8 x).length≤1031:=by
 have:=B1 (n:=x.length) (by omega)
 unfold Z8;rw [List.length_append];omega
theorem a4b {c:Cav} (h:H6 c=true) (h3:c.X4=true):c.a3X=default∧0≤c.G5∧c.G5≤7∧1≤c.p7.length∧c.p7.length≤1024∧1≤c.Box.length∧c.Box.length≤1024:=by
 unfold H6 at h;rw [if_pos h3] at h
 simp only [Bool.and_eq_true,decide_eq_true_eq] at h
 obtain⟨⟨⟨⟨a,b⟩,c⟩,d,e⟩,f,g⟩:=h
 exact⟨a,b,c,d,e,f,g⟩
theorem a4c {c:Cav} (h:H6 c=true) (h3:c.X4=false):y8 c.a3X=true∧c.G5=0∧c.p7 = []∧c.Box = []:=by
 unfold H6 at h;rw [if_neg (by rw [h3];decide)] at h
 simp only [Bool.and_eq_true,decide_eq_true_eq,List.length_eq_zero_iff] at h
 obtain⟨⟨⟨a,b⟩,c⟩,d⟩:=h
 exact⟨a,b,c,d⟩
theorem a1A {c:Cav} (h:H6 c=true):(E0 c).length≤2100:=by
 unfold E0
 cases h3:c.X4
 ·obtain⟨h1,_⟩:=a4c h h3
  have:=G9 (L5 h1)
  simp;omega
 ·obtain⟨_,p0,p1,_,t1,_,b1⟩:=a4b h h3
  have l1:=B1 (n:=c.G5.toNat) (by omega)
  have l2:=a0V t1
  have l3:=a0V b1
  simp;omega
def P5 (l:List Cav):List Pred:=(l.filter fun c => !c.X4).map (·.a3X)
theorem a1B (l:List Cav) (k:Nat) (h:k < l.length):P5 (l.take (k+1))=P5 (l.take k)++if l[k].X4 then [] else [l[k].a3X]:=by
 unfold P5;rw [List.take_succ_eq_append_getElem h,List.filter_append,List.map_append]
 cases h2:l[k].X4<;>simp [h2]
theorem V7 (l:List Cav):(P5 l).length≤l.length:=by
 unfold P5;rw [List.length_map];exact List.length_filter_le _ _
def a0q (l:List Cav):Int:=(l.length:Int) - (P5 l).length
def a0r (n:Int):List UInt8 := [109,105,110,116]++I4 n.toNat
def a14 (c:Cav):List UInt8 := [99,97,118,101,97,116]++(S8 c).1
def F5:List UInt8 := [110,111,100,101]
def a05 (t:List UInt8):List UInt8 := [115,101,97,108]++t
def a15 (t:List UInt8):List UInt8 := [103,114,97,110,116]++t
def a06 (p:Pred):List UInt8 := [99,111,110,100,105,116,105,111,110]++(U6 p).1
def a0s (r:Rq):List UInt8:=I4 r.Gate.toNat++I4 r.E7.toNat
def a2W (r:Rq):List UInt8 := [114,101,113,117,101,115,116]++a0s r
def Z1 (leaf:Tag) (r:Rq):List UInt8 := [98,105,110,100]++(leaf.l++a0s r)
def U8 (r:Rq):Bool:=decide (0≤r.Gate)&&decide (r.Gate < 8)&&decide (1≤r.E7)&&decide (r.E7≤281474976710656)
theorem a07 {r:Rq} (h:U8 r=true):0≤r.Gate∧r.Gate < 8∧1≤r.E7∧r.E7≤281474976710656:=by
 unfold U8 at h;simp only [Bool.and_eq_true,decide_eq_true_eq] at h;omega
def V8 (p:Tag→List UInt8→Tag×Bool) (o:Option (List Tag)) (m:List UInt8):Option (List Tag) :=
 o.bind fun l=>if (p (l.getLastD default) m).2 then some (l ++ [(p (l.getLastD default) m).1]) else none
def P3 (p:Tag→List UInt8→Tag×Bool) (k:Tag) (l:List (List UInt8)):Option (List Tag):=l.foldl (V8 p) (some [k])
theorem a4x (p:Tag→List UInt8→Tag×Bool) (l:List (List UInt8)):l.foldl (V8 p) none=none:=by
 induction l with
 | nil=>rfl
 | cons m l ih=>exact ih
theorem a7R (p:Tag→List UInt8→Tag×Bool) (k:Tag) (l:List (List UInt8)) (i:Nat) (h:i < l.length):P3 p k (l.take (i+1))=V8 p (P3 p k (l.take i)) l[i]:=by
 unfold P3;rw [List.take_succ_eq_append_getElem h,List.foldl_append];rfl
theorem b3i (p:Tag→List UInt8→Tag×Bool) (k:Tag) (l:List (List UInt8)) (i:Nat) (h:P3 p k (l.take i)=none):P3 p k l=none:=by
 unfold P3 at *
 rw [←List.take_append_drop i l,List.foldl_append,h,a4x]
def I2 (n:Int) (l:List Cav):List (List UInt8):=a0r n::l.map a14
def K6 (e n:Int):Bool:=decide (1≤e)&&decide (e≤1000)&&decide (1≤n)&&decide (n≤1073741824)
def a16 (a:D6) (root:u4) (n:Int) (l:List Cav):List Tag×Int :=
 if K6 root.Number n=false then ([],1) else if l.all H6=false then ([],5) else
 match P3 (u2 a) root.Key (I2 n l) with
 | some t=>(t.drop 1,0)
 | none=>([],19)
def V9 (a:D6) (o:Option (List Tag)) (t:Tag):Option (List Tag) :=
 o.bind fun l=>if (u2 a t F5).2 then some (l ++ [(u2 a t F5).1]) else none
def Z9 (a:D6) (l:List Tag):Option (List Tag):=l.foldl (V9 a) (some [])
theorem a7S (a:D6) (l:List Tag):l.foldl (V9 a) none=none:=by
 induction l with
 | nil=>rfl
 | cons m l ih=>exact ih
theorem a6Q (a:D6) (l:List Tag) (i:Nat) (h:i < l.length):Z9 a (l.take (i+1))=V9 a (Z9 a (l.take i)) l[i]:=by
 unfold Z9;rw [List.take_succ_eq_append_getElem h,List.foldl_append];rfl
theorem b1x (a:D6) (l:List Tag) (i:Nat) (h:Z9 a (l.take i)=none):Z9 a l=none:=by
 unfold Z9 at *
 rw [←List.take_append_drop i l,List.foldl_append,h,a7S]
def a18 (a:D6) (l:List Tag):List Tag×Int:=match Z9 a l with|some t=>(t,0)|none=>([],19)
def a0t (a:D6) (o:Option Tag) (p:Pred):Option Tag :=
 o.bind fun t=>if y8 p=true∧p.Kind≠7∧(u2 a t (a06 p)).2=true then some (u2 a t (a06 p)).1 else none
theorem a7T (a:D6) (l:List Pred):l.foldl (a0t a) none=none:=by
 induction l with
 | nil=>rfl
 | cons m l ih=>exact ih
def a6r (a:D6) (k:Tag) (t:List UInt8):Option Tag:=if (u2 a k (a15 t)).2 then some (u2 a k (a15 t)).1 else none
def a6s (a:D6) (k:Tag) (t:List UInt8) (l:List Pred):Option Tag:=l.foldl (a0t a) (a6r a k t)
def a0u (a:D6) (leaf:Tag) (r:Rq):Tag×Bool:=if U8 r then u2 a leaf (a2W r) else (default,false)
theorem b1y {s:List Tag} (h:0 < s.length) (h2:((s.length:Int) - 1).toNat < s.length):s[((s.length:Int) - 1).toNat]=s.getLastD default:=by
 rw [List.getLastD_eq_getLast?,List.getLast?_eq_getElem?]
 have:((s.length:Int) - 1).toNat=s.length - 1:=by omega
 simp only [this]
 rw [List.getElem?_eq_getElem (by omega)];rfl
theorem b7K {p:Tag→List UInt8→Tag×Bool} {k:Tag} {l:List (List UInt8)} {i:Nat} {s:List Tag} (h:i < l.length) (hw:P3 p k (l.take i)=some s) (hb:(p (s.getLastD default) l[i]).2=false):P3 p k l=none:=by
 refine b3i p k l (i+1) ?_
 rw [a7R p k l i h,hw]
 show(if (p (s.getLastD default) l[i]).2 then some (s ++ [(p (s.getLastD default) l[i]).1]) else none)=none
 rw [hb];rfl
theorem b5x {p:Tag→List UInt8→Tag×Bool} {k:Tag} {l:List (List UInt8)} {i:Nat} {s:List Tag} (h:i < l.length) (hw:P3 p k (l.take i)=some s) (hb:(p (s.getLastD default) l[i]).2=true):P3 p k (l.take (i+1))=some (s ++ [(p (s.getLastD default) l[i]).1]):=by
 rw [a7R p k l i h,hw]
 show(if (p (s.getLastD default) l[i]).2 then some (s ++ [(p (s.getLastD default) l[i]).1]) else none)=_
 rw [hb];rfl
theorem a7U (n:Int) (l:List Cav) (i:Nat) (h:i < l.length):I2 n (l.take (i+1))=I2 n (l.take i) ++ [a14 l[i]]:=by
 unfold I2;rw [List.take_succ_eq_append_getElem h,List.map_append];rfl
theorem a7V {p:Tag→List UInt8→Tag×Bool} {k:Tag}:∀ {l:List (List UInt8)} {s r:List Tag},l.foldl (V8 p) (some s)=some r→∃ T,r=s++T∧T.length=l.length
 | [],s,r,h=>⟨[],by cases h;simp,rfl⟩
 | m::l,s,r,h=>by
  rw [List.foldl_cons] at h
  cases h2:V8 p (some s) m with
  | none=>rw [h2,a4x] at h;cases h
  | some v =>
   rw [h2] at h
   obtain⟨T,h3,h4⟩:=a7V (k:=k) h
   have:∃ t,v=s ++ [t]:=by
    have h5:(if (p (s.getLastD default) m).2 then some (s ++ [(p (s.getLastD default) m).1]) else none)=some v:=h2
    split at h5
    ·exact⟨_,(Option.some.inj h5).symm⟩
    ·cases h5
   obtain⟨t,rfl⟩:=this
   exact⟨t::T,by rw [h3,List.append_assoc];rfl,by simp [h4]⟩
theorem a4R (n:Int) (l:List Cav):(I2 n l).length=l.length+1:=by unfold I2;simp
theorem getLastD_cons {k:Tag} {s:List Tag} (h:0 < s.length):(k::s).getLastD default=s.getLastD default:=by
 cases s with
 | nil=>simp at h
 | cons b s=>simp [List.getLastD]
theorem b5y {e n:Int} (h:(decide (e < 1)||decide (1000 < e)||decide (n < 1)||decide (1073741824 < n))=true):K6 e n=false:=by
 simp only [Bool.or_eq_true,decide_eq_true_eq] at h
 unfold K6;simp only [Bool.and_eq_false_iff,decide_eq_false_iff_not];omega
theorem a5j {e n:Int} (h:(decide (e < 1)||decide (1000 < e)||decide (n < 1)||decide (1073741824 < n))=false):K6 e n=true:=by
 simp only [Bool.or_eq_false_iff,decide_eq_false_iff_not] at h
 unfold K6;simp only [Bool.and_eq_true,decide_eq_true_eq];omega
theorem a6R {e n:Int} (h:K6 e n=true):1≤e∧e≤1000∧1≤n∧n≤1073741824:=by
 unfold K6 at h;simp only [Bool.and_eq_true,decide_eq_true_eq] at h;omega
theorem b9O {a:D6} {root:u4} {n:Int} {l:List Cav} (h:K6 root.Number n=false):a16 a root n l=([],1):=by unfold a16;rw [if_pos h]
theorem b9P {a:D6} {root:u4} {n:Int} {l:List Cav} (h:K6 root.Number n=true) (h2:l.all H6=false):a16 a root n l=([],5):=by unfold a16;rw [if_neg (by rw [h];decide),if_pos h2]
theorem b7L {a:D6} {root:u4} {n:Int} {l:List Cav} (h:K6 root.Number n=true) (h2:l.all H6=true) (h3:P3 (u2 a) root.Key (I2 n l)=none):a16 a root n l=([],19):=by
 unfold a16;rw [if_neg (by rw [h];decide),if_neg (by rw [h2];decide),h3]
theorem b9Q {a:D6} {root:u4} {n:Int} {l:List Cav} {t:List Tag} (h:K6 root.Number n=true) (h2:l.all H6=true) (h3:P3 (u2 a) root.Key (I2 n l)=some t):a16 a root n l=(t.drop 1,0):=by
 unfold a16;rw [if_neg (by rw [h];decide),if_neg (by rw [h2];decide),h3]
theorem b5z {a:D6} {l:List Tag} {i:Nat} (h:i < l.length) (hb:(u2 a l[i] F5).2=false):Z9 a l=none:=by
 refine b1x a l (i+1) ?_
 rw [a6Q a l i h]
 cases Z9 a (l.take i) with
 | none=>rfl
 | some s =>
  show(if (u2 a l[i] F5).2 then some (s ++ [(u2 a l[i] F5).1]) else none)=none
  rw [hb];rfl
theorem b3j {a:D6} {l:List Tag} {i:Nat} {s:List Tag} (h:i < l.length) (hw:Z9 a (l.take i)=some s) (hb:(u2 a l[i] F5).2=true):Z9 a (l.take (i+1))=some (s ++ [(u2 a l[i] F5).1]):=by
 rw [a6Q a l i h,hw]
 show(if (u2 a l[i] F5).2 then some (s ++ [(u2 a l[i] F5).1]) else none)=_
 rw [hb];rfl
def J7 (d:Bnd):List UInt8:=Z8 d.p7++I4 d.j9.length++Q1 u3 d.j9++d.Proof.l
def a0v (b:Z7):List UInt8:=numsL [1,b.Request.Gate,b.Request.E7,b.D4,b.C2,b.l9.length]++Q1 E0 b.l9++b.Proof.l++I4 b.j3.length++Q1 J7 b.j3
def a2D (d:Bnd):Bool:=decide (d.p7.length < 1)||decide (1024 < d.p7.length)||d.j9.any fun p => !y8 p
def a2X (d:Bnd):Bool:=d.j9.any fun p=>decide (p.Kind=7)
def a08 (d:Bnd):Bool:=decide (8 < d.j9.length)
def R6 (l:List Bnd) (k:Nat):Bool:=(List.range k).any fun i=>(l.take i).any fun x=>decide (x.p7=(l.getD i default).p7)
def a2E (l:List Bnd):Bool:=R6 l l.length
theorem a3v (l:List Bnd) (k:Nat) (h:k < l.length):R6 l (k+1)=(R6 l k||(l.take k).any fun x=>decide (x.p7=l[k].p7)):=by
 unfold R6;rw [List.range_succ,List.any_append];simp [List.getD_eq_getElem?_getD,h]
def O0 (b:Z7):Bool:=U8 b.Request&&(decide (1≤b.D4)&&decide (b.D4≤1000)&&decide (1≤b.C2)&&decide (b.C2≤1073741824))
def P6 (b:Z7):Bool:=decide (64 < b.l9.length)||decide (8 < a0q b.l9)||decide (8 < b.j3.length)||b.j3.any a08
def E8 (b:Z7):Int :=
 if O0 b=false then 1 else if P6 b then 2 else if (b.l9.any fun c => !H6 c)||b.j3.any a2D then 5
 else if b.j3.any a2X then 6 else if a2E b.j3 then 10 else 0
def M1 (b:Z7):Int:=if E8 b≠0 then E8 b else if 4096 < (a0v b).length then 2 else 0
structure a5O (b:Z7):Prop where
 range:O0 b=true
 rq:0≤b.Request.Gate∧b.Request.Gate < 8∧1≤b.Request.E7∧b.Request.E7≤281474976710656
 num:1≤b.D4∧b.D4≤1000∧1≤b.C2∧b.C2≤1073741824
 a5k:b.l9.length≤64
 c2l:b.j3.length≤8
 a6t:∀ d∈b.j3,d.j9.length≤8
 cav:∀ c∈b.l9,H6 c=true
 tick:∀ d∈b.j3,1≤d.p7.length∧d.p7.length≤1024
 con:∀ d∈b.j3,∀ p∈d.j9,y8 p=true
 b7M:∀ d∈b.j3,∀ p∈d.j9,p.Kind≠7
 c47:a2E b.j3=false
theorem a4d {b:Z7} (h:E8 b=0):a5O b:=by
 unfold E8 at h
 split at h
 ·cases h
 ·next h1 =>
  split at h
  ·cases h
  ·next h2 =>
   split at h
   ·cases h
   ·next h3 =>
    split at h
    ·cases h
    ·next h4 =>
     split at h
     ·cases h
     ·next h5 =>
      have h1:O0 b=true:=by simpa using h1
      have h2:P6 b=false:=by simpa using h2
      simp only [Bool.or_eq_true,not_or,Bool.not_eq_true] at h3
      obtain⟨h3a,h3b⟩:=h3
      have h6:=h1
      unfold O0 at h6
      unfold P6 at h2
      simp only [Bool.and_eq_true,decide_eq_true_eq] at h6
      simp only [Bool.not_eq_true] at h4
      simp only [Bool.or_eq_false_iff,decide_eq_false_iff_not,List.any_eq_false] at h2 h3a h3b h4
      refine⟨h1,a07 h6.1,by omega,by omega,by omega,fun d hd => ?_,fun c hc=>by simpa using h3a c hc,fun d hd => ?_,fun d hd p hp => ?_,fun d hd p hp => ?_,by simpa using h5⟩
      ·have:=h2.2 d hd;unfold a08 at this;simp at this;exact this
      ·have:=h3b d hd;unfold a2D at this;simp only [Bool.not_eq_true,Bool.or_eq_false_iff,decide_eq_false_iff_not] at this;omega
      ·have:=h3b d hd;unfold a2D at this;simp at this;exact this.2 p hp
      ·have:=h4 d hd;unfold a2X at this;simp at this;exact this p hp
theorem a98 {d:Bnd} (h1:d.j9.length≤8) (h2:d.p7.length≤1024) (h3:∀ p∈d.j9,y8 p=true):(J7 d).length≤1400:=by
 have l1:=a0V h2
 have l2:=B1 (n:=d.j9.length) (by omega)
 have l3:=a1l u3 d.j9 24 fun p hp=>G9 (L5 (h3 p hp))
 unfold J7
 simp only [List.length_append,d.Proof.len]
 omega
theorem b1z (m M:UInt64) (k:Nat) (hk:k < 64) (hM:M.toNat=2^k - 1):(m &&& M) >>> UInt64.ofNat k=0:=by
 apply UInt64.toNat_inj.1
 rw [UInt64.toNat_shiftRight,UInt64.toNat_and,hM,Nat.and_two_pow_sub_one_eq_mod,Nat.shiftRight_eq_div_pow]
 have e:(UInt64.ofNat k).toNat=k:=by simp;omega
 rw [e,Nat.mod_eq_of_lt (show k < 64 by omega)]
 show m.toNat % 2^k/2^k=0
 exact Nat.div_eq_of_lt (Nat.mod_lt _ (Nat.two_pow_pos k))
theorem b9R (n:Nat) (hn:n < 64):((1:UInt64) <<< UInt64.ofNat n).toNat=2^n:=by
 rw [UInt64.toNat_shiftLeft]
 have e:(UInt64.ofNat n).toNat=n:=by simp;omega
 rw [e,Nat.mod_eq_of_lt (show n < 64 by omega)]
 show(1 <<< n) % 2^64=2^n
 rw [Nat.one_shiftLeft]
 exact Nat.mod_eq_of_lt (Nat.pow_lt_pow_right (by decide) hn)
theorem ofInt_ofNat {v:Int} (h0:0≤v):UInt64.ofInt v=UInt64.ofNat v.toNat:=by
 obtain⟨n,rfl⟩:=Int.eq_ofNat_of_zero_le h0
 apply UInt64.toNat_inj.1
 simp [UInt64.ofInt];omega
theorem X7 {x:UInt64} {b:Int} (hb:b=64∨b=32∨b=7) (h3:b < 64) (h:¬(x &&& ((1 <<< UInt64.ofInt b) - 1))=0):a0p (x &&& ((1 <<< UInt64.ofInt b) - 1)) b=true:=by
 have h2:(x &&& ((1 <<< UInt64.ofInt b) - 1)) >>> UInt64.ofNat b.toNat=0:=by
  rcases hb with rfl|rfl|rfl
  ·omega
  ·exact b1z x _ 32 (by decide) (by decide)
  ·exact b1z x _ 7 (by decide) (by decide)
 unfold a0p;rw [h2];simp [h]
theorem X8 {x:UInt64} {b:Int} (hb:b=64∨b=32∨b=7) (h3:¬b < 64) (h:¬x=0):a0p x b=true:=by
 obtain rfl:b=64:=by omega
 unfold a0p;simp [h]
theorem X9 {v b:Int} (hb:b=64∨b=32∨b=7) (h0:0≤v) (h1:v < b):a0p (1 <<< UInt64.ofInt v) b=true:=by
 have hv:v.toNat < 64:=by omega
 have h2:=b9R v.toNat hv
 rw [ofInt_ofNat h0]
 have hne:¬((1:UInt64) <<< UInt64.ofNat v.toNat)=0:=fun e=>by
  rw [e] at h2
  have:=Nat.two_pow_pos v.toNat
  simp at h2;omega
 unfold a0p
 by_cases h64:b=64
 ·simp [hne,h64]
 ·have h3:((1:UInt64) <<< UInt64.ofNat v.toNat) >>> UInt64.ofNat b.toNat=0:=by
   apply UInt64.toNat_inj.1
   rw [UInt64.toNat_shiftRight,h2,Nat.shiftRight_eq_div_pow]
   have e:(UInt64.ofNat b.toNat).toNat=b.toNat:=by simp;omega
   rw [e,Nat.mod_eq_of_lt (show b.toNat < 64 by omega)]
   exact Nat.div_eq_of_lt (Nat.pow_lt_pow_right (by decide) (by omega))
  rw [h3];simp [hne]
theorem a4e (w:Value) (d:o0) (b:Int) (hd:H9 d) (hb:b=64∨b=32∨b=7):G0 gl prog 72 [dk w,.v b] [.ob w d] (fun r Hs=>∃ m:UInt64,a0p m b=true∧∃ d',H9 d'∧r = .v m∧Hs = [.ob w d']):=by
 refine G0.R1 func72 rfl (by kernel_rfl) 45 rfl rfl _ rfl _ rfl fun C hC hG => ?_
 refine .q 12 hG ?_
 refine .km hG (F6 _ _ _ (by first|assumption|exact y3 _) (by first|omega|(simp;done)|(simp;omega)|(simp at *;omega)) (by first|omega|(simp;done)|(simp;omega)|(simp at *;omega))) .z (by rintro _ _ ⟨_,_,_,_,_,_,rfl⟩;exact⟨_,rfl⟩) fun r7 B7 hr7 => ?_
 obtain⟨v7,d7,h07,h17,hd7,rfl,hB⟩:=hr7
 cases hB
 refine .q 8 hG ⟨fun hc8 => ?_,fun hc8 => ?_⟩
 ·refine .q 2 hG ?_
  refine .km hG (F6 _ _ _ (by first|assumption|exact y3 _) (by first|omega|(simp;done)|(simp;omega)|(simp at *;omega)) (by first|omega|(simp;done)|(simp;omega)|(simp at *;omega))) .z (by rintro _ _ ⟨_,_,_,_,_,_,rfl⟩;exact⟨_,rfl⟩) fun r11 B11 hr11 => ?_
  obtain⟨v11,d11,h011,h111,hd11,rfl,hB⟩:=hr11
  cases hB
  refine .q 10 hG ⟨fun hc30 => ?_,fun hc30 => ?_⟩
  ·have hbn:(UInt64.ofInt b).toNat < 64:=by rcases hb with rfl|rfl|rfl;omega;decide;decide
   refine .q 4 hG ?_
   refine .p (.a1t (.u64 1 a8) (.t a8) (by first|omega|(simp;done)|(simp;omega)|(simp at *;omega)) (by first|omega|(simp;done)|(simp;omega)|(simp at *;omega)) ?_)
   refine .q 11 hG ⟨fun hc38 => ?_,fun hc38 => ?_⟩
   ·refine .q 4 hG ?_
    refine .km hG (F6 _ _ _ (by first|assumption|exact y3 _) (by first|omega|(simp;done)|(simp;omega)|(simp at *;omega)) (by first|omega|(simp;done)|(simp;omega)|(simp at *;omega))) .z (by rintro _ _ ⟨_,_,_,_,_,_,rfl⟩;exact⟨_,rfl⟩) fun r41 B41 hr41 => ?_
    obtain⟨v41,d41,h041,h141,hd41,rfl,hB⟩:=hr41
    cases hB
    have hvn:(UInt64.ofInt v41).toNat < 64:=by rw [ofInt_ofNat h041];simp;omega
    refine .q 1 hG ?_
    refine .p (.a1t (.u64 1 a8) (.t a8) (by first|omega|(simp;done)|(simp;omega)|(simp at *;omega)) (by first|omega|(simp;done)|(simp;omega)|(simp at *;omega)) ?_)
    refine .q 3 hG ?_
    refine .e1 a8 a8 ?_
    refine⟨_,.cons .z (.nil),?_⟩
    first|exact⟨_,X7 hb (by assumption) (by assumption),_,by assumption,rfl,rfl⟩|exact⟨_,X8 hb (by assumption) (by assumption),_,by assumption,rfl,rfl⟩|exact⟨_,X9 hb (by assumption) (by assumption),_,by assumption,rfl,rfl⟩
   ·refine .q 7 hG ?_
    refine .e1 a8 a8 ?_
    refine⟨_,.cons .z (.nil),?_⟩
    first|exact⟨_,X7 hb (by assumption) (by assumption),_,by assumption,rfl,rfl⟩|exact⟨_,X8 hb (by assumption) (by assumption),_,by assumption,rfl,rfl⟩|exact⟨_,X9 hb (by assumption) (by assumption),_,by assumption,rfl,rfl⟩
  ·refine .q 8 hG ⟨fun hc38 => ?_,fun hc38 => ?_⟩
   ·refine .q 4 hG ?_
    refine .km hG (F6 _ _ _ (by first|assumption|exact y3 _) (by first|omega|(simp;done)|(simp;omega)|(simp at *;omega)) (by first|omega|(simp;done)|(simp;omega)|(simp at *;omega))) .z (by rintro _ _ ⟨_,_,_,_,_,_,rfl⟩;exact⟨_,rfl⟩) fun r41 B41 hr41 => ?_
    obtain⟨v41,d41,h041,h141,hd41,rfl,hB⟩:=hr41
    cases hB
    have hvn:(UInt64.ofInt v41).toNat < 64:=by rw [ofInt_ofNat h041];simp;omega
    refine .q 1 hG ?_
    refine .p (.a1t (.u64 1 a8) (.t a8) (by first|omega|(simp;done)|(simp;omega)|(simp at *;omega)) (by first|omega|(simp;done)|(simp;omega)|(simp at *;omega)) ?_)
    refine .q 3 hG ?_
    refine .e1 a8 a8 ?_
    refine⟨_,.cons .z (.nil),?_⟩
    first|exact⟨_,X7 hb (by assumption) (by assumption),_,by assumption,rfl,rfl⟩|exact⟨_,X8 hb (by assumption) (by assumption),_,by assumption,rfl,rfl⟩|exact⟨_,X9 hb (by assumption) (by assumption),_,by assumption,rfl,rfl⟩
   ·refine .q 7 hG ?_
    refine .e1 a8 a8 ?_
    refine⟨_,.cons .z (.nil),?_⟩
    first|exact⟨_,X7 hb (by assumption) (by assumption),_,by assumption,rfl,rfl⟩|exact⟨_,X8 hb (by assumption) (by assumption),_,by assumption,rfl,rfl⟩|exact⟨_,X9 hb (by assumption) (by assumption),_,by assumption,rfl,rfl⟩
 ·refine .q 6 hG ⟨fun hc13 => ?_,fun hc13 => ?_⟩
  ·refine .q 2 hG ?_
   refine .km hG (F6 _ _ _ (by first|assumption|exact y3 _) (by first|omega|(simp;done)|(simp;omega)|(simp at *;omega)) (by first|omega|(simp;done)|(simp;omega)|(simp at *;omega))) .z (by rintro _ _ ⟨_,_,_,_,_,_,rfl⟩;exact⟨_,rfl⟩) fun r16 B16 hr16 => ?_
   obtain⟨v16,d16,h016,h116,hd16,rfl,hB⟩:=hr16
   cases hB
   refine .q 2 hG ?_
   refine .km hG (F6 _ _ _ (by first|assumption|exact y3 _) (by first|omega|(simp;done)|(simp;omega)|(simp at *;omega)) (by first|omega|(simp;done)|(simp;omega)|(simp at *;omega))) .z (by rintro _ _ ⟨_,_,_,_,_,_,rfl⟩;exact⟨_,rfl⟩) fun r19 B19 hr19 => ?_
   obtain⟨v19,d19,h019,h119,hd19,rfl,hB⟩:=hr19
   cases hB
   refine .q 1 hG ?_
   refine .p (.a1t (.t a8) (.u64 48 a8) (by first|omega|(simp;done)|(simp;omega)|(simp at *;omega)) (by first|omega|(simp;done)|(simp;omega)|(simp at *;omega)) ?_)
   refine .q 10 hG ⟨fun hc30 => ?_,fun hc30 => ?_⟩
   ·have hbn:(UInt64.ofInt b).toNat < 64:=by rcases hb with rfl|rfl|rfl;omega;decide;decide
    refine .q 4 hG ?_
    refine .p (.a1t (.u64 1 a8) (.t a8) (by first|omega|(simp;done)|(simp;omega)|(simp at *;omega)) (by first|omega|(simp;done)|(simp;omega)|(simp at *;omega)) ?_)
    refine .q 11 hG ⟨fun hc38 => ?_,fun hc38 => ?_⟩
    ·refine .q 4 hG ?_
     refine .km hG (F6 _ _ _ (by first|assumption|exact y3 _) (by first|omega|(simp;done)|(simp;omega)|(simp at *;omega)) (by first|omega|(simp;done)|(simp;omega)|(simp at *;omega))) .z (by rintro _ _ ⟨_,_,_,_,_,_,rfl⟩;exact⟨_,rfl⟩) fun r41 B41 hr41 => ?_
     obtain⟨v41,d41,h041,h141,hd41,rfl,hB⟩:=hr41
     cases hB
     have hvn:(UInt64.ofInt v41).toNat < 64:=by rw [ofInt_ofNat h041];simp;omega
     refine .q 1 hG ?_
     refine .p (.a1t (.u64 1 a8) (.t a8) (by first|omega|(simp;done)|(simp;omega)|(simp at *;omega)) (by first|omega|(simp;done)|(simp;omega)|(simp at *;omega)) ?_)
     refine .q 3 hG ?_
     refine .e1 a8 a8 ?_
     refine⟨_,.cons .z (.nil),?_⟩
     first|exact⟨_,X7 hb (by assumption) (by assumption),_,by assumption,rfl,rfl⟩|exact⟨_,X8 hb (by assumption) (by assumption),_,by assumption,rfl,rfl⟩|exact⟨_,X9 hb (by assumption) (by assumption),_,by assumption,rfl,rfl⟩
    ·refine .q 7 hG ?_
     refine .e1 a8 a8 ?_
     refine⟨_,.cons .z (.nil),?_⟩
     first|exact⟨_,X7 hb (by assumption) (by assumption),_,by assumption,rfl,rfl⟩|exact⟨_,X8 hb (by assumption) (by assumption),_,by assumption,rfl,rfl⟩|exact⟨_,X9 hb (by assumption) (by assumption),_,by assumption,rfl,rfl⟩
   ·refine .q 8 hG ⟨fun hc38 => ?_,fun hc38 => ?_⟩
    ·refine .q 4 hG ?_
     refine .km hG (F6 _ _ _ (by first|assumption|exact y3 _) (by first|omega|(simp;done)|(simp;omega)|(simp at *;omega)) (by first|omega|(simp;done)|(simp;omega)|(simp at *;omega))) .z (by rintro _ _ ⟨_,_,_,_,_,_,rfl⟩;exact⟨_,rfl⟩) fun r41 B41 hr41 => ?_
     obtain⟨v41,d41,h041,h141,hd41,rfl,hB⟩:=hr41
     cases hB
     have hvn:(UInt64.ofInt v41).toNat < 64:=by rw [ofInt_ofNat h041];simp;omega
     refine .q 1 hG ?_
     refine .p (.a1t (.u64 1 a8) (.t a8) (by first|omega|(simp;done)|(simp;omega)|(simp at *;omega)) (by first|omega|(simp;done)|(simp;omega)|(simp at *;omega)) ?_)
     refine .q 3 hG ?_
     refine .e1 a8 a8 ?_
     refine⟨_,.cons .z (.nil),?_⟩
     first|exact⟨_,X7 hb (by assumption) (by assumption),_,by assumption,rfl,rfl⟩|exact⟨_,X8 hb (by assumption) (by assumption),_,by assumption,rfl,rfl⟩|exact⟨_,X9 hb (by assumption) (by assumption),_,by assumption,rfl,rfl⟩
    ·refine .q 7 hG ?_
     refine .e1 a8 a8 ?_
     refine⟨_,.cons .z (.nil),?_⟩
     first|exact⟨_,X7 hb (by assumption) (by assumption),_,by assumption,rfl,rfl⟩|exact⟨_,X8 hb (by assumption) (by assumption),_,by assumption,rfl,rfl⟩|exact⟨_,X9 hb (by assumption) (by assumption),_,by assumption,rfl,rfl⟩
  ·refine .q 6 hG ⟨fun hc23 => ?_,fun hc23 => ?_⟩
   ·refine .q 2 hG ?_
    refine .km hG (F6 _ _ _ (by first|assumption|exact y3 _) (by first|omega|(simp;done)|(simp;omega)|(simp at *;omega)) (by first|omega|(simp;done)|(simp;omega)|(simp at *;omega))) .z (by rintro _ _ ⟨_,_,_,_,_,_,rfl⟩;exact⟨_,rfl⟩) fun r26 B26 hr26 => ?_
    obtain⟨v26,d26,h026,h126,hd26,rfl,hB⟩:=hr26
    cases hB
    refine .q 1 hG ?_
    refine .p (.b6t (.t a8) ?_)
    refine .q 9 hG ⟨fun hc30 => ?_,fun hc30 => ?_⟩
    ·have hbn:(UInt64.ofInt b).toNat < 64:=by rcases hb with rfl|rfl|rfl;omega;decide;decide
     refine .q 4 hG ?_
     refine .p (.a1t (.u64 1 a8) (.t a8) (by first|omega|(simp;done)|(simp;omega)|(simp at *;omega)) (by first|omega|(simp;done)|(simp;omega)|(simp at *;omega)) ?_)
     refine .q 11 hG ⟨fun hc38 => ?_,fun hc38 => ?_⟩
     ·refine .q 4 hG ?_
      refine .km hG (F6 _ _ _ (by first|assumption|exact y3 _) (by first|omega|(simp;done)|(simp;omega)|(simp at *;omega)) (by first|omega|(simp;done)|(simp;omega)|(simp at *;omega))) .z (by rintro _ _ ⟨_,_,_,_,_,_,rfl⟩;exact⟨_,rfl⟩) fun r41 B41 hr41 => ?_
      obtain⟨v41,d41,h041,h141,hd41,rfl,hB⟩:=hr41
      cases hB
      have hvn:(UInt64.ofInt v41).toNat < 64:=by rw [ofInt_ofNat h041];simp;omega
      refine .q 1 hG ?_
      refine .p (.a1t (.u64 1 a8) (.t a8) (by first|omega|(simp;done)|(simp;omega)|(simp at *;omega)) (by first|omega|(simp;done)|(simp;omega)|(simp at *;omega)) ?_)
      refine .q 3 hG ?_
      refine .e1 a8 a8 ?_
      refine⟨_,.cons .z (.nil),?_⟩
      first|exact⟨_,X7 hb (by assumption) (by assumption),_,by assumption,rfl,rfl⟩|exact⟨_,X8 hb (by assumption) (by assumption),_,by assumption,rfl,rfl⟩|exact⟨_,X9 hb (by assumption) (by assumption),_,by assumption,rfl,rfl⟩
     ·refine .q 7 hG ?_
      refine .e1 a8 a8 ?_
      refine⟨_,.cons .z (.nil),?_⟩
      first|exact⟨_,X7 hb (by assumption) (by assumption),_,by assumption,rfl,rfl⟩|exact⟨_,X8 hb (by assumption) (by assumption),_,by assumption,rfl,rfl⟩|exact⟨_,X9 hb (by assumption) (by assumption),_,by assumption,rfl,rfl⟩
    ·refine .q 8 hG ⟨fun hc38 => ?_,fun hc38 => ?_⟩
     ·refine .q 4 hG ?_
      refine .km hG (F6 _ _ _ (by first|assumption|exact y3 _) (by first|omega|(simp;done)|(simp;omega)|(simp at *;omega)) (by first|omega|(simp;done)|(simp;omega)|(simp at *;omega))) .z (by rintro _ _ ⟨_,_,_,_,_,_,rfl⟩;exact⟨_,rfl⟩) fun r41 B41 hr41 => ?_
      obtain⟨v41,d41,h041,h141,hd41,rfl,hB⟩:=hr41
      cases hB
      have hvn:(UInt64.ofInt v41).toNat < 64:=by rw [ofInt_ofNat h041];simp;omega
      refine .q 1 hG ?_
      refine .p (.a1t (.u64 1 a8) (.t a8) (by first|omega|(simp;done)|(simp;omega)|(simp at *;omega)) (by first|omega|(simp;done)|(simp;omega)|(simp at *;omega)) ?_)
      refine .q 3 hG ?_
      refine .e1 a8 a8 ?_
      refine⟨_,.cons .z (.nil),?_⟩
      first|exact⟨_,X7 hb (by assumption) (by assumption),_,by assumption,rfl,rfl⟩|exact⟨_,X8 hb (by assumption) (by assumption),_,by assumption,rfl,rfl⟩|exact⟨_,X9 hb (by assumption) (by assumption),_,by assumption,rfl,rfl⟩
     ·refine .q 7 hG ?_
      refine .e1 a8 a8 ?_
      refine⟨_,.cons .z (.nil),?_⟩
      first|exact⟨_,X7 hb (by assumption) (by assumption),_,by assumption,rfl,rfl⟩|exact⟨_,X8 hb (by assumption) (by assumption),_,by assumption,rfl,rfl⟩|exact⟨_,X9 hb (by assumption) (by assumption),_,by assumption,rfl,rfl⟩
   ·refine .q 8 hG ⟨fun hc30 => ?_,fun hc30 => ?_⟩
    ·have hbn:(UInt64.ofInt b).toNat < 64:=by rcases hb with rfl|rfl|rfl;omega;decide;decide
     refine .q 4 hG ?_
     refine .p (.a1t (.u64 1 a8) (.t a8) (by first|omega|(simp;done)|(simp;omega)|(simp at *;omega)) (by first|omega|(simp;done)|(simp;omega)|(simp at *;omega)) ?_)
     refine .q 11 hG ⟨fun hc38 => ?_,fun hc38 => ?_⟩
     ·refine .q 4 hG ?_
      refine .km hG (F6 _ _ _ (by first|assumption|exact y3 _) (by first|omega|(simp;done)|(simp;omega)|(simp at *;omega)) (by first|omega|(simp;done)|(simp;omega)|(simp at *;omega))) .z (by rintro _ _ ⟨_,_,_,_,_,_,rfl⟩;exact⟨_,rfl⟩) fun r41 B41 hr41 => ?_
      obtain⟨v41,d41,h041,h141,hd41,rfl,hB⟩:=hr41
      cases hB
      have hvn:(UInt64.ofInt v41).toNat < 64:=by rw [ofInt_ofNat h041];simp;omega
      refine .q 1 hG ?_
      refine .p (.a1t (.u64 1 a8) (.t a8) (by first|omega|(simp;done)|(simp;omega)|(simp at *;omega)) (by first|omega|(simp;done)|(simp;omega)|(simp at *;omega)) ?_)
      refine .q 3 hG ?_
      refine .e1 a8 a8 ?_
      refine⟨_,.cons .z (.nil),?_⟩
      first|exact⟨_,X7 hb (by assumption) (by assumption),_,by assumption,rfl,rfl⟩|exact⟨_,X8 hb (by assumption) (by assumption),_,by assumption,rfl,rfl⟩|exact⟨_,X9 hb (by assumption) (by assumption),_,by assumption,rfl,rfl⟩
     ·refine .q 7 hG ?_
      refine .e1 a8 a8 ?_
      refine⟨_,.cons .z (.nil),?_⟩
      first|exact⟨_,X7 hb (by assumption) (by assumption),_,by assumption,rfl,rfl⟩|exact⟨_,X8 hb (by assumption) (by assumption),_,by assumption,rfl,rfl⟩|exact⟨_,X9 hb (by assumption) (by assumption),_,by assumption,rfl,rfl⟩
    ·refine .q 8 hG ⟨fun hc38 => ?_,fun hc38 => ?_⟩
     ·refine .q 4 hG ?_
      refine .km hG (F6 _ _ _ (by first|assumption|exact y3 _) (by first|omega|(simp;done)|(simp;omega)|(simp at *;omega)) (by first|omega|(simp;done)|(simp;omega)|(simp at *;omega))) .z (by rintro _ _ ⟨_,_,_,_,_,_,rfl⟩;exact⟨_,rfl⟩) fun r41 B41 hr41 => ?_
      obtain⟨v41,d41,h041,h141,hd41,rfl,hB⟩:=hr41
      cases hB
      have hvn:(UInt64.ofInt v41).toNat < 64:=by rw [ofInt_ofNat h041];simp;omega
      refine .q 1 hG ?_
      refine .p (.a1t (.u64 1 a8) (.t a8) (by first|omega|(simp;done)|(simp;omega)|(simp at *;omega)) (by first|omega|(simp;done)|(simp;omega)|(simp at *;omega)) ?_)
      refine .q 3 hG ?_
      refine .e1 a8 a8 ?_
      refine⟨_,.cons .z (.nil),?_⟩
      first|exact⟨_,X7 hb (by assumption) (by assumption),_,by assumption,rfl,rfl⟩|exact⟨_,X8 hb (by assumption) (by assumption),_,by assumption,rfl,rfl⟩|exact⟨_,X9 hb (by assumption) (by assumption),_,by assumption,rfl,rfl⟩
     ·refine .q 7 hG ?_
      refine .e1 a8 a8 ?_
      refine⟨_,.cons .z (.nil),?_⟩
      first|exact⟨_,X7 hb (by assumption) (by assumption),_,by assumption,rfl,rfl⟩|exact⟨_,X8 hb (by assumption) (by assumption),_,by assumption,rfl,rfl⟩|exact⟨_,X9 hb (by assumption) (by assumption),_,by assumption,rfl,rfl⟩
theorem Y5 (w:Value) (d:o0) (hd:H9 d):G0 gl prog 16 [dk w] [.ob w d] (fun r Hs=>∃ v:Int,0≤v∧v≤67108864∧∃ d',H9 d'∧r = .v v∧Hs = [.ob w d']):=by
 refine G0.R1 func16 rfl (by kernel_rfl) 25 rfl rfl _ rfl _ rfl fun C hC hG => ?_
 refine .q 8 hG ?_
 refine .km hG (F6 _ _ _ (by first|assumption|exact y3 _) (by first|omega|(simp;done)|(simp;omega)|(simp at *;omega)) (by first|omega|(simp;done)|(simp;omega)|(simp at *;omega))) .z (by rintro _ _ ⟨_,_,_,_,_,_,rfl⟩;exact⟨_,rfl⟩) fun r4 B4 hr4 => ?_
 obtain⟨v4,d4,h04,h14,hd4,rfl,hB⟩:=hr4
 cases hB
 refine .q 8 hG ⟨fun hc5 => ?_,fun hc5 => ?_⟩
 ·refine .q 3 hG ?_
  refine .km hG (F6 _ _ _ (by first|assumption|exact y3 _) (by first|omega|(simp;done)|(simp;omega)|(simp at *;omega)) (by first|omega|(simp;done)|(simp;omega)|(simp at *;omega))) .z (by rintro _ _ ⟨_,_,_,_,_,_,rfl⟩;exact⟨_,rfl⟩) fun r8 B8 hr8 => ?_
  obtain⟨v8,d8,h08,h18,hd8,rfl,hB⟩:=hr8
  cases hB
  refine .q 3 hG ?_
  refine .e1 a8 a8 ?_
  refine⟨_,.cons .z (.nil),?_⟩
  exact⟨_,by omega,by omega,_,by assumption,rfl,rfl⟩
 ·refine .q 6 hG ⟨fun hc9 => ?_,fun hc9 => ?_⟩
  ·refine .q 3 hG ?_
   refine .km hG (F6 _ _ _ (by first|assumption|exact y3 _) (by first|omega|(simp;done)|(simp;omega)|(simp at *;omega)) (by first|omega|(simp;done)|(simp;omega)|(simp at *;omega))) .z (by rintro _ _ ⟨_,_,_,_,_,_,rfl⟩;exact⟨_,rfl⟩) fun r12 B12 hr12 => ?_
   obtain⟨v12,d12,h012,h112,hd12,rfl,hB⟩:=hr12
   cases hB
   refine .p (.mul (.t a8) (.i a8) (by first|omega|(simp;done)|(simp;omega)|(simp at *;omega)) (by first|omega|(simp;done)|(simp;omega)|(simp at *;omega)) ?_)
   refine .q 1 hG ?_
   refine .km hG (F6 _ _ _ (by first|assumption|exact y3 _) (by first|omega|(simp;done)|(simp;omega)|(simp at *;omega)) (by first|omega|(simp;done)|(simp;omega)|(simp at *;omega))) .z (by rintro _ _ ⟨_,_,_,_,_,_,rfl⟩;exact⟨_,rfl⟩) fun r15 B15 hr15 => ?_
   obtain⟨v15,d15,h015,h115,hd15,rfl,hB⟩:=hr15
   cases hB
   refine .ad (by first|omega|(simp;done)|(simp;omega)|(simp at *;omega)) (by first|omega|(simp;done)|(simp;omega)|(simp at *;omega)) (.p (.a5w (.t a8) (.i a8) ?_))
   refine .q 3 hG ?_
   refine .e1 a8 a8 ?_
   refine⟨_,.cons .z (.nil),?_⟩
   exact⟨_,by omega,by omega,_,by assumption,rfl,rfl⟩
  ·refine .q 6 hG ⟨fun hc18 => ?_,fun hc18 => ?_⟩
   ·refine .q 3 hG ?_
    refine .km hG (F6 _ _ _ (by first|assumption|exact y3 _) (by first|omega|(simp;done)|(simp;omega)|(simp at *;omega)) (by first|omega|(simp;done)|(simp;omega)|(simp at *;omega))) .z (by rintro _ _ ⟨_,_,_,_,_,_,rfl⟩;exact⟨_,rfl⟩) fun r21 B21 hr21 => ?_
    obtain⟨v21,d21,h021,h121,hd21,rfl,hB⟩:=hr21
    cases hB
    refine .sb (by first|omega|(simp;done)|(simp;omega)|(simp at *;omega)) (by first|omega|(simp;done)|(simp;omega)|(simp at *;omega)) ?_
    refine .q 3 hG ?_
    refine .e1 a8 a8 ?_
    refine⟨_,.cons .z (.nil),?_⟩
    exact⟨_,by omega,by omega,_,by assumption,rfl,rfl⟩
   ·refine .q 4 hG ?_
    refine .km hG (F6 _ _ _ (by first|assumption|exact y3 _) (by first|omega|(simp;done)|(simp;omega)|(simp at *;omega)) (by first|omega|(simp;done)|(simp;omega)|(simp at *;omega))) .z (by rintro _ _ ⟨_,_,_,_,_,_,rfl⟩;exact⟨_,rfl⟩) fun r24 B24 hr24 => ?_
    obtain⟨v24,d24,h024,h124,hd24,rfl,hB⟩:=hr24
    cases hB
    refine .q 3 hG ?_
    refine .e1 a8 a8 ?_
    refine⟨_,.cons .z (.nil),?_⟩
    exact⟨_,by omega,by omega,_,by assumption,rfl,rfl⟩
theorem b3k (w:Value) (d:o0) (hd:H9 d):G0 gl prog 17 [dk w] [.ob w d] (fun r Hs=>∃ s:T5,I7 s=true∧∃ d',H9 d'∧r = .v s∧Hs = [.ob w d']):=by
 have hn:=S4 (d:=d) (n:=8) (by decide)
 refine G0.jn func17 (by kernel_rfl) 8 rfl fun C hC hG => ?_
 refine .q 2 hG ?_
 refine .p (.assign (.s [] (by decide) (by decide)) ?_)
 refine .q 3 hG ?_
 refine .bs a8 (by decide) fun b3 => ?_
 refine .q 1 hG ?_
 refine .km hG (a3l _ _ _ hd (by first|omega|(simp;done)|(simp;omega)|(simp at *;omega)) (by first|omega|(simp;done)|(simp;omega)|(simp at *;omega))) .z1 (by rintro _ _ ⟨_,rfl⟩;exact⟨_,rfl⟩) fun r5 B5 hr5 => ?_
 obtain⟨rfl,hB⟩:=hr5
 cases hB
 refine .p (.a2w ty9 underlying128 a8 .z (.t a8) (by first|omega|(simp;done)|(simp;omega)|(simp at *;omega)) (by first|omega|(simp;done)|(simp;omega)|(simp at *;omega)) (.p (.b9A ty9 (.t a8) .z (by first|omega|(simp;done)|(simp;omega)|(simp at *;omega)) ?_)))
 refine .q 2 hG ?_
 refine .drop ?_
 refine .q 1 hG ?_
 refine .e1 a8 a8 ?_
 refine⟨_,?_,_,Q7 hd,a8,a8⟩
 refine(show ∀ s∈_,I7 s=true from ?_) _ (List.getElem_mem _)
 decide
theorem D9 {k:Int} {m:UInt64} (hk:k=1∨k=2∨k=3) (h:a0p m (G3 k)=true):y8 ⟨k,m,0,0,⟨[]⟩,0⟩=true:=by
 unfold y8;rw [if_pos hk];dsimp only;rw [h];simp
theorem H4 {a b:Int} (h0:0≤a) (h1:a≤b) (h2:b≤67108864):y8 ⟨4,0,a,b,⟨[]⟩,0⟩=true:=by
 unfold y8;simp [h0,h1,h2]
theorem J8 {a b:Int} (h0:0≤a) (h1:a < 1440) (h2:0≤b) (h3:b < 1440):y8 ⟨5,0,a,b,⟨[]⟩,0⟩=true:=by
 unfold y8;simp [h0,h1,h2,h3]
theorem O5 {s:T5} (h:I7 s=true):y8 ⟨6,0,0,0,s,0⟩=true:=by unfold y8;simp [h]
theorem K7 {n:Int} (h0:0≤n) (h1:n≤1000000):y8 ⟨7,0,0,0,⟨[]⟩,n⟩=true:=by unfold y8;simp [h0,h1]
theorem W8 (w:Value) (d:o0) (b7M:Bool) (hd:H9 d):G0 gl prog 37 [dk w,.v b7M] [.ob w d] (fun r Hs=>∃ p:Pred,y8 p=true∧(b7M=false→p.Kind≠7)∧∃ d',H9 d'∧r = .v p∧Hs = [.ob w d']):=by
 refine G0.R1 func37 rfl (by kernel_rfl) 81 rfl rfl _ rfl _ rfl fun C hC hG => ?_
 refine .q 3 hG fun b4 => ?_
 refine .q 4 hG ?_
 refine .km hG (a7k _ _ _ _ (by first|assumption|exact y3 _) (by first|omega|(simp;done)|(simp;omega)|(simp at *;omega)) (by first|omega|(simp;done)|(simp;omega)|(simp at *;omega)) (by first|omega|(simp;done)|(simp;omega)|(simp at *;omega))) .z1 (by rintro _ _ ⟨_,_,_,_,_,_,rfl⟩;exact⟨_,rfl⟩) fun r9 B9 hr9 => ?_
 obtain⟨v9,d9,h09,h19,hd9,rfl,hB⟩:=hr9
 cases hB
 refine .p (.bS1 j2.l0 a8 R3 a5z (fun c0=>(⟨c0,0,0,0,⟨[]⟩,0⟩:j2)) (fun _=>a8) a8 a8 (.t a8) ?_)
 refine .q 1 hG fun b5 => ?_
 refine .q 13 hG ?_
 refine .cond (.t a8) (fun hc17 => ?_) (fun hc17 => ?_)
 ·refine .q 16 hG ?_
  refine .R4 (.t rfl) (fun hc21=>(by exfalso;exact absurd hc21 (show ¬(4:Int)=1 by decide))) (fun hc21 => ?_)
  refine .q 5 hG ?_
  refine .R4 (.t rfl) (fun hc26=>(by exfalso;exact absurd hc26 (show ¬(4:Int)=2 by decide))) (fun hc26 => ?_)
  refine .q 5 hG ?_
  refine .R4 (.t rfl) (fun hc31=>(by exfalso;exact absurd hc31 (show ¬(4:Int)=3 by decide))) (fun hc31 => ?_)
  refine .q 5 hG ?_
  refine .R4 (.t a8) (fun hc36 => ?_) (fun hc36=>(by exfalso;exact hc36 rfl))
  refine .q 3 hG ?_
  refine .km hG (Y5 _ _ (by assumption)) .z2 (by rintro _ _ ⟨_,_,_,_,_,_,rfl⟩;exact⟨_,rfl⟩) fun r39 B39 hr39 => ?_
  obtain⟨v39,h039,h139,d39,hd39,rfl,hB⟩:=hr39
  cases hB
  refine .q 1 hG ?_
  refine .km hG (Y5 _ _ (by assumption)) .z2 (by rintro _ _ ⟨_,_,_,_,_,_,rfl⟩;exact⟨_,rfl⟩) fun r41 B41 hr41 => ?_
  obtain⟨v41,h041,h141,d41,hd41,rfl,hB⟩:=hr41
  cases hB
  refine .q 6 hG ?_
  refine .p (.a5w (.t a8) (.t a8) ?_)
  refine .q 2 hG ?_
  refine .p (.a8i (.t a8) (.t a8) ?_)
  refine .q 11 hG ?_
  refine⟨_,.r1 a8 (.cell R3 a8 .z1),?_⟩
  refine⟨_,.cons .z2 (.nil),?_⟩
  first|(exfalso;(try dsimp only at *);omega)|exact⟨⟨4,0,min v39 v41,max v39 v41,⟨[]⟩,0⟩,H4 (by omega) (by omega) (by omega),fun _=>(show(4:Int)≠7 by decide),_,by assumption,rfl,rfl⟩|(obtain rfl:v9=1:=(by assumption);exact⟨_,D9 (Or.inl rfl) (by assumption),fun _=>(show(1:Int)≠7 by decide),_,by assumption,rfl,rfl⟩)|(obtain rfl:v9=2:=(by assumption);exact⟨_,D9 (Or.inr (Or.inl rfl)) (by assumption),fun _=>(show(2:Int)≠7 by decide),_,by assumption,rfl,rfl⟩)|(obtain rfl:v9=3:=(by assumption);exact⟨_,D9 (Or.inr (Or.inr rfl)) (by assumption),fun _=>(show(3:Int)≠7 by decide),_,by assumption,rfl,rfl⟩)|(obtain rfl:v9=4:=(by assumption);exact⟨⟨4,0,min v39 v41,max v39 v41,⟨[]⟩,0⟩,H4 (by omega) (by omega) (by omega),fun _=>(show(4:Int)≠7 by decide),_,by assumption,rfl,rfl⟩)|(obtain rfl:v9=5:=(by assumption);exact⟨⟨5,0,v53,v55,⟨[]⟩,0⟩,J8 (by omega) (by omega) (by omega) (by omega),fun _=>(show(5:Int)≠7 by decide),_,by assumption,rfl,rfl⟩)|(obtain rfl:v9=5:=(by assumption);exact⟨⟨5,0,v53,(v53+v64+1440 - 1) % 1440,⟨[]⟩,0⟩,J8 (by omega) (by omega) (by omega) (by omega),fun _=>(show(5:Int)≠7 by decide),_,by assumption,rfl,rfl⟩)|(obtain rfl:v9=6:=(by assumption);exact⟨_,O5 (by assumption),fun _=>(show(6:Int)≠7 by decide),_,by assumption,rfl,rfl⟩)|(obtain rfl:v9=7:=(by assumption);exact⟨⟨7,0,0,0,⟨[]⟩,v78⟩,K7 (by omega) (by omega),fun h=>(by subst h;simp at hc17),_,by assumption,rfl,rfl⟩)
 ·refine .q 14 hG ⟨fun hc21 => ?_,fun hc21 => ?_⟩
  ·refine .q 2 hG ?_
   refine .km hG (a4e _ _ _ (by assumption) (by decide)) .z2 (by rintro _ _ ⟨_,_,_,_,_,rfl⟩;exact⟨_,rfl⟩) fun r24 B24 hr24 => ?_
   obtain⟨m24,hm24,d24,hd24,rfl,hB⟩:=hr24
   cases hB
   refine .q 9 hG ?_
   refine⟨_,.r1 a8 (.cell R3 a8 .z1),?_⟩
   refine⟨_,.cons .z2 (.nil),?_⟩
   first|(exfalso;(try dsimp only at *);omega)|exact⟨⟨4,0,min v39 v41,max v39 v41,⟨[]⟩,0⟩,H4 (by omega) (by omega) (by omega),fun _=>(show(4:Int)≠7 by decide),_,by assumption,rfl,rfl⟩|(obtain rfl:v9=1:=(by assumption);exact⟨_,D9 (Or.inl rfl) (by assumption),fun _=>(show(1:Int)≠7 by decide),_,by assumption,rfl,rfl⟩)|(obtain rfl:v9=2:=(by assumption);exact⟨_,D9 (Or.inr (Or.inl rfl)) (by assumption),fun _=>(show(2:Int)≠7 by decide),_,by assumption,rfl,rfl⟩)|(obtain rfl:v9=3:=(by assumption);exact⟨_,D9 (Or.inr (Or.inr rfl)) (by assumption),fun _=>(show(3:Int)≠7 by decide),_,by assumption,rfl,rfl⟩)|(obtain rfl:v9=4:=(by assumption);exact⟨⟨4,0,min v39 v41,max v39 v41,⟨[]⟩,0⟩,H4 (by omega) (by omega) (by omega),fun _=>(show(4:Int)≠7 by decide),_,by assumption,rfl,rfl⟩)|(obtain rfl:v9=5:=(by assumption);exact⟨⟨5,0,v53,v55,⟨[]⟩,0⟩,J8 (by omega) (by omega) (by omega) (by omega),fun _=>(show(5:Int)≠7 by decide),_,by assumption,rfl,rfl⟩)|(obtain rfl:v9=5:=(by assumption);exact⟨⟨5,0,v53,(v53+v64+1440 - 1) % 1440,⟨[]⟩,0⟩,J8 (by omega) (by omega) (by omega) (by omega),fun _=>(show(5:Int)≠7 by decide),_,by assumption,rfl,rfl⟩)|(obtain rfl:v9=6:=(by assumption);exact⟨_,O5 (by assumption),fun _=>(show(6:Int)≠7 by decide),_,by assumption,rfl,rfl⟩)|(obtain rfl:v9=7:=(by assumption);exact⟨⟨7,0,0,0,⟨[]⟩,v78⟩,K7 (by omega) (by omega),fun h=>(by subst h;simp at hc17),_,by assumption,rfl,rfl⟩)
  ·refine .q 6 hG ⟨fun hc26 => ?_,fun hc26 => ?_⟩
   ·refine .q 2 hG ?_
    refine .km hG (a4e _ _ _ (by assumption) (by decide)) .z2 (by rintro _ _ ⟨_,_,_,_,_,rfl⟩;exact⟨_,rfl⟩) fun r29 B29 hr29 => ?_
    obtain⟨m29,hm29,d29,hd29,rfl,hB⟩:=hr29
    cases hB
    refine .q 9 hG ?_
    refine⟨_,.r1 a8 (.cell R3 a8 .z1),?_⟩
    refine⟨_,.cons .z2 (.nil),?_⟩
    first|(exfalso;(try dsimp only at *);omega)|exact⟨⟨4,0,min v39 v41,max v39 v41,⟨[]⟩,0⟩,H4 (by omega) (by omega) (by omega),fun _=>(show(4:Int)≠7 by decide),_,by assumption,rfl,rfl⟩|(obtain rfl:v9=1:=(by assumption);exact⟨_,D9 (Or.inl rfl) (by assumption),fun _=>(show(1:Int)≠7 by decide),_,by assumption,rfl,rfl⟩)|(obtain rfl:v9=2:=(by assumption);exact⟨_,D9 (Or.inr (Or.inl rfl)) (by assumption),fun _=>(show(2:Int)≠7 by decide),_,by assumption,rfl,rfl⟩)|(obtain rfl:v9=3:=(by assumption);exact⟨_,D9 (Or.inr (Or.inr rfl)) (by assumption),fun _=>(show(3:Int)≠7 by decide),_,by assumption,rfl,rfl⟩)|(obtain rfl:v9=4:=(by assumption);exact⟨⟨4,0,min v39 v41,max v39 v41,⟨[]⟩,0⟩,H4 (by omega) (by omega) (by omega),fun _=>(show(4:Int)≠7 by decide),_,by assumption,rfl,rfl⟩)|(obtain rfl:v9=5:=(by assumption);exact⟨⟨5,0,v53,v55,⟨[]⟩,0⟩,J8 (by omega) (by omega) (by omega) (by omega),fun _=>(show(5:Int)≠7 by decide),_,by assumption,rfl,rfl⟩)|(obtain rfl:v9=5:=(by assumption);exact⟨⟨5,0,v53,(v53+v64+1440 - 1) % 1440,⟨[]⟩,0⟩,J8 (by omega) (by omega) (by omega) (by omega),fun _=>(show(5:Int)≠7 by decide),_,by assumption,rfl,rfl⟩)|(obtain rfl:v9=6:=(by assumption);exact⟨_,O5 (by assumption),fun _=>(show(6:Int)≠7 by decide),_,by assumption,rfl,rfl⟩)|(obtain rfl:v9=7:=(by assumption);exact⟨⟨7,0,0,0,⟨[]⟩,v78⟩,K7 (by omega) (by omega),fun h=>(by subst h;simp at hc17),_,by assumption,rfl,rfl⟩)
   ·refine .q 6 hG ⟨fun hc31 => ?_,fun hc31 => ?_⟩
    ·refine .q 2 hG ?_
     refine .km hG (a4e _ _ _ (by assumption) (by decide)) .z2 (by rintro _ _ ⟨_,_,_,_,_,rfl⟩;exact⟨_,rfl⟩) fun r34 B34 hr34 => ?_
     obtain⟨m34,hm34,d34,hd34,rfl,hB⟩:=hr34
     cases hB
     refine .q 9 hG ?_
     refine⟨_,.r1 a8 (.cell R3 a8 .z1),?_⟩
     refine⟨_,.cons .z2 (.nil),?_⟩
     first|(exfalso;(try dsimp only at *);omega)|exact⟨⟨4,0,min v39 v41,max v39 v41,⟨[]⟩,0⟩,H4 (by omega) (by omega) (by omega),fun _=>(show(4:Int)≠7 by decide),_,by assumption,rfl,rfl⟩|(obtain rfl:v9=1:=(by assumption);exact⟨_,D9 (Or.inl rfl) (by assumption),fun _=>(show(1:Int)≠7 by decide),_,by assumption,rfl,rfl⟩)|(obtain rfl:v9=2:=(by assumption);exact⟨_,D9 (Or.inr (Or.inl rfl)) (by assumption),fun _=>(show(2:Int)≠7 by decide),_,by assumption,rfl,rfl⟩)|(obtain rfl:v9=3:=(by assumption);exact⟨_,D9 (Or.inr (Or.inr rfl)) (by assumption),fun _=>(show(3:Int)≠7 by decide),_,by assumption,rfl,rfl⟩)|(obtain rfl:v9=4:=(by assumption);exact⟨⟨4,0,min v39 v41,max v39 v41,⟨[]⟩,0⟩,H4 (by omega) (by omega) (by omega),fun _=>(show(4:Int)≠7 by decide),_,by assumption,rfl,rfl⟩)|(obtain rfl:v9=5:=(by assumption);exact⟨⟨5,0,v53,v55,⟨[]⟩,0⟩,J8 (by omega) (by omega) (by omega) (by omega),fun _=>(show(5:Int)≠7 by decide),_,by assumption,rfl,rfl⟩)|(obtain rfl:v9=5:=(by assumption);exact⟨⟨5,0,v53,(v53+v64+1440 - 1) % 1440,⟨[]⟩,0⟩,J8 (by omega) (by omega) (by omega) (by omega),fun _=>(show(5:Int)≠7 by decide),_,by assumption,rfl,rfl⟩)|(obtain rfl:v9=6:=(by assumption);exact⟨_,O5 (by assumption),fun _=>(show(6:Int)≠7 by decide),_,by assumption,rfl,rfl⟩)|(obtain rfl:v9=7:=(by assumption);exact⟨⟨7,0,0,0,⟨[]⟩,v78⟩,K7 (by omega) (by omega),fun h=>(by subst h;simp at hc17),_,by assumption,rfl,rfl⟩)
    ·refine .q 6 hG ⟨fun hc36 => ?_,fun hc36 => ?_⟩
     ·refine .q 3 hG ?_
      refine .km hG (Y5 _ _ (by assumption)) .z2 (by rintro _ _ ⟨_,_,_,_,_,_,rfl⟩;exact⟨_,rfl⟩) fun r39 B39 hr39 => ?_
      obtain⟨v39,h039,h139,d39,hd39,rfl,hB⟩:=hr39
      cases hB
      refine .q 1 hG ?_
      refine .km hG (Y5 _ _ (by assumption)) .z2 (by rintro _ _ ⟨_,_,_,_,_,_,rfl⟩;exact⟨_,rfl⟩) fun r41 B41 hr41 => ?_
      obtain⟨v41,h041,h141,d41,hd41,rfl,hB⟩:=hr41
      cases hB
      refine .q 6 hG ?_
      refine .p (.a5w (.t a8) (.t a8) ?_)
      refine .q 2 hG ?_
      refine .p (.a8i (.t a8) (.t a8) ?_)
      refine .q 11 hG ?_
      refine⟨_,.r1 a8 (.cell R3 a8 .z1),?_⟩
      refine⟨_,.cons .z2 (.nil),?_⟩
      first|(exfalso;(try dsimp only at *);omega)|exact⟨⟨4,0,min v39 v41,max v39 v41,⟨[]⟩,0⟩,H4 (by omega) (by omega) (by omega),fun _=>(show(4:Int)≠7 by decide),_,by assumption,rfl,rfl⟩|(obtain rfl:v9=1:=(by assumption);exact⟨_,D9 (Or.inl rfl) (by assumption),fun _=>(show(1:Int)≠7 by decide),_,by assumption,rfl,rfl⟩)|(obtain rfl:v9=2:=(by assumption);exact⟨_,D9 (Or.inr (Or.inl rfl)) (by assumption),fun _=>(show(2:Int)≠7 by decide),_,by assumption,rfl,rfl⟩)|(obtain rfl:v9=3:=(by assumption);exact⟨_,D9 (Or.inr (Or.inr rfl)) (by assumption),fun _=>(show(3:Int)≠7 by decide),_,by assumption,rfl,rfl⟩)|(obtain rfl:v9=4:=(by assumption);exact⟨⟨4,0,min v39 v41,max v39 v41,⟨[]⟩,0⟩,H4 (by omega) (by omega) (by omega),fun _=>(show(4:Int)≠7 by decide),_,by assumption,rfl,rfl⟩)|(obtain rfl:v9=5:=(by assumption);exact⟨⟨5,0,v53,v55,⟨[]⟩,0⟩,J8 (by omega) (by omega) (by omega) (by omega),fun _=>(show(5:Int)≠7 by decide),_,by assumption,rfl,rfl⟩)|(obtain rfl:v9=5:=(by assumption);exact⟨⟨5,0,v53,(v53+v64+1440 - 1) % 1440,⟨[]⟩,0⟩,J8 (by omega) (by omega) (by omega) (by omega),fun _=>(show(5:Int)≠7 by decide),_,by assumption,rfl,rfl⟩)|(obtain rfl:v9=6:=(by assumption);exact⟨_,O5 (by assumption),fun _=>(show(6:Int)≠7 by decide),_,by assumption,rfl,rfl⟩)|(obtain rfl:v9=7:=(by assumption);exact⟨⟨7,0,0,0,⟨[]⟩,v78⟩,K7 (by omega) (by omega),fun h=>(by subst h;simp at hc17),_,by assumption,rfl,rfl⟩)
     ·refine .q 6 hG ⟨fun hc50 => ?_,fun hc50 => ?_⟩
      ·refine .q 3 hG ?_
       refine .km hG (F6 _ _ _ (by first|assumption|exact y3 _) (by first|omega|(simp;done)|(simp;omega)|(simp at *;omega)) (by first|omega|(simp;done)|(simp;omega)|(simp at *;omega))) .z2 (by rintro _ _ ⟨_,_,_,_,_,_,rfl⟩;exact⟨_,rfl⟩) fun r53 B53 hr53 => ?_
       obtain⟨v53,d53,h053,h153,hd53,rfl,hB⟩:=hr53
       cases hB
       refine .q 1 hG ?_
       refine .km hG (F6 _ _ _ (by first|assumption|exact y3 _) (by first|omega|(simp;done)|(simp;omega)|(simp at *;omega)) (by first|omega|(simp;done)|(simp;omega)|(simp at *;omega))) .z2 (by rintro _ _ ⟨_,_,_,_,_,_,rfl⟩;exact⟨_,rfl⟩) fun r55 B55 hr55 => ?_
       obtain⟨v55,d55,h055,h155,hd55,rfl,hB⟩:=hr55
       cases hB
       refine .q 8 hG ?_
       refine .km hG (F6 _ _ _ (by first|assumption|exact y3 _) (by first|omega|(simp;done)|(simp;omega)|(simp at *;omega)) (by first|omega|(simp;done)|(simp;omega)|(simp at *;omega))) .z2 (by rintro _ _ ⟨_,_,_,_,_,_,rfl⟩;exact⟨_,rfl⟩) fun r59 B59 hr59 => ?_
       obtain⟨v59,d59,h059,h159,hd59,rfl,hB⟩:=hr59
       cases hB
       refine .q 3 hG ⟨fun hc60 => ?_,fun hc60 => ?_⟩
       ·refine .F3 [j0,j0,c9] (by kernel_rfl) 9 [[],[(61,0)],[],[(63,2)],[(62,1),(64,3)],[(65,4)],[(66,5)],[(67,6)],[]] [3,4,5,6,7] a8 (by kernel_rfl) a8 (by kernel_rfl) (by decide) ?_
        refine⟨_,fun H=>j5.A9 j2.l2 K1 a8 (.t a8) a8,?_⟩
        refine⟨_,fun H=>j5.S1 (fun x=>x.p3) I6 (.t a8) (y4.app .z) (fun _=>a8) a8,?_⟩
        refine⟨_,fun H=>j5.move (.t a8) a8,?_⟩
        refine .inl (.inl (.inl (.inl (.inl ?_))))
        refine⟨_,fun H=>j5.A9 j2.l3 K2 a8 (.t a8) a8,?_⟩
        refine⟨⟨([],j1 [c8,c8,_]),a8⟩,?_⟩
        refine B3.a4I hG (F6 _ _ _ (by first|assumption|exact y3 _) (by first|omega|(simp;done)|(simp;omega)|(simp at *;omega)) (by first|omega|(simp;done)|(simp;omega)|(simp at *;omega))) .z2 (.cons (.t rfl) (.cons (.i rfl) .nil)) (by rintro _ _ ⟨_,_,_,_,_,_,rfl⟩;exact⟨_,rfl⟩) fun r64 B64 hr64 => ?_
        obtain⟨v64,d64,h064,h164,hd64,rfl,hB⟩:=hr64
        cases hB
        refine⟨⟨([],j1 [c8,c8,_]),a8⟩,?_⟩
        refine B3.ofP (j5.add (.t rfl) (.t rfl) (by first|omega|(simp;done)|(simp;omega)|(simp at *;omega)) (by first|omega|(simp;done)|(simp;omega)|(simp at *;omega)) ?_)
        refine⟨⟨([],j1 [c8,c8,_]),a8⟩,?_⟩
        refine B3.ofP (j5.add (.t rfl) (.i rfl) (by first|omega|(simp;done)|(simp;omega)|(simp at *;omega)) (by first|omega|(simp;done)|(simp;omega)|(simp at *;omega)) ?_)
        refine⟨⟨([],j1 [c8,c8,_]),a8⟩,?_⟩
        refine B3.ofP (j5.sub (.t rfl) (.i rfl) (by first|omega|(simp;done)|(simp;omega)|(simp at *;omega)) (by first|omega|(simp;done)|(simp;omega)|(simp at *;omega)) ?_)
        refine⟨⟨([],j1 [c8,c8,_]),a8⟩,?_⟩
        refine B3.ofP (j5.rem (.t rfl) (.i rfl) (by first|omega|(simp;done)|(simp;omega)|(simp at *;omega)) (by first|omega|(simp;done)|(simp;omega)|(simp at *;omega)) ?_)
        refine⟨⟨([],j1 [c8,c8,_]),a8⟩,?_⟩
        show D1 _ _ _ _ _ [_] ((69,_)::(68,_)::(67,_)::(66,_)::(65,_)::(64,_)::(63,_)::(62,_)::(61,_)::_) _
        refine .q 8 hG ?_
        refine⟨_,.r1 a8 (.cell R3 a8 .z1),?_⟩
        refine⟨_,.cons .z2 (.nil),?_⟩
        first|(exfalso;(try dsimp only at *);omega)|exact⟨⟨4,0,min v39 v41,max v39 v41,⟨[]⟩,0⟩,H4 (by omega) (by omega) (by omega),fun _=>(show(4:Int)≠7 by decide),_,by assumption,rfl,rfl⟩|(obtain rfl:v9=1:=(by assumption);exact⟨_,D9 (Or.inl rfl) (by assumption),fun _=>(show(1:Int)≠7 by decide),_,by assumption,rfl,rfl⟩)|(obtain rfl:v9=2:=(by assumption);exact⟨_,D9 (Or.inr (Or.inl rfl)) (by assumption),fun _=>(show(2:Int)≠7 by decide),_,by assumption,rfl,rfl⟩)|(obtain rfl:v9=3:=(by assumption);exact⟨_,D9 (Or.inr (Or.inr rfl)) (by assumption),fun _=>(show(3:Int)≠7 by decide),_,by assumption,rfl,rfl⟩)|(obtain rfl:v9=4:=(by assumption);exact⟨⟨4,0,min v39 v41,max v39 v41,⟨[]⟩,0⟩,H4 (by omega) (by omega) (by omega),fun _=>(show(4:Int)≠7 by decide),_,by assumption,rfl,rfl⟩)|(obtain rfl:v9=5:=(by assumption);exact⟨⟨5,0,v53,v55,⟨[]⟩,0⟩,J8 (by omega) (by omega) (by omega) (by omega),fun _=>(show(5:Int)≠7 by decide),_,by assumption,rfl,rfl⟩)|(obtain rfl:v9=5:=(by assumption);exact⟨⟨5,0,v53,(v53+v64+1440 - 1) % 1440,⟨[]⟩,0⟩,J8 (by omega) (by omega) (by omega) (by omega),fun _=>(show(5:Int)≠7 by decide),_,by assumption,rfl,rfl⟩)|(obtain rfl:v9=6:=(by assumption);exact⟨_,O5 (by assumption),fun _=>(show(6:Int)≠7 by decide),_,by assumption,rfl,rfl⟩)|(obtain rfl:v9=7:=(by assumption);exact⟨⟨7,0,0,0,⟨[]⟩,v78⟩,K7 (by omega) (by omega),fun h=>(by subst h;simp at hc17),_,by assumption,rfl,rfl⟩)
       ·refine .q 7 hG ?_
        refine⟨_,.r1 a8 (.cell R3 a8 .z1),?_⟩
        refine⟨_,.cons .z2 (.nil),?_⟩
        first|(exfalso;(try dsimp only at *);omega)|exact⟨⟨4,0,min v39 v41,max v39 v41,⟨[]⟩,0⟩,H4 (by omega) (by omega) (by omega),fun _=>(show(4:Int)≠7 by decide),_,by assumption,rfl,rfl⟩|(obtain rfl:v9=1:=(by assumption);exact⟨_,D9 (Or.inl rfl) (by assumption),fun _=>(show(1:Int)≠7 by decide),_,by assumption,rfl,rfl⟩)|(obtain rfl:v9=2:=(by assumption);exact⟨_,D9 (Or.inr (Or.inl rfl)) (by assumption),fun _=>(show(2:Int)≠7 by decide),_,by assumption,rfl,rfl⟩)|(obtain rfl:v9=3:=(by assumption);exact⟨_,D9 (Or.inr (Or.inr rfl)) (by assumption),fun _=>(show(3:Int)≠7 by decide),_,by assumption,rfl,rfl⟩)|(obtain rfl:v9=4:=(by assumption);exact⟨⟨4,0,min v39 v41,max v39 v41,⟨[]⟩,0⟩,H4 (by omega) (by omega) (by omega),fun _=>(show(4:Int)≠7 by decide),_,by assumption,rfl,rfl⟩)|(obtain rfl:v9=5:=(by assumption);exact⟨⟨5,0,v53,v55,⟨[]⟩,0⟩,J8 (by omega) (by omega) (by omega) (by omega),fun _=>(show(5:Int)≠7 by decide),_,by assumption,rfl,rfl⟩)|(obtain rfl:v9=5:=(by assumption);exact⟨⟨5,0,v53,(v53+v64+1440 - 1) % 1440,⟨[]⟩,0⟩,J8 (by omega) (by omega) (by omega) (by omega),fun _=>(show(5:Int)≠7 by decide),_,by assumption,rfl,rfl⟩)|(obtain rfl:v9=6:=(by assumption);exact⟨_,O5 (by assumption),fun _=>(show(6:Int)≠7 by decide),_,by assumption,rfl,rfl⟩)|(obtain rfl:v9=7:=(by assumption);exact⟨⟨7,0,0,0,⟨[]⟩,v78⟩,K7 (by omega) (by omega),fun h=>(by subst h;simp at hc17),_,by assumption,rfl,rfl⟩)
      ·refine .q 6 hG ⟨fun hc70 => ?_,fun hc70 => ?_⟩
       ·refine .q 2 hG ?_
        refine .km hG (b3k _ _ (by assumption)) .z2 (by rintro _ _ ⟨_,_,_,_,_,rfl⟩;exact⟨_,rfl⟩) fun r73 B73 hr73 => ?_
        obtain⟨s73,hs73,d73,hd73,rfl,hB⟩:=hr73
        cases hB
        refine .q 9 hG ?_
        refine⟨_,.r1 a8 (.cell R3 a8 .z1),?_⟩
        refine⟨_,.cons .z2 (.nil),?_⟩
        first|(exfalso;(try dsimp only at *);omega)|exact⟨⟨4,0,min v39 v41,max v39 v41,⟨[]⟩,0⟩,H4 (by omega) (by omega) (by omega),fun _=>(show(4:Int)≠7 by decide),_,by assumption,rfl,rfl⟩|(obtain rfl:v9=1:=(by assumption);exact⟨_,D9 (Or.inl rfl) (by assumption),fun _=>(show(1:Int)≠7 by decide),_,by assumption,rfl,rfl⟩)|(obtain rfl:v9=2:=(by assumption);exact⟨_,D9 (Or.inr (Or.inl rfl)) (by assumption),fun _=>(show(2:Int)≠7 by decide),_,by assumption,rfl,rfl⟩)|(obtain rfl:v9=3:=(by assumption);exact⟨_,D9 (Or.inr (Or.inr rfl)) (by assumption),fun _=>(show(3:Int)≠7 by decide),_,by assumption,rfl,rfl⟩)|(obtain rfl:v9=4:=(by assumption);exact⟨⟨4,0,min v39 v41,max v39 v41,⟨[]⟩,0⟩,H4 (by omega) (by omega) (by omega),fun _=>(show(4:Int)≠7 by decide),_,by assumption,rfl,rfl⟩)|(obtain rfl:v9=5:=(by assumption);exact⟨⟨5,0,v53,v55,⟨[]⟩,0⟩,J8 (by omega) (by omega) (by omega) (by omega),fun _=>(show(5:Int)≠7 by decide),_,by assumption,rfl,rfl⟩)|(obtain rfl:v9=5:=(by assumption);exact⟨⟨5,0,v53,(v53+v64+1440 - 1) % 1440,⟨[]⟩,0⟩,J8 (by omega) (by omega) (by omega) (by omega),fun _=>(show(5:Int)≠7 by decide),_,by assumption,rfl,rfl⟩)|(obtain rfl:v9=6:=(by assumption);exact⟨_,O5 (by assumption),fun _=>(show(6:Int)≠7 by decide),_,by assumption,rfl,rfl⟩)|(obtain rfl:v9=7:=(by assumption);exact⟨⟨7,0,0,0,⟨[]⟩,v78⟩,K7 (by omega) (by omega),fun h=>(by subst h;simp at hc17),_,by assumption,rfl,rfl⟩)
       ·refine .q 6 hG ⟨fun hc75 => ?_,fun hc75 => ?_⟩
        ·refine .q 2 hG ?_
         refine .km hG (c2f _ _ _ (by assumption) (by decide) (by decide)) .z2 (by rintro _ _ ⟨_,_,_,_,_,_,rfl⟩;exact⟨_,rfl⟩) fun r78 B78 hr78 => ?_
         obtain⟨v78,h078,h178,d78,hd78,rfl,hB⟩:=hr78
         cases hB
         refine .q 9 hG ?_
         refine⟨_,.r1 a8 (.cell R3 a8 .z1),?_⟩
         refine⟨_,.cons .z2 (.nil),?_⟩
         first|(exfalso;(try dsimp only at *);omega)|exact⟨⟨4,0,min v39 v41,max v39 v41,⟨[]⟩,0⟩,H4 (by omega) (by omega) (by omega),fun _=>(show(4:Int)≠7 by decide),_,by assumption,rfl,rfl⟩|(obtain rfl:v9=1:=(by assumption);exact⟨_,D9 (Or.inl rfl) (by assumption),fun _=>(show(1:Int)≠7 by decide),_,by assumption,rfl,rfl⟩)|(obtain rfl:v9=2:=(by assumption);exact⟨_,D9 (Or.inr (Or.inl rfl)) (by assumption),fun _=>(show(2:Int)≠7 by decide),_,by assumption,rfl,rfl⟩)|(obtain rfl:v9=3:=(by assumption);exact⟨_,D9 (Or.inr (Or.inr rfl)) (by assumption),fun _=>(show(3:Int)≠7 by decide),_,by assumption,rfl,rfl⟩)|(obtain rfl:v9=4:=(by assumption);exact⟨⟨4,0,min v39 v41,max v39 v41,⟨[]⟩,0⟩,H4 (by omega) (by omega) (by omega),fun _=>(show(4:Int)≠7 by decide),_,by assumption,rfl,rfl⟩)|(obtain rfl:v9=5:=(by assumption);exact⟨⟨5,0,v53,v55,⟨[]⟩,0⟩,J8 (by omega) (by omega) (by omega) (by omega),fun _=>(show(5:Int)≠7 by decide),_,by assumption,rfl,rfl⟩)|(obtain rfl:v9=5:=(by assumption);exact⟨⟨5,0,v53,(v53+v64+1440 - 1) % 1440,⟨[]⟩,0⟩,J8 (by omega) (by omega) (by omega) (by omega),fun _=>(show(5:Int)≠7 by decide),_,by assumption,rfl,rfl⟩)|(obtain rfl:v9=6:=(by assumption);exact⟨_,O5 (by assumption),fun _=>(show(6:Int)≠7 by decide),_,by assumption,rfl,rfl⟩)|(obtain rfl:v9=7:=(by assumption);exact⟨⟨7,0,0,0,⟨[]⟩,v78⟩,K7 (by omega) (by omega),fun h=>(by subst h;simp at hc17),_,by assumption,rfl,rfl⟩)
        ·refine .q 7 hG ?_
         refine⟨_,.r1 a8 (.cell R3 a8 .z1),?_⟩
         refine⟨_,.cons .z2 (.nil),?_⟩
         first|(exfalso;(try dsimp only at *);omega)|exact⟨⟨4,0,min v39 v41,max v39 v41,⟨[]⟩,0⟩,H4 (by omega) (by omega) (by omega),fun _=>(show(4:Int)≠7 by decide),_,by assumption,rfl,rfl⟩|(obtain rfl:v9=1:=(by assumption);exact⟨_,D9 (Or.inl rfl) (by assumption),fun _=>(show(1:Int)≠7 by decide),_,by assumption,rfl,rfl⟩)|(obtain rfl:v9=2:=(by assumption);exact⟨_,D9 (Or.inr (Or.inl rfl)) (by assumption),fun _=>(show(2:Int)≠7 by decide),_,by assumption,rfl,rfl⟩)|(obtain rfl:v9=3:=(by assumption);exact⟨_,D9 (Or.inr (Or.inr rfl)) (by assumption),fun _=>(show(3:Int)≠7 by decide),_,by assumption,rfl,rfl⟩)|(obtain rfl:v9=4:=(by assumption);exact⟨⟨4,0,min v39 v41,max v39 v41,⟨[]⟩,0⟩,H4 (by omega) (by omega) (by omega),fun _=>(show(4:Int)≠7 by decide),_,by assumption,rfl,rfl⟩)|(obtain rfl:v9=5:=(by assumption);exact⟨⟨5,0,v53,v55,⟨[]⟩,0⟩,J8 (by omega) (by omega) (by omega) (by omega),fun _=>(show(5:Int)≠7 by decide),_,by assumption,rfl,rfl⟩)|(obtain rfl:v9=5:=(by assumption);exact⟨⟨5,0,v53,(v53+v64+1440 - 1) % 1440,⟨[]⟩,0⟩,J8 (by omega) (by omega) (by omega) (by omega),fun _=>(show(5:Int)≠7 by decide),_,by assumption,rfl,rfl⟩)|(obtain rfl:v9=6:=(by assumption);exact⟨_,O5 (by assumption),fun _=>(show(6:Int)≠7 by decide),_,by assumption,rfl,rfl⟩)|(obtain rfl:v9=7:=(by assumption);exact⟨⟨7,0,0,0,⟨[]⟩,v78⟩,K7 (by omega) (by omega),fun h=>(by subst h;simp at hc17),_,by assumption,rfl,rfl⟩)
end Go.Proofs.YtalibdhdngbbcaaGreatDoor
