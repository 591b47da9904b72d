/- Plain Lean over any program, and walks of this seat's functions: contracts, each proved once (part 4). -/
import Derived.Test.YtfkbejimghamkaaGreatDoorZ3
import Derived.Shelf.Strings.Builder1
set_option maxRecDepth 1000000
set_option synthInstance.maxSize 1000000
set_option synthInstance.maxHeartbeats 10000000
set_option linter.unusedVariables false
set_option linter.unusedSimpArgs false
namespace Go.Proofs.YtfkbejimghamkaaGreatDoor
open Go.Proofs.Tryz
open Go.Fl Go.Ab Go.Mac Go.Sha Go.Lib
theorem a6X (n:Int) (l:List UInt8):a1U n l=(M8 l&&(decide (0≤G7 l)&&decide (G7 l < n))):=by
 unfold a1U M8 G7
 cases atoiAll l<;>rfl
theorem b0K (l:List Nat) (i:Nat):orL (l ++ [i])=orL l ||| (1 <<< UInt64.ofNat i):=by unfold orL;rw [List.foldl_append];rfl
theorem a9s {l:List (List UInt8)} {n:Int} {k:Nat} (hk:k < l.length) (h:a1U n l[k]=false):a3n l n=0:=by
 unfold a3n
 rw [if_neg]
 intro e
 have:=List.all_eq_true.1 e l[k] (List.getElem_mem hk)
 rw [h] at this;cases this
theorem a6c {c:UInt8} {l:List UInt8} {k:Nat} (hk:k < (A0 c l).length):(A0 c l)[k].length≤l.length:=Z9 c l _ (List.getElem_mem hk)
theorem b0L {n:Int} {l:List UInt8} (h:(!M8 l||decide (G7 l < 0)||decide (n≤G7 l))=true):a1U n l=false:=by
 rw [a6X]
 simp only [Bool.or_eq_true,Bool.not_eq_true',decide_eq_true_eq] at h
 rcases h with (h|h)|h
 ·rw [h];rfl
 ·rw [decide_eq_false (show ¬0≤G7 l by omega)];simp
 ·rw [decide_eq_false (show ¬G7 l < n by omega)];simp
theorem a9t {n:Int} {l:List UInt8} (h:(!M8 l||decide (G7 l < 0)||decide (n≤G7 l))=false):a1U n l=true∧0≤G7 l∧G7 l < n:=by
 simp only [Bool.or_eq_false_iff,Bool.not_eq_false',decide_eq_false_iff_not] at h
 rw [a6X,h.1.1,decide_eq_true (show 0≤G7 l by omega),decide_eq_true (show G7 l < n by omega)]
 exact⟨rfl,by omega,by omega⟩
theorem a9u {l:List (List UInt8)} {n:Int} (h:l.all (a1U n)=true):a3n l n=orL (l.map fun x=>(G7 x).toNat):=by unfold a3n;rw [if_pos h]
theorem b1S (l:List (List UInt8)) (k:Nat) (h:k < l.length):orL ((l.take (k+1)).map fun x=>(G7 x).toNat)=orL ((l.take k).map fun x=>(G7 x).toNat) ||| (1 <<< UInt64.ofNat (G7 l[k]).toNat):=by
 rw [List.take_succ_eq_append_getElem h,List.map_append];exact b0K _ _
theorem a8c (s:u0) (n:Int) (hn0:0≤n) (hn:n≤64) (hs:s.l.length≤20000):y6 gl prog 94 [.v s,.v n] (fun r=>r = .v (a3n (A0 44 s.l) n)):=by
 have hcnt:=X4 44 s.l
 refine y6.jn func94 (by kernel_rfl) 39 rfl fun C hC hG => ?_
 refine .q 10 hG ?_
 have hmap:((A0 44 s.l).map u0.mk).length=(A0 44 s.l).length:=List.length_map _
 refine .q 2 hG ?_
 refine .p (.A4 hG (a4j _ _ (by first|omega|(simp;done)|(simp;omega)|(simp at *;omega))) (.cons (.t a8) (.cons (.s [44] (by decide) (by decide)) .nil)) ?_)
 refine .q 4 hG ?_
 refine .C2 (α:=Nat) [(1,_),(11,_),(12,_)] (fun k R=>(5,.v (orL (((A0 44 s.l).take k).map fun x=>(G7 x).toNat)))::(13,.v (k:Int))::R) (fun k => []) (fun k=>k≤(A0 44 s.l).length∧((A0 44 s.l).take k).all (a1U n)=true) (fun k=>(A0 44 s.l).length - k) (0) (.c2 a8 a8 (.cons a8 (.nil _))) ?_ (.c2 a8 a8 (.c2 a8 a8 (.cons a8 (.nil _)))) (a8) fun k hF => ?_
 ·simp
 obtain⟨h1,h2⟩:=hF
 refine .q 6 hG ⟨fun hc14 => ?_,fun hc14 => ?_⟩
 ·refine .q 5 hG ?_
  refine .ix (by first|omega|(simp;done)|(simp;omega)|(simp at *;omega)) (by first|omega|(simp;done)|(simp;omega)|(simp at *;omega)) ?_
  simp only [List.getElem_map,Int.toNat_natCast]
  have hsk:=a6c (c:=44) (l:=s.l) (k:=k) (by omega)
  refine .q 6 hG ?_
  refine .k hG (V4 _ (by first|omega|(simp;done)|(simp;omega)|(simp at *;omega))) ?_
  refine .q 10 hG ?_
  refine .p (.b0v underlying64 (.t a8) ?_)
  refine .q 10 hG ?_
  refine .cond (.t a8) (fun hc32 => ?_) (fun hc32 => ?_)
  ·refine .q 5 hG ?_
   refine .e1 a8 a8 ?_
   exact congrArg AV.v (a9s (k:=k) (by omega) (b0L hc32)).symm
  ·refine .q 1 hG ?_
   obtain⟨hy1,hy2,hy3⟩:=a9t hc32
   refine .q 3 hG ?_
   refine .p (.b3n (.u64 1 a8) (.t a8) (by first|omega|(simp;done)|(simp;omega)|(simp at *;omega)) (by first|omega|(simp;done)|(simp;omega)|(simp at *;omega)) ?_)
   refine .q 4 hG ?_
   refine .ad (by first|omega|(simp;done)|(simp;omega)|(simp at *;omega)) (by first|omega|(simp;done)|(simp;omega)|(simp at *;omega)) ?_
   refine .q 2 hG ?_
   refine⟨k+1,.cons (congrArg (fun q=>some (AV.v q)) (b1S _ k (by omega)).symm) (.c2 rfl rfl (.c2 rfl rfl (.nil _))),rfl,?_,by omega⟩
   exact⟨by omega,by rw [all_succ _ _ _ (by omega),h2];exact hy1⟩
 ·refine .q 7 hG ?_
  refine .e1 a8 a8 ?_
  rw [List.take_of_length_le (by omega)] at h2 ⊢
  rw [a9u h2]
theorem a8d (k:Int) (s:u0) (hk:1≤k∧k≤7) (hs:s.l.length≤20000):y6 gl prog 79 [.v k,.v s] (fun r=>r = .v (a1q k s.l)):=by
 have hcut:=Q5 45 s.l
 refine y6.jn func79 (by kernel_rfl) 52 rfl fun C hC hG => ?_
 refine .q 3 hG fun b4 => ?_
 refine .q 4 hG ?_
 refine .p (.bS1 j3.l0 a8 E6 a0B (fun c0=>(⟨c0,0,0,0,⟨[]⟩,0⟩:j3)) (fun _=>a8) a8 a8 (.t a8) ?_)
 refine .q 1 hG fun b5 => ?_
 refine .q 15 hG ⟨fun hc18 => ?_,fun hc18 => ?_⟩
 ·refine .q 2 hG ⟨fun hc18y => ?_,fun y=>absurd hc18 y⟩
  refine .q 3 hG ?_
  refine .p (.A4 hG (a4i _ _ (by first|omega|(simp;done)|(simp;omega)|(simp at *;omega))) (.cons (.t a8) (.cons (.s [45] (by decide) (by decide)) .nil)) ?_)
  refine .q 11 hG ?_
  refine .k hG (V4 _ (by first|omega|(simp;done)|(simp;omega)|(simp at *;omega))) ?_
  refine .q 8 hG ?_
  refine .k hG (V4 _ (by first|omega|(simp;done)|(simp;omega)|(simp at *;omega))) ?_
  refine .q 12 hG ?_
  refine⟨_,.r1 a8 (.cell E6 a8 .z1),?_⟩
  first|(exfalso;omega)|(unfold a1q;(repeat (first|rw [if_pos (by omega)]|rw [if_neg (by omega)]));try rfl)
 ·refine .q 5 hG ⟨fun hc18 => ?_,fun hc18 => ?_⟩
  ·refine .q 3 hG ?_
   refine .p (.A4 hG (a4i _ _ (by first|omega|(simp;done)|(simp;omega)|(simp at *;omega))) (.cons (.t a8) (.cons (.s [45] (by decide) (by decide)) .nil)) ?_)
   refine .q 11 hG ?_
   refine .k hG (V4 _ (by first|omega|(simp;done)|(simp;omega)|(simp at *;omega))) ?_
   refine .q 8 hG ?_
   refine .k hG (V4 _ (by first|omega|(simp;done)|(simp;omega)|(simp at *;omega))) ?_
   refine .q 12 hG ?_
   refine⟨_,.r1 a8 (.cell E6 a8 .z1),?_⟩
   first|(exfalso;omega)|(unfold a1q;(repeat (first|rw [if_pos (by omega)]|rw [if_neg (by omega)]));try rfl)
  ·refine .q 6 hG ⟨fun hc39 => ?_,fun hc39 => ?_⟩
   ·refine .q 11 hG ?_
    refine⟨_,.r1 a8 (.cell E6 a8 .z1),?_⟩
    first|(exfalso;omega)|(unfold a1q;(repeat (first|rw [if_pos (by omega)]|rw [if_neg (by omega)]));try rfl)
   ·refine .q 6 hG ⟨fun hc43 => ?_,fun hc43 => ?_⟩
    ·refine .q 2 hG ?_
     refine .k hG (V4 _ (by first|omega|(simp;done)|(simp;omega)|(simp at *;omega))) ?_
     refine .q 12 hG ?_
     refine⟨_,.r1 a8 (.cell E6 a8 .z1),?_⟩
     first|(exfalso;omega)|(unfold a1q;(repeat (first|rw [if_pos (by omega)]|rw [if_neg (by omega)]));try rfl)
    ·refine .q 3 hG ?_
     refine .p (.a35 a6r (.a34 hG K0) (.t a8) (by first|omega|(simp;done)|(simp;omega)|(simp at *;omega)) (by first|omega|(simp;done)|(simp;omega)|(simp at *;omega)) ?_)
     rw [I1 k (by omega)]
     have hbn:0≤A1 k∧A1 k≤64:=(by have h3:k=1∨k=2∨k=3:=(by omega);rcases h3 with e|e|e<;>rw [e]<;>decide)
     refine .q 1 hG ?_
     refine .p (.A4 hG (a8c _ _ (by first|omega|(simp;done)|(simp;omega)|(simp at *;omega)) (by first|omega|(simp;done)|(simp;omega)|(simp at *;omega)) (by first|omega|(simp;done)|(simp;omega)|(simp at *;omega))) (.cons (.t a8) (.cons (.t a8) .nil)) ?_)
     refine .q 9 hG ?_
     refine⟨_,.r1 a8 (.cell E6 a8 .z1),?_⟩
     first|(exfalso;omega)|(unfold a1q;(repeat (first|rw [if_pos (by omega)]|rw [if_neg (by omega)]));try rfl)
theorem a8V {q:Pred} {s:u0} (h:(decide ((a03 q).2=0)&&decide ((a03 q).1=s))=true):p8 q=true∧D3 q=s.l:=by
 simp only [Bool.and_eq_true,decide_eq_true_eq] at h
 by_cases hq:p8 q=true
 ·rw [u6 hq] at h;exact⟨hq,congrArg u0.l h.2⟩
 ·rw [D9 hq] at h;exact absurd h.1 (by decide)
theorem a6Y {q:Pred} {s:u0} (hq:p8 q=true) (h:D3 q=s.l):(decide ((a03 q).2=0)&&decide ((a03 q).1=s))=true:=by
 have e:(⟨D3 q⟩:u0)=s:=by cases s;exact congrArg u0.mk h
 rw [u6 hq,e];simp
theorem a8e {p:Pred} {s:u0} (h:D3 p=s.l):y2 32 s.l=(O3 p.Kind,R7 p,true):=h▸a4d p
theorem a3p (s:u0) (hs:s.l.length≤20000):y6 gl prog 50 [.v s] (fun r=>r = .t2 (.v (a1K s 8).1) (.v (a1K s 8).2)):=by
 have hcut:=Q5 32 s.l
 refine y6.jn func50 (by kernel_rfl) 43 rfl fun C hC hG => ?_
 refine .q 3 hG fun b2 => ?_
 refine .q 5 hG ?_
 refine .p (.A4 hG (a4i _ _ (by first|omega|(simp;done)|(simp;omega)|(simp at *;omega))) (.cons (.t a8) (.cons (.s [32] (by decide) (by decide)) .nil)) ?_)
 refine .q 14 hG ?_
 refine .C2 (α:=Nat) [(0,_),(2,_),(4,_),(5,_)] (fun k R=>(7,.v (k:Int))::R) (fun k => [(true,.ob (ptr b2 0) (default:Pred))]) (fun k=>1≤k∧k≤8∧∀ p,p8 p=true→D3 p=s.l→(k:Int)≤p.Kind) (fun k=>8 - k) (1) (.c2 a8 a8 (.c2 a8 a8 (.nil _))) ?_ (.c2 a8 a8 (.c2 a8 a8 (.cons a8 (.nil _)))) (a8) fun k hF => ?_
 ·exact⟨by omega,by omega,fun p hp _=>(V3 hp).1⟩
 obtain⟨h1,h2,h3⟩:=hF
 refine .q 7 hG ⟨fun hc18 => ?_,fun hc18 => ?_⟩
 ·refine .q 7 hG ?_
  refine .p (.a35 a4V (.a34 hG G9) (.t a8) (by first|omega|(simp;done)|(simp;omega)|(simp at *;omega)) (by first|omega|(simp;done)|(simp;omega)|(simp at *;omega)) ?_)
  rw [a0b (k:Int) (by omega)]
  refine .q 5 hG ⟨fun hc25 => ?_,fun hc25 => ?_⟩
  ·refine .q 3 hG ?_
   refine .ad (by first|omega|(simp;done)|(simp;omega)|(simp at *;omega)) (by first|omega|(simp;done)|(simp;omega)|(simp at *;omega)) ?_
   refine .q 2 hG ?_
   refine⟨k+1,.c2 rfl rfl (.c2 rfl rfl (.cons rfl (.nil _))),rfl,?_,by omega⟩
   exact⟨by omega,by omega,fun p hp ht=>by have h5:=h3 p hp ht;have h6:=a8e ht;have h7:p.Kind≠k:=fun e=>hc25 (by rw [h6,e]);omega⟩
  ·refine .q 5 hG ?_
   refine .p (.A4 hG (a8d _ _ (by first|omega|(simp;done)|(simp;omega)|(simp at *;omega)) (by first|omega|(simp;done)|(simp;omega)|(simp at *;omega))) (.cons (.t a8) (.cons (.t a8) .nil)) ?_)
   refine .q 1 hG fun b8 => ?_
   refine .q 5 hG ?_
   refine .k hG (a5c _) ?_
   refine .q 16 hG ?_
   refine .cond (.t a8) (fun hc40 => ?_) (fun hc40 => ?_)
   ·refine .q 7 hG ?_
    refine⟨_,.r2 a8 (.cell E6 a8 .z1) (.tmp a8),?_⟩
    obtain⟨hq1,hq2⟩:=a8V hc40
    rw [a50 hq1 hq2]
   ·refine .q 1 hG ?_
    refine .drop ?_
    refine .q 2 hG ?_
    refine .ad (by first|omega|(simp;done)|(simp;omega)|(simp at *;omega)) (by first|omega|(simp;done)|(simp;omega)|(simp at *;omega)) ?_
    refine .q 2 hG ?_
    refine⟨k+1,.c2 rfl rfl (.c2 rfl rfl (.cons rfl (.nil _))),rfl,?_,by omega⟩
    exact⟨by omega,by omega,fun p hp ht=>by have h5:=h3 p hp ht;have h6:=a8e ht;have h7:p.Kind≠k:=fun e=>(by rw [h6,←e] at hc40;dsimp only at hc40;rw [a1E hp,a6Y hp ht] at hc40;cases hc40);omega⟩
 ·refine .q 3 hG ?_
  refine .p (.bS0 (α:=j3) a8 E6 a0B ?_)
  refine .q 4 hG ?_
  refine⟨_,.r2 a8 (.cell E6 a8 .z) (.tmp a8),?_⟩
  rw [a8N fun p hp ht=>by have h5:=h3 p hp ht;have h6:=V3 hp;omega]
theorem a8W (c:UInt8):∀ (l:List UInt8) (k:Nat) (hk:k < l.length),(∀ j (hj:j < l.length),j < k→l[j]≠c)→l[k]=c→y2 c l=(l.take k,l.drop (k+1),true)
 | [],k,hk,_,_=>absurd hk (Nat.not_lt_zero _)
 | x::l,0,_,_,h=>by
  have h:x=c:=h
  rw [y2,if_pos h];rfl
 | x::l,k+1,hk,hn,h=>by
  have h0:x≠c:=hn 0 (by simp) (by omega)
  have ih:=a8W c l k (by simpa using hk) (fun j hj hjk=>hn (j+1) (by simpa using hj) (by omega)) h
  rw [y2,if_neg h0,ih];rfl
theorem a1t (s:u0) (c:UInt8):y6 gl prog 23 [.v s,.v c] (fun r=>r = .t3 (.v (u0.mk (y2 c s.l).1)) (.v (u0.mk (y2 c s.l).2.1)) (.v (y2 c s.l).2.2)):=by
 refine y6.jn func23 (by kernel_rfl) 27 rfl fun C hC hG => ?_
 refine .q 8 hG ?_
 refine .a3g 0 a8 fun hs => ?_
 refine .q 4 hG ?_
 refine .C2 (α:=Nat) [(0,_),(1,_)] (fun k R=>(7,.v (k:Int))::R) (fun k => []) (fun k=>k≤s.l.length∧∀ j (hj:j < s.l.length),j < k→s.l[j]≠c) (fun k=>s.l.length - k) (0) (.c2 a8 a8 (.nil _)) ?_ (.c2 a8 a8 (.cons a8 (.nil _))) (a8) fun k hF => ?_
 ·simp
 obtain⟨h1,h2⟩:=hF
 refine .q 9 hG ⟨fun hc11 => ?_,fun hc11 => ?_⟩
 ·refine .q 7 hG ?_
  refine .p (.a1j underlying9 (.t a8) (.t a8) (by first|omega|(simp;done)|(simp;omega)|(simp at *;omega)) (by first|omega|(simp;done)|(simp;omega)|(simp at *;omega)) ?_)
  refine .q 4 hG ⟨fun hc18 => ?_,fun hc18 => ?_⟩
  ·refine .q 1 hG ?_
   refine .draw (by kernel_rfl) 10 [[],[],[(19,0),(20,1)],[],[],[(23,4)],[(22,3),(24,5)],[(21,2)],[(25,6)],[]] a8 (by kernel_rfl) a8 ?_
   refine⟨_,j7.move (.t a8) a8,?_⟩
   refine⟨_,j7.move (.t a8) a8,?_⟩
   refine⟨_,j7.a0Z underlying9 (.t a8) (.t a8) (by first|omega|(simp;done)|(simp;omega)|(simp at *;omega)) (by first|omega|(simp;done)|(simp;omega)|(simp at *;omega)) a8,?_⟩
   refine⟨_,j7.move (.t a8) a8,?_⟩
   refine⟨_,j7.move (.t a8) a8,?_⟩
   refine⟨_,j7.add (.t a8) (.i a8) (by first|omega|(simp;done)|(simp;omega)|(simp at *;omega)) (by first|omega|(simp;done)|(simp;omega)|(simp at *;omega)) a8,?_⟩
   refine⟨_,j7.a0Y underlying9 (.t a8) (.t a8) (by first|omega|(simp;done)|(simp;omega)|(simp at *;omega)) (by first|omega|(simp;done)|(simp;omega)|(simp at *;omega)) a8,?_⟩
   refine⟨_,j7.assign (.t a8) a8,?_⟩
   refine⟨_,j7.assign (.t a8) a8,?_⟩
   refine⟨_,j7.assign .b a8,?_⟩
   show C4 _ _ _ _ _ [] ((6,_)::(5,_)::(4,_)::(25,_)::(24,_)::(23,_)::(22,_)::(21,_)::(20,_)::(19,_)::_) _
   refine .q 2 hG ?_
   refine⟨_,.r3 a8 (.tmp a8) (.tmp a8) (.tmp a8),?_⟩
   rw [a8W c s.l k (by omega) h2 hc18];rfl
  ·refine .q 3 hG ?_
   refine .ad (by first|omega|(simp;done)|(simp;omega)|(simp at *;omega)) (by first|omega|(simp;done)|(simp;omega)|(simp at *;omega)) ?_
   refine .q 2 hG ?_
   refine⟨k+1,.c2 rfl rfl (.cons rfl (.nil _)),rfl,?_,by omega⟩
   refine⟨by omega,fun j hj hjk => ?_⟩;rcases Nat.lt_or_ge j k with h|h;exact h2 j hj h;(obtain rfl:j=k:=by omega);exact hc18
 ·refine .q 9 hG ?_
  refine⟨_,.r3 a8 (.tmp a8) (.tmp a8) (.tmp a8),?_⟩
  rw [a5r fun x hx=>by obtain⟨j,hj,rfl⟩:=List.getElem_of_mem hx;exact h2 j hj (by omega)]
def a0u (l:List UInt8):Nat:=l.foldl (fun n c=>10*n+(c.toNat - 48)) 0
theorem a1u (l:List UInt8) (c:UInt8):a0u (l ++ [c])=10*a0u l+(c.toNat - 48):=by unfold a0u;rw [List.foldl_append];rfl
theorem a8f:∀ n,a0u (decDigits n)=n:=a5p (fun n h=>by rw [O0,if_pos h];show 10*0+((UInt8.ofNat (48+n)).toNat - 48)=n;rw [a1e h];omega)
 fun n h ih=>by rw [O0,if_neg (by omega),a1u,ih,a1e (by omega)];omega
theorem a5e:∀ (k:Nat) (l:List UInt8),l.length=k→l.all digit=true→a0u l < 10^k:=by
 intro k
 induction k with
 | zero=>intro l h _;rw [List.length_eq_zero_iff.1 h];decide
 | succ k ih =>
  intro l h ha
  have e:l=l.take k ++ [l[k]]:=by rw [←List.take_succ_eq_append_getElem (by omega),List.take_of_length_le (by omega)]
  rw [e,List.all_append,Bool.and_eq_true] at ha
  have h1:=ih (l.take k) (by simp;omega) ha.1
  have h2:digit l[k]=true:=by simpa using ha.2
  simp only [digit,Bool.and_eq_true,decide_eq_true_eq,UInt8.le_iff_toNat_le] at h2
  have h3:l[k].toNat≤57:=h2.2
  rw [e,a1u,Nat.pow_succ];omega
def L3 (l:List UInt8):Int:=if l = []∨15 < l.length then -1 else if l.all digit=true then (a0u l:Int) else -1
theorem a0M {n:Nat} (h:n < 1000000000000000):L3 (decDigits n)=n:=by
 have h1:=S6 (k:=15) n (by omega)
 unfold L3;rw [if_neg (by rintro (e|e);exact a5q n e;omega),if_pos (a1V n),a8f]
theorem a8X (l:List UInt8) : -1≤L3 l:=by unfold L3;split;omega;split<;>omega
theorem b0M {s:u0} (h:(decide (s=⟨[]⟩)||decide ((s.l.length:Int)>15))=true):L3 s.l = -1:=by
 simp only [Bool.or_eq_true,decide_eq_true_eq] at h
 unfold L3
 rw [if_pos]
 rcases h with rfl|h
 ·exact .inl a8
 ·exact .inr (by omega)
theorem b1T {s:u0} (h:(decide (s=⟨[]⟩)||decide ((s.l.length:Int)>15))=false):¬(s.l = []∨15 < s.l.length):=by
 simp only [Bool.or_eq_false_iff,decide_eq_false_iff_not] at h
 rintro (e|e)
 ·exact h.1 (by cases s;exact congrArg u0.mk e)
 ·omega
theorem b1U {c:UInt8} (h:(decide (c < 48)||decide (c>57))=true):digit c=false:=by
 simp only [Bool.or_eq_true,decide_eq_true_eq] at h
 unfold digit
 rcases h with h|h
 ·rw [decide_eq_false (UInt8.not_le.2 h)];rfl
 ·rw [decide_eq_false (show ¬c≤57 from UInt8.not_le.2 h),Bool.and_false]
theorem b3A {c:UInt8} (h:(decide (c < 48)||decide (c>57))=false):digit c=true∧48≤c∧c.toNat≤57:=by
 simp only [Bool.or_eq_false_iff,decide_eq_false_iff_not] at h
 have h1:48≤c:=UInt8.not_lt.1 h.1
 have h2:c≤57:=UInt8.not_lt.1 h.2
 exact⟨by unfold digit;rw [decide_eq_true h1,decide_eq_true h2];rfl,h1,UInt8.le_iff_toNat_le.1 h2⟩
theorem a6d {l:List UInt8} (hl:l.length≤14) (h:l.all digit=true):a0u l < 100000000000000:=Nat.lt_of_lt_of_le (a5e _ l rfl h) (Nat.le_trans (Nat.pow_le_pow_right (by decide) hl) (by decide))
theorem a6Z {l:List UInt8} {k:Nat} (hk:k < l.length) (h:48≤l[k]):(10:Int)*(a0u (l.take k):Int)+(((l[k] - 48:UInt8)).toNat:Int)=(a0u (l.take (k+1)):Int):=by
 have:=UInt8.le_iff_toNat_le.1 h
 rw [List.take_succ_eq_append_getElem hk,a1u,UInt8.toNat_sub_of_le _ _ h]
 show(10:Int)*_+((l[k].toNat - 48:Nat):Int)=_
 omega
theorem a0v (s:u0):y6 gl prog 54 [.v s] (fun r=>r = .v (L3 s.l)):=by
 refine y6.jn func54 (by kernel_rfl) 37 rfl fun C hC hG => ?_
 refine .q 5 hG ?_
 refine .a3g 0 a8 fun hs => ?_
 refine .q 14 hG ?_
 refine .cond (.t a8) (fun hc11 => ?_) (fun hc11 => ?_)
 ·refine .q 2 hG ?_
  refine .p (.assign (.i a8) ?_)
  refine .q 2 hG ?_
  refine .e1 a8 a8 ?_
  exact congrArg AV.v (b0M hc11).symm
 ·refine .q 3 hG ?_
  have hlen:=b1T hc11
  refine .q 4 hG ?_
  refine .C2 (α:=Nat) [(0,_)] (fun k R=>(3,.v (a0u (s.l.take k):Int))::(4,.v (k:Int))::R) (fun k => []) (fun k=>k≤s.l.length∧(s.l.take k).all digit=true) (fun k=>s.l.length - k) (0) (.cons a8 (.nil _)) ?_ (.c2 a8 a8 (.cons a8 (.nil _))) (a8) fun k hF => ?_
  ·simp
  obtain⟨h1,h2⟩:=hF
  refine .q 9 hG ⟨fun hc15 => ?_,fun hc15 => ?_⟩
  ·refine .q 8 hG ?_
   refine .p (.a1j underlying9 (.t a8) (.t a8) (by first|omega|(simp;done)|(simp;omega)|(simp at *;omega)) (by first|omega|(simp;done)|(simp;omega)|(simp at *;omega)) ?_)
   refine .q 4 hG ?_
   refine .go 22 a8 (.t a8) (fun hg25 => .a1j underlying9 (.q a8 hg25) (.q a8 hg25) (by first|omega|(simp;done)|(simp;omega)|(have:=hg25;simp at this;omega)) (by first|omega|(simp;done)|(simp;omega)|(have:=hg25;simp at this;omega)) a8) ?_
   refine .q 3 hG ?_
   refine .cond (.t a8) (fun hc27 => ?_) (fun hc27 => ?_)
   ·refine .q 2 hG ?_
    refine .p (.assign (.i a8) ?_)
    refine .q 2 hG ?_
    refine .e1 a8 a8 ?_
    refine congrArg AV.v (Eq.symm ?_)
    unfold L3
    rw [if_neg hlen,if_neg fun e=>by have:=List.all_eq_true.1 e _ (List.getElem_mem (show k < s.l.length by omega));rw [show digit s.l[k]=false from b1U hc27] at this;cases this]
   ·refine .q 1 hG ?_
    obtain⟨hy1,hy2,hy3⟩:=b3A hc27
    have hv:=a6d (l:=s.l.take k) (by rw [List.length_take];omega) h2
    refine .q 2 hG ?_
    refine .p (.mul (.i a8) (.t a8) (by first|omega|(simp;done)|(simp;omega)|(simp at *;omega)) (by first|omega|(simp;done)|(simp;omega)|(simp at *;omega)) ?_)
    refine .q 2 hG ?_
    refine .p (.a1j underlying9 (.t a8) (.t a8) (by first|omega|(simp;done)|(simp;omega)|(simp at *;omega)) (by first|omega|(simp;done)|(simp;omega)|(simp at *;omega)) (.p (.b5K (.t a8) (.u8 48 a8) (by first|omega|(simp;done)|(simp;omega)|(simp at *;omega)) ?_)))
    have hy4:(s.l[k] - 48:UInt8).toNat < 256:=UInt8.toNat_lt _
    refine .p (.b2P underlying5 underlying3 (.t a8) ?_)
    refine .ad (by first|omega|(simp;done)|(simp;omega)|(simp at *;omega)) (by first|omega|(simp;done)|(simp;omega)|(simp at *;omega)) ?_
    refine .q 4 hG ?_
    refine .ad (by first|omega|(simp;done)|(simp;omega)|(simp at *;omega)) (by first|omega|(simp;done)|(simp;omega)|(simp at *;omega)) ?_
    refine .q 2 hG ?_
    refine⟨k+1,.cons (congrArg (fun q=>some (AV.v q)) (a6Z (by omega) hy2)) (.c2 rfl rfl (.nil _)),rfl,?_,by omega⟩
    exact⟨by omega,by rw [all_succ _ _ _ (by omega),h2];exact hy1⟩
  ·refine .q 7 hG ?_
   refine .e1 a8 a8 ?_
   refine congrArg AV.v (Eq.symm ?_)
   unfold L3
   rw [List.take_of_length_le (by omega)] at h2 ⊢
   rw [if_neg hlen,if_pos h2]
def a0c (m:UInt64) (x:List UInt8):UInt64:=if (decide (L3 x≥0)&&decide (L3 x < 64))=true then m ||| (1 <<< UInt64.ofInt (L3 x)) else m
def a2D (l:List (List UInt8)):UInt64:=l.foldl a0c 0
def a5f (more:Bool) (r:List UInt8):List (List UInt8):=if more=true then A0 44 r else []
theorem a23 {c:UInt8}:∀ {l:List UInt8},(y2 c l).2.2=false→(y2 c l).1=l
 | [],_=>rfl
 | x::l,h=>by
  rw [y2] at h ⊢
  by_cases e:x=c
  ·rw [if_pos e] at h;cases h
  ·rw [if_neg e] at h ⊢
   show x::(y2 c l).1=x::l
   rw [a23 (l:=l) h]
theorem Y2 (m:UInt64) (r:List UInt8):(a5f true r).foldl a0c m=(a5f (y2 44 r).2.2 (y2 44 r).2.1).foldl a0c (a0c m (y2 44 r).1):=by
 unfold a5f
 rw [if_pos rfl,Z8]
 cases h:(y2 44 r).2.2
 ·rw [if_neg (by decide),if_neg (by decide),a23 h];rfl
 ·rw [if_pos rfl,if_pos rfl];rfl
theorem Y3 {c:UInt8}:∀ {l:List UInt8},(y2 c l).2.2=true→(y2 c l).2.1.length < l.length
 | [],h=>by cases h
 | x::l,h=>by
  rw [y2] at h ⊢
  by_cases e:x=c
  ·rw [if_pos e];simp
  ·rw [if_neg e] at h ⊢
   have:=Y3 (l:=l) h
   show(y2 c l).2.1.length < (x::l).length
   rw [List.length_cons];omega
def x7 (k:Int) (s:List UInt8):Pred :=
 if k=1∨k=2∨k=3 then ⟨k,a2D (A0 44 s),0,0,⟨[]⟩,0⟩
 else if k=4∨k=5 then ⟨k,0,L3 (y2 45 s).1,L3 (y2 45 s).2.1,⟨[]⟩,0⟩
 else if k=6 then ⟨k,0,0,0,⟨s⟩,0⟩
 else if k=7 then ⟨k,0,0,0,⟨[]⟩,L3 s⟩
 else ⟨k,0,0,0,⟨[]⟩,0⟩
theorem a1J (i:Nat):UInt64.ofInt (i:Int)=UInt64.ofNat i:=by apply UInt64.toNat_inj.1;simp [UInt64.ofInt];omega
theorem a9v {m:UInt64} {n:Nat} (hn:n≤64) (hm:m.toNat < 2^n):a2D ((G6 m n).map decDigits)=m:=by
 have key:∀ (l:List Nat) (a:UInt64),(∀ i∈l,i < 64)→(l.map decDigits).foldl a0c a=l.foldl (fun m i=>m ||| (1 <<< UInt64.ofNat i)) a:=by
  intro l
  induction l with
  | nil=>intro a _;rfl
  | cons i l ih =>
   intro a h
   have hi:=h i (by simp)
   rw [List.map_cons,List.foldl_cons,List.foldl_cons,ih _ fun j hj=>h j (by simp [hj])]
   unfold a0c
   rw [a0M (by omega),if_pos (by simp;omega),a1J]
 have:=key (G6 m n) 0 fun i hi=>by have:=a6O hi;omega
 unfold a2D;rw [this];exact a5t hn hm
theorem a8g {p:Pred} (h:p8 p=true):x7 p.Kind (R7 p)=p:=by
 have hb:=a1E h
 have ho:=a0I h
 have h1:=ho.kind
 have h2:=ho.from_
 have h3:=ho.to
 have h4:=ho.num
 rw [←hb]
 conv=>lhs;rw [hb]
 unfold x7 a1q
 by_cases e4:p.Kind=4∨p.Kind=5
 ·have eb:R7 p=decDigits p.J5.toNat++45::decDigits p.To.toNat:=by unfold R7;rw [if_pos e4]
  rw [if_neg (by omega),if_pos e4,if_pos e4,eb,a0w _ (a02 _ (by decide))]
  dsimp only
  rw [a0M (by omega),a0M (by omega),V2 (by omega),V2 (by omega)]
 ·rw [if_neg e4,if_neg e4]
  by_cases e6:p.Kind=6
  ·rw [if_neg (by omega),if_pos e6,if_pos e6]
  ·rw [if_neg e6,if_neg e6]
   by_cases e7:p.Kind=7
   ·have eb:R7 p=decDigits p.Number.toNat:=by unfold R7;rw [if_neg e4,if_neg e6,if_pos e7]
    rw [if_neg (by omega),if_pos e7,if_pos e7,eb,a0M (by omega),V2 (by omega)]
   ·rw [if_pos (by omega),if_neg e7]
    obtain⟨k3,hm3,hb0,hb1⟩:=Y0 h (by omega) (by omega) e6 e7
    have eb:R7 p=E0 44 (a2u p):=by unfold R7;rw [if_neg e4,if_neg e6,if_neg e7]
    have hne:a2u p ≠ []:=by
     intro e
     unfold p8 at h
     rw [if_pos k3,Bool.and_eq_true] at h
     exact a8M (by omega) (a3O k3 h.1).2 (a3O k3 h.1).1 (List.map_eq_nil_iff.1 e)
    rw [eb,a0R hne (fun a ha=>by unfold a2u at ha;obtain⟨i,_,rfl⟩:=List.mem_map.1 ha;exact a02 i (by decide))]
    unfold a2u
    rw [a9v (by omega) hm3,a45 hb0 hb1 hm3]
theorem A2 {s:u0} {q:Int} (hF:∀ j,1≤j→j < 8→O3 j=(y2 32 s.l).1→q=j):∀ p,p8 p=true→D3 p=s.l→x7 q (y2 32 s.l).2.1=p:=fun p hp ht=>by
 have h6:=a8e ht
 have hk:=V3 hp
 rw [hF p.Kind hk.1 (by omega) (by rw [h6]),h6]
 exact a8g hp
theorem K7 {s:u0} {q:Pred} (h:(decide ((a03 q).2=0)&&decide ((a03 q).1=s))=true):a1K s 8=(q,0):=by
 obtain⟨h1,h2⟩:=a8V h;exact a50 h1 h2
theorem y4 {s:u0} {q:Pred} (h:(decide ((a03 q).2=0)&&decide ((a03 q).1=s))=false) (hq:∀ p,p8 p=true→D3 p=s.l→q=p):a1K s 8=(default,8) :=
 a8N fun p hp ht=>by
  obtain rfl:=hq p hp ht
  rw [a6Y hp ht] at h;cases h
theorem Y4 (r:List UInt8):(if (y2 44 r).2.2=true then (y2 44 r).2.1.length+1 else 0) < (if true=true then r.length+1 else 0):=by
 cases h:(y2 44 r).2.2
 ·simp
 ·have:=Y3 h
  simp;omega
theorem a60 (s:u0) (hs:s.l.length≤20000):y6 gl prog 55 [.v s] (fun r=>r = .t2 (.v (a1K s 8).1) (.v (a1K s 8).2)):=by
 have hcut:=Q5 32 s.l
 refine y6.jn func55 (by kernel_rfl) 104 rfl fun C hC hG => ?_
 refine .q 3 hG fun b2 => ?_
 refine .q 5 hG ?_
 refine .p (.A4 hG (a1t _ _) (.cons (.t a8) (.cons (.u8 32 a8) .nil)) ?_)
 refine .q 11 hG fun b7 => ?_
 refine .q 7 hG ?_
 refine .C2 (α:=Nat×Int) [(0,_),(2,_),(4,_),(5,_),(7,_)] (fun x R=>(8,.v (x.1:Int))::R) (fun x => [(true,.ob (ptr b7 0) (⟨x.2,0,0,0,⟨[]⟩,0⟩:Pred)),(true,.ob (ptr b2 0) (default:Pred))]) (fun x=>1≤x.1∧x.1≤8∧0≤x.2∧x.2≤7∧∀ j:Int,1≤j→j < x.1→O3 j=(y2 32 s.l).1→x.2=j) (fun x=>8 - x.1) ((1,0)) (.c2 a8 a8 (.c2 a8 a8 (.cons a8 (.nil _)))) ?_ (.c2 a8 a8 (.c2 a8 a8 (.c2 a8 a8 (.nil _)))) (a8) fun x hF => ?_
 ·exact⟨by decide,by decide,by decide,by decide,fun j h1 h2=>absurd h1 (by dsimp only at h2;omega)⟩
 obtain⟨k,q⟩:=x
 obtain⟨h1,h2,h3,h4,h5⟩:=hF
 dsimp only at h1 h2 h3 h4 h5 ⊢
 refine .q 7 hG ⟨fun hc24 => ?_,fun hc24 => ?_⟩
 ·refine .q 6 hG ?_
  refine .k hG (X5 _ (by omega)) ?_
  refine .q 4 hG ⟨fun hc30 => ?_,fun hc30 => ?_⟩
  ·refine .q 7 hG ?_
   refine .ad (by first|omega|(simp;done)|(simp;omega)|(simp at *;omega)) (by first|omega|(simp;done)|(simp;omega)|(simp at *;omega)) ?_
   refine .q 2 hG ?_
   refine⟨(k+1,(k:Int)),.c2 rfl rfl (.c2 rfl rfl (.c2 rfl rfl (.nil _))),rfl,?_,by dsimp only;omega⟩
   exact⟨by dsimp only;omega,by dsimp only;omega,by dsimp only;omega,by dsimp only;omega,fun j h6 h7 h8=>by dsimp only at h7 ⊢;have h9:=congrArg u0.l hc30;exact(word_inj ⟨h6,by omega⟩ ⟨by omega,by omega⟩ (h8.trans h9.symm)).symm⟩
  ·refine .q 3 hG ?_
   refine .ad (by first|omega|(simp;done)|(simp;omega)|(simp at *;omega)) (by first|omega|(simp;done)|(simp;omega)|(simp at *;omega)) ?_
   refine .q 2 hG ?_
   refine⟨(k+1,q),.c2 rfl rfl (.c2 rfl rfl (.c2 rfl rfl (.nil _))),rfl,?_,by dsimp only;omega⟩
   exact⟨by dsimp only;omega,by dsimp only;omega,h3,h4,fun j h6 h7 h8=>by dsimp only at h7 ⊢;by_cases e:j=k;exfalso;subst e;exact hc30 (congrArg u0.mk h8);exact h5 j h6 (by omega) h8⟩
 ·refine .q 3 hG ?_
  have h6:∀ j:Int,1≤j→j < 8→O3 j=(y2 32 s.l).1→q=j:=fun j h6 h7 h8=>h5 j h6 (by omega) h8
  refine .q 12 hG ⟨fun hc35 => ?_,fun hc35 => ?_⟩
  ·refine .q 2 hG ⟨fun hc35y => ?_,fun y=>absurd hc35 y⟩
   refine .q 5 hG ?_
   refine .C2 (α:=UInt64×List UInt8×Bool) [(0,_),(2,_),(7,_)] (fun y R=>(5,.v (u0.mk y.2.1))::(9,.v y.2.2)::R) (fun y => [(true,.ob (ptr b7 0) (⟨q,y.1,0,0,⟨[]⟩,0⟩:Pred)),(true,.ob (ptr b2 0) (default:Pred))]) (fun y=>y.2.1.length≤s.l.length∧(a5f y.2.2 y.2.1).foldl a0c y.1=a2D (A0 44 (y2 32 s.l).2.1)) (fun y=>if y.2.2=true then y.2.1.length+1 else 0) ((0,(y2 32 s.l).2.1,true)) (.c2 a8 a8 (.cons a8 (.nil _))) ?_ (.c2 a8 a8 (.c2 a8 a8 (.cons a8 (.nil _)))) (a8) fun y hF => ?_
   ·exact⟨by dsimp only;omega,rfl⟩
   obtain⟨m,r,mo⟩:=y
   obtain⟨h7,h8⟩:=hF
   dsimp only at h7 h8 ⊢
   refine .q 10 hG ?_
   refine .cond (.t a8) (fun hc44 => ?_) (fun hc44 => ?_)
   ·refine .q 3 hG ?_
    obtain⟨rfl,hr9⟩:mo=true∧(r.length:Int) < 1000:=(by simpa using hc44)
    have hrl:=Q5 44 r
    refine .q 6 hG ?_
    refine .p (.A4 hG (a1t _ _) (.cons (.t a8) (.cons (.u8 44 a8) .nil)) ?_)
    refine .q 11 hG ?_
    refine .k hG (a0v _) ?_
    refine .q 11 hG ?_
    refine .cond (.t a8) (fun hc58 => ?_) (fun hc58 => ?_)
    ·have hb58:0≤L3 (y2 44 r).1∧L3 (y2 44 r).1 < 64:=(by simpa using hc58)
     have hdn:(UInt64.ofInt (L3 (y2 44 r).1)).toNat < 64:=(by obtain⟨n,hn⟩:=Int.eq_ofNat_of_zero_le hb58.1;rw [hn,a1J];simp;omega)
     refine .q 5 hG ?_
     refine .p (.T1 (.u64 1 a8) (.t a8) (by first|omega|(simp;done)|(simp;omega)|(simp at *;omega)) (by first|omega|(simp;done)|(simp;omega)|(simp at *;omega)) ?_)
     refine .q 4 hG ?_
     refine⟨(m ||| (1 <<< UInt64.ofInt (L3 (y2 44 r).1)),(y2 44 r).2.1,(y2 44 r).2.2),.c2 a8 a8 (.c2 a8 a8 (.cons a8 (.nil _))),a8,?_,Y4 r⟩
     exact⟨by dsimp only;omega,by dsimp only;rw [←h8,Y2,show a0c m (y2 44 r).1=m ||| (1 <<< UInt64.ofInt (L3 (y2 44 r).1)) from if_pos hc58]⟩
    ·refine .q 1 hG ?_
     refine⟨(m,(y2 44 r).2.1,(y2 44 r).2.2),.c2 a8 a8 (.c2 a8 a8 (.cons a8 (.nil _))),a8,?_,Y4 r⟩
     exact⟨by dsimp only;omega,by dsimp only;rw [←h8,Y2,show a0c m (y2 44 r).1=m from if_neg (by rw [hc58];decide)]⟩
   ·refine .q 3 hG ?_
    have hz:1000≤s.l.length∨m=a2D (A0 44 (y2 32 s.l).2.1):=(by by_cases h9:(r.length:Int) < 1000;(right;obtain rfl:mo=false:=(by rw [decide_eq_true h9,Bool.and_true] at hc44;exact hc44);exact h8);(left;omega))
    refine .q 2 hG ?_
    refine .k hG (a0t _) ?_
    refine .q 16 hG ?_
    refine .cond (.t a8) (fun hc101 => ?_) (fun hc101 => ?_)
    ·refine .q 7 hG ?_
     refine⟨_,.r2 a8 (.cell E6 a8 .z1) (.tmp a8),?_⟩
     dsimp only at *
     first|(exfalso;omega)|(rw [K7 hc101];done)|(rcases hz with hz|rfl;(rw [y4 hc101 fun p hp ht=>absurd (I2 hp) (by rw [ht];omega)]);(rw [y4 hc101 (fun p hp ht=>Eq.trans (b:=x7 q (y2 32 s.l).2.1) (by unfold x7;(repeat (first|rw [if_pos (by omega)]|rw [if_neg (by omega)]));try rfl) (A2 h6 p hp ht))]))|(rw [y4 hc101 (fun p hp ht=>Eq.trans (b:=x7 q (y2 32 s.l).2.1) (by unfold x7;(repeat (first|rw [if_pos (by omega)]|rw [if_neg (by omega)]));try rfl) (A2 h6 p hp ht))];done)
    ·refine .q 3 hG ?_
     refine .p (.bS0 (α:=j3) a8 E6 a0B ?_)
     refine .q 4 hG ?_
     refine⟨_,.r2 a8 (.cell E6 a8 .z1) (.tmp a8),?_⟩
     dsimp only at *
     first|(exfalso;omega)|(rw [K7 hc101];done)|(rcases hz with hz|rfl;(rw [y4 hc101 fun p hp ht=>absurd (I2 hp) (by rw [ht];omega)]);(rw [y4 hc101 (fun p hp ht=>Eq.trans (b:=x7 q (y2 32 s.l).2.1) (by unfold x7;(repeat (first|rw [if_pos (by omega)]|rw [if_neg (by omega)]));try rfl) (A2 h6 p hp ht))]))|(rw [y4 hc101 (fun p hp ht=>Eq.trans (b:=x7 q (y2 32 s.l).2.1) (by unfold x7;(repeat (first|rw [if_pos (by omega)]|rw [if_neg (by omega)]));try rfl) (A2 h6 p hp ht))];done)
  ·refine .q 6 hG ⟨fun hc35 => ?_,fun hc35 => ?_⟩
   ·refine .q 2 hG ⟨fun hc35y => ?_,fun y=>absurd hc35 y⟩
    refine .q 5 hG ?_
    refine .C2 (α:=UInt64×List UInt8×Bool) [(0,_),(2,_),(7,_)] (fun y R=>(5,.v (u0.mk y.2.1))::(9,.v y.2.2)::R) (fun y => [(true,.ob (ptr b7 0) (⟨q,y.1,0,0,⟨[]⟩,0⟩:Pred)),(true,.ob (ptr b2 0) (default:Pred))]) (fun y=>y.2.1.length≤s.l.length∧(a5f y.2.2 y.2.1).foldl a0c y.1=a2D (A0 44 (y2 32 s.l).2.1)) (fun y=>if y.2.2=true then y.2.1.length+1 else 0) ((0,(y2 32 s.l).2.1,true)) (.c2 a8 a8 (.cons a8 (.nil _))) ?_ (.c2 a8 a8 (.c2 a8 a8 (.cons a8 (.nil _)))) (a8) fun y hF => ?_
    ·exact⟨by dsimp only;omega,rfl⟩
    obtain⟨m,r,mo⟩:=y
    obtain⟨h7,h8⟩:=hF
    dsimp only at h7 h8 ⊢
    refine .q 10 hG ?_
    refine .cond (.t a8) (fun hc44 => ?_) (fun hc44 => ?_)
    ·refine .q 3 hG ?_
     obtain⟨rfl,hr9⟩:mo=true∧(r.length:Int) < 1000:=(by simpa using hc44)
     have hrl:=Q5 44 r
     refine .q 6 hG ?_
     refine .p (.A4 hG (a1t _ _) (.cons (.t a8) (.cons (.u8 44 a8) .nil)) ?_)
     refine .q 11 hG ?_
     refine .k hG (a0v _) ?_
     refine .q 11 hG ?_
     refine .cond (.t a8) (fun hc58 => ?_) (fun hc58 => ?_)
     ·have hb58:0≤L3 (y2 44 r).1∧L3 (y2 44 r).1 < 64:=(by simpa using hc58)
      have hdn:(UInt64.ofInt (L3 (y2 44 r).1)).toNat < 64:=(by obtain⟨n,hn⟩:=Int.eq_ofNat_of_zero_le hb58.1;rw [hn,a1J];simp;omega)
      refine .q 5 hG ?_
      refine .p (.T1 (.u64 1 a8) (.t a8) (by first|omega|(simp;done)|(simp;omega)|(simp at *;omega)) (by first|omega|(simp;done)|(simp;omega)|(simp at *;omega)) ?_)
      refine .q 4 hG ?_
      refine⟨(m ||| (1 <<< UInt64.ofInt (L3 (y2 44 r).1)),(y2 44 r).2.1,(y2 44 r).2.2),.c2 a8 a8 (.c2 a8 a8 (.cons a8 (.nil _))),a8,?_,Y4 r⟩
      exact⟨by dsimp only;omega,by dsimp only;rw [←h8,Y2,show a0c m (y2 44 r).1=m ||| (1 <<< UInt64.ofInt (L3 (y2 44 r).1)) from if_pos hc58]⟩
     ·refine .q 1 hG ?_
      refine⟨(m,(y2 44 r).2.1,(y2 44 r).2.2),.c2 a8 a8 (.c2 a8 a8 (.cons a8 (.nil _))),a8,?_,Y4 r⟩
      exact⟨by dsimp only;omega,by dsimp only;rw [←h8,Y2,show a0c m (y2 44 r).1=m from if_neg (by rw [hc58];decide)]⟩
    ·refine .q 3 hG ?_
     have hz:1000≤s.l.length∨m=a2D (A0 44 (y2 32 s.l).2.1):=(by by_cases h9:(r.length:Int) < 1000;(right;obtain rfl:mo=false:=(by rw [decide_eq_true h9,Bool.and_true] at hc44;exact hc44);exact h8);(left;omega))
     refine .q 2 hG ?_
     refine .k hG (a0t _) ?_
     refine .q 16 hG ?_
     refine .cond (.t a8) (fun hc101 => ?_) (fun hc101 => ?_)
     ·refine .q 7 hG ?_
      refine⟨_,.r2 a8 (.cell E6 a8 .z1) (.tmp a8),?_⟩
      dsimp only at *
      first|(exfalso;omega)|(rw [K7 hc101];done)|(rcases hz with hz|rfl;(rw [y4 hc101 fun p hp ht=>absurd (I2 hp) (by rw [ht];omega)]);(rw [y4 hc101 (fun p hp ht=>Eq.trans (b:=x7 q (y2 32 s.l).2.1) (by unfold x7;(repeat (first|rw [if_pos (by omega)]|rw [if_neg (by omega)]));try rfl) (A2 h6 p hp ht))]))|(rw [y4 hc101 (fun p hp ht=>Eq.trans (b:=x7 q (y2 32 s.l).2.1) (by unfold x7;(repeat (first|rw [if_pos (by omega)]|rw [if_neg (by omega)]));try rfl) (A2 h6 p hp ht))];done)
     ·refine .q 3 hG ?_
      refine .p (.bS0 (α:=j3) a8 E6 a0B ?_)
      refine .q 4 hG ?_
      refine⟨_,.r2 a8 (.cell E6 a8 .z1) (.tmp a8),?_⟩
      dsimp only at *
      first|(exfalso;omega)|(rw [K7 hc101];done)|(rcases hz with hz|rfl;(rw [y4 hc101 fun p hp ht=>absurd (I2 hp) (by rw [ht];omega)]);(rw [y4 hc101 (fun p hp ht=>Eq.trans (b:=x7 q (y2 32 s.l).2.1) (by unfold x7;(repeat (first|rw [if_pos (by omega)]|rw [if_neg (by omega)]));try rfl) (A2 h6 p hp ht))]))|(rw [y4 hc101 (fun p hp ht=>Eq.trans (b:=x7 q (y2 32 s.l).2.1) (by unfold x7;(repeat (first|rw [if_pos (by omega)]|rw [if_neg (by omega)]));try rfl) (A2 h6 p hp ht))];done)
   ·refine .q 5 hG ⟨fun hc35 => ?_,fun hc35 => ?_⟩
    ·refine .q 5 hG ?_
     refine .C2 (α:=UInt64×List UInt8×Bool) [(0,_),(2,_),(7,_)] (fun y R=>(5,.v (u0.mk y.2.1))::(9,.v y.2.2)::R) (fun y => [(true,.ob (ptr b7 0) (⟨q,y.1,0,0,⟨[]⟩,0⟩:Pred)),(true,.ob (ptr b2 0) (default:Pred))]) (fun y=>y.2.1.length≤s.l.length∧(a5f y.2.2 y.2.1).foldl a0c y.1=a2D (A0 44 (y2 32 s.l).2.1)) (fun y=>if y.2.2=true then y.2.1.length+1 else 0) ((0,(y2 32 s.l).2.1,true)) (.c2 a8 a8 (.cons a8 (.nil _))) ?_ (.c2 a8 a8 (.c2 a8 a8 (.cons a8 (.nil _)))) (a8) fun y hF => ?_
     ·exact⟨by dsimp only;omega,rfl⟩
     obtain⟨m,r,mo⟩:=y
     obtain⟨h7,h8⟩:=hF
     dsimp only at h7 h8 ⊢
     refine .q 10 hG ?_
     refine .cond (.t a8) (fun hc44 => ?_) (fun hc44 => ?_)
     ·refine .q 3 hG ?_
      obtain⟨rfl,hr9⟩:mo=true∧(r.length:Int) < 1000:=(by simpa using hc44)
      have hrl:=Q5 44 r
      refine .q 6 hG ?_
      refine .p (.A4 hG (a1t _ _) (.cons (.t a8) (.cons (.u8 44 a8) .nil)) ?_)
      refine .q 11 hG ?_
      refine .k hG (a0v _) ?_
      refine .q 11 hG ?_
      refine .cond (.t a8) (fun hc58 => ?_) (fun hc58 => ?_)
      ·have hb58:0≤L3 (y2 44 r).1∧L3 (y2 44 r).1 < 64:=(by simpa using hc58)
       have hdn:(UInt64.ofInt (L3 (y2 44 r).1)).toNat < 64:=(by obtain⟨n,hn⟩:=Int.eq_ofNat_of_zero_le hb58.1;rw [hn,a1J];simp;omega)
       refine .q 5 hG ?_
       refine .p (.T1 (.u64 1 a8) (.t a8) (by first|omega|(simp;done)|(simp;omega)|(simp at *;omega)) (by first|omega|(simp;done)|(simp;omega)|(simp at *;omega)) ?_)
       refine .q 4 hG ?_
       refine⟨(m ||| (1 <<< UInt64.ofInt (L3 (y2 44 r).1)),(y2 44 r).2.1,(y2 44 r).2.2),.c2 a8 a8 (.c2 a8 a8 (.cons a8 (.nil _))),a8,?_,Y4 r⟩
       exact⟨by dsimp only;omega,by dsimp only;rw [←h8,Y2,show a0c m (y2 44 r).1=m ||| (1 <<< UInt64.ofInt (L3 (y2 44 r).1)) from if_pos hc58]⟩
      ·refine .q 1 hG ?_
       refine⟨(m,(y2 44 r).2.1,(y2 44 r).2.2),.c2 a8 a8 (.c2 a8 a8 (.cons a8 (.nil _))),a8,?_,Y4 r⟩
       exact⟨by dsimp only;omega,by dsimp only;rw [←h8,Y2,show a0c m (y2 44 r).1=m from if_neg (by rw [hc58];decide)]⟩
     ·refine .q 3 hG ?_
      have hz:1000≤s.l.length∨m=a2D (A0 44 (y2 32 s.l).2.1):=(by by_cases h9:(r.length:Int) < 1000;(right;obtain rfl:mo=false:=(by rw [decide_eq_true h9,Bool.and_true] at hc44;exact hc44);exact h8);(left;omega))
      refine .q 2 hG ?_
      refine .k hG (a0t _) ?_
      refine .q 16 hG ?_
      refine .cond (.t a8) (fun hc101 => ?_) (fun hc101 => ?_)
      ·refine .q 7 hG ?_
       refine⟨_,.r2 a8 (.cell E6 a8 .z1) (.tmp a8),?_⟩
       dsimp only at *
       first|(exfalso;omega)|(rw [K7 hc101];done)|(rcases hz with hz|rfl;(rw [y4 hc101 fun p hp ht=>absurd (I2 hp) (by rw [ht];omega)]);(rw [y4 hc101 (fun p hp ht=>Eq.trans (b:=x7 q (y2 32 s.l).2.1) (by unfold x7;(repeat (first|rw [if_pos (by omega)]|rw [if_neg (by omega)]));try rfl) (A2 h6 p hp ht))]))|(rw [y4 hc101 (fun p hp ht=>Eq.trans (b:=x7 q (y2 32 s.l).2.1) (by unfold x7;(repeat (first|rw [if_pos (by omega)]|rw [if_neg (by omega)]));try rfl) (A2 h6 p hp ht))];done)
      ·refine .q 3 hG ?_
       refine .p (.bS0 (α:=j3) a8 E6 a0B ?_)
       refine .q 4 hG ?_
       refine⟨_,.r2 a8 (.cell E6 a8 .z1) (.tmp a8),?_⟩
       dsimp only at *
       first|(exfalso;omega)|(rw [K7 hc101];done)|(rcases hz with hz|rfl;(rw [y4 hc101 fun p hp ht=>absurd (I2 hp) (by rw [ht];omega)]);(rw [y4 hc101 (fun p hp ht=>Eq.trans (b:=x7 q (y2 32 s.l).2.1) (by unfold x7;(repeat (first|rw [if_pos (by omega)]|rw [if_neg (by omega)]));try rfl) (A2 h6 p hp ht))]))|(rw [y4 hc101 (fun p hp ht=>Eq.trans (b:=x7 q (y2 32 s.l).2.1) (by unfold x7;(repeat (first|rw [if_pos (by omega)]|rw [if_neg (by omega)]));try rfl) (A2 h6 p hp ht))];done)
    ·refine .q 7 hG ⟨fun hc66 => ?_,fun hc66 => ?_⟩
     ·refine .q 2 hG ⟨fun hc66y => ?_,fun y=>absurd hc66 y⟩
      refine .q 3 hG ?_
      refine .p (.A4 hG (a1t _ _) (.cons (.t a8) (.cons (.u8 45 a8) .nil)) ?_)
      refine .q 10 hG ?_
      refine .k hG (a0v _) ?_
      refine .q 1 hG ?_
      refine .k hG (a0v _) ?_
      refine .q 9 hG ?_
      refine .k hG (a0t _) ?_
      refine .q 16 hG ?_
      refine .cond (.t a8) (fun hc101 => ?_) (fun hc101 => ?_)
      ·refine .q 7 hG ?_
       refine⟨_,.r2 a8 (.cell E6 a8 .z1) (.tmp a8),?_⟩
       dsimp only at *
       first|(exfalso;omega)|(rw [K7 hc101];done)|(rcases hz with hz|rfl;(rw [y4 hc101 fun p hp ht=>absurd (I2 hp) (by rw [ht];omega)]);(rw [y4 hc101 (fun p hp ht=>Eq.trans (b:=x7 q (y2 32 s.l).2.1) (by unfold x7;(repeat (first|rw [if_pos (by omega)]|rw [if_neg (by omega)]));try rfl) (A2 h6 p hp ht))]))|(rw [y4 hc101 (fun p hp ht=>Eq.trans (b:=x7 q (y2 32 s.l).2.1) (by unfold x7;(repeat (first|rw [if_pos (by omega)]|rw [if_neg (by omega)]));try rfl) (A2 h6 p hp ht))];done)
      ·refine .q 3 hG ?_
       refine .p (.bS0 (α:=j3) a8 E6 a0B ?_)
       refine .q 4 hG ?_
       refine⟨_,.r2 a8 (.cell E6 a8 .z1) (.tmp a8),?_⟩
       dsimp only at *
       first|(exfalso;omega)|(rw [K7 hc101];done)|(rcases hz with hz|rfl;(rw [y4 hc101 fun p hp ht=>absurd (I2 hp) (by rw [ht];omega)]);(rw [y4 hc101 (fun p hp ht=>Eq.trans (b:=x7 q (y2 32 s.l).2.1) (by unfold x7;(repeat (first|rw [if_pos (by omega)]|rw [if_neg (by omega)]));try rfl) (A2 h6 p hp ht))]))|(rw [y4 hc101 (fun p hp ht=>Eq.trans (b:=x7 q (y2 32 s.l).2.1) (by unfold x7;(repeat (first|rw [if_pos (by omega)]|rw [if_neg (by omega)]));try rfl) (A2 h6 p hp ht))];done)
     ·refine .q 5 hG ⟨fun hc66 => ?_,fun hc66 => ?_⟩
      ·refine .q 3 hG ?_
       refine .p (.A4 hG (a1t _ _) (.cons (.t a8) (.cons (.u8 45 a8) .nil)) ?_)
       refine .q 10 hG ?_
       refine .k hG (a0v _) ?_
       refine .q 1 hG ?_
       refine .k hG (a0v _) ?_
       refine .q 9 hG ?_
       refine .k hG (a0t _) ?_
       refine .q 16 hG ?_
       refine .cond (.t a8) (fun hc101 => ?_) (fun hc101 => ?_)
       ·refine .q 7 hG ?_
        refine⟨_,.r2 a8 (.cell E6 a8 .z1) (.tmp a8),?_⟩
        dsimp only at *
        first|(exfalso;omega)|(rw [K7 hc101];done)|(rcases hz with hz|rfl;(rw [y4 hc101 fun p hp ht=>absurd (I2 hp) (by rw [ht];omega)]);(rw [y4 hc101 (fun p hp ht=>Eq.trans (b:=x7 q (y2 32 s.l).2.1) (by unfold x7;(repeat (first|rw [if_pos (by omega)]|rw [if_neg (by omega)]));try rfl) (A2 h6 p hp ht))]))|(rw [y4 hc101 (fun p hp ht=>Eq.trans (b:=x7 q (y2 32 s.l).2.1) (by unfold x7;(repeat (first|rw [if_pos (by omega)]|rw [if_neg (by omega)]));try rfl) (A2 h6 p hp ht))];done)
       ·refine .q 3 hG ?_
        refine .p (.bS0 (α:=j3) a8 E6 a0B ?_)
        refine .q 4 hG ?_
        refine⟨_,.r2 a8 (.cell E6 a8 .z1) (.tmp a8),?_⟩
        dsimp only at *
        first|(exfalso;omega)|(rw [K7 hc101];done)|(rcases hz with hz|rfl;(rw [y4 hc101 fun p hp ht=>absurd (I2 hp) (by rw [ht];omega)]);(rw [y4 hc101 (fun p hp ht=>Eq.trans (b:=x7 q (y2 32 s.l).2.1) (by unfold x7;(repeat (first|rw [if_pos (by omega)]|rw [if_neg (by omega)]));try rfl) (A2 h6 p hp ht))]))|(rw [y4 hc101 (fun p hp ht=>Eq.trans (b:=x7 q (y2 32 s.l).2.1) (by unfold x7;(repeat (first|rw [if_pos (by omega)]|rw [if_neg (by omega)]));try rfl) (A2 h6 p hp ht))];done)
      ·refine .q 6 hG ⟨fun hc81 => ?_,fun hc81 => ?_⟩
       ·refine .q 9 hG ?_
        refine .k hG (a0t _) ?_
        refine .q 16 hG ?_
        refine .cond (.t a8) (fun hc101 => ?_) (fun hc101 => ?_)
        ·refine .q 7 hG ?_
         refine⟨_,.r2 a8 (.cell E6 a8 .z1) (.tmp a8),?_⟩
         dsimp only at *
         first|(exfalso;omega)|(rw [K7 hc101];done)|(rcases hz with hz|rfl;(rw [y4 hc101 fun p hp ht=>absurd (I2 hp) (by rw [ht];omega)]);(rw [y4 hc101 (fun p hp ht=>Eq.trans (b:=x7 q (y2 32 s.l).2.1) (by unfold x7;(repeat (first|rw [if_pos (by omega)]|rw [if_neg (by omega)]));try rfl) (A2 h6 p hp ht))]))|(rw [y4 hc101 (fun p hp ht=>Eq.trans (b:=x7 q (y2 32 s.l).2.1) (by unfold x7;(repeat (first|rw [if_pos (by omega)]|rw [if_neg (by omega)]));try rfl) (A2 h6 p hp ht))];done)
        ·refine .q 3 hG ?_
         refine .p (.bS0 (α:=j3) a8 E6 a0B ?_)
         refine .q 4 hG ?_
         refine⟨_,.r2 a8 (.cell E6 a8 .z1) (.tmp a8),?_⟩
         dsimp only at *
         first|(exfalso;omega)|(rw [K7 hc101];done)|(rcases hz with hz|rfl;(rw [y4 hc101 fun p hp ht=>absurd (I2 hp) (by rw [ht];omega)]);(rw [y4 hc101 (fun p hp ht=>Eq.trans (b:=x7 q (y2 32 s.l).2.1) (by unfold x7;(repeat (first|rw [if_pos (by omega)]|rw [if_neg (by omega)]));try rfl) (A2 h6 p hp ht))]))|(rw [y4 hc101 (fun p hp ht=>Eq.trans (b:=x7 q (y2 32 s.l).2.1) (by unfold x7;(repeat (first|rw [if_pos (by omega)]|rw [if_neg (by omega)]));try rfl) (A2 h6 p hp ht))];done)
       ·refine .q 6 hG ⟨fun hc85 => ?_,fun hc85 => ?_⟩
        ·refine .q 2 hG ?_
         refine .k hG (a0v _) ?_
         refine .q 7 hG ?_
         refine .k hG (a0t _) ?_
         refine .q 16 hG ?_
         refine .cond (.t a8) (fun hc101 => ?_) (fun hc101 => ?_)
         ·refine .q 7 hG ?_
          refine⟨_,.r2 a8 (.cell E6 a8 .z1) (.tmp a8),?_⟩
          dsimp only at *
          first|(exfalso;omega)|(rw [K7 hc101];done)|(rcases hz with hz|rfl;(rw [y4 hc101 fun p hp ht=>absurd (I2 hp) (by rw [ht];omega)]);(rw [y4 hc101 (fun p hp ht=>Eq.trans (b:=x7 q (y2 32 s.l).2.1) (by unfold x7;(repeat (first|rw [if_pos (by omega)]|rw [if_neg (by omega)]));try rfl) (A2 h6 p hp ht))]))|(rw [y4 hc101 (fun p hp ht=>Eq.trans (b:=x7 q (y2 32 s.l).2.1) (by unfold x7;(repeat (first|rw [if_pos (by omega)]|rw [if_neg (by omega)]));try rfl) (A2 h6 p hp ht))];done)
         ·refine .q 3 hG ?_
          refine .p (.bS0 (α:=j3) a8 E6 a0B ?_)
          refine .q 4 hG ?_
          refine⟨_,.r2 a8 (.cell E6 a8 .z1) (.tmp a8),?_⟩
          dsimp only at *
          first|(exfalso;omega)|(rw [K7 hc101];done)|(rcases hz with hz|rfl;(rw [y4 hc101 fun p hp ht=>absurd (I2 hp) (by rw [ht];omega)]);(rw [y4 hc101 (fun p hp ht=>Eq.trans (b:=x7 q (y2 32 s.l).2.1) (by unfold x7;(repeat (first|rw [if_pos (by omega)]|rw [if_neg (by omega)]));try rfl) (A2 h6 p hp ht))]))|(rw [y4 hc101 (fun p hp ht=>Eq.trans (b:=x7 q (y2 32 s.l).2.1) (by unfold x7;(repeat (first|rw [if_pos (by omega)]|rw [if_neg (by omega)]));try rfl) (A2 h6 p hp ht))];done)
        ·refine .q 5 hG ?_
         refine .k hG (a0t _) ?_
         refine .q 16 hG ?_
         refine .cond (.t a8) (fun hc101 => ?_) (fun hc101 => ?_)
         ·refine .q 7 hG ?_
          refine⟨_,.r2 a8 (.cell E6 a8 .z1) (.tmp a8),?_⟩
          dsimp only at *
          first|(exfalso;omega)|(rw [K7 hc101];done)|(rcases hz with hz|rfl;(rw [y4 hc101 fun p hp ht=>absurd (I2 hp) (by rw [ht];omega)]);(rw [y4 hc101 (fun p hp ht=>Eq.trans (b:=x7 q (y2 32 s.l).2.1) (by unfold x7;(repeat (first|rw [if_pos (by omega)]|rw [if_neg (by omega)]));try rfl) (A2 h6 p hp ht))]))|(rw [y4 hc101 (fun p hp ht=>Eq.trans (b:=x7 q (y2 32 s.l).2.1) (by unfold x7;(repeat (first|rw [if_pos (by omega)]|rw [if_neg (by omega)]));try rfl) (A2 h6 p hp ht))];done)
         ·refine .q 3 hG ?_
          refine .p (.bS0 (α:=j3) a8 E6 a0B ?_)
          refine .q 4 hG ?_
          refine⟨_,.r2 a8 (.cell E6 a8 .z1) (.tmp a8),?_⟩
          dsimp only at *
          first|(exfalso;omega)|(rw [K7 hc101];done)|(rcases hz with hz|rfl;(rw [y4 hc101 fun p hp ht=>absurd (I2 hp) (by rw [ht];omega)]);(rw [y4 hc101 (fun p hp ht=>Eq.trans (b:=x7 q (y2 32 s.l).2.1) (by unfold x7;(repeat (first|rw [if_pos (by omega)]|rw [if_neg (by omega)]));try rfl) (A2 h6 p hp ht))]))|(rw [y4 hc101 (fun p hp ht=>Eq.trans (b:=x7 q (y2 32 s.l).2.1) (by unfold x7;(repeat (first|rw [if_pos (by omega)]|rw [if_neg (by omega)]));try rfl) (A2 h6 p hp ht))];done)
end Go.Proofs.YtfkbejimghamkaaGreatDoor
namespace Go.Ab
open Go.Fl Go.RowKit
theorem a5g (t:List UInt8):∀ x:List UInt8,(∀ c∈x,c≠59)→Lib.index (x++(59::32::t)) [59,32]=(x.length:Int)
 | [],_=>by simp [Lib.index,List.isPrefixOf]
 | b::x,h=>by
  have ih:=a5g t x fun c hc=>h c (by simp [hc])
  have hb:=h b (by simp)
  rw [List.cons_append,Lib.index,ih]
  rw [if_neg (by simp [List.isPrefixOf,Ne.symm hb]),if_neg (by simp<;>omega)]
  simp
theorem a61:∀ x:List UInt8,(∀ c∈x,c≠59)→Lib.index x [59,32] = -1
 | [],_=>by simp [Lib.index]
 | b::x,h=>by
  have ih:=a61 x fun c hc=>h c (by simp [hc])
  have hb:=h b (by simp)
  rw [Lib.index,ih]
  rw [if_neg (by simp [List.isPrefixOf,Ne.symm hb]),if_pos (by simp)]
theorem a3q:∀ (x:List UInt8) (r:List (List UInt8)),(∀ y∈x::r,∀ c∈y,c≠59)→Lib.split (Lib.join (x::r) [59,32]) [59,32]=x::r
 | x,[],h=>by
  have hi:=a61 x (h x (by simp))
  rw [Lib.join_one,Lib.split,Lib.count_miss hi];rfl
 | x,y::r,h=>by
  have ih:=a3q y r fun z hz=>h z (by simp at hz ⊢;exact .inr hz)
  have e:Lib.join (x::y::r) [59,32]=x++(59::32::Lib.join (y::r) [59,32]):=by
   rw [Lib.join_cons,Lib.join_cons];simp [Lib.joinTail]
  have hi:=a5g (Lib.join (y::r) [59,32]) x (h x (by simp))
  rw [e,Lib.split,Lib.count_hit (by simp) hi]
  have hd:(x++(59::32::Lib.join (y::r) [59,32])).drop (x.length+([59,32]:List UInt8).length)=Lib.join (y::r) [59,32]:=by
   rw [←List.drop_drop,List.drop_left];rfl
  rw [hd,Nat.add_comm,Lib.splitK,hi,if_neg (by simp<;>omega)]
  rw [Int.toNat_natCast,Nat.add_zero,List.take_left,hd]
  unfold Lib.split at ih
  rw [ih]
end Go.Ab
namespace Go.Proofs.YtfkbejimghamkaaGreatDoor
open Go.Proofs.Tryz
open Go.Fl Go.Ab Go.Mac Go.Sha Go.Lib
theorem b0N {m:Nat} (h0:0 < m) (h:m < 1000000000000000000):atoiAll (45::decDigits m) = .ok (-(m:Int)):=by
 have hm:parseMag (decDigits m) = .ok m:=by unfold parseMag;rw [if_neg (a5q m),a4N m h]
 have h3:¬9223372036854775808 < m:=by omega
 unfold atoiAll
 simp [hm,h3]
theorem a25 {n:Int} (h0 : -1000000000000000 < n) (h1:n < 1000000000000000):atoiAll (Lib.itoa n) = .ok n:=by
 unfold Lib.itoa
 split
 ·rw [b0N (by omega) (by omega),show -(n.natAbs:Int)=n by omega]
 ·rw [a3Q (by omega),show(n.toNat:Int)=n by omega]
theorem a6e (n:Int) {c:UInt8} (h:digit c=false) (h2:c≠45):∀ x∈Lib.itoa n,x≠c:=by
 intro x hx
 unfold Lib.itoa at hx
 split at hx
 ·rcases List.mem_cons.1 hx with rfl|hx
  ·exact Ne.symm h2
  ·exact a02 _ h x hx
 ·exact a02 _ h x hx
theorem b0O (k:Nat) {c:UInt8} (h:W9 c=false):∀ x∈U4.getD k [],x≠c:=by
 have key:∀ w∈U4,∀ x∈w,W9 x=true:=by decide
 intro x hx e
 rcases Nat.lt_or_ge k U4.length with hk|hk
 ·rw [List.getD_eq_getElem?_getD,List.getElem?_eq_getElem hk] at hx
  have:=key _ (List.getElem_mem hk) x hx
  rw [e,h] at this;cases this
 ·rw [List.getD_eq_getElem?_getD,List.getElem?_eq_none hk] at hx;cases hx
theorem a9w (c:UInt8) (a b:List UInt8) (r:List (List UInt8)):E0 c ((a++c::b)::r)=E0 c (a::b::r):=by
 cases r with
 | nil=>simp [E0]
 | cons x r=>simp [E0]
theorem Y5:∀ (l:List Int) (w:List UInt8),G8 w l=E0 32 (w::l.map Lib.itoa)
 | [],w=>rfl
 | n::l,w=>by
  have ih:=Y5 l (w++32::Lib.itoa n)
  rw [a9w] at ih
  exact ih
theorem a0N (c:UInt8):∀ (l:List (List UInt8)) (x:UInt8),x∈E0 c l→x=c∨∃ a∈l,x∈a
 | [],x,h=>by simp [E0] at h
 | [a],x,h => .inr ⟨a,by simp,h⟩
 | a::b::l,x,h=>by
  rw [E0] at h
  rcases List.mem_append.1 h with h|h
  ·exact .inr ⟨a,by simp,h⟩
  ·rcases List.mem_cons.1 h with rfl|h
   ·exact .inl a8
   ·rcases a0N c (b::l) x h with h|⟨y,h1,h2⟩
    ·exact .inl h
    ·exact .inr ⟨y,List.mem_cons_of_mem _ h1,h2⟩
theorem b1V (k:Nat) (l:List Int):∀ x∈G8 (U4.getD k []) l,x≠59:=by
 intro x hx
 rw [Y5] at hx
 rcases a0N _ _ _ hx with rfl|⟨a,h1,h2⟩
 ·decide
 ·rcases List.mem_cons.1 h1 with rfl|h1
  ·exact b0O k (by decide) x h2
  ·obtain⟨n,_,rfl⟩:=List.mem_map.1 h1
   exact a6e n (by decide) (by decide) x h2
theorem a0d (k:Nat) (l:List Int):A0 32 (G8 (U4.getD k []) l)=U4.getD k []::l.map Lib.itoa:=by
 rw [Y5]
 refine a0R (by simp) fun a ha => ?_
 rcases List.mem_cons.1 ha with rfl|h1
 ·exact b0O k (by decide)
 ·obtain⟨n,_,rfl⟩:=List.mem_map.1 h1
  exact a6e n (by decide) (by decide)
theorem a2E {s:u0} (h:u7 s=true) {c:UInt8} (hc:W9 c=false):∀ x∈s.l,x≠c:=by
 intro x hx e
 unfold u7 at h
 simp only [Bool.and_eq_true] at h
 have:=List.all_eq_true.1 h.2 x hx
 rw [e,hc] at this;cases this
theorem b0P (k:Int):∀ x∈O3 k,x≠59:=by
 intro x hx
 unfold O3 at hx
 repeat' split at hx
 all_goals (revert x;decide)
theorem b1W {p:Pred} (h:p8 p=true):∀ x∈D3 p,x≠59:=by
 intro x hx
 unfold D3 at hx
 rcases List.mem_append.1 hx with hx|hx
 ·exact b0P _ x hx
 rcases List.mem_cons.1 hx with rfl|hx
 ·decide
 have hd:∀ n,∀ x∈decDigits n,x≠59:=fun n=>a02 n (by decide)
 unfold R7 at hx
 split at hx
 ·rcases List.mem_append.1 hx with hx|hx
  ·exact hd _ x hx
  ·rcases List.mem_cons.1 hx with rfl|hx
   ·decide
   ·exact hd _ x hx
 split at hx
 ·rename_i h6
  unfold p8 at h
  rw [h6] at h
  simp at h
  exact a2E h.1 (by decide) x hx
 split at hx
 ·exact hd _ x hx
 ·rcases a0N _ _ _ hx with rfl|⟨a,h1,h2⟩
  ·decide
  ·unfold a2u at h1
   obtain⟨i,_,rfl⟩:=List.mem_map.1 h1
   exact hd _ x h2
theorem b0Q {s:Step} (h:a2a s):∀ y∈P7 s,∀ c∈y,c≠59:=by
 intro y hy
 unfold P7 at hy
 rcases List.mem_cons.1 hy with rfl|hy
 ·exact b1V _ _
 rcases List.mem_append.1 hy with hy|hy
 ·obtain⟨p,hp,rfl⟩:=List.mem_map.1 hy
  exact b1W (h.pred p hp)
 ·split at hy
  ·rename_i hk
   rw [List.mem_singleton.1 hy]
   exact a2E (h.name hk) (by decide)
  ·cases hy
def G5 (s:Step) (t:List UInt8):Prop:=(D0 s).2=0∧L7 s=t
theorem G5.kind {s:Step} {t:List UInt8} (h:G5 s t):1≤s.Kind∧s.Kind < 23:=(M5 h.1).1
theorem G5.ok {s:Step} {t:List UInt8} (h:G5 s t):a2a s:=V6 (M5 h.1).2.1
theorem G5.split {s:Step} {t:List UInt8} (h:G5 s t):Lib.split t [59,32]=P7 s:=by
 rw [←h.2]
 exact a3q _ _ (b0Q h.ok)
theorem G5.of {s:Step} {t:List UInt8} (h:D0 s=(⟨t⟩,0)):G5 s t:=by
 have h0:(D0 s).2=0:=by rw [h]
 exact⟨h0,by have:=(M5 h0).2.2;rw [h] at this;simpa using this.symm⟩
theorem G5.line {s:Step} {t:List UInt8} (h:G5 s t):D0 s=(⟨t⟩,0):=by rw [(M5 h.1).2.2,h.2]
def a09 (s:Step):List (List UInt8):=s.l9.map D3++if khl s.Kind=true then [((G4 s).get s).l] else []
theorem parts_eq (s:Step):P7 s=G8 (U4.getD s.Kind.toNat []) (p9 s)::a09 s:=rfl
theorem a6f {n:Int} (h:M9 n=false) : -1000000000000000 < n∧n < 1000000000000000:=by
 unfold M9 at h
 simp only [Bool.or_eq_false_iff,decide_eq_false_iff_not] at h
 omega
theorem a0O (s:Step):(p9 s).length=(C3 s.Kind).length:=by simp [p9]
theorem a8h {i j:Nat} (hi:i < 23) (hj:j < 23) (h:U4.getD i []=U4.getD j []):i=j:=by
 have key:∀ i:Fin 23,∀ j:Fin 23,U4.getD i []=U4.getD j []→i=j:=by decide +kernel
 exact congrArg Fin.val (key ⟨i,hi⟩ ⟨j,hj⟩ h)
theorem a2e (k:Nat) (h:k < K9.length):K9[k].word=⟨U4.getD k []⟩:=by
 have h3:k < 23:=h
 rcases Nat.eq_zero_or_pos k with rfl|h1
 ·rfl
 ·exact(a57 k h1 h).2.1
theorem a62 {k:Nat} (h2:k < 23):idx K9 (fun f=>decide (f.word=⟨U4.getD k []⟩))=(k:Int):=by
 refine a7P (show k < K9.length from h2) (decide_eq_true (a2e k h2)) fun j hj hjk=>decide_eq_false fun e => ?_
 have e2:=a8h (show j < 23 from hj) h2 (congrArg u0.l ((a2e j hj).symm.trans e))
 omega
theorem a9x {w:List UInt8} {k:Int} (h:idx K9 (fun f=>decide (f.word=⟨w⟩))=k) (h1:0≤k):∃ n:Nat,k=n∧n < 23∧U4.getD n []=w:=by
 have hx:=a8S K9 (fun f=>decide (f.word=⟨w⟩))
 rw [h,decide_eq_true h1] at hx
 obtain⟨f,hf,hw⟩:=List.any_eq_true.1 hx.symm
 obtain⟨n,hn,rfl⟩:=List.getElem_of_mem hf
 have h3:n < 23:=hn
 have e:U4.getD n []=w:=by
  exact congrArg u0.l ((a2e n hn).symm.trans (of_decide_eq_true hw))
 refine⟨n,?_,h3,e⟩
 rw [←h,←e,a62 h3]
def b2v (k:Int) (n:List Int) (l:List Pred) (h:u0):Step :=
 let s:Step:=⟨k,0,0,0,[],default,⟨[]⟩,default⟩
 let s:=if khl k=true then (G4 s).set h s else s
 a2z (C3 k) n { s with l9:=l }
theorem kinds {k:Int} (h:1≤k∧k < 23):k=1∨k=2∨k=3∨k=4∨k=5∨k=6∨k=7∨k=8∨k=9∨k=10∨k=11∨k=12∨k=13∨k=14∨k=15∨k=16∨k=17∨k=18∨k=19∨k=20∨k=21∨k=22:=by omega
theorem a63 {k:Int} (hk:1≤k∧k < 23) (n:List Int) (l:List Pred) (h:u0) (hn:n.length=(C3 k).length):b2v k n l h=a4q k n l h:=by
 rcases n with _|⟨a0,_|⟨a1,_|⟨a2,_|⟨a3,_|⟨a4,_|⟨a5,t⟩⟩⟩⟩⟩⟩<;>rcases kinds hk with rfl|rfl|rfl|rfl|rfl|rfl|rfl|rfl|rfl|rfl|rfl|rfl|rfl|rfl|rfl|rfl|rfl|rfl|rfl|rfl|rfl|rfl<;>first|rfl|(exfalso;revert hn;simp [C3])
theorem G5.made {s:Step} {t:List UInt8} (h:G5 s t):s=a4q s.Kind (p9 s) s.l9 ((G4 s).get s):=by
 have hf:=h.ok.full
 have hr:=I3 hf
 rw [←P8 s h.kind] at hf
 unfold I6 at hf
 simp only [Bool.or_eq_false_iff] at hf
 have h1:=hf.1
 rw [hr] at h1
 simpa using h1
theorem G5.b0R {s:Step} {t:List UInt8} (h:G5 s t) (hp:kpr s.Kind=false):s.l9 = []:=by
 have hr:=I3 h.ok.full
 unfold B0 at hr
 rw [hp] at hr
 exact hr.symm
theorem G5.a4t {s:Step} {t:List UInt8} (h:G5 s t) (hp:khl s.Kind=false):(G4 s).get s=⟨[]⟩:=by
 have hf:=h.ok.full
 rw [←P8 s h.kind] at hf
 unfold I6 at hf
 simp only [Bool.or_eq_false_iff] at hf
 have h1:=hf.2
 rw [hp] at h1
 simpa using h1
theorem a2F (k:Nat):∀ s:List UInt8,(Lib.splitK [59,32] 0 k s).length*2≤s.length+2:=by
 induction k with
 | zero=>intro s;simp [Lib.splitK]
 | succ k ih =>
  intro s
  rw [Lib.splitK]
  split
  ·simp
  ·rename_i h
   have hge:=Lib.index_ge s [59,32]
   have h0:0≤Lib.index s [59,32]:=by have:Lib.index s [59,32] ≠ -1:=fun e=>h (beq_iff_eq.2 e);omega
   have hr:=Lib.index_room s [59,32] h0
   have:=ih (s.drop ((Lib.index s [59,32]).toNat+([59,32]:List UInt8).length))
   rw [List.length_drop] at this
   simp only [List.length_cons,List.length_nil] at this hr ⊢
   omega
theorem a5h (s sep:List UInt8):0 < (Lib.split s sep).length:=by
 unfold Lib.split
 cases Lib.count s sep with
 | zero=>simp [Lib.splitK]
 | succ k=>rw [Lib.splitK];split<;>simp
theorem a3r (s:List UInt8):∀ x∈Lib.split s [59,32],x.length≤s.length:=fun x hx=>a18 _ _ _ _ x hx
theorem a9y (fs:List Fld) (n:List Int) (s:Step) (j:Nat) (h1:j < fs.length) (h2:j < n.length):a2z (fs.take (j+1)) (n.take (j+1)) s=(fs[j]).lens.set n[j] (a2z (fs.take j) (n.take j) s):=by
 have hz:∀ i,(fs.take i).zip (n.take i)=(fs.zip n).take i:=fun i=>List.take_zipWith.symm
 unfold a2z
 rw [hz,hz,List.take_succ_eq_append_getElem (by rw [List.length_zip];omega),List.foldl_append,List.getElem_zip];rfl
def a3I (l:List u0):List Int:=l.map fun x=>G7 x.l
def b0S (l:List u0):Nat:=l.findIdx fun x => !M8 x.l
def S2 (fs:List Fld) (ps:List u0) (s:Step):Bool×Step:=if fs.length≠ps.length then (false,s) else if b0S ps < ps.length then (false,a2z (fs.take (b0S ps)) ((a3I ps).take (b0S ps)) s) else (true,a2z fs (a3I ps) s)
theorem a64 {fs:List Fld} {ps:List u0} (s:Step) (hl:fs.length=ps.length) (h:∀ x∈ps,M8 x.l=true):S2 fs ps s=(true,a2z fs (a3I ps) s):=by
 have e:b0S ps=ps.length:=List.findIdx_eq_length.2 fun x hx=>by rw [h x hx];rfl
 unfold S2;rw [if_neg (by omega),if_neg (by omega)]
theorem b0T (b:Nat) (fs:List Fld) (ps:List u0) (s:Step) (hf:fs.length≤5) (hp:∀ x∈ps,x.l.length≤20000):E1 gl prog 51 [.v (a0h b fs),.v ps] [.ob (ptr b 0) s] (fun r Hs=>r = .v (S2 fs ps s).1∧Hs = [.ob (ptr b 0) (S2 fs ps s).2]):=by
 refine E1.M7 func51 rfl (by kernel_rfl) 35 rfl rfl _ rfl _ rfl fun C hC hG => ?_
 refine .q 6 hG ?_
 refine .a2m 1 a8 fun hl1 => ?_
 have hpl:=Q6 b fs
 refine .q 1 hG ?_
 refine .mv a8 (.p (.len underlying87 (.t a8) (.mv a8 (.p (.len underlying36 (.t a8) (.p (.a9a (.t a8) (.t a8) ?_)))))))
 refine .q 1 hG ?_
 refine .a1g (.t a8) (fun hc13 => ?_) (fun hc13 => ?_)
 ·refine .q 2 hG ?_
  refine .p (.assign .b ?_)
  refine .q 2 hG ?_
  refine .e1 a8 a8 ?_
  refine⟨_,.cons .z (.nil),?_⟩
  have e:S2 fs ps s=(false,s):=if_pos (by omega)
  rw [e];exact⟨rfl,rfl⟩
 ·refine .q 9 hG ?_
  refine .C2 (α:=Nat) [(0,_),(14,_),(15,_)] (fun j R=>(16,.v (j:Int))::R) (fun j => [(false,.ob (ptr b 0) (a2z (fs.take j) ((a3I ps).take j) s))]) (fun j=>j≤ps.length∧∀ i (h:i < ps.length),i < j→M8 ps[i].l=true) (fun j=>ps.length - j) (0) (.c2 a8 a8 (.cons a8 (.nil _))) ?_ (.c2 a8 a8 (.c2 a8 a8 (.nil _))) (a8) fun j hF => ?_
  ·exact⟨Nat.zero_le _,fun i hi hij=>absurd hij (Nat.not_lt_zero _)⟩
  obtain⟨h1,h2⟩:=hF
  refine .q 6 hG ⟨fun hc17 => ?_,fun hc17 => ?_⟩
  ·refine .q 4 hG ?_
   have hj:j < ps.length:=(by omega)
   have hjf:j < fs.length:=(by omega)
   refine .q 2 hG ?_
   refine .ix (by first|omega|(simp;done)|(simp;omega)|(simp at *;omega)) (by first|omega|(simp;done)|(simp;omega)|(simp at *;omega)) ?_
   refine .q 7 hG ?_
   refine .k hG (V4 _ (Nat.le_trans (hp _ (List.getElem_mem _)) (by decide))) ?_
   refine .q 10 hG ?_
   refine .p (.b0v underlying64 (.t a8) ?_)
   refine .q 1 hG ?_
   refine .cond (.t a8) (fun hc27 => ?_) (fun hc27 => ?_)
   ·refine .q 5 hG ?_
    refine .e1 a8 a8 ?_
    refine⟨_,.cons .z (.nil),?_⟩
    have eb:b0S ps=j:=(List.findIdx_eq hj).2 ⟨by simpa using hc27,fun i hij=>by rw [h2 i (by omega) hij];rfl⟩
    have e:S2 fs ps s=(false,a2z (fs.take j) ((a3I ps).take j) s):=(by unfold S2;rw [if_neg (by omega),if_pos (by omega),eb])
    rw [e];exact⟨rfl,rfl⟩
   ·refine .q 1 hG ?_
    have hok:M8 (ps[j]'hj).l=true:=(by simpa using hc27)
    refine .q 3 hG ?_
    refine .p (.idx a1L underlying87 (.t a8) (.t a8) (by first|omega|(simp;done)|(simp;omega)|(simp at *;omega)) (by first|omega|(simp;done)|(simp;omega)|(simp at *;omega)) (.p (.F1 a1L (.t a8) (.mv a8 (.p (.a0J (((fs)[j]'(by assumption)).lens) (.t a8) (by simp [a0h]) (.n (.stL A3 (.t a8) (.t a8) .z ?_))))))))
    refine .q 2 hG ?_
    refine .ad (by first|omega|(simp;done)|(simp;omega)|(simp at *;omega)) (by first|omega|(simp;done)|(simp;omega)|(simp at *;omega)) ?_
    refine .q 2 hG ?_
    refine⟨j+1,.c2 rfl rfl (.c2 rfl rfl (.nil _)),congrArg (fun q => [(false,C5.ob _ q)]) (by rw [a9y fs (a3I ps) s j (by omega) (by rw [a3I,List.length_map];exact hj)];simp [a3I]),?_,by omega⟩
    refine⟨by omega,fun i hi hij => ?_⟩;rcases Nat.lt_or_ge i j with h|h;exact h2 i hi h;(obtain rfl:i=j:=by omega);exact hok
  ·refine .q 6 hG ?_
   refine .e1 a8 a8 ?_
   refine⟨_,.cons .z (.nil),?_⟩
   have e:=a64 (fs:=fs) (ps:=ps) s (by omega) (fun x hx=>by obtain⟨i,hi,rfl⟩:=List.getElem_of_mem hx;exact h2 i hi (by omega))
   rw [e,List.take_of_length_le (show fs.length≤j by omega),List.take_of_length_le (show(a3I ps).length≤j by rw [a3I,List.length_map];omega)];exact⟨rfl,rfl⟩
theorem a65 (l:List j5) (p:j5→Bool):y6 gl prog 48 [.v l,.a9j prog p] (fun r=>r = .v (idx l p)):=by
 refine y6.jn func48 (by kernel_rfl) 19 rfl fun C hC hG => ?_
 refine .q 6 hG ?_
 refine .a2m 0 a8 fun hl0 => ?_
 refine .q 6 hG ?_
 refine .C2 (α:=Nat) [(0,_),(1,_),(7,_)] (fun k R=>(8,.v (k:Int))::R) (fun k => []) (fun k=>k≤l.length∧∀ j (hj:j < l.length),j < k→p l[j]=false) (fun k=>l.length - k) (0) (.c2 a8 a8 (.cons a8 (.nil _))) ?_ (.c2 a8 a8 (.c2 a8 a8 (.nil _))) (a8) fun k hF => ?_
 ·simp
 obtain⟨h1,h2⟩:=hF
 refine .q 6 hG ⟨fun hc9 => ?_,fun hc9 => ?_⟩
 ·refine .q 13 hG ?_
  refine .ix (by first|omega|(simp;done)|(simp;omega)|(simp at *;omega)) (by first|omega|(simp;done)|(simp;omega)|(simp at *;omega)) ?_
  refine .q 1 hG ?_
  refine .p (.a6B a8 (.t a8) ?_)
  refine .q 1 hG ?_
  refine .cond (.t a8) (fun hc16 => ?_) (fun hc16 => ?_)
  ·refine .q 6 hG ?_
   refine .e1 a8 a8 ?_
   rw [a7P (by omega) (by simpa using hc16) h2]
  ·refine .q 2 hG ?_
   refine .ad (by first|omega|(simp;done)|(simp;omega)|(simp at *;omega)) (by first|omega|(simp;done)|(simp;omega)|(simp at *;omega)) ?_
   refine .q 2 hG ?_
   refine⟨k+1,.c2 rfl rfl (.c2 rfl rfl (.nil _)),rfl,?_,by omega⟩
   refine⟨by omega,fun j hj hjk => ?_⟩;rcases Nat.lt_or_ge j k with h|h;exact h2 j hj h;(obtain rfl:j=k:=by omega);simpa using hc16
 ·refine .q 3 hG ?_
  refine .p (.assign (.i a8) ?_)
  refine .q 2 hG ?_
  refine .e1 a8 a8 ?_
  rw [a4a fun j hj=>h2 j hj (by omega)]
theorem b3B (w0:List UInt8) (WR:List (List UInt8)) (f:j5):y6 gl prog 49 [.v f,.p ((w0::WR).map u0.mk)] (fun r=>r = .v (decide (f.word=⟨w0⟩))):=by
 refine y6.jn func49 (by kernel_rfl) 10 rfl fun C hC hG => ?_
 refine .q 3 hG fun b2 => ?_
 refine .q 3 hG ?_
 refine .draw (by kernel_rfl) 7 [[],[(4,0)],[],[(6,2)],[(7,3)],[(5,1),(8,4)],[(9,5)]] a8 (by kernel_rfl) a8 ?_
 refine⟨_,j7.y7 j5.l0 a99 a8 (.t a8) a8,?_⟩
 refine⟨_,j7.ldF (fun x=>x.word) ty9 (.t a8) .z (fun _=>a8) a8,?_⟩
 refine⟨_,j7.F1 b1E (.t a8) a8,?_⟩
 refine⟨_,j7.idx ty9 underlying36 (.t a8) (.i a8) (by first|omega|(simp;done)|(simp;omega)|(simp at *;omega)) (by first|omega|(simp;done)|(simp;omega)|(simp at *;omega)) a8,?_⟩
 refine⟨_,j7.F1 ty9 (.t a8) a8,?_⟩
 refine⟨_,j7.b0e (.t a8) (.t a8) a8,?_⟩
 refine⟨_,j7.assign (.t a8) a8,?_⟩
 show C4 _ _ _ _ _ [] ((3,_)::(9,_)::(8,_)::(7,_)::(6,_)::(5,_)::(4,_)::_) _
 refine .q 2 hG ?_
 refine .e1 a8 a8 ?_
 rfl
theorem G5.b4R {s:Step} {t p0 w0:List UInt8} {PR WR:List (List UInt8)} (h:G5 s t) (hP:Lib.split t [59,32]=p0::PR) (hW:A0 32 p0=w0::WR):PR=a09 s∧WR=(p9 s).map Lib.itoa∧idx K9 (fun f=>decide (f.word=⟨w0⟩))=s.Kind:=by
 rw [h.split,parts_eq] at hP
 injection hP with h1 h2
 rw [←h1,a0d] at hW
 injection hW with h3 h4
 have hk:=h.kind
 have h5:=a62 (k:=s.Kind.toNat) (by omega)
 rw [h3] at h5
 exact⟨h2.symm,h4.symm,by rw [h5];omega⟩
def st0 (k:Int):Step:=⟨k,0,0,0,[],default,⟨[]⟩,default⟩
def st1 (k:Int) (h:u0):Step:=if khl k=true then (G4 (st0 k)).set h (st0 k) else st0 k
def stL (k:Int) (h:u0) (l:List Pred):Step := { st1 k h with l9:=l }
theorem b0U (k:Int) (n:List Int) (l:List Pred) (h:u0):b2v k n l h=a2z (C3 k) n (stL k h (l)):=rfl
theorem G5.list {s:Step} {t:List UInt8} {QS:List (List UInt8)} {h9:List UInt8} (h:G5 s t) (hk:khl s.Kind=true) (hP:QS ++ [h9]=a09 s):QS=s.l9.map D3∧(G4 s).get s=⟨h9⟩:=by
 unfold a09 at hP
 rw [if_pos hk] at hP
 obtain⟨h1,h2⟩:=List.append_inj' hP rfl
 injection h2 with h2
 exact⟨h1,by rw [h2]⟩
theorem G5.b2w {s:Step} {t:List UInt8} {QS:List (List UInt8)} (h:G5 s t) (hk:khl s.Kind=false) (hP:QS=a09 s):QS=s.l9.map D3∧(G4 s).get s=⟨[]⟩:=by
 unfold a09 at hP
 rw [if_neg (by rw [hk];decide),List.append_nil] at hP
 exact⟨hP,h.a4t hk⟩
theorem a9z {s:Step} {t:List UInt8} (h:G5 s t):a3I (((p9 s).map Lib.itoa).map u0.mk)=p9 s:=by
 unfold a3I
 rw [List.map_map,List.map_map]
 conv=>rhs;rw [←List.map_id (p9 s)]
 refine List.map_congr_left fun n hn => ?_
 obtain⟨h0,h1⟩:=a6f (h.ok.num n hn)
 show G7 (Lib.itoa n)=n
 unfold G7;rw [a25 h0 h1]
theorem G5.built {s:Step} {t:List UInt8} {k:Nat} {h9:u0} (h:G5 s t) (hk:(k:Int)=s.Kind) (hh:(G4 s).get s=h9):S2 (C3 k) (((p9 s).map Lib.itoa).map u0.mk) (stL k h9 (s.l9))=(true,s):=by
 rw [a64 _ (by rw [List.length_map,List.length_map,a0O,hk]) (fun x hx => ?_),a9z h,←b0U,a63 (by have:=h.kind;omega) _ _ _ (by rw [a0O,hk]),hk,←hh,←h.made]
 obtain⟨y,hy,rfl⟩:=List.mem_map.1 hx
 obtain⟨n,hn,rfl⟩:=List.mem_map.1 hy
 obtain⟨h0,h1⟩:=a6f (h.ok.num n hn)
 show M8 (Lib.itoa n)=true
 unfold M8;rw [a25 h0 h1]
theorem a2f (fs:List Fld) (n:List Int) (s:Step):(a2z fs n s).l9=s.l9:=by
 unfold a2z
 generalize fs.zip n=l
 induction l generalizing s with
 | nil=>rfl
 | cons p l ih=>rw [List.foldl_cons,ih];obtain⟨f,m⟩:=p;cases f<;>rfl
theorem a3s (fs:List Fld) (ps:List u0) (s:Step):(S2 fs ps s).2.l9=s.l9:=by
 unfold S2
 split
 ·rfl
 split
 ·exact a2f _ _ _
 ·exact a2f _ _ _
theorem a66 {s:Step} {t:u0} (h:(decide ((D0 s).2=0)&&decide ((D0 s).1=t))=true):G5 s t.l:=by
 simp only [Bool.and_eq_true,decide_eq_true_eq] at h
 exact G5.of (Prod.ext h.2 h.1)
theorem a5i {s:Step} {t:u0} (h:G5 s t.l):(decide ((D0 s).2=0)&&decide ((D0 s).1=t))=true:=by rw [h.line];simp
theorem G5.uniq {s s':Step} {t:List UInt8} (h:G5 s t) (h':G5 s' t):s=s':=by
 have e:=h.split.symm.trans h'.split
 rw [parts_eq,parts_eq] at e
 injection e with e1 e2
 have e3:=a0d s.Kind.toNat (p9 s)
 rw [e1,a0d] at e3
 injection e3 with e4 e5
 have hk:=h.kind
 have hk':=h'.kind
 have e6:=a8h (by omega) (by omega) e4
 have hkk:(s.Kind.toNat:Int)=s.Kind:=by omega
 have hkk':(s.Kind.toNat:Int)=s'.Kind:=by omega
 have e7:s.l9=s'.l9∧(G4 s).get s=(G4 s').get s':=by
  have hmap:∀ (a b:List Pred),(∀ p∈a,p8 p=true)→(∀ p∈b,p8 p=true)→a.map D3=b.map D3→a=b:=by
   intro a
   induction a with
   | nil=>intro b _ _ hb;exact(List.map_eq_nil_iff.1 hb.symm).symm
   | cons p a ih =>
    intro b ha hb hm
    cases b with
    | nil=>cases hm
    | cons q b =>
     injection hm with h1 h2
     rw [a6H (ha p (by simp)) (hb q (by simp)) h1,ih b (fun x hx=>ha x (by simp [hx])) (fun x hx=>hb x (by simp [hx])) h2]
  unfold a09 at e2
  have hsk:s.Kind=s'.Kind:=by omega
  cases hh:khl s.Kind with
  | true =>
   rw [if_pos hh,if_pos (by rw [←hsk];exact hh)] at e2
   obtain⟨h1,h2⟩:=List.append_inj' e2 rfl
   injection h2 with h2
   refine⟨hmap _ _ h.ok.pred h'.ok.pred h1,?_⟩
   cases hx:(G4 s).get s;cases hy:(G4 s').get s'
   rw [hx,hy] at h2;exact congrArg u0.mk h2
  | false =>
   rw [if_neg (by rw [hh];decide),if_neg (by rw [←hsk,hh];decide),List.append_nil,List.append_nil] at e2
   exact⟨hmap _ _ h.ok.pred h'.ok.pred e2,by rw [h.a4t hh,h'.a4t (by rw [←hsk];exact hh)]⟩
 have b1:=h.built hkk rfl
 have b2:=h'.built hkk' rfl
 rw [e7.1,e7.2,←e5] at b1
 rw [b1] at b2
 exact congrArg Prod.snd b2
end Go.Proofs.YtfkbejimghamkaaGreatDoor
namespace Go.Ab
open Go.Fl Go.RowKit
open p6 (rep)
section b1X
variable {P:Program} {C:Ctx} {N:Nat} {σ:u5} {H:j6} {Q:Exit→u5→j6→Prop}
theorem C1.fz {w:Value} {a:AV} {b:Bool} {F:Bool×C5→j6} (hH:C1 H (b,.fz w a) F) {n0:Nat} {I:Im} {L:Lh} (hr:P2 n0 I H L):D2 I a w:=by
 obtain⟨i,X,h1,h2,h3⟩:=hH.get hr
 exact h2.1.2
theorem H6.b1X {α β:Type} {r:p6 α} {s:p6 β} {w:Value} {x:α} {y:β} {b:Bool} {c:Code} {F:Bool×C5→j6} (hH:C1 H (b,.ob w x) F) (h:∀ n0 I L,P2 n0 I H L→∀ cs,r.rep I x cs→s.rep I y cs) (k:H6 P C N c Q σ (F (b,.ob w y))):H6 P C N c Q σ H:=fun ρ I L hs=>by
 obtain⟨i,X,h2,h3,h4⟩:=hH.get hs.heap
 have hset:L.set i X=L:=by
  obtain⟨hi,e⟩:=List.getElem?_eq_some_iff.1 h2
  rw [←e,List.set_getElem_self]
 obtain⟨⟨bb,T,cs,e1,e2,e3⟩,h5⟩:=h3
 have:=h4 I (b,.ob w y) X (Le.refl I) ⟨⟨bb,T,cs,e1,e2,h _ I L hs.heap cs e3⟩,h5⟩
 rw [hset] at this
 exact k ρ I L ⟨hs.env,this,hs.U0⟩
end b1X
section rawOps
variable {P:Program} {C:Ctx} {N:Nat} {σ:u5} {H:j6}
end rawOps
end Go.Ab
namespace Go.Proofs.YtfkbejimghamkaaGreatDoor
open Go.Proofs.Tryz
open Go.Fl Go.Ab Go.Mac Go.Sha Go.Lib
structure u9 where
 Kind:Int
 A:Int
 B:Int
 N:Int
 l9:a08
 T5:o9
 F6:u0
 Context:j8
def u9.f (x:u9):Int×Int×Int×Int×a08×o9×u0×j8×Unit:=(x.Kind,x.A,x.B,x.N,x.l9,x.T5,x.F6,x.Context,())
instance:Inhabited u9:=⟨⟨default,default,default,default,default,default,default,default⟩⟩
instance:p6 u9:=p6.via u9.f
instance:J3 u9:=J3.via u9.f rfl
def u9.l0:p5 u9 Int:=p5.via u9.f p5.fst (fun x=>x.Kind) (fun y x => { x with Kind:=y }) (fun _=>rfl) (fun _ _=>rfl)
def u9.l4:p5 u9 a08:=p5.via u9.f (p5.snd.comp (p5.snd.comp (p5.snd.comp (p5.snd.comp p5.fst)))) (fun x=>x.l9) (fun y x => { x with l9:=y }) (fun _=>rfl) (fun _ _=>rfl)
def u9.l6:p5 u9 u0:=p5.via u9.f (p5.snd.comp (p5.snd.comp (p5.snd.comp (p5.snd.comp (p5.snd.comp (p5.snd.comp p5.fst)))))) (fun x=>x.F6) (fun y x => { x with F6:=y }) (fun _=>rfl) (fun _ _=>rfl)
def u9.l7:p5 u9 j8:=p5.via u9.f (p5.snd.comp (p5.snd.comp (p5.snd.comp (p5.snd.comp (p5.snd.comp (p5.snd.comp (p5.snd.comp p5.fst))))))) (fun x=>x.Context) (fun y x => { x with Context:=y }) (fun _=>rfl) (fun _ _=>rfl)
theorem a8Y:G3 prog 24 a08 := .ok (by kernel_rfl)
theorem b0V:G3 prog 30 u9 := .ok (by kernel_rfl)
def a4u (s:Step) (u:Value):u9:=⟨s.Kind,s.A,s.B,s.N,⟨u⟩,s.T5,s.F6,s.Context⟩
theorem a5j {s:Step} {u:Value} {I:Im} {cs:List Value} (h:p6.rep I (a4u s u) cs) (hg:D2 I (.v s.l9) u):p6.rep I s cs:=by
 obtain⟨c1,r1,rfl,h1,c2,r2,rfl,h2,c3,r3,rfl,h3,c4,r4,rfl,h4,c5,r5,rfl,⟨rfl,_⟩,h6⟩:=h
 obtain⟨_,⟨v,rfl,h5⟩,rfl⟩:=hg
 exact⟨c1,_,a8,h1,c2,_,a8,h2,c3,_,a8,h3,c4,_,a8,h4,_,_,a8,⟨_,a8,h5⟩,h6⟩
def a27 (s:u9):p5 u9 u0:=if s.Kind=8 then u9.l6 else u9.l7.comp j8.l3
theorem a67 (b:Nat) (s:u9):E1 gl prog 36 [.ln (ptr b 0) (p5.id (α:=u9))] [.ob (ptr b 0) s] (fun r Hs=>r = .ln (ptr b 0) (a27 s)∧Hs = [.ob (ptr b 0) s]):=by
 refine E1.M7 func36 rfl (by kernel_rfl) 15 rfl rfl _ rfl _ rfl fun C hC hG => ?_
 refine .q 2 hG ?_
 refine .p (.assign .raw ?_)
 refine .q 4 hG ?_
 refine .mv a8 (.p (.y8 (.t a8) (.p (.y7 u9.l0 a3Z a8 (.t a8) (.p (.ldF (fun x=>x.Kind) A3 (.t a8) .z (fun _=>a8) (.p (.a5y (.t a8) (.i a8) ?_))))))))
 refine .q 1 hG ?_
 refine .a1g (.t a8) (fun hc7 => ?_) (fun hc7 => ?_)
 ·refine .q 2 hG ?_
  refine .mv a8 (.p (.y8 (.t a8) (.p (.y7 u9.l6 a2N a8 (.t a8) (.ag a8 ?_)))))
  refine .q 2 hG ?_
  refine .e1 a8 a8 ?_
  refine⟨_,.cons .z (.nil),?_⟩
  exact⟨by unfold a27;rw [if_pos hc7],rfl⟩
 ·refine .q 3 hG ?_
  refine .mv a8 (.p (.y8 (.t a8) (.p (.y7 u9.l7 P6 a8 (.t a8) (.p (.a5L j8.l3 a7z a8 (.t a8) (.ag a8 ?_)))))))
  refine .q 2 hG ?_
  refine .e1 a8 a8 ?_
  refine⟨_,.cons .z (.nil),?_⟩
  exact⟨by unfold a27;rw [if_neg hc7],rfl⟩
abbrev a68 (k:Int):u9:=⟨k,0,0,0,default,default,⟨[]⟩,default⟩
theorem b1Y (k:Int) (h:u0) (hk:khl k=true):(a27 (a68 k)).set h (a68 k)=a4u (stL k h []) (.slice none 0 0):=by
 unfold stL st1 a27 G4
 rw [if_pos hk]
 by_cases h8:k=8
 ·rw [if_pos (show(a68 k).Kind=8 from h8),if_pos (show(st0 k).Kind=8 from h8)];rfl
 ·rw [if_neg (show ¬(a68 k).Kind=8 from h8),if_neg (show ¬(st0 k).Kind=8 from h8)];rfl
theorem b1Z (k:Int) (h:u0) (hk:khl k=false):a68 k=a4u (stL k h []) (.slice none 0 0):=by
 unfold stL st1
 rw [if_neg (by rw [hk];decide)];rfl
theorem a8Z {α:Type} {l:List α} (h:l ≠ []):∃ a x,l=a ++ [x]:=⟨l.dropLast,l.getLast h,(List.dropLast_concat_getLast h).symm⟩
theorem S3 {s:Step} {t:List UInt8} {QS:List (List UInt8)} {l:List Pred} {j:Nat} (h:G5 s t) (hq:QS=s.l9.map D3) (hl:l=s.l9.take j) (hj:j < QS.length):(a1K ⟨QS[j]⟩ 8).2=0∧l ++ [(a1K ⟨QS[j]⟩ 8).1]=s.l9.take (j+1):=by
 subst hq
 have hj2:j < s.l9.length:=by simpa using hj
 have hp:=h.ok.pred _ (List.getElem_mem hj2)
 have e:=a50 (s:=⟨(s.l9.map D3)[j]⟩) (e:=8) hp (by simp)
 rw [e]
 exact⟨rfl,by rw [hl,List.take_succ_eq_append_getElem hj2]⟩
theorem b3C (t:u0) (ht:t.l.length≤7900):y6 gl prog 22 [.v t] (fun r=>∃ s ok,r = .t2 (.v s) (.v ok)∧(ok=true→G5 s t.l)∧(ok=false→∀ s',¬G5 s' t.l)):=by
 refine y6.jn func22 (by kernel_rfl) 99 rfl fun C hC hG => ?_
 refine .q 3 hG fun b2 => ?_
 refine .q 3 hG ?_
 have hps:=a5h t.l [59,32]
 have hpc:=a2F (Lib.count t.l [59,32]) t.l
 have hsm:=a3r t.l
 refine .q 2 hG ?_
 refine .p (.A4 hG (a6T _ _ (by decide) (by omega)) (.cons (.t a8) (.cons (.s [59,32] (by decide) (by decide)) .nil)) ?_)
 obtain⟨PS,hPS⟩:∃ x,Lib.split t.l [59,32]=x:=⟨_,rfl⟩
 change Lib.splitK _ _ _ _=PS at hPS
 rw [hPS] at hpc
 change Lib.split t.l [59,32]=PS at hPS
 rw [hPS] at hps hsm
 rw [show Lib.split t.l (u0.mk [59,32]).l=PS from hPS]
 rcases PS with _|⟨p0,PR⟩
 ·exact absurd hps (Nat.lt_irrefl 0)
 refine .q 5 hG ?_
 refine .ix (by first|omega|(simp;done)|(simp;omega)|(simp at *;omega)) (by first|omega|(simp;done)|(simp;omega)|(simp at *;omega)) ?_
 refine .q 1 hG ?_
 rw [show(List.map u0.mk (p0::PR))[Int.toNat 0]'(Nat.succ_pos _)=u0.mk p0 from rfl]
 refine .p (.A4 hG (a4j _ _ (by have:=hsm p0 (List.mem_cons_self ..);show p0.length≤_;omega)) (.cons (.t rfl) (.cons (.s [32] (by decide) (by decide)) .nil)) ?_)
 dsimp only
 obtain⟨W,hW⟩:∃ x,A0 32 p0=x:=⟨_,rfl⟩
 have hwl:=Z9 32 p0
 rw [hW] at hwl
 have hw9:=a1w 32 p0
 rw [hW] at hw9
 rw [hW]
 rcases W with _|⟨w0,WR⟩
 ·exact absurd rfl hw9
 refine .q 1 hG fun b5 => ?_
 refine .q 4 hG ?_
 refine .k hG (a8Q.toV) ?_
 refine .q 3 hG ?_
 refine .a3h hC .z (.asP 5 a8 .z ?_)
 refine .q 2 hG ?_
 refine .p (.b2Z hG (fun f=>b3B w0 WR f) (.cons (.t a8) .nil) (.p (.A4 hG (a65 _ _) (.cons (.t a8) (.cons (.t a8) .nil)) ?_)))
 obtain⟨kk,hkk⟩:∃ x,idx K9 (fun f=>decide (f.word=⟨w0⟩))=x:=⟨_,rfl⟩
 rw [hkk]
 have hsd:∀ s',G5 s' t.l→PR=a09 s'∧WR=(p9 s').map Lib.itoa∧kk=s'.Kind:=(fun s' h=>by have:=h.b4R hPS hW;rw [hkk] at this;exact this)
 refine .q 9 hG ⟨fun hc28 => ?_,fun hc28 => ?_⟩
 ·refine .q 2 hG ?_
  refine .p (.bS0 (α:=j4) a8 q9 a1a ?_)
  refine .q 4 hG ?_
  refine⟨_,.r2 a8 (.cell q9 a8 .z1) (.tmp a8),?_⟩
  exact⟨_,false,rfl,fun h=>Bool.noConfusion h,fun _ s' hs'=>by have:=(hsd s' hs').2.2;have:=hs'.kind;omega⟩
 ·refine .q 2 hG ?_
  have hfl:K9.length=23:=rfl
  obtain⟨k,rfl,hk23,hkw⟩:=a9x hkk (by omega)
  obtain⟨hf,hw,hp,hh⟩:=a57 k (by omega) (by show _ < 23;omega)
  obtain⟨fn,hn,hnum⟩:=hf.num
  refine .b4m [j1,j1] [(8,(⟨u9,inferInstance,default⟩:AT)),(9,(⟨j5,inferInstance,default⟩:AT))] (by kernel_rfl) 13 [[],[(30,0)],[],[],[(32,2),(33,3)],[(34,4)],[],[(36,6)],[],[],[(8,8),(31,1)],[(9,9),(35,5)],[(37,7)]] [10,11] rfl (by kernel_rfl) rfl (by kernel_rfl) (by decide) (by simp) (List.forall_mem_cons.2 ⟨fun o ho=>by obtain rfl:=Option.some.inj (show some _=some o from ho);exact⟨rfl,fun _ _=>A9.alloc b0V fun b=>⟨b,rfl,rfl⟩⟩,(List.forall_mem_cons.2 ⟨fun o ho=>by obtain rfl:=Option.some.inj (show some _=some o from ho);exact⟨rfl,fun _ _=>A9.alloc U3 fun b=>⟨b,rfl,rfl⟩⟩,(fun p hp=>by cases hp)⟩)⟩) ?_
  refine⟨_,fun H=>j7.move (.t a8) a8,?_⟩
  refine⟨_,fun H=>j7.bS1 u9.l0 a8 b0V a1a (fun c0=>(⟨c0,0,0,0,default,default,⟨[]⟩,default⟩:u9)) (fun _=>a8) a8 a8 (.t a8) a8,?_⟩
  refine⟨_,fun H=>j7.move (.t a8) a8,?_⟩
  refine⟨_,fun H=>j7.move (.t a8) a8,?_⟩
  refine⟨_,fun H=>j7.idx U3 underlying81 (.t a8) (.t a8) (by first|omega|(simp;done)|(simp;omega)|(simp at *;omega)) (by first|omega|(simp;done)|(simp;omega)|(simp at *;omega)) a8,?_⟩
  refine⟨_,fun H=>j7.F1 U3 (.t a8) a8,?_⟩
  refine⟨_,fun H=>j7.move (.t a8) a8,?_⟩
  refine⟨_,fun H=>j7.b1y ty9 underlying36 (.c a8) (.i a8) (by first|omega|(simp;done)|(simp;omega)|(simp at *;omega)) (by first|omega|(simp;done)|(simp;omega)|(simp at *;omega)) a8,?_⟩
  refine .inl (.inl (.inl (.inl ?_)))
  refine⟨_,fun H=>j7.assign (.t a8) a8,?_⟩
  refine⟨a8,fun ws7 => ?_⟩
  refine⟨⟨([_,_],j2 [c8,c8]),a8⟩,?_⟩
  refine A9.W1 b0V (.t rfl) (.t rfl) .z ?_
  refine⟨⟨([_,_],j2 [c8,c8]),a8⟩,?_⟩
  refine A9.W1 U3 (.t rfl) (.t rfl) .z1 ?_
  refine⟨⟨([_,_],j2 [c8,c8]),a8⟩,?_⟩
  show C4 _ _ _ _ _ [] ((10,_)::(9,_)::(8,_)::(37,_)::(36,_)::(35,_)::(34,_)::(33,_)::(32,_)::(31,_)::(30,_)::_) _
  simp only [Int.toNat_natCast]
  rw [show List.drop (Int.toNat 1) (List.map u0.mk (p0::PR))=List.map u0.mk PR from rfl]
  generalize hfe:K9[k]=f at hf hw hp hh hn ⊢
  refine .q 4 hG ?_
  refine .p (.y7 j5.l3 b0a a8 (.t a8) (.p (.ldF (fun x=>x.a0r) ty4 (.t a8) .z1 (fun _=>a8) ?_)))
  refine .q 1 hG ?_
  refine .cond (.t a8) (fun hc39 => ?_) (fun hc39 => ?_)
  ·refine .q 8 hG ⟨fun hc42 => ?_,fun hc42 => ?_⟩
   ·refine .q 2 hG ?_
    refine .p (.bS0 (α:=j4) a8 q9 a1a (.n (.W1 q9 (.t a8) (.t a8) .z3 (.p (.assign .b ?_)))))
    refine .q 2 hG ?_
    refine⟨_,.r2 a8 (.cell q9 a8 .z3) (.tmp a8),?_⟩
    exact⟨_,false,rfl,fun h=>Bool.noConfusion h,fun _ s' hs'=>by obtain⟨q1,_,q3⟩:=hsd s' hs';unfold a09 at q1;rw [if_pos (show khl s'.Kind=true by rw [←q3,←hh];exact hc39)] at q1;have:PR.length=0:=(by simpa using hc42);rw [q1] at this;simp at this⟩
   ·refine .q 1 hG ?_
    have hkh:khl k=true:=(by rw [←hh];exact hc39)
    obtain⟨QS,h9,rfl⟩:=a8Z (l:=PR) (by intro e;subst e;exact hc42 rfl)
    have hml:(List.map u0.mk (QS ++ [h9])).length=QS.length+1:=(by simp)
    refine .D7 [j0,j1,j1,j1] (by kernel_rfl) 15 [[],[],[],[(46,2)],[(47,3)],[(45,1),(48,4)],[(49,5)],[],[],[(52,8)],[(53,9)],[(51,7),(54,10)],[(44,0)],[(56,12),(50,6)],[(55,11)]] [0,12,13] a8 (by kernel_rfl) a8 (by kernel_rfl) (by decide) (.inl ?_)
    refine⟨_,fun H=>j7.move (.t a8) a8,?_⟩
    refine⟨_,fun H=>j7.move (.t a8) a8,?_⟩
    refine⟨_,fun H=>j7.len underlying36 (.t a8) a8,?_⟩
    refine⟨_,fun H=>j7.sub (.t a8) (.i a8) (by first|omega|(simp;done)|(simp;omega)|(simp at *;omega)) (by first|omega|(simp;done)|(simp;omega)|(simp at *;omega)) a8,?_⟩
    refine⟨_,fun H=>j7.idx ty9 underlying36 (.t a8) (.t a8) (by first|omega|(simp;done)|(simp;omega)|(simp at *;omega)) (by first|omega|(simp;done)|(simp;omega)|(simp at *;omega)) a8,?_⟩
    refine⟨_,fun H=>j7.F1 ty9 (.t a8) a8,?_⟩
    refine⟨_,fun H=>j7.move (.t a8) a8,?_⟩
    refine⟨_,fun H=>j7.move (.t a8) a8,?_⟩
    refine⟨_,fun H=>j7.len underlying36 (.t a8) a8,?_⟩
    refine⟨_,fun H=>j7.sub (.t a8) (.i a8) (by first|omega|(simp;done)|(simp;omega)|(simp at *;omega)) (by first|omega|(simp;done)|(simp;omega)|(simp at *;omega)) a8,?_⟩
    refine⟨_,fun H=>j7.b2S ty9 underlying36 (.t a8) (.t a8) (by first|omega|(simp;done)|(simp;omega)|(simp at *;omega)) (by first|omega|(simp;done)|(simp;omega)|(simp at *;omega)) a8,?_⟩
    refine .inl (.inl ?_)
    refine⟨_,fun H=>j7.assign (.t a8) a8,?_⟩
    refine⟨⟨([],j2 [_,c8,c8,c8]),a8⟩,?_⟩
    refine A9.H9 hG (a67 _ _) .z (.cons (.t rfl) .nil) (by rintro _ _ ⟨_,rfl⟩;exact⟨_,rfl⟩) fun r44 B44 hr44 => ?_
    obtain⟨rfl,hB⟩:=hr44
    cases hB
    refine⟨⟨([],j2 [_,c8,c8,c8]),a8⟩,?_⟩
    refine A9.ofP (j7.y8 (.t rfl) ?_)
    refine⟨⟨([],j2 [_,c8,c8,c8]),a8⟩,?_⟩
    refine A9.stL ty9 (.t rfl) (.t rfl) .z ?_
    refine⟨⟨([],j2 [_,c8,c8,c8]),a8⟩,?_⟩
    show C4 _ _ _ _ _ [] ((10,_)::(56,_)::(55,_)::(54,_)::(53,_)::(52,_)::(51,_)::(50,_)::(49,_)::(48,_)::(47,_)::(46,_)::(45,_)::(44,_)::_) _
    rw [(fun p=>by simp:∀ p,(List.map u0.mk (QS ++ [h9]))[(((List.map u0.mk (QS ++ [h9])).length:Int) - 1).toNat]'p=u0.mk h9)]
    rw [show(((List.map u0.mk (QS ++ [h9])).length:Int) - 1).toNat=QS.length from by omega]
    rw [show List.take QS.length (List.map u0.mk (QS ++ [h9]))=List.map u0.mk QS from by simp]
    refine .q 3 hG ?_
    obtain⟨h9s,hh9,hqs⟩:∃ h9s:u0,h9s=⟨h9⟩∧∀ s',G5 s' t.l→QS=s'.l9.map D3∧(G4 s').get s'=h9s:=⟨⟨h9⟩,rfl,fun s' hs'=>hs'.list (by rw [←(hsd s' hs').2.2];exact hkh) (hsd s' hs').1⟩
    have hql:QS.length*2≤7900:=(by simp at hpc;omega)
    have hqm:∀ x∈QS,x.length≤7900:=(fun x hx=>by have:=hsm x (by simp [hx]);omega)
    have hmq:(List.map u0.mk QS).length=QS.length:=List.length_map _
    have hobj:(a27 (a68 k)).set ⟨h9⟩ (a68 k)=a4u (stL k h9s []) (.slice none 0 0):=(by rw [hh9];exact b1Y k _ hkh)
    refine .V0 39 Pred ?_
    refine .q 6 hG ?_
    refine .C2 (α:=Nat×List Pred×Value) [(0,_),(2,_),(5,_),(8,_),(9,_),(57,_),(58,_)] (fun x R=>(59,.v (x.1:Int))::R) (fun x => [(true,.own 39 x.2.2 x.2.1),(true,.ob (ptr (ws7 8) 0) (a4u (stL k h9s x.2.1) x.2.2)),(true,.ob (ptr (ws7 9) 0) f),(true,.fz (ptr b5 0) (.p (List.map u0.mk (w0::WR)))),(true,.ob (ptr b2 0) (default:Step))]) (fun x=>x.1≤QS.length∧x.2.1.length=x.1∧∀ s',G5 s' t.l→x.2.1=s'.l9.take x.1) (fun x=>QS.length - x.1) ((0,[],.slice none 0 0)) (.c2 a8 a8 (.c2 a8 a8 (.c2 a8 a8 (.cons a8 (.nil _))))) ?_ (.c2 a8 a8 (.c2 a8 a8 (.c2 a8 a8 (.c2 a8 a8 (.nil _))))) (congrArg (fun z => [(true,C5.own 39 (Value.slice none 0 0) ([]:List Pred)),(true,C5.ob (ptr (ws7 8) 0) z),(true,C5.ob (ptr (ws7 9) 0) f),(true,C5.fz (ptr b5 0) (.p (List.map u0.mk (w0::WR)))),(true,C5.ob (ptr b2 0) (default:Step))]) hobj) fun x hF => ?_
    ·exact⟨Nat.zero_le _,a8,fun _ _=>a8⟩
    obtain⟨j,l,u⟩:=x
    obtain⟨f1,f2,f3⟩:=hF
    dsimp only at f1 f2 f3 ⊢
    refine .q 6 hG ⟨fun hc60 => ?_,fun hc60 => ?_⟩
    ·refine .q 4 hG ?_
     have hj:j < QS.length:=(by omega)
     refine .q 1 hG ?_
     refine .ix (by first|omega|(simp;done)|(simp;omega)|(simp at *;omega)) (by first|omega|(simp;done)|(simp;omega)|(simp at *;omega)) ?_
     refine .q 2 hG ?_
     simp only [List.getElem_map,Int.toNat_natCast]
     have hqj:=hqm _ (List.getElem_mem hj)
     refine .q 4 hG ?_
     refine .k hG (a3p _ (by first|omega|(simp;done)|(simp;omega)|(simp at *;omega))) ?_
     refine .q 4 hG fun b13 => ?_
     refine .q 10 hG ⟨fun hc69 => ?_,fun hc69 => ?_⟩
     ·refine .q 2 hG ?_
      refine .p (.bS0 (α:=j4) a8 q9 a1a ?_)
      refine .q 4 hG ?_
      refine⟨_,.r2 a8 (.cell q9 a8 .z5) (.tmp a8),?_⟩
      exact⟨_,false,a8,fun h=>Bool.noConfusion h,fun _ s' hs'=>hc69 (S3 hs' (hqs s' hs').1 (f3 s' hs') hj).1⟩
     ·refine .q 2 hG ?_
      refine .p (.y7 u9.l4 a13 a8 (.t a8) (.p (.ldR (fun x=>x.l9) a8Y (.t a8) .z2 (fun _=>a8) ?_)))
      refine .q 1 hG ?_
      refine .bs a8 (by decide) fun b74 => .h (.append b3g (.inl ⟨_,underlying24⟩) a8 .z2 (.own a8 .z) (by first|omega|(simp;done)|(simp;omega)|(simp at *;omega)) (by first|omega|(simp;done)|(simp;omega)|(simp at *;omega)) (fun w75 => .p (.y7 u9.l4 a13 a8 (.t a8) (.n (.K3 (fun y x => { x with l9:=y }) a8Y (.t a8) (.b4q a8 .z2) .z3 (fun _ _=>a8) ?_)))) a8)
      refine .drop (.drop ?_)
      refine .q 2 hG ?_
      refine .ad (by first|omega|(simp;done)|(simp;omega)|(simp at *;omega)) (by first|omega|(simp;done)|(simp;omega)|(simp at *;omega)) ?_
      refine .q 2 hG ?_
      refine⟨(j+1,l ++ [(a1K ⟨QS[j]⟩ 8).1],w75),.c2 rfl rfl (.c2 rfl rfl (.c2 rfl rfl (.c2 rfl rfl (.nil _)))),rfl,?_,by dsimp only;omega⟩
      exact⟨by dsimp only;omega,by dsimp only;rw [List.length_append,f2];rfl,fun s' hs'=>(S3 hs' (hqs s' hs').1 (f3 s' hs') hj).2⟩
    ·refine .q 3 hG ?_
     obtain rfl:j=QS.length:=(by omega)
     have hwr:∀ x∈WR.map u0.mk,x.l.length≤20000:=(fun x hx=>by obtain⟨y,hy,rfl⟩:=List.mem_map.1 hx;have:=hwl y (by simp [hy]);have:=hsm p0 (by simp);show y.length≤_;omega)
     have hbt:∀ s',G5 s' t.l→S2 (C3 k) (WR.map u0.mk) (stL k h9s l)=(true,s'):=(fun s' hs'=>by obtain⟨q1,q2⟩:=hqs s' hs';have q3:=f3 s' hs';rw [List.take_of_length_le (by rw [q1,List.length_map];exact Nat.le_refl _)] at q3;rw [q3,(hsd s' hs').2.1];exact hs'.built (hsd s' hs').2.2 q2)
     refine .F0 hC .z (.b1X .z1 (fun n0 I L hr cs hc=>a5j hc (C1.fz .z hr)) (.conv 8 (.ln (ptr (ws7 8) 0) (p5.id (α:=Step))) a8 (fun _ _ _ _ _ h=>h) (.drop ?_)))
     refine(?_:H6 _ _ _ _ _ _ _)
     refine .b0z [⟨((j0,.ob (ptr (ws7 8) 0) (stL k h9s l))),[⟨2,2,fun v => .v (a0h (ws7 8) (C3 k)),fun v=>(j0,.ob (ptr (ws7 8) 0) (stL k h9s l))⟩,⟨5,5,fun v => .v (S2 (C3 k) (WR.map u0.mk) (stL k h9s l)).1,fun v=>(j0,.ob (ptr (ws7 8) 0) (S2 (C3 k) (WR.map u0.mk) (stL k h9s l)).2)⟩]⟩] [2,5] [2,5] [[(2,2),(5,5)]] (by kernel_rfl) 7 [[],[(78,0)],[(79,1)],[],[(81,3)],[(80,2),(82,4)],[(83,5)]] a8 (by kernel_rfl) a8 a8 (by decide) (by kernel_rfl) ?_
     refine⟨_,fun H=>j7.y7 j5.l1 a7B a8 (.t a8) a8,?_⟩
     refine⟨_,fun H=>j7.ldF (fun x=>x.numbers) b3f (.t a8) (C1.app .z) (fun _=>a8) a8,?_⟩
     refine .inr ⟨.v (a0h (ws7 8) (C3 k)),?_⟩
     refine⟨_,fun H=>j7.F1 b1E (.t a8) a8,?_⟩
     refine⟨_,fun H=>j7.b1y ty9 underlying36 (.t a8) (.i a8) (by first|omega|(simp;done)|(simp;omega)|(simp at *;omega)) (by first|omega|(simp;done)|(simp;omega)|(simp at *;omega)) a8,?_⟩
     refine .inr ⟨.v (S2 (C3 k) (WR.map u0.mk) (stL k h9s l)).1,?_⟩
     refine⟨_,fun H=>j7.not (.t a8) a8,?_⟩
     refine⟨?_,?_,fun nm20 => ?_⟩
     ·exact(And.intro (fun _=>a8) (And.intro (fun _=>a8) trivial))
     ·refine(And.intro (And.intro ?_ (And.intro ?_ trivial)) trivial)
      ·intro o s ho hs;obtain rfl:=Option.some.inj (show some _=some o from ho);obtain rfl:=Option.some.inj (show some _=some s from hs);refine⟨rfl,fun H' F hh=>A9.a4g hG (by rw [←hn];exact .t rfl) (hnum _ _) hh (.cons (.t rfl) .nil) (by rintro _ _ ⟨_,rfl⟩;exact⟨_,rfl⟩) fun r80 B80 hr80=>(by obtain⟨rfl,hB⟩:=hr80;cases hB;exact⟨(undef,0),rfl,rfl⟩)⟩
      ·intro o s ho hs;obtain rfl:=Option.some.inj (show some _=some o from ho);obtain rfl:=Option.some.inj (show some _=some s from hs);refine⟨rfl,fun v H' F hh=>A9.H9 hG (b0T (ws7 8) (C3 k) (WR.map u0.mk) (stL k h9s l) (a0p _) hwr) hh (.cons (.t rfl) (.cons (.t rfl) .nil)) (by rintro _ _ ⟨_,rfl⟩;exact⟨_,rfl⟩) fun r83 B83 hr83=>(by obtain⟨rfl,hB⟩:=hr83;cases hB;exact⟨(undef,0),.inl rfl,rfl,rfl⟩)⟩
     show C4 _ _ _ _ _ [] ((84,_)::(83,_)::(82,_)::(81,_)::(80,_)::(79,_)::(78,_)::_) ((true,.ob (ptr (ws7 8) 0) (S2 (C3 k) (WR.map u0.mk) (stL k h9s l)).2)::_)
     refine .q 1 hG ?_
     refine .cond (.t a8) (fun hc84 => ?_) (fun hc84 => ?_)
     ·refine .q 2 hG ?_
      refine .p (.bS0 (α:=j4) a8 q9 a1a (.n (.W1 q9 (.t a8) (.t a8) .z3 (.p (.assign .b ?_)))))
      refine .q 2 hG ?_
      refine⟨_,.r2 a8 (.cell q9 a8 .z3) (.tmp a8),?_⟩
      exact⟨_,false,rfl,fun h=>Bool.noConfusion h,fun _ s' hs'=>by rw [hbt s' hs'] at hc84;exact Bool.noConfusion hc84⟩
     ·refine .q 4 hG ?_
      refine .k hG (a78 _ (by rw [a3s];show l.length≤_;omega)) (.mv rfl (.p (.a7H (.t rfl) (.p (.a7I (.t rfl) (.ag rfl (.ag rfl ?_)))))))
      refine .q 3 hG ?_
      refine .p (.Q4 q9 (.t a8) .z (.mv a8 (.p (.a5y (.t a8) (.i a8) (.mv a8 (.go 94 a8 (.t a8) (fun hg95 => .move (.t a8) a8) (.go 94 a8 (.t a8) (fun hg96 => .move (.t a8) a8) (.go 94 a8 (.t a8) (fun hg97 => .b0e (.q a8 hg97) (.q a8 hg97) a8) (.p (.K6 (.t a8) (fun hp=>(.q a8 hp)) (.n (.W1 q9 (.t a8) (.t a8) .z3 (.ag a8 ?_)))))))))))))
      refine .q 2 hG ?_
      refine⟨_,.r2 a8 (.cell q9 a8 .z3) (.tmp a8),?_⟩
      exact⟨_,_,rfl,a66,fun h s' hs'=>by rw [hbt s' hs',a5i hs'] at h;exact Bool.noConfusion h⟩
  ·refine .q 3 hG ?_
   obtain⟨QS,rfl⟩:∃ Q,Q=PR:=⟨_,rfl⟩
   have hkh:khl k=false:=(by rw [←hh];exact hc39)
   obtain⟨h9s,hh9,hqs⟩:∃ h9s:u0,h9s=⟨[]⟩∧∀ s',G5 s' t.l→QS=s'.l9.map D3∧(G4 s').get s'=h9s:=⟨⟨[]⟩,rfl,fun s' hs'=>hs'.b2w (by rw [←(hsd s' hs').2.2];exact hkh) (hsd s' hs').1⟩
   have hql:QS.length*2≤7900:=(by simp at hpc;omega)
   have hqm:∀ x∈QS,x.length≤7900:=(fun x hx=>by have:=hsm x (by simp [hx]);omega)
   have hmq:(List.map u0.mk QS).length=QS.length:=List.length_map _
   have hobj:a68 k=a4u (stL k h9s []) (.slice none 0 0):=b1Z k _ hkh
   refine .V0 39 Pred ?_
   refine .q 6 hG ?_
   refine .C2 (α:=Nat×List Pred×Value) [(0,_),(2,_),(5,_),(8,_),(9,_),(57,_),(58,_)] (fun x R=>(59,.v (x.1:Int))::R) (fun x => [(true,.own 39 x.2.2 x.2.1),(true,.ob (ptr (ws7 8) 0) (a4u (stL k h9s x.2.1) x.2.2)),(true,.ob (ptr (ws7 9) 0) f),(true,.fz (ptr b5 0) (.p (List.map u0.mk (w0::WR)))),(true,.ob (ptr b2 0) (default:Step))]) (fun x=>x.1≤QS.length∧x.2.1.length=x.1∧∀ s',G5 s' t.l→x.2.1=s'.l9.take x.1) (fun x=>QS.length - x.1) ((0,[],.slice none 0 0)) (.c2 a8 a8 (.c2 a8 a8 (.c2 a8 a8 (.cons a8 (.nil _))))) ?_ (.c2 a8 a8 (.c2 a8 a8 (.c2 a8 a8 (.c2 a8 a8 (.nil _))))) (congrArg (fun z => [(true,C5.own 39 (Value.slice none 0 0) ([]:List Pred)),(true,C5.ob (ptr (ws7 8) 0) z),(true,C5.ob (ptr (ws7 9) 0) f),(true,C5.fz (ptr b5 0) (.p (List.map u0.mk (w0::WR)))),(true,C5.ob (ptr b2 0) (default:Step))]) hobj) fun x hF => ?_
   ·exact⟨Nat.zero_le _,a8,fun _ _=>a8⟩
   obtain⟨j,l,u⟩:=x
   obtain⟨f1,f2,f3⟩:=hF
   dsimp only at f1 f2 f3 ⊢
   refine .q 6 hG ⟨fun hc60 => ?_,fun hc60 => ?_⟩
   ·refine .q 4 hG ?_
    have hj:j < QS.length:=(by omega)
    refine .q 1 hG ?_
    refine .ix (by first|omega|(simp;done)|(simp;omega)|(simp at *;omega)) (by first|omega|(simp;done)|(simp;omega)|(simp at *;omega)) ?_
    refine .q 2 hG ?_
    simp only [List.getElem_map,Int.toNat_natCast]
    have hqj:=hqm _ (List.getElem_mem hj)
    refine .q 4 hG ?_
    refine .k hG (a3p _ (by first|omega|(simp;done)|(simp;omega)|(simp at *;omega))) ?_
    refine .q 4 hG fun b13 => ?_
    refine .q 10 hG ⟨fun hc69 => ?_,fun hc69 => ?_⟩
    ·refine .q 2 hG ?_
     refine .p (.bS0 (α:=j4) a8 q9 a1a ?_)
     refine .q 4 hG ?_
     refine⟨_,.r2 a8 (.cell q9 a8 .z5) (.tmp a8),?_⟩
     exact⟨_,false,a8,fun h=>Bool.noConfusion h,fun _ s' hs'=>hc69 (S3 hs' (hqs s' hs').1 (f3 s' hs') hj).1⟩
    ·refine .q 2 hG ?_
     refine .p (.y7 u9.l4 a13 a8 (.t a8) (.p (.ldR (fun x=>x.l9) a8Y (.t a8) .z2 (fun _=>a8) ?_)))
     refine .q 1 hG ?_
     refine .bs a8 (by decide) fun b74 => .h (.append b3g (.inl ⟨_,underlying24⟩) a8 .z2 (.own a8 .z) (by first|omega|(simp;done)|(simp;omega)|(simp at *;omega)) (by first|omega|(simp;done)|(simp;omega)|(simp at *;omega)) (fun w75 => .p (.y7 u9.l4 a13 a8 (.t a8) (.n (.K3 (fun y x => { x with l9:=y }) a8Y (.t a8) (.b4q a8 .z2) .z3 (fun _ _=>a8) ?_)))) a8)
     refine .drop (.drop ?_)
     refine .q 2 hG ?_
     refine .ad (by first|omega|(simp;done)|(simp;omega)|(simp at *;omega)) (by first|omega|(simp;done)|(simp;omega)|(simp at *;omega)) ?_
     refine .q 2 hG ?_
     refine⟨(j+1,l ++ [(a1K ⟨QS[j]⟩ 8).1],w75),.c2 rfl rfl (.c2 rfl rfl (.c2 rfl rfl (.c2 rfl rfl (.nil _)))),rfl,?_,by dsimp only;omega⟩
     exact⟨by dsimp only;omega,by dsimp only;rw [List.length_append,f2];rfl,fun s' hs'=>(S3 hs' (hqs s' hs').1 (f3 s' hs') hj).2⟩
   ·refine .q 3 hG ?_
    obtain rfl:j=QS.length:=(by omega)
    have hwr:∀ x∈WR.map u0.mk,x.l.length≤20000:=(fun x hx=>by obtain⟨y,hy,rfl⟩:=List.mem_map.1 hx;have:=hwl y (by simp [hy]);have:=hsm p0 (by simp);show y.length≤_;omega)
    have hbt:∀ s',G5 s' t.l→S2 (C3 k) (WR.map u0.mk) (stL k h9s l)=(true,s'):=(fun s' hs'=>by obtain⟨q1,q2⟩:=hqs s' hs';have q3:=f3 s' hs';rw [List.take_of_length_le (by rw [q1,List.length_map];exact Nat.le_refl _)] at q3;rw [q3,(hsd s' hs').2.1];exact hs'.built (hsd s' hs').2.2 q2)
    refine .F0 hC .z (.b1X .z1 (fun n0 I L hr cs hc=>a5j hc (C1.fz .z hr)) (.conv 8 (.ln (ptr (ws7 8) 0) (p5.id (α:=Step))) a8 (fun _ _ _ _ _ h=>h) (.drop ?_)))
    refine(?_:H6 _ _ _ _ _ _ _)
    refine .b0z [⟨((j0,.ob (ptr (ws7 8) 0) (stL k h9s l))),[⟨2,2,fun v => .v (a0h (ws7 8) (C3 k)),fun v=>(j0,.ob (ptr (ws7 8) 0) (stL k h9s l))⟩,⟨5,5,fun v => .v (S2 (C3 k) (WR.map u0.mk) (stL k h9s l)).1,fun v=>(j0,.ob (ptr (ws7 8) 0) (S2 (C3 k) (WR.map u0.mk) (stL k h9s l)).2)⟩]⟩] [2,5] [2,5] [[(2,2),(5,5)]] (by kernel_rfl) 7 [[],[(78,0)],[(79,1)],[],[(81,3)],[(80,2),(82,4)],[(83,5)]] a8 (by kernel_rfl) a8 a8 (by decide) (by kernel_rfl) ?_
    refine⟨_,fun H=>j7.y7 j5.l1 a7B a8 (.t a8) a8,?_⟩
    refine⟨_,fun H=>j7.ldF (fun x=>x.numbers) b3f (.t a8) (C1.app .z) (fun _=>a8) a8,?_⟩
    refine .inr ⟨.v (a0h (ws7 8) (C3 k)),?_⟩
    refine⟨_,fun H=>j7.F1 b1E (.t a8) a8,?_⟩
    refine⟨_,fun H=>j7.b1y ty9 underlying36 (.t a8) (.i a8) (by first|omega|(simp;done)|(simp;omega)|(simp at *;omega)) (by first|omega|(simp;done)|(simp;omega)|(simp at *;omega)) a8,?_⟩
    refine .inr ⟨.v (S2 (C3 k) (WR.map u0.mk) (stL k h9s l)).1,?_⟩
    refine⟨_,fun H=>j7.not (.t a8) a8,?_⟩
    refine⟨?_,?_,fun nm20 => ?_⟩
    ·exact(And.intro (fun _=>a8) (And.intro (fun _=>a8) trivial))
    ·refine(And.intro (And.intro ?_ (And.intro ?_ trivial)) trivial)
     ·intro o s ho hs;obtain rfl:=Option.some.inj (show some _=some o from ho);obtain rfl:=Option.some.inj (show some _=some s from hs);refine⟨rfl,fun H' F hh=>A9.a4g hG (by rw [←hn];exact .t rfl) (hnum _ _) hh (.cons (.t rfl) .nil) (by rintro _ _ ⟨_,rfl⟩;exact⟨_,rfl⟩) fun r80 B80 hr80=>(by obtain⟨rfl,hB⟩:=hr80;cases hB;exact⟨(undef,0),rfl,rfl⟩)⟩
     ·intro o s ho hs;obtain rfl:=Option.some.inj (show some _=some o from ho);obtain rfl:=Option.some.inj (show some _=some s from hs);refine⟨rfl,fun v H' F hh=>A9.H9 hG (b0T (ws7 8) (C3 k) (WR.map u0.mk) (stL k h9s l) (a0p _) hwr) hh (.cons (.t rfl) (.cons (.t rfl) .nil)) (by rintro _ _ ⟨_,rfl⟩;exact⟨_,rfl⟩) fun r83 B83 hr83=>(by obtain⟨rfl,hB⟩:=hr83;cases hB;exact⟨(undef,0),.inl rfl,rfl,rfl⟩)⟩
    show C4 _ _ _ _ _ [] ((84,_)::(83,_)::(82,_)::(81,_)::(80,_)::(79,_)::(78,_)::_) ((true,.ob (ptr (ws7 8) 0) (S2 (C3 k) (WR.map u0.mk) (stL k h9s l)).2)::_)
    refine .q 1 hG ?_
    refine .cond (.t a8) (fun hc84 => ?_) (fun hc84 => ?_)
    ·refine .q 2 hG ?_
     refine .p (.bS0 (α:=j4) a8 q9 a1a (.n (.W1 q9 (.t a8) (.t a8) .z3 (.p (.assign .b ?_)))))
     refine .q 2 hG ?_
     refine⟨_,.r2 a8 (.cell q9 a8 .z3) (.tmp a8),?_⟩
     exact⟨_,false,rfl,fun h=>Bool.noConfusion h,fun _ s' hs'=>by rw [hbt s' hs'] at hc84;exact Bool.noConfusion hc84⟩
    ·refine .q 4 hG ?_
     refine .k hG (a78 _ (by rw [a3s];show l.length≤_;omega)) (.mv rfl (.p (.a7H (.t rfl) (.p (.a7I (.t rfl) (.ag rfl (.ag rfl ?_)))))))
     refine .q 3 hG ?_
     refine .p (.Q4 q9 (.t a8) .z (.mv a8 (.p (.a5y (.t a8) (.i a8) (.mv a8 (.go 94 a8 (.t a8) (fun hg95 => .move (.t a8) a8) (.go 94 a8 (.t a8) (fun hg96 => .move (.t a8) a8) (.go 94 a8 (.t a8) (fun hg97 => .b0e (.q a8 hg97) (.q a8 hg97) a8) (.p (.K6 (.t a8) (fun hp=>(.q a8 hp)) (.n (.W1 q9 (.t a8) (.t a8) .z3 (.ag a8 ?_)))))))))))))
     refine .q 2 hG ?_
     refine⟨_,.r2 a8 (.cell q9 a8 .z3) (.tmp a8),?_⟩
     exact⟨_,_,rfl,a66,fun h s' hs'=>by rw [hbt s' hs',a5i hs'] at h;exact Bool.noConfusion h⟩
end Go.Proofs.YtfkbejimghamkaaGreatDoor
namespace Go.Ab
open Go.Fl Go.RowKit
open p6 (rep)
def a3t (l:List UInt8) (pos:Nat):Nat:=(Utf8.decode ⟨l.toArray⟩ pos).1
def a4v (l:List UInt8) (pos:Nat):Nat:=(Utf8.decode ⟨l.toArray⟩ pos).2
def nxA (l:List UInt8) (pos:Nat):AV := .pr (fun _ u=>if pos < l.length then u = .tuple #[.bool true,.int .i64 pos,.int .i32 (a3t l pos)] else u = .tuple #[.bool false]) (fun _ h=>h)
section
variable {P:Program} {C:Ctx} {N:Nat} {σ:u5} {H:j6} {d:Option Nat} {ty:TypeId} {ps:String} {af:Array Edge} {g:Option (Nat×Bool)} {K:AV→Prop} {KH:AV→j6→Prop} {x y:Operand} {T T2:TypeId}
theorem A9.b4U {t : Nat} {b0 : Bool} {w : Value} {l : List UInt8} {pos : Nat} {F : Bool × C5 → j6} (hx : C9 σ t = some (.raw w)) (hH : C1 H (b0, .usr w (a2W.mk l pos)) F) (hb : l.length ≤ 9223372036854775807)
    (k:KH (nxA l pos) (F (b0,.usr w (a2W.mk l (if pos < l.length then pos+a4v l pos else pos))))):A9 P C N ⟨d,.next (.tmp t) true,ty,ps,af,g⟩ σ H KH:=fun ρ I L hs=>by
  have hn:A9 P C N ⟨d,.next (.tmp t) true,ty,ps,af,g⟩ σ H (fun r H'=>(∃ h:pos < l.length,r = .t3 (.v true) (.v (pos:Int)) (.v (a9p.mk (a3t l pos)))∧H'=F (b0,.usr w (a2W.mk l (pos+a4v l pos))))∨(¬pos < l.length∧r = .raw (.tuple #[.bool false])∧H'=F (b0,.usr w (a2W.mk l pos)))) :=
    .b4C hx hH hb (fun h => .inl ⟨h,rfl,rfl⟩) fun h => .inr ⟨h,rfl,rfl⟩
  refine OpS.a6u (hn ρ I L hs) fun v J L' ⟨hle,r,H',h1,h2,h3⟩=>⟨hle,nxA l pos,_,?_,?_,k⟩
  · rcases h3 with ⟨hp,rfl,_⟩|⟨hp,rfl,_⟩
    · obtain⟨u1,u2,u3,rfl,⟨_,rfl,rfl⟩,⟨_,⟨rfl,_⟩,rfl⟩,⟨_,rfl,rfl⟩⟩:=h1
      show(if pos < l.length then _ else _)
      rw [if_pos hp];rfl
    · show(if pos < l.length then _ else _)
      rw [if_neg hp];exact h1
  · rcases h3 with ⟨hp,_,rfl⟩|⟨hp,_,rfl⟩
    · rw [if_pos hp];exact h2
    · rw [if_neg hp];exact h2
theorem j7.nx0 {l:List UInt8} {pos:Nat} (hx:A7 C σ H x (nxA l pos)) (k:K (.v (decide (pos < l.length)))):j7 P N C ⟨d,.extract x 0,ty,ps,af,g⟩ σ H K :=
 .ofV (.v (decide (pos < l.length))) (fun ρ I L hs=>by
  obtain⟨u,h1,h2⟩:=hx ρ I L hs
  have h2:(if pos < l.length then u = .tuple #[.bool true,.int .i64 pos,.int .i32 (a3t l pos)] else u = .tuple #[.bool false]):=h2
  by_cases hp:pos < l.length
  ·rw [if_pos hp] at h2;subst h2
   exact .extract h1 rfl ⟨_,rfl,by rw [decide_eq_true hp];rfl⟩
  ·rw [if_neg hp] at h2;subst h2
   exact .extract h1 rfl ⟨_,rfl,by rw [decide_eq_false hp];rfl⟩) k
theorem j7.nx1 {l:List UInt8} {pos:Nat} (hx:A7 C σ H x (nxA l pos)) (hp:pos < l.length) (hl:l.length≤9223372036854775807) (k:K (.v (pos:Int))):j7 P N C ⟨d,.extract x 1,ty,ps,af,g⟩ σ H K :=
 .ofV (.v (pos:Int)) (fun ρ I L hs=>by
  obtain⟨u,h1,h2⟩:=hx ρ I L hs
  have h2:(if pos < l.length then u = .tuple #[.bool true,.int .i64 pos,.int .i32 (a3t l pos)] else u = .tuple #[.bool false]):=h2
  rw [if_pos hp] at h2;subst h2
  exact .extract h1 rfl ⟨_,⟨rfl,by omega,by omega⟩,rfl⟩) k
theorem j7.nx2 {l:List UInt8} {pos:Nat} (hx:A7 C σ H x (nxA l pos)) (hp:pos < l.length) (k:K (.v (a9p.mk (a3t l pos)))):j7 P N C ⟨d,.extract x 2,ty,ps,af,g⟩ σ H K :=
 .ofV (.v (a9p.mk (a3t l pos))) (fun ρ I L hs=>by
  obtain⟨u,h1,h2⟩:=hx ρ I L hs
  have h2:(if pos < l.length then u = .tuple #[.bool true,.int .i64 pos,.int .i32 (a3t l pos)] else u = .tuple #[.bool false]):=h2
  rw [if_pos hp] at h2;subst h2
  exact .extract h1 a8 ⟨_,a8,a8⟩) k
theorem j7.b2a {r:a9p} {n:Nat} {m:Int} (hm:m=(n:Int)) (hx:A7 C σ H x (.v r)) (k:K (.v (decide (r.n≠n)))):j7 P N C ⟨d,.binOp .neq T x (.const (.int .i32 m)) T2,ty,ps,af,g⟩ σ H K :=
 .ofV (.v (decide (r.n≠n))) (fun ρ I L hs=>by
  obtain⟨u,h1,cs,rfl,rfl⟩:=hx ρ I L hs
  refine .a9a h1 a8 ⟨_,a8,?_⟩
  show Value.bool _=Value.bool _
  congr 1
  subst hm
  exact decide_eq_decide.2 (by omega)) k
theorem j7.b3D {s:u0} {n:Int} (hT:P.underlying T=some .string) (hx:A7 C σ H x (.v s)) (hy:A7 C σ H y (.v n)) (h0:0≤n) (h1:n < s.l.length) (k:K (.v (s.l.getD n.toNat 0))):j7 P N C ⟨d,.index T x y,ty,ps,af,g⟩ σ H K:=by
 have e:s.l.getD n.toNat 0=s.l[n.toNat]'(by omega):=by rw [List.getD_eq_getElem?_getD,List.getElem?_eq_getElem (by omega)];rfl
 exact .a1j hT hx hy h0 h1 (by rw [←e];exact k)
end
theorem b3E (l:List UInt8) (i:Nat) (h:i < l.length):1≤a4v l i∧i+a4v l i≤l.length∧(a3t l i=10↔l[i]=10)∧∀ k,i < k→k < i+a4v l i→∀ hk:k < l.length,l[k]≠10:=a9o l i h
theorem C4.b5X {P : Program} {C : Ctx} {N : Nat} {ops : Array Oper} {Q : Exit → u5 → j6 → Prop} {rest : List Oper} {σ : u5} {H : j6} {d : Nat} {op : Op} {ty : TypeId} {ps : String} {af : Array Edge} {j : Nat} {want : Bool} (dj : Nat) (hj : (ops[j]?).bind (·.dst) = some dj) {b : Bool} (hb : A7 C σ H (.tmp dj) (.v b))
    {ι:Type} (R:ι→AV) (F:ι→j6) (Φ:ι→Prop) (i0:ι) (h0:Φ i0) (e0:F i0=H) (h:b=want→A9 P C N ⟨some d,op,ty,ps,af,none⟩ σ H (fun r H'=>∃ i,Φ i∧r=R i∧H'=F i))
    (k:∀ i,Φ i→C4 P C N ops Q rest ((d,.opt (b == want) (R i))::σ) (F i)):C4 P C N ops Q (⟨some d,op,ty,ps,af,some (j,want)⟩::rest) σ H:=fun ρ I L hs=>by
  have hbv:=hb.bool hs
  by_cases e:b=want
  · refine .gt dj hj (by rw [←e];exact hbv) (OpS.a6u (h e ρ I L hs) fun v J L' ⟨hle,r,H',h1,h2,i,h3,h4,h5⟩ => ?_)
    subst h4;subst h5
    exact k i h3 _ _ _ (hs.put hle (r := .opt (b == want) (R i)) (fun _=>h1) h2)
  · have e':b = !want:=by cases b<;>cases want<;>simp_all
    have hk:=k i0 h0
    rw [e0] at hk
    exact .gf dj hj (by rw [←e'];exact hbv) (hk _ _ _ (hs.put (Le.refl I) (r := .opt (b == want) (R i0)) (fun hc=>absurd (by simpa using hc) e) hs.heap))
end Go.Ab
namespace Go.Proofs.YtfkbejimghamkaaGreatDoor
open Go.Proofs.Tryz
open Go.Fl Go.Ab Go.Mac Go.Sha Go.Lib
inductive P0:List UInt8→Nat→List Step→List Step×Int×Int→Prop
 | nil (n:Nat) (a:List Step):P0 [] n a (a,0,0)
 | bad {s:List UInt8} (n:Nat) (a:List Step) (h:s ≠ []) (hb:∀ x r,y2 10 s=(x,r,true)→∀ st,¬G5 st x):P0 s n a ([],(n:Int),8)
 | line {s x r:List UInt8} {n:Nat} {a:List Step} {st:Step} {q:List Step×Int×Int} (hc:y2 10 s=(x,r,true)) (hs:G5 st x) (h:P0 r (n+1) (a ++ [st]) q):P0 s n a q
theorem P0.uniq {s:List UInt8} {n:Nat} {a:List Step} {q q':List Step×Int×Int} (h:P0 s n a q) (h':P0 s n a q'):q=q':=by
 induction h with
 | nil n a =>
  cases h' with
  | nil=>rfl
  | bad _ _ h _=>exact absurd rfl h
  | line hc _ _=>cases hc
 | bad n a h hb =>
  cases h' with
  | nil=>exact absurd rfl h
  | bad=>rfl
  | line hc hs _=>exact absurd hs (hb _ _ hc _)
 | line hc hs h ih =>
  cases h' with
  | nil=>cases hc
  | bad _ _ _ hb=>exact absurd hs (hb _ _ hc _)
  | line hc2 hs2 h2 =>
   rw [hc] at hc2
   simp only [Prod.mk.injEq] at hc2
   obtain⟨rfl,rfl,_⟩:=hc2
   obtain rfl:=hs.uniq hs2
   exact ih h2
theorem b0W {l:List UInt8} {a b:Nat} (hab:a≤b) (hb:b < l.length) (h:∀ i,a≤i→i < b→∀ hi:i < l.length,l[i]≠10) (h10:l[b]=10):y2 10 (l.drop a)=((l.take b).drop a,l.drop (b+1),true):=by
 have e:l.drop a=(l.take b).drop a++10::l.drop (b+1):=by
  have h1:l=l.take b++(l[b]::l.drop (b+1)):=by simp
  conv=>lhs;rw [h1]
  rw [List.drop_append_of_le_length (by rw [List.length_take];omega),h10]
 rw [e]
 refine a0w _ fun x hx => ?_
 obtain⟨i,hi,rfl⟩:=List.getElem_of_mem hx
 simp only [List.length_drop,List.length_take] at hi
 rw [List.getElem_drop,List.getElem_take]
 exact h (a+i) (by omega) (by omega) (by omega)
theorem a8i {l:List UInt8} {a:Nat} (h:∀ i,a≤i→∀ hi:i < l.length,l[i]≠10):y2 10 (l.drop a)=(l.drop a,[],false):=by
 refine a5r fun x hx => ?_
 obtain⟨i,hi,rfl⟩:=List.getElem_of_mem hx
 rw [List.length_drop] at hi
 rw [List.getElem_drop]
 exact h (a+i) (by omega) (by omega)
theorem a0q (s:u0) (hs:s.l.length≤7900):y6 gl prog 11 [.v s] (fun r=>∃ q,P0 s.l 1 [] q∧r = .t3 (.v q.1) (.v q.2.1) (.v q.2.2)):=by
 refine y6.jn func11 (by kernel_rfl) 45 rfl fun C hC hG => ?_
 refine .q 8 hG ?_
 refine .p (.assign .raw ?_)
 refine .q 8 hG ?_
 refine .V0 30 Step ?_
 refine .q 2 hG ?_
 refine .h (.b3p underlying9 (.t a8) fun b13 => ?_)
 refine .q 2 hG ?_
 refine .C2 (α:=Nat×Nat×Nat×List Step×Value) [(0,_)] (fun x R=>(5,.raw x.2.2.2.2)::(6,.v (x.2.1:Int))::(7,.v (x.2.2.1:Int))::(13,.raw (ptr b13 0))::R) (fun x => [(true,.usr (ptr b13 0) (a2W.mk s.l x.1)),(true,.own 30 x.2.2.2.2 x.2.2.2.1)]) (fun x=>x.2.1≤x.1∧x.1≤s.l.length∧(∀ i,x.2.1≤i→i < x.1→∀ hi:i < s.l.length,s.l[i]≠10)∧x.2.2.1=x.2.2.2.1.length+1∧x.2.2.2.1.length≤x.2.1∧∀ q,P0 (s.l.drop x.2.1) x.2.2.1 x.2.2.2.1 q→P0 s.l 1 [] q) (fun x=>s.l.length - x.1) ((0,0,1,[],.slice none 0 0)) (.cons a8 (.nil _)) ?_ (.c2 a8 a8 (.c2 a8 a8 (.cons a8 (.nil _)))) (a8) fun x hF => ?_
 ·exact⟨Nat.le_refl _,Nat.zero_le _,fun i h1 h2=>absurd h2 (Nat.not_lt_zero _),a8,Nat.le_refl _,fun q h=>h⟩
 obtain⟨pos,fr,n,out,w⟩:=x
 obtain⟨f1,f2,f3,f4,f5,f6⟩:=hF
 dsimp only at f1 f2 f3 f4 f5 f6 ⊢
 refine .q 2 hG ?_
 refine .h (.b4U a8 .z (by omega) (.p (.nx0 (.t a8) ?_)))
 refine .q 3 hG ⟨fun hc15 => ?_,fun hc15 => ?_⟩
 ·refine .q 3 hG ?_
  have hp:pos < s.l.length:=hc15
  rw [if_pos hp]
  obtain⟨g1,g2,g3,g4⟩:=b3E s.l pos hp
  refine .q 1 hG ?_
  refine .p (.nx1 (.t a8) hp (by omega) (.p (.nx2 (.t a8) hp ?_)))
  refine .q 7 hG ?_
  refine .p (.b2a a8 (.t a8) ?_)
  refine .q 2 hG ⟨fun hc19 => ?_,fun hc19 => ?_⟩
  ·refine .q 1 hG ?_
   refine⟨(pos+a4v s.l pos,fr,n,out,w),.c2 rfl rfl (.c2 rfl rfl (.cons rfl (.nil _))),rfl,?_,by dsimp only;omega⟩
   exact⟨by dsimp only;omega,by dsimp only;omega,fun i h1 h2 hi=>by dsimp only at h1 h2;rcases Nat.lt_trichotomy i pos with h|h|h;exact f3 i h1 h hi;(subst h;exact fun e=>hc19 (g3.2 e));exact g4 i h h2 hi,f4,f5,f6⟩
  ·refine .q 2 hG ?_
   have h10:s.l[pos]'hp=10:=g3.1 (by simpa using hc19)
   have hcut:=b0W (l:=s.l) f1 hp (fun i h1 h2 hi=>f3 i h1 h2 hi) h10
   refine .q 4 hG ?_
   refine .p (.a8C underlying9 (.t a8) (.t a8) (.t a8) (by first|omega|(simp;done)|(simp;omega)|(simp at *;omega)) (by first|omega|(simp;done)|(simp;omega)|(simp at *;omega)) (by first|omega|(simp;done)|(simp;omega)|(simp at *;omega)) ?_)
   refine .kx hG (b3C _ (by rw [List.length_drop,List.length_take];omega)) fun r25 hr25 => ?_
   obtain⟨st,ok,rfl,hok,hno⟩:=hr25
   refine .q 4 hG fun b10 => ?_
   refine .q 9 hG ?_
   refine .cond (.t a8) (fun hc29 => ?_) (fun hc29 => ?_)
   ·refine .q 8 hG ?_
    refine⟨_,.r3 a8 (.tmp a8) (.tmp a8) (.tmp a8),?_⟩
    exact⟨([],(n:Int),8),f6 _ (.bad n out (fun e=>by have:=congrArg List.length e;simp at this;omega) fun x r hc st hst=>by rw [hcut] at hc;simp only [Prod.mk.injEq] at hc;obtain⟨rfl,_⟩:=hc;exact hno (by simpa using hc29) st hst),rfl⟩
   ·refine .q 4 hG ?_
    refine .bs a8 (by decide) fun b33 => ?_
    refine .ap (by first|omega|(simp;done)|(simp;omega)|(simp at *;omega)) (by first|omega|(simp;done)|(simp;omega)|(simp at *;omega)) fun w34 => ?_
    refine .q 1 hG ?_
    refine .ad (by first|omega|(simp;done)|(simp;omega)|(simp at *;omega)) (by first|omega|(simp;done)|(simp;omega)|(simp at *;omega)) ?_
    refine .q 1 hG ?_
    refine .ad (by first|omega|(simp;done)|(simp;omega)|(simp at *;omega)) (by first|omega|(simp;done)|(simp;omega)|(simp at *;omega)) ?_
    refine .q 3 hG ?_
    refine .drop (.drop ?_)
    refine .q 1 hG ?_
    refine⟨(pos+a4v s.l pos,pos+1,n+1,out ++ [st],w34),.c2 rfl rfl (.c2 rfl rfl (.cons rfl (.nil _))),rfl,?_,by dsimp only;omega⟩
    exact⟨by dsimp only;omega,by dsimp only;omega,fun i h1 h2 hi=>by dsimp only at h1 h2;exact g4 i (by omega) h2 hi,by simp;omega,by simp;omega,fun q h=>f6 q (.line hcut (hok (by simpa using hc29)) h)⟩
 ·refine .q 10 hG ⟨fun hc42 => ?_,fun hc42 => ?_⟩
  ·refine .q 8 hG ?_
   refine⟨_,.r3 a8 (.tmp a8) (.tmp a8) (.tmp a8),?_⟩
   exact⟨([],(n:Int),8),f6 _ (.bad n out (fun e=>by have:=congrArg List.length e;simp at this;omega) fun x r hc=>by rw [a8i fun i h1 hi=>f3 i h1 (by omega) hi] at hc;simp at hc),rfl⟩
  ·refine .q 2 hG ?_
   refine .F0 hC .z1 (.as 5 a8 .z1 ?_)
   refine .q 7 hG ?_
   refine⟨_,.r3 a8 (.tmp a8) (.tmp a8) (.tmp a8),?_⟩
   exact⟨(out,0,0),f6 _ (by rw [List.drop_eq_nil_of_le (by omega)];exact .nil n out),a8⟩
theorem a5k:∀ (s:List UInt8) (i:Nat) (h:i+1 < s.length),s[i]=59→s[i+1]=32→(∀ j,j < i→∀ hj:j+1 < s.length,¬(s[j]=59∧s[j+1]=32))→Lib.index s [59,32]=(i:Int)
 | [],i,h,_,_,_=>by simp at h
 | [b],i,h,_,_,_=>by simp at h
 | b::c::s,0,h,h1,h2,_=>by
  have h1:b=59:=h1
  have h2:c=32:=h2
  subst h1;subst h2
  rw [Lib.index];simp [List.isPrefixOf]
 | b::c::s,i+1,h,h1,h2,hn=>by
  have ih:=a5k (c::s) i (by simpa using h) h1 h2 fun j hj hjl=>hn (j+1) (by omega) (by simpa using hjl)
  have h0:¬(b=59∧c=32):=hn 0 (by omega) (by simp)
  rw [Lib.index,ih]
  rw [if_neg (by simp [List.isPrefixOf];intro e1 e2;exact h0 ⟨e1.symm,e2.symm⟩),if_neg (by simp<;>omega)]
  simp
theorem a3u:∀ (s:List UInt8),(∀ j,∀ hj:j+1 < s.length,¬(s[j]=59∧s[j+1]=32))→Lib.index s [59,32] = -1
 | [],_=>by simp [Lib.index]
 | [b],_=>by rw [Lib.index];simp [Lib.index,List.isPrefixOf]
 | b::c::s,hn=>by
  have ih:=a3u (c::s) fun j hj=>hn (j+1) (by simpa using hj)
  have h0:¬(b=59∧c=32):=hn 0 (by simp)
  rw [Lib.index,ih]
  rw [if_neg (by simp [List.isPrefixOf];intro e1 e2;exact h0 ⟨e1.symm,e2.symm⟩),if_pos (by simp)]
theorem a9A {s:List UInt8} {i:Nat} (h:Lib.index s [59,32]=(i:Int)):Lib.split s [59,32]=s.take i::Lib.split (s.drop (i+2)) [59,32]:=by
 unfold Lib.split
 rw [Lib.count_hit (by simp) h,Nat.add_comm,Lib.splitK,h,if_neg (by simp<;>omega)]
 simp
theorem a4w {s:List UInt8} (h:Lib.index s [59,32] = -1):Lib.split s [59,32] = [s]:=by
 unfold Lib.split
 rw [Lib.count_miss h];rfl
theorem a8j {s:List UInt8} {a i:Nat} (ha:a≤i) (hi:i+1 < s.length) (h1:s[i]=59) (h2:s[i+1]=32) (hn:∀ j,a≤j→j < i→∀ hj:j+1 < s.length,¬(s[j]=59∧s[j+1]=32)):Lib.split (s.drop a) [59,32]=(s.take i).drop a::Lib.split (s.drop (i+2)) [59,32]:=by
 have hx:=a5k (s.drop a) (i - a) (by rw [List.length_drop];omega) (by rw [List.getElem_drop];simpa [show a+(i - a)=i by omega] using h1) (by rw [List.getElem_drop];simpa [show a+(i - a+1)=i+1 by omega] using h2) fun j hj hjl=>by
  rw [List.length_drop] at hjl
  rw [List.getElem_drop,List.getElem_drop]
  exact hn (a+j) (by omega) (by omega) (by omega)
 rw [a9A hx,List.drop_drop,show a+(i - a+2)=i+2 by omega,List.drop_take]
theorem a8k {s:List UInt8} {a:Nat} (hn:∀ j,a≤j→∀ hj:j+1 < s.length,¬(s[j]=59∧s[j+1]=32)):Lib.split (s.drop a) [59,32] = [s.drop a]:=by
 refine a4w (a3u _ fun j hj => ?_)
 rw [List.length_drop] at hj
 rw [List.getElem_drop,List.getElem_drop]
 exact hn (a+j) (by omega) (by omega)
theorem a9B (s:u0) (hs:s.l.length≤7900):y6 gl prog 52 [.v s] (fun r=>r = .v ((Lib.split s.l [59,32]).map u0.mk)):=by
 refine y6.jn func52 (by kernel_rfl) 39 rfl fun C hC hG => ?_
 refine .q 6 hG ?_
 refine .p (.assign .raw ?_)
 refine .q 2 hG ?_
 refine .V0 9 u0 ?_
 refine .q 9 hG ?_
 refine .C2 (α:=Nat×Nat×List u0×Value) [(0,_)] (fun x R=>(3,.raw x.2.2.2)::(4,.v (x.2.1:Int))::(5,.v (x.1:Int))::R) (fun x => [(true,.own 9 x.2.2.2 x.2.2.1)]) (fun x=>x.1≤s.l.length∧x.2.1≤x.1+1∧x.2.1≤s.l.length∧(∀ j,x.2.1≤j→j < x.1→∀ hj:j+1 < s.l.length,¬(s.l[j]=59∧s.l[j+1]=32))∧(x.2.1=x.1+1→∀ h:x.1 < s.l.length,s.l[x.1]≠59)∧x.2.2.1.length≤x.2.1∧(Lib.split s.l [59,32]).map u0.mk=x.2.2.1++(Lib.split (s.l.drop x.2.1) [59,32]).map u0.mk) (fun x=>s.l.length - x.1) ((0,0,[],.slice none 0 0)) (.cons a8 (.nil _)) ?_ (.c2 a8 a8 (.c2 a8 a8 (.nil _))) (a8) fun x hF => ?_
 ·exact⟨Nat.zero_le _,Nat.zero_le _,Nat.zero_le _,fun j h1 h2=>absurd h2 (Nat.not_lt_zero _),fun h=>absurd h (by decide),Nat.le_refl _,a8⟩
 obtain⟨i,fr,out,w⟩:=x
 obtain⟨f1,f2,f3,f4,f5,f6,f7⟩:=hF
 dsimp only at f1 f2 f3 f4 f5 f6 f7 ⊢
 refine .q 4 hG ?_
 refine .ad (by first|omega|(simp;done)|(simp;omega)|(simp at *;omega)) (by first|omega|(simp;done)|(simp;omega)|(simp at *;omega)) ?_
 refine .q 5 hG ⟨fun hc10 => ?_,fun hc10 => ?_⟩
 ·refine .q 4 hG ?_
  have hi:i+1 < s.l.length:=(by omega)
  refine .q 3 hG ?_
  refine .p (.a1j underlying9 (.t a8) (.t a8) (by first|omega|(simp;done)|(simp;omega)|(simp at *;omega)) (by first|omega|(simp;done)|(simp;omega)|(simp at *;omega)) ?_)
  refine .q 4 hG ?_
  refine .go 17 a8 (.t a8) (fun hg20 => .add (.q a8 hg20) (.i a8) (by first|omega|(simp;done)|(simp;omega)|(have:=hg20;simp at this;omega)) (by first|omega|(simp;done)|(simp;omega)|(have:=hg20;simp at this;omega)) a8) (.go 17 a8 (.t a8) (fun hg21 => .a1j underlying9 (.q a8 hg21) (.q a8 hg21) (by first|omega|(simp;done)|(simp;omega)|(have:=hg21;simp at this;omega)) (by first|omega|(simp;done)|(simp;omega)|(have:=hg21;simp at this;omega)) a8) ?_)
  refine .q 3 hG ?_
  refine .cond (.t a8) (fun hc23 => ?_) (fun hc23 => ?_)
  ·obtain⟨hb1,hb2⟩:s.l[i]'(by omega)=59∧s.l[i+1]'(by omega)=32:=(by simpa using hc23)
   have hfi:fr≤i:=(by rcases Nat.lt_or_ge i fr with h|h;exact absurd hb1 (f5 (by omega) (by omega));exact h)
   refine .q 5 hG ?_
   refine .p (.a8C underlying9 (.t a8) (.t a8) (.t a8) (by first|omega|(simp;done)|(simp;omega)|(simp at *;omega)) (by first|omega|(simp;done)|(simp;omega)|(simp at *;omega)) (by first|omega|(simp;done)|(simp;omega)|(simp at *;omega)) ?_)
   refine .bs a8 (by decide) fun b29 => ?_
   refine .ap (by first|omega|(simp;done)|(simp;omega)|(simp at *;omega)) (by first|omega|(simp;done)|(simp;omega)|(simp at *;omega)) fun w30 => ?_
   refine .q 1 hG ?_
   refine .ad (by first|omega|(simp;done)|(simp;omega)|(simp at *;omega)) (by first|omega|(simp;done)|(simp;omega)|(simp at *;omega)) ?_
   refine .q 2 hG ?_
   refine .drop ?_
   refine .q 3 hG ?_
   refine .ad (by first|omega|(simp;done)|(simp;omega)|(simp at *;omega)) (by first|omega|(simp;done)|(simp;omega)|(simp at *;omega)) ?_
   refine .q 2 hG ?_
   refine⟨(i+1,i+2,out ++ [⟨(s.l.take i).drop fr⟩],w30),.c2 rfl rfl (.c2 rfl rfl (.nil _)),rfl,?_,by dsimp only;omega⟩
   exact⟨by dsimp only;omega,by dsimp only;omega,by dsimp only;omega,fun j h1 h2 hj=>by dsimp only at h1 h2;omega,fun _ h=>by dsimp only;rw [hb2];decide,by simp;omega,by dsimp only;rw [f7,a8j hfi hi hb1 hb2 (fun j h1 h2 hj=>f4 j h1 h2 hj)];simp⟩
  ·refine .q 3 hG ?_
   refine .ad (by first|omega|(simp;done)|(simp;omega)|(simp at *;omega)) (by first|omega|(simp;done)|(simp;omega)|(simp at *;omega)) ?_
   refine .q 2 hG ?_
   refine⟨(i+1,fr,out,w),.c2 rfl rfl (.c2 rfl rfl (.nil _)),rfl,?_,by dsimp only;omega⟩
   exact⟨by dsimp only;omega,by dsimp only;omega,by dsimp only;omega,fun j h1 h2 hj=>by dsimp only at h1 h2;rcases Nat.lt_or_ge j i with h|h;exact f4 j h1 h hj;(obtain rfl:j=i:=by omega);(intro e;exact absurd hc23 (by simp [e.1,e.2])),fun h=>by dsimp only at h;omega,f6,f7⟩
 ·refine .q 6 hG ?_
  refine .p (.a0Y underlying9 (.t a8) (.t a8) (by first|omega|(simp;done)|(simp;omega)|(simp at *;omega)) (by first|omega|(simp;done)|(simp;omega)|(simp at *;omega)) ?_)
  refine .bs a8 (by decide) fun b37 => ?_
  refine .ap (by first|omega|(simp;done)|(simp;omega)|(simp at *;omega)) (by first|omega|(simp;done)|(simp;omega)|(simp at *;omega)) fun w38 => ?_
  refine .q 1 hG ?_
  refine .drop ?_
  refine .q 1 hG ?_
  refine .F0 hC .z (.as 2 a8 .z ?_)
  refine .q 1 hG ?_
  refine .e1 a8 a8 ?_
  rw [f7,a8k fun j h1 hj=>f4 j h1 (by omega) hj];rfl
theorem a9C (r:List UInt8):(if (y2 32 r).2.2=true then (y2 32 r).2.1.length+1 else 0) < (if true=true then r.length+1 else 0):=by
 cases h:(y2 32 r).2.2
 ·simp
 ·have:=Y3 h
  simp;omega
theorem a8l (out:List u0) (r:List UInt8):out++(if (y2 32 r).2.2=true then (y2 32 r).1::A0 32 (y2 32 r).2.1 else [r]).map u0.mk=out ++ [u0.mk (y2 32 r).1]++(if (y2 32 r).2.2=true then A0 32 (y2 32 r).2.1 else []).map u0.mk:=by
 cases h:(y2 32 r).2.2
 ·rw [a23 h];simp
 ·simp
theorem a9D (s:u0) (hs:s.l.length≤7900):y6 gl prog 53 [.v s] (fun r=>r = .v ((A0 32 s.l).map u0.mk)):=by
 refine y6.jn func53 (by kernel_rfl) 18 rfl fun C hC hG => ?_
 refine .q 6 hG ?_
 refine .p (.assign .raw ?_)
 refine .q 2 hG ?_
 refine .V0 9 u0 ?_
 refine .q 5 hG ?_
 refine .C2 (α:=Bool×List UInt8×List u0×Value) [] (fun x R=>(0,.v (u0.mk x.2.1))::(3,.raw x.2.2.2)::(4,.v x.1)::R) (fun x => [(true,.own 9 x.2.2.2 x.2.2.1)]) (fun x=>x.2.1.length+x.2.2.1.length≤s.l.length+1∧(x.1=true→x.2.1.length+x.2.2.1.length≤s.l.length)∧(A0 32 s.l).map u0.mk=x.2.2.1++(if x.1=true then A0 32 x.2.1 else []).map u0.mk) (fun x=>if x.1=true then x.2.1.length+1 else 0) ((true,s.l,[],.slice none 0 0)) (.nil _) ?_ (.c2 a8 a8 (.cons a8 (.nil _))) (a8) fun x hF => ?_
 ·exact⟨by simp,fun _=>by simp,rfl⟩
 obtain⟨mo,r,out,w⟩:=x
 obtain⟨f1,f2,f3⟩:=hF
 dsimp only at f1 f2 f3 ⊢
 refine .q 5 hG ?_
 refine .cond (.t a8) (fun hc6 => ?_) (fun hc6 => ?_)
 ·refine .q 3 hG ?_
  obtain rfl:=hc6
  have f2:=f2 rfl
  have hcl:=Q5 32 r
  refine .q 6 hG ?_
  refine .p (.A4 hG (a1t _ _) (.cons (.t a8) (.cons (.u8 32 a8) .nil)) ?_)
  refine .q 11 hG ?_
  refine .bs a8 (by decide) fun b15 => ?_
  refine .ap (by first|omega|(simp;done)|(simp;omega)|(simp at *;omega)) (by first|omega|(simp;done)|(simp;omega)|(simp at *;omega)) fun w16 => ?_
  refine .q 1 hG ?_
  refine .drop ?_
  refine .q 1 hG ?_
  refine⟨((y2 32 r).2.2,(y2 32 r).2.1,out ++ [⟨(y2 32 r).1⟩],w16),.c2 a8 a8 (.cons a8 (.nil _)),a8,?_,a9C r⟩
  exact⟨by simp;omega,fun h=>by have:=Y3 h;simp;omega,by dsimp only;rw [f3,if_pos rfl,Z8];exact a8l out r⟩
 ·refine .q 2 hG ?_
  refine .F0 hC .z (.as 3 a8 .z ?_)
  refine .q 5 hG ?_
  refine .e1 a8 a8 ?_
  rw [f3];simp [hc6]
def a4J (x:List UInt8):Int:=if x.head?=some 45 then -1*L3 (x.drop 1) else 1*L3 x
theorem a81 (l:List UInt8):L3 l≤1000000000000000:=by
 unfold L3
 split
 ·omega
 ·rename_i h
  split
  ·rename_i h2
   have h3:=a5e l.length l rfl h2
   have h4:10^l.length≤10^15:=Nat.pow_le_pow_right (by decide) (by omega)
   have:(10:Nat)^15=1000000000000000:=by decide
   omega
  ·omega
theorem a9E {n:Int} (h0 : -1000000000000000 < n) (h1:n < 1000000000000000):a4J (Lib.itoa n)=n:=by
 unfold a4J Lib.itoa
 split
 ·rename_i h
  rw [if_pos (show(45::decDigits n.natAbs).head?=some 45 from rfl)]
  show -1*L3 (decDigits n.natAbs)=n
  rw [a0M (by omega)];omega
 ·rename_i h
  have hh:¬(decDigits n.toNat).head?=some 45:=fun e=>by
   cases hd:decDigits n.toNat with
   | nil=>rw [hd] at e;cases e
   | cons c r =>
    rw [hd] at e
    exact a02 n.toNat (c:=45) (by decide) c (by rw [hd];simp) (Option.some.inj e)
  rw [if_neg hh,a0M (by omega)];omega
theorem b0X {x:List UInt8} (h:(decide (u0.mk x≠⟨[]⟩)&&decide (x.getD 0 0=45))=true):a4J x = -1*L3 (x.drop 1):=by
 simp only [Bool.and_eq_true,decide_eq_true_eq] at h
 cases x with
 | nil=>exact absurd rfl h.1
 | cons c r=>unfold a4J;rw [if_pos (by rw [show c=45 from h.2];rfl)]
theorem b0Y {x:List UInt8} (h:(decide (u0.mk x≠⟨[]⟩)&&decide (x.getD 0 0=45))=false):a4J x=1*L3 x:=by
 unfold a4J
 rw [if_neg]
 intro e
 cases x with
 | nil=>cases e
 | cons c r=>simp [Option.some.inj e] at h
theorem G5.b3F {s:Step} {t p0 w0:List UInt8} {PR WR:List (List UInt8)} (h:G5 s t) (hP:Lib.split t [59,32]=p0::PR) (hW:A0 32 p0=w0::WR):PR=a09 s∧WR=(p9 s).map Lib.itoa∧U4.getD s.Kind.toNat []=w0:=by
 rw [h.split,parts_eq] at hP
 injection hP with h1 h2
 rw [←h1,a0d] at hW
 injection hW with h3 h4
 exact⟨h2.symm,h4.symm,h3⟩
theorem a5l {s:Step} {t:List UInt8} (h:G5 s t):((p9 s).map Lib.itoa).map a4J=p9 s:=by
 rw [List.map_map]
 conv=>rhs;rw [←List.map_id (p9 s)]
 refine List.map_congr_left fun n hn => ?_
 obtain⟨h0,h1⟩:=a6f (h.ok.num n hn)
 exact a9E h0 h1
theorem a3v {k:Int} (hk:1≤k∧k < 23) (n:List Int) (l:List Pred) (h:u0) (hn:n.length=(C3 k).length):(a4q k n l h).l9=l:=by
 rw [←a63 hk n l h hn]
 show(a2z (C3 k) n (stL k h l)).l9=l
 rw [a2f];rfl
theorem a5m {s:Step} {t:u0} (h:(decide ((W3 s).2=0)&&decide ((W3 s).1=⟨t.l ++ [10]⟩))=true):G5 s t.l:=by
 simp only [Bool.and_eq_true,decide_eq_true_eq] at h
 cases hq:decide ((D0 s).2=0) with
 | true =>
  have hq:=of_decide_eq_true hq
  have h2:=h.2
  unfold W3 at h2
  rw [if_pos hq] at h2
  have h3:(D0 s).1.l ++ [10]=t.l ++ [10]:=congrArg u0.l h2
  exact G5.of (Prod.ext (by show(D0 s).1=⟨t.l⟩;rw [←List.append_cancel_right h3]) hq)
 | false =>
  have hq:=of_decide_eq_false hq
  have h1:=h.1
  unfold W3 at h1
  rw [if_neg hq] at h1
  exact absurd h1 hq
theorem a4x {s:Step} {t:u0} (h:G5 s t.l):(decide ((W3 s).2=0)&&decide ((W3 s).1=⟨t.l ++ [10]⟩))=true:=by
 unfold W3
 rw [h.line];simp
theorem a8m (t:u0) (ht:t.l.length≤7900):y6 gl prog 24 [.v t] (fun r=>∃ s ok,r = .t2 (.v s) (.v ok)∧(ok=true→G5 s t.l)∧(ok=false→∀ s',¬G5 s' t.l)):=by
 refine y6.jn func24 (by kernel_rfl) 146 rfl fun C hC hG => ?_
 refine .q 3 hG fun b2 => ?_
 refine .q 3 hG ?_
 have hps:=a5h t.l [59,32]
 have hpc:=a2F (Lib.count t.l [59,32]) t.l
 have hsm:=a3r t.l
 refine .q 2 hG ?_
 refine .k hG (a9B _ ht) ?_
 obtain⟨PS,hPS⟩:∃ x,Lib.split t.l [59,32]=x:=⟨_,rfl⟩
 change Lib.splitK _ _ _ _=PS at hPS
 rw [hPS] at hpc
 change Lib.split t.l [59,32]=PS at hPS
 rw [hPS] at hps hsm
 rw [hPS]
 rcases PS with _|⟨p0,PR⟩
 ·exact absurd hps (Nat.lt_irrefl 0)
 refine .q 5 hG ?_
 refine .ix (by first|omega|(simp;done)|(simp;omega)|(simp at *;omega)) (by first|omega|(simp;done)|(simp;omega)|(simp at *;omega)) ?_
 refine .q 1 hG ?_
 rw [show(List.map u0.mk (p0::PR))[Int.toNat 0]'(Nat.succ_pos _)=u0.mk p0 from rfl]
 refine .k hG (a9D _ (by have:=hsm p0 (List.mem_cons_self ..);show p0.length≤_;omega)) ?_
 dsimp only
 obtain⟨W,hW⟩:∃ x,A0 32 p0=x:=⟨_,rfl⟩
 have hwl:=Z9 32 p0
 rw [hW] at hwl
 have hwc:=X4 32 p0
 rw [hW] at hwc
 have hw9:=a1w 32 p0
 rw [hW] at hw9
 rw [hW]
 rcases W with _|⟨w0,WR⟩
 ·exact absurd rfl hw9
 refine .q 12 hG ?_
 refine .C2 (α:=Nat×Nat) [(0,_),(2,_),(4,_),(5,_)] (fun x R=>(6,.v (x.2:Int))::(7,.v (x.1:Int))::R) (Function.const _ _) (fun x=>1≤x.1∧x.1≤23∧x.2 < 23∧(x.2=0∨U4.getD x.2 []=w0)∧∀ j,1≤j→j < x.1→U4.getD j []=w0→x.2=j) (fun x=>23 - x.1) ((1,0)) (.c2 a8 a8 (.c2 a8 a8 (.nil _))) ?_ (.c2 a8 a8 (.c2 a8 a8 (.c2 a8 a8 (.nil _)))) (a8) fun x hF => ?_
 ·exact⟨by decide,by decide,by decide,.inl rfl,fun j h1 h2=>by dsimp only at h2;omega⟩
 obtain⟨k,q⟩:=x
 obtain⟨h1,h2,h3,h4,h5⟩:=hF
 dsimp only at h1 h2 h3 h4 h5 ⊢
 refine .q 7 hG ⟨fun hc29 => ?_,fun hc29 => ?_⟩
 ·refine .q 4 hG ?_
  refine .draw (by kernel_rfl) 6 [[],[(32,0)],[],[(34,2)],[(35,3)],[(33,1),(36,4)]] a8 (by kernel_rfl) a8 ?_
  refine⟨_,j7.move (.t a8) a8,?_⟩
  refine⟨_,j7.A4 hG (a4p _ (by omega)) (.cons (.t a8) .nil) a8,?_⟩
  refine⟨_,j7.move (.t a8) a8,?_⟩
  refine⟨_,j7.idx ty9 underlying36 (.t a8) (.i a8) (by first|omega|(simp;done)|(simp;omega)|(simp at *;omega)) (by first|omega|(simp;done)|(simp;omega)|(simp at *;omega)) a8,?_⟩
  refine⟨_,j7.F1 ty9 (.t a8) a8,?_⟩
  refine⟨_,j7.b0e (.t a8) (.t a8) a8,?_⟩
  show C4 _ _ _ _ _ [] ((37,_)::(36,_)::(35,_)::(34,_)::(33,_)::(32,_)::_) _
  refine .q 2 hG ⟨fun hc37 => ?_,fun hc37 => ?_⟩
  ·refine .q 6 hG ?_
   refine .ad (by first|omega|(simp;done)|(simp;omega)|(simp at *;omega)) (by first|omega|(simp;done)|(simp;omega)|(simp at *;omega)) ?_
   refine .q 2 hG ?_
   refine⟨(k+1,k),.c2 rfl rfl (.c2 rfl rfl (.c2 rfl rfl (.nil _))),rfl,?_,by dsimp only;omega⟩
   exact⟨by dsimp only;omega,by dsimp only;omega,by dsimp only;omega,.inr (congrArg u0.l hc37),fun j h6 h7 h8=>by dsimp only at h7 ⊢;exact a8h (by omega) (by omega) ((congrArg u0.l hc37).trans h8.symm)⟩
  ·refine .q 3 hG ?_
   refine .ad (by first|omega|(simp;done)|(simp;omega)|(simp at *;omega)) (by first|omega|(simp;done)|(simp;omega)|(simp at *;omega)) ?_
   refine .q 2 hG ?_
   refine⟨(k+1,q),.c2 rfl rfl (.c2 rfl rfl (.c2 rfl rfl (.nil _))),rfl,?_,by dsimp only;omega⟩
   exact⟨by dsimp only;omega,by dsimp only;omega,h3,h4,fun j h6 h7 h8=>by dsimp only at h7 ⊢;rcases Nat.lt_or_ge j k with h|h;exact h5 j h6 h h8;(obtain rfl:j=k:=by omega);exact absurd (congrArg u0.mk h8) hc37⟩
 ·refine .q 3 hG ?_
  obtain rfl:k=23:=(by omega)
  have hsd:∀ s',G5 s' t.l→PR=a09 s'∧WR=(p9 s').map Lib.itoa∧(q:Int)=s'.Kind:=(fun s' h=>by obtain⟨a1,a2,a3⟩:=h.b3F hPS hW;have hk:=h.kind;have:=h5 s'.Kind.toNat (by omega) (by omega) a3;exact⟨a1,a2,by omega⟩)
  have hml:(List.map u0.mk (w0::WR)).length=WR.length+1:=(by simp)
  have hwl9:WR.length≤7900:=(by have:=hsm p0 (by simp);simp at hwc;omega)
  refine .q 6 hG ?_
  refine .go 41 a8 (.t a8) (fun hg44 => .sub (.q a8 hg44) (.i a8) (by first|omega|(simp;done)|(simp;omega)|(have:=hg44;simp at this;omega)) (by first|omega|(simp;done)|(simp;omega)|(have:=hg44;simp at this;omega)) a8) ?_
  refine .q 1 hG ?_
  refine .go 41 rfl (.t rfl) (fun hg46 => .bS1 j4.l0 rfl q9 a1a (fun c0=>(⟨c0,0,0,0,[],default,⟨[]⟩,default⟩:j4)) (fun _=>rfl) rfl rfl (.q rfl hg46) rfl) (.go 41 rfl (.t rfl) (fun hg47 => .A4 hG (a3o _ (by have h9:=hg47;simp at h9;show 1≤(q:Int)∧(q:Int) < 23;omega)) (.cons (.q rfl hg47) .nil) rfl) ?_)
  refine .q 4 hG ?_
  refine .cond (.t a8) (fun hc50 => ?_) (fun hc50 => ?_)
  ·refine .q 2 hG ?_
   refine .p (.bS0 (α:=j4) a8 q9 a1a (.n (.W1 q9 (.t a8) (.t a8) .z (.p (.assign .b ?_)))))
   refine .q 2 hG ?_
   refine⟨_,.r2 a8 (.cell q9 a8 .z) (.tmp a8),?_⟩
   exact⟨_,false,rfl,fun h=>Bool.noConfusion h,fun _ s' hs'=>by obtain⟨_,q2,q3⟩:=hsd s' hs';have q4:=hs'.kind;have e9:=a0O (⟨(q:Int),0,0,0,[],default,⟨[]⟩,default⟩:Step);have e8:=a0O s';rw [←q3] at e8;have e7:WR.length=(p9 s').length:=(by rw [q2,List.length_map]);dsimp only at e9;simp only [Bool.or_eq_true,decide_eq_true_eq] at hc50;omega⟩
  ·refine .q 3 hG ?_
   refine .p (.assign .raw ?_)
   refine .q 3 hG ?_
   refine .V0 3 Int ?_
   have hq0:¬(q:Int)=0:=(by intro e;rw [e] at hc50;simp at hc50)
   have hq:1≤(q:Int)∧(q:Int) < 23:=(by omega)
   have hwn:WR.length=(C3 (q:Int)).length:=(by have e9:=a0O (⟨(q:Int),0,0,0,[],default,⟨[]⟩,default⟩:Step);simp [hq0] at hc50;dsimp only at e9;omega)
   refine .q 4 hG ?_
   refine .C2 (α:=Nat×List Int×Value) [(0,_),(2,_),(4,_),(5,_),(6,_)] (fun y R=>(8,.raw y.2.2)::(9,.v (y.1:Int))::R) (fun y => [(true,.own 3 y.2.2 y.2.1),(true,.ob (ptr b2 0) (default:Step))]) (fun y=>1≤y.1∧y.1≤WR.length+1∧y.2.1=(WR.take (y.1 - 1)).map a4J) (fun y=>WR.length+1 - y.1) ((1,[],.slice none 0 0)) (.c2 a8 a8 (.c2 a8 a8 (.cons a8 (.nil _)))) ?_ (.c2 a8 a8 (.c2 a8 a8 (.c2 a8 a8 (.cons a8 (.nil _))))) (a8) fun y hF => ?_
   ·exact⟨Nat.le_refl _,Nat.succ_le_succ (Nat.zero_le _),a8⟩
   obtain⟨i,n,w⟩:=y
   obtain⟨g1,g2,g3⟩:=hF
   dsimp only at g1 g2 g3 ⊢
   refine .q 9 hG ⟨fun hc55 => ?_,fun hc55 => ?_⟩
   ·refine .q 4 hG ?_
    obtain⟨i1,rfl⟩:∃ i1,i=i1+1:=⟨i - 1,by omega⟩
    have hi:i1 < WR.length:=(by omega)
    have hnl:n.length≤WR.length:=(by rw [g3];simp;omega)
    have hwi:(WR[i1]'hi).length≤7900:=(by have:=hwl (WR[i1]'hi) (by simp);have:=hsm p0 (by simp);omega)
    refine .q 3 hG ?_
    refine .ix (by first|omega|(simp;done)|(simp;omega)|(simp at *;omega)) (by first|omega|(simp;done)|(simp;omega)|(simp at *;omega)) ?_
    refine .q 2 hG ?_
    rw [(fun p=>by simp:∀ p,(List.map u0.mk (w0::WR))[(((i1+1:Nat):Int)).toNat]'p=u0.mk (WR[i1]'hi))]
    refine .q 12 hG ?_
    refine .go 64 rfl (.t rfl) (fun hg66 => .b3D underlying9 (.q rfl hg66) (.i rfl) (by omega) (by have h9:=hg66;simp at h9;have h8:=List.length_pos_iff.2 h9;first|(show(0:Int) < ((WR[i1]'hi).length:Int);omega)|(simp;exact h9)|(simp;omega)) rfl) ?_
    refine .q 3 hG ?_
    refine .cond (.t a8) (fun hc68 => ?_) (fun hc68 => ?_)
    ·have hxp:0 < (WR[i1]'hi).length:=(by have h9:=hc68;simp at h9;exact List.length_pos_iff.2 h9.1)
     refine .q 2 hG ?_
     refine .p (.a0Y underlying9 (.t a8) (.i a8) (by first|omega|(simp;done)|(simp;omega)|(simp at *;omega)) (by first|omega|(simp;done)|(simp;omega)|(simp at *;omega)) (.ag a8 (.p (.assign (.i a8) ?_))))
     refine .q 1 hG ?_
     have hnd:a4J (WR[i1]'hi) = -1*L3 ((WR[i1]'hi).drop 1):=b0X hc68
     have hdl:=a81 ((WR[i1]'hi).drop 1)
     have hdg:=a8X ((WR[i1]'hi).drop 1)
     refine .q 4 hG ?_
     refine .k hG (a0v _) (.p (.mul (.t a8) (.t a8) (by first|omega|(simp;done)|(simp;omega)|(simp at *;omega)) (by first|omega|(simp;done)|(simp;omega)|(simp at *;omega)) ?_))
     refine .bs a8 (by decide) fun b76 => ?_
     refine .ap (by first|omega|(simp;done)|(simp;omega)|(simp at *;omega)) (by first|omega|(simp;done)|(simp;omega)|(simp at *;omega)) fun w77 => ?_
     refine .q 1 hG ?_
     refine .drop ?_
     refine .q 3 hG ?_
     refine .ad (by first|omega|(simp;done)|(simp;omega)|(simp at *;omega)) (by first|omega|(simp;done)|(simp;omega)|(simp at *;omega)) ?_
     refine .q 2 hG ?_
     refine⟨(i1+1+1,n ++ [-1*L3 ((WR[i1]'hi).drop 1)],w77),.c2 rfl rfl (.c2 rfl rfl (.c2 rfl rfl (.cons rfl (.nil _)))),rfl,?_,by dsimp only;omega⟩
     exact⟨by dsimp only;omega,by dsimp only;omega,by dsimp only;rw [g3,show i1+1+1 - 1=i1+1 by omega,show i1+1 - 1=i1 by omega,List.take_succ_eq_append_getElem hi,List.map_append,List.map_singleton,hnd]⟩
    ·refine .q 1 hG ?_
     have hnd:a4J (WR[i1]'hi)=1*L3 (WR[i1]'hi):=b0Y hc68
     have hdl:=a81 (WR[i1]'hi)
     have hdg:=a8X (WR[i1]'hi)
     refine .q 4 hG ?_
     refine .k hG (a0v _) (.p (.mul (.t a8) (.t a8) (by first|omega|(simp;done)|(simp;omega)|(simp at *;omega)) (by first|omega|(simp;done)|(simp;omega)|(simp at *;omega)) ?_))
     refine .bs a8 (by decide) fun b76 => ?_
     refine .ap (by first|omega|(simp;done)|(simp;omega)|(simp at *;omega)) (by first|omega|(simp;done)|(simp;omega)|(simp at *;omega)) fun w77 => ?_
     refine .q 1 hG ?_
     refine .drop ?_
     refine .q 3 hG ?_
     refine .ad (by first|omega|(simp;done)|(simp;omega)|(simp at *;omega)) (by first|omega|(simp;done)|(simp;omega)|(simp at *;omega)) ?_
     refine .q 2 hG ?_
     refine⟨(i1+1+1,n ++ [1*L3 (WR[i1]'hi)],w77),.c2 rfl rfl (.c2 rfl rfl (.c2 rfl rfl (.cons rfl (.nil _)))),rfl,?_,by dsimp only;omega⟩
     exact⟨by dsimp only;omega,by dsimp only;omega,by dsimp only;rw [g3,show i1+1+1 - 1=i1+1 by omega,show i1+1 - 1=i1 by omega,List.take_succ_eq_append_getElem hi,List.map_append,List.map_singleton,hnd]⟩
   ·refine .q 2 hG ?_
    refine .F0 hC .z (.as 8 a8 .z ?_)
    obtain rfl:i=WR.length+1:=(by omega)
    rw [show WR.take (WR.length+1 - 1)=WR from by simp] at g3
    refine .q 2 hG ?_
    refine .p (.b1y ty9 underlying36 (.t a8) (.i a8) (by first|omega|(simp;done)|(simp;omega)|(simp at *;omega)) (by first|omega|(simp;done)|(simp;omega)|(simp at *;omega)) ?_)
    refine .q 1 hG ?_
    rw [show List.drop (Int.toNat 1) (List.map u0.mk (p0::PR))=List.map u0.mk PR from rfl]
    refine .q 8 hG ?_
    refine .k hG (a4o _) ?_
    refine .q 16 hG ?_
    refine .cond (.t a8) (fun hc90 => ?_) (fun hc90 => ?_)
    ·obtain⟨hkh,hpl⟩:khl (q:Int)=true∧0 < PR.length:=(by simpa using hc90)
     obtain⟨QS,h9,rfl⟩:=a8Z (l:=PR) (by intro e;subst e;exact absurd hpl (by decide))
     have hmq9:(List.map u0.mk (QS ++ [h9])).length=QS.length+1:=(by simp)
     refine .draw (by kernel_rfl) 13 [[],[],[(92,1)],[(93,2)],[(91,0),(94,3)],[],[],[(97,6)],[(98,7)],[(96,5),(99,8)],[(100,9)],[(95,4)],[(101,10)]] a8 (by kernel_rfl) a8 ?_
     refine⟨_,j7.move (.t a8) a8,?_⟩
     refine⟨_,j7.move (.t a8) a8,?_⟩
     refine⟨_,j7.len underlying36 (.t a8) a8,?_⟩
     refine⟨_,j7.sub (.t a8) (.i a8) (by first|omega|(simp;done)|(simp;omega)|(simp at *;omega)) (by first|omega|(simp;done)|(simp;omega)|(simp at *;omega)) a8,?_⟩
     refine⟨_,j7.b2S ty9 underlying36 (.t a8) (.t a8) (by first|omega|(simp;done)|(simp;omega)|(simp at *;omega)) (by first|omega|(simp;done)|(simp;omega)|(simp at *;omega)) a8,?_⟩
     refine⟨_,j7.move (.t a8) a8,?_⟩
     refine⟨_,j7.move (.t a8) a8,?_⟩
     refine⟨_,j7.len underlying36 (.t a8) a8,?_⟩
     refine⟨_,j7.sub (.t a8) (.i a8) (by first|omega|(simp;done)|(simp;omega)|(simp at *;omega)) (by first|omega|(simp;done)|(simp;omega)|(simp at *;omega)) a8,?_⟩
     refine⟨_,j7.idx ty9 underlying36 (.t a8) (.t a8) (by first|omega|(simp;done)|(simp;omega)|(simp at *;omega)) (by first|omega|(simp;done)|(simp;omega)|(simp at *;omega)) a8,?_⟩
     refine⟨_,j7.F1 ty9 (.t a8) a8,?_⟩
     refine⟨_,j7.assign (.t a8) a8,?_⟩
     refine⟨_,j7.assign (.t a8) a8,?_⟩
     show C4 _ _ _ _ _ [] ((12,_)::(4,_)::(101,_)::(100,_)::(99,_)::(98,_)::(97,_)::(96,_)::(95,_)::(94,_)::(93,_)::(92,_)::(91,_)::_) _
     rw [(fun p=>by simp:∀ p,(List.map u0.mk (QS ++ [h9]))[(((List.map u0.mk (QS ++ [h9])).length:Int) - 1).toNat]'p=u0.mk h9)]
     rw [show(((List.map u0.mk (QS ++ [h9])).length:Int) - 1).toNat=QS.length from by omega]
     rw [show List.take QS.length (List.map u0.mk (QS ++ [h9]))=List.map u0.mk QS from by simp]
     refine .q 3 hG ?_
     refine .p (.assign .raw ?_)
     refine .q 3 hG ?_
     obtain⟨h9s,hh9,hqs⟩:∃ h9s:u0,h9s=⟨h9⟩∧∀ s',G5 s' t.l→QS=s'.l9.map D3∧(G4 s').get s'=h9s:=⟨⟨h9⟩,rfl,fun s' hs'=>hs'.list (by rw [←(hsd s' hs').2.2];exact hkh) (hsd s' hs').1⟩
     rw [←hh9]
     have hql:QS.length*2≤7900:=(by simp at hpc;omega)
     have hqm:∀ x∈QS,x.length≤7900:=(fun x hx=>by have:=hsm x (by simp [hx]);omega)
     have hmq:(List.map u0.mk QS).length=QS.length:=List.length_map _
     refine .V0 39 Pred ?_
     refine .q 4 hG ?_
     refine .C2 (α:=Nat×List Pred×Value) [(0,_),(2,_),(4,_),(6,_),(8,_),(12,_),(13,_)] (fun z R=>(15,.raw z.2.2)::(16,.v (z.1:Int))::R) (fun z => [(true,.own 39 z.2.2 z.2.1),(true,.fz w (.v n)),(true,.ob (ptr b2 0) (default:Step))]) (fun z=>z.1≤QS.length∧z.2.1.length=z.1∧∀ s',G5 s' t.l→z.2.1=s'.l9.take z.1) (fun z=>QS.length - z.1) ((0,[],.slice none 0 0)) (.c2 a8 a8 (.c2 a8 a8 (.c2 a8 a8 (.cons a8 (.nil _))))) ?_ (.c2 a8 a8 (.c2 a8 a8 (.c2 a8 a8 (.c2 a8 a8 (.cons a8 (.nil _)))))) (a8) fun z hF => ?_
     ·exact⟨Nat.zero_le _,a8,fun _ _=>a8⟩
     obtain⟨j,l,u⟩:=z
     obtain⟨e1,e2,e3⟩:=hF
     dsimp only at e1 e2 e3 ⊢
     refine .q 9 hG ⟨fun hc105 => ?_,fun hc105 => ?_⟩
     ·refine .q 4 hG ?_
      have hj:j < QS.length:=(by omega)
      refine .q 3 hG ?_
      refine .ix (by first|omega|(simp;done)|(simp;omega)|(simp at *;omega)) (by first|omega|(simp;done)|(simp;omega)|(simp at *;omega)) ?_
      refine .q 1 hG ?_
      simp only [List.getElem_map,Int.toNat_natCast]
      have hqj:=hqm _ (List.getElem_mem hj)
      refine .k hG (a60 _ (by first|omega|(simp;done)|(simp;omega)|(simp at *;omega))) ?_
      refine .q 4 hG fun b17 => ?_
      refine .q 13 hG ?_
      refine .cond (.t a8) (fun hc121 => ?_) (fun hc121 => ?_)
      ·refine .q 2 hG ?_
       refine .p (.bS0 (α:=j4) a8 q9 a1a ?_)
       refine .q 4 hG ?_
       refine⟨_,.r2 a8 (.cell q9 a8 .z3) (.tmp a8),?_⟩
       exact⟨_,false,rfl,fun h=>Bool.noConfusion h,fun _ s' hs'=>by obtain⟨q1,q2⟩:=hqs s' hs';have q3:=(S3 hs' q1 (e3 s' hs') hj).1;rw [q3] at hc121;cases hk:kpr s'.Kind with|true=>rw [(hsd s' hs').2.2,hk] at hc121;simp at hc121|false=>rw [hs'.b0R hk] at q1;rw [q1] at hj;simp at hj⟩
      ·refine .q 4 hG ?_
       refine .bs a8 (by decide) fun b125 => ?_
       refine .ap (by first|omega|(simp;done)|(simp;omega)|(simp at *;omega)) (by first|omega|(simp;done)|(simp;omega)|(simp at *;omega)) fun w126 => ?_
       refine .q 1 hG ?_
       refine .drop (.drop ?_)
       refine .q 3 hG ?_
       refine .ad (by first|omega|(simp;done)|(simp;omega)|(simp at *;omega)) (by first|omega|(simp;done)|(simp;omega)|(simp at *;omega)) ?_
       refine .q 2 hG ?_
       refine⟨(j+1,l ++ [(a1K ⟨QS[j]⟩ 8).1],w126),.c2 rfl rfl (.c2 rfl rfl (.c2 rfl rfl (.c2 rfl rfl (.cons rfl (.nil _))))),rfl,?_,by dsimp only;omega⟩
       exact⟨by dsimp only;omega,by dsimp only;rw [List.length_append,e2];rfl,fun s' hs'=>(S3 hs' (hqs s' hs').1 (e3 s' hs') hj).2⟩
     ·refine .q 2 hG ?_
      refine .F0 hC .z (.as 15 a8 .z ?_)
      obtain rfl:j=QS.length:=(by omega)
      have hnn:n.length=(C3 (q:Int)).length:=(by rw [g3,List.length_map];exact hwn)
      refine .q 5 hG ?_
      refine .p (.A4 hG (a2A _ _ _ _ hq hnn) (.cons (.t a8) (.cons (.t a8) (.cons (.t a8) (.cons (.t a8) .nil)))) ?_)
      refine .q 1 hG fun b19 => ?_
      refine .q 5 hG ?_
      refine .k hG (a4s _ (by rw [a3v hq _ _ _ hnn];omega)) ?_
      refine .q 14 hG ?_
      refine .go 140 a8 (.t a8) (fun hg143 => .D8 (.q a8 hg143) (.s [10] (by decide) (by decide)) (by first|omega|(simp;done)|(simp;omega)|(have:=hg143;simp at this;omega)) a8) ?_
      refine .q 6 hG ?_
      refine⟨_,.r2 a8 (.cell q9 a8 .z3) (.tmp a8),?_⟩
      exact⟨_,_,rfl,a5m,fun h s' hs'=>by obtain⟨q1,q2⟩:=hqs s' hs';have q3:=e3 s' hs';rw [List.take_of_length_le (by rw [q1,List.length_map];exact Nat.le_refl _)] at q3;have q4:a4q (q:Int) n l h9s=s':=(by rw [g3,q3,(hsd s' hs').2.1,a5l hs',(hsd s' hs').2.2,←q2];exact hs'.made.symm);rw [q4,a4x hs'] at h;exact Bool.noConfusion h⟩
    ·refine .q 3 hG ?_
     refine .p (.assign .raw ?_)
     refine .q 3 hG ?_
     obtain⟨QS,rfl⟩:∃ Q,Q=PR:=⟨_,rfl⟩
     obtain⟨h9s,hh9,hqs⟩:∃ h9s:u0,h9s=⟨[]⟩∧∀ s',G5 s' t.l→QS=s'.l9.map D3∧(G4 s').get s'=h9s:=⟨⟨[]⟩,rfl,fun s' hs'=>by obtain⟨q1,_,q3⟩:=hsd s' hs';cases hk:khl s'.Kind with|false=>exact hs'.b2w hk q1|true=>exfalso;rw [q3,hk] at hc90;have h0:QS.length=0:=(by simpa using hc90);rw [q1] at h0;unfold a09 at h0;rw [if_pos hk] at h0;simp at h0⟩
     rw [←hh9]
     have hql:QS.length*2≤7900:=(by simp at hpc;omega)
     have hqm:∀ x∈QS,x.length≤7900:=(fun x hx=>by have:=hsm x (by simp [hx]);omega)
     have hmq:(List.map u0.mk QS).length=QS.length:=List.length_map _
     refine .V0 39 Pred ?_
     refine .q 4 hG ?_
     refine .C2 (α:=Nat×List Pred×Value) [(0,_),(2,_),(4,_),(6,_),(8,_),(12,_),(13,_)] (fun z R=>(15,.raw z.2.2)::(16,.v (z.1:Int))::R) (fun z => [(true,.own 39 z.2.2 z.2.1),(true,.fz w (.v n)),(true,.ob (ptr b2 0) (default:Step))]) (fun z=>z.1≤QS.length∧z.2.1.length=z.1∧∀ s',G5 s' t.l→z.2.1=s'.l9.take z.1) (fun z=>QS.length - z.1) ((0,[],.slice none 0 0)) (.c2 a8 a8 (.c2 a8 a8 (.c2 a8 a8 (.cons a8 (.nil _))))) ?_ (.c2 a8 a8 (.c2 a8 a8 (.c2 a8 a8 (.c2 a8 a8 (.cons a8 (.nil _)))))) (a8) fun z hF => ?_
     ·exact⟨Nat.zero_le _,a8,fun _ _=>a8⟩
     obtain⟨j,l,u⟩:=z
     obtain⟨e1,e2,e3⟩:=hF
     dsimp only at e1 e2 e3 ⊢
     refine .q 9 hG ⟨fun hc105 => ?_,fun hc105 => ?_⟩
     ·refine .q 4 hG ?_
      have hj:j < QS.length:=(by omega)
      refine .q 3 hG ?_
      refine .ix (by first|omega|(simp;done)|(simp;omega)|(simp at *;omega)) (by first|omega|(simp;done)|(simp;omega)|(simp at *;omega)) ?_
      refine .q 1 hG ?_
      simp only [List.getElem_map,Int.toNat_natCast]
      have hqj:=hqm _ (List.getElem_mem hj)
      refine .k hG (a60 _ (by first|omega|(simp;done)|(simp;omega)|(simp at *;omega))) ?_
      refine .q 4 hG fun b17 => ?_
      refine .q 13 hG ?_
      refine .cond (.t a8) (fun hc121 => ?_) (fun hc121 => ?_)
      ·refine .q 2 hG ?_
       refine .p (.bS0 (α:=j4) a8 q9 a1a ?_)
       refine .q 4 hG ?_
       refine⟨_,.r2 a8 (.cell q9 a8 .z3) (.tmp a8),?_⟩
       exact⟨_,false,rfl,fun h=>Bool.noConfusion h,fun _ s' hs'=>by obtain⟨q1,q2⟩:=hqs s' hs';have q3:=(S3 hs' q1 (e3 s' hs') hj).1;rw [q3] at hc121;cases hk:kpr s'.Kind with|true=>rw [(hsd s' hs').2.2,hk] at hc121;simp at hc121|false=>rw [hs'.b0R hk] at q1;rw [q1] at hj;simp at hj⟩
      ·refine .q 4 hG ?_
       refine .bs a8 (by decide) fun b125 => ?_
       refine .ap (by first|omega|(simp;done)|(simp;omega)|(simp at *;omega)) (by first|omega|(simp;done)|(simp;omega)|(simp at *;omega)) fun w126 => ?_
       refine .q 1 hG ?_
       refine .drop (.drop ?_)
       refine .q 3 hG ?_
       refine .ad (by first|omega|(simp;done)|(simp;omega)|(simp at *;omega)) (by first|omega|(simp;done)|(simp;omega)|(simp at *;omega)) ?_
       refine .q 2 hG ?_
       refine⟨(j+1,l ++ [(a1K ⟨QS[j]⟩ 8).1],w126),.c2 rfl rfl (.c2 rfl rfl (.c2 rfl rfl (.c2 rfl rfl (.cons rfl (.nil _))))),rfl,?_,by dsimp only;omega⟩
       exact⟨by dsimp only;omega,by dsimp only;rw [List.length_append,e2];rfl,fun s' hs'=>(S3 hs' (hqs s' hs').1 (e3 s' hs') hj).2⟩
     ·refine .q 2 hG ?_
      refine .F0 hC .z (.as 15 a8 .z ?_)
      obtain rfl:j=QS.length:=(by omega)
      have hnn:n.length=(C3 (q:Int)).length:=(by rw [g3,List.length_map];exact hwn)
      refine .q 5 hG ?_
      refine .p (.A4 hG (a2A _ _ _ _ hq hnn) (.cons (.t a8) (.cons (.t a8) (.cons (.t a8) (.cons (.t a8) .nil)))) ?_)
      refine .q 1 hG fun b19 => ?_
      refine .q 5 hG ?_
      refine .k hG (a4s _ (by rw [a3v hq _ _ _ hnn];omega)) ?_
      refine .q 14 hG ?_
      refine .go 140 a8 (.t a8) (fun hg143 => .D8 (.q a8 hg143) (.s [10] (by decide) (by decide)) (by first|omega|(simp;done)|(simp;omega)|(have:=hg143;simp at this;omega)) a8) ?_
      refine .q 6 hG ?_
      refine⟨_,.r2 a8 (.cell q9 a8 .z3) (.tmp a8),?_⟩
      exact⟨_,_,rfl,a5m,fun h s' hs'=>by obtain⟨q1,q2⟩:=hqs s' hs';have q3:=e3 s' hs';rw [List.take_of_length_le (by rw [q1,List.length_map];exact Nat.le_refl _)] at q3;have q4:a4q (q:Int) n l h9s=s':=(by rw [g3,q3,(hsd s' hs').2.1,a5l hs',(hsd s' hs').2.2,←q2];exact hs'.made.symm);rw [q4,a4x hs'] at h;exact Bool.noConfusion h⟩
theorem Y6 (s:u0) (hs:s.l.length≤7900):y6 gl prog 12 [.v s] (fun r=>∃ q,P0 s.l 1 [] q∧r = .t3 (.v q.1) (.v q.2.1) (.v q.2.2)):=by
 refine y6.jn func12 (by kernel_rfl) 40 rfl fun C hC hG => ?_
 refine .q 8 hG ?_
 refine .p (.assign .raw ?_)
 refine .q 3 hG ?_
 refine .V0 30 Step ?_
 refine .q 4 hG ?_
 refine .C2 (α:=List UInt8×Nat×List Step×Value) [] (fun x R=>(0,.v (u0.mk x.1))::(5,.raw x.2.2.2)::(6,.v (x.2.1:Int))::R) (fun x => [(true,.own 30 x.2.2.2 x.2.2.1)]) (fun x=>x.1.length+x.2.2.1.length≤s.l.length∧x.2.1=x.2.2.1.length+1∧∀ q,P0 x.1 x.2.1 x.2.2.1 q→P0 s.l 1 [] q) (fun x=>x.1.length) ((s.l,1,[],.slice none 0 0)) (.nil _) ?_ (.c2 a8 a8 (.cons a8 (.nil _))) (a8) fun x hF => ?_
 ·exact⟨by simp,rfl,fun q h=>h⟩
 obtain⟨rest,n,out,w⟩:=x
 obtain⟨f1,f2,f3⟩:=hF
 dsimp only at f1 f2 f3 ⊢
 refine .q 7 hG ⟨fun hc13 => ?_,fun hc13 => ?_⟩
 ·refine .q 4 hG ?_
  have hr0:rest ≠ []:=(by intro e;subst e;exact hc13 rfl)
  refine .q 2 hG ?_
  refine .p (.A4 hG (a1t _ _) (.cons (.t a8) (.cons (.u8 10 a8) .nil)) ?_)
  refine .q 11 hG ?_
  refine .kx hG (a8m _ (by have:=(Q5 10 rest).1;show(y2 10 rest).1.length≤_;omega)) fun r24 hr24 => ?_
  obtain⟨st,ok,rfl,hok,hno⟩:=hr24
  refine .q 4 hG fun b10 => ?_
  refine .q 13 hG ?_
  refine .cond (.t a8) (fun hc32 => ?_) (fun hc32 => ?_)
  ·refine .q 8 hG ?_
   refine⟨_,.r3 a8 (.tmp a8) (.tmp a8) (.tmp a8),?_⟩
   exact⟨([],(n:Int),8),f3 _ (.bad n out hr0 fun x r hc st hst=>by rw [hc] at hc32;simp at hc32;rw [hc] at hno;exact hno hc32 st hst),rfl⟩
  ·refine .q 1 hG ?_
   obtain⟨hcb,hok2⟩:(y2 10 rest).2.2=true∧ok=true:=(by simpa using hc32)
   refine .q 3 hG ?_
   refine .bs a8 (by decide) fun b36 => ?_
   refine .ap (by first|omega|(simp;done)|(simp;omega)|(simp at *;omega)) (by first|omega|(simp;done)|(simp;omega)|(simp at *;omega)) fun w37 => ?_
   refine .q 3 hG ?_
   refine .drop (.drop ?_)
   refine .q 3 hG ?_
   refine .ad (by first|omega|(simp;done)|(simp;omega)|(simp at *;omega)) (by first|omega|(simp;done)|(simp;omega)|(simp at *;omega)) ?_
   refine .q 2 hG ?_
   refine⟨((y2 10 rest).2.1,n+1,out ++ [st],w37),.c2 a8 a8 (.cons a8 (.nil _)),a8,?_,Y3 hcb⟩
   exact⟨by have:=Y3 hcb;simp;omega,by simp;omega,fun q h=>f3 q (.line (by rw [←hcb]) (hok hok2) h)⟩
 ·refine .q 2 hG ?_
  refine .F0 hC .z (.as 5 a8 .z ?_)
  refine .q 7 hG ?_
  refine⟨_,.r3 a8 (.tmp a8) (.tmp a8) (.tmp a8),?_⟩
  exact⟨(out,0,0),f3 _ (by rw [show rest = [] from by simpa using hc13];exact .nil n out),rfl⟩
end Go.Proofs.YtfkbejimghamkaaGreatDoor
namespace Go.Ab
open Go.Fl Go.RowKit Go.Shelf Go.Proofs
open p6 (rep)
structure Bld where
 b:Nat
 T:TypeId
 E:TypeId
 l:List UInt8
instance:UB Bld where
  ub _ w x X:=w=ptr x.b 0∧∃ p v:Value,(p = .pointer none∨p = .pointer (some ⟨x.b,0,none⟩)) ∧
    ((v = .slice none 0 0 ∧ x.l = [] ∧ X = [(x.b, .cells #[p, v] x.T (0, 0))]) ∨
     ∃ (g cap:Nat) (cur:Array Value),v = .slice (some ⟨g,0,none⟩) x.l.length cap∧x.l.length≤cap∧cap≤maxLen∧cur.size=cap*1∧cur.toList.take (x.l.length*1)=Lib.byteCells x.l∧X = [(x.b,.cells #[p,v] x.T (0,0)),(g,.cells cur x.E (0,0))])
  mono _ h:=h
theorem Bld.is {I:Im} {u:Value} {x:Bld} {X:List (Nat×Obj)} {w:World} {B:Nat} (h:(C5.usr u x).a5H I X) (hn:(X.map Prod.fst).Nodup) (hX:∀ p∈X,w.heap[p.1]?=some p.2∧B≤p.1):Lib.IsBuilder x.T x.E B x.b (Lib.byteCells x.l) w:=by
 obtain⟨_,p,v,hp,h⟩:=h
 have key:Lib.BuilderAt x.T x.E B x.b p (Lib.byteCells x.l) w:=by
  rcases h with ⟨rfl,hl,rfl⟩|⟨g,cap,cur,rfl,h1,h2,h3,h4,rfl⟩
  ·have:=hX _ (List.mem_singleton.2 rfl)
   rw [hl]
   exact⟨this.2,_,this.1,World.ownsRow_nil _ _ _ _,by simp [Value.ownBlock]⟩
  ·have h5:=hX _ (List.mem_cons_self ..)
   have h6:=hX _ (List.mem_cons_of_mem _ (List.mem_cons_self ..))
   refine⟨h5.2,_,h5.1,⟨by rw [Nat.mul_one],.inr ⟨g,cap,cur,by rw [Lib.byteCells_length],h6.2,h6.1,by rw [Lib.byteCells_length];exact h1,h2,h3,by rw [Lib.byteCells_length];exact h4⟩⟩,?_⟩
   intro e
   have e:some g=some x.b:=e
   have e:=Option.some.inj e
   simp [e] at hn
 rcases hp with rfl|rfl
 ·exact .inl key
 ·exact .inr key
theorem Bld.of {x:Bld} {w:World} {B:Nat} (h:Lib.BuilderAt x.T x.E B x.b (.pointer (some ⟨x.b,0,none⟩)) (Lib.byteCells x.l) w) (I:Im):∃ X,(C5.usr (ptr x.b 0) x).a5H I X∧(X.map Prod.fst).Nodup∧∀ p∈X,w.heap[p.1]?=some p.2∧B≤p.1:=by
 obtain⟨hB,v,hb,hown,hne⟩:=h
 rw [Lib.byteCells_length] at hown
 rcases hown.2 with ⟨rfl,h0⟩|⟨g,cap,cur,rfl,hg0,hg,h1,h2,h3,h4⟩
 ·refine⟨_,⟨rfl,_,_,.inr rfl,.inl ⟨rfl,List.eq_nil_of_length_eq_zero h0,rfl⟩⟩,by simp,fun p hp => ?_⟩
  rw [List.mem_singleton.1 hp];exact⟨hb,hB⟩
 ·have hgb:g≠x.b:=fun e=>hne (by rw [e];rfl)
  refine⟨_,⟨rfl,_,_,.inr rfl,.inr ⟨g,cap,cur,rfl,h1,h2,h3,h4,rfl⟩⟩,by simp [Ne.symm hgb],fun p hp => ?_⟩
  rcases List.mem_cons.1 hp with rfl|hp
  ·exact⟨hb,hB⟩
  ·rw [List.mem_singleton.1 hp];exact⟨hg,hg0⟩
def b5Y:Option Bld→j6
 | some x => [(true,.usr (ptr x.b 0) x)]
 | none => []
structure a2g (P:Program) (f:FuncId) (qs:List AV) (x:Bld) (r:AV) (x':Option Bld):Prop where
 ok:O5 P f
 run:∀ I vs B w,P5 I qs vs→Lib.IsBuilder x.T x.E B x.b (Lib.byteCells x.l) w→B≤w.heap.size→Calls P f vs.toArray w fun e w'=>∃ v,e = .returned v∧(∀ J,D2 J r v)∧Below B w w' ∧
  (match x' with|some y=>Lib.BuilderAt y.T y.E B y.b (.pointer (some ⟨y.b,0,none⟩)) (Lib.byteCells y.l) w'|none=>True)
def a69:u5→Prop
 | []=>True
 | p::r=>a3i p.2∧a69 r
theorem a69.look:∀ {σ:u5} {t:Nat} {a:AV},a69 σ→C9 σ t=some a→a3i a
 | [],t,a,_,h=>by cases h
 | p::r,t,a,⟨h1,h2⟩,h=>by
  obtain⟨s,b⟩:=p
  rw [F7] at h
  split at h
  ·cases h;exact h1
  ·exact a69.look h2 h
@[reducible] def AV.old (J:Im) (a:AV):AV := .pr (fun _ u=>D2 J a u) (fun _ h=>h)
@[reducible] def b2b (J:Im):List AV→Nat→u5
 | [],_ => []
 | a::r,k=>(k,AV.old J a)::b2b J r (k+1)
theorem a82 (J:Im):∀ (qs:List AV) (k:Nat),b2b J qs k=a5I (qs.map (AV.old J)) k
 | [],_=>rfl
 | a::r,k=>by rw [b2b,a82 J r (k+1)];rfl
theorem a3i.old {J:Im} {a:AV}:a3i (AV.old J a):=fun _ _ _ h=>h
theorem A7.old {C:Ctx} {σ:u5} {H:j6} {t:Nat} {a:AV} (h:C9 σ t=some (AV.old C.I0 a)):A7 C σ H (.tmp t) a:=fun ρ I L hs=>by
 obtain⟨u,h1,h2⟩:=hs.env t _ h
 exact⟨u,h1,D2.mono hs.U0 h2⟩
section
variable {P:Program} {C:Ctx} {N:Nat} {ops:Array Oper} {Q:Exit→u5→j6→Prop} {rest:List Oper} {σ σ0:u5} {H:j6} {d:Nat} {f:FuncId} {args:Array Operand} {tys:Array TypeId} {ty:TypeId} {ps:String} {af:Array Edge} {g:Option (Nat×Bool)} {qs:List AV} {r:AV} {T:TypeId}
theorem A9.b3G {KH:AV→j6→Prop} {d:Option Nat} (E:TypeId) (hz:a0j P T=some [.pointer none,.slice none 0 0]) (k:∀ b,KH (.raw (ptr b 0)) ((true,.usr (ptr b 0) (Bld.mk b T E []))::H)):A9 P C N ⟨d,.alloc T,ty,ps,af,g⟩ σ H KH :=
 .ofX fun ρ I L hs => .alloc hz fun b=>⟨.raw (ptr b 0),.usr (ptr b 0) (Bld.mk b T E []),_,rfl,rfl,⟨rfl,_,_,.inl rfl,.inl ⟨rfl,rfl,rfl⟩⟩,k b⟩
theorem C4.bld {x : Bld} (x' : Option Bld) (σ0 : u5) (hI : ∀ b o, C.I0 b = some o → b < C.w0.heap.size) (hc : a2g P f qs x r x') (hv : a0C C σ [(true, .usr (ptr x.b 0) x)] args.toList qs) (hs0 : a3D σ0 σ) (hf : a69 σ0)
    (k:C4 P C N ops Q rest ((d,r)::σ0) (b5Y x')):C4 P C N ops Q (⟨some d,.call ⟨.value (.func f),args,tys⟩,ty,ps,af,none⟩::rest) σ [(true,.usr (ptr x.b 0) x)]:=fun ρ I L hs=>by
  refine .s fun a w ha hst => ?_
  obtain⟨vs,h1,h2⟩:=hv.get hs
  rw [a0S hc.ok rfl (ha.ev (show ev ρ (.func f)=some _ from rfl)) (ha.evL h1)]
  obtain⟨X,R,rfl,hX,hR⟩:=hs.heap
  have hR:R = []:=hR
  subst hR
  have hnd:(X.map Prod.fst).Nodup:=by have:=hst.mem.nodup;simpa using this
  have hB:=Bld.is (w:=w) (B:=C.w0.heap.size) hX.1 hnd fun p hp=>⟨hst.mem.loc p (by simpa using hp),hX.2 rfl p hp⟩
  refine(hc.run I vs C.w0.heap.size w h2 hB hst.S4.size).mono ?_
  rintro e w' ⟨v,rfl,hr,hb,hx'⟩
  have him:∀ b o,C.I0 b=some o→w'.heap[b]?=some o:=fun b o ho=>(hb.block b (hI b o ho)).trans (hst.mem.im b o (hs.U0 b o ho))
  have hchg:Chg C.M C.w0 w':=⟨hb.os.trans hst.S4.os,hb.tape.trans hst.S4.tape,hb.output.trans hst.S4.output,Nat.le_trans hst.S4.size hb.size,fun i hi hm=>(hb.block i hi).trans (hst.S4.block i hi hm)⟩
  have henv:∀ H' L',P2 C.w0.heap.size C.I0 H' L'→S5 C C.I0 L' ((d,r)::σ0) H' ((d,v)::ρ):=fun H' L' hH'=>by
    refine⟨fun t b ht => ?_,hH',Le.refl _⟩
    rw [F7] at ht
    rw [Fl.M6]
    by_cases e:d=t
    · rw [if_pos e] at ht ⊢;cases ht;exact⟨v,rfl,hr _⟩
    · rw [if_neg e] at ht ⊢
      obtain⟨u,q1,q2⟩:=hs.env t b (hs0 t b ht)
      exact⟨u,q1,hf.look ht _ _ _ q2⟩
  have hno:∀ b,C.w0.heap.size≤b→C.I0 b=none:=fun b hb=>by
    cases ho:C.I0 b with
    | none=>rfl
    | some o=>have:=hI b o ho;omega
  refine⟨v,a8,C.I0,?_⟩
  cases x' with
  | none=>exact⟨[],⟨⟨him,by simp,by simp,by simp⟩,hchg,by simp,Le.refl _,fun b h0 h1=>absurd h0 h1⟩,k _ _ _ (henv _ _ rfl)⟩
  | some y =>
    obtain⟨Y,hY,hn,hp⟩:=Bld.of hx' C.I0
    refine⟨[Y],⟨⟨him,fun p hq=>(hp p (by simpa using hq)).1,fun p hq=>hno _ (hp p (by simpa using hq)).2,by simpa using hn⟩,hchg,fun p hq => .inl (hp p (by simpa using hq)).2,Le.refl _,fun b h0 h1=>absurd h0 h1⟩,k _ _ _ (henv _ _ ⟨Y,[],rfl,⟨hY,fun _ p hq=>(hp p hq).2⟩,rfl⟩)⟩
theorem y6.b0Z {G : Gl} {fn : Func} {c : Code} {qs : List AV} {post : AV → Prop} (hf : P.funcs[f]? = some fn) (hb : fn.body = some c) (hn : (fn.name == "runtime.NumGoroutine") = false)
    (N:Nat) (hN:fn.ntmps=N) (hl:Nat.ble qs.length N=true)
    (h:∀ C:Ctx,Ctx.Ok C→G.p C.I0→(∀ b o,C.I0 b=some o→b < C.w0.heap.size)→H6 P C N c (a3E P fn C (fun r _=>post r)) (b2b C.I0 qs 0) []):y6 G P f qs post:=fun I vs hG hvs =>
  ⟨⟨fn,hf,hn,by simp [hb]⟩,fun w hm=>Y8 hf hb N hN (by rw [hvs.len];exact hl) hm (M := []) (by simp)
    ((h ⟨w,[],I,none⟩ (fun k hk=>by cases hk) hG (fun b o hbo=>A8 (hm.im b o hbo)) (W6 vs 0) I [] ⟨by
      have hvo:P5 I (qs.map (AV.old I)) vs:=by
        clear h hl hm
        induction qs generalizing vs with
        | nil=>exact hvs
        | cons a qs ih =>
          obtain⟨v,r,rfl,h1,h2⟩:=hvs
          exact⟨v,r,a8,h1,ih r h2⟩
      rw [a82]
      exact hvo.env 0,rfl,Le.refl I⟩).mono fun e ρ J L hq=>a3E.q hq)
    fun v J L' w' hs hp=>by
      obtain⟨r,H,h1,h2,h3⟩:=hp
      exact⟨v,J,a8,hs.S4,hs.U0,fun b h0 h1=>hs.new b h0 h1,hs.mem.drop,r,h1,h3⟩⟩
end
section
variable {P:Program} {ρ:Ren} (X:Builder.Extra P ρ)
include X
theorem b3H (L:Lays.n166 P ρ) (hok:O5 P (ρ.f 166)) (b:Nat) (l:List UInt8) (s:u0) (h:l.length+s.l.length≤140737488355328):a2g P (ρ.f 166) [.raw (ptr b 0),.v s] ⟨b,ρ.t 72,ρ.t 5,l⟩ .any (some ⟨b,ρ.t 72,ρ.t 5,l++s.l⟩) where
 ok:=hok
 run I vs B w hv hB hw:=by
  obtain⟨v1,_,rfl,rfl,v2,_,rfl,h2,rfl⟩:=hv
  obtain⟨y,rfl,hy,_⟩:=V8 h2
  have hys:y.size=s.l.length:=by rw [←hy];rfl
  refine(Any.Builder_WriteString L X B b _ y w hB (by rw [Lib.byteCells_length,hys];exact h) hw).mono ?_
  rintro e w' ⟨rfl,h3,h4⟩
  refine⟨_,a8,fun _=>trivial,h4,?_⟩
  rw [Lib.strCells_eq,hy,←Lib.byteCells_append] at h3
  exact h3
theorem b2c (L:Lays.n167 P ρ) (hok:O5 P (ρ.f 167)) (b:Nat) (l:List UInt8) (c:UInt8) (h:l.length+1≤140737488355328):a2g P (ρ.f 167) [.raw (ptr b 0),.v c] ⟨b,ρ.t 72,ρ.t 5,l⟩ .any (some ⟨b,ρ.t 72,ρ.t 5,l ++ [c]⟩) where
 ok:=hok
 run I vs B w hv hB hw:=by
  obtain⟨v1,_,rfl,rfl,v2,_,rfl,h2,rfl⟩:=hv
  obtain⟨_,rfl,rfl⟩:=h2
  refine(Any.Builder_WriteByte L X B b _ (c.toNat:Int) w hB (by rw [Lib.byteCells_length];exact h) hw).mono ?_
  rintro e w' ⟨rfl,h3,h4⟩
  refine⟨_,a8,fun _=>trivial,h4,?_⟩
  rw [show([.int .u8 (c.toNat:Int)]:List Value)=Lib.byteCells [c] from rfl,←Lib.byteCells_append] at h3
  exact h3
theorem b2d (L:Lays.n169 P ρ) (hok:O5 P (ρ.f 169)) (b:Nat) (l:List UInt8) (hl:l.length≤9223372036854775807):a2g P (ρ.f 169) [.raw (ptr b 0)] ⟨b,ρ.t 72,ρ.t 5,l⟩ (.v (u0.mk l)) none where
 ok:=hok
 run I vs B w hv hB hw:=by
  obtain⟨v1,_,rfl,rfl,rfl⟩:=hv
  refine(Any.Builder_String_any L X B b l w hB hw).mono ?_
  rintro e w' ⟨rfl,h4⟩
  exact⟨_,a8,fun J=>X3 J l hl,h4,trivial⟩
end
end Go.Ab
namespace Go.Proofs.YtfkbejimghamkaaGreatDoor
open Go.Proofs.Tryz
open Go.Fl Go.Ab Go.Mac Go.Sha Go.Shelf Go.Proofs
theorem b1a (b:Nat) (l:List UInt8) (s:u0) (h:l.length+s.l.length≤140737488355328):a2g prog 18 [.raw (ptr b 0),.v s] ⟨b,61,5,l⟩ .any (some ⟨b,61,5,l++s.l⟩) :=
 b3H a6N b3w ⟨_,func18,by kernel_rfl,rfl⟩ b l s h
theorem a9G (b:Nat) (l:List UInt8) (c:UInt8) (h:l.length+1≤140737488355328):a2g prog 19 [.raw (ptr b 0),.v c] ⟨b,61,5,l⟩ .any (some ⟨b,61,5,l ++ [c]⟩) :=
 b2c a6N b3x ⟨_,func19,by kernel_rfl,rfl⟩ b l c h
theorem a9H (b:Nat) (l:List UInt8) (h:l.length≤9223372036854775807):a2g prog 20 [.raw (ptr b 0)] ⟨b,61,5,l⟩ (.v (u0.mk l)) none :=
 b2d a6N b3y ⟨_,func20,by kernel_rfl,rfl⟩ b l h
theorem Q7 (l:List Step) (h:∀ s∈l,s.l9.length≤4000) (hl:l.length≤10000):y6 gl prog 9 [.v l] (fun r=>r = .t2 (.v (P4 l).1) (.v (P4 l).2)):=by
 refine y6.b0Z func9 rfl (by kernel_rfl) 28 rfl rfl fun C hC hG hI => ?_
 refine .q 7 hG ?_
 refine .h (.b3G 5 (by kernel_rfl) fun b4 => ?_)
 refine .q 5 hG ?_
 refine .p (.len underlying22 (.old a8) ?_)
 refine .q 3 hG ?_
 refine .C2 (α:=Nat) [(4,_),(9,_),(10,_)] (fun j R=>(11,.v (j:Int))::R) (fun j => [(true,.usr (ptr b4 0) (Bld.mk b4 61 5 (M4 (l.take j))))]) (fun j=>j≤l.length∧∀ i (h:i < l.length),i < j→(D0 l[i]).2=0) (fun j=>l.length - j) (0) (.c2 a8 a8 (.cons a8 (.nil _))) ?_ (.c2 a8 a8 (.c2 a8 a8 (.nil _))) (a8) fun j hF => ?_
 ·simp
 obtain⟨h1,h2⟩:=hF
 refine .q 6 hG ⟨fun hc12 => ?_,fun hc12 => ?_⟩
 ·refine .q 4 hG ?_
  have gj:j < l.length:=(by omega)
  refine .q 1 hG ?_
  refine .p (.idx q9 underlying22 (.old a8) (.t a8) (by first|omega|(simp;done)|(simp;omega)|(simp at *;omega)) (by first|omega|(simp;done)|(simp;omega)|(simp at *;omega)) ?_)
  refine .q 2 hG fun b6 => ?_
  refine .q 5 hG ?_
  refine .k hG (a78 _ (h _ (List.getElem_mem _))) ?_
  refine .q 5 hG ?_
  simp only [Int.toNat_natCast]
  refine .q 8 hG ⟨fun hc21 => ?_,fun hc21 => ?_⟩
  ·refine .q 7 hG ?_
   refine .e2 a8 a8 a8 ?_
   have gb:(D0 (l[j]'gj)).2≠0:=(by simpa using hc21)
   rw [a1s l j gj h2 gb]
  ·refine .q 2 hG ?_
   refine .drop ?_
   have gp:(D0 (l[j]'gj)).2=0:=(by simpa using hc21)
   rw [(M5 gp).2.2]
   have gt:=a2x (V6 (M5 gp).2.1) (h _ (List.getElem_mem gj))
   have gl:=a1I l h j (by omega) h2
   refine .q 2 hG ?_
   refine .bld (some ⟨b4,61,5,_⟩) [(9,AV.old C.I0 (.v l)),(10,.v (l.length:Int)),(11,.v (j:Int)),(4,.raw (ptr b4 0))] hI (b1a b4 _ (u0.mk (L7 (l[j]'gj))) (by first|omega|(simp;omega))) (.cons (.t a8) (.cons (.t a8) .nil)) (.c2 a8 a8 (.c2 a8 a8 (.nil _))) ⟨.old,.v,.v,.raw,trivial⟩ ?_
   refine .q 2 hG ?_
   refine .bld (some ⟨b4,61,5,_⟩) [(9,AV.old C.I0 (.v l)),(10,.v (l.length:Int)),(11,.v (j:Int)),(4,.raw (ptr b4 0))] hI (a9G b4 _ 10 (by first|omega|(simp;omega))) (.cons (.t a8) (.cons (.u8 10 a8) .nil)) (.c2 a8 a8 (.c2 a8 a8 (.nil _))) ⟨.old,.v,.v,.raw,trivial⟩ ?_
   refine .q 2 hG ?_
   refine .ad (by first|omega|(simp;done)|(simp;omega)|(simp at *;omega)) (by first|omega|(simp;done)|(simp;omega)|(simp at *;omega)) ?_
   refine .q 2 hG ?_
   refine⟨j+1,.c2 rfl rfl (.c2 rfl rfl (.nil _)),congrArg (fun z => [(true,C5.usr (ptr b4 0) (Bld.mk b4 61 5 z))]) (by rw [a2d _ _ gj,List.append_assoc]),?_,by omega⟩
   refine⟨by omega,fun i hi hij => ?_⟩;rcases Nat.lt_or_ge i j with h|h;exact h2 i hi h;(obtain rfl:i=j:=by omega);exact gp
 ·refine .q 2 hG ?_
  obtain rfl:j=l.length:=(by omega)
  rw [List.take_length]
  have gl:=a1I l h l.length (Nat.le_refl _) h2
  rw [List.take_length] at gl
  refine .q 1 hG ?_
  refine .bld none [] hI (a9H b4 _ (by omega)) (.cons (.t a8) .nil) (.nil _) trivial ?_
  refine .q 4 hG ?_
  refine .e2 a8 a8 a8 ?_
  rw [a07 l (fun i hi=>h2 i hi hi)]
open Go.Fl Go.Ab Go.Mac Go.Sha
theorem x5 (w : Value) (d : j9) (n : Int) (hd : C7 d) (h0 : 0 < n) (h1 : n ≤ 4611686018427387904) :
    E1 gl prog 28 [dk w,.v n] [.ob w d] (fun r Hs=>∃ v:Int,∃ d',0≤v∧v < n∧C7 d'∧r = .v v∧Hs = [.ob w d']) :=
  (a01 w d n hd h0 h1).mono fun r Hs ⟨h2,h3⟩=>⟨_,_,(L6 h0).1,(L6 h0).2,K1 hd,h2,h3⟩
theorem l8 (l:List Int):C7 (⟨l,0⟩:j9):=Int.le_refl 0
theorem K8 (w : Value) (d : j9) (lo hi : Int) (hd : C7 d) (h : lo ≤ hi) (h0 : -1000000000000000000 ≤ lo) (h1 : hi ≤ 1000000000000000000) :
    E1 gl prog 27 [dk w,.v lo,.v hi] [.ob w d] (fun r Hs=>∃ v:Int,∃ d',lo≤v∧v≤hi∧C7 d'∧r = .v v∧Hs = [.ob w d']):=by
  refine E1.M7 func27 rfl (by kernel_rfl) 15 rfl rfl _ rfl _ rfl fun C hC hG => ?_
  refine .q 10 hG ?_
  refine .sb (by first|omega|(simp;done)|(simp;omega)|(simp at *;omega)) (by first|omega|(simp;done)|(simp;omega)|(simp at *;omega)) ?_
  refine .ad (by first|omega|(simp;done)|(simp;omega)|(simp at *;omega)) (by first|omega|(simp;done)|(simp;omega)|(simp at *;omega)) ?_
  refine .km hG (x5 _ _ _ (by assumption) (by first|omega|(simp;done)|(simp;omega)|(simp at *;omega)) (by first|omega|(simp;done)|(simp;omega)|(simp at *;omega))) .z (by rintro _ _ ⟨_,_,_,_,_,_,rfl⟩;exact⟨_,rfl⟩) fun r13 B13 hr13 => ?_
  obtain⟨v13,d13,h013,h113,hd13,rfl,hB⟩:=hr13
  cases hB
  refine .ad (by first|omega|(simp;done)|(simp;omega)|(simp at *;omega)) (by first|omega|(simp;done)|(simp;omega)|(simp at *;omega)) ?_
  refine .q 3 hG ?_
  refine .e1 a8 a8 ?_
  refine⟨_,.cons .z (.nil),?_⟩
  exact⟨_,_,by omega,by omega,by assumption,rfl,rfl⟩
theorem b3I (w:Value) (d:j9) (m:Int) (hd:C7 d) (h0:0≤m) (h1:m≤281474976710657):E1 gl prog 84 [dk w,.v m] [.ob w d] (fun r Hs=>∃ x:Int,0≤x∧x≤m∧∃ d',C7 d'∧r = .v x∧Hs = [.ob w d']):=by
 have hok1:=K1 (n:=4) hd
 have hn1:=L6 (d:=(E3 d 4).2) (n:=4) (by decide)
 have hn2:=L6 (d:=(E3 d 4).2) (n:=300) (by decide)
 have hn3:=L6 (d:=(E3 d 4).2) (n:=min 3 (m+1)) (by omega)
 have hn4:=L6 (d:=(E3 d 4).2) (n:=m+1) (by omega)
 refine E1.jn func84 (by kernel_rfl) 32 rfl fun C hC hG => ?_
 refine .q 8 hG ?_
 refine .km hG (a01 _ _ _ (by assumption) (by first|omega|(simp;done)|(simp;omega)|(simp at *;omega)) (by first|omega|(simp;done)|(simp;omega)|(simp at *;omega))) .z (by rintro _ _ ⟨_,rfl⟩;exact⟨_,rfl⟩) fun r6 B6 hr6 => ?_
 obtain⟨rfl,hB⟩:=hr6
 cases hB
 refine .q 8 hG ⟨fun hc7 => ?_,fun hc7 => ?_⟩
 ·refine .q 3 hG ?_
  refine .km hG (a01 _ _ _ (by assumption) (by first|omega|(simp;done)|(simp;omega)|(simp at *;omega)) (by first|omega|(simp;done)|(simp;omega)|(simp at *;omega))) .z (by rintro _ _ ⟨_,rfl⟩;exact⟨_,rfl⟩) fun r10 B10 hr10 => ?_
  obtain⟨rfl,hB⟩:=hr10
  cases hB
  refine .q 1 hG ?_
  refine .p (.a4C (.t a8) (.t a8) ?_)
  refine .q 3 hG ?_
  refine .e1 a8 a8 ?_
  refine⟨_,?_,?_,_,K1 hok1,a8,a8⟩<;>omega
 ·refine .q 6 hG ⟨fun hc13 => ?_,fun hc13 => ?_⟩
  ·refine .q 3 hG ?_
   refine .km hG (a01 _ _ _ (by assumption) (by first|omega|(simp;done)|(simp;omega)|(simp at *;omega)) (by first|omega|(simp;done)|(simp;omega)|(simp at *;omega))) .z (by rintro _ _ ⟨_,rfl⟩;exact⟨_,rfl⟩) fun r16 B16 hr16 => ?_
   obtain⟨rfl,hB⟩:=hr16
   cases hB
   refine .q 1 hG ?_
   refine .p (.a4C (.t a8) (.t a8) ?_)
   refine .q 3 hG ?_
   refine .e1 a8 a8 ?_
   refine⟨_,?_,?_,_,K1 hok1,a8,a8⟩<;>omega
  ·refine .q 6 hG ⟨fun hc19 => ?_,fun hc19 => ?_⟩
   ·refine .q 5 hG ?_
    refine .ad (by first|omega|(simp;done)|(simp;omega)|(simp at *;omega)) (by first|omega|(simp;done)|(simp;omega)|(simp at *;omega)) (.p (.a4C (.i a8) (.t a8) ?_))
    refine .km hG (a01 _ _ _ (by assumption) (by first|omega|(simp;done)|(simp;omega)|(simp at *;omega)) (by first|omega|(simp;done)|(simp;omega)|(simp at *;omega))) .z (by rintro _ _ ⟨_,rfl⟩;exact⟨_,rfl⟩) fun r26 B26 hr26 => ?_
    obtain⟨rfl,hB⟩:=hr26
    cases hB
    refine .sb (by first|omega|(simp;done)|(simp;omega)|(simp at *;omega)) (by first|omega|(simp;done)|(simp;omega)|(simp at *;omega)) ?_
    refine .q 3 hG ?_
    refine .e1 a8 a8 ?_
    refine⟨_,?_,?_,_,K1 hok1,a8,a8⟩<;>omega
   ·refine .q 5 hG ?_
    refine .ad (by first|omega|(simp;done)|(simp;omega)|(simp at *;omega)) (by first|omega|(simp;done)|(simp;omega)|(simp at *;omega)) ?_
    refine .km hG (a01 _ _ _ (by assumption) (by first|omega|(simp;done)|(simp;omega)|(simp at *;omega)) (by first|omega|(simp;done)|(simp;omega)|(simp at *;omega))) .z (by rintro _ _ ⟨_,rfl⟩;exact⟨_,rfl⟩) fun r31 B31 hr31 => ?_
    obtain⟨rfl,hB⟩:=hr31
    cases hB
    refine .q 3 hG ?_
    refine .e1 a8 a8 ?_
    refine⟨_,?_,?_,_,K1 hok1,a8,a8⟩<;>omega
end Go.Proofs.YtfkbejimghamkaaGreatDoor
