/- Plain Lean over any program, and walks of this seat's functions: contracts, each proved once (part 6). -/
import Derived.Test.YtalibdhdngbbcaaGreatDoorZ5
import Derived.Lib.OthersKept
import Derived.Shelf.SlSortCmp.WholeK
import Derived.ProofKit
import Derived.OpenShut
import Derived.ShutString
import Derived.ChangeOld
import Derived.Below
import Derived.LaidLaws
import Derived.Handed
import Derived.DataReads
import Derived.LaidSub
import Derived.Test.YtalibdhdngbbcaaGreatDoorRows
import Derived.Test.YtalibdhdngbbcaaGreatDoorTie
import Derived.Test.YtalibdhdngbbcaaGreatDoorCards
import Derived.SevenTiedAt
set_option maxRecDepth 1000000
set_option synthInstance.maxSize 1000000
set_option synthInstance.maxHeartbeats 10000000
set_option linter.unusedVariables false
set_option linter.unusedSimpArgs false
namespace Go.Proofs.YtalibdhdngbbcaaGreatDoor
open Go.Proofs.Tryz
open Go.Fl Go.Ab Go.Mac Go.Sha
abbrev a7m:Prop:=∀ l:List Sp,0 < l.length→(∀ s∈l,s.p3≤s.To∧0≤s.p3∧s.To < 1440)→l.length≤4000→p6 gl prog 48 [.v l] (fun r=>r = .v (a3C l))
abbrev b0r:Prop:=∀ a:Au,a1m a→p6 gl prog 22 [.v a] (fun r=>r = .v (I5 a))
theorem c0I (hm:a7m) (f t:Int) (h0:0≤f) (h1:f < 1440) (h2:0≤t) (h3:t < 1440):p6 gl prog 47 [.v f,.v t] (fun r=>r = .v (a4n f t)):=by
 refine p6.jn func47 (by kernel_rfl) 18 rfl fun C hC hG => ?_
 refine .q 12 hG ⟨fun hc7 => ?_,fun hc7 => ?_⟩
 ·refine .q 4 hG ?_
  refine .p (.bS2 u0.l0 u0.l1 a8 a2z b5g (fun c0 c1=>(⟨c0,c1⟩:u0)) (fun _ _=>a8) a8 a8 a8 (.t a8) (.t a8) ?_)
  refine .bs a8 (by decide) fun b11=>(.y0 hC .z (.as 11 a8 .z ?_))
  refine .q 3 hG ?_
  refine .e1 a8 a8 ?_
  exact congrArg AV.v (if_pos (by assumption)).symm
 ·refine .q 4 hG ?_
  refine .p (.bS2 u0.l0 u0.l1 a8 a2z b5g (fun c0 c1=>(⟨c0,c1⟩:u0)) (fun _ _=>a8) a8 a8 a8 (.i a8) (.t a8) ?_)
  refine .q 1 hG ?_
  refine .p (.bS2 u0.l0 u0.l1 a8 a2z b5g (fun c0 c1=>(⟨c0,c1⟩:u0)) (fun _ _=>a8) a8 a8 a8 (.t a8) (.i a8) ?_)
  refine .bs a8 (by decide) fun b16=>(.y0 hC .z (.as 16 a8 .z ?_))
  refine .k hG (hm _ (by simp) (by intro s hs;simp at hs;rcases hs with rfl|rfl<;>(dsimp only;omega)) (by simp)) ?_
  refine .q 3 hG ?_
  refine .e1 a8 a8 ?_
  exact congrArg AV.v (if_neg (by assumption)).symm
theorem b3M {p:Pred} (hp:y8 p=true) (h:p.Kind=5):0≤p.p3∧p.p3 < 1440∧0≤p.To∧p.To < 1440:=by
 unfold y8 at hp
 rw [if_neg (by omega),if_neg (by omega),if_pos h] at hp
 simp only [Bool.and_eq_true,decide_eq_true_eq] at hp
 omega
theorem b3N {f t:Int} (h0:0≤f) (h1:f < 1440) (h2:0≤t) (h3:t < 1440):(a4n f t).length≤720:=by
 have h:=a9e h0 h1 h2 h3
 have:=a4C (lo:=0) h.1 h.2.1 (by decide)
 omega
theorem b0s (hm:a7m) (a:Au) (p:Pred) (ha:O7 a) (hp:y8 p=true):p6 gl prog 21 [.v a,.v p] (fun r=>r = .v (L3 a p)):=by
 have hl:=ha.Y2.len
 refine p6.jn func21 (by kernel_rfl) 73 rfl fun C hC hG => ?_
 refine .q 3 hG fun b2 => ?_
 refine .q 1 hG fun b3 => ?_
 refine .q 1 hG fun b4 => ?_
 refine .q 14 hG ⟨fun hc7 => ?_,fun hc7 => ?_⟩
 ·refine .q 11 hG ?_
  refine .p (.Q6 R5 (.t a8) .z2 (.n (.P7 R5 (.t a8) (.t a8) .z ?_)))
  refine .q 2 hG ?_
  refine⟨_,.r1 a8 (.cell R5 a8 .z),?_⟩
  refine congrArg AV.v (Eq.symm ?_)
  unfold L3
  simp_all<;>exact fun h1 h2=>absurd (hc67 h1) h2
 ·refine .q 6 hG ⟨fun hc15 => ?_,fun hc15 => ?_⟩
  ·refine .q 11 hG ?_
   refine .p (.Q6 R5 (.t a8) .z2 (.n (.P7 R5 (.t a8) (.t a8) .z ?_)))
   refine .q 2 hG ?_
   refine⟨_,.r1 a8 (.cell R5 a8 .z),?_⟩
   refine congrArg AV.v (Eq.symm ?_)
   unfold L3
   simp_all<;>exact fun h1 h2=>absurd (hc67 h1) h2
  ·refine .q 6 hG ⟨fun hc23 => ?_,fun hc23 => ?_⟩
   ·refine .q 11 hG ?_
    refine .p (.Q6 R5 (.t a8) .z2 (.n (.P7 R5 (.t a8) (.t a8) .z ?_)))
    refine .q 2 hG ?_
    refine⟨_,.r1 a8 (.cell R5 a8 .z),?_⟩
    refine congrArg AV.v (Eq.symm ?_)
    unfold L3
    simp_all<;>exact fun h1 h2=>absurd (hc67 h1) h2
   ·refine .q 6 hG ⟨fun hc31 => ?_,fun hc31 => ?_⟩
    ·refine .a1f [[j0,j0,j0],[j0,j0,c9],[j0,j0,c9]] [[j0,j0,j0],[j0,j0,j0],[j0,j0,j0],[j0,j0,j0],[j0,j0,j0],[j0,j0,j0],[j0,j0,j0],[j0,j0,c9],[j0,j0,c9],[j0,j0,c9],[j0,j0,j0],[],[j0,j0,c9],[]] [] [] 2 (by kernel_rfl) 14 [[],[(33,0)],[],[(35,2)],[(34,1),(36,3)],[],[(38,5)],[],[(40,7)],[(39,6),(41,8)],[],[(43,10),(37,4)],[],[(44,12),(42,9)]] [11,13] rfl (by kernel_rfl) rfl (by kernel_rfl) rfl (by decide) (by simp) (fun p hp=>by cases hp) (by kernel_rfl) rfl ?_
     refine⟨_,fun H=>j5.A9 l8.l4 a3R a8 (.t a8) a8,?_⟩
     refine⟨_,fun H=>j5.S1 (fun x=>x.p3) I6 (.t a8) (y4.app .z2) (fun _=>a8) a8,?_⟩
     refine⟨_,fun H=>j5.A9 j2.l2 K1 a8 (.t a8) a8,?_⟩
     refine⟨_,fun H=>j5.S1 (fun x=>x.p3) I6 (.t a8) (y4.app .z1) (fun _=>a8) a8,?_⟩
     refine⟨_,fun H=>j5.a8i (.t a8) (.t a8) a8,?_⟩
     refine⟨_,fun H=>j5.A9 l8.l5 a3e a8 (.t a8) a8,?_⟩
     refine⟨_,fun H=>j5.S1 (fun x=>x.To) I6 (.t a8) (y4.app .z2) (fun _=>a8) a8,?_⟩
     refine⟨_,fun H=>j5.A9 j2.l3 K2 a8 (.t a8) a8,?_⟩
     refine⟨_,fun H=>j5.S1 (fun x=>x.To) I6 (.t a8) (y4.app .z1) (fun _=>a8) a8,?_⟩
     refine⟨_,fun H=>j5.a5w (.t a8) (.t a8) a8,?_⟩
     refine⟨_,fun H=>j5.A9 l8.l4 a3R a8 (.t a8) a8,?_⟩
     refine .inl ?_
     refine⟨_,fun H=>j5.A9 l8.l5 a3e a8 (.t a8) a8,?_⟩
     refine .inl ?_
     refine⟨a8,?_⟩
     refine⟨⟨j1 [c8,c8,c8],a8⟩,fun Ys9 => ?_⟩
     refine B3.Z0 (fun y x => { x with p3:=y }) I6 (.t rfl) (.t rfl) (y4.app (y4.app .z2)) (fun _ _=>rfl) ?_
     refine⟨[],_,a8,?_⟩
     refine⟨⟨j1 [c8,c8,_],a8⟩,fun Ys9 => ?_⟩
     refine B3.Z0 (fun y x => { x with To:=y }) I6 (.t rfl) (.t rfl) (y4.app (y4.app .z2)) (fun _ _=>rfl) ?_
     refine⟨[],_,a8,?_⟩
     refine⟨⟨j1 [c8,c8,_],a8⟩,fun ws9 => ?_⟩
     refine⟨⟨j1 [c8,c8,_],a8⟩,fun _ => ?_⟩
     show D1 _ _ _ _ _ [] ((44,_)::(43,_)::(42,_)::(41,_)::(40,_)::(39,_)::(38,_)::(37,_)::(36,_)::(35,_)::(34,_)::(33,_)::_) _
     refine .q 3 hG ?_
     refine .p (.Q6 R5 (.t a8) .z2 (.n (.P7 R5 (.t a8) (.t a8) .z ?_)))
     refine .q 2 hG ?_
     refine⟨_,.r1 a8 (.cell R5 a8 .z),?_⟩
     refine congrArg AV.v (Eq.symm ?_)
     unfold L3
     simp_all<;>exact fun h1 h2=>absurd (hc67 h1) h2
    ·refine .q 6 hG ⟨fun hc45 => ?_,fun hc45 => ?_⟩
     ·have hk5:=b3M hp hc45
      refine .draw (by kernel_rfl) 9 [[],[(47,0)],[],[(49,2)],[],[(51,4)],[(50,3),(52,5)],[(48,1),(53,6)],[]] a8 (by kernel_rfl) a8 ?_
      refine⟨_,j5.A9 l8.l6 a3S a8 (.t a8) a8,?_⟩
      refine⟨_,j5.S1 (fun x=>x.E3) c17 (.t a8) .z2 (fun _=>a8) a8,?_⟩
      refine⟨_,j5.A9 j2.l2 K1 a8 (.t a8) a8,?_⟩
      refine⟨_,j5.S1 (fun x=>x.p3) I6 (.t a8) .z1 (fun _=>a8) a8,?_⟩
      refine⟨_,j5.A9 j2.l3 K2 a8 (.t a8) a8,?_⟩
      refine⟨_,j5.S1 (fun x=>x.To) I6 (.t a8) .z1 (fun _=>a8) a8,?_⟩
      refine⟨_,j5.p8 hG (c0I hm _ _ hk5.1 hk5.2.1 hk5.2.2.1 hk5.2.2.2) (.cons (.t a8) (.cons (.t a8) .nil)) a8,?_⟩
      refine⟨_,j5.p8 hG (b2b _ _ (by omega) (by have:=b3N hk5.1 hk5.2.1 hk5.2.2.1 hk5.2.2.2;omega)) (.cons (.t a8) (.cons (.t a8) .nil)) a8,?_⟩
      refine⟨_,j5.A9 l8.l6 a3S a8 (.t a8) a8,?_⟩
      show D1 _ _ _ _ _ [_] ((55,_)::(54,_)::(53,_)::(52,_)::(51,_)::(50,_)::(49,_)::(48,_)::(47,_)::_) _
      refine .q 4 hG ?_
      refine .p (.Q6 R5 (.t a8) .z2 (.n (.P7 R5 (.t a8) (.t a8) .z ?_)))
      refine .q 2 hG ?_
      refine⟨_,.r1 a8 (.cell R5 a8 .z),?_⟩
      refine congrArg AV.v (Eq.symm ?_)
      unfold L3
      simp_all<;>exact fun h1 h2=>absurd (hc67 h1) h2
     ·refine .q 6 hG ⟨fun hc56 => ?_,fun hc56 => ?_⟩
      ·refine .q 14 hG ?_
       refine .cond (.t a8) (fun hc67 => ?_) (fun hc67 => ?_)
       ·refine .q 12 hG ?_
        refine .p (.Q6 R5 (.t a8) .z2 (.n (.P7 R5 (.t a8) (.t a8) .z ?_)))
        refine .q 2 hG ?_
        refine⟨_,.r1 a8 (.cell R5 a8 .z),?_⟩
        refine congrArg AV.v (Eq.symm ?_)
        unfold L3
        simp_all<;>exact fun h1 h2=>absurd (hc67 h1) h2
       ·refine .q 9 hG ?_
        refine .p (.Q6 R5 (.t a8) .z2 (.n (.P7 R5 (.t a8) (.t a8) .z ?_)))
        refine .q 2 hG ?_
        refine⟨_,.r1 a8 (.cell R5 a8 .z),?_⟩
        refine congrArg AV.v (Eq.symm ?_)
        unfold L3
        simp_all<;>exact fun h1 h2=>absurd (hc67 h1) h2
      ·refine .q 3 hG ?_
       refine .p (.Q6 R5 (.t a8) .z2 (.n (.P7 R5 (.t a8) (.t a8) .z ?_)))
       refine .q 2 hG ?_
       refine⟨_,.r1 a8 (.cell R5 a8 .z),?_⟩
       refine congrArg AV.v (Eq.symm ?_)
       unfold L3
       simp_all<;>exact fun h1 h2=>absurd (hc67 h1) h2
theorem c0J (l:List Pred) {i:Nat} (h:i < l.length):(l.take (i+1)).foldl L3 a27=L3 ((l.take i).foldl L3 a27) l[i]:=by
 rw [List.take_succ_eq_append_getElem h,List.foldl_append];rfl
theorem c4T (hm:a7m) (hcl:b0r) (l:List Pred) (hl:l.length≤64) (hp:∀ p∈l,y8 p=true):p6 gl prog 8 [.v l] (fun r=>r = .t2 (.v (I5 (T3 l))) (.v (0:Int))):=by
 have hfull:∀ i,O7 ((l.take i).foldl L3 a27):=fun i=>(a2e (l.take i) a27 b4N fun p h=>hp p (List.mem_of_mem_take h)).1
 refine p6.jn func8 (by kernel_rfl) 28 rfl fun C hC hG => ?_
 refine .q 3 hG fun b2 => ?_
 refine .q 10 hG ⟨fun hc9 => ?_,fun hc9 => ?_⟩
 ·refine .q 2 hG ?_
  refine .p (.bS0 (α:=l8) a8 R5 b6K ?_)
  refine .q 4 hG ?_
  refine⟨_,.r2 a8 (.cell R5 a8 .z) (.tmp a8),?_⟩
  omega
 ·refine .q 3 hG ?_
  refine .k hG (c2I) ?_
  refine .q 1 hG fun b4 => ?_
  refine .q 10 hG ?_
  refine .E1 (α:=Nat) [(2,_),(4,_),(12,_),(13,_)] (fun i R=>(14,.v (i:Int))::R) (fun i => [(true,.ob (ptr b4 0) ((l.take i).foldl L3 a27)),(true,.ob (ptr b2 0) (default:Au))]) (fun i=>i≤l.length) (fun i=>l.length - i) (0) (.c2 a8 a8 (.c2 a8 a8 (.nil _))) ?_ (.c2 a8 a8 (.c2 a8 a8 (.cons a8 (.nil _)))) (a8) fun i hF => ?_
  ·simp
  refine .q 6 hG ⟨fun hc15 => ?_,fun hc15 => ?_⟩
  ·refine .q 5 hG ?_
   refine .ix (by first|omega|(simp;done)|(simp;omega)|(simp at *;omega)) (by first|omega|(simp;done)|(simp;omega)|(simp at *;omega)) ?_
   refine .q 2 hG fun b6 => ?_
   refine .q 4 hG ?_
   refine .C1 hC .z (.O9 6 a8 .z (.drop ?_))
   refine .q 2 hG ?_
   refine .k hG (V6 _) ?_
   refine .q 2 hG ?_
   refine .cond (.t a8) (fun hc20 => ?_) (fun hc20 => ?_)
   ·refine .q 2 hG ?_
    refine .p (.bS0 (α:=l8) a8 R5 b6K ?_)
    refine .q 4 hG ?_
    refine⟨_,.r2 a8 (.cell R5 a8 .z1) (.tmp a8),?_⟩
    have:=hp _ (List.getElem_mem (show i < l.length by omega))
    simp_all
   ·refine .q 4 hG ?_
    refine .p (.p8 hG (b0s hm _ _ (hfull i) (hp _ (List.getElem_mem _))) (.cons (.t a8) (.cons (.t a8) .nil)) ?_)
    refine .q 3 hG ?_
    refine .ad (by first|omega|(simp;done)|(simp;omega)|(simp at *;omega)) (by first|omega|(simp;done)|(simp;omega)|(simp at *;omega)) ?_
    refine .q 2 hG ?_
    refine⟨(i+1),.c2 rfl rfl (.c2 rfl rfl (.cons rfl (.nil _))),congrArg (fun q => [(true,D8.ob _ q),_]) (c0J l (by omega)).symm,?_,by omega⟩
    omega
  ·refine .q 4 hG ?_
   refine .k hG (hcl _ (hfull i).Y2) ?_
   refine .q 4 hG ?_
   refine⟨_,.r2 a8 (.cell R5 a8 .z1) (.tmp a8),?_⟩
   rw [show i=l.length by omega,List.take_length]
   rfl
end Go.Proofs.YtalibdhdngbbcaaGreatDoor
namespace Go.Ab
open Go.Fl Go.RowKit
section
variable {P:Program} {C:Ctx} {N:Nat} {σ:x5} {H:j7} {K:AV→Prop} {d:Option Nat} {ty:TypeId} {ps:String} {af:Array Edge} {g:Option (Nat×Bool)} {x y:Operand} {T T2 E:TypeId}
theorem j5.c1q {m n:UInt64} (hx:D5 C σ H x (.v m)) (hy:D5 C σ H y (.v n)) (k:K (.v (decide (n < m)))):j5 P N C ⟨d,.binOp .gtr T x y T2,ty,ps,af,g⟩ σ H K :=
 .vk k (fun ρ I L hs => .gtr (hx.a0l hs) (hy.a0l hs) ⟨_,rfl,by rw [b0V];rfl⟩)
theorem j5.c0K {β : Type} {s : p2 β} {ib : Inhabited β} {w : Value} {l : List β} {i : Int} {bb : Bool} {E' : TypeId} {F : Bool × D8 → j7} (tE : F1 P E β) (hT : P.underlying T = some (.slice E)) (hx : D5 C σ H x (.raw w)) (hH : y4 H (bb, .own E' w l) F)
    (hy:D5 C σ H y (.v i)) (h0:0≤i) (h1:i < l.length) (k:K (.el w i.toNat (j6.id (α:=β)))):j5 P N C ⟨d,.indexAddr T x y,ty,ps,af,g⟩ σ H K :=
  .vk k (fun ρ I L hs=>by
    obtain⟨u,h2,rfl⟩:=hx ρ I L hs
    obtain⟨j,X,h3,h4,_⟩:=hH.get hs.heap
    obtain⟨xs,ho,hl⟩:=h4.1
    rcases ho with ⟨_,h,_⟩|⟨b,c,sp,q,rfl,_⟩
    · omega
    · refine .Z4 hT tE.size h2 (hy.int hs).1 h0 h1 ⟨b,a8,?_⟩
      simp [j6.id])
theorem j5.c4U {α β : Type} {r : p2 α} {s : p2 β} {i : Inhabited β} [j : Inhabited α] {w : Value} {l : j6 α β} {zs : List α} {kk : Nat} {bb : Bool} {E' : TypeId} {F : Bool × D8 → j7} (tT : F1 P T β) (hx : D5 C σ H x (.el w kk l)) (hH : y4 H (bb, .own E' w zs) F) (hk : kk < zs.length)
    (k:K (.v (l.get (zs.getD kk default)))):j5 P N C ⟨d,.load T x,ty,ps,af,g⟩ σ H K:=by
  have e:zs.getD kk default=zs[kk]:=by rw [List.getD_eq_getElem?_getD,List.getElem?_eq_getElem hk];rfl
  exact .ldE tT hx hH hk (by rw [←e];exact k)
theorem j5.b8J {m : UInt64} {n : Int} (hx : D5 C σ H x (.v m)) (hy : D5 C σ H y (.v n)) (h0 : 0 ≤ n) (h1 : n < 64) (k : K (.v (m <<< UInt64.ofNat n.toNat))) :
    j5 P N C ⟨d,.binOp .shl T x y T2,ty,ps,af,g⟩ σ H K :=
  .vk k (fun ρ I L hs=>I1.a1t n.toNat (hx.a0l hs) (hy.int hs).1 (by omega) (by omega) ⟨_,rfl,rfl⟩)
end
end Go.Ab
namespace Go.Proofs.YtalibdhdngbbcaaGreatDoor
open Go.Proofs.Tryz
open Go.Fl Go.Ab Go.Mac Go.Sha
theorem b6d (hcl:b0r) (a:Au) (h:a1m a) (hc:I5 a=a):p6 gl prog 22 [.v a] (fun r=>r = .v a):=(hcl a h).mono fun r hr=>by rw [hr,hc]
theorem b2d {a:Au} (h:O7 a) (hft:a.p3≤a.To):(decide (4294967295 < a.K3)||decide (127 < a.T7)||decide (a.p3 < 0)||decide (a.To < a.p3)||decide (67108864 < a.To)||decide (a.A7≠⟨[]⟩) && !I7 a.A7)=false:=by
 have h1:=h.lines
 have h2:=h.bits
 have h3:=h.a2d
 have h4:=h.to1
 have e1:¬(4294967295:UInt64) < a.K3:=by rw [UInt64.lt_iff_toNat_lt];show ¬4294967295 < a.K3.toNat;omega
 have e2:¬(127:UInt64) < a.T7:=by rw [UInt64.lt_iff_toNat_lt];show ¬127 < a.T7.toNat;omega
 have e3:¬a.p3 < 0:=by omega
 have e4:¬a.To < a.p3:=by omega
 have e5:¬67108864 < a.To:=by omega
 rcases h.a4k with h6|h6<;>simp [e1,e2,e3,e4,e5,h6]
theorem getD_in {l:List Sp} (h:∀ s∈l,s.p3≤s.To∧0≤s.p3∧s.To < 1440) (n:Nat):0≤(l.getD n default).p3∧(l.getD n default).p3≤(l.getD n default).To∧(l.getD n default).To < 1440:=by
 rw [List.getD_eq_getElem?_getD]
 cases hn:l[n]? with
 | none=>exact⟨by decide,by decide,by decide⟩
 | some s=>have:=h s (List.mem_of_getElem? hn);exact⟨this.2.1,this.1,this.2.2⟩
theorem a1m.in {a:Au} (h:a1m a):∀ s∈a.E3,s.p3≤s.To∧0≤s.p3∧s.To < 1440:=fun s hs=>⟨h.canon.ne s hs,h.day s hs⟩
theorem b3O {a:Au} (h:a1m a) {k:Nat} (hk:k < a.E3.length):(decide (a.E3[k].p3 < 0)||decide (a.E3[k].To < a.E3[k].p3)||decide (1440≤a.E3[k].To)||decide (0 < (k:Int))&&decide (a.E3[k].p3≤(a.E3.getD ((k:Int) - 1).toNat default).To+1))=false:=by
 have e:=h.in _ (List.getElem_mem hk)
 have e1:¬a.E3[k].p3 < 0:=by omega
 have e2:¬a.E3[k].To < a.E3[k].p3:=by omega
 have e3:¬1440≤a.E3[k].To:=by omega
 cases k with
 | zero=>simp [e1,e2,e3]
 | succ j =>
  have g:=List.pairwise_iff_getElem.1 h.canon.gap j (j+1) (by omega) hk (by omega)
  have e4:a.E3.getD (((j+1:Nat):Int) - 1).toNat default=a.E3[j]:=by
   rw [show(((j+1:Nat):Int) - 1).toNat=j by omega,List.getD_eq_getElem?_getD,List.getElem?_eq_getElem (by omega)];rfl
  have e5:¬a.E3[j+1].p3≤a.E3[j].To+1:=by omega
  rw [e4]
  simp [e1,e2,e3,e5]
theorem b4O (hcl:b0r) (a:Au) (hv:a=a8d∨(O7 a∧a.p3≤a.To∧I5 a=a)):p6 gl prog 23 [.v a] (fun r=>r = .v true):=by
 refine p6.jn func23 (by kernel_rfl) 91 rfl fun C hC hG => ?_
 refine .q 3 hG fun b1 => ?_
 refine .q 4 hG ?_
 refine .C1 hC .z (.O9 1 a8 .z (.drop ?_))
 refine .q 4 hG ?_
 refine .cond (.t a8) (fun hc6 => ?_) (fun hc6 => ?_)
 ·refine .q 1 hG ?_
  obtain rfl:a=a8d:=hv.resolve_right fun h=>by have:=h.1.some;simp_all
  refine .draw (by kernel_rfl) 4 [[],[],[(7,0),(8,1)],[(9,2)]] a8 (by kernel_rfl) a8 ?_
  refine⟨_,j5.G8 R5 (.t a8) a8,?_⟩
  refine⟨_,j5.p8 hG (b8F) .nil a8,?_⟩
  refine⟨_,j5.p8 hG (a9g _) (.cons (.t a8) (.cons (.t a8) .nil)) a8,?_⟩
  refine⟨_,j5.assign (.t a8) a8,?_⟩
  show D1 _ _ _ _ _ [] ((2,_)::(9,_)::(8,_)::(7,_)::_) _
  refine .q 2 hG ?_
  refine .e1 a8 a8 ?_
  rfl
 ·refine .q 3 hG ?_
  obtain⟨hok,hft,hcc⟩:=hv.resolve_left fun h=>by subst h;simp [a8d] at *
  have hl7:=hok.Y2.len
  refine .q 3 hG ?_
  refine .p (.c1q (.t a8) (.u64 4294967295 a8) ?_)
  refine .q 3 hG ?_
  refine .go 13 a8 (.t a8) (fun hg16 => .c1q (.q a8 hg16) (.u64 127 a8) a8) ?_
  refine .q 22 hG ?_
  refine .goU 35 a8 (.t a8) (fun hg39 => .move (.q a8 hg39) a8) (.gn 39 a8 a8 (fun hc40 hg40 => .y9 l8.l7 (fun x=>x.A7) b2F a8 (fun _=>a8) (.t a8) a8) (.gn 39 a8 a8 (fun hc41 hg41 => .G8 ty9 (.ou a8 (Bool.and_eq_true_iff.2 ⟨hc41,beq_iff_eq.2 hg41⟩)) a8) (.gn 39 a8 a8 (fun hc42 hg42 => .p8 hG (b8G _) (.cons (.ou a8 (Bool.and_eq_true_iff.2 ⟨hc42,beq_iff_eq.2 hg42⟩)) .nil) a8) (.gn 39 a8 a8 (fun hc43 hg43 => .not (.ou a8 (Bool.and_eq_true_iff.2 ⟨hc43,beq_iff_eq.2 hg43⟩)) a8) (.go 35 a8 (.t a8) (fun hg44 => .M5 (.ou a8 (beq_iff_eq.2 hg44)) (fun hp=>(.ou a8 (Bool.and_eq_true_iff.2 ⟨(beq_iff_eq.2 hg44),beq_iff_eq.2 hp⟩))) a8) ?_)))))
  refine .q 2 hG ?_
  refine .cond (.t a8) (fun hc45 => ?_) (fun hc45 => ?_)
  ·refine .q 5 hG ?_
   refine .e1 a8 a8 ?_
   have e:=b2d hok hft
   rw [e] at hc45
   cases hc45
  ·refine .q 10 hG ?_
   refine .E1 (α:=Nat) [(1,_),(47,_),(48,_)] (fun k R=>(49,.v (k:Int))::R) (fun k => []) (fun k=>k≤a.E3.length) (fun k=>a.E3.length - k) (0) (.c2 a8 a8 (.cons a8 (.nil _))) ?_ (.c2 a8 a8 (.c2 a8 a8 (.nil _))) (a8) fun k hF => ?_
   ·simp
   refine .q 6 hG ⟨fun hc50 => ?_,fun hc50 => ?_⟩
   ·refine .q 6 hG ?_
    refine .ix (by first|omega|(simp;done)|(simp;omega)|(simp at *;omega)) (by first|omega|(simp;done)|(simp;omega)|(simp at *;omega)) ?_
    refine .q 2 hG fun b4 => ?_
    refine .q 4 hG ?_
    refine .C1 hC .z (.O9 4 a8 .z (.drop ?_))
    have hd1:=getD_in hok.Y2.in ((k:Int) - 1).toNat
    refine .b7I (by kernel_rfl) 32 [[],[(54,0)],[(55,1)],[(56,2)],[],[(58,4)],[],[(60,6)],[(59,5),(61,7)],[(57,3),(62,8)],[(63,9)],[],[(65,11)],[(66,12)],[(64,10),(67,13)],[(68,14)],[],[(70,16)],[(71,17)],[],[(73,19)],[],[(75,21)],[],[(77,23)],[(76,22),(78,24)],[(79,25)],[(80,26)],[(81,27)],[(74,20),(82,28)],[(72,18),(83,29)],[(69,15),(84,30)]] a8 (by kernel_rfl) a8 ?_
    refine⟨_,j5.y9 u0.l0 (fun x=>x.p3) a42 a8 (fun _=>a8) (.t a8) a8,?_⟩
    refine⟨_,j5.G8 I6 (.t a8) a8,?_⟩
    refine⟨_,j5.lss (.t a8) (.i a8) a8,?_⟩
    refine⟨_,j5.move (.t a8) a8,?_⟩
    refine⟨_,.inl ⟨_,_,a8,a8,fun hg58=>j5.y9 u0.l0 (fun x=>x.p3) a42 a8 (fun _=>a8) (.t a8) a8⟩,?_⟩
    refine⟨_,.inl ⟨_,_,a8,a8,fun hg59=>j5.G8 I6 (.ou a8 (beq_iff_eq.2 hg59)) a8⟩,?_⟩
    refine⟨_,.inl ⟨_,_,a8,a8,fun hg60=>j5.y9 u0.l1 (fun x=>x.To) a2s a8 (fun _=>a8) (.t a8) a8⟩,?_⟩
    refine⟨_,.inl ⟨_,_,a8,a8,fun hg61=>j5.G8 I6 (.ou a8 (beq_iff_eq.2 hg61)) a8⟩,?_⟩
    refine⟨_,.inl ⟨_,_,a8,a8,fun hg62=>j5.gtr (.ou a8 (beq_iff_eq.2 hg62)) (.ou a8 (beq_iff_eq.2 hg62)) a8⟩,?_⟩
    refine⟨_,j5.a1r (.t a8) (fun hp=>(.ou a8 (beq_iff_eq.2 hp))) a8,?_⟩
    refine⟨_,j5.move (.t a8) a8,?_⟩
    refine⟨_,.inl ⟨_,_,a8,a8,fun hg65=>j5.y9 u0.l1 (fun x=>x.To) a2s a8 (fun _=>a8) (.t a8) a8⟩,?_⟩
    refine⟨_,.inl ⟨_,_,a8,a8,fun hg66=>j5.G8 I6 (.ou a8 (beq_iff_eq.2 hg66)) a8⟩,?_⟩
    refine⟨_,.inl ⟨_,_,a8,a8,fun hg67=>j5.geq (.ou a8 (beq_iff_eq.2 hg67)) (.i a8) a8⟩,?_⟩
    refine⟨_,j5.a1r (.t a8) (fun hp=>(.ou a8 (beq_iff_eq.2 hp))) a8,?_⟩
    refine⟨_,j5.move (.t a8) a8,?_⟩
    refine⟨_,.inl ⟨_,_,a8,a8,fun hg70=>j5.move (.t a8) a8⟩,?_⟩
    refine⟨_,.inl ⟨_,_,a8,a8,fun hg71=>j5.gtr (.ou a8 (beq_iff_eq.2 hg71)) (.i a8) a8⟩,?_⟩
    refine⟨_,.inl ⟨_,_,a8,a8,fun hg72=>j5.move (.ou a8 (beq_iff_eq.2 hg72)) a8⟩,?_⟩
    refine⟨_,.inr ⟨_,_,_,a8,a8,fun hc73 hg73=>j5.y9 u0.l0 (fun x=>x.p3) a42 a8 (fun _=>a8) (.t a8) a8⟩,?_⟩
    refine⟨_,.inr ⟨_,_,_,a8,a8,fun hc74 hg74=>j5.G8 I6 (.ou a8 (Bool.and_eq_true_iff.2 ⟨hc74,beq_iff_eq.2 hg74⟩)) a8⟩,?_⟩
    refine⟨_,.inr ⟨_,_,_,a8,a8,fun hc75 hg75=>j5.y9 l8.l6 (fun x=>x.E3) a3S a8 (fun _=>a8) (.t a8) a8⟩,?_⟩
    refine⟨_,.inr ⟨_,_,_,a8,a8,fun hc76 hg76=>j5.G8 c17 (.ou a8 (Bool.and_eq_true_iff.2 ⟨hc76,beq_iff_eq.2 hg76⟩)) a8⟩,?_⟩
    refine⟨_,.inr ⟨_,_,_,a8,a8,fun hc77 hg77=>j5.move (.t a8) a8⟩,?_⟩
    refine⟨_,.inr ⟨_,_,_,a8,a8,fun hc78 hg78=>j5.sub (.ou a8 (Bool.and_eq_true_iff.2 ⟨hc78,beq_iff_eq.2 hg78⟩)) (.i a8) (by first|omega|(simp;done)|(simp;omega)|(have:=hg78;simp at this;omega)) (by first|omega|(simp;done)|(simp;omega)|(have:=hg78;simp at this;omega)) a8⟩,?_⟩
    refine⟨_,.inr ⟨_,_,_,a8,a8,fun hc79 hg79=>j5.c2j a2z underlying55 (.ou a8 (Bool.and_eq_true_iff.2 ⟨hc79,beq_iff_eq.2 hg79⟩)) (.ou a8 (Bool.and_eq_true_iff.2 ⟨hc79,beq_iff_eq.2 hg79⟩)) (by first|omega|(simp;done)|(simp;omega)|(have:=hg79;simp at this;omega)) (by first|omega|(simp;done)|(simp;omega)|(have:=hg79;simp at this;omega)) a8⟩,?_⟩
    refine⟨_,.inr ⟨_,_,_,a8,a8,fun hc80 hg80=>j5.y9 u0.l1 (fun x=>x.To) a2s a8 (fun _=>a8) (.ou a8 (Bool.and_eq_true_iff.2 ⟨hc80,beq_iff_eq.2 hg80⟩)) a8⟩,?_⟩
    refine⟨_,.inr ⟨_,_,_,a8,a8,fun hc81 hg81=>j5.G8 I6 (.ou a8 (Bool.and_eq_true_iff.2 ⟨hc81,beq_iff_eq.2 hg81⟩)) a8⟩,?_⟩
    refine⟨_,.inr ⟨_,_,_,a8,a8,fun hc82 hg82=>j5.add (.ou a8 (Bool.and_eq_true_iff.2 ⟨hc82,beq_iff_eq.2 hg82⟩)) (.i a8) (by first|omega|(simp;done)|(simp;omega)|(have:=hg82;simp at this;omega)) (by first|omega|(simp;done)|(simp;omega)|(have:=hg82;simp at this;omega)) a8⟩,?_⟩
    refine⟨_,.inr ⟨_,_,_,a8,a8,fun hc83 hg83=>j5.leq (.ou a8 (Bool.and_eq_true_iff.2 ⟨hc83,beq_iff_eq.2 hg83⟩)) (.ou a8 (Bool.and_eq_true_iff.2 ⟨hc83,beq_iff_eq.2 hg83⟩)) a8⟩,?_⟩
    refine⟨_,.inl ⟨_,_,a8,a8,fun hg84=>j5.M5 (.ou a8 (beq_iff_eq.2 hg84)) (fun hp=>(.ou a8 (Bool.and_eq_true_iff.2 ⟨(beq_iff_eq.2 hg84),beq_iff_eq.2 hp⟩))) a8⟩,?_⟩
    refine⟨_,j5.a1r (.t a8) (fun hp=>(.ou a8 (beq_iff_eq.2 hp))) a8,?_⟩
    show D1 _ _ _ _ _ [] ((85,_)::(84,_)::(83,_)::(82,_)::(81,_)::(80,_)::(79,_)::(78,_)::(77,_)::(76,_)::(75,_)::(74,_)::(73,_)::(72,_)::(71,_)::(70,_)::(69,_)::(68,_)::(67,_)::(66,_)::(65,_)::(64,_)::(63,_)::(62,_)::(61,_)::(60,_)::(59,_)::(58,_)::(57,_)::(56,_)::(55,_)::(54,_)::_) _
    refine .q 1 hG ?_
    refine .cond (.t a8) (fun hc85 => ?_) (fun hc85 => ?_)
    ·refine .q 5 hG ?_
     refine .e1 a8 a8 ?_
     have e:=b3O hok.Y2 (show k < a.E3.length by omega)
     simp only [Int.toNat_natCast] at hc85
     rw [e] at hc85
     cases hc85
    ·refine .q 2 hG ?_
     refine .ad (by first|omega|(simp;done)|(simp;omega)|(simp at *;omega)) (by first|omega|(simp;done)|(simp;omega)|(simp at *;omega)) ?_
     refine .q 2 hG ?_
     refine⟨k+1,.c2 rfl rfl (.c2 rfl rfl (.nil _)),rfl,?_,by omega⟩
     omega
   ·refine .q 2 hG ?_
    refine .draw (by kernel_rfl) 5 [[],[],[(88,1)],[(87,0),(89,2)],[(90,3)]] a8 (by kernel_rfl) a8 ?_
    refine⟨_,j5.G8 R5 (.t a8) a8,?_⟩
    refine⟨_,j5.G8 R5 (.t a8) a8,?_⟩
    refine⟨_,j5.p8 hG (b6d hcl _ hok.Y2 hcc) (.cons (.t a8) .nil) a8,?_⟩
    refine⟨_,j5.p8 hG (a9g _) (.cons (.t a8) (.cons (.t a8) .nil)) a8,?_⟩
    refine⟨_,j5.assign (.t a8) a8,?_⟩
    show D1 _ _ _ _ _ [] ((2,_)::(90,_)::(89,_)::(88,_)::(87,_)::_) _
    refine .q 2 hG ?_
    refine .e1 a8 a8 ?_
    rfl
end Go.Proofs.YtalibdhdngbbcaaGreatDoor
namespace Go.Ab
open Go.Fl Go.RowKit
open p2 (rep)
section
variable {P:Program} {C:Ctx} {N:Nat} {σ:x5} {H:j7} {E:TypeId} {α:Type} [r0:p2 α]
def St2 (E:TypeId) (x y:List α) (listed:Array Bool) (cacc:List (Nat×AV)) (i j:Nat) (u:Value) (l:List α):Prop :=
 listed.getD i false=true∧((listed.getD j false=false∧l=x∧o9 cacc i=some (.raw u))∨(listed.getD j false=true∧l=y∧o9 cacc j=some (.raw u)))
structure In2 (H0:j7) (E:TypeId) (xA yA xB yB z:List α) (a0 a1 b0 b1 c:Nat) (listed:Array Bool) (cacc:List (Nat×AV)) (H:j7):Prop where
 keys:∀ j r,o9 cacc j=some r→j ∈ [a0,a1,b0,b1,c]
 c5q:∀ j,j ∈ [a0,a1,b0,b1,c]→listed.getD j false=true→∃ r,o9 cacc j=some r
 up:(listed.getD a1 false=true→listed.getD a0 false=true)∧(listed.getD b1 false=true→listed.getD b0 false=true)∧(listed.getD c false=true→listed.getD a1 false=true∧listed.getD b1 false=true)
 heap:(listed.getD a0 false=false∧listed.getD b0 false=false∧H=H0) ∨
  (listed.getD b0 false=false∧∃ u l,St2 E xA yA listed cacc a0 a1 u l∧H=(true,.own E u l)::H0) ∨
  (listed.getD a0 false=false∧∃ u l,St2 E xB yB listed cacc b0 b1 u l∧H=(true,.own E u l)::H0) ∨
  (listed.getD c false=false∧∃ u l v m,St2 E xA yA listed cacc a0 a1 u l∧St2 E xB yB listed cacc b0 b1 v m∧(H=(true,.own E u l)::(true,.own E v m)::H0∨H=(true,.own E v m)::(true,.own E u l)::H0)) ∨
  (listed.getD c false=true∧∃ u v,o9 cacc c=some (.raw u)∧o9 cacc b1=some (.raw v)∧(H=(true,.own E u z)::(true,.own E v yB)::H0∨H=(true,.own E v yB)::(true,.own E u z)::H0))
end
end Go.Ab
namespace Go.Ab
open Go.Fl Go.RowKit
open p2 (rep)
abbrev Nm:=Value×Nat
structure MSt where
 i:Nat
 key:Nat
 R:Nm→AV
 B:Nm→Bool×D8
structure MSl where
 ini:Bool×D8
 st:List MSt
def c3S (f:Nat→Bool) (nm:Nat→Nm):(Bool×D8)→List MSt→Bool×D8
 | B,[]=>B
 | B,t::r=>c3S f nm (bif f t.i then t.B (nm t.key) else B) r
def allM (sl:List MSl):List MSt:=sl.flatMap MSl.st
def c4V (sl:List MSl):List Nat:=(allM sl).map MSt.i
def c3T (f:Nat→Bool) (nm:Nat→Nm) (sl:List MSl):j7:=sl.map fun s=>c3S f nm s.ini s.st
def upS (f:Nat→Bool):List MSt→Prop
 | []=>True
 | t::r=>(f t.i=false→∀ u∈r,f u.i=false)∧upS f r
section
variable {P:Program} {C:Ctx} {N:Nat} {σ:x5} {H:j7}
structure c5s (sl:List MSl) (H0:j7) (listed:Array Bool) (cacc:List (Nat×AV)) (H:j7) (nm:Nat→Nm):Prop where
 acc:∀ t∈allM sl,listed.getD t.i false=true→o9 cacc t.i=some (t.R (nm t.key))
 keys:∀ j r,o9 cacc j=some r→j∈c4V sl∧listed.getD j false=true
 heap:H=c3T (fun j=>listed.getD j false) nm sl++H0
 up:∀ s∈sl,upS (fun j=>listed.getD j false) s.st
end
end Go.Ab
namespace Go.Ab
open Go.Fl Go.RowKit
open p2 (rep)
structure c5t where
 n:Nat
structure c5u where
 l:List UInt8
 pos:Nat
structure c5e (b:Nat) where
 off:Option Nat
section
variable {P:Program} {C:Ctx} {N:Nat} {σ:x5} {H:j7} {d:Option Nat} {ty:TypeId} {ps:String} {af:Array Edge} {g:Option (Nat×Bool)}
theorem D5.fn {f:FuncId}:D5 C σ H (.func f) (.v (FnV.mk (some f))):=fun ρ I L hs=>⟨_,rfl,_,rfl,rfl⟩
end
section
variable {P:Program} {C:Ctx} {N:Nat} {σ:x5} {H:j7} {KH:AV→j7→Prop} {d:Option Nat} {ty:TypeId} {ps:String} {af:Array Edge} {g:Option (Nat×Bool)}
end
section
variable {P:Program} {C:Ctx} {N:Nat} {σ:x5} {H:j7} {ops:Array Oper} {Q:Exit→x5→j7→Prop} {rest:List Oper}
end
end Go.Ab
namespace Go.Proofs.YtalibdhdngbbcaaGreatDoor
open Go.Proofs.Tryz
open Go.Fl Go.Ab Go.Mac Go.Sha
abbrev b4P:Prop:=∀ (w:Value) (l:List Sp),0 < l.length→(∀ s∈l,s.p3≤s.To∧0≤s.p3∧s.To < 1440)→l.length≤4000→G0 gl prog 86 [.raw w,.v (FnV.mk (some 87))] [.own 89 w l] (fun r Hs=>∃ q:List Sp,(∀ s,s∈q↔s∈l)∧q.length=l.length∧q.Pairwise (fun s t=>s.p3≤t.p3)∧Hs = [.own 89 w q])
theorem a9h:∀ (l out:List Sp),(l.foldl Y1 out).length≤out.length+l.length
 | [],out=>by simp
 | s::l,out=>by
  have h:=a9h l (Y1 out s)
  have h2:(Y1 out s).length≤out.length+1:=by
   rcases List.eq_nil_or_concat out with rfl|⟨r,t,rfl⟩
   ·simp [a0X]
   ·rw [List.concat_eq_append,a2q];split<;>simp
  rw [List.foldl_cons,List.length_cons]
  omega
theorem b2e:∀ (l out:List Sp),(∀ s∈out,s.p3≤s.To∧0≤s.p3∧s.To < 1440)→(∀ s∈l,s.p3≤s.To∧0≤s.p3∧s.To < 1440)→∀ s∈l.foldl Y1 out,s.p3≤s.To∧0≤s.p3∧s.To < 1440
 | [],out,h,_=>h
 | s::l,out,h,hl=>by
  refine b2e l (Y1 out s) ?_ fun t ht=>hl t (by simp [ht])
  have hs:=hl s (by simp)
  rcases List.eq_nil_or_concat out with rfl|⟨r,t,rfl⟩
  ·intro x hx;rw [a0X] at hx;rw [List.mem_singleton.1 hx];exact hs
  ·rw [List.concat_eq_append] at h ⊢
   have ht:=h t (by simp)
   rw [a2q]
   split
   ·intro x hx
    rcases List.mem_append.1 hx with hx|hx
    ·exact h x (by simp [hx])
    ·rw [List.mem_singleton.1 hx];dsimp only;omega
   ·intro x hx
    rcases List.mem_append.1 hx with hx|hx
    ·exact h x hx
    ·rw [List.mem_singleton.1 hx];exact hs
theorem a8f (q:List Sp) {i:Nat} (h:i < q.length):O6 (q.take (i+1))=Y1 (O6 (q.take i)) q[i]:=by
 unfold O6;rw [List.take_succ_eq_append_getElem h,List.foldl_append];rfl
theorem b3P (out:List Sp) (s:Sp):Y1 out s=if decide (0 < (out.length:Int))&&decide (s.p3≤(out.getD ((out.length:Int) - 1).toNat default).To+1) then out.set ((out.length:Int) - 1).toNat ⟨(out.getD ((out.length:Int) - 1).toNat default).p3,max (out.getD ((out.length:Int) - 1).toNat default).To s.To⟩ else out ++ [s]:=by
 rcases List.eq_nil_or_concat out with rfl|⟨r,t,rfl⟩
 ·simp [a0X]
 ·rw [List.concat_eq_append,a2q]
  have e:(((r ++ [t]).length:Int) - 1).toNat=r.length:=by simp
  have e2:(r ++ [t]).getD r.length default=t:=by simp [List.getD_eq_getElem?_getD]
  rw [e,e2]
  simp
theorem b4Q {l:List Sp} {n:Nat} (h:n < l.length):l.getD n default=l[n]:=by rw [List.getD_eq_getElem?_getD,List.getElem?_eq_getElem h];rfl
theorem a5t (hs:b4P) (l:List Sp) (h0:0 < l.length) (hl:∀ s∈l,s.p3≤s.To∧0≤s.p3∧s.To < 1440) (hn:l.length≤4000):G0 gl prog 48 [.v l] [] (fun r Hs=>∃ u,r = .raw u∧Hs = [.own 89 u (a3C l)]):=by
 refine G0.R1 func48 rfl (by kernel_rfl) 58 rfl rfl _ rfl _ rfl fun C hC hG => ?_
 refine .q 8 hG ?_
 refine .h (.make b9J (.t a8) (by first|omega|(simp;done)|(simp;omega)|(simp at *;omega)) (by first|omega|(simp;done)|(simp;omega)|(simp at *;omega)) (by first|omega|(simp;done)|(simp;omega)|(simp at *;omega)) fun b10 => ?_)
 refine .q 6 hG ?_
 refine .h (.b9y a2z underlying55 a8 .z (.v (.t a8)) (by first|omega|(simp;done)|(simp;omega)|(simp at *;omega)) ?_)
 rw [show List.take (List.replicate (l.length:Int).toNat (default:Sp)).length l++List.drop l.length (List.replicate (l.length:Int).toNat (default:Sp))=l by simp]
 refine .q 4 hG ?_
 refine .h (.a4I hG (hs _ _ h0 hl hn) .z (.cons (.t a8) (.cons .fn .nil)) (by rintro _ _ ⟨_,_,_,_,rfl⟩;exact⟨_,rfl⟩) fun r15 B15 hr15 => ?_)
 obtain⟨q,hq1,hq2,hq3,hB⟩:=hr15
 cases hB
 refine .q 2 hG ?_
 refine .y0 hC .z (.as 3 a8 .z (.drop ?_))
 refine .q 1 hG ?_
 refine .p (.assign .raw ?_)
 refine .q 3 hG ?_
 refine .a0Q 89 Sp ?_
 refine .q 6 hG ?_
 refine .E1 (α:=Nat×Value) [(16,_),(17,_)] (fun x R=>(4,.raw x.2)::(18,.v (x.1:Int))::R) (fun x => [(true,.own 89 x.2 (O6 (q.take x.1)))]) (fun x=>x.1≤q.length) (fun x=>q.length - x.1) ((0,.slice none 0 0)) (.c2 a8 a8 (.nil _)) ?_ (.c2 a8 a8 (.c2 a8 a8 (.nil _))) (a8) fun x hF => ?_
 ·simp
 obtain⟨i,w⟩:=x
 dsimp only at hF ⊢
 have hml:(O6 (q.take i)).length≤i:=Nat.le_trans (a9h (q.take i) []) (by simp;omega)
 refine .q 6 hG ⟨fun hc19 => ?_,fun hc19 => ?_⟩
 ·refine .q 5 hG ?_
  refine .ix (by first|omega|(simp;done)|(simp;omega)|(simp at *;omega)) (by first|omega|(simp;done)|(simp;omega)|(simp at *;omega)) ?_
  refine .q 2 hG fun b6 => ?_
  refine .q 3 hG ?_
  refine .C1 hC .z (.O9 6 a8 .z (.drop ?_))
  refine .q 2 hG ?_
  refine .p (.b2N underlying55 a8 .z ?_)
  refine .q 3 hG ?_
  have hd1:=getD_in (b2e (q.take i) [] (by simp) fun s hs=>hl s ((hq1 s).1 (List.mem_of_mem_take hs))) ((((O6 (q.take i)).length:Int) - 1).toNat)
  have hd2:0≤(j6.id.comp u0.l1).get ((O6 (q.take i)).getD (((O6 (q.take i)).length:Int) - 1).toNat default)∧(j6.id.comp u0.l1).get ((O6 (q.take i)).getD (((O6 (q.take i)).length:Int) - 1).toNat default) < 1440:=⟨Int.le_trans hd1.1 hd1.2.1,hd1.2.2⟩
  have hal:=b3P (O6 (q.take i)) (q[i]'(by omega))
  refine .draw (by kernel_rfl) 14 [[],[(24,0)],[(25,1)],[],[(27,3)],[],[],[(30,6)],[(29,5),(31,7)],[(32,8)],[(33,9)],[(34,10)],[(28,4),(35,11)],[(26,2),(36,12)]] a8 (by kernel_rfl) a8 ?_
  refine⟨_,j5.move (.t a8) a8,?_⟩
  refine⟨_,j5.gtr (.t a8) (.i a8) a8,?_⟩
  refine⟨_,j5.move (.t a8) a8,?_⟩
  refine⟨_,⟨_,_,a8,a8,fun hg27=>j5.y9 u0.l0 (fun x=>x.p3) a42 a8 (fun _=>a8) (.t a8) a8⟩,?_⟩
  refine⟨_,⟨_,_,a8,a8,fun hg28=>j5.G8 I6 (.q a8 hg28) a8⟩,?_⟩
  refine⟨_,⟨_,_,a8,a8,fun hg29=>j5.move (.t a8) a8⟩,?_⟩
  refine⟨_,⟨_,_,a8,a8,fun hg30=>j5.move (.t a8) a8⟩,?_⟩
  refine⟨_,⟨_,_,a8,a8,fun hg31=>j5.sub (.q a8 hg31) (.i a8) (by first|omega|(simp;done)|(simp;omega)|(have:=hg31;simp at this;omega)) (by first|omega|(simp;done)|(simp;omega)|(have:=hg31;simp at this;omega)) a8⟩,?_⟩
  refine⟨_,⟨_,_,a8,a8,fun hg32=>j5.c0K a2z underlying55 (.q a8 hg32) .z (.q a8 hg32) (by first|omega|(simp;done)|(simp;omega)|(have:=hg32;simp at this;omega)) (by first|omega|(simp;done)|(simp;omega)|(have:=hg32;simp at this;omega)) a8⟩,?_⟩
  refine⟨_,⟨_,_,a8,a8,fun hg33=>j5.c1S u0.l1 a2s a8 (.q a8 hg33) a8⟩,?_⟩
  refine⟨_,⟨_,_,a8,a8,fun hg34=>j5.c4U I6 (.q a8 hg34) .z (by first|omega|(simp;done)|(simp;omega)|(have:=hg34;simp at this;omega)) a8⟩,?_⟩
  refine⟨_,⟨_,_,a8,a8,fun hg35=>j5.add (.q a8 hg35) (.i a8) (by first|omega|(simp;done)|(simp;omega)|(have:=hg35;simp at this;omega)) (by first|omega|(simp;done)|(simp;omega)|(have:=hg35;simp at this;omega)) a8⟩,?_⟩
  refine⟨_,⟨_,_,a8,a8,fun hg36=>j5.leq (.q a8 hg36) (.q a8 hg36) a8⟩,?_⟩
  refine⟨_,j5.M5 (.t a8) (fun hp=>(.q a8 hp)) a8,?_⟩
  show D1 _ _ _ _ _ [] ((37,_)::(36,_)::(35,_)::(34,_)::(33,_)::(32,_)::(31,_)::(30,_)::(29,_)::(28,_)::(27,_)::(26,_)::(25,_)::(24,_)::_) _
  refine .q 1 hG ?_
  refine .cond (.t a8) (fun hc37 => ?_) (fun hc37 => ?_)
  ·refine .draw (by kernel_rfl) 14 [[],[],[(39,1)],[],[],[(42,4)],[(41,3),(43,5)],[(44,6)],[(45,7)],[],[(47,9)],[(46,8),(48,10)],[(38,0),(40,2)],[(50,12)]] a8 (by kernel_rfl) a8 ?_
   refine⟨_,j5.move (.t a8) a8,?_⟩
   refine⟨_,j5.move (.t a8) a8,?_⟩
   refine⟨_,j5.sub (.t a8) (.i a8) (by first|omega|(simp;done)|(simp;omega)|(simp at *;omega)) (by first|omega|(simp;done)|(simp;omega)|(simp at *;omega)) a8,?_⟩
   refine⟨_,j5.move (.t a8) a8,?_⟩
   refine⟨_,j5.move (.t a8) a8,?_⟩
   refine⟨_,j5.sub (.t a8) (.i a8) (by first|omega|(simp;done)|(simp;omega)|(simp at *;omega)) (by first|omega|(simp;done)|(simp;omega)|(simp at *;omega)) a8,?_⟩
   refine⟨_,j5.a2w a2z underlying55 a8 .z (.t a8) (by first|omega|(simp;done)|(simp;omega)|(simp at *;omega)) (by first|omega|(simp;done)|(simp;omega)|(simp at *;omega)) a8,?_⟩
   refine⟨_,j5.c1S u0.l1 a2s a8 (.t a8) a8,?_⟩
   refine⟨_,j5.ldE I6 (.t a8) .z (by first|omega|(simp;done)|(simp;omega)|(simp at *;omega)) a8,?_⟩
   refine⟨_,j5.y9 u0.l1 (fun x=>x.To) a2s a8 (fun _=>a8) (.t a8) a8,?_⟩
   refine⟨_,j5.G8 I6 (.t a8) a8,?_⟩
   refine⟨_,j5.a8i (.t a8) (.t a8) a8,?_⟩
   refine⟨_,j5.a2w a2z underlying55 a8 .z (.t a8) (by first|omega|(simp;done)|(simp;omega)|(simp at *;omega)) (by first|omega|(simp;done)|(simp;omega)|(simp at *;omega)) a8,?_⟩
   refine⟨_,j5.c1S u0.l1 a2s a8 (.t a8) a8,?_⟩
   show D1 _ _ _ _ _ [_] ((51,_)::(50,_)::(49,_)::(48,_)::(47,_)::(46,_)::(45,_)::(44,_)::(43,_)::(42,_)::(41,_)::(40,_)::(39,_)::(38,_)::_) _
   refine .n (.stE I6 (.t a8) (.t a8) .z (by first|omega|(simp;done)|(simp;omega)|(simp at *;omega)) ?_)
   refine .q 2 hG ?_
   refine .ad (by first|omega|(simp;done)|(simp;omega)|(simp at *;omega)) (by first|omega|(simp;done)|(simp;omega)|(simp at *;omega)) ?_
   refine .q 2 hG ?_
   refine⟨(i+1,_),.c2 rfl rfl (.c2 rfl rfl (.nil _)),congrArg (fun z => [(true,D8.own _ _ z)]) (by dsimp only;rw [a8f q (by omega),hal];split<;>rename_i hcc<;>first|exact absurd hc37 hcc|exact absurd (hcc.symm.trans hc37) (by decide)|rfl|(have hlt:(((O6 (q.take i)).length:Int) - 1).toNat < (O6 (q.take i)).length:=(by have h0:=(Bool.and_eq_true_iff.1 hc37).1;rw [decide_eq_true_eq] at h0;omega);exact congrArg (fun x:Sp=>List.set (O6 (q.take i)) (((O6 (q.take i)).length:Int) - 1).toNat (⟨x.p3,max x.To (q[i]'(by omega)).To⟩:Sp)) (b4Q hlt).symm)),?_,by dsimp only;omega⟩
   dsimp only;omega
  ·refine .q 3 hG ?_
   refine .bs a8 (by decide) fun b54 => ?_
   refine .ap (by first|omega|(simp;done)|(simp;omega)|(simp at *;omega)) (by first|omega|(simp;done)|(simp;omega)|(simp at *;omega)) fun w55 => ?_
   refine .q 1 hG ?_
   refine .drop ?_
   refine .q 2 hG ?_
   refine .ad (by first|omega|(simp;done)|(simp;omega)|(simp at *;omega)) (by first|omega|(simp;done)|(simp;omega)|(simp at *;omega)) ?_
   refine .q 2 hG ?_
   refine⟨(i+1,_),.c2 rfl rfl (.c2 rfl rfl (.nil _)),congrArg (fun z => [(true,D8.own _ _ z)]) (by dsimp only;rw [a8f q (by omega),hal];split<;>rename_i hcc<;>first|exact absurd hc37 hcc|exact absurd (hcc.symm.trans hc37) (by decide)|rfl|(have hlt:(((O6 (q.take i)).length:Int) - 1).toNat < (O6 (q.take i)).length:=(by have h0:=(Bool.and_eq_true_iff.1 hc37).1;rw [decide_eq_true_eq] at h0;omega);exact congrArg (fun x:Sp=>List.set (O6 (q.take i)) (((O6 (q.take i)).length:Int) - 1).toNat (⟨x.p3,max x.To (q[i]'(by omega)).To⟩:Sp)) (b4Q hlt).symm)),?_,by dsimp only;omega⟩
   dsimp only;omega
 ·refine .q 7 hG ?_
  refine .e1 a8 a8 ?_
  refine⟨_,.cons .z (.nil),?_⟩
  exact⟨_,rfl,by rw [show i=q.length by omega,List.take_length,b5W (fun s hs=>(hl s hs).1) hq1 hq3]⟩
theorem b8K (hs:b4P):a7m:=fun l h0 hl hn=>(a5t hs l h0 hl hn).a9Q
structure o6 where
 a2x:Bool
 L4:UInt64
 K3:UInt64
 T7:UInt64
 p3:Int
 To:Int
 E3:S3
 A7:T5
def o6.f (x:o6):Bool×UInt64×UInt64×UInt64×Int×Int×S3×T5×Unit:=(x.a2x,x.L4,x.K3,x.T7,x.p3,x.To,x.E3,x.A7,())
instance:Inhabited o6:=⟨⟨default,default,default,default,default,default,default,default⟩⟩
instance:p2 o6:=p2.via o6.f
instance:G4 o6:=G4.via o6.f rfl
def o6.l1:j6 o6 UInt64:=j6.via o6.f (j6.snd.comp j6.fst) (fun x=>x.L4) (fun y x => { x with L4:=y }) (fun _=>rfl) (fun _ _=>rfl)
def o6.l2:j6 o6 UInt64:=j6.via o6.f (j6.snd.comp (j6.snd.comp j6.fst)) (fun x=>x.K3) (fun y x => { x with K3:=y }) (fun _=>rfl) (fun _ _=>rfl)
def o6.l3:j6 o6 UInt64:=j6.via o6.f (j6.snd.comp (j6.snd.comp (j6.snd.comp j6.fst))) (fun x=>x.T7) (fun y x => { x with T7:=y }) (fun _=>rfl) (fun _ _=>rfl)
def o6.l4:j6 o6 Int:=j6.via o6.f (j6.snd.comp (j6.snd.comp (j6.snd.comp (j6.snd.comp j6.fst)))) (fun x=>x.p3) (fun y x => { x with p3:=y }) (fun _=>rfl) (fun _ _=>rfl)
def o6.l5:j6 o6 Int:=j6.via o6.f (j6.snd.comp (j6.snd.comp (j6.snd.comp (j6.snd.comp (j6.snd.comp j6.fst))))) (fun x=>x.To) (fun y x => { x with To:=y }) (fun _=>rfl) (fun _ _=>rfl)
def o6.l6:j6 o6 S3:=j6.via o6.f (j6.snd.comp (j6.snd.comp (j6.snd.comp (j6.snd.comp (j6.snd.comp (j6.snd.comp j6.fst)))))) (fun x=>x.E3) (fun y x => { x with E3:=y }) (fun _=>rfl) (fun _ _=>rfl)
def o6.l7:j6 o6 T5:=j6.via o6.f (j6.snd.comp (j6.snd.comp (j6.snd.comp (j6.snd.comp (j6.snd.comp (j6.snd.comp (j6.snd.comp j6.fst))))))) (fun x=>x.A7) (fun y x => { x with A7:=y }) (fun _=>rfl) (fun _ _=>rfl)
theorem b4R:F1 prog 55 S3 := .ok (by kernel_rfl)
theorem b8L:F1 prog 57 o6 := .ok (by kernel_rfl)
def b4S (a:Au) (u:Value):o6:=⟨a.a2x,a.L4,a.K3,a.T7,a.p3,a.To,⟨u⟩,a.A7⟩
theorem a62 (a:Au) (f l:Int):∀ (n m:Nat) (d:Int) (o:Au),f≤d→l+1 - d≤n→l+1 - d≤m→R9 a f l n d o=R9 a f l m d o
 | 0,0,_,_,_,_,_=>rfl
 | 0,m+1,d,o,_,h,_=>by
  unfold R9;rw [if_neg (by omega)]
 | n+1,0,d,o,_,_,h=>by
  rw [R9,R9,if_neg (by omega)]
 | n+1,m+1,d,o,hd,h1,h2=>by
  have hx:d≤Y7 f l d:=by unfold Y7;split<;>omega
  rw [R9,R9]
  split
  ·exact a62 a f l n m _ _ (by omega) (by omega) (by omega)
  ·rfl
theorem b6e {a:Au} {u:Value} {I:Im} {cs:List Value} (h:p2.rep I (b4S a u) cs) (hg:F8 I (.v a.E3) u):p2.rep I a cs:=by
 obtain⟨c1,r1,rfl,h1,c2,r2,rfl,h2,c3,r3,rfl,h3,c4,r4,rfl,h4,c5,r5,rfl,h5,c6,r6,rfl,h6,c7,r7,rfl,⟨rfl,_⟩,h8⟩:=h
 obtain⟨_,⟨v,rfl,h9⟩,rfl⟩:=hg
 exact⟨c1,_,a8,h1,c2,_,a8,h2,c3,_,a8,h3,c4,_,a8,h4,c5,_,a8,h5,c6,_,a8,h6,_,_,a8,⟨_,a8,h9⟩,h8⟩
structure a1n (l:List Sp):Prop where
 canon:Canon l
 rng:∀ s∈l,0≤s.p3∧s.To < 1440
theorem a1n.of {l:List Sp} (h:Canon l) (k:∀ t,inL l t→0≤t∧t < 1440):a1n l:=⟨h,fun s hs=>⟨(k s.p3 ⟨s,hs,Int.le_refl _,h.ne s hs⟩).1,(k s.To ⟨s,hs,h.ne s hs,Int.le_refl _⟩).2⟩⟩
theorem a1n.day {a:Au} (ha:a1m a) (d:Int):a1n (P8 a d) := .of (a8c ha d) fun t ht=>have h:=(a4A ha d t).1 ht;⟨h.1,h.2.1⟩
theorem a1n.at {l:List Sp} (h:a1n l) (t:Int) (ht:inL l t):0≤t∧t < 1440:=by
 obtain⟨s,hs,h1,h2⟩:=ht
 have:=h.rng s hs
 omega
theorem a1n.two {p q:List Sp} (h:a1n p) (k:a1n q):a1n (a3C (p++q)):=by
 have hc:=a4z (l:=p++q) fun s hs=>(List.mem_append.1 hs).elim (h.canon.ne s) (k.canon.ne s)
 refine .of hc.1 fun t ht => ?_
 obtain⟨s,hs,h2⟩:=(hc.2 t).1 ht
 rcases List.mem_append.1 hs with h3|h3
 ·exact h.at t ⟨s,h3,h2⟩
 ·exact k.at t ⟨s,h3,h2⟩
theorem a1n.len {l:List Sp} (h:a1n l):l.length≤720:=by
 have:=a4C (lo:=0) h.canon h.rng (by decide)
 omega
theorem a1n.step {a o:Au} (ha:a1m a) (h:a1n o.E3) (d:Int):a1n (U3 a o d).E3:=by
 unfold U3;split
 ·exact h
 ·exact h.two (.day ha d)
theorem a3D {a o : Au} {d v : Int} (hd : d ≤ a.To / 1440) (hv : Y7 (a.p3 / 1440) (a.To / 1440) d = v) (h : R9 a (a.p3 / 1440) (a.To / 1440) (a.To / 1440 + 1 - d).toNat d o = M8 a) (hf : a.p3 / 1440 ≤ d) :
    R9 a (a.p3/1440) (a.To/1440) (a.To/1440+1 - (v+1)).toNat (v+1) (U3 a o v)=M8 a:=by
  have hx:d≤v:=by rw [←hv];unfold Y7;split<;>omega
  obtain⟨n,hn⟩:∃ n,(a.To/1440+1 - d).toNat=n+1:=⟨(a.To/1440 - d).toNat,by omega⟩
  rw [hn,R9,if_pos hd,hv] at h
  rw [←h]
  exact a62 a _ _ _ _ _ _ (by omega) (by omega) (by omega)
theorem a9i {a o:Au} {d:Int} (h:P8 a d ≠ []):U3 a o d = { o with T7:=o.T7 ||| ((1:UInt64) <<< UInt64.ofNat (d % 7).toNat),p3:=min o.p3 (d*1440+((P8 a d).headD ⟨0,0⟩).p3),To:=max o.To (d*1440+((P8 a d).getLastD ⟨0,0⟩).To),E3:=a3C (o.E3++P8 a d) }:=by
 unfold U3;rw [if_neg h]
theorem c0L {l:List Sp} (h:0 < l.length):l[0]=l.headD ⟨0,0⟩:=by cases l;cases h;rfl
theorem c0M {l:List Sp} {k:Nat} (h:k+1=l.length) (hk:k < l.length):l[k]=l.getLastD ⟨0,0⟩:=by
 rcases List.eq_nil_or_concat l with rfl|⟨r,s,rfl⟩
 ·cases hk
 ·simp only [List.concat_eq_append] at *
  have:k=r.length:=by simp at h;omega
  subst this
  simp
theorem a1n.all {l:List Sp} (h:a1n l) (k:Nat) (hk:k < l.length):0≤l[k].p3∧l[k].p3 < 1440∧0≤l[k].To∧l[k].To < 1440:=by
 have h1:=h.rng _ (List.getElem_mem hk)
 have h2:=h.canon.ne _ (List.getElem_mem hk)
 omega
theorem a1n.c3U {l:List Sp} (h:a1n l) (hp:0 < l.length):0≤(l[((l.length:Int) - 1).toNat]'(by omega)).To∧(l[((l.length:Int) - 1).toNat]'(by omega)).To < 1440:=(h.all _ _).2.2
theorem a1n.head {l:List Sp} (h:a1n l) (hp:0 < l.length):l[Int.toNat 0]'hp=l.headD ⟨0,0⟩:=c0L hp
theorem a1n.last {l:List Sp} (h:a1n l) (hp:0 < l.length):l[((l.length:Int) - 1).toNat]'(by omega)=l.getLastD ⟨0,0⟩:=c0M (by omega) (by omega)
theorem b8M (hs:b4P) (a:Au) (ha:a1m a):p6 gl prog 22 [.v a] (fun r=>r = .v (I5 a)):=by
 have hf0:=ha.a2d
 have hf1:=ha.a4U
 have ht0:=ha.to0
 have ht1:=ha.to1
 have hl7:=ha.len
 refine p6.jn func22 (by kernel_rfl) 98 rfl fun C hC hG => ?_
 refine .q 3 hG fun b1 => ?_
 refine .q 1 hG fun b2 => ?_
 refine .q 2 hG ?_
 refine .C1 hC .z1 (.O9 1 a8 .z1 (.draw (by kernel_rfl) 8 [[],[(8,0)],[(9,1)],[],[(11,3)],[(12,4)],[(10,2)],[(13,5)]] a8 (by kernel_rfl) a8 ?_))
 refine⟨_,j5.y9 l8.l4 (fun x=>x.p3) a3R a8 (fun _=>a8) (.t a8) a8,?_⟩
 refine⟨_,j5.G8 I6 (.t a8) a8,?_⟩
 refine⟨_,j5.quo (.t a8) (.i a8) (by first|omega|(simp;done)|(simp;omega)|(simp at *;omega)) (by first|omega|(simp;done)|(simp;omega)|(simp at *;omega)) a8,?_⟩
 refine⟨_,j5.y9 l8.l5 (fun x=>x.To) a3e a8 (fun _=>a8) (.t a8) a8,?_⟩
 refine⟨_,j5.G8 I6 (.t a8) a8,?_⟩
 refine⟨_,j5.quo (.t a8) (.i a8) (by first|omega|(simp;done)|(simp;omega)|(simp at *;omega)) (by first|omega|(simp;done)|(simp;omega)|(simp at *;omega)) a8,?_⟩
 refine⟨_,j5.assign (.t a8) a8,?_⟩
 refine⟨_,j5.assign (.t a8) a8,?_⟩
 show D1 _ _ _ _ _ [] ((4,_)::(3,_)::(13,_)::(12,_)::(11,_)::(10,_)::(9,_)::(8,_)::_) _
 refine .q 9 hG ?_
 refine .p (.bS5 o6.l1 o6.l2 o6.l7 o6.l4 o6.l5 a8 b8L b6K (fun c1 c2 c7 c4 c5=>(⟨false,c1,c2,0,c4,c5,default,c7⟩:o6)) (fun _ _ _ _ _=>a8) a8 a8 a8 a8 a8 a8 (.t a8) (.t a8) (.t a8) (.i a8) (.i a8) (.h (.alloc b8L fun b5 => .n (.P7 b8L (.t a8) (.t a8) .z ?_))))
 refine .q 3 hG ?_
 refine .a0Q 89 Sp ?_
 refine .q 5 hG ?_
 refine .E1 (α:=Int×Au×Value) [(1,_),(2,_),(3,_),(4,_),(5,_)] (fun x R=>(6,.v x.1)::R) (fun x => [(true,.own 89 x.2.2 x.2.1.E3),(true,.ob (ptr b5 0) (b4S x.2.1 x.2.2)),(true,.ob (ptr b2 0) (default:Au)),(true,.fz (ptr b1 0) (.p a))]) (fun x=>a.p3/1440≤x.1∧R9 a (a.p3/1440) (a.To/1440) (a.To/1440+1 - x.1).toNat x.1 x.2.1=M8 a∧a1n x.2.1.E3) (fun x=>(a.To/1440+1 - x.1).toNat) ((a.p3/1440,⟨false,a.L4,a.K3,0,67108865,-1,[],a.A7⟩,.slice none 0 0)) (.c2 a8 a8 (.c2 a8 a8 (.cons a8 (.nil _)))) ?_ (.c2 a8 a8 (.c2 a8 a8 (.c2 a8 a8 (.nil _)))) (a8) fun x hF => ?_
 ·exact⟨Int.le_refl _,rfl,⟨Canon.nil,by simp⟩⟩
 obtain⟨d,o,w⟩:=x
 dsimp only at hF ⊢
 obtain⟨hF1,hF2,hF3⟩:=hF
 have hol:=hF3.len
 refine .q 8 hG ⟨fun hc24 => ?_,fun hc24 => ?_⟩
 ·refine .q 8 hG ?_
  refine .ad (by first|omega|(simp;done)|(simp;omega)|(simp at *;omega)) (by first|omega|(simp;done)|(simp;omega)|(simp at *;omega)) ?_
  refine .q 4 hG ?_
  refine .go 31 a8 (.t a8) (fun hg34 => .sub (.q a8 hg34) (.i a8) (by first|omega|(simp;done)|(simp;omega)|(have:=hg34;simp at this;omega)) (by first|omega|(simp;done)|(simp;omega)|(have:=hg34;simp at this;omega)) a8) ?_
  refine .q 3 hG ?_
  refine .cond (.t a8) (fun hc36 => ?_) (fun hc36 => ?_)
  ·refine .q 2 hG ?_
   refine .sb (by first|omega|(simp;done)|(simp;omega)|(simp at *;omega)) (by first|omega|(simp;done)|(simp;omega)|(simp at *;omega)) ?_
   refine .q 3 hG ?_
   have hdr:a.p3/1440+8 < d∧d < a.To/1440 - 8:=(by simpa using hc36)
   have hnx:Y7 (a.p3/1440) (a.To/1440) d=a.To/1440 - 8:=(by unfold Y7;rw [if_pos (by omega)])
   have hdl:=a1n.day ha (a.To/1440 - 8)
   have hdn:=hdl.len
   refine .q 3 hG ?_
   refine .p (.p8 hG (b8H _ _ ha (by omega) (by omega) (by omega)) (.cons (.t a8) (.cons (.t a8) .nil)) ?_)
   refine .q 10 hG ⟨fun hc44 => ?_,fun hc44 => ?_⟩
   ·refine .q 3 hG ?_
    refine .ad (by first|omega|(simp;done)|(simp;omega)|(simp at *;omega)) (by first|omega|(simp;done)|(simp;omega)|(simp at *;omega)) ?_
    refine .q 2 hG ?_
    refine⟨(_,o,w),.c2 rfl rfl (.c2 rfl rfl (.c2 rfl rfl (.nil _))),rfl,?_,by dsimp only;omega⟩
    exact⟨by dsimp only;omega,(by have:=a3D hc24 hnx hF2 hF1;unfold U3 at this;rwa [if_pos (List.length_eq_zero_iff.1 (by omega))] at this),hF3⟩
   ·refine .q 2 hG ?_
    have hne:=(fun h=>hc44 (by rw [h];rfl):P8 a _ ≠ [])
    have hpos:=List.length_pos_iff.2 hne
    have h57:=hdl.all (Int.toNat 0) hpos
    have h71:=hdl.c3U hpos
    refine .draw (by kernel_rfl) 7 [[],[(45,0)],[],[(47,2)],[(48,3)],[(46,1),(49,4)],[]] a8 (by kernel_rfl) a8 ?_
    refine⟨_,j5.A9 o6.l3 a7w a8 (.t a8) a8,?_⟩
    refine⟨_,j5.S1 (fun x=>x.T7) a2y (.t a8) .z1 (fun _=>a8) a8,?_⟩
    refine⟨_,j5.move (.t a8) a8,?_⟩
    refine⟨_,j5.rem (.t a8) (.i a8) (by first|omega|(simp;done)|(simp;omega)|(simp at *;omega)) (by first|omega|(simp;done)|(simp;omega)|(simp at *;omega)) a8,?_⟩
    refine⟨_,j5.b8J (.u64 1 a8) (.t a8) (by first|omega|(simp;done)|(simp;omega)|(simp at *;omega)) (by first|omega|(simp;done)|(simp;omega)|(simp at *;omega)) a8,?_⟩
    refine⟨_,j5.b6r (.t a8) (.t a8) a8,?_⟩
    refine⟨_,j5.A9 o6.l3 a7w a8 (.t a8) a8,?_⟩
    show D1 _ _ _ _ _ [_] ((51,_)::(50,_)::(49,_)::(48,_)::(47,_)::(46,_)::(45,_)::_) _
    refine .n (.Z0 (fun y x => { x with T7:=y }) a2y (.t a8) (.t a8) .z1 (fun _ _=>a8) ?_)
    refine .q 2 hG ?_
    refine .draw (by kernel_rfl) 11 [[],[(52,0)],[],[(54,2)],[],[(56,4)],[(57,5)],[(58,6)],[(55,3),(59,7)],[(53,1),(60,8)],[]] a8 (by kernel_rfl) a8 ?_
    refine⟨_,j5.A9 o6.l4 a3R a8 (.t a8) a8,?_⟩
    refine⟨_,j5.S1 (fun x=>x.p3) I6 (.t a8) .z1 (fun _=>a8) a8,?_⟩
    refine⟨_,j5.move (.t a8) a8,?_⟩
    refine⟨_,j5.mul (.t a8) (.i a8) (by first|omega|(simp;done)|(simp;omega)|(simp at *;omega)) (by first|omega|(simp;done)|(simp;omega)|(simp at *;omega)) a8,?_⟩
    refine⟨_,j5.move (.t a8) a8,?_⟩
    refine⟨_,j5.idx a2z underlying55 (.t a8) (.i a8) (by first|omega|(simp;done)|(simp;omega)|(simp at *;omega)) (by first|omega|(simp;done)|(simp;omega)|(simp at *;omega)) a8,?_⟩
    refine⟨_,j5.y9 u0.l0 (fun x=>x.p3) a42 a8 (fun _=>a8) (.t a8) a8,?_⟩
    refine⟨_,j5.G8 I6 (.t a8) a8,?_⟩
    refine⟨_,j5.add (.t a8) (.t a8) (by first|omega|(simp;done)|(simp;omega)|(simp at *;omega)) (by first|omega|(simp;done)|(simp;omega)|(simp at *;omega)) a8,?_⟩
    refine⟨_,j5.a5w (.t a8) (.t a8) a8,?_⟩
    refine⟨_,j5.A9 o6.l4 a3R a8 (.t a8) a8,?_⟩
    show D1 _ _ _ _ _ [_] ((62,_)::(61,_)::(60,_)::(59,_)::(58,_)::(57,_)::(56,_)::(55,_)::(54,_)::(53,_)::(52,_)::_) _
    refine .n (.Z0 (fun y x => { x with p3:=y }) I6 (.t a8) (.t a8) .z1 (fun _ _=>a8) ?_)
    refine .q 2 hG ?_
    refine .draw (by kernel_rfl) 14 [[],[(63,0)],[],[(65,2)],[],[],[(68,5)],[(69,6)],[(67,4),(70,7)],[(71,8)],[(72,9)],[(66,3),(73,10)],[(64,1),(74,11)],[]] a8 (by kernel_rfl) a8 ?_
    refine⟨_,j5.A9 o6.l5 a3e a8 (.t a8) a8,?_⟩
    refine⟨_,j5.S1 (fun x=>x.To) I6 (.t a8) .z1 (fun _=>a8) a8,?_⟩
    refine⟨_,j5.move (.t a8) a8,?_⟩
    refine⟨_,j5.mul (.t a8) (.i a8) (by first|omega|(simp;done)|(simp;omega)|(simp at *;omega)) (by first|omega|(simp;done)|(simp;omega)|(simp at *;omega)) a8,?_⟩
    refine⟨_,j5.move (.t a8) a8,?_⟩
    refine⟨_,j5.move (.t a8) a8,?_⟩
    refine⟨_,j5.len underlying55 (.t a8) a8,?_⟩
    refine⟨_,j5.sub (.t a8) (.i a8) (by first|omega|(simp;done)|(simp;omega)|(simp at *;omega)) (by first|omega|(simp;done)|(simp;omega)|(simp at *;omega)) a8,?_⟩
    refine⟨_,j5.idx a2z underlying55 (.t a8) (.t a8) (by first|omega|(simp;done)|(simp;omega)|(simp at *;omega)) (by first|omega|(simp;done)|(simp;omega)|(simp at *;omega)) a8,?_⟩
    refine⟨_,j5.y9 u0.l1 (fun x=>x.To) a2s a8 (fun _=>a8) (.t a8) a8,?_⟩
    refine⟨_,j5.G8 I6 (.t a8) a8,?_⟩
    refine⟨_,j5.add (.t a8) (.t a8) (by first|omega|(simp;done)|(simp;omega)|(simp at *;omega)) (by first|omega|(simp;done)|(simp;omega)|(simp at *;omega)) a8,?_⟩
    refine⟨_,j5.a8i (.t a8) (.t a8) a8,?_⟩
    refine⟨_,j5.A9 o6.l5 a3e a8 (.t a8) a8,?_⟩
    show D1 _ _ _ _ _ [_] ((76,_)::(75,_)::(74,_)::(73,_)::(72,_)::(71,_)::(70,_)::(69,_)::(68,_)::(67,_)::(66,_)::(65,_)::(64,_)::(63,_)::_) _
    refine .n (.Z0 (fun y x => { x with To:=y }) I6 (.t a8) (.t a8) .z1 (fun _ _=>a8) ?_)
    refine .q 2 hG ?_
    refine .p (.A9 o6.l6 a3S a8 (.t a8) (.p (.ldR (fun x=>x.E3) b4R (.t a8) .z1 (fun _=>a8) ?_)))
    refine .q 1 hG ?_
    refine .h (.append b9J (.inl ⟨_,underlying55⟩) a8 .z (.v (.t a8)) (by first|omega|(simp;done)|(simp;omega)|(simp at *;omega)) (by first|omega|(simp;done)|(simp;omega)|(simp at *;omega)) (fun w80 => ?_) a8)
    refine .y0 hC .z (.as 80 a8 .z ?_)
    refine .k0 hG (a5t hs _ (by rw [List.length_append];omega) (fun s hs=>(List.mem_append.1 hs).elim (fun h=>⟨hF3.canon.ne s h,hF3.rng s h⟩) fun h=>⟨hdl.canon.ne s h,hdl.rng s h⟩) (by simp;omega)) fun r81 Hs81 hr81 => ?_
    obtain⟨u81,rfl,hB⟩:=hr81
    cases hB
    show D1 _ _ _ _ _ _ _ ((true,_)::_)
    refine .del (.s .z) (.p (.A9 o6.l6 a3S a8 (.t a8) (.n (.Z0 (fun y x => { x with E3:=y }) b4R (.t a8) (.b9E a8 .z) .z1 (fun _ _=>a8) ?_))))
    refine .q 3 hG ?_
    refine .ad (by first|omega|(simp;done)|(simp;omega)|(simp at *;omega)) (by first|omega|(simp;done)|(simp;omega)|(simp at *;omega)) ?_
    refine .q 2 hG ?_
    refine⟨(_,U3 a o _,u81),.c2 rfl rfl (.c2 rfl rfl (.c2 rfl rfl (.nil _))),(by rw [a9i hne];unfold b4S;dsimp only;rw [hdl.head hpos,hdl.last hpos]),?_,by dsimp only;omega⟩
    exact⟨by dsimp only;omega,a3D hc24 hnx hF2 hF1,hF3.step ha _⟩
  ·refine .q 2 hG ?_
   have hdr:¬(a.p3/1440+8 < d∧d < a.To/1440 - 8):=(by simpa using hc36)
   have hnx:Y7 (a.p3/1440) (a.To/1440) d=d:=(by unfold Y7;rw [if_neg (by omega)])
   have hdl:=a1n.day ha d
   have hdn:=hdl.len
   refine .q 3 hG ?_
   refine .p (.p8 hG (b8H _ _ ha (by omega) (by omega) (by omega)) (.cons (.t a8) (.cons (.t a8) .nil)) ?_)
   refine .q 10 hG ⟨fun hc44 => ?_,fun hc44 => ?_⟩
   ·refine .q 3 hG ?_
    refine .ad (by first|omega|(simp;done)|(simp;omega)|(simp at *;omega)) (by first|omega|(simp;done)|(simp;omega)|(simp at *;omega)) ?_
    refine .q 2 hG ?_
    refine⟨(_,o,w),.c2 rfl rfl (.c2 rfl rfl (.c2 rfl rfl (.nil _))),rfl,?_,by dsimp only;omega⟩
    exact⟨by dsimp only;omega,(by have:=a3D hc24 hnx hF2 hF1;unfold U3 at this;rwa [if_pos (List.length_eq_zero_iff.1 (by omega))] at this),hF3⟩
   ·refine .q 2 hG ?_
    have hne:=(fun h=>hc44 (by rw [h];rfl):P8 a _ ≠ [])
    have hpos:=List.length_pos_iff.2 hne
    have h57:=hdl.all (Int.toNat 0) hpos
    have h71:=hdl.c3U hpos
    refine .draw (by kernel_rfl) 7 [[],[(45,0)],[],[(47,2)],[(48,3)],[(46,1),(49,4)],[]] a8 (by kernel_rfl) a8 ?_
    refine⟨_,j5.A9 o6.l3 a7w a8 (.t a8) a8,?_⟩
    refine⟨_,j5.S1 (fun x=>x.T7) a2y (.t a8) .z1 (fun _=>a8) a8,?_⟩
    refine⟨_,j5.move (.t a8) a8,?_⟩
    refine⟨_,j5.rem (.t a8) (.i a8) (by first|omega|(simp;done)|(simp;omega)|(simp at *;omega)) (by first|omega|(simp;done)|(simp;omega)|(simp at *;omega)) a8,?_⟩
    refine⟨_,j5.b8J (.u64 1 a8) (.t a8) (by first|omega|(simp;done)|(simp;omega)|(simp at *;omega)) (by first|omega|(simp;done)|(simp;omega)|(simp at *;omega)) a8,?_⟩
    refine⟨_,j5.b6r (.t a8) (.t a8) a8,?_⟩
    refine⟨_,j5.A9 o6.l3 a7w a8 (.t a8) a8,?_⟩
    show D1 _ _ _ _ _ [_] ((51,_)::(50,_)::(49,_)::(48,_)::(47,_)::(46,_)::(45,_)::_) _
    refine .n (.Z0 (fun y x => { x with T7:=y }) a2y (.t a8) (.t a8) .z1 (fun _ _=>a8) ?_)
    refine .q 2 hG ?_
    refine .draw (by kernel_rfl) 11 [[],[(52,0)],[],[(54,2)],[],[(56,4)],[(57,5)],[(58,6)],[(55,3),(59,7)],[(53,1),(60,8)],[]] a8 (by kernel_rfl) a8 ?_
    refine⟨_,j5.A9 o6.l4 a3R a8 (.t a8) a8,?_⟩
    refine⟨_,j5.S1 (fun x=>x.p3) I6 (.t a8) .z1 (fun _=>a8) a8,?_⟩
    refine⟨_,j5.move (.t a8) a8,?_⟩
    refine⟨_,j5.mul (.t a8) (.i a8) (by first|omega|(simp;done)|(simp;omega)|(simp at *;omega)) (by first|omega|(simp;done)|(simp;omega)|(simp at *;omega)) a8,?_⟩
    refine⟨_,j5.move (.t a8) a8,?_⟩
    refine⟨_,j5.idx a2z underlying55 (.t a8) (.i a8) (by first|omega|(simp;done)|(simp;omega)|(simp at *;omega)) (by first|omega|(simp;done)|(simp;omega)|(simp at *;omega)) a8,?_⟩
    refine⟨_,j5.y9 u0.l0 (fun x=>x.p3) a42 a8 (fun _=>a8) (.t a8) a8,?_⟩
    refine⟨_,j5.G8 I6 (.t a8) a8,?_⟩
    refine⟨_,j5.add (.t a8) (.t a8) (by first|omega|(simp;done)|(simp;omega)|(simp at *;omega)) (by first|omega|(simp;done)|(simp;omega)|(simp at *;omega)) a8,?_⟩
    refine⟨_,j5.a5w (.t a8) (.t a8) a8,?_⟩
    refine⟨_,j5.A9 o6.l4 a3R a8 (.t a8) a8,?_⟩
    show D1 _ _ _ _ _ [_] ((62,_)::(61,_)::(60,_)::(59,_)::(58,_)::(57,_)::(56,_)::(55,_)::(54,_)::(53,_)::(52,_)::_) _
    refine .n (.Z0 (fun y x => { x with p3:=y }) I6 (.t a8) (.t a8) .z1 (fun _ _=>a8) ?_)
    refine .q 2 hG ?_
    refine .draw (by kernel_rfl) 14 [[],[(63,0)],[],[(65,2)],[],[],[(68,5)],[(69,6)],[(67,4),(70,7)],[(71,8)],[(72,9)],[(66,3),(73,10)],[(64,1),(74,11)],[]] a8 (by kernel_rfl) a8 ?_
    refine⟨_,j5.A9 o6.l5 a3e a8 (.t a8) a8,?_⟩
    refine⟨_,j5.S1 (fun x=>x.To) I6 (.t a8) .z1 (fun _=>a8) a8,?_⟩
    refine⟨_,j5.move (.t a8) a8,?_⟩
    refine⟨_,j5.mul (.t a8) (.i a8) (by first|omega|(simp;done)|(simp;omega)|(simp at *;omega)) (by first|omega|(simp;done)|(simp;omega)|(simp at *;omega)) a8,?_⟩
    refine⟨_,j5.move (.t a8) a8,?_⟩
    refine⟨_,j5.move (.t a8) a8,?_⟩
    refine⟨_,j5.len underlying55 (.t a8) a8,?_⟩
    refine⟨_,j5.sub (.t a8) (.i a8) (by first|omega|(simp;done)|(simp;omega)|(simp at *;omega)) (by first|omega|(simp;done)|(simp;omega)|(simp at *;omega)) a8,?_⟩
    refine⟨_,j5.idx a2z underlying55 (.t a8) (.t a8) (by first|omega|(simp;done)|(simp;omega)|(simp at *;omega)) (by first|omega|(simp;done)|(simp;omega)|(simp at *;omega)) a8,?_⟩
    refine⟨_,j5.y9 u0.l1 (fun x=>x.To) a2s a8 (fun _=>a8) (.t a8) a8,?_⟩
    refine⟨_,j5.G8 I6 (.t a8) a8,?_⟩
    refine⟨_,j5.add (.t a8) (.t a8) (by first|omega|(simp;done)|(simp;omega)|(simp at *;omega)) (by first|omega|(simp;done)|(simp;omega)|(simp at *;omega)) a8,?_⟩
    refine⟨_,j5.a8i (.t a8) (.t a8) a8,?_⟩
    refine⟨_,j5.A9 o6.l5 a3e a8 (.t a8) a8,?_⟩
    show D1 _ _ _ _ _ [_] ((76,_)::(75,_)::(74,_)::(73,_)::(72,_)::(71,_)::(70,_)::(69,_)::(68,_)::(67,_)::(66,_)::(65,_)::(64,_)::(63,_)::_) _
    refine .n (.Z0 (fun y x => { x with To:=y }) I6 (.t a8) (.t a8) .z1 (fun _ _=>a8) ?_)
    refine .q 2 hG ?_
    refine .p (.A9 o6.l6 a3S a8 (.t a8) (.p (.ldR (fun x=>x.E3) b4R (.t a8) .z1 (fun _=>a8) ?_)))
    refine .q 1 hG ?_
    refine .h (.append b9J (.inl ⟨_,underlying55⟩) a8 .z (.v (.t a8)) (by first|omega|(simp;done)|(simp;omega)|(simp at *;omega)) (by first|omega|(simp;done)|(simp;omega)|(simp at *;omega)) (fun w80 => ?_) a8)
    refine .y0 hC .z (.as 80 a8 .z ?_)
    refine .k0 hG (a5t hs _ (by rw [List.length_append];omega) (fun s hs=>(List.mem_append.1 hs).elim (fun h=>⟨hF3.canon.ne s h,hF3.rng s h⟩) fun h=>⟨hdl.canon.ne s h,hdl.rng s h⟩) (by simp;omega)) fun r81 Hs81 hr81 => ?_
    obtain⟨u81,rfl,hB⟩:=hr81
    cases hB
    show D1 _ _ _ _ _ _ _ ((true,_)::_)
    refine .del (.s .z) (.p (.A9 o6.l6 a3S a8 (.t a8) (.n (.Z0 (fun y x => { x with E3:=y }) b4R (.t a8) (.b9E a8 .z) .z1 (fun _ _=>a8) ?_))))
    refine .q 3 hG ?_
    refine .ad (by first|omega|(simp;done)|(simp;omega)|(simp at *;omega)) (by first|omega|(simp;done)|(simp;omega)|(simp at *;omega)) ?_
    refine .q 2 hG ?_
    refine⟨(_,U3 a o _,u81),.c2 rfl rfl (.c2 rfl rfl (.c2 rfl rfl (.nil _))),(by rw [a9i hne];unfold b4S;dsimp only;rw [hdl.head hpos,hdl.last hpos]),?_,by dsimp only;omega⟩
    exact⟨by dsimp only;omega,a3D hc24 hnx hF2 hF1,hF3.step ha _⟩
 ·refine .q 3 hG ?_
  have hoo:o=M8 a:=(by rw [←hF2,show(a.To/1440+1 - d).toNat=0 from by omega];rfl)
  have hkp:=a4l a (a.p3/1440) (a.To/1440) (a.To/1440+1 - a.p3/1440).toNat (a.p3/1440) ⟨false,a.L4,a.K3,0,67108865,-1,[],a.A7⟩
  change _∧(M8 a).L4=_∧(M8 a).K3=_∧_ at hkp
  refine .q 1 hG ?_
  refine .p (.A9 o6.l5 a3e a8 (.t a8) (.p (.S1 (fun x=>x.To) I6 (.t a8) .z1 (fun _=>a8) (.p (.lss (.t a8) (.i a8) (.mv a8 (.go 86 a8 (.t a8) (fun hg87 => .A9 o6.l1 b6I a8 (.t a8) a8) (.go 86 a8 (.t a8) (fun hg88 => .S1 (fun x=>x.L4) a2y (.q a8 hg88) .z1 (fun _=>a8) a8) (.go 86 a8 (.t a8) (fun hg89 => .b4h (.q a8 hg89) (.u64 0 a8) a8) (.p (.a1r (.t a8) (fun hp=>(.q a8 hp)) (.mv a8 (.go 91 a8 (.t a8) (fun hg92 => .A9 o6.l2 b6J a8 (.t a8) a8) (.go 91 a8 (.t a8) (fun hg93 => .S1 (fun x=>x.K3) a2y (.q a8 hg93) .z1 (fun _=>a8) a8) (.go 91 a8 (.t a8) (fun hg94 => .b4h (.q a8 hg94) (.u64 0 a8) a8) (.p (.a1r (.t a8) (fun hp=>(.q a8 hp)) ?_)))))))))))))))))
  refine .q 1 hG ?_
  refine .cond (.t a8) (fun hc95 => ?_) (fun hc95 => ?_)
  ·refine .q 2 hG ?_
   refine .k hG (b8F) ?_
   refine .q 3 hG ?_
   refine⟨_,.r1 a8 (.cell R5 a8 .z2),?_⟩
   refine congrArg AV.v ?_
   unfold I5
   rw [if_pos (by rw [←hkp.2.1,←hkp.2.2.1,←hoo];have hq:(decide (o.To < 0)||decide (o.L4=0)||decide (o.K3=0))=true:=hc95;simpa only [Bool.or_eq_true,decide_eq_true_eq,or_assoc] using hq)]
  ·refine .q 3 hG ?_
   refine .y0 hC .z (.b5P .z1 (fun n0 I L hr cs hc=>b6e hc (y4.fz .z hr)) (.conv 5 (.ln (ptr b5 0) (j6.id (α:=Au))) a8 (fun _ _ h=>h) ?_))
   refine .q 1 hG ?_
   refine .n (.P7 R5 (.t a8) (.t a8) .z2 ?_)
   refine .q 2 hG ?_
   refine⟨_,.r1 a8 (.cell R5 a8 .z2),?_⟩
   refine congrArg AV.v ?_
   unfold I5
   rw [if_neg (by rw [←hkp.2.1,←hkp.2.2.1,←hoo];intro hx;have hq:(decide (o.To < 0)||decide (o.L4=0)||decide (o.K3=0))=false:=hc95;rw [show(decide (o.To < 0)||decide (o.L4=0)||decide (o.K3=0))=true from by simpa only [Bool.or_eq_true,decide_eq_true_eq,or_assoc] using hx] at hq;exact Bool.noConfusion hq)]
   exact hoo
open Go.Proofs Go.Sort Go.RowKit
def c0N:Go.Shelf.Ren where
 f n:=match n with|6=>86|14=>141|15=>142|20=>165|21=>166|22=>167|23=>168|24=>169|25=>170|26=>171|27=>172|28=>173|29=>174|46=>188|47=>189|48=>190|49=>191|50=>192|57=>199|_=>0
 t n:=match n with|0=>0|3=>3|4=>4|5=>5|9=>9|22=>55|24=>89|25=>170|39=>206|45=>231|46=>232|50=>93|53=>238|55=>54|66=>254|70=>258|76=>265|77=>266|_=>0
 g n:=match n with|_=>0
set_option maxRecDepth 1000000 in
theorem c0O:Go.Proofs.SlLaysF0.n6 prog c0N where
 mixed:=by kernel_rfl
 f6:=⟨Tryz.f86.name,by kernel_rfl,by kernel_rfl⟩
 f14:=⟨Tryz.f141.name,by kernel_rfl,by kernel_rfl⟩
 f15:=by kernel_rfl
 f20:=⟨Tryz.f165.name,by kernel_rfl,by kernel_rfl⟩
 f21:=⟨Tryz.f166.name,by kernel_rfl,by kernel_rfl⟩
 f22:=⟨Tryz.f167.name,by kernel_rfl,by kernel_rfl⟩
 f23:=⟨Tryz.f168.name,by kernel_rfl,by kernel_rfl⟩
 f24:=⟨Tryz.f169.name,by kernel_rfl,by kernel_rfl⟩
 f25:=⟨Tryz.f170.name,by kernel_rfl,by kernel_rfl⟩
 f26:=⟨Tryz.f171.name,by kernel_rfl,by kernel_rfl⟩
 f27:=⟨Tryz.f172.name,by kernel_rfl,by kernel_rfl⟩
 f28:=by kernel_rfl
 f29:=by kernel_rfl
 f46:=⟨Tryz.f188.name,by kernel_rfl,by kernel_rfl⟩
 f47:=by kernel_rfl
 f48:=by kernel_rfl
 f49:=⟨Tryz.f191.name,by kernel_rfl,by kernel_rfl⟩
 f50:=⟨Tryz.f192.name,by kernel_rfl,by kernel_rfl⟩
 f57:=⟨Tryz.f199.name,by kernel_rfl,by kernel_rfl⟩
 t0:=underlying0
 a0:=a0G underlying0 rfl
 z0:=a0H (by kernel_rfl)
 v0:=a1h (by kernel_rfl)
 t3:=underlying3
 a3:=a0G underlying3 rfl
 z3:=a0H (by kernel_rfl)
 v3:=a1h (by kernel_rfl)
 t4:=underlying4
 a4:=a0G underlying4 rfl
 z4:=a0H (by kernel_rfl)
 v4:=a1h (by kernel_rfl)
 t5:=underlying5
 a5:=a0G underlying5 rfl
 z5:=a0H (by kernel_rfl)
 v5:=a1h (by kernel_rfl)
 t9:=underlying9
 a9:=a0G underlying9 rfl
 z9:=a0H (by kernel_rfl)
 v9:=a1h (by kernel_rfl)
 t22:=underlying55
 a22:=a0G underlying55 rfl
 z22:=a0H (by kernel_rfl)
 v22:=a1h (by kernel_rfl)
 t25:=underlying170
 a25:=a0G underlying170 rfl
 z25:=a0H (by kernel_rfl)
 v25:=a1h (by kernel_rfl)
 t39:=underlying206
 a39:=a0G underlying206 rfl
 z39:=a0H (by kernel_rfl)
 v39:=a1h (by kernel_rfl)
 t45:=underlying231
 a45:=a0G underlying231 rfl
 z45:=a0H (by kernel_rfl)
 v45:=a1h (by kernel_rfl)
 t46:=underlying232
 a46:=a0G underlying232 rfl
 z46:=a0H (by kernel_rfl)
 v46:=a1h (by kernel_rfl)
 t50:=underlying93
 a50:=a0G underlying93 rfl
 z50:=a0H (by kernel_rfl)
 v50:=a1h (by kernel_rfl)
 t53:=underlying238
 a53:=a0G underlying238 rfl
 z53:=a0H (by kernel_rfl)
 v53:=a1h (by kernel_rfl)
 t55:=underlying54
 a55:=a0G underlying54 rfl
 z55:=a0H (by kernel_rfl)
 v55:=a1h (by kernel_rfl)
 t66:=underlying254
 a66:=a0G underlying254 rfl
 z66:=a0H (by kernel_rfl)
 v66:=a1h (by kernel_rfl)
 t70:=underlying258
 a70:=a0G underlying258 rfl
 z70:=a0H (by kernel_rfl)
 v70:=a1h (by kernel_rfl)
 t76:=underlying265
 a76:=a0G underlying265 rfl
 z76:=a0H (by kernel_rfl)
 v76:=a1h (by kernel_rfl)
 t77:=underlying266
 a77:=a0G underlying266 rfl
 z77:=a0H (by kernel_rfl)
 v77:=a1h (by kernel_rfl)
abbrev SpD := { s:Sp // 0≤s.p3∧s.p3 < 1440 }
instance:Inhabited SpD:=⟨⟨⟨0,0⟩,by decide⟩⟩
def a2F (x:SpD):List Value := [.int .i64 x.1.p3,.int .i64 x.1.To]
def b6f (x y:SpD):Int:=x.1.p3 - y.1.p3
theorem ltD (x y:SpD):ltOf b6f x y=decide (x.1.p3 < y.1.p3):=by
 unfold ltOf b6f
 by_cases h:x.1.p3 < y.1.p3
 ·rw [decide_eq_true h,decide_eq_true (by omega)]
 ·rw [decide_eq_false h,decide_eq_false (by omega)]
theorem c4W:SWO (ltOf b6f) where
 irrefl x:=by rw [ltD];simp
 trans x y z h1 h2:=by rw [ltD,decide_eq_true_eq] at *;omega
 ntrans x y z h1 h2:=by rw [ltD,decide_eq_false_iff_not] at *;omega
set_option maxRecDepth 100000 in
set_option maxHeartbeats 1000000 in
theorem b8O (x y:SpD) (W:World):Calls prog 87 #[.agg (a2F x).toArray,.agg (a2F y).toArray] W fun e w'=>e = .returned (.int .i64 (b6f x y))∧∃ q os',w'=Sort.grow (W.drewN q) os':=by
 obtain⟨⟨a,a2⟩,ha1,ha2⟩:=x
 obtain⟨⟨b,b2⟩,hb1,hb2⟩:=y
 unfold a2F b6f
 dsimp only at *
 go_enter func87,Tryz.ntmps87
 go_wp2
 go_ret
 exact⟨congrArg (fun z=>Ending.returned (Value.int .i64 z)) (by unfold RowKit.wrap64;omega),0,_,by rw [alloc_eq_grow,alloc_eq_grow,grow_grow];rfl⟩
def toD (l:List Sp) (h:∀ s∈l,0≤s.p3∧s.p3 < 1440):List SpD:=l.pmap (fun s k=>⟨s,k⟩) h
theorem c0P {l:List Sp} (h:∀ s∈l,0≤s.p3∧s.p3 < 1440):(toD l h).map Subtype.val=l:=by
 unfold toD;rw [List.map_pmap];simp
theorem b4T {I:Im}:∀ {d:List SpD} {xs:List Value},K4 I (d.map Subtype.val) xs→xs=d.flatMap a2F
 | [],_,h=>h
 | x::d,_,h=>by
  obtain⟨c,r,rfl,h1,h2⟩:=h
  obtain⟨c1,r1,rfl,⟨rfl,_⟩,c2,r2,rfl,⟨rfl,_⟩,rfl⟩:=h1
  rw [b4T h2,List.flatMap_cons];rfl
theorem b4U {I:Im}:∀ {d:List SpD},(∀ x∈d,x.1.p3≤x.1.To∧x.1.To < 1440)→K4 I (d.map Subtype.val) (d.flatMap a2F)
 | [],_=>rfl
 | x::d,h=>by
  have h1:=h x (by simp)
  have h2:=x.2
  exact⟨a2F x,_,by rw [List.flatMap_cons],⟨[i64 x.1.p3],_,rfl,⟨rfl,show -9223372036854775808≤x.1.p3 by omega,show x.1.p3≤9223372036854775807 by omega⟩,[i64 x.1.To],[],rfl,⟨rfl,show -9223372036854775808≤x.1.To by omega,show x.1.To≤9223372036854775807 by omega⟩,rfl⟩,b4U fun y hy=>h y (by simp [hy])⟩
theorem b0t:∀ d:List SpD,(d.flatMap a2F).length=d.length*2
 | []=>rfl
 | x::d=>by rw [List.flatMap_cons,List.length_append,b0t d];show 2+_=_;rw [List.length_cons];omega
theorem b4V:∀ (d:List SpD) (t:Nat),t < d.length*2→(d.flatMap a2F)[t]! = (a2F d[t/2]!)[t % 2]!
 | [],t,h=>by simp at h
 | x::d,t,h=>by
  rw [List.flatMap_cons]
  match t with
  | 0=>rfl
  | 1=>rfl
  | t+2 =>
   have ih:=b4V d t (by rw [List.length_cons] at h;omega)
   rw [show(t+2)/2=t/2+1 by omega,show(t+2) % 2=t % 2 by omega]
   exact ih
theorem b2f (d:Array SpD):flatK a2F 2 d=(d.toList.flatMap a2F).toArray:=by
 refine ext_get! (by rw [size_flatK];simp only [List.size_toArray];rw [b0t];simp) fun t ht => ?_
 rw [size_flatK] at ht
 rw [get_flatK _ _ _ _ ht]
 have h:=b4V d.toList t (by simpa using ht)
 simpa [Array.getElem!_eq_getD,Array.getD_eq_getD_getElem?] using h.symm
theorem c0Q (F:List Value) (xs sp:List Value) (h:F.length=xs.length):putCells id 0 F.toArray (xs++sp).toArray=(F++sp).toArray:=by
 apply Array.ext_getElem?
 intro k
 simp only [putCells,Array.getElem?_mapIdx,List.getElem?_toArray,List.size_toArray,Nat.sub_zero,Nat.zero_add]
 by_cases hk:k < F.length
 ·rw [List.getElem?_append_left (by omega),List.getElem?_append_left hk,List.getElem?_eq_getElem (show k < xs.length by omega),List.getElem?_eq_getElem hk]
  simp [hk]
 ·rw [List.getElem?_append_right (by omega),List.getElem?_append_right (by omega),h]
  simp [show ¬k < xs.length by omega]
theorem c1r:b4P:=fun w l h0 hl hn I L vs hG hvs hL=>by
 obtain⟨v1,r1,rfl,rfl,v2,r2,rfl,⟨_,rfl,rfl⟩,rfl⟩:=hvs
 obtain⟨X,R,rfl,⟨xs,hO,hx⟩,rfl⟩:=hL
 rcases hO with ⟨_,h,_⟩|⟨b,c,sp,q,rfl,rfl,h1,h2,h3,h4,h5⟩
 ·omega
 have hl2:∀ s∈l,0≤s.p3∧s.p3 < 1440:=fun s hs=>by have:=hl s hs;omega
 obtain⟨d,hd⟩:∃ d,d=toD l hl2:=⟨_,rfl⟩
 have hdv:d.map Subtype.val=l:=by rw [hd];exact c0P hl2
 have hdl:d.length=l.length:=by rw [←hdv];simp
 rw [←hdv] at hx
 have hxs:=b4T hx
 refine⟨⟨_,func86,by kernel_rfl,by kernel_rfl⟩,fun W hm => ?_⟩
 have hb:W.heap[b]?=some (.cells (xs++sp).toArray 89 q):=hm.loc (b,_) (by simp)
 have hbs:=C6 hb
 have hcon:=AnyQ.slices_SortFunc c0O 2 (a0G underlying89 rfl) (a0H (by kernel_rfl)) a2F (fun _=>rfl) (fun x v hv=>by simp [a2F] at hv;rcases hv with rfl|rfl<;>rfl) b6f c4W 87 #[] b 0 c d.toArray W
  (enters_of func87 (by kernel_rfl) rfl) (fun _ _ _ _ x y=>b8O x y _) (by
   intro j hj
   rw [b2f] at hj ⊢
   have hj:j < xs.length:=by rw [hxs];simpa using hj
   rw [show d.toArray.toList=d from rfl,←hxs]
   constructor
   ·unfold World.cell?;rw [hb];simp [hj,List.getElem?_append_left]
   ·unfold World.frozen?;rw [hb]
    rcases h5 with rfl|rfl
    ·simp
    ·simp only [List.length_append];simp;omega) hbs (by simp;omega)
 rw [show d.toArray.size=l.length by simp [hdl]] at hcon
 refine hcon.mono ?_
 rintro e w' ⟨rfl,d',n,os,hp,hs,rfl⟩
 have hsz:d'.size=l.length:=by rw [hp.1];simp [hdl]
 have hperm:d'.toList.Perm d:=by
  have:=hp.2.2
  rw [show l.length=d'.size from hsz.symm,Array.extract_size,show d'.size=d.toArray.size by rw [hsz];simp [hdl],Array.extract_size] at this
  exact this
 have hle:(d'.toList.flatMap a2F).length=xs.length:=by rw [b0t,h1];simp [hsz];rfl
 have hw:(sortWorldK a2F 2 W b 0 n d' os).heap[b]?=some (.cells (d'.toList.flatMap a2F++sp).toArray 89 q):=by
  show((W.heap.modify b (onCells (putCells id 0 (flatK a2F 2 d'))))++os)[b]?=_
  rw [Array.getElem?_append_left (by simpa using hbs),Array.getElem?_modify,if_pos rfl,hb,b2f]
  show some (Obj.cells _ _ _)=_
  rw [c0Q _ _ _ hle]
 have hwo:∀ k,k < W.heap.size→k≠b→(sortWorldK a2F 2 W b 0 n d' os).heap[k]?=W.heap[k]?:=fun k hk hne=>by
  show((W.heap.modify b (onCells (putCells id 0 (flatK a2F 2 d'))))++os)[k]?=_
  rw [Array.getElem?_append_left (by simpa using hk),Array.getElem?_modify,if_neg (Ne.symm hne)]
 have hIb:I b=none:=hm.sep (b,.cells (xs++sp).toArray 89 q) (by simp)
 refine⟨_,I,[[(b,.cells (d'.toList.flatMap a2F++sp).toArray 89 q)]],rfl,⟨rfl,rfl,rfl,?_,fun k hk hne=>hwo k hk (by simpa using hne)⟩,Le.refl _,fun k h0 h1=>absurd h0 h1,⟨fun k o ho => ?_,?_,?_,by simp⟩,?_,?_⟩
 ·show W.heap.size≤((W.heap.modify b _)++os).size
  simp
 ·have hk:=hm.im k o ho
  rw [hwo k (C6 hk) (fun e=>by rw [e,hIb] at ho;cases ho)];exact hk
 ·intro p hp;simp at hp;rw [hp];exact hw
 ·intro p hp;simp at hp;rw [hp];exact hIb
 ·intro p hp;simp at hp;rw [hp];exact .inr (by simp)
 ·refine⟨.any,[.own 89 (slc b 0 l.length c) (d'.toList.map Subtype.val)],trivial,⟨_,[],rfl,⟨d'.toList.flatMap a2F,.inr ⟨b,c,sp,q,by simp [hsz],rfl,by rw [hle,h1];simp [hsz],by rw [List.length_append,hle,←List.length_append];exact h2,by simp [hsz,h3],h4,?_⟩,b4U fun x hx => ?_⟩,rfl⟩,d'.toList.map Subtype.val,fun s => ?_,by simp [hsz],?_,rfl⟩
  ·rw [List.length_append,hle,←List.length_append];exact h5
  ·have:=hl x.1 (by rw [←hdv];exact List.mem_map_of_mem (hperm.mem_iff.1 hx));omega
  ·rw [←hdv];exact(hperm.map Subtype.val).mem_iff
  ·rw [List.pairwise_map,List.pairwise_iff_getElem]
   intro i j hi hj hij
   have hi:i < d'.size:=by simpa using hi
   have hj:j < d'.size:=by simpa using hj
   have h:=hs i j (Nat.zero_le _) hij (by omega)
   rw [getElem!_pos d' i hi,getElem!_pos d' j hj,ltD,decide_eq_false_iff_not] at h
   simp only [Array.getElem_toList];omega
theorem c2K (a:Au) (h:a1m a):p6 gl prog 22 [.v a] (fun r=>r = .v (I5 a)):=b8M c1r a h
abbrev b2g (l:List Pred):Au:=I5 (T3 l)
theorem b0u (l:List Pred) (hl:l.length≤64) (hp:∀ p∈l,y8 p=true):p6 gl prog 8 [.v l] (fun r=>r = .t2 (.v (b2g l)) (.v (0:Int))):=c4T (b8K c1r) c2K l hl hp
theorem a7n (l:List Pred) (c:Cx) (hp:∀ p∈l,y8 p=true):p6 gl prog 10 [.v (b2g l),.v c] (fun r=>r = .v (M7 (b2g l) c)):=by
 rcases c1p hp with ⟨h1,_⟩|⟨h1,_,h3,h4,_⟩
 ·exact a8e _ _ (b4O c2K _ (.inl h1)) fun h=>by have h:(I5 (T3 l)).a2x=false:=h;rw [h1] at h;exact absurd h (by decide)
 ·exact a8e _ _ (b4O c2K _ (.inr ⟨h1,h3,h4⟩)) fun _=>h1.Y2
theorem b2h (l:List Pred) (c:Cx) (hp:∀ p∈l,y8 p=true):M7 (b2g l) c=(U7 c&&l.all fun p=>M3 p c):=by
 show M7 (I5 (T3 l)) c=_
 rw [Bool.eq_iff_iff,Bool.and_eq_true,List.all_eq_true]
 rcases c1p hp with ⟨h1,h2⟩|⟨h1,_,h3,h4,h5⟩
 ·rw [h1]
  constructor
  ·intro h;exact Bool.noConfusion (show false=true from h)
  ·rintro⟨hc,h⟩
   obtain⟨p,hq,h6⟩:=h2 c hc
   rw [h p hq] at h6;cases h6
 ·rw [b0q h1.Y2 h1.some]
  exact⟨fun ⟨a,b⟩=>⟨a,(h5 c a).1 b⟩,fun ⟨a,b⟩=>⟨a,(h5 c a).2 b⟩⟩
def inN (b:Z7) (c:Cx) (n:Nat):Bool:=M7 (b2g (P5 b.l9)) c&&(b.j3.take n).all fun d=>M7 (b2g d.j9) c
theorem a8g {b:Z7} {c:Cx} (hb:a5O b) (he:M1 b=0) (hf:∀ p∈P5 b.l9,y8 p=true):decide (a61 b c=0)=inN b c b.j3.length:=by
 unfold inN a61
 rw [if_neg (by rw [he];decide),List.take_length,b2h _ _ hf,show(b.j3.all fun d=>M7 (b2g d.j9) c)=b.j3.all fun d=>U7 c&&d.j9.all fun p=>M3 p c from by rw [Bool.eq_iff_iff,List.all_eq_true,List.all_eq_true];exact forall₂_congr fun d hd=>by rw [b2h _ _ (hb.con d hd)]]
 cases hc:U7 c<;>cases h1:(P5 b.l9).all fun p=>M3 p c
 ·rfl
 ·rfl
 ·rfl
 ·simp only [Bool.true_and]
  cases h2:b.j3.all fun d=>d.j9.all fun p=>M3 p c<;>rfl
theorem b2i {b:Z7} {c:Cx} {i:Nat} (h:i < b.j3.length):inN b c (i+1)=(inN b c i&&M7 (b2g b.j3[i].j9) c):=by
 unfold inN;rw [List.take_succ_eq_append_getElem h,List.all_append,Bool.and_assoc];simp
theorem c0x.bun {s:Scn} {b:Z7} (h:c0x s b):a5O b∧M1 b=0:=by
 obtain⟨root,T,t,n,k,hp,h1,h2,h3,h4,rfl⟩:=h.ex
 have hc:=b0k hp.sc (by omega) hp.rq t (bnd s.A s.Pass.Tag s.Request) fun g=>⟨rfl,rfl⟩
 exact⟨b5H hc,hc⟩
theorem b6g {b:Z7} (h:a5O b):∀ p∈P5 b.l9,y8 p=true:=fun p hp=>by
 unfold P5 at hp
 obtain⟨c,hc,rfl⟩:=List.mem_map.1 hp
 obtain⟨hc,ht⟩:=List.mem_filter.1 hc
 have:=h.cav c hc
 unfold H6 at this
 simp_all
theorem a5U (deck other:List Int):p6 gl prog 3 [.v deck,.v other] (fun r=>r = .v true):=by
 refine p6.jn func3 (by kernel_rfl) 84 rfl fun C hC hG => ?_
 refine .q 7 hG ?_
 refine .k0 hG (c2D _ _) fun r18 Hs18 hr18 => ?_
 obtain⟨s18,b18,p18,d18,⟨hm18,hd18⟩,rfl,rfl⟩:=hr18
 show D1 _ _ _ _ _ _ _ ((true,_)::_)
 refine .q 5 hG fun b5 => ?_
 refine .q 1 hG fun b6 => ?_
 refine .q 5 hG ?_
 refine .C1 hC .z (.O9 6 a8 .z (.C1 hC .z1 (.O9 5 a8 .z1 ?_)))
 obtain⟨hbo,hbe⟩:=hm18.bun
 have hpf:=b6g hbo
 have hlf:=V7 b18.l9
 have hnc:=hbo.a5k
 have hnd:=hbo.c2l
 refine .q 2 hG ?_
 refine .k0 hG (a8M _) fun r23 Hs23 hr23 => ?_
 obtain⟨b23,rfl,rfl⟩:=hr23
 show D1 _ _ _ _ _ _ _ ((true,_)::_)
 refine .q 5 hG ?_
 refine .km hG (a8b _ _ (by first|assumption|exact y3 _)) .z (by rintro _ _ ⟨_,_,_,_,rfl⟩;exact⟨_,rfl⟩) fun r25 B25 hr25 => ?_
 obtain⟨c25,d25,hd25,rfl,hB⟩:=hr25
 cases hB
 refine .q 1 hG fun b9 => ?_
 refine .q 6 hG ?_
 refine .km hG (F6 _ _ _ (by first|assumption|exact y3 _) (by first|omega|(simp;done)|(simp;omega)|(simp at *;omega)) (by first|omega|(simp;done)|(simp;omega)|(simp at *;omega))) .z1 (by rintro _ _ ⟨_,_,_,_,_,_,rfl⟩;exact⟨_,rfl⟩) fun r27 B27 hr27 => ?_
 obtain⟨v27,d27,h027,h127,hd27,rfl,hB⟩:=hr27
 cases hB
 refine .q 3 hG ⟨fun hc28 => ?_,fun hc28 => ?_⟩
 ·refine .q 2 hG ?_
  refine .km hG (F6 _ _ _ (by first|assumption|exact y3 _) (by first|omega|(simp;done)|(simp;omega)|(simp at *;omega)) (by first|omega|(simp;done)|(simp;omega)|(simp at *;omega))) .z1 (by rintro _ _ ⟨_,_,_,_,_,_,rfl⟩;exact⟨_,rfl⟩) fun r30 B30 hr30 => ?_
  obtain⟨v30,d30,h030,h130,hd30,rfl,hB⟩:=hr30
  cases hB
  refine .q 1 hG ?_
  refine .km hG (F6 _ _ _ (by first|assumption|exact y3 _) (by first|omega|(simp;done)|(simp;omega)|(simp at *;omega)) (by first|omega|(simp;done)|(simp;omega)|(simp at *;omega))) .z1 (by rintro _ _ ⟨_,_,_,_,_,_,rfl⟩;exact⟨_,rfl⟩) fun r32 B32 hr32 => ?_
  obtain⟨v32,d32,h032,h132,hd32,rfl,hB⟩:=hr32
  cases hB
  refine .q 1 hG ?_
  refine .km hG (F6 _ _ _ (by first|assumption|exact y3 _) (by first|omega|(simp;done)|(simp;omega)|(simp at *;omega)) (by first|omega|(simp;done)|(simp;omega)|(simp at *;omega))) .z1 (by rintro _ _ ⟨_,_,_,_,_,_,rfl⟩;exact⟨_,rfl⟩) fun r34 B34 hr34 => ?_
  obtain⟨v34,d34,h034,h134,hd34,rfl,hB⟩:=hr34
  cases hB
  refine .p (.bS4 x7.l0 x7.l1 x7.l2 x7.l3 a8 a9U c22 (fun c0 c1 c2 c3=>(⟨c0,c1,c2,c3⟩:x7)) (fun _ _ _ _=>a8) a8 a8 a8 a8 a8 (.t a8) (.t a8) (.t a8) (.s [97,110,110] (by decide) (by decide)) ?_)
  refine .q 3 hG ?_
  generalize (⟨v30,v32,v34,⟨[97,110,110]⟩⟩:Cx)=c
  refine .q 3 hG ?_
  refine .k hG (a6u _ (by omega)) ?_
  refine .k hG (b0u _ (by omega) (by assumption)) ?_
  refine .q 4 hG fun b10 => ?_
  refine .q 7 hG ?_
  refine .p (.p8 hG (a7n _ _ (by assumption)) (.cons (.t a8) (.cons (.t a8) .nil)) ?_)
  refine .q 8 hG ?_
  refine .E1 (α:=Nat) [(6,_),(9,_),(11,_)] (fun i R=>(12,.v (inN b18 c i))::(13,.v (i:Int))::R) (Function.const _ _) (fun i=>i≤b18.j3.length) (fun i=>b18.j3.length - i) (0) (.c2 a8 a8 (.cons a8 (.nil _))) ?_ (.cons (congrArg (fun q=>some (AV.v q)) (by unfold inN;simp)) (.c2 a8 a8 (.c2 a8 a8 (.nil _)))) (a8) fun i hF => ?_
  ·simp
  refine .q 10 hG ⟨fun hc50 => ?_,fun hc50 => ?_⟩
  ·refine .q 8 hG ?_
   refine .ix (by first|omega|(simp;done)|(simp;omega)|(simp at *;omega)) (by first|omega|(simp;done)|(simp;omega)|(simp at *;omega)) ?_
   refine .q 2 hG ?_
   refine .p (.p8 hG (b0u _ (Nat.le_trans (hbo.a6t _ (List.getElem_mem _)) (by decide)) (hbo.con _ (List.getElem_mem _))) (.cons (.t a8) .nil) ?_)
   refine .q 4 hG fun b14 => ?_
   refine .q 9 hG ?_
   refine .cond (.t a8) (fun hc64=>(by exfalso;exact absurd hc64 (by decide))) (fun hc64 => ?_)
   refine .q 2 hG ?_
   refine .mv a8 (.mv a8 (.go 66 a8 (.t a8) (fun hg67 => .Q6 R5 (.t a8) .z a8) (.go 66 a8 (.t a8) (fun hg68 => .Q6 a9U (.t a8) .z2 a8) (.go 66 a8 (.t a8) (fun hg69 => .p8 hG (a7n _ _ (hbo.con _ (List.getElem_mem _))) (.cons (.q a8 hg69) (.cons (.q a8 hg69) .nil)) a8) ?_))))
   refine .q 2 hG ?_
   refine .drop ?_
   refine .q 3 hG ?_
   refine .ad (by first|omega|(simp;done)|(simp;omega)|(simp at *;omega)) (by first|omega|(simp;done)|(simp;omega)|(simp at *;omega)) ?_
   refine .q 2 hG ?_
   refine⟨i+1,.cons (congrArg (fun q=>some (AV.v q)) (b2i (by omega)).symm) (.c2 rfl rfl (.c2 rfl rfl (.nil _))),rfl,?_,by omega⟩
   omega
  ·refine .q 3 hG ?_
   refine .mv a8 (.p (.a9p (.t a8) (.i a8) (.mv a8 (.go 73 a8 (.t a8) (fun hg74 => .G8 a5H (.t a8) a8) (.go 73 a8 (.t a8) (fun hg75 => .Q6 a9U (.t a8) .z1 a8) (.go 73 a8 (.t a8) (fun hg76 => .p8 hG (a9a _ _ (by omega)) (.cons (.q a8 hg76) (.cons (.q a8 hg76) .nil)) a8) ?_))))))
   refine .q 2 hG ?_
   refine .go 73 a8 (.t a8) (fun hg79 => .b7c underlying4 (.q a8 hg79) (.q a8 hg79) a8) ?_
   refine .q 2 hG ?_
   refine .kg hG (a89) ?_
   refine .q 2 hG ?_
   rw [show i=b18.j3.length by omega,←a8g hbo hbe hpf]
   refine .q 2 hG ?_
   refine .e1 a8 a8 ?_
   exact congrArg AV.v (by simp)
 ·refine .q 2 hG ?_
  generalize c25=c
  refine .q 3 hG ?_
  refine .k hG (a6u _ (by omega)) ?_
  refine .k hG (b0u _ (by omega) (by assumption)) ?_
  refine .q 4 hG fun b10 => ?_
  refine .q 7 hG ?_
  refine .p (.p8 hG (a7n _ _ (by assumption)) (.cons (.t a8) (.cons (.t a8) .nil)) ?_)
  refine .q 8 hG ?_
  refine .E1 (α:=Nat) [(6,_),(9,_),(11,_)] (fun i R=>(12,.v (inN b18 c i))::(13,.v (i:Int))::R) (Function.const _ _) (fun i=>i≤b18.j3.length) (fun i=>b18.j3.length - i) (0) (.c2 a8 a8 (.cons a8 (.nil _))) ?_ (.cons (congrArg (fun q=>some (AV.v q)) (by unfold inN;simp)) (.c2 a8 a8 (.c2 a8 a8 (.nil _)))) (a8) fun i hF => ?_
  ·simp
  refine .q 10 hG ⟨fun hc50 => ?_,fun hc50 => ?_⟩
  ·refine .q 8 hG ?_
   refine .ix (by first|omega|(simp;done)|(simp;omega)|(simp at *;omega)) (by first|omega|(simp;done)|(simp;omega)|(simp at *;omega)) ?_
   refine .q 2 hG ?_
   refine .p (.p8 hG (b0u _ (Nat.le_trans (hbo.a6t _ (List.getElem_mem _)) (by decide)) (hbo.con _ (List.getElem_mem _))) (.cons (.t a8) .nil) ?_)
   refine .q 4 hG fun b14 => ?_
   refine .q 9 hG ?_
   refine .cond (.t a8) (fun hc64=>(by exfalso;exact absurd hc64 (by decide))) (fun hc64 => ?_)
   refine .q 2 hG ?_
   refine .mv a8 (.mv a8 (.go 66 a8 (.t a8) (fun hg67 => .Q6 R5 (.t a8) .z a8) (.go 66 a8 (.t a8) (fun hg68 => .Q6 a9U (.t a8) .z2 a8) (.go 66 a8 (.t a8) (fun hg69 => .p8 hG (a7n _ _ (hbo.con _ (List.getElem_mem _))) (.cons (.q a8 hg69) (.cons (.q a8 hg69) .nil)) a8) ?_))))
   refine .q 2 hG ?_
   refine .drop ?_
   refine .q 3 hG ?_
   refine .ad (by first|omega|(simp;done)|(simp;omega)|(simp at *;omega)) (by first|omega|(simp;done)|(simp;omega)|(simp at *;omega)) ?_
   refine .q 2 hG ?_
   refine⟨i+1,.cons (congrArg (fun q=>some (AV.v q)) (b2i (by omega)).symm) (.c2 rfl rfl (.c2 rfl rfl (.nil _))),rfl,?_,by omega⟩
   omega
  ·refine .q 3 hG ?_
   refine .mv a8 (.p (.a9p (.t a8) (.i a8) (.mv a8 (.go 73 a8 (.t a8) (fun hg74 => .G8 a5H (.t a8) a8) (.go 73 a8 (.t a8) (fun hg75 => .Q6 a9U (.t a8) .z1 a8) (.go 73 a8 (.t a8) (fun hg76 => .p8 hG (a9a _ _ (by omega)) (.cons (.q a8 hg76) (.cons (.q a8 hg76) .nil)) a8) ?_))))))
   refine .q 2 hG ?_
   refine .go 73 a8 (.t a8) (fun hg79 => .b7c underlying4 (.q a8 hg79) (.q a8 hg79) a8) ?_
   refine .q 2 hG ?_
   refine .kg hG (a89) ?_
   refine .q 2 hG ?_
   rw [show i=b18.j3.length by omega,←a8g hbo hbe hpf]
   refine .q 2 hG ?_
   refine .e1 a8 a8 ?_
   exact congrArg AV.v (by simp)
end Go.Proofs.YtalibdhdngbbcaaGreatDoor
namespace Go.Fl
open Go.ChangeShapes Go.WideShapes Go.ChangeAt Go.RowKit
def a8h (W:World):Im:=fun b=>W.heap[b]?
theorem b8P (W:World):Mem (a8h W) [] W:=⟨fun b o h=>h,by simp,by simp,by simp⟩
theorem Fun.calls {P : Program} {f : FuncId} {args : Array Value} {W : World} {r : Value} (h : Fun P f args (a8h W) (fun v _ => v = r)) :
    Calls P f args W (fun e W'=>e = .returned r∧Below W.heap.size W W') :=
  (h.run W (b8P W)).mono fun e w' ⟨v,J,he,hc,_,_,_,hv⟩=>⟨by rw [he,hv],⟨hc.os,hc.tape,hc.output,hc.size,fun k hk=>hc.block k hk (by simp)⟩⟩
theorem a0Y {W:World} {x:Addr} {v:Value} (h:W.cell? x=some v):x.spot=none∧∃ cs e fr,W.heap[x.block]?=some (.cells cs e fr)∧cs[x.off]?=some v:=by
 unfold World.cell? at h
 split at h
 ·rename_i c e fr heq
  split at h
  ·cases h
  ·rename_i hs
   exact⟨by simpa using hs,c,e,fr,heq,h⟩
 ·cases h
theorem b3Q {P : Program} {W : World} {n : String} {d : DataW Unit} {l : List UInt32} {g : Nat} {T E : TypeId} (hg : P.globalNamed n = some g) (ht : (P.globals[g]?).map (·.type) = some T) (hT : P.underlying T = some (.array l.length E))
    (hE:P.underlying E=some (.int .u32)) (hone:P.cellsOf E=1) (hl:0 < l.length) (hd:d = .agg (l.map fun k => .lit (.int .u32 (k.toNat:Int)))) (h:laidMet P [(n,d)] W):Cells (a8h W) g 0 (l.map u32):=by
  obtain⟨ps,⟨g2,t,cs,fuel,p,q,hg2,ht2,hvar,htr,_,_⟩,_⟩:=h
  obtain rfl:=Option.some.inj (hg.symm.trans hg2)
  obtain rfl:=Option.some.inj (ht.symm.trans ht2)
  obtain⟨xs,m,_,hx,hlen,hxl,hel⟩:=DataW.trod_array hT htr
  have hxd:xs.map (·.1)=l.map fun k=>DataW.lit (.int .u32 (k.toNat:Int)):=by
    have:=(Prod.mk.inj hx).1
    rw [hd] at this
    injection this with h2
    exact h2.symm
  have hcell:∀ (i:Nat) (v:Value),(l.map u32)[i]?=some v→cs[i]?=some v:=by
    intro i v hv
    have hi:i < l.length:=by simpa using (List.getElem?_eq_some_iff.1 hv).1
    have h1:=hel i hi
    rw [hone] at h1
    have hxi:xs[i]?=some (xs[i]'(by omega)):=List.getElem?_eq_getElem (by omega)
    rw [hxi] at h1
    obtain⟨k,hk1,hk2,_⟩:=DataW.trod_int hE h1
    have hfst:(xs.map (·.1))[i]?=some (DataW.lit (.int .u32 k)):=by rw [List.getElem?_map,hxi,Option.map_some,hk2]
    rw [hxd,List.getElem?_map,List.getElem?_eq_getElem hi] at hfst
    simp at hfst
    have hci:cs.toList[i]?=some (.int .u32 k):=by
      have:((cs.toList.drop (i*1)).take 1)[0]?=some (.int .u32 k):=by rw [hk1];rfl
      simpa [List.getElem?_take,List.getElem?_drop] using this
    rw [List.getElem?_map,List.getElem?_eq_getElem hi,Option.map_some] at hv
    have hv:=Option.some.inj hv
    rw [←hv,u32,hfst]
    simpa using hci
  have h0:∃ v,(l.map u32)[0]?=some v:=⟨_,List.getElem?_eq_getElem (by simpa using hl)⟩
  obtain⟨v0,hv0⟩:=h0
  have hc0:=World.var?_cell hg hvar 0
  rw [hcell 0 v0 hv0] at hc0
  obtain⟨_,cs2,e,fr,hob,_⟩:=a0Y hc0
  refine⟨cs2,e,fr,hob,fun i v hv => ?_⟩
  have h3:=World.var?_cell hg hvar i
  rw [hcell i v hv] at h3
  obtain⟨_,cs3,e3,fr3,hob3,hv3⟩:=a0Y h3
  have:Obj.cells cs2 e fr=Obj.cells cs3 e3 fr3:=Option.some.inj (hob.symm.trans hob3)
  cases this
  simpa using hv3
end Go.Fl
namespace Go.Ab
open Go.Fl Go.RowKit Go.ChangeShapes Go.WideShapes Go.ChangeAt
open p2 (rep)
def a5V (P:Program) (T:TypeId) (α:Type) [p2 α]:Prop:=P.cellsOf T=p2.size α ∧
 ∀ (H:Type) (enc:TypeId×Value→H) (W:World) (base:Nat) (spare:Nat→Bool) (held:Bool) (fuel:Nat) (cs:List Value) (x:DataW H×List MemPlace),DataW.trod enc P W base spare held fuel T cs=some x→∃ a:α,rep (a8h W) a cs
variable {P:Program} {T E:TypeId}
theorem a5V.i64 (hT:P.underlying T=some (.int .i64)) (hc:P.cellsOf T=1):a5V P T Int:=⟨hc,fun H enc W base spare held fuel cs x h=>by
 obtain⟨n,rfl,_,hw⟩:=DataW.trod_int hT h
 simp [Lit.wf,IntKind.min,IntKind.max,IntKind.signed,IntKind.bits] at hw
 exact⟨n,rfl,by omega,by omega⟩⟩
theorem add_add (a:Addr) (i j:Nat):(a.add i).add j=a.add (i+j):=by
 unfold Addr.add
 rcases a with ⟨b,o,_|s⟩<;>by_cases hi:i=0<;>by_cases hj:j=0<;>simp [hi,hj,Nat.add_assoc]
theorem a5V.slice {α:Type} {r:p2 α} (hT:P.underlying T=some (.slice E)) (hc:P.cellsOf T=1) (hE:a5V P E α) (hp:0 < p2.size α):a5V P T (List α):=⟨hc,fun H enc W base spare held fuel cs x h=>by
 rcases DataW.trod_slice hT h with ⟨rfl,_⟩|⟨a,len,cap,elems,rest,n,_,rfl,_,hb,hl,hm,hel,hget,_⟩
 ·exact⟨[],_,a8,[],Sl.nil _ _,a8⟩
 ·have key:∀ k,k≤len→∃ (l:List α) (xs:List Value),l.length=k∧K4 (a8h W) l xs∧∀ i v,xs[i]?=some v→W.cell? (a.add i)=some v:=by
   intro k
   induction k with
   | zero=>exact fun _=>⟨[],[],rfl,rfl,fun i v hv=>by simp at hv⟩
   | succ k ih =>
    intro hk
    obtain⟨l,xs,h1,h2,h3⟩:=ih (by omega)
    have hg:=hget k (by omega)
    rw [List.getElem?_eq_getElem (by omega)] at hg
    obtain⟨c,hc1,hc2⟩:=Option.bind_eq_some_iff.1 hg
    obtain⟨_,hcl,hcell⟩:=World.cells?_some hc1
    obtain⟨y,hy⟩:=hE.2 H enc W base spare held n c _ hc2
    refine⟨l ++ [y],xs++c,by simp [h1],h2.append (.one hy),fun i v hv => ?_⟩
    have hxl:xs.length=k*p2.size α:=by rw [h2.len,h1]
    by_cases hi:i < xs.length
    ·rw [List.getElem?_append_left hi] at hv;exact h3 i v hv
    ·rw [List.getElem?_append_right (by omega)] at hv
     have hj:=(List.getElem?_eq_some_iff.1 hv).1
     have:=hcell (i - xs.length) (by omega)
     rw [hv,hE.1,add_add,←hxl,show xs.length+(i - xs.length)=i by omega] at this
     exact this
  obtain⟨l,xs,h1,h2,h3⟩:=key len (Nat.le_refl _)
  have hxl:=h2.len
  refine⟨l,_,rfl,xs,⟨_,_,by rw [h1],h2.len,by omega,hm,(fun h=>by cases h),fun hne => ?_⟩,h2⟩
  rcases a with ⟨ab,ao,ags⟩
  obtain⟨v0,hv0⟩:∃ v,xs[0]?=some v:=⟨_,List.getElem?_eq_getElem (List.length_pos_iff.2 hne)⟩
  have hc0:=h3 0 v0 hv0
  obtain⟨hsp,cs,e,fr,hob,_⟩:=a0Y hc0
  have hsp2:ags=none:=by
   cases ags with
   | none=>rfl
   | some q =>
    unfold Addr.add at hsp
    simp at hsp
  subst hsp2
  rw [Addr.add_plain] at hob
  have hob:W.heap[ab]?=some (Obj.cells cs e fr):=hob
  refine⟨ab,ao,a8,cs,e,fr,hob,fun i v hv => ?_⟩
  have hcv:=h3 i v hv
  rw [Addr.add_plain] at hcv
  obtain⟨_,cs2,e2,fr2,hob2,hv2⟩:=a0Y hcv
  have:Obj.cells cs e fr=Obj.cells cs2 e2 fr2:=Option.some.inj (hob.symm.trans hob2)
  cases this
  exact hv2⟩
theorem a5V.val {α : Type} {r : p2 α} (h : a5V P T α) {H : Type} {enc : TypeId × Value → H} {W : World} {base : Nat} {spare : Nat → Bool} {held : Bool} {v : Value} {d : DataW H} {p : List MemPlace} (ht : DataW.Trod enc P W base spare held T v d p)
    (hv:∀ cs:List Value,v.cells.toList=cs→v=asV (p2.agg α) cs):∃ a:α,F8 (a8h W) (.v a) v:=by
  obtain⟨fuel,hf⟩:=ht
  obtain⟨a,ha⟩:=h.2 H enc W base spare held fuel _ _ hf
  exact⟨a,_,ha,hv _ a8⟩
theorem p6.calls {G : Gl} {f : FuncId} {ags : List AV} {vs : List Value} {W : World} (h : p6 G P f ags (fun r => r = .v true)) (hG : G.p (a8h W)) (hv : a0c (a8h W) ags vs) :
    Calls P f vs.toArray W (fun e W'=>e = .returned (.bool true)∧Below W.heap.size W W') :=
  Fun.calls ((h (a8h W) vs hG hv).mono fun v J _ ⟨r,h1,h2⟩=>by
    subst h2
    obtain⟨cs,rfl,rfl⟩:=h1
    rfl)
theorem b2j {v:Value} (h:v.cells = #[v]):∀ cs:List Value,v.cells.toList=cs→v=asV false cs:=fun cs hc=>by
 rw [h] at hc;subst hc;rfl
end Go.Ab
namespace Go.Fl
open Go.RowKit
theorem b6h {P : Program} {W : World} {n : String} {d : DataW Unit} {l : List Int} {g : Nat} {T E : TypeId} (hg : P.globalNamed n = some g) (ht : (P.globals[g]?).map (·.type) = some T) (hT : P.underlying T = some (.array l.length E))
    (hE:P.underlying E=some (.int .i64)) (hone:P.cellsOf E=1) (hl:0 < l.length) (hd:d = .agg (l.map fun k => .lit (.int .i64 k))) (h:laidMet P [(n,d)] W):Cells (a8h W) g 0 (l.map i64):=by
  obtain⟨ps,⟨g2,t,cs,fuel,p,q,hg2,ht2,hvar,htr,_,_⟩,_⟩:=h
  obtain rfl:=Option.some.inj (hg.symm.trans hg2)
  obtain rfl:=Option.some.inj (ht.symm.trans ht2)
  obtain⟨xs,m,_,hx,hlen,hxl,hel⟩:=DataW.trod_array hT htr
  have hxd:xs.map (·.1)=l.map fun k=>DataW.lit (.int .i64 k):=by
    have:=(Prod.mk.inj hx).1
    rw [hd] at this
    injection this with h2
    exact h2.symm
  have hcell:∀ (i:Nat) (v:Value),(l.map i64)[i]?=some v→cs[i]?=some v:=by
    intro i v hv
    have hi:i < l.length:=by simpa using (List.getElem?_eq_some_iff.1 hv).1
    have h1:=hel i hi
    rw [hone] at h1
    have hxi:xs[i]?=some (xs[i]'(by omega)):=List.getElem?_eq_getElem (by omega)
    rw [hxi] at h1
    obtain⟨k,hk1,hk2,_⟩:=DataW.trod_int hE h1
    have hfst:(xs.map (·.1))[i]?=some (DataW.lit (.int .i64 k)):=by rw [List.getElem?_map,hxi,Option.map_some,hk2]
    rw [hxd,List.getElem?_map,List.getElem?_eq_getElem hi] at hfst
    simp at hfst
    have hci:cs.toList[i]?=some (.int .i64 k):=by
      have:((cs.toList.drop (i*1)).take 1)[0]?=some (.int .i64 k):=by rw [hk1];rfl
      simpa [List.getElem?_take,List.getElem?_drop] using this
    rw [List.getElem?_map,List.getElem?_eq_getElem hi,Option.map_some] at hv
    have hv:=Option.some.inj hv
    rw [←hv,i64,hfst]
    simpa using hci
  have h0:∃ v,(l.map i64)[0]?=some v:=⟨_,List.getElem?_eq_getElem (by simpa using hl)⟩
  obtain⟨v0,hv0⟩:=h0
  have hc0:=World.var?_cell hg hvar 0
  rw [hcell 0 v0 hv0] at hc0
  obtain⟨_,cs2,e,fr,hob,_⟩:=a0Y hc0
  refine⟨cs2,e,fr,hob,fun i v hv => ?_⟩
  have h3:=World.var?_cell hg hvar i
  rw [hcell i v hv] at h3
  obtain⟨_,cs3,e3,fr3,hob3,hv3⟩:=a0Y h3
  have:Obj.cells cs2 e fr=Obj.cells cs3 e3 fr3:=Option.some.inj (hob.symm.trans hob3)
  cases this
  simpa using hv3
end Go.Fl
namespace Go.Proofs.YtalibdhdngbbcaaGreatDoor
open Go.Proofs.Tryz
open Go.Fl Go.Ab Go.Mac Go.Sha
open Go.ChangeShapes Go.WideShapes Go.ChangeAt Go.RowKit
theorem c4Y:ownKnob prog.godebug=none:=by kernel_rfl
theorem b2k:laidOutB prog=true:=by kernel_rfl
noncomputable def b8Q (os:Os):World :=
  let w0:=World.holding prog os ⟨#[],#[],[]⟩
  { w0 with heap := (w0.heap.modify 1 fun
      | .cells _ t frozen => .cells (kk.map Fl.u32).toArray t frozen
      | o=>o).modify 0 fun
      | .cells _ t frozen => .cells (a5I.l.map i64).toArray t frozen
      | o=>o }
def b4W:List (String×DataW Unit) := [("macaroon/sha.k", Rows.laid_macaroon_sha_k),("macaroon/predicate.bits", Rows.laid_macaroon_predicate_bits)]
set_option maxRecDepth 100000 in
theorem c3V (os:Os) (args:Array Value):laidMet prog b4W ((b8Q os).forCall (fun _ _=>0) ⟨#[],args,[]⟩).memory :=
 laidMet_of_run' 8 (by kernel_rfl) (by kernel_rfl)
set_option maxRecDepth 100000 in
theorem c3W:b4W.filter (fun x=>x.1 == "macaroon/sha.k") = [("macaroon/sha.k", Rows.laid_macaroon_sha_k)]:=by kernel_rfl
set_option maxRecDepth 100000 in
theorem c3X:b4W.filter (fun x=>x.1 == "macaroon/predicate.bits") = [("macaroon/predicate.bits", Rows.laid_macaroon_predicate_bits)]:=by kernel_rfl
set_option maxRecDepth 100000 in
theorem c0S {W:World} (h:laidMet prog b4W W):gl.p (a8h W):=by
 have h1:=h.filter fun x=>x.1 == "macaroon/sha.k"
 have h2:=h.filter fun x=>x.1 == "macaroon/predicate.bits"
 rw [c3W] at h1
 rw [c3X] at h2
 exact⟨b3Q (l:=kk) (T:=260) (E:=238) (by kernel_rfl) (by kernel_rfl) underlying260 underlying238 (by kernel_rfl) (by decide) a8 h1,
  b6h (l:=a5I.l) (T:=130) (E:=3) (by kernel_rfl) (by kernel_rfl) underlying130 underlying3 (by kernel_rfl) (by decide) rfl h2⟩
theorem op3:a5V prog 3 Int := .i64 underlying3 (by kernel_rfl)
theorem c3Y:a5V prog 22 (List Int) := .slice underlying22 (by kernel_rfl) op3 (by decide)
end Go.Proofs.YtalibdhdngbbcaaGreatDoor
