/- Plain Lean over any program, and walks of this seat's functions: contracts, each proved once (part 7). -/
import Derived.Test.YtmmclghiidoldaaGreatDoorZ6
import Derived.ProofKit
import Derived.OpenShut
import Derived.ShutString
import Derived.ChangeOld
import Derived.Below
import Derived.LaidLaws
import Derived.Handed
import Derived.DataReads
import Derived.LaidSub
import Derived.Test.YtmmclghiidoldaaGreatDoorRows
import Derived.Test.YtmmclghiidoldaaGreatDoorTie
import Derived.Test.YtmmclghiidoldaaGreatDoorCards
import Derived.SevenTiedAt
set_option maxRecDepth 1000000
set_option synthInstance.maxSize 1000000
set_option synthInstance.maxHeartbeats 10000000
set_option linter.unusedVariables false
set_option linter.unusedSimpArgs false
namespace Go.Proofs.YtmmclghiidoldaaGreatDoor
open Go.Proofs.Tryz
open Go.Fl Go.Ab Go.Mac Go.Sha
theorem b9m {x b:O4} (h:(!decide (x=⟨b.Request,b.C7,b.y7,b.j7,b.Proof,x.j3⟩)||decide ((x.j3.length:Int)≠(b.j3.length:Int)))=true):a4X x b=false:=by
 simp only [Bool.or_eq_true,Bool.not_eq_true',decide_eq_false_iff_not,decide_eq_true_eq] at h
 unfold a4X
 rcases h with h|h
 ·rw [decide_eq_false h];simp
 ·rw [decide_eq_false (p:=x.j3.length=b.j3.length) (by omega)];simp
theorem b9n {x b:O4} (h:(!decide (x=⟨b.Request,b.C7,b.y7,b.j7,b.Proof,x.j3⟩)||decide ((x.j3.length:Int)≠(b.j3.length:Int)))=false):a4X x b=((b.j3.all fun d=>x.j3.any fun e=>decide (e=d))&&decide (K3 x=0)):=by
 simp only [Bool.or_eq_false_iff,Bool.not_eq_false',decide_eq_true_eq,decide_eq_false_iff_not] at h
 unfold a4X
 rw [decide_eq_true h.1,decide_eq_true (p:=x.j3.length=b.j3.length) (by omega)];simp
theorem c3F (x b:O4) (hl:x.j7.length≤1000000):u1 gl prog 16 [.v x,.v b] (fun r=>r = .v (a4X x b)):=by
 refine u1.jn func16 (by kernel_rfl) 59 rfl fun C hC hG => ?_
 refine .q 3 hG fun b2 => ?_
 refine .q 1 hG fun b3 => ?_
 refine .q 6 hG fun b5 => ?_
 refine .q 11 hG ?_
 refine .A8 hC .z (.O5 5 a8 .z (.A8 hC .z1 (.O5 3 a8 .z1 (.A8 hC .z2 (.O5 2 a8 .z2 (.del .z (.del .z (.del .z ?_))))))))
 refine .q 3 hG ?_
 refine .p (.o9 hG (b6W _ _) (.cons (.t a8) (.cons (.t a8) .nil)) ?_)
 refine .q 11 hG ?_
 refine .cond (.t a8) (fun hc25 => ?_) (fun hc25 => ?_)
 ·refine .q 5 hG ?_
  refine .e1 a8 a8 ?_
  rw [b9m hc25]
 ·refine .q 3 hG ?_
  rw [b9n hc25]
  refine .q 4 hG ?_
  refine .E3 (α:=Nat) [(2,_),(3,_)] (fun i R=>(6,.v (i:Int))::R) (Function.const _ _) (fun i=>i≤b.j3.length∧((b.j3.take i).all fun d=>x.j3.any fun e=>decide (e=d))=true) (fun i=>b.j3.length - i) (0) (.c2 a8 a8 (.nil _)) ?_ (.c2 a8 a8 (.cons a8 (.nil _))) (a8) fun i hF => ?_
  ·exact⟨Nat.zero_le _,a8⟩
  obtain⟨h1,h2⟩:=hF
  refine .q 10 hG ⟨fun hc30 => ?_,fun hc30 => ?_⟩
  ·refine .q 4 hG ?_
   refine .S0 28 a8 fun hl28 => ?_
   have hi:i < b.j3.length:=by omega
   refine .q 9 hG ?_
   refine .E3 (α:=Nat) [(2,_),(3,_),(6,_)] (fun k R=>(7,.v ((x.j3.take k).any fun e=>decide (e=b.j3[i])))::(8,.v (k:Int))::R) (Function.const _ _) (fun k=>k≤x.j3.length) (fun k=>x.j3.length - k) (0) (.c2 a8 a8 (.cons a8 (.nil _))) ?_ (.c2 a8 a8 (.c2 a8 a8 (.cons a8 (.nil _)))) (a8) fun k hF => ?_
   ·simp
   refine .q 10 hG ⟨fun hc37 => ?_,fun hc37 => ?_⟩
   ·refine .q 3 hG ?_
    refine .S0 35 a8 fun hl35 => ?_
    have hk:k < x.j3.length:=by omega
    refine .draw (by kernel_rfl) 15 [[],[(40,0)],[],[(42,2)],[],[(43,3),(44,4)],[(45,5)],[],[(47,7)],[],[(48,8),(49,9)],[(50,10)],[(46,6),(51,11)],[(41,1),(52,12)],[(53,13)]] a8 (by kernel_rfl) a8 ?_
    refine⟨_,j6.move (.t a8) a8,?_⟩
    refine⟨_,j6.move (.t a8) a8,?_⟩
    refine⟨_,⟨_,_,a8,a8,fun hg42=>j6.A9 p6.l5 (fun x=>x.j3) V5 a8 (fun _=>a8) (.t a8) a8⟩,?_⟩
    refine⟨_,⟨_,_,a8,a8,fun hg43=>j6.G9 b3M (.q a8 hg43) a8⟩,?_⟩
    refine⟨_,⟨_,_,a8,a8,fun hg44=>j6.move (.t a8) a8⟩,?_⟩
    refine⟨_,⟨_,_,a8,a8,fun hg45=>j6.idx Z1 underlying27 (.q a8 hg45) (.q a8 hg45) (by first|omega|(simp;omega)|(have:=hg45;simp at this;omega)) (by first|omega|(simp;omega)|(have:=hg45;simp at this;omega)) a8⟩,?_⟩
    refine⟨_,⟨_,_,a8,a8,fun hg46=>j6.G9 Z1 (.q a8 hg46) a8⟩,?_⟩
    refine⟨_,⟨_,_,a8,a8,fun hg47=>j6.A9 p6.l5 (fun x=>x.j3) V5 a8 (fun _=>a8) (.t a8) a8⟩,?_⟩
    refine⟨_,⟨_,_,a8,a8,fun hg48=>j6.G9 b3M (.q a8 hg48) a8⟩,?_⟩
    refine⟨_,⟨_,_,a8,a8,fun hg49=>j6.move (.t a8) a8⟩,?_⟩
    refine⟨_,⟨_,_,a8,a8,fun hg50=>j6.idx Z1 underlying27 (.q a8 hg50) (.q a8 hg50) (by first|omega|(simp;omega)|(have:=hg50;simp at this;omega)) (by first|omega|(simp;omega)|(have:=hg50;simp at this;omega)) a8⟩,?_⟩
    refine⟨_,⟨_,_,a8,a8,fun hg51=>j6.G9 Z1 (.q a8 hg51) a8⟩,?_⟩
    refine⟨_,⟨_,_,a8,a8,fun hg52=>j6.o9 hG (a7U _ _) (.cons (.q a8 hg52) (.cons (.q a8 hg52) .nil)) a8⟩,?_⟩
    refine⟨_,j6.a4x (.t a8) (fun hp=>(.q a8 hp)) a8,?_⟩
    refine⟨_,j6.assign (.t a8) a8,?_⟩
    show D6 _ _ _ _ _ [] ((7,_)::(53,_)::(52,_)::(51,_)::(50,_)::(49,_)::(48,_)::(47,_)::(46,_)::(45,_)::(44,_)::(43,_)::(42,_)::(41,_)::(40,_)::_) _
    refine .q 1 hG ?_
    have hf:=(any_succ (fun e:Bnd=>decide (e=b.j3[i])) x.j3 k hk).symm
    refine .q 2 hG ?_
    refine .ad (by omega) (by omega) ?_
    refine .q 2 hG ?_
    refine⟨k+1,.cons (congrArg (fun q=>some (AV.v q)) hf) (.c2 rfl rfl (.c2 rfl rfl (.nil _))),rfl,?_,by omega⟩
    omega
   ·refine .q 2 hG ?_
    rw [List.take_of_length_le (show x.j3.length≤k by omega)]
    refine .q 4 hG ?_
    refine .cond (.t a8) (fun hc55 => ?_) (fun hc55 => ?_)
    ·refine .q 5 hG ?_
     refine .e1 a8 a8 ?_
     have hno:(b.j3.all fun d=>x.j3.any fun e=>decide (e=d))=false:=List.all_eq_false.2 ⟨_,List.getElem_mem hi,by rw [show(x.j3.any fun e=>decide (e=b.j3[i]))=false from b1e hc55];decide⟩
     rw [hno];rfl
    ·refine .q 1 hG ?_
     have hfo:(x.j3.any fun e=>decide (e=b.j3[i]))=true:=by simpa using hc55
     refine .q 2 hG ?_
     refine .ad (by omega) (by omega) ?_
     refine .q 2 hG ?_
     refine⟨i+1,.c2 rfl rfl (.cons rfl (.nil _)),rfl,?_,by omega⟩
     exact⟨by omega,by rw [all_succ _ _ _ hi,h2,hfo];rfl⟩
  ·refine .q 4 hG ?_
   refine .k hG (b2I _ hl) ?_
   refine .q 4 hG ?_
   refine .e1 a8 a8 ?_
   rw [List.take_of_length_le (by omega)] at h2
   rw [h2];rfl
abbrev c4D:Tag:=(l9.idx 0 (by decide)).set 7 default
abbrev c3G:Epo:=⟨1,c4D⟩
theorem a96 {a:D3} {g:Ring} {b:O4} {v:y6} {e:Int} (hpl:∀ x∈a.y2,x.Plain.length≤1000000) (hl:b.j7.length≤1000000) (h:a6c a g b=(v,e)):u1 gl prog 13 [.v a,.v g,.v b] (fun r=>r = .t2 (.v v) (.v e)) :=
 (b2M a g b hpl hl).mono fun r hr=>by rw [hr,h]
theorem a7c.other {B : D3} {root : Epo} {P : Pass} {G : List Dis} {T : List Tag} {r : Rq} {t : Tag} {n k : Nat} (h : a7c B root P G T r t n k) (hk : k ≤ 6) (hf : B.I7 = true) (l : Int) {q : Rq} (hq : S1 q = true) (hne : q ≠ r) :
    a6c B (a0s root l) ⟨q,P.C7,P.y7,P.j7,t,G.map (bnd B P.Tag r)⟩=(default,19):=by
  have hc:=b1k h.sc hk hq t (bnd B P.Tag r) fun g=>⟨rfl,rfl⟩
  have hb:=a2s hc
  have he:a2c (a0s root l) P.C7=some root:=by rw [h.sc.a3K.1];exact b4E _ _
  rw [b0Y (root:=root) hc he]
  have hn:=h.sc.a3K
  have hs:=h.sc.a4S
  have hr:J8 root.Number P.y7=true:=by unfold J8;simp;omega
  have ht:=b2B (a:=B) hr (List.all_eq_true.2 fun c hc=>(h.sc.cav c hc).1) h.sc.walk
  rw [b0Z (b:=⟨q,P.C7,P.y7,P.j7,t,G.map (bnd B P.Tag r)⟩) ht,if_pos]
  refine Or.inl fun hp => ?_
  unfold a0p at hp
  dsimp only at hp
  rw [if_pos hq] at hp
  obtain⟨y,hy,hyk,hym⟩:=a89 hf hp
  rcases h.Z2 y hy with ⟨c,hc,hc1,hc2⟩|⟨h1,h2⟩|⟨g,_,_,h2⟩
  · rw [hym] at hc;exact absurd (Option.some.inj hc).symm hc1
  · exact hne (a94 hq h.rq (hym.symm.trans h2))
  · rw [hym] at h2;exact absurd (congrArg List.head? h2) (by simp [a1r,U0])
theorem a7g:u1 gl prog 9 [] (fun r=>r = .v true):=by
 have h0:=a0q.start true default (root:=c3G) ⟨(by decide:(1:Int)≤1),(by decide:(1:Int)≤2)⟩ (A:=⟨true,default,0,[],[]⟩) (G8.new true default 2) rfl rfl (n:=1) (by decide) (by decide)
 obtain⟨A1,P,T,e1,hs,hh,hf,hser⟩:=h0
 have hp:=hs.c3E (by decide) (by decide) hh (r:=⟨1,1⟩) (by decide)
 obtain⟨b,t,B,hp,hB,hle⟩:=hp
 have hfree:B.I7=true:=hle.free.trans hf
 obtain⟨v,hv,hvn,hvl⟩:=hB.c2l (by decide) 1
 have hw:=hB.other (by decide) hfree 1 (q:=⟨1,2⟩) (by decide) (by decide)
 have hpl:=hB.sc.ok.b0U
 have hcv:=hB.sc.a4N
 have hc0:P.j7 = []:=List.length_eq_zero_iff.1 (by omega)
 refine u1.jn func9 (by kernel_rfl) 66 rfl fun C hC hG => ?_
 refine .q 6 hG ?_
 refine .p (.bS1 m0.l0 a8 A0 a1n (fun c0=>(⟨c0,default,0,[],[]⟩:m0)) (fun _=>a8) a8 a8 .b (.p (.P8 _ A5 O1 (.cons (l9.idx 0 (by decide)) _ a8 (.u8 7 a8) .nil) a8 (.p (.bS2 u7.l0 u7.l1 a8 b1U c1C (fun c0 c1=>(⟨c0,c1⟩:u7)) (fun _ _=>a8) a8 a8 a8 (.i a8) (.t a8) (.p (.o9 hG (as3 (b8D _ _ _) e1) (.cons (.t a8) (.cons (.t a8) (.cons (.i a8) .nil))) ?_)))))))
 refine .q 5 hG fun b1 => ?_
 refine .q 1 hG fun b2 => ?_
 refine .q 8 hG ?_
 refine .p (.bS2 p9.l0 p9.l1 a8 a8K c2I (fun c0 c1=>(⟨c0,c1⟩:p9)) (fun _ _=>a8) a8 a8 a8 (.i a8) (.i a8) (.p (.o9 hG (hp.c (by omega) (by decide) (by decide)) (.cons (.t a8) (.cons (.t a8) (.cons .b3x (.cons (.t a8) .nil)))) ?_)))
 refine .q 5 hG fun b4 => ?_
 refine .q 6 hG ?_
 refine .p (.P8 _ A5 O1 (.cons (l9.idx 0 (by decide)) _ a8 (.u8 7 a8) .nil) a8 (.p (.bS2 u7.l0 u7.l1 a8 b1U c1C (fun c0 c1=>(⟨c0,c1⟩:u7)) (fun _ _=>a8) a8 a8 a8 (.i a8) (.t a8) ?_)))
 refine .bs a8 (by decide) fun b29=>(.u0 hC .z (.as 29 a8 .z (.p (.bS2 D2.l0 D2.l1 a8 b8c c2J (fun c0 c1=>(⟨c0,c1⟩:D2)) (fun _ _=>a8) a8 a8 a8 (.t a8) (.i a8) ?_))))
 refine .q 1 hG fun b6 => ?_
 refine .q 7 hG ?_
 refine .p (.o9 hG (a96 hpl (by show P.j7.length≤_;omega) hv) (.cons (.t rfl) (.cons (.t rfl) (.cons (.t rfl) .nil))) ?_)
 refine .q 4 hG fun b7 => ?_
 refine .q 14 hG ?_
 refine .p (.o9 hG (a96 hpl (by show P.j7.length≤_;omega) hw) (.cons (.t rfl) (.cons (.t rfl) (.cons (.t rfl) .nil))) ?_)
 refine .q 4 hG fun b9 => ?_
 refine .q 22 hG ?_
 refine .go 59 a8 (.t a8) (fun hg64 => .a7w underlying26 sz5 underlying5 b0d (.q a8 hg64) (.q a8 hg64) a8) ?_
 refine .q 4 hG ?_
 refine .e1 a8 a8 ?_
 simp [hvn,hvl,hc0]
theorem c0Q.facts {s:Scn} {b:O4} (h:c0Q s b):(∀ x∈s.A.y2,x.Plain.length≤1000000)∧Tb 100 b:=by
 obtain⟨root,T,t,n,k,hp,hn,hk,h2,hg,rfl⟩:=h.ex
 have h1:=hp.sc.a4N
 have h3:=hp.sc.ngr
 have hr:=a1i hp.rq
 refine⟨hp.sc.ok.b0U,⟨by show s.Pass.j7.length≤_;omega,by show(s.L7.map _).length≤_;simp;omega,fun d hd => ?_,?_⟩⟩
 ·obtain⟨g,hg,rfl⟩:=List.mem_map.1 hd
  have:=(hp.sc.a2d g hg).a74
  show g.l8.length≤100;omega
 ·show 0≤s.Request.E5∧s.Request.E5≤_;omega
theorem a7h (deck how:List Int) (t:Tag) (raw:O4):u1 gl prog 5 [.v deck,.v how,.v t,.v raw] (fun r=>r = .v true):=by
 refine u1.jn func5 (by kernel_rfl) 77 rfl fun C hC hG => ?_
 refine .q 3 hG fun b6 => ?_
 refine .q 1 hG fun b7 => ?_
 refine .q 16 hG ?_
 refine .cond (.t a8) (fun hc28 => ?_) (fun hc28 => ?_)
 ·refine .q 2 hG ?_
  refine .k hG (a7g) ?_
  refine .q 3 hG ?_
  refine .e1 a8 a8 ?_
  rfl
 ·refine .q 4 hG ?_
  refine .h (.a08 hG (c2o _ _) (.cons (.t a8) (.cons .b .nil)) fun r32 Hs32 hr32 => ?_)
  obtain⟨s32,b32,p32,d32,⟨hm32,hd32⟩,rfl,rfl⟩:=hr32
  show D6 _ _ _ _ _ _ _ ((true,_)::_)
  refine .q 5 hG fun b9 => ?_
  refine .q 1 hG fun b10 => ?_
  refine .q 6 hG ?_
  have hf:=hm32.facts
  obtain⟨hpl,htb⟩:=hf
  have hex:=hm32.ex
  refine .q 6 hG ?_
  refine .cond (.t a8) (fun hc39 => ?_) (fun hc39 => ?_)
  ·refine .q 2 hG ?_
   refine .k hG (a7g) ?_
   refine .q 3 hG ?_
   refine .e1 a8 a8 ?_
   rfl
  ·refine .q 2 hG ?_
   obtain⟨root,T,tt,n,k,hp,hn,hk,h2,hg,hb⟩:=hex
   have htam:=fun x=>hp.tam (by omega) (by omega) (show s32.A.I7=true from b1f hc39) 3 x
   rw [←hg,←hb] at htam
   refine .q 2 hG ?_
   refine .h (.a08 hG (a9J _) (.cons (.t a8) .nil) fun r42 Hs42 hr42 => ?_)
   obtain⟨b42,rfl,rfl⟩:=hr42
   show D6 _ _ _ _ _ _ _ ((true,_)::_)
   refine .ag a8 ?_
   refine .q 3 hG ?_
   refine .p (.T1 U9 (.t a8) .z1 (.mv a8 (.p (.T1 A5 (.t a8) .z5 (.h (.C6 hG (a9c _ _ _ _ _ (by first|assumption|exact x9 _) (by assumption) (by decide)) .z (.cons (.t a8) (.cons (.t a8) (.cons (.t a8) .nil))) (by rintro _ _ ⟨_,_,_,_,_,rfl⟩;exact⟨_,rfl⟩) fun r46 B46 hr46 => ?_))))))
   obtain⟨y46,hy46,d46,hd46,rfl,hB⟩:=hr46
   cases hB
   refine .q 1 hG fun b13 => ?_
   refine .n (.Q1 U9 (.t a8) (.t a8) .z ?_)
   refine .q 3 hG ?_
   refine .p (.T1 U9 (.t a8) .z (.mv a8 (.p (.T1 A5 (.t a8) .z6 (.h (.C6 hG (a9c _ _ _ _ _ (by first|assumption|exact x9 _) (by assumption) (by decide)) .z1 (.cons (.t a8) (.cons (.t a8) (.cons (.t a8) .nil))) (by rintro _ _ ⟨_,_,_,_,_,rfl⟩;exact⟨_,rfl⟩) fun r50 B50 hr50 => ?_))))))
   obtain⟨y50,hy50,d50,hd50,rfl,hB⟩:=hr50
   cases hB
   refine .q 1 hG fun b14 => ?_
   refine .n (.Q1 U9 (.t a8) (.t a8) .z ?_)
   refine .q 4 hG ?_
   refine .p (.T1 U9 (.t a8) .z1 (.p (.T1 U9 (.t a8) .z (.p (.T1 U9 (.t a8) .z6 (.h (.buildSlice (α:=p6) U9 underlying52 (.cons (.t a8) (.cons (.t a8) (.cons (.t a8) .nil))) a8 (by decide) fun b54 => .p (.a4y underlying52 a8 .z ?_))))))))
   refine .q 1 hG ?_
   refine .u0 hC .z (.as 54 a8 .z ?_)
   have hl:∀ z∈([y46,y50,raw]:List O4),z.j7.length≤1000000:=(by have h1:=hy46.cav;have h2:=hy50.cav;simp at hc28;simp;omega)
   refine .q 2 hG ?_
   refine .E3 (α:=Nat) [(9,_),(10,_),(54,_),(55,_)] (fun j R=>(56,.v (j:Int))::R) (Function.const _ _) (fun j=>j≤3) (fun j=>3 - j) (0) (.c2 a8 a8 (.c2 a8 a8 (.nil _))) ?_ (.c2 a8 a8 (.c2 a8 a8 (.cons a8 (.nil _)))) (a8) fun j hF => ?_
   ·simp
   refine .q 6 hG ⟨fun hc57 => ?_,fun hc57 => ?_⟩
   ·refine .q 5 hG ?_
    refine .ix (by omega) (by omega) ?_
    refine .q 2 hG fun b16 => ?_
    refine .n (.Q1 U9 (.t a8) (.t a8) .z ?_)
    refine .q 3 hG ?_
    refine .p (.B0 o7.l0 P9 a8 (.t a8) (.p (.ldF (fun x=>x.A) A0 (.t a8) .z6 (fun _=>a8) (.p (.B0 o7.l1 b3l a8 (.t a8) (.p (.ldF (fun x=>x.Ring) b8c (.t a8) .z6 (fun _=>a8) (.p (.T1 U9 (.t a8) .z (.p (.o9 hG (b2M _ _ _ hpl (hl _ (List.getElem_mem _))) (.cons (.t a8) (.cons (.t a8) (.cons (.t a8) .nil))) ?_)))))))))))
    refine .q 4 hG fun b17 => ?_
    refine .n (.Q1 a3X (.t a8) (.t a8) .z (.ag a8 ?_))
    refine .q 3 hG ?_
    refine .mv a8 (.p (.b1r (.t a8) (.i a8) (.p (.T1 U9 (.t a8) .z1 (.p (.T1 U9 (.t a8) .z6 (.p (.o9 hG (c3F _ _ (hl _ (List.getElem_mem _))) (.cons (.t a8) (.cons (.t a8) .nil)) (.p (.c04 underlying4 (.t a8) (.t a8) ?_))))))))))
    refine .q 1 hG ?_
    refine .cond (.t rfl) (fun hc74=>(by exfalso;exact absurd hc74 (by rw [show ∀ x y:Bool,(x != y)=true↔x≠y from fun x y=>bne_iff_ne];exact fun hx=>hx (Bool.eq_iff_iff.2 (by rw [decide_eq_true_eq];exact htam _))))) (fun hc74 => ?_)
    refine .q 1 hG ?_
    refine .drop (.drop ?_)
    refine .q 1 hG ?_
    refine .ad (by omega) (by omega) ?_
    refine .q 2 hG ?_
    refine⟨j+1,.c2 rfl rfl (.c2 rfl rfl (.cons rfl (.nil _))),rfl,?_,by simp at hc57;omega⟩
    simp at hc57;omega
   ·refine .q 3 hG ?_
    refine .k hG (a7g) ?_
    refine .q 3 hG ?_
    refine .e1 a8 a8 ?_
    rfl
end Go.Proofs.YtmmclghiidoldaaGreatDoor
namespace Go.Fl
open Go.ChangeShapes Go.WideShapes Go.ChangeAt Go.RowKit
def a6e (W:World):Im:=fun b=>W.heap[b]?
theorem b9o (W:World):Mem (a6e W) [] W:=⟨fun b o h=>h,by simp,by simp,by simp⟩
theorem Fun.calls {P : Program} {f : FuncId} {args : Array Value} {W : World} {r : Value} (h : Fun P f args (a6e W) (fun v _ => v = r)) :
    Calls P f args W (fun e W'=>e = .returned r∧Below W.heap.size W W') :=
  (h.run W (b9o W)).mono fun e w' ⟨v,J,he,hc,_,_,_,hv⟩=>⟨by rw [he,hv],⟨hc.os,hc.tape,hc.output,hc.size,fun k hk=>hc.block k hk (by simp)⟩⟩
theorem a1J {W:World} {x:Addr} {v:Value} (h:W.cell? x=some v):x.spot=none∧∃ cs e fr,W.heap[x.block]?=some (.cells cs e fr)∧cs[x.off]?=some v:=by
 unfold World.cell? at h
 split at h
 ·rename_i c e fr heq
  split at h
  ·cases h
  ·rename_i hs
   exact⟨by simpa using hs,c,e,fr,heq,h⟩
 ·cases h
theorem b4I {P : Program} {W : World} {n : String} {d : DataW Unit} {l : List UInt32} {g : Nat} {T E : TypeId} (hg : P.globalNamed n = some g) (ht : (P.globals[g]?).map (·.type) = some T) (hT : P.underlying T = some (.array l.length E))
    (hE:P.underlying E=some (.int .u32)) (hone:P.cellsOf E=1) (hl:0 < l.length) (hd:d = .agg (l.map fun k => .lit (.int .u32 (k.toNat:Int)))) (h:laidMet P [(n,d)] W):Cells (a6e W) g 0 (l.map u32):=by
  obtain⟨ps,⟨g2,t,cs,fuel,p,q,hg2,ht2,hvar,htr,_,_⟩,_⟩:=h
  obtain rfl:=Option.some.inj (hg.symm.trans hg2)
  obtain rfl:=Option.some.inj (ht.symm.trans ht2)
  obtain⟨xs,m,_,hx,hlen,hxl,hel⟩:=DataW.trod_array hT htr
  have hxd:xs.map (·.1)=l.map fun k=>DataW.lit (.int .u32 (k.toNat:Int)):=by
    have:=(Prod.mk.inj hx).1
    rw [hd] at this
    injection this with h2
    exact h2.symm
  have hcell:∀ (i:Nat) (v:Value),(l.map u32)[i]?=some v→cs[i]?=some v:=by
    intro i v hv
    have hi:i < l.length:=by simpa using (List.getElem?_eq_some_iff.1 hv).1
    have h1:=hel i hi
    rw [hone] at h1
    have hxi:xs[i]?=some (xs[i]'(by omega)):=List.getElem?_eq_getElem (by omega)
    rw [hxi] at h1
    obtain⟨k,hk1,hk2,_⟩:=DataW.trod_int hE h1
    have hfst:(xs.map (·.1))[i]?=some (DataW.lit (.int .u32 k)):=by rw [List.getElem?_map,hxi,Option.map_some,hk2]
    rw [hxd,List.getElem?_map,List.getElem?_eq_getElem hi] at hfst
    simp at hfst
    have hci:cs.toList[i]?=some (.int .u32 k):=by
      have:((cs.toList.drop (i*1)).take 1)[0]?=some (.int .u32 k):=by rw [hk1];rfl
      simpa [List.getElem?_take,List.getElem?_drop] using this
    rw [List.getElem?_map,List.getElem?_eq_getElem hi,Option.map_some] at hv
    have hv:=Option.some.inj hv
    rw [←hv,u32,hfst]
    simpa using hci
  have h0:∃ v,(l.map u32)[0]?=some v:=⟨_,List.getElem?_eq_getElem (by simpa using hl)⟩
  obtain⟨v0,hv0⟩:=h0
  have hc0:=World.var?_cell hg hvar 0
  rw [hcell 0 v0 hv0] at hc0
  obtain⟨_,cs2,e,fr,hob,_⟩:=a1J hc0
  refine⟨cs2,e,fr,hob,fun i v hv => ?_⟩
  have h3:=World.var?_cell hg hvar i
  rw [hcell i v hv] at h3
  obtain⟨_,cs3,e3,fr3,hob3,hv3⟩:=a1J h3
  have:Obj.cells cs2 e fr=Obj.cells cs3 e3 fr3:=Option.some.inj (hob.symm.trans hob3)
  cases this
  simpa using hv3
end Go.Fl
namespace Go.Ab
open Go.Fl Go.RowKit Go.ChangeShapes Go.WideShapes Go.ChangeAt
open o8 (rep)
def O0 (P:Program) (T:TypeId) (α:Type) [o8 α]:Prop:=P.cellsOf T=o8.size α ∧
 ∀ (H:Type) (enc:TypeId×Value→H) (W:World) (base:Nat) (spare:Nat→Bool) (held:Bool) (fuel:Nat) (cs:List Value) (x:DataW H×List MemPlace),DataW.trod enc P W base spare held fuel T cs=some x→∃ a:α,rep (a6e W) a cs
variable {P:Program} {T E:TypeId}
theorem O0.i64 (hT:P.underlying T=some (.int .i64)) (hc:P.cellsOf T=1):O0 P T Int:=⟨hc,fun H enc W base spare held fuel cs x h=>by
 obtain⟨n,rfl,_,hw⟩:=DataW.trod_int hT h
 simp [Lit.wf,IntKind.min,IntKind.max,IntKind.signed,IntKind.bits] at hw
 exact⟨n,rfl,by omega,by omega⟩⟩
theorem O0.u8 (hT:P.underlying T=some (.int .u8)) (hc:P.cellsOf T=1):O0 P T UInt8:=⟨hc,fun H enc W base spare held fuel cs x h=>by
 obtain⟨n,rfl,_,hw⟩:=DataW.trod_int hT h
 simp [Lit.wf,IntKind.min,IntKind.max,IntKind.signed,IntKind.bits] at hw
 refine⟨UInt8.ofNat n.toNat,?_⟩
 show [Value.int .u8 n] = [Fl.u8 _]
 unfold Fl.u8
 congr 2;simp;omega⟩
theorem O0.u64 (hT:P.underlying T=some (.int .u64)) (hc:P.cellsOf T=1):O0 P T UInt64:=⟨hc,fun H enc W base spare held fuel cs x h=>by
 obtain⟨n,rfl,_,hw⟩:=DataW.trod_int hT h
 simp [Lit.wf,IntKind.min,IntKind.max,IntKind.signed,IntKind.bits] at hw
 refine⟨UInt64.ofNat n.toNat,?_⟩
 show [Value.int .u64 n] = [Fl.u64 _]
 unfold Fl.u64
 congr 2;simp;omega⟩
theorem O0.bool (hT:P.underlying T=some .bool) (hc:P.cellsOf T=1):O0 P T Bool:=⟨hc,fun H enc W base spare held fuel cs x h=>by
 obtain⟨n,rfl,_⟩:=DataW.trod_bool hT h
 exact⟨n,a8⟩⟩
theorem O0.str (hT:P.underlying T=some .string) (hc:P.cellsOf T=1):O0 P T Str:=⟨hc,fun H enc W base spare held fuel cs x h=>by
 obtain⟨s,rfl,_,hs⟩:=DataW.trod_string hT h
 refine⟨⟨s.data.toList⟩,⟨s,a8,a8⟩,?_⟩
 show s.data.toList.length≤_
 have:s.data.toList.length=s.size:=rfl
 unfold maxLen at hs
 omega⟩
theorem add_add (a:Addr) (i j:Nat):(a.add i).add j=a.add (i+j):=by
 unfold Addr.add
 rcases a with ⟨b,o,_|s⟩<;>by_cases hi:i=0<;>by_cases hj:j=0<;>simp [hi,hj,Nat.add_assoc]
theorem O0.slice {α:Type} {r:o8 α} (hT:P.underlying T=some (.slice E)) (hc:P.cellsOf T=1) (hE:O0 P E α) (hp:0 < o8.size α):O0 P T (List α):=⟨hc,fun H enc W base spare held fuel cs x h=>by
 rcases DataW.trod_slice hT h with ⟨rfl,_⟩|⟨a,len,cap,elems,rest,n,_,rfl,_,hb,hl,hm,hel,hget,_⟩
 ·exact⟨[],_,a8,[],Sl.nil _ _,a8⟩
 ·have key:∀ k,k≤len→∃ (l:List α) (xs:List Value),l.length=k∧K1 (a6e W) l xs∧∀ i v,xs[i]?=some v→W.cell? (a.add i)=some v:=by
   intro k
   induction k with
   | zero=>exact fun _=>⟨[],[],rfl,rfl,fun i v hv=>by simp at hv⟩
   | succ k ih =>
    intro hk
    obtain⟨l,xs,h1,h2,h3⟩:=ih (by omega)
    have hg:=hget k (by omega)
    rw [List.getElem?_eq_getElem (by omega)] at hg
    obtain⟨c,hc1,hc2⟩:=Option.bind_eq_some_iff.1 hg
    obtain⟨_,hcl,hcell⟩:=World.cells?_some hc1
    obtain⟨y,hy⟩:=hE.2 H enc W base spare held n c _ hc2
    refine⟨l ++ [y],xs++c,by simp [h1],h2.append (.one hy),fun i v hv => ?_⟩
    have hxl:xs.length=k*o8.size α:=by rw [h2.len,h1]
    by_cases hi:i < xs.length
    ·rw [List.getElem?_append_left hi] at hv;exact h3 i v hv
    ·rw [List.getElem?_append_right (by omega)] at hv
     have hj:=(List.getElem?_eq_some_iff.1 hv).1
     have:=hcell (i - xs.length) (by omega)
     rw [hv,hE.1,add_add,←hxl,show xs.length+(i - xs.length)=i by omega] at this
     exact this
  obtain⟨l,xs,h1,h2,h3⟩:=key len (Nat.le_refl _)
  have hxl:=h2.len
  refine⟨l,_,rfl,xs,⟨_,_,by rw [h1],h2.len,by omega,hm,(fun h=>by cases h),fun hne => ?_⟩,h2⟩
  rcases a with ⟨ab,ao,ags⟩
  obtain⟨v0,hv0⟩:∃ v,xs[0]?=some v:=⟨_,List.getElem?_eq_getElem (List.length_pos_iff.2 hne)⟩
  have hc0:=h3 0 v0 hv0
  obtain⟨hsp,cs,e,fr,hob,_⟩:=a1J hc0
  have hsp2:ags=none:=by
   cases ags with
   | none=>rfl
   | some q =>
    unfold Addr.add at hsp
    simp at hsp
  subst hsp2
  rw [Addr.add_plain] at hob
  have hob:W.heap[ab]?=some (Obj.cells cs e fr):=hob
  refine⟨ab,ao,a8,cs,e,fr,hob,fun i v hv => ?_⟩
  have hcv:=h3 i v hv
  rw [Addr.add_plain] at hcv
  obtain⟨_,cs2,e2,fr2,hob2,hv2⟩:=a1J hcv
  have:Obj.cells cs e fr=Obj.cells cs2 e2 fr2:=Option.some.inj (hob.symm.trans hob2)
  cases this
  exact hv2⟩
theorem O0.array {α:Type} {r:o8 α} {n:Nat} (hT:P.underlying T=some (.array n E)) (hc:P.cellsOf T=n*o8.size α) (hE:O0 P E α):O0 P T (J0 n α):=⟨hc,fun H enc W base spare held fuel cs x h=>by
 obtain⟨xs,m,_,_,hlen,hxl,hel⟩:=DataW.trod_array hT h
 have key:∀ k,k≤n→∃ l:List α,l.length=k∧K1 (a6e W) l (cs.take (k*o8.size α)):=by
  intro k
  induction k with
  | zero=>exact fun _=>⟨[],rfl,by simp [K1]⟩
  | succ k ih =>
   intro hk
   obtain⟨l,h1,h2⟩:=ih (by omega)
   have hg:=hel k (by omega)
   rw [List.getElem?_eq_getElem (by omega),hE.1] at hg
   obtain⟨y,hy⟩:=hE.2 H enc W base spare held m _ _ hg
   refine⟨l ++ [y],by simp [h1],?_⟩
   have e:cs.take ((k+1)*o8.size α)=cs.take (k*o8.size α)++(cs.drop (k*o8.size α)).take (o8.size α):=by
    rw [Nat.succ_mul,List.take_add]
   rw [e]
   exact h2.append (.one hy)
 obtain⟨l,h1,h2⟩:=key n (Nat.le_refl _)
 refine⟨⟨l,h1⟩,?_⟩
 show K1 (a6e W) l cs
 rwa [List.take_of_length_le (by rw [hlen,hc];exact Nat.le_refl _)] at h2⟩
inductive a7i (P:Program):List Field→Nat→(β:Type)→o8 β→Prop
 | nil {off:Nat}:a7i P [] off Unit inferInstance
 | cons {f:Field} {fs:List Field} {off:Nat} {α β:Type} {r:o8 α} {s:o8 β} (h1:f.offset=off) (h2:O0 P f.type α) (t:a7i P fs (off+o8.size α) β s):a7i P (f::fs) off (α×β) inferInstance
theorem a7i.run {fs : List Field} {off : Nat} {β : Type} {s : o8 β} (h : a7i P fs off β s) {H : Type} {enc : TypeId × Value → H} {W : World} {base : Nat} {spare : Nat → Bool} {held : Bool} {n : Nat} {cs : List Value} (hl : cs.length = off + o8.size β)
    (hg:∀ (i:Nat) (f:Field),fs[i]?=some f→∃ x,DataW.trod enc P W base spare held n f.type ((cs.drop f.offset).take (P.cellsOf f.type))=some x):∃ b:β,rep (a6e W) b (cs.drop off):=by
  induction h with
  | nil=>exact⟨(),List.drop_eq_nil_of_le (by rw [hl];exact Nat.le_refl _)⟩
  | @cons f fs off α β r s h1 h2 t ih =>
    obtain⟨x,hx⟩:=hg 0 f rfl
    rw [h1,h2.1] at hx
    obtain⟨y,hy⟩:=h2.2 H enc W base spare held n _ _ hx
    obtain⟨b,hb⟩:=ih (by rw [hl];show off+(o8.size α+o8.size β)=_;omega) (fun i f' hf=>hg (i+1) f' (by simpa using hf))
    refine⟨(y,b),_,_,?_,hy,hb⟩
    rw [←List.drop_drop,List.take_append_drop]
theorem O0.struct {S β:Type} [s:o8 β] {fs:Array Field} (f:S→β) (g:β→S) (hfg:∀ b,f (g b)=b) (hT:P.underlying T=some (.struct fs)) (hc:P.cellsOf T=o8.size β) (h:a7i P fs.toList 0 β s) : @O0 P T S (o8.via f) :=
 letI:o8 S:=o8.via f
 ⟨hc,fun H enc W base spare held fuel cs x hx=>by
  obtain⟨xs,n,_,_,hlen,hxl,hel⟩:=DataW.trod_struct hT hx
  obtain⟨b,hb⟩:=h.run (W:=W) (enc:=enc) (base:=base) (spare:=spare) (held:=held) (n:=n) (cs:=cs) (by rw [hlen,hc];omega) (fun i f hf=>by
   have hf':fs[i]?=some f:=by simpa using hf
   have:=hel i f hf'
   have hi:=(Array.getElem?_eq_some_iff.1 hf').1
   exact⟨_,this.trans (List.getElem?_eq_getElem (by omega))⟩)
  exact⟨g b,by show rep (a6e W) (f (g b)) cs;rw [hfg];simpa using hb⟩⟩
theorem O0.val {α : Type} {r : o8 α} (h : O0 P T α) {H : Type} {enc : TypeId × Value → H} {W : World} {base : Nat} {spare : Nat → Bool} {held : Bool} {v : Value} {d : DataW H} {p : List MemPlace} (ht : DataW.Trod enc P W base spare held T v d p)
    (hv:∀ cs:List Value,v.cells.toList=cs→v=asV (o8.agg α) cs):∃ a:α,E9 (a6e W) (.v a) v:=by
  obtain⟨fuel,hf⟩:=ht
  obtain⟨a,ha⟩:=h.2 H enc W base spare held fuel _ _ hf
  exact⟨a,_,ha,hv _ a8⟩
theorem u1.calls {G : Gl} {f : FuncId} {ags : List AV} {vs : List Value} {W : World} (h : u1 G P f ags (fun r => r = .v true)) (hG : G.p (a6e W)) (hv : S9 (a6e W) ags vs) :
    Calls P f vs.toArray W (fun e W'=>e = .returned (.bool true)∧Below W.heap.size W W') :=
  Fun.calls ((h (a6e W) vs hG hv).mono fun v J _ ⟨r,h1,h2⟩=>by
    subst h2
    obtain⟨cs,rfl,rfl⟩:=h1
    rfl)
theorem a9d {dd:TypeDesc} (hT:P.underlying T=some dd) (hr:a04 dd=true) {W:World} {r:Reach} {base:Nat} {v:Value} (h:Value.okWide P W r base T v):∃ cs,v = .agg cs:=by
 unfold Value.okWide at h
 rw [hT] at h
 cases dd<;>first|(simp [a04] at hr;done)|(obtain⟨cs,h1,_⟩:=h;exact⟨cs,h1⟩)
theorem b2O {v:Value} (h:v.cells = #[v]):∀ cs:List Value,v.cells.toList=cs→v=asV false cs:=fun cs hc=>by
 rw [h] at hc;subst hc;rfl
theorem b2P {xs:Array Value}:∀ cs:List Value,(Value.agg xs).cells.toList=cs→Value.agg xs=asV true cs:=fun cs hc=>by
 subst hc;simp [asV,Value.cells]
end Go.Ab
namespace Go.Fl
open Go.RowKit
theorem b6X {P : Program} {W : World} {n : String} {d : DataW Unit} {l : List Int} {g : Nat} {T E : TypeId} (hg : P.globalNamed n = some g) (ht : (P.globals[g]?).map (·.type) = some T) (hT : P.underlying T = some (.array l.length E))
    (hE:P.underlying E=some (.int .i64)) (hone:P.cellsOf E=1) (hl:0 < l.length) (hd:d = .agg (l.map fun k => .lit (.int .i64 k))) (h:laidMet P [(n,d)] W):Cells (a6e W) g 0 (l.map i64):=by
  obtain⟨ps,⟨g2,t,cs,fuel,p,q,hg2,ht2,hvar,htr,_,_⟩,_⟩:=h
  obtain rfl:=Option.some.inj (hg.symm.trans hg2)
  obtain rfl:=Option.some.inj (ht.symm.trans ht2)
  obtain⟨xs,m,_,hx,hlen,hxl,hel⟩:=DataW.trod_array hT htr
  have hxd:xs.map (·.1)=l.map fun k=>DataW.lit (.int .i64 k):=by
    have:=(Prod.mk.inj hx).1
    rw [hd] at this
    injection this with h2
    exact h2.symm
  have hcell:∀ (i:Nat) (v:Value),(l.map i64)[i]?=some v→cs[i]?=some v:=by
    intro i v hv
    have hi:i < l.length:=by simpa using (List.getElem?_eq_some_iff.1 hv).1
    have h1:=hel i hi
    rw [hone] at h1
    have hxi:xs[i]?=some (xs[i]'(by omega)):=List.getElem?_eq_getElem (by omega)
    rw [hxi] at h1
    obtain⟨k,hk1,hk2,_⟩:=DataW.trod_int hE h1
    have hfst:(xs.map (·.1))[i]?=some (DataW.lit (.int .i64 k)):=by rw [List.getElem?_map,hxi,Option.map_some,hk2]
    rw [hxd,List.getElem?_map,List.getElem?_eq_getElem hi] at hfst
    simp at hfst
    have hci:cs.toList[i]?=some (.int .i64 k):=by
      have:((cs.toList.drop (i*1)).take 1)[0]?=some (.int .i64 k):=by rw [hk1];rfl
      simpa [List.getElem?_take,List.getElem?_drop] using this
    rw [List.getElem?_map,List.getElem?_eq_getElem hi,Option.map_some] at hv
    have hv:=Option.some.inj hv
    rw [←hv,i64,hfst]
    simpa using hci
  have h0:∃ v,(l.map i64)[0]?=some v:=⟨_,List.getElem?_eq_getElem (by simpa using hl)⟩
  obtain⟨v0,hv0⟩:=h0
  have hc0:=World.var?_cell hg hvar 0
  rw [hcell 0 v0 hv0] at hc0
  obtain⟨_,cs2,e,fr,hob,_⟩:=a1J hc0
  refine⟨cs2,e,fr,hob,fun i v hv => ?_⟩
  have h3:=World.var?_cell hg hvar i
  rw [hcell i v hv] at h3
  obtain⟨_,cs3,e3,fr3,hob3,hv3⟩:=a1J h3
  have:Obj.cells cs2 e fr=Obj.cells cs3 e3 fr3:=Option.some.inj (hob.symm.trans hob3)
  cases this
  simpa using hv3
end Go.Fl
namespace Go.Proofs.YtmmclghiidoldaaGreatDoor
open Go.Proofs.Tryz
open Go.Fl Go.Ab Go.Mac Go.Sha
open Go.ChangeShapes Go.WideShapes Go.ChangeAt Go.RowKit
theorem c4E:ownKnob prog.godebug=none:=by kernel_rfl
theorem a6H:laidOutB prog=true:=by kernel_rfl
noncomputable def b9p (os:Os):World :=
  let w0:=World.holding prog os ⟨#[],#[],[]⟩
  { w0 with heap := (w0.heap.modify 1 fun
      | .cells _ t frozen => .cells (kk.map Fl.u32).toArray t frozen
      | o=>o).modify 0 fun
      | .cells _ t frozen => .cells (a6r.l.map i64).toArray t frozen
      | o=>o }
def b5O:List (String×DataW Unit) := [("macaroon/sha.k", Rows.laid_macaroon_sha_k),("macaroon/predicate.bits", Rows.laid_macaroon_predicate_bits)]
set_option maxRecDepth 100000 in
theorem c3H (os:Os) (args:Array Value):laidMet prog b5O ((b9p os).forCall (fun _ _=>0) ⟨#[],args,[]⟩).memory :=
 laidMet_of_run' 8 (by kernel_rfl) (by kernel_rfl)
set_option maxRecDepth 100000 in
theorem c3I:b5O.filter (fun x=>x.1 == "macaroon/sha.k") = [("macaroon/sha.k", Rows.laid_macaroon_sha_k)]:=by kernel_rfl
set_option maxRecDepth 100000 in
theorem c3J:b5O.filter (fun x=>x.1 == "macaroon/predicate.bits") = [("macaroon/predicate.bits", Rows.laid_macaroon_predicate_bits)]:=by kernel_rfl
set_option maxRecDepth 100000 in
theorem c0R {W:World} (h:laidMet prog b5O W):gl.p (a6e W):=by
 have h1:=h.filter fun x=>x.1 == "macaroon/sha.k"
 have h2:=h.filter fun x=>x.1 == "macaroon/predicate.bits"
 rw [c3I] at h1
 rw [c3J] at h2
 exact⟨b4I (l:=kk) (T:=276) (E:=248) (by kernel_rfl) (by kernel_rfl) underlying276 underlying248 (by kernel_rfl) (by decide) a8 h1,
  b6X (l:=a6r.l) (T:=190) (E:=3) (by kernel_rfl) (by kernel_rfl) underlying190 underlying3 (by kernel_rfl) (by decide) rfl h2⟩
theorem op3:O0 prog 3 Int := .i64 underlying3 (by kernel_rfl)
theorem c4F:O0 prog 23 p9 := .struct p9.f (fun b=>⟨b.1,b.2.1⟩) (fun _=>rfl) underlying23 (by kernel_rfl) (.cons rfl op3 (.cons rfl op3 .nil))
theorem op4:O0 prog 4 Bool := .bool underlying4 (by kernel_rfl)
theorem c4G:O0 prog 77 UInt64 := .u64 underlying77 (by kernel_rfl)
theorem op9:O0 prog 9 Str := .str underlying9 (by kernel_rfl)
theorem c3K:O0 prog 97 j4 := .struct j4.f (fun b=>⟨b.1,b.2.1,b.2.2.1,b.2.2.2.1,b.2.2.2.2.1,b.2.2.2.2.2.1⟩) (fun _=>rfl) underlying97 (by kernel_rfl) (.cons rfl op3 (.cons rfl c4G (.cons rfl op3 (.cons rfl op3 (.cons rfl op9 (.cons rfl op3 .nil))))))
theorem op5:O0 prog 5 UInt8 := .u8 underlying5 (by kernel_rfl)
theorem c2r:O0 prog 86 (List UInt8) := .slice underlying86 (by kernel_rfl) op5 (by decide)
theorem c4H:O0 prog 99 m9 := .struct m9.f (fun b=>⟨b.1,b.2.1,b.2.2.1,b.2.2.2.1,b.2.2.2.2.1⟩) (fun _=>rfl) underlying99 (by kernel_rfl) (.cons rfl op4 (.cons rfl c3K (.cons rfl op3 (.cons rfl c2r (.cons rfl c2r .nil)))))
theorem c4I:O0 prog 24 (List m9) := .slice underlying24 (by kernel_rfl) c4H (by decide)
theorem c2s:O0 prog 26 (J0 32 UInt8) := .array underlying26 (by kernel_rfl) op5
theorem c4J:O0 prog 83 (List j4) := .slice underlying83 (by kernel_rfl) c3K (by decide)
theorem c4K:O0 prog 88 p8 := .struct p8.f (fun b=>⟨b.1,b.2.1,b.2.2.1⟩) (fun _=>rfl) underlying88 (by kernel_rfl) (.cons rfl c2r (.cons rfl c4J (.cons rfl c2s .nil)))
theorem c4L:O0 prog 27 (List p8) := .slice underlying27 (by kernel_rfl) c4K (by decide)
theorem c4M:O0 prog 29 p6 := .struct p6.f (fun b=>⟨b.1,b.2.1,b.2.2.1,b.2.2.2.1,b.2.2.2.2.1,b.2.2.2.2.2.1⟩) (fun _=>rfl) underlying29 (by kernel_rfl) (.cons rfl c4F (.cons rfl op3 (.cons rfl op3 (.cons rfl c4I (.cons rfl c2s (.cons rfl c4L .nil))))))
theorem c3L:O0 prog 33 (List Int) := .slice underlying33 (by kernel_rfl) op3 (by decide)
end Go.Proofs.YtmmclghiidoldaaGreatDoor
