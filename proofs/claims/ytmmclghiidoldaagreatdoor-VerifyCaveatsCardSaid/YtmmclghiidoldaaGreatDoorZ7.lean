/- Plain Lean over any program, and walks of this seat's functions: contracts, each proved once (part 7). -/
import Derived.Test.YtmmclghiidoldaaGreatDoorZ6
import Derived.ProofKit
import Derived.OpenShut
import Derived.ShutString
import Derived.ChangeOld
import Derived.Below
import Derived.LaidLaws
import Derived.Handed
import Derived.DataReads
import Derived.LaidSub
import Derived.Test.YtmmclghiidoldaaGreatDoorRows
import Derived.Test.YtmmclghiidoldaaGreatDoorTie
import Derived.Test.YtmmclghiidoldaaGreatDoorCards
import Derived.SevenTiedAt
set_option maxRecDepth 1000000
set_option synthInstance.maxSize 1000000
set_option synthInstance.maxHeartbeats 10000000
set_option linter.unusedVariables false
set_option linter.unusedSimpArgs false
namespace Go.Proofs.YtmmclghiidoldaaGreatDoor
open Go.Proofs.Tryz
open Go.Fl Go.Ab Go.Mac Go.Sha
def a8R (l:List Cav):Nat→List Int
 | 0 => []
 | n+1=>a8R l n++(match l[n]? with|some c=>if !c.Q9&&decide (c.a2P.Kind=7) then [(n:Int)+1] else []|none => [])
theorem a7U {l:List Cav} {n:Nat} (h:n < l.length):a8R l (n+1)=a8R l n++if !l[n].Q9&&decide (l[n].a2P.Kind=7) then [(n:Int)+1] else []:=by
 rw [a8R,List.getElem?_eq_getElem h]
theorem a8S (l:List Cav):∀ n,(a8R l n).length≤n
 | 0=>by simp [a8R]
 | n+1=>by
  have:=a8S l n
  rw [a8R,List.length_append]
  have h2:(match l[n]? with|some c=>if !c.Q9&&decide (c.a2P.Kind=7) then [(n:Int)+1] else []|none => []).length≤1:=by split<;>(try split)<;>simp
  omega
theorem b9t (b:P9) (hl:b.j8.length≤1000000):p4 gl prog 23 [.v b] (fun r=>r = .v (a8R b.j8 b.j8.length)):=by
 refine p4.jn func23 (by kernel_rfl) 30 rfl fun C hC hG => ?_
 refine .q 3 hG fun b1 => ?_
 refine .q 3 hG ?_
 refine .y6 hC .z (.L6 1 a8 .z ?_)
 refine .q 1 hG ?_
 refine .p (.assign .raw ?_)
 refine .q 3 hG ?_
 refine .a0H 3 Int ?_
 refine .q 7 hG ?_
 refine .D8 (α:=Nat×Value) [(7,_),(8,_)] (fun x R=>(3,.raw x.2)::(9,.v (x.1:Int))::R) (fun x => [(true,.own 3 x.2 (a8R b.j8 x.1)),(true,.fz (ptr b1 0) (.p b))]) (fun x=>x.1≤b.j8.length) (fun x=>b.j8.length - x.1) ((0,.slice none 0 0)) (.c2 a8 a8 (.nil _)) ?_ (.c2 a8 a8 (.c2 a8 a8 (.nil _))) (a8) fun x hF => ?_
 ·simp
 obtain⟨k,w⟩:=x
 dsimp only at hF ⊢
 have hfl:=a8S b.j8 k
 refine .q 6 hG ⟨fun hc10 => ?_,fun hc10 => ?_⟩
 ·refine .q 6 hG ?_
  refine .ix (by omega) (by omega) ?_
  refine .q 2 hG fun b5 => ?_
  refine .q 4 hG ?_
  refine .y6 hC .z (.L6 5 a8 .z (.drop ?_))
  refine .q 11 hG ?_
  refine .cond (.t a8) (fun hc22 => ?_) (fun hc22 => ?_)
  ·refine .q 3 hG ?_
   refine .ad (by omega) (by omega) ?_
   refine .bs a8 (by decide) fun b26 => ?_
   refine .ap (by simp<;>omega) (by simp<;>omega) fun w27 => ?_
   refine .q 1 hG ?_
   refine .drop ?_
   refine .q 2 hG ?_
   refine .ad (by omega) (by omega) ?_
   refine .q 2 hG ?_
   refine⟨(k+1,_),.c2 rfl rfl (.c2 rfl rfl (.nil _)),congrArg (fun q => [(true,D6.own _ _ q),_]) (by dsimp only;rw [a7U (by omega)];simp_all),?_,by dsimp only;omega⟩
   dsimp only;omega
  ·refine .q 2 hG ?_
   refine .ad (by omega) (by omega) ?_
   refine .q 2 hG ?_
   refine⟨(k+1,_),.c2 rfl rfl (.c2 rfl rfl (.nil _)),congrArg (fun q => [(true,D6.own _ _ q),_]) (by dsimp only;rw [a7U (by omega)];simp_all),?_,by dsimp only;omega⟩
   dsimp only;omega
 ·refine .q 2 hG ?_
  refine .u0 hC .z (.as 3 a8 .z ?_)
  refine .q 5 hG ?_
  refine .e1 a8 a8 ?_
  refine congrArg AV.v ?_
  rw [show k=b.j8.length by omega]
theorem b6R (b:P9) (hl:b.j8.length≤1000000):p4 gl prog 24 [.v b] (fun r=>r = .v (a8R b.j8 b.j8.length)):=by
 refine p4.jn func24 (by kernel_rfl) 35 rfl fun C hC hG => ?_
 refine .q 3 hG fun b1 => ?_
 refine .q 3 hG ?_
 refine .y6 hC .z (.L6 1 a8 .z ?_)
 refine .q 1 hG ?_
 refine .p (.assign .raw ?_)
 refine .q 3 hG ?_
 refine .a0H 3 Int ?_
 refine .q 4 hG ?_
 refine .D8 (α:=Nat×Value) [(1,_)] (fun x R=>(3,.raw x.2)::(4,.v (x.1:Int))::R) (fun x => [(true,.own 3 x.2 (a8R b.j8 x.1)),(true,.fz (ptr b1 0) (.p b))]) (fun x=>x.1≤b.j8.length) (fun x=>b.j8.length - x.1) ((0,.slice none 0 0)) (.cons a8 (.nil _)) ?_ (.c2 a8 a8 (.cons a8 (.nil _))) (a8) fun x hF => ?_
 ·simp
 obtain⟨k,w⟩:=x
 dsimp only at hF ⊢
 have hfl:=a8S b.j8 k
 refine .q 10 hG ⟨fun hc9 => ?_,fun hc9 => ?_⟩
 ·refine .q 8 hG ?_
  refine .ix (by omega) (by omega) ?_
  refine .q 7 hG ?_
  refine .go 19 a8 (.t a8) (fun hg23 => .idx a1v underlying24 (.q a8 hg23) (.q a8 hg23) (by first|omega|(simp;omega)|(have:=hg23;simp at this;omega)) (by first|omega|(simp;omega)|(have:=hg23;simp at this;omega)) a8) ?_
  refine .q 6 hG ?_
  refine .cond (.t a8) (fun hc28 => ?_) (fun hc28 => ?_)
  ·refine .q 3 hG ?_
   refine .ad (by omega) (by omega) ?_
   refine .bs a8 (by decide) fun b32 => ?_
   refine .ap (by simp<;>omega) (by simp<;>omega) fun w33 => ?_
   refine .q 1 hG ?_
   refine .drop ?_
   refine .q 3 hG ?_
   refine .ad (by omega) (by omega) ?_
   refine .q 2 hG ?_
   refine⟨(k+1,_),.c2 rfl rfl (.cons rfl (.nil _)),congrArg (fun q => [(true,D6.own _ _ q),_]) (by dsimp only;rw [a7U (by omega)];simp_all),?_,by dsimp only;omega⟩
   dsimp only;omega
  ·refine .q 3 hG ?_
   refine .ad (by omega) (by omega) ?_
   refine .q 2 hG ?_
   refine⟨(k+1,_),.c2 rfl rfl (.cons rfl (.nil _)),congrArg (fun q => [(true,D6.own _ _ q),_]) (by dsimp only;rw [a7U (by omega)];simp_all),?_,by dsimp only;omega⟩
   dsimp only;omega
 ·refine .q 2 hG ?_
  refine .u0 hC .z (.as 3 a8 .z ?_)
  refine .q 5 hG ?_
  refine .e1 a8 a8 ?_
  refine congrArg AV.v ?_
  rw [show k=b.j8.length by omega]
theorem b9u (a:List Int):p4 gl prog 22 [.v a,.v a] (fun r=>r = .v true):=by
 refine p4.jn func22 (by kernel_rfl) 26 rfl fun C hC hG => ?_
 refine .q 6 hG ?_
 refine .T3 0 a8 fun hl => ?_
 refine .q 7 hG ?_
 refine .K8 (.t a8) (fun hc10=>(by exfalso;exact hc10 rfl)) (fun hc10 => ?_)
 refine .q 7 hG ?_
 refine .D8 (α:=Nat) [(0,_),(1,_)] (fun k R=>(5,.v (k:Int))::R) (fun k => []) (fun k=>k≤a.length) (fun k=>a.length - k) (0) (.c2 a8 a8 (.nil _)) ?_ (.c2 a8 a8 (.cons a8 (.nil _))) (a8) fun k hF => ?_
 ·simp
 refine .q 9 hG ⟨fun hc14 => ?_,fun hc14 => ?_⟩
 ·refine .q 4 hG ?_
  refine .draw (by kernel_rfl) 9 [[],[],[(17,0),(18,1)],[(19,2)],[],[],[(21,4),(22,5)],[(23,6)],[(20,3),(24,7)]] a8 (by kernel_rfl) a8 ?_
  refine⟨_,j6.move (.t a8) a8,?_⟩
  refine⟨_,j6.move (.t a8) a8,?_⟩
  refine⟨_,j6.idx P5 underlying33 (.t a8) (.t a8) (by omega) (by omega) a8,?_⟩
  refine⟨_,j6.G6 P5 (.t a8) a8,?_⟩
  refine⟨_,j6.move (.t a8) a8,?_⟩
  refine⟨_,j6.move (.t a8) a8,?_⟩
  refine⟨_,j6.idx P5 underlying33 (.t a8) (.t a8) (by omega) (by omega) a8,?_⟩
  refine⟨_,j6.G6 P5 (.t a8) a8,?_⟩
  refine⟨_,j6.a7D (.t a8) (.t a8) a8,?_⟩
  show D0 _ _ _ _ _ [] ((25,_)::(24,_)::(23,_)::(22,_)::(21,_)::(20,_)::(19,_)::(18,_)::(17,_)::_) _
  refine .q 1 hG ?_
  refine .K8 (.t a8) (fun hc25=>(by exfalso;exact hc25 rfl)) (fun hc25 => ?_)
  refine .q 3 hG ?_
  refine .ad (by omega) (by omega) ?_
  refine .q 2 hG ?_
  refine⟨k+1,.c2 rfl rfl (.cons rfl (.nil _)),rfl,?_,by omega⟩
  omega
 ·refine .q 6 hG ?_
  refine .e1 a8 a8 ?_
  rfl
theorem c41 (a:List Int):p4 gl prog 17 [.v a] (fun r=>r = .v (decide ((a.length:Int) % 2=0))):=by
 refine p4.jn func17 (by kernel_rfl) 7 rfl fun C hC hG => ?_
 refine .q 8 hG ?_
 refine .p (.rem (.t a8) (.i a8) (by omega) (by omega) ?_)
 refine .q 4 hG ?_
 refine .e1 a8 a8 ?_
 rfl
theorem a8T (w:Value) (d:m5) (hd:G1 d):E4 gl prog 18 [dk w] [.ob w d] (fun r Hs=>∃ c:Cx,∃ d',G1 d'∧r = .v c∧Hs = [.ob w d']):=by
 refine E4.P8 func18 rfl (by kernel_rfl) 15 rfl rfl _ rfl _ rfl fun C hC hG => ?_
 refine .q 3 hG fun b2 => ?_
 refine .q 4 hG ?_
 refine .km hG (F0 _ _ _ (by first|assumption|exact x4 _) (by omega) (by omega)) .z1 (by rintro _ _ ⟨_,_,_,_,_,_,rfl⟩;exact⟨_,rfl⟩) fun r4 B4 hr4 => ?_
 obtain⟨v4,d4,h04,h14,hd4,rfl,hB⟩:=hr4
 cases hB
 refine .q 1 hG ?_
 refine .km hG (a43 _ _ _ _ (by first|assumption|exact x4 _) (by omega) (by omega) (by omega)) .z1 (by rintro _ _ ⟨_,_,_,_,_,_,rfl⟩;exact⟨_,rfl⟩) fun r6 B6 hr6 => ?_
 obtain⟨v6,d6,h06,h16,hd6,rfl,hB⟩:=hr6
 cases hB
 have hm1:v4*v6≤3*v6:=Int.mul_le_mul_of_nonneg_right (by omega) (by omega)
 have hm0:0≤v4*v6:=Int.mul_nonneg (by omega) (by omega)
 refine .p (.mul (.t a8) (.t a8) (by omega) (by omega) ?_)
 refine .q 1 hG ?_
 refine .km hG (F0 _ _ _ (by first|assumption|exact x4 _) (by omega) (by omega)) .z1 (by rintro _ _ ⟨_,_,_,_,_,_,rfl⟩;exact⟨_,rfl⟩) fun r9 B9 hr9 => ?_
 obtain⟨v9,d9,h09,h19,hd9,rfl,hB⟩:=hr9
 cases hB
 refine .q 1 hG ?_
 refine .km hG (a0w _ _ (by assumption)) .z1 (by rintro _ _ ⟨_,_,_,_,_,_,rfl⟩;exact⟨_,rfl⟩) fun r11 B11 hr11 => ?_
 obtain⟨v11,h011,h111,d11,hd11,rfl,hB⟩:=hr11
 cases hB
 refine .q 1 hG ?_
 refine .km hG (b1Y _ _ (by assumption)) .z1 (by rintro _ _ ⟨_,_,_,_,_,rfl⟩;exact⟨_,rfl⟩) fun r13 B13 hr13 => ?_
 obtain⟨s13,hs13,d13,hd13,rfl,hB⟩:=hr13
 cases hB
 refine .p (.bS4 y1.l0 y1.l1 y1.l2 y1.l3 a8 a8w c4m (fun c0 c1 c2 c3=>(⟨c0,c1,c2,c3⟩:y1)) (fun _ _ _ _=>a8) a8 a8 a8 a8 a8 (.t a8) (.t a8) (.t a8) (.t a8) ?_)
 refine .q 3 hG ?_
 refine⟨_,.r1 a8 (.cell a8w a8 .z),?_⟩
 refine⟨_,.cons .z1 (.nil),?_⟩
 exact⟨_,_,hd13,a8,a8⟩
theorem a7L (b:P9) (c:Cx) (deck how:List Int):p4 gl prog 7 [.v b,.v c,.v deck,.v how] (fun r=>r = .v true):=by
 refine p4.jn func7 (by kernel_rfl) 85 rfl fun C hC hG => ?_
 refine .q 3 hG fun b4 => ?_
 refine .q 1 hG fun b5 => ?_
 refine .q 4 hG ?_
 refine .y6 hC .z (.L6 5 a8 .z (.y6 hC .z1 (.L6 4 a8 .z1 ?_)))
 refine .q 12 hG ?_
 refine .cond (.t a8) (fun hc25 => ?_) (fun hc25 => ?_)
 ·refine .q 2 hG ?_
  refine .k hG (a9Q) ?_
  refine .q 3 hG ?_
  refine .e1 a8 a8 ?_
  rfl
 ·refine .q 5 hG ?_
  refine .k hG (c41 _) ?_
  refine .k0 hG (c2I _ _) fun r31 Hs31 hr31 => ?_
  obtain⟨s31,b31,p31,d31,⟨hm31,hd31⟩,rfl,rfl⟩:=hr31
  show D0 _ _ _ _ _ _ _ ((true,_)::_)
  refine .q 5 hG fun b9 => ?_
  refine .q 1 hG fun b10 => ?_
  refine .q 5 hG ?_
  have hf:=hm31.facts
  obtain⟨hpl,htb⟩:=hf
  refine .q 2 hG ?_
  refine .km hG (a8T _ _ (by assumption)) .z2 (by rintro _ _ ⟨_,_,_,_,rfl⟩;exact⟨_,rfl⟩) fun r36 B36 hr36 => ?_
  obtain⟨c36,d36,hd36,rfl,hB⟩:=hr36
  cases hB
  refine .q 1 hG fun b12 => ?_
  refine .q 3 hG ?_
  refine .D7 [j1,j1,j1,j0,j1,j1] (by kernel_rfl) 8 [[],[(37,0)],[(38,1)],[],[(40,3)],[(39,2),(41,4)],[(42,5)],[]] [4,5,6] a8 (by kernel_rfl) a8 (by kernel_rfl) (by decide) ?_
  refine⟨_,fun H=>j6.A9 p5.l6 a92 a8 (.t a8) a8,?_⟩
  refine⟨_,fun H=>j6.ldF (fun x=>x.G0) ty9 (.t a8) (u4.app .z2) (fun _=>a8) a8,?_⟩
  refine⟨_,fun H=>j6.E7 (α:=Y4) ty9 underlying71 (.cons (.s [97,110,110] (by decide) (by decide)) (.cons (.s [98,111,98] (by decide) (by decide)) (.cons (.t a8) .nil))) a8 (by decide) a8,?_⟩
  refine⟨_,fun H=>j6.move (.t a8) a8,?_⟩
  refine .inl (.inl (.inl ?_))
  refine⟨_,fun H=>j6.A9 y1.l3 b7w a8 (.t a8) a8,?_⟩
  refine⟨⟨([],j2 [c8,c8,c8,_,c8,c8]),a8⟩,?_⟩
  refine A0.a1m hG (F0 _ _ _ (by first|assumption|exact x4 _) (by omega) (by omega)) .z3 (.cons (.t rfl) (.cons (.i rfl) .nil)) (by rintro _ _ ⟨_,_,_,_,_,_,rfl⟩;exact⟨_,rfl⟩) fun r41 B41 hr41 => ?_
  obtain⟨v41,d41,h041,h141,hd41,rfl,hB⟩:=hr41
  cases hB
  refine⟨⟨([],j2 [c8,c8,c8,_,c8,c8]),a8⟩,?_⟩
  refine A0.ofP (j6.idx ty9 underlying71 (.c rfl) (.t rfl) (by omega) (by omega) ?_)
  refine⟨⟨([],j2 [c8,c8,c8,_,c8,c8]),a8⟩,?_⟩
  refine A0.ofP (j6.G6 ty9 (.t rfl) ?_)
  refine⟨⟨([],j2 [c8,c8,c8,_,c8,c8]),a8⟩,?_⟩
  show D0 _ _ _ _ _ [_] ((44,_)::(43,_)::(42,_)::(41,_)::(40,_)::(39,_)::(38,_)::(37,_)::_) _
  refine .q 3 hG ?_
  refine .a0O [[j1,j1,j1,j1,j1,j1],[j1,j1,j1,j1,j1,j1],[j1,j1,j1,j1,j1,j1]] [[j1,j1,j1,j1,j1,j1],[j1,j1,j1,j1,j1,j1],[],[j1,j1,j1,j1,j1,j1],[],[]] [] [(5,(⟨u1,inferInstance,default⟩:AT))] 2 (by kernel_rfl) 6 [[],[],[(46,1)],[],[(45,0),(47,2),(48,3)],[]] [2,4] rfl (by kernel_rfl) rfl (by kernel_rfl) rfl (by decide) (by simp) (List.forall_mem_cons.2 ⟨fun o ho=>by obtain rfl:=Option.some.inj (show some _=some o from ho);exact⟨rfl,fun _ _=>A0.alloc U3 fun b=>⟨b,rfl,rfl⟩⟩,(fun p hp=>by cases hp)⟩) (by kernel_rfl) rfl ?_
  refine⟨_,fun H=>j6.S4 U3 (.t a8) (u4.app .z1) a8,?_⟩
  refine⟨_,fun H=>j6.move (.t a8) a8,?_⟩
  refine .inl ?_
  refine⟨_,fun H=>j6.M8 (default:(I8 32 UInt8)) A5 M6 .nil a8 a8,?_⟩
  refine .inl (.inl ?_)
  refine⟨a8,?_⟩
  refine⟨⟨j2 [c8,c8,c8,c8,c8,c8],a8⟩,fun Ys6 => ?_⟩
  refine A0.a6a hG (a9t _) (.cons (.t rfl) .nil) fun r47 Hs47 hr47 => ?_
  obtain⟨b47,rfl,rfl⟩:=hr47
  refine⟨[_],_,a8,?_⟩
  refine⟨⟨j2 [c8,c8,c8,c8,c8,c8],a8⟩,fun Ys6 => ?_⟩
  refine A0.a1m hG (b4y _ _ _ _ _ (by first|assumption|exact x4 _) (by assumption) (by decide)) .z (.cons (.t rfl) (.cons (.t rfl) (.cons (.t rfl) .nil))) (by rintro _ _ ⟨_,_,_,_,_,rfl⟩;exact⟨_,rfl⟩) fun r49 B49 hr49 => ?_
  obtain⟨y49,hy49,d49,hd49,rfl,hB⟩:=hr49
  cases hB
  refine⟨[_],_,a8,?_⟩
  refine⟨⟨j2 [c8,c8,c8,c8,c8,c8],a8⟩,fun ws6 => ?_⟩
  refine⟨⟨j2 [c8,c8,c8,c8,c8,c8],a8⟩,fun _ => ?_⟩
  show D0 _ _ _ _ _ [_] ((13,_)::(49,_)::(48,_)::(47,_)::(46,_)::(45,_)::_) _
  refine .n (.R6 U3 (.t a8) (.t a8) .z1 ?_)
  refine .q 4 hG ?_
  refine .p (.S4 U3 (.t a8) .z3 (.p (.G6 U3 (.t a8) (.p (.S4 U3 (.t a8) .z1 (.h (.buildSlice (α:=u1) U3 underlying52 (.cons (.t a8) (.cons (.t a8) (.cons (.t a8) .nil))) a8 (by decide) fun b53 => .p (.a4v underlying52 a8 .z ?_))))))))
  refine .q 1 hG ?_
  refine .u0 hC .z (.as 53 a8 .z ?_)
  have hq:b.j8.length≤70:=(by simp at hc25;omega)
  have hl:∀ z∈([b31,b,y49]:List P9),z.j8.length≤1000000:=(by have h1:=htb.cav;have h2:=hy49.cav;simp;omega)
  refine .q 2 hG ?_
  refine .D8 (α:=Nat) [(5,_),(12,_),(53,_),(54,_)] (fun j R=>(55,.v (j:Int))::R) (Function.const _ _) (fun j=>j≤3) (fun j=>3 - j) (0) (.c2 a8 a8 (.c2 a8 a8 (.nil _))) ?_ (.c2 a8 a8 (.c2 a8 a8 (.cons a8 (.nil _)))) (a8) fun j hF => ?_
  ·simp
  refine .q 6 hG ⟨fun hc56 => ?_,fun hc56 => ?_⟩
  ·refine .q 5 hG ?_
   refine .ix (by omega) (by omega) ?_
   refine .q 2 hG fun b15 => ?_
   refine .q 3 hG ?_
   refine .draw (by kernel_rfl) 24 [[],[],[(59,0),(60,1)],[],[],[(62,3),(63,4)],[(61,2),(64,5)],[(65,6)],[],[],[(67,8),(68,9)],[],[],[(70,11),(71,12)],[(69,10),(72,13)],[(66,7),(73,14)],[(74,15)],[],[(76,17)],[],[(78,19)],[(77,18),(79,20)],[(80,21)],[(75,16),(81,22)]] a8 (by kernel_rfl) a8 ?_
   refine⟨_,j6.S4 U3 (.t a8) .z a8,?_⟩
   refine⟨_,j6.G6 a8w (.t a8) a8,?_⟩
   refine⟨_,j6.o8 hG (a9T _ _ (hl _ (List.getElem_mem _))) (.cons (.t a8) (.cons (.t a8) .nil)) a8,?_⟩
   refine⟨_,j6.S4 U3 (.t a8) .z a8,?_⟩
   refine⟨_,j6.G6 a8w (.t a8) a8,?_⟩
   refine⟨_,j6.o8 hG (a8Q _ _ (hl _ (List.getElem_mem _))) (.cons (.t a8) (.cons (.t a8) .nil)) a8,?_⟩
   refine⟨_,j6.a7D (.t a8) (.t a8) a8,?_⟩
   refine⟨_,j6.move (.t a8) a8,?_⟩
   refine⟨_,⟨_,_,a8,a8,fun hg67=>j6.S4 U3 (.t a8) .z a8⟩,?_⟩
   refine⟨_,⟨_,_,a8,a8,fun hg68=>j6.S4 a8w (.t a8) .z4 a8⟩,?_⟩
   refine⟨_,⟨_,_,a8,a8,fun hg69=>j6.o8 hG (a9T _ _ (hl _ (List.getElem_mem _))) (.cons (.q a8 hg69) (.cons (.q a8 hg69) .nil)) a8⟩,?_⟩
   refine⟨_,⟨_,_,a8,a8,fun hg70=>j6.S4 U3 (.t a8) .z a8⟩,?_⟩
   refine⟨_,⟨_,_,a8,a8,fun hg71=>j6.S4 a8w (.t a8) .z4 a8⟩,?_⟩
   refine⟨_,⟨_,_,a8,a8,fun hg72=>j6.o8 hG (a8Q _ _ (hl _ (List.getElem_mem _))) (.cons (.q a8 hg72) (.cons (.q a8 hg72) .nil)) a8⟩,?_⟩
   refine⟨_,⟨_,_,a8,a8,fun hg73=>j6.a7D (.q a8 hg73) (.q a8 hg73) a8⟩,?_⟩
   refine⟨_,j6.a3Q (.t a8) (fun hp=>(.q a8 hp)) a8,?_⟩
   refine⟨_,j6.move (.t a8) a8,?_⟩
   refine⟨_,⟨_,_,a8,a8,fun hg76=>j6.S4 U3 (.t a8) .z a8⟩,?_⟩
   refine⟨_,⟨_,_,a8,a8,fun hg77=>j6.o8 hG (b9t _ (hl _ (List.getElem_mem _))) (.cons (.q a8 hg77) .nil) a8⟩,?_⟩
   refine⟨_,⟨_,_,a8,a8,fun hg78=>j6.S4 U3 (.t a8) .z a8⟩,?_⟩
   refine⟨_,⟨_,_,a8,a8,fun hg79=>j6.o8 hG (b6R _ (hl _ (List.getElem_mem _))) (.cons (.q a8 hg79) .nil) a8⟩,?_⟩
   refine⟨_,⟨_,_,a8,a8,fun hg80=>j6.o8 hG (b9u _) (.cons (.q a8 hg80) (.cons (.q a8 hg80) .nil)) a8⟩,?_⟩
   refine⟨_,⟨_,_,a8,a8,fun hg81=>j6.not (.q a8 hg81) a8⟩,?_⟩
   refine⟨_,j6.a3Q (.t a8) (fun hp=>(.q a8 hp)) a8,?_⟩
   show D0 _ _ _ _ _ [] ((82,_)::(81,_)::(80,_)::(79,_)::(78,_)::(77,_)::(76,_)::(75,_)::(74,_)::(73,_)::(72,_)::(71,_)::(70,_)::(69,_)::(68,_)::(67,_)::(66,_)::(65,_)::(64,_)::(63,_)::(62,_)::(61,_)::(60,_)::(59,_)::_) _
   refine .q 1 hG ?_
   refine .cond (.t a8) (fun hc82=>(by exfalso;simp at hc82)) (fun hc82 => ?_)
   refine .q 1 hG ?_
   refine .drop ?_
   refine .q 1 hG ?_
   refine .ad (by omega) (by omega) ?_
   refine .q 2 hG ?_
   refine⟨j+1,.c2 rfl rfl (.c2 rfl rfl (.cons rfl (.nil _))),rfl,?_,by simp at hc56;omega⟩
   simp at hc56;omega
  ·refine .q 3 hG ?_
   refine .k hG (a9Q) ?_
   refine .q 3 hG ?_
   refine .e1 a8 a8 ?_
   rfl
end Go.Proofs.YtmmclghiidoldaaGreatDoor
namespace Go.Fl
open Go.ChangeShapes Go.WideShapes Go.ChangeAt Go.RowKit
def a5X (W:World):Im:=fun b=>W.heap[b]?
theorem b9v (W:World):Mem (a5X W) [] W:=⟨fun b o h=>h,by simp,by simp,by simp⟩
theorem Fun.calls {P : Program} {f : FuncId} {args : Array Value} {W : World} {r : Value} (h : Fun P f args (a5X W) (fun v _ => v = r)) :
    Calls P f args W (fun e W'=>e = .returned r∧Below W.heap.size W W') :=
  (h.run W (b9v W)).mono fun e w' ⟨v,J,he,hc,_,_,_,hv⟩=>⟨by rw [he,hv],⟨hc.os,hc.tape,hc.output,hc.size,fun k hk=>hc.block k hk (by simp)⟩⟩
theorem a1F {W:World} {x:Addr} {v:Value} (h:W.cell? x=some v):x.spot=none∧∃ cs e fr,W.heap[x.block]?=some (.cells cs e fr)∧cs[x.off]?=some v:=by
 unfold World.cell? at h
 split at h
 ·rename_i c e fr heq
  split at h
  ·cases h
  ·rename_i hs
   exact⟨by simpa using hs,c,e,fr,heq,h⟩
 ·cases h
theorem b4A {P : Program} {W : World} {n : String} {d : DataW Unit} {l : List UInt32} {g : Nat} {T E : TypeId} (hg : P.globalNamed n = some g) (ht : (P.globals[g]?).map (·.type) = some T) (hT : P.underlying T = some (.array l.length E))
    (hE:P.underlying E=some (.int .u32)) (hone:P.cellsOf E=1) (hl:0 < l.length) (hd:d = .agg (l.map fun k => .lit (.int .u32 (k.toNat:Int)))) (h:laidMet P [(n,d)] W):Cells (a5X W) g 0 (l.map u32):=by
  obtain⟨ps,⟨g2,t,cs,fuel,p,q,hg2,ht2,hvar,htr,_,_⟩,_⟩:=h
  obtain rfl:=Option.some.inj (hg.symm.trans hg2)
  obtain rfl:=Option.some.inj (ht.symm.trans ht2)
  obtain⟨xs,m,_,hx,hlen,hxl,hel⟩:=DataW.trod_array hT htr
  have hxd:xs.map (·.1)=l.map fun k=>DataW.lit (.int .u32 (k.toNat:Int)):=by
    have:=(Prod.mk.inj hx).1
    rw [hd] at this
    injection this with h2
    exact h2.symm
  have hcell:∀ (i:Nat) (v:Value),(l.map u32)[i]?=some v→cs[i]?=some v:=by
    intro i v hv
    have hi:i < l.length:=by simpa using (List.getElem?_eq_some_iff.1 hv).1
    have h1:=hel i hi
    rw [hone] at h1
    have hxi:xs[i]?=some (xs[i]'(by omega)):=List.getElem?_eq_getElem (by omega)
    rw [hxi] at h1
    obtain⟨k,hk1,hk2,_⟩:=DataW.trod_int hE h1
    have hfst:(xs.map (·.1))[i]?=some (DataW.lit (.int .u32 k)):=by rw [List.getElem?_map,hxi,Option.map_some,hk2]
    rw [hxd,List.getElem?_map,List.getElem?_eq_getElem hi] at hfst
    simp at hfst
    have hci:cs.toList[i]?=some (.int .u32 k):=by
      have:((cs.toList.drop (i*1)).take 1)[0]?=some (.int .u32 k):=by rw [hk1];rfl
      simpa [List.getElem?_take,List.getElem?_drop] using this
    rw [List.getElem?_map,List.getElem?_eq_getElem hi,Option.map_some] at hv
    have hv:=Option.some.inj hv
    rw [←hv,u32,hfst]
    simpa using hci
  have h0:∃ v,(l.map u32)[0]?=some v:=⟨_,List.getElem?_eq_getElem (by simpa using hl)⟩
  obtain⟨v0,hv0⟩:=h0
  have hc0:=World.var?_cell hg hvar 0
  rw [hcell 0 v0 hv0] at hc0
  obtain⟨_,cs2,e,fr,hob,_⟩:=a1F hc0
  refine⟨cs2,e,fr,hob,fun i v hv => ?_⟩
  have h3:=World.var?_cell hg hvar i
  rw [hcell i v hv] at h3
  obtain⟨_,cs3,e3,fr3,hob3,hv3⟩:=a1F h3
  have:Obj.cells cs2 e fr=Obj.cells cs3 e3 fr3:=Option.some.inj (hob.symm.trans hob3)
  cases this
  simpa using hv3
end Go.Fl
namespace Go.Ab
open Go.Fl Go.RowKit Go.ChangeShapes Go.WideShapes Go.ChangeAt
open o7 (rep)
def M1 (P:Program) (T:TypeId) (α:Type) [o7 α]:Prop:=P.cellsOf T=o7.size α ∧
 ∀ (H:Type) (enc:TypeId×Value→H) (W:World) (base:Nat) (spare:Nat→Bool) (held:Bool) (fuel:Nat) (cs:List Value) (x:DataW H×List MemPlace),DataW.trod enc P W base spare held fuel T cs=some x→∃ a:α,rep (a5X W) a cs
variable {P:Program} {T E:TypeId}
theorem M1.i64 (hT:P.underlying T=some (.int .i64)) (hc:P.cellsOf T=1):M1 P T Int:=⟨hc,fun H enc W base spare held fuel cs x h=>by
 obtain⟨n,rfl,_,hw⟩:=DataW.trod_int hT h
 simp [Lit.wf,IntKind.min,IntKind.max,IntKind.signed,IntKind.bits] at hw
 exact⟨n,rfl,by omega,by omega⟩⟩
theorem M1.u8 (hT:P.underlying T=some (.int .u8)) (hc:P.cellsOf T=1):M1 P T UInt8:=⟨hc,fun H enc W base spare held fuel cs x h=>by
 obtain⟨n,rfl,_,hw⟩:=DataW.trod_int hT h
 simp [Lit.wf,IntKind.min,IntKind.max,IntKind.signed,IntKind.bits] at hw
 refine⟨UInt8.ofNat n.toNat,?_⟩
 show [Value.int .u8 n] = [Fl.u8 _]
 unfold Fl.u8
 congr 2;simp;omega⟩
theorem M1.u64 (hT:P.underlying T=some (.int .u64)) (hc:P.cellsOf T=1):M1 P T UInt64:=⟨hc,fun H enc W base spare held fuel cs x h=>by
 obtain⟨n,rfl,_,hw⟩:=DataW.trod_int hT h
 simp [Lit.wf,IntKind.min,IntKind.max,IntKind.signed,IntKind.bits] at hw
 refine⟨UInt64.ofNat n.toNat,?_⟩
 show [Value.int .u64 n] = [Fl.u64 _]
 unfold Fl.u64
 congr 2;simp;omega⟩
theorem M1.bool (hT:P.underlying T=some .bool) (hc:P.cellsOf T=1):M1 P T Bool:=⟨hc,fun H enc W base spare held fuel cs x h=>by
 obtain⟨n,rfl,_⟩:=DataW.trod_bool hT h
 exact⟨n,a8⟩⟩
theorem M1.str (hT:P.underlying T=some .string) (hc:P.cellsOf T=1):M1 P T Y4:=⟨hc,fun H enc W base spare held fuel cs x h=>by
 obtain⟨s,rfl,_,hs⟩:=DataW.trod_string hT h
 refine⟨⟨s.data.toList⟩,⟨s,a8,a8⟩,?_⟩
 show s.data.toList.length≤_
 have:s.data.toList.length=s.size:=rfl
 unfold maxLen at hs
 omega⟩
theorem add_add (a:Addr) (i j:Nat):(a.add i).add j=a.add (i+j):=by
 unfold Addr.add
 rcases a with ⟨b,o,_|s⟩<;>by_cases hi:i=0<;>by_cases hj:j=0<;>simp [hi,hj,Nat.add_assoc]
theorem M1.slice {α:Type} {r:o7 α} (hT:P.underlying T=some (.slice E)) (hc:P.cellsOf T=1) (hE:M1 P E α) (hp:0 < o7.size α):M1 P T (List α):=⟨hc,fun H enc W base spare held fuel cs x h=>by
 rcases DataW.trod_slice hT h with ⟨rfl,_⟩|⟨a,len,cap,elems,rest,n,_,rfl,_,hb,hl,hm,hel,hget,_⟩
 ·exact⟨[],_,a8,[],Sl.nil _ _,a8⟩
 ·have key:∀ k,k≤len→∃ (l:List α) (xs:List Value),l.length=k∧K0 (a5X W) l xs∧∀ i v,xs[i]?=some v→W.cell? (a.add i)=some v:=by
   intro k
   induction k with
   | zero=>exact fun _=>⟨[],[],rfl,rfl,fun i v hv=>by simp at hv⟩
   | succ k ih =>
    intro hk
    obtain⟨l,xs,h1,h2,h3⟩:=ih (by omega)
    have hg:=hget k (by omega)
    rw [List.getElem?_eq_getElem (by omega)] at hg
    obtain⟨c,hc1,hc2⟩:=Option.bind_eq_some_iff.1 hg
    obtain⟨_,hcl,hcell⟩:=World.cells?_some hc1
    obtain⟨y,hy⟩:=hE.2 H enc W base spare held n c _ hc2
    refine⟨l ++ [y],xs++c,by simp [h1],h2.append (.one hy),fun i v hv => ?_⟩
    have hxl:xs.length=k*o7.size α:=by rw [h2.len,h1]
    by_cases hi:i < xs.length
    ·rw [List.getElem?_append_left hi] at hv;exact h3 i v hv
    ·rw [List.getElem?_append_right (by omega)] at hv
     have hj:=(List.getElem?_eq_some_iff.1 hv).1
     have:=hcell (i - xs.length) (by omega)
     rw [hv,hE.1,add_add,←hxl,show xs.length+(i - xs.length)=i by omega] at this
     exact this
  obtain⟨l,xs,h1,h2,h3⟩:=key len (Nat.le_refl _)
  have hxl:=h2.len
  refine⟨l,_,rfl,xs,⟨_,_,by rw [h1],h2.len,by omega,hm,(fun h=>by cases h),fun hne => ?_⟩,h2⟩
  rcases a with ⟨ab,ao,ags⟩
  obtain⟨v0,hv0⟩:∃ v,xs[0]?=some v:=⟨_,List.getElem?_eq_getElem (List.length_pos_iff.2 hne)⟩
  have hc0:=h3 0 v0 hv0
  obtain⟨hsp,cs,e,fr,hob,_⟩:=a1F hc0
  have hsp2:ags=none:=by
   cases ags with
   | none=>rfl
   | some q =>
    unfold Addr.add at hsp
    simp at hsp
  subst hsp2
  rw [Addr.add_plain] at hob
  have hob:W.heap[ab]?=some (Obj.cells cs e fr):=hob
  refine⟨ab,ao,a8,cs,e,fr,hob,fun i v hv => ?_⟩
  have hcv:=h3 i v hv
  rw [Addr.add_plain] at hcv
  obtain⟨_,cs2,e2,fr2,hob2,hv2⟩:=a1F hcv
  have:Obj.cells cs e fr=Obj.cells cs2 e2 fr2:=Option.some.inj (hob.symm.trans hob2)
  cases this
  exact hv2⟩
theorem M1.array {α:Type} {r:o7 α} {n:Nat} (hT:P.underlying T=some (.array n E)) (hc:P.cellsOf T=n*o7.size α) (hE:M1 P E α):M1 P T (I8 n α):=⟨hc,fun H enc W base spare held fuel cs x h=>by
 obtain⟨xs,m,_,_,hlen,hxl,hel⟩:=DataW.trod_array hT h
 have key:∀ k,k≤n→∃ l:List α,l.length=k∧K0 (a5X W) l (cs.take (k*o7.size α)):=by
  intro k
  induction k with
  | zero=>exact fun _=>⟨[],rfl,by simp [K0]⟩
  | succ k ih =>
   intro hk
   obtain⟨l,h1,h2⟩:=ih (by omega)
   have hg:=hel k (by omega)
   rw [List.getElem?_eq_getElem (by omega),hE.1] at hg
   obtain⟨y,hy⟩:=hE.2 H enc W base spare held m _ _ hg
   refine⟨l ++ [y],by simp [h1],?_⟩
   have e:cs.take ((k+1)*o7.size α)=cs.take (k*o7.size α)++(cs.drop (k*o7.size α)).take (o7.size α):=by
    rw [Nat.succ_mul,List.take_add]
   rw [e]
   exact h2.append (.one hy)
 obtain⟨l,h1,h2⟩:=key n (Nat.le_refl _)
 refine⟨⟨l,h1⟩,?_⟩
 show K0 (a5X W) l cs
 rwa [List.take_of_length_le (by rw [hlen,hc];exact Nat.le_refl _)] at h2⟩
inductive a65 (P:Program):List Field→Nat→(β:Type)→o7 β→Prop
 | nil {off:Nat}:a65 P [] off Unit inferInstance
 | cons {f:Field} {fs:List Field} {off:Nat} {α β:Type} {r:o7 α} {s:o7 β} (h1:f.offset=off) (h2:M1 P f.type α) (t:a65 P fs (off+o7.size α) β s):a65 P (f::fs) off (α×β) inferInstance
theorem a65.run {fs : List Field} {off : Nat} {β : Type} {s : o7 β} (h : a65 P fs off β s) {H : Type} {enc : TypeId × Value → H} {W : World} {base : Nat} {spare : Nat → Bool} {held : Bool} {n : Nat} {cs : List Value} (hl : cs.length = off + o7.size β)
    (hg:∀ (i:Nat) (f:Field),fs[i]?=some f→∃ x,DataW.trod enc P W base spare held n f.type ((cs.drop f.offset).take (P.cellsOf f.type))=some x):∃ b:β,rep (a5X W) b (cs.drop off):=by
  induction h with
  | nil=>exact⟨(),List.drop_eq_nil_of_le (by rw [hl];exact Nat.le_refl _)⟩
  | @cons f fs off α β r s h1 h2 t ih =>
    obtain⟨x,hx⟩:=hg 0 f rfl
    rw [h1,h2.1] at hx
    obtain⟨y,hy⟩:=h2.2 H enc W base spare held n _ _ hx
    obtain⟨b,hb⟩:=ih (by rw [hl];show off+(o7.size α+o7.size β)=_;omega) (fun i f' hf=>hg (i+1) f' (by simpa using hf))
    refine⟨(y,b),_,_,?_,hy,hb⟩
    rw [←List.drop_drop,List.take_append_drop]
theorem M1.struct {S β:Type} [s:o7 β] {fs:Array Field} (f:S→β) (g:β→S) (hfg:∀ b,f (g b)=b) (hT:P.underlying T=some (.struct fs)) (hc:P.cellsOf T=o7.size β) (h:a65 P fs.toList 0 β s) : @M1 P T S (o7.via f) :=
 letI:o7 S:=o7.via f
 ⟨hc,fun H enc W base spare held fuel cs x hx=>by
  obtain⟨xs,n,_,_,hlen,hxl,hel⟩:=DataW.trod_struct hT hx
  obtain⟨b,hb⟩:=h.run (W:=W) (enc:=enc) (base:=base) (spare:=spare) (held:=held) (n:=n) (cs:=cs) (by rw [hlen,hc];omega) (fun i f hf=>by
   have hf':fs[i]?=some f:=by simpa using hf
   have:=hel i f hf'
   have hi:=(Array.getElem?_eq_some_iff.1 hf').1
   exact⟨_,this.trans (List.getElem?_eq_getElem (by omega))⟩)
  exact⟨g b,by show rep (a5X W) (f (g b)) cs;rw [hfg];simpa using hb⟩⟩
theorem M1.val {α : Type} {r : o7 α} (h : M1 P T α) {H : Type} {enc : TypeId × Value → H} {W : World} {base : Nat} {spare : Nat → Bool} {held : Bool} {v : Value} {d : DataW H} {p : List MemPlace} (ht : DataW.Trod enc P W base spare held T v d p)
    (hv:∀ cs:List Value,v.cells.toList=cs→v=asV (o7.agg α) cs):∃ a:α,E1 (a5X W) (.v a) v:=by
  obtain⟨fuel,hf⟩:=ht
  obtain⟨a,ha⟩:=h.2 H enc W base spare held fuel _ _ hf
  exact⟨a,_,ha,hv _ a8⟩
theorem p4.calls {G : Gl} {f : FuncId} {ags : List AV} {vs : List Value} {W : World} (h : p4 G P f ags (fun r => r = .v true)) (hG : G.p (a5X W)) (hv : S6 (a5X W) ags vs) :
    Calls P f vs.toArray W (fun e W'=>e = .returned (.bool true)∧Below W.heap.size W W') :=
  Fun.calls ((h (a5X W) vs hG hv).mono fun v J _ ⟨r,h1,h2⟩=>by
    subst h2
    obtain⟨cs,rfl,rfl⟩:=h1
    rfl)
theorem a8U {dd:TypeDesc} (hT:P.underlying T=some dd) (hr:a0Y dd=true) {W:World} {r:Reach} {base:Nat} {v:Value} (h:Value.okWide P W r base T v):∃ cs,v = .agg cs:=by
 unfold Value.okWide at h
 rw [hT] at h
 cases dd<;>first|(simp [a0Y] at hr;done)|(obtain⟨cs,h1,_⟩:=h;exact⟨cs,h1⟩)
theorem b2L {v:Value} (h:v.cells = #[v]):∀ cs:List Value,v.cells.toList=cs→v=asV false cs:=fun cs hc=>by
 rw [h] at hc;subst hc;rfl
theorem b2M {xs:Array Value}:∀ cs:List Value,(Value.agg xs).cells.toList=cs→Value.agg xs=asV true cs:=fun cs hc=>by
 subst hc;simp [asV,Value.cells]
end Go.Ab
namespace Go.Fl
open Go.RowKit
theorem b6S {P : Program} {W : World} {n : String} {d : DataW Unit} {l : List Int} {g : Nat} {T E : TypeId} (hg : P.globalNamed n = some g) (ht : (P.globals[g]?).map (·.type) = some T) (hT : P.underlying T = some (.array l.length E))
    (hE:P.underlying E=some (.int .i64)) (hone:P.cellsOf E=1) (hl:0 < l.length) (hd:d = .agg (l.map fun k => .lit (.int .i64 k))) (h:laidMet P [(n,d)] W):Cells (a5X W) g 0 (l.map i64):=by
  obtain⟨ps,⟨g2,t,cs,fuel,p,q,hg2,ht2,hvar,htr,_,_⟩,_⟩:=h
  obtain rfl:=Option.some.inj (hg.symm.trans hg2)
  obtain rfl:=Option.some.inj (ht.symm.trans ht2)
  obtain⟨xs,m,_,hx,hlen,hxl,hel⟩:=DataW.trod_array hT htr
  have hxd:xs.map (·.1)=l.map fun k=>DataW.lit (.int .i64 k):=by
    have:=(Prod.mk.inj hx).1
    rw [hd] at this
    injection this with h2
    exact h2.symm
  have hcell:∀ (i:Nat) (v:Value),(l.map i64)[i]?=some v→cs[i]?=some v:=by
    intro i v hv
    have hi:i < l.length:=by simpa using (List.getElem?_eq_some_iff.1 hv).1
    have h1:=hel i hi
    rw [hone] at h1
    have hxi:xs[i]?=some (xs[i]'(by omega)):=List.getElem?_eq_getElem (by omega)
    rw [hxi] at h1
    obtain⟨k,hk1,hk2,_⟩:=DataW.trod_int hE h1
    have hfst:(xs.map (·.1))[i]?=some (DataW.lit (.int .i64 k)):=by rw [List.getElem?_map,hxi,Option.map_some,hk2]
    rw [hxd,List.getElem?_map,List.getElem?_eq_getElem hi] at hfst
    simp at hfst
    have hci:cs.toList[i]?=some (.int .i64 k):=by
      have:((cs.toList.drop (i*1)).take 1)[0]?=some (.int .i64 k):=by rw [hk1];rfl
      simpa [List.getElem?_take,List.getElem?_drop] using this
    rw [List.getElem?_map,List.getElem?_eq_getElem hi,Option.map_some] at hv
    have hv:=Option.some.inj hv
    rw [←hv,i64,hfst]
    simpa using hci
  have h0:∃ v,(l.map i64)[0]?=some v:=⟨_,List.getElem?_eq_getElem (by simpa using hl)⟩
  obtain⟨v0,hv0⟩:=h0
  have hc0:=World.var?_cell hg hvar 0
  rw [hcell 0 v0 hv0] at hc0
  obtain⟨_,cs2,e,fr,hob,_⟩:=a1F hc0
  refine⟨cs2,e,fr,hob,fun i v hv => ?_⟩
  have h3:=World.var?_cell hg hvar i
  rw [hcell i v hv] at h3
  obtain⟨_,cs3,e3,fr3,hob3,hv3⟩:=a1F h3
  have:Obj.cells cs2 e fr=Obj.cells cs3 e3 fr3:=Option.some.inj (hob.symm.trans hob3)
  cases this
  simpa using hv3
end Go.Fl
namespace Go.Proofs.YtmmclghiidoldaaGreatDoor
open Go.Proofs.Tryz
open Go.Fl Go.Ab Go.Mac Go.Sha
open Go.ChangeShapes Go.WideShapes Go.ChangeAt Go.RowKit
theorem c42:ownKnob prog.godebug=none:=by kernel_rfl
theorem a6v:laidOutB prog=true:=by kernel_rfl
noncomputable def b9w (os:Os):World :=
  let w0:=World.holding prog os ⟨#[],#[],[]⟩
  { w0 with heap := (w0.heap.modify 1 fun
      | .cells _ t frozen => .cells (kk.map Fl.u32).toArray t frozen
      | o=>o).modify 0 fun
      | .cells _ t frozen => .cells (a6h.l.map i64).toArray t frozen
      | o=>o }
def b5I:List (String×DataW Unit) := [("macaroon/sha.k", Rows.laid_macaroon_sha_k),("macaroon/predicate.bits", Rows.laid_macaroon_predicate_bits)]
set_option maxRecDepth 100000 in
theorem c3Z (os:Os) (args:Array Value):laidMet prog b5I ((b9w os).forCall (fun _ _=>0) ⟨#[],args,[]⟩).memory :=
 laidMet_of_run' 8 (by kernel_rfl) (by kernel_rfl)
set_option maxRecDepth 100000 in
theorem c30:b5I.filter (fun x=>x.1 == "macaroon/sha.k") = [("macaroon/sha.k", Rows.laid_macaroon_sha_k)]:=by kernel_rfl
set_option maxRecDepth 100000 in
theorem c31:b5I.filter (fun x=>x.1 == "macaroon/predicate.bits") = [("macaroon/predicate.bits", Rows.laid_macaroon_predicate_bits)]:=by kernel_rfl
set_option maxRecDepth 100000 in
theorem c06 {W:World} (h:laidMet prog b5I W):gl.p (a5X W):=by
 have h1:=h.filter fun x=>x.1 == "macaroon/sha.k"
 have h2:=h.filter fun x=>x.1 == "macaroon/predicate.bits"
 rw [c30] at h1
 rw [c31] at h2
 exact⟨b4A (l:=kk) (T:=276) (E:=248) (by kernel_rfl) (by kernel_rfl) underlying276 underlying248 (by kernel_rfl) (by decide) a8 h1,
  b6S (l:=a6h.l) (T:=190) (E:=3) (by kernel_rfl) (by kernel_rfl) underlying190 underlying3 (by kernel_rfl) (by decide) rfl h2⟩
theorem op3:M1 prog 3 Int := .i64 underlying3 (by kernel_rfl)
theorem c43:M1 prog 23 u3 := .struct u3.f (fun b=>⟨b.1,b.2.1⟩) (fun _=>rfl) underlying23 (by kernel_rfl) (.cons rfl op3 (.cons rfl op3 .nil))
theorem op4:M1 prog 4 Bool := .bool underlying4 (by kernel_rfl)
theorem c44:M1 prog 77 UInt64 := .u64 underlying77 (by kernel_rfl)
theorem op9:M1 prog 9 Y4 := .str underlying9 (by kernel_rfl)
theorem c32:M1 prog 97 j3 := .struct j3.f (fun b=>⟨b.1,b.2.1,b.2.2.1,b.2.2.2.1,b.2.2.2.2.1,b.2.2.2.2.2.1⟩) (fun _=>rfl) underlying97 (by kernel_rfl) (.cons rfl op3 (.cons rfl c44 (.cons rfl op3 (.cons rfl op3 (.cons rfl op9 (.cons rfl op3 .nil))))))
theorem op5:M1 prog 5 UInt8 := .u8 underlying5 (by kernel_rfl)
theorem c2M:M1 prog 86 (List UInt8) := .slice underlying86 (by kernel_rfl) op5 (by decide)
theorem c45:M1 prog 99 o5 := .struct o5.f (fun b=>⟨b.1,b.2.1,b.2.2.1,b.2.2.2.1,b.2.2.2.2.1⟩) (fun _=>rfl) underlying99 (by kernel_rfl) (.cons rfl op4 (.cons rfl c32 (.cons rfl op3 (.cons rfl c2M (.cons rfl c2M .nil)))))
theorem c46:M1 prog 24 (List o5) := .slice underlying24 (by kernel_rfl) c45 (by decide)
theorem c33:M1 prog 26 (I8 32 UInt8) := .array underlying26 (by kernel_rfl) op5
theorem c47:M1 prog 83 (List j3) := .slice underlying83 (by kernel_rfl) c32 (by decide)
theorem c48:M1 prog 88 p9 := .struct p9.f (fun b=>⟨b.1,b.2.1,b.2.2.1⟩) (fun _=>rfl) underlying88 (by kernel_rfl) (.cons rfl c2M (.cons rfl c47 (.cons rfl c33 .nil)))
theorem c49:M1 prog 27 (List p9) := .slice underlying27 (by kernel_rfl) c48 (by decide)
theorem c5a:M1 prog 29 u1 := .struct u1.f (fun b=>⟨b.1,b.2.1,b.2.2.1,b.2.2.2.1,b.2.2.2.2.1,b.2.2.2.2.2.1⟩) (fun _=>rfl) underlying29 (by kernel_rfl) (.cons rfl c43 (.cons rfl op3 (.cons rfl op3 (.cons rfl c46 (.cons rfl c33 (.cons rfl c49 .nil))))))
theorem c34:M1 prog 33 (List Int) := .slice underlying33 (by kernel_rfl) op3 (by decide)
theorem c5b:M1 prog 69 y1 := .struct y1.f (fun b=>⟨b.1,b.2.1,b.2.2.1,b.2.2.2.1⟩) (fun _=>rfl) underlying69 (by kernel_rfl) (.cons rfl op3 (.cons rfl op3 (.cons rfl op3 (.cons rfl op9 .nil))))
end Go.Proofs.YtmmclghiidoldaaGreatDoor
