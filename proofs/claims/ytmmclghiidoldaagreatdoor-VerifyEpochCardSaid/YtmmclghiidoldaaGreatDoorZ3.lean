/- Plain Lean over any program, and walks of this seat's functions: contracts, each proved once (part 3). -/
import Derived.Test.YtmmclghiidoldaaGreatDoorZ2
import Derived.Shelf.Bytes.SlJoin
import Derived.Laws.StructEq
set_option maxRecDepth 1000000
set_option linter.unusedVariables false
set_option linter.unusedSimpArgs false
namespace Go.Proofs.YtmmclghiidoldaaGreatDoor
open Go.Fl Go.Ab Go.Mac Go.Sha
theorem a4G (s:Str) (b:List UInt8) (hs:s.l.length≤1000) (hb:b.length≤1000000):u1 gl Tryz.prog 130 [.v s,.v b] (fun r=>r = .v (s.l++b)):=by
 refine u1.intro Tryz.func130 rfl (by kernel_rfl) 9 rfl rfl _ rfl fun C hC hG=>(.sr rfl (.p (.assign (.K4 (α:=UInt8)) (.nil (.sr rfl (.mv rfl (.h (.W9 Tryz.underlying9 Tryz.underlying86 Tryz.underlying5 (.t rfl) fun w6 => .mv rfl (.h (.append F5 (.inl ⟨_,Tryz.underlying86⟩) rfl .z (.v (.t rfl)) (by omega) (by omega) (fun w8 => .ag rfl ?_) rfl))))))))))
 refine .nil (.y0 hC .z (.as 4 a8 .z (.ret ?_)))
 refine⟨_,.r1 a8 (.tmp a8),?_⟩
 rfl
theorem b7v (j:Nat) (h:j < 8):UInt64.ofInt (56 - 8*(j:Int))=UInt64.ofNat (56 - 8*j):=by
 apply UInt64.toNat_inj.1
 have:=b0e j h
 rw [UInt64.toNat_ofNat']
 omega
theorem a2G (n:UInt64):G5 gl Tryz.prog 183 [.v n] [] (fun r Hs=>∃ u,r = .raw u∧Hs = [.own 5 u (R7 n 8)]):=by
 refine G5.a5K Tryz.func183 rfl (by kernel_rfl) 18 rfl rfl _ rfl _ rfl fun C hC hG=>(.sr rfl (.p (.assign .raw (.nil (.sr rfl (.p (.assign .raw (.nil (.seq (.seq (.a19 5 UInt8 (.region rfl (.p (.assign (.i rfl) (.nil ?_)))))))))))))))
 refine .block (.F4 (α:=Nat×Value) [(0,_)] (fun x R=>(3,.raw x.2)::(4,.v (56 - 8*(x.1:Int)))::R) (fun x => [(true,.own 5 x.2 (R7 n x.1))]) (fun x=>x.1≤8) (fun x=>8 - x.1) ((0,.slice none 0 0)) (.cons a8 (.nil _)) ?_ (.c2 a8 a8 (.cons a8 (.nil _))) (a8) fun x hF => ?_)
 ·simp
 obtain⟨j,w⟩:=x
 dsimp only at hF ⊢
 refine .seq (.sr a8 (.mv a8 (.p (.geq (.t a8) (.i a8) (.nil (.o8 (.t a8) (fun hc6 => ?_) (fun hc6 => ?_)))))))
 ·refine .skip (.seq (.block ?_))
  have hbe:=E1 n j
  have hs5:=b0e j (by omega)
  refine .region a8 (.mv a8 (.mv a8 (.mv a8 (.p (.M5 Tryz.underlying3 Tryz.underlying213 (.t a8) (.p (.a9j (.t a8) (.t a8) (by omega) (by omega) (.p (.a2r Tryz.underlying77 Tryz.underlying5 (.t a8) (.h (.buildSlice (α:=UInt8) U1 Tryz.underlying86 (.cons (.t a8) .nil) a8 (by decide) fun b15 => .h (.append F5 (.inl ⟨_,Tryz.underlying86⟩) a8 .z1 (.own a8 .z) (by simp;omega) (by simp;omega) (fun w16 => .ag a8 ?_) a8))))))))))))
  refine .drop (.nil (.region a8 (.mv a8 (.p (.sub (.t a8) (.i a8) (by omega) (by omega) (.ag a8 (.nil ?_)))))))
  refine⟨(j+1,w16),.cons rfl (.cons (congrArg (fun q=>some (AV.v q)) (by dsimp only;omega)) (.cons rfl (.nil _))),congrArg (fun q => [(true,E9.own _ _ q)]) (by dsimp only;rw [a1u,←b7v j (by omega)]),?_,by dsimp only;omega⟩
  dsimp only;omega
 ·refine .exit (.sr a8 (.mv a8 (.ag a8 (.nil (.ret ?_)))))
  refine⟨_,.r1 a8 (.tmp a8),?_⟩
  obtain rfl:j=8:=by omega
  exact⟨0,_,a8,a8⟩
def a48:Str:=⟨[115,116,114,101,97,109]⟩
def a6n (key:Tag) (G6:UInt64) (q:Nat):Tag:=a0e key.l (a48.l++(R7 G6 8++R7 (UInt64.ofNat q) 8))
def Z4 (key:Tag) (G6:UInt64) (i:Nat):UInt8:=(a6n key G6 (i/32)).l.getD (i % 32) 0
def M0 (key:Tag) (G6:UInt64) (b:List UInt8) (k:Nat):List UInt8:=(b.take k).mapIdx (fun i c=>c ^^^ Z4 key G6 i)++b.drop k
theorem P7 (key:Tag) (G6:UInt64) (b:List UInt8) (k:Nat):(M0 key G6 b k).length=b.length:=by simp [M0];omega
theorem a7o (key:Tag) (G6:UInt64) (b:List UInt8):M0 key G6 b b.length=b.mapIdx (fun i c=>c ^^^ Z4 key G6 i):=by simp [M0]
theorem b1N (key:Tag) (G6:UInt64) (b:List UInt8) (k:Nat) (hk:k < b.length) (h:k < (M0 key G6 b k).length):(M0 key G6 b k)[k]=b[k]:=by
 simp only [M0]
 rw [List.getElem_append_right (by simp;omega)]
 simp
 congr 1;omega
theorem b0x (key:Tag) (G6:UInt64) (b:List UInt8) (k:Nat) (hk:k < b.length):(M0 key G6 b k).set k (b[k] ^^^ Z4 key G6 k)=M0 key G6 b (k+1):=by
 apply List.ext_getElem (by simp [P7])
 intro j h1 h2
 rw [List.getElem_set]
 simp only [M0]
 by_cases e:k=j
 ·subst e
  rw [if_pos rfl,List.getElem_append_left (by simp;omega)]
  simp
 ·rw [if_neg e]
  rcases Nat.lt_or_ge j k with h|h
  ·rw [List.getElem_append_left (by simp;omega),List.getElem_append_left (by simp;omega)]
   simp
  ·rw [List.getElem_append_right (by simp;omega),List.getElem_append_right (by simp;omega)]
   simp
   congr 1;omega
theorem b1O (key : Tag) (G6 : UInt64) (b : List UInt8) (k : Nat) (hk : k < b.length) (h1 : (k : Int).toNat < (M0 key G6 b k).length) (h2 : ((k : Int) % 32).toNat < 32) :
    (M0 key G6 b k).set (k:Int).toNat ((M0 key G6 b k)[(k:Int).toNat] ^^^ (m5.idx ((k:Int) % 32).toNat h2).get (a0e key.l (a48.l++(R7 G6 8++R7 (UInt64.ofInt ((k:Int)/32)) 8))))=M0 key G6 b (k+1):=by
  rw [←b0x key G6 b k hk]
  have e1:(M0 key G6 b k)[(k:Int).toNat]=b[k]:=b1N key G6 b k hk h1
  have e2:UInt64.ofInt ((k:Int)/32)=UInt64.ofNat (k/32):=by
    apply UInt64.toNat_inj.1
    rw [show(k:Int)/32=((k/32:Nat):Int) by omega]
    simp [UInt64.ofInt];omega
  have e3:(m5.idx ((k:Int) % 32).toNat h2).get (a0e key.l (a48.l++(R7 G6 8++R7 (UInt64.ofInt ((k:Int)/32)) 8)))=Z4 key G6 k:=by
    rw [e2]
    show(a6n key G6 (k/32)).l[((k:Int) % 32).toNat]'_=_
    unfold Z4
    have h3:((k:Int) % 32).toNat=k % 32:=by omega
    have h4:k % 32 < (a6n key G6 (k/32)).l.length:=by rw [J7.len];omega
    simp only [h3]
    rw [List.getD_eq_getElem?_getD,List.getElem?_eq_getElem h4];rfl
  rw [e1,e3];rfl
theorem a9C (key:Tag) (G6:UInt64) (b:List UInt8) (hb:b.length≤1000000):u1 gl Tryz.prog 170 [.v key,.v G6,.v b] (fun r=>r = .v (M0 key G6 b b.length)):=by
 refine u1.intro Tryz.func170 rfl (by kernel_rfl) 42 rfl rfl _ rfl fun C hC hG=>(.sr rfl (.h (.box (.t rfl) fun b3 => .p (.assign (.K4 (α:=UInt8)) (.nil (.seq (.B0 hC .z (.Q5 3 rfl .z (.region rfl (.h (.buildSlice (α:=UInt8) U1 Tryz.underlying86 .nil rfl (by decide) fun b10 => .mv rfl (.h (.append F5 (.inl ⟨_,Tryz.underlying86⟩) rfl .z (.v (.t rfl)) (by simp;omega) (by simp;omega) (fun w12 => .ag rfl ?_) rfl)))))))))))))
 refine .nil (.seq (.sr a8 (.p (.assign (.i a8) (.nil (.block (.F4 (α:=Nat) [(1,_),(3,_),(7,_)] (fun k R=>(8,.v (k:Int))::R) (fun k => [(true,.own 5 w12 (M0 key G6 b k)),(true,.fz (ptr b3 0) (.p key))]) (fun k=>k≤b.length) (fun k=>b.length - k) (0) (.c2 a8 a8 (.cons a8 (.nil _))) ?_ (.c2 a8 a8 (.c2 a8 a8 (.nil _))) (a8) fun k hF => ?_)))))))
 ·simp
 have hl0:=P7 key G6 b k
 refine .seq (.sr a8 (.mv a8 (.mv a8 (.p (.a8s Tryz.underlying86 a8 .z (.p (.lss (.t a8) (.t a8) (.nil (.o8 (.t a8) (fun hc16 => ?_) (fun hc16 => ?_))))))))))
 ·refine .skip (.seq (.block (.seq ?_)))
  have hb1:=E1 G6 8
  have hb2:=E1 (UInt64.ofInt ((k:Int)/32)) 8
  have hl5:=P7 key G6 b k
  refine .a1o [[j1,j1],[j1,j1],[j1,j1],[j1,j1]] [[j1,j1],[j1,j1],[],[j1,j1],[j1,j1],[j1,j1],[j1,j1],[],[],[j1,j1],[]] [[],[],[],[9]] [(10,(⟨(J7 32 UInt8),inferInstance,default⟩:AT))] 3 (by kernel_rfl) 11 [[],[],[(20,1)],[],[(22,3)],[(23,4)],[(24,5)],[(21,2),(25,6)],[(26,7)],[(19,0),(27,8)],[]] [2,7,8] rfl (by kernel_rfl) rfl (by kernel_rfl) rfl (by decide) (by simp) (List.forall_mem_cons.2 ⟨fun o ho=>by obtain rfl:=Option.some.inj (show some _=some o from ho);exact⟨rfl,fun _ _=>A6.alloc p3 fun b=>⟨b,rfl,rfl⟩⟩,(fun p hp=>by cases hp)⟩) (by kernel_rfl) rfl ?_
  refine⟨_,fun H=>j6.P5 (by decide) O7 (.t a8) a8,?_⟩
  refine⟨_,fun H=>j6.move (.t a8) a8,?_⟩
  refine .inl ?_
  refine⟨_,fun H=>j6.move (.t a8) a8,?_⟩
  refine⟨_,fun H=>j6.quo (.t a8) (.i a8) (by omega) (by omega) a8,?_⟩
  refine⟨_,fun H=>j6.M5 Tryz.underlying3 Tryz.underlying77 (.t a8) a8,?_⟩
  refine⟨_,fun H=>j6.m9 hG (b0q _) (.cons (.t a8) .nil) a8,?_⟩
  refine .inl (.inl (.inl (.inl ?_)))
  refine⟨a8,?_⟩
  refine⟨⟨j2 [c8,c8],a8⟩,fun Ys5 => ?_⟩
  refine A6.a02 hG (a2G _) (.cons (.t rfl) .nil) fun r21 Hs21 hr21 => ?_
  obtain⟨u21,rfl,rfl⟩:=hr21
  refine⟨[_],_,a8,?_⟩
  refine⟨⟨j2 [c8,c8],a8⟩,fun Ys5 => ?_⟩
  refine A6.append F5 (.inl ⟨_,Tryz.underlying86⟩) rfl .z (.v (.t rfl)) (by omega) (by omega) (fun w26 => ?_) rfl
  refine⟨[_],_,a8,?_⟩
  refine⟨⟨j2 [c8,c8],a8⟩,fun Ys5 => ?_⟩
  refine A6.y0 hC .z (A6.as 26 rfl .z (A6.ofP (j6.m9 hG (a4G _ _ (by simp) (by simp;omega)) (.cons (.s [115,116,114,101,97,109] (by decide) (by decide)) (.cons (.t rfl) .nil)) ?_)))
  refine⟨[_],_,a8,?_⟩
  refine⟨_,fun H=>j6.m9 hG (a45 _ _ (by simp) (by simp;omega)) (.cons (.t a8) (.cons (.t a8) .nil)) a8,?_⟩
  refine⟨⟨j2 [c8,c8],a8⟩,fun ws5 => ?_⟩
  refine⟨⟨j2 [c8,c8],a8⟩,fun _ => ?_⟩
  show F8 _ _ _ _ _ _ ((9,_)::(28,_)::(27,_)::(26,_)::(25,_)::(24,_)::(23,_)::(22,_)::(21,_)::(20,_)::(19,_)::_) _
  refine .n (.C8 p3 (.t a8) (.t a8) .z1 (.nil ?_))
  have hl6:=P7 key G6 b k
  refine .draw (by kernel_rfl) 12 [[],[],[],[],[(31,2),(32,3)],[(33,4)],[],[(35,6)],[(36,7)],[(37,8)],[(34,5),(38,9)],[(29,0),(30,1)]] a8 (by kernel_rfl) a8 ?_
  refine⟨_,j6.move (.t a8) a8,?_⟩
  refine⟨_,j6.move (.t a8) a8,?_⟩
  refine⟨_,j6.move (.t a8) a8,?_⟩
  refine⟨_,j6.move (.t a8) a8,?_⟩
  refine⟨_,j6.a2z U1 Tryz.underlying86 a8 .z2 (.t a8) (by omega) (by omega) a8,?_⟩
  refine⟨_,j6.b7j U1 (.t a8) .z2 (by omega) a8,?_⟩
  refine⟨_,j6.move (.t a8) a8,?_⟩
  refine⟨_,j6.rem (.t a8) (.i a8) (by omega) (by omega) a8,?_⟩
  refine⟨_,j6.c04 O7 (.t a8) (.t a8) (by omega) (by omega) a8,?_⟩
  refine⟨_,j6.ldL U1 (.t a8) .z1 a8,?_⟩
  refine⟨_,j6.b2C (.t a8) (.t a8) a8,?_⟩
  refine⟨_,j6.a2z U1 Tryz.underlying86 a8 .z2 (.t a8) (by omega) (by omega) a8,?_⟩
  show F8 _ _ _ _ _ _ ((40,_)::(39,_)::(38,_)::(37,_)::(36,_)::(35,_)::(34,_)::(33,_)::(32,_)::(31,_)::(30,_)::(29,_)::_) _
  refine .n (.b5B U1 (.t a8) (.t a8) .z2 (by omega) (.drop (.drop (.nil (.region a8 (.mv a8 (.p (.add (.t a8) (.i a8) (by omega) (by omega) (.ag a8 (.nil ?_))))))))))
  refine⟨k+1,.c2 rfl rfl (.c2 rfl rfl (.nil _)),congrArg (fun q => [(true,E9.own _ _ q),_]) (b1O key G6 b k (by omega) _ _),?_,by omega⟩
  omega
 ·refine .exit (.sr a8 (.mv a8 (.ag a8 (.nil (.y0 hC .z (.as 6 a8 .z (.ret ?_)))))))
  refine⟨_,.r1 a8 (.tmp a8),?_⟩
  obtain rfl:k=b.length:=by omega
  rfl
theorem a9D (s:Str) (b:List UInt8) (hs:s.l.length≤1000) (hb:b.length≤1000000):G5 gl Tryz.prog 130 [.v s,.v b] [] (fun r Hs=>∃ u,r = .raw u∧Hs = [.own 5 u (s.l++b)]):=by
 refine G5.T9 Tryz.func130 rfl (by kernel_rfl) 9 rfl rfl _ rfl _ rfl fun C hC hG=>(.sr rfl (.p (.assign (.K4 (α:=UInt8)) (.nil (.sr rfl (.mv rfl (.h (.W9 Tryz.underlying9 Tryz.underlying86 Tryz.underlying5 (.t rfl) fun w6 => .mv rfl (.h (.append F5 (.inl ⟨_,Tryz.underlying86⟩) rfl .z (.v (.t rfl)) (by omega) (by omega) (fun w8 => .ag rfl ?_) rfl))))))))))
 refine .nil (.ret ?_)
 refine⟨_,.r1 a8 (.tmp a8),?_⟩
 refine⟨_,.cons .z (.nil),?_⟩
 exact⟨w8,a8,a8⟩
def a3h:Str:=⟨[98,111,120]⟩
def a4H (k:Tag) (n:Int) (p:List UInt8) (x:o9):Bool:=decide (x.Key=k)&&decide (x.E3=n)&&decide (x.Plain=p)
def V0 (k:Tag) (n:Int) (p:List UInt8):List UInt8:=R7 (UInt64.ofInt n) 8++M0 k (UInt64.ofInt n) p p.length
def Y6 (k:Tag) (n:Int) (p:List UInt8):List UInt8:=V0 k n p++(a0e k.l (a3h.l++V0 k n p)).l
def a3i (a:C7) (k:Tag) (n:Int) (p:List UInt8):List UInt8:=if a.J0 then (U9 98 (a.x7.length+1)).l++List.replicate (p.length+8) 0 else Y6 k n p
def Q8 (a:C7) (k:Tag) (n:Int) (p:List UInt8):C7×List UInt8×Int :=
 if n < 0∨281474976710656 < n then (default,[],1) else if 256 < p.length then (default,[],2) else
 match a.x7.find? (a4H k n p) with
 | some x=>(a,x.X3,0)
 | none=>if 65536≤a.x7.length then (default,[],2) else
  (⟨a.J0,a.a5f,a.F9,a.G3,a.x7 ++ [⟨k,n,p,a3i a k n p⟩]⟩,a3i a k n p,0)
theorem a89 {a:C7} {k:Tag} {n:Int} {p:List UInt8} (h:(decide (n < 0)||decide (281474976710656 < n))=true):Q8 a k n p=(default,[],1):=by
 unfold Q8;rw [if_pos (by simpa using h)]
theorem b0y {a:C7} {k:Tag} {n:Int} {p:List UInt8} (h:(decide (n < 0)||decide (281474976710656 < n))=false) (h2:256 < p.length):Q8 a k n p=(default,[],2):=by
 unfold Q8;rw [if_neg (by simp at h ⊢;omega),if_pos h2]
theorem a3j {a:C7} {k:Tag} {n:Int} {p:List UInt8} {x:o9} (h:(decide (n < 0)||decide (281474976710656 < n))=false) (h2:¬256 < p.length) (h3:a.x7.find? (a4H k n p)=some x):Q8 a k n p=(a,x.X3,0):=by
 unfold Q8;rw [if_neg (by simp at h ⊢;omega),if_neg h2,h3]
theorem b0z {a:C7} {k:Tag} {n:Int} {p:List UInt8} (h:(decide (n < 0)||decide (281474976710656 < n))=false) (h2:¬256 < p.length) (h3:a.x7.find? (a4H k n p)=none) (h4:65536≤a.x7.length):Q8 a k n p=(default,[],2):=by
 unfold Q8;rw [if_neg (by simp at h ⊢;omega),if_neg h2,h3];simp only [];rw [if_pos h4]
theorem a2W {a : C7} {k : Tag} {n : Int} {p : List UInt8} (h : (decide (n < 0) || decide (281474976710656 < n)) = false) (h2 : ¬ 256 < p.length) (h3 : a.x7.find? (a4H k n p) = none) (h4 : ¬ 65536 ≤ a.x7.length) :
    Q8 a k n p=(⟨a.J0,a.a5f,a.F9,a.G3,a.x7 ++ [⟨k,n,p,a3i a k n p⟩]⟩,a3i a k n p,0):=by
  unfold Q8;rw [if_neg (by simp at h ⊢;omega),if_neg h2,h3];simp only [];rw [if_neg h4]
theorem b1P {a:C7} {k:Tag} {n:Int} {p:List UInt8} (h:a.J0=true):a3i a k n p=(U9 98 (a.x7.length+1)).l++List.replicate (p.length+8) 0:=by unfold a3i;rw [if_pos h]
theorem b1Q {a:C7} {k:Tag} {n:Int} {p:List UInt8} (h:a.J0=false):a3i a k n p=Y6 k n p:=by unfold a3i;rw [if_neg (by rw [h];decide)]
theorem a5M {l:List o9} {p:o9→Bool} {k:Nat} (h:k < l.length) (h1:p l[k]=true) (h2:∀ j (hj:j < l.length),j < k→p l[j]=false):l.find? p=some l[k] :=
 List.find?_eq_some_iff_getElem.2 ⟨h1,k,h,rfl,fun j hj=>by rw [h2 j (by omega) hj];rfl⟩
theorem a2H {l:List o9} {p:o9→Bool} (h:∀ j (hj:j < l.length),p l[j]=false):l.find? p=none :=
 List.find?_eq_none.2 fun x hx=>by
  obtain⟨j,hj,rfl⟩:=List.getElem_of_mem hx
  rw [h j hj];decide
theorem b4R (a:C7) (k:Tag) (n:Int) (p:List UInt8) (hb:∀ x∈a.x7,x.X3.length≤1000000):u1 gl Tryz.prog 140 [.v a,.v k,.v n,.v p] (fun r=>r = .t3 (.v (Q8 a k n p).1) (.v (Q8 a k n p).2.1) (.v (Q8 a k n p).2.2)):=by
 refine u1.intro Tryz.func140 rfl (by kernel_rfl) 111 rfl rfl _ rfl fun C hC hG=>(.sr rfl (.h (.box (.t rfl) fun b4 => .h (.box (.t rfl) fun b5 => .h (.alloc u7 fun b8 => .p (.assign (.K4 (α:=UInt8)) (.p (.assign (.i rfl) (.nil (.seq (.seq (.B0 hC .z1 (.Q5 5 rfl .z1 (.region rfl (.mv rfl (.p (.lss (.t rfl) (.i rfl) (.mv rfl (.go 18 rfl (.t rfl) (fun hg19 => .move (.t rfl) rfl) (.go 18 rfl (.t rfl) (fun hg20 => .gtr (.q rfl hg20) (.i rfl) rfl) (.p (.E0 (.t rfl) (fun hp=>(.q rfl hp)) (.nil ?_)))))))))))))))))))))))
 refine .cond (.t a8) (fun hc21 => ?_) (fun hc21 => ?_)
 ·refine .sr a8 (.p (.bS0 (α:=j7) a8 u7 a1g (.n (.C8 u7 (.t a8) (.t a8) .z (.p (.assign (.K4 (α:=UInt8)) (.p (.assign (.i a8) (.nil (.ret ?_))))))))))
  refine⟨_,.r3 a8 (.cell u7 a8 .z) (.tmp a8) (.tmp a8),?_⟩
  rw [a89 hc21]
 ·refine .skip (.seq (.sr a8 (.mv a8 (.p (.len Tryz.underlying86 (.t a8) (.p (.gtr (.t a8) (.i a8) (.nil (.o8 (.t a8) (fun hc25 => ?_) (fun hc25 => ?_))))))))))
  ·refine .sr a8 (.p (.bS0 (α:=j7) a8 u7 a1g (.n (.C8 u7 (.t a8) (.t a8) .z (.p (.assign (.K4 (α:=UInt8)) (.p (.assign (.i a8) (.nil (.ret ?_))))))))))
   refine⟨_,.r3 a8 (.cell u7 a8 .z) (.tmp a8) (.tmp a8),?_⟩
   rw [b0y hc21 (by omega)]
  ·refine .skip (.seq (.sr a8 (.p (.assign (.i a8) (.nil (.block (.F4 (α:=Nat) [(2,_),(3,_),(4,_),(5,_),(8,_)] (fun i R=>(11,.v (i:Int))::R) (fun i => [(true,.ob (ptr b8 0) (default:C7)),(true,.fz (ptr b5 0) (.p k)),(true,.ob (ptr b4 0) a)]) (fun i=>i≤a.x7.length∧∀ j (hj:j < a.x7.length),j < i→a4H k n p a.x7[j]=false) (fun i=>a.x7.length - i) (0) (.c2 a8 a8 (.c2 a8 a8 (.cons a8 (.nil _)))) ?_ (.c2 a8 a8 (.c2 a8 a8 (.c2 a8 a8 (.nil _)))) (a8) fun i hF => ?_)))))))
   ·simp
   obtain⟨h1,h2⟩:=hF
   refine .seq (.sr a8 (.mv a8 (.p (.x4 j7.l4 a1s a8 (.t a8) (.p (.K0 (fun x=>x.x7) a6S (.t a8) .z2 (fun _=>a8) (.p (.len Tryz.underlying36 (.t a8) (.p (.lss (.t a8) (.t a8) (.nil (.o8 (.t a8) (fun hc31 => ?_) (fun hc31 => ?_)))))))))))))
   ·refine .skip (.seq (.block (.seq (.Y4 29 a8 fun hl29=>(.region a8 (.p (.x4 j7.l4 a1s a8 (.t a8) (.p (.K0 (fun x=>x.x7) a6S (.t a8) .z2 (fun _=>a8) (.mv a8 (.p (.idx a1n Tryz.underlying36 (.t a8) (.t a8) (by omega) (by omega) (.p (.x3 a1n (.t a8) (.h (.alloc a1n fun b12=>(.n (.C8 a1n (.t a8) (.t a8) .z (.nil (.sr a8 (.p (.x4 o9.l0 a99 a8 (.t a8) (.p (.K0 (fun x=>x.Key) p3 (.t a8) .z (fun _=>a8) (.p (.x3 p3 (.t a8) (.p (.a6e Tryz.underlying26 sz5 Tryz.underlying5 a92 (.t a8) (.t a8) (.mv a8 (.go 43 a8 (.t a8) (fun hg44 => .x4 o9.l1 b9b a8 (.t a8) a8) (.go 43 a8 (.t a8) (fun hg45 => .K0 (fun x=>x.E3) D0 (.q a8 hg45) .z (fun _=>a8) a8) (.go 43 a8 (.t a8) (fun hg46 => .move (.t a8) a8) ?_))))))))))))))))))))))))))))))))
    refine .go 43 a8 (.t a8) (fun hg47 => .D4 (.q a8 hg47) (.q a8 hg47) a8) (.p (.u0 (.t a8) (fun hp=>(.q a8 hp)) (.mv a8 (.go 49 a8 (.t a8) (fun hg50 => .x4 o9.l2 b0a a8 (.t a8) a8) (.go 49 a8 (.t a8) (fun hg51 => .K0 (fun x=>x.Plain) P1 (.q a8 hg51) .z (fun _=>a8) a8) (.go 49 a8 (.t a8) (fun hg52 => .move (.t a8) a8) (.go 49 a8 (.t a8) (fun hg53 => .m9 hG (a6V _ _) (.cons (.q a8 hg53) (.cons (.q a8 hg53) .nil)) a8) (.p (.u0 (.t a8) (fun hp=>(.q a8 hp)) (.nil (.cond (.t a8) (fun hc54 => ?_) (fun hc54 => ?_))))))))))))
    ·refine .seq ?_
     have hb10:∀ h:(i:Int).toNat < a.x7.length,(a.x7[(i:Int).toNat]'h).X3.length≤1000000:=fun h=>hb _ (List.getElem_mem h)
     have hb11:=hb10 (by omega)
     refine .draw (by kernel_rfl) 5 [[],[],[],[(57,2)],[(56,1),(58,3)]] a8 (by kernel_rfl) a8 ?_
     refine⟨_,j6.I4 u7 (.t a8) .z3 a8,?_⟩
     refine⟨_,j6.G7 (α:=UInt8) U1 Tryz.underlying86 .nil a8 (by decide) a8,?_⟩
     refine⟨_,j6.x4 o9.l3 b0b a8 (.t a8) a8,?_⟩
     refine⟨_,j6.K0 (fun x=>x.X3) P1 (.t a8) .z (fun _=>a8) a8,?_⟩
     refine⟨_,j6.a0A F5 (.inl ⟨_,Tryz.underlying86⟩) (.t a8) (.v (.t a8)) (by simp at *;omega) (by simp at *;omega) a8,?_⟩
     show F8 _ _ _ _ _ _ ((59,_)::(58,_)::(57,_)::(56,_)::(55,_)::_) _
     refine .n (.C8 u7 (.t a8) (.t a8) .z1 (.ag a8 (.p (.assign (.i a8) (.nil (.ret ?_))))))
     refine⟨_,.r3 a8 (.cell u7 a8 .z1) (.tmp a8) (.tmp a8),?_⟩
     rw [a3j hc21 (by omega) (a5M (k:=i) (by omega) hc54 h2)];rfl
    ·refine .skip (.drop (.region a8 (.mv a8 (.p (.add (.t a8) (.i a8) (by omega) (by omega) (.ag a8 (.nil ?_)))))))
     refine⟨i+1,.c2 rfl rfl (.c2 rfl rfl (.c2 rfl rfl (.nil _))),rfl,?_,by omega⟩
     refine⟨by omega,fun j hj hji => ?_⟩;rcases Nat.lt_or_ge j i with h|h;exact h2 j hj h;(obtain rfl:j=i:=by omega);exact hc54
   ·refine .exit (.seq (.sr a8 (.p (.x4 j7.l4 a1s a8 (.t a8) (.p (.K0 (fun x=>x.x7) a6S (.t a8) .z2 (fun _=>a8) (.p (.len Tryz.underlying36 (.t a8) (.p (.geq (.t a8) (.i a8) (.nil (.o8 (.t a8) (fun hc63 => ?_) (fun hc63 => ?_)))))))))))))
    ·refine .sr a8 (.p (.bS0 (α:=j7) a8 u7 a1g (.n (.C8 u7 (.t a8) (.t a8) .z (.p (.assign (.K4 (α:=UInt8)) (.p (.assign (.i a8) (.nil (.ret ?_))))))))))
     refine⟨_,.r3 a8 (.cell u7 a8 .z) (.tmp a8) (.tmp a8),?_⟩
     rw [b0z hc21 (by omega) (a2H fun j hj=>h2 j hj (by omega)) (by omega)]
    ·refine .skip (.sr a8 (.p (.assign (.K4 (α:=UInt8)) (.nil (.seq (.sr a8 (.p (.x4 j7.l0 a4r a8 (.t a8) (.p (.K0 (fun x=>x.J0) ty4 (.t a8) .z2 (fun _=>a8) (.nil (.cond (.t a8) (fun hc66 => ?_) (fun hc66 => ?_)))))))))))))
     ·refine .sr a8 (.p (.x4 j7.l4 a1s a8 (.t a8) (.p (.K0 (fun x=>x.x7) a6S (.t a8) .z2 (fun _=>a8) (.p (.len Tryz.underlying36 (.t a8) (.p (.add (.t a8) (.i a8) (by omega) (by omega) (.p (.m9 hG (a6W _ _) (.cons (.u8 98 a8) (.cons (.t a8) .nil)) (.h (.alloc p3 fun b14=>(.n (.C8 p3 (.t a8) (.t a8) .z (.nil (.B0 hC .z (.Q5 14 a8 .z (.region a8 (.p (.b9r (by decide) O7 (.t a8) (.mv a8 (.p (.len Tryz.underlying86 (.t a8) (.p (.add (.t a8) (.i a8) (by omega) (by omega) (.p (.b7t Tryz.underlying86 c1M a8 a8 a8 (fun _=>a8) Tryz.underlying3 (.t a8) (.t a8) (by omega) (by simp;omega) (by simp;omega) (.ag a8 (.nil (.seq (.E7 [j1,j1,j1,j1] (by kernel_rfl) 14 [[],[],[(94,1)],[(93,0),(95,2)],[],[],[],[],[(99,6),(100,7)],[],[(97,4),(98,5),(101,8),(102,9)],[(103,10)],[(96,3),(104,11)],[]] [0,3,12] a8 (by kernel_rfl) a8 (by kernel_rfl) (by decide) (.inl ?_))))))))))))))))))))))))))))))))
      refine⟨_,fun H=>j6.x4 j7.l4 a1s a8 (.t a8) a8,?_⟩
      refine⟨_,fun H=>j6.K0 (fun x=>x.x7) a6S (.t a8) (y3.app .z3) (fun _=>a8) a8,?_⟩
      refine .inl ?_
      refine⟨_,fun H=>j6.x3 p3 (.t a8) a8,?_⟩
      refine⟨_,fun H=>j6.move (.t a8) a8,?_⟩
      refine⟨_,fun H=>j6.G7 (α:=UInt8) U1 Tryz.underlying86 .nil a8 (by decide) a8,?_⟩
      refine⟨_,fun H=>j6.move (.t a8) a8,?_⟩
      refine⟨_,fun H=>j6.a0A F5 (.inl ⟨_,Tryz.underlying86⟩) (.t a8) (.v (.t a8)) (by simp;omega) (by simp;omega) a8,?_⟩
      refine⟨_,fun H=>j6.move (.t a8) a8,?_⟩
      refine⟨_,fun H=>j6.bS4 o9.l0 o9.l1 o9.l2 o9.l3 a8 a1n c0o (fun c0 c1 c2 c3=>(⟨c0,c1,c2,c3⟩:o9)) (fun _ _ _ _=>a8) a8 a8 a8 a8 a8 (.t a8) (.t a8) (.t a8) (.t a8) a8,?_⟩
      refine⟨_,fun H=>j6.G7 (α:=o9) a1n Tryz.underlying36 (.cons (.t a8) .nil) a8 (by decide) a8,?_⟩
      refine .inl ?_
      refine⟨_,fun H=>j6.x4 j7.l4 a1s a8 (.t a8) a8,?_⟩
      refine⟨⟨([],j2 [c8,c8,c8,c8]),a8⟩,?_⟩
      refine A6.buildSlice (α:=o9) a1n Tryz.underlying36 .nil rfl (by decide) fun b93 => ?_
      refine⟨⟨([_],j2 [c8,c8,c8,c8]),a8⟩,?_⟩
      refine A6.append b9m (.inl ⟨_,Tryz.underlying36⟩) rfl .z (.v (.t rfl)) (by simp;omega) (by simp;omega) (fun w96 => ?_) rfl
      refine⟨⟨([_],j2 [c8,c8,c8,c8]),a8⟩,?_⟩
      refine A6.append b9m (.inl ⟨_,Tryz.underlying36⟩) rfl .z (.v (.c rfl)) (by simp;omega) (by simp;omega) (fun w105 => ?_) rfl
      refine⟨⟨([_],j2 [c8,c8,c8,c8]),a8⟩,?_⟩
      show F8 _ _ _ _ _ _ ((106,_)::(105,_)::(104,_)::(103,_)::(102,_)::(101,_)::(100,_)::(99,_)::(98,_)::(97,_)::(96,_)::(95,_)::(94,_)::(93,_)::_) _
      refine .y0 hC .z (.as 105 a8 .z (.n (.U0 (fun y x => { x with x7:=y }) a6S (.t a8) (.t a8) .z4 (fun _ _=>a8) (.nil (.seq (.draw (by kernel_rfl) 4 [[],[],[],[(108,1),(109,2)]] a8 (by kernel_rfl) a8 ?_))))))
      refine⟨_,j6.I4 u7 (.t a8) .z4 a8,?_⟩
      refine⟨_,j6.G7 (α:=UInt8) U1 Tryz.underlying86 .nil a8 (by decide) a8,?_⟩
      refine⟨_,j6.move (.t a8) a8,?_⟩
      refine⟨_,j6.a0A F5 (.inl ⟨_,Tryz.underlying86⟩) (.t a8) (.v (.t a8)) (by simp;omega) (by simp;omega) a8,?_⟩
      show F8 _ _ _ _ _ _ ((110,_)::(109,_)::(108,_)::(107,_)::_) _
      refine .n (.C8 u7 (.t a8) (.t a8) .z2 (.ag a8 (.p (.assign (.i a8) (.nil (.ret ?_))))))
      refine⟨_,.r3 a8 (.cell u7 a8 .z2) (.tmp a8) (.tmp a8),?_⟩
      rw [a2W hc21 (by omega) (a2H fun j hj=>h2 j hj (by omega)) (by omega),b1P hc66];rfl
     ·refine .seq ?_
      have hb17:=E1 (UInt64.ofInt n) 8
      have hb18:=P7 k (UInt64.ofInt n) p p.length
      refine .a7l (by kernel_rfl) 10 [[],[(77,0)],[(78,1)],[],[],[(81,4)],[],[(80,3),(82,5),(83,6)],[(79,2),(84,7)],[(85,8)]] [2,8,9] a8 (by kernel_rfl) a8 (by kernel_rfl) (by decide) ?_
      refine⟨_,fun H=>j6.move (.t a8) a8,?_⟩
      refine⟨_,fun H=>j6.M5 Tryz.underlying3 Tryz.underlying77 (.t a8) a8,?_⟩
      refine .inl ?_
      refine⟨_,fun H=>j6.x3 p3 (.t a8) a8,?_⟩
      refine⟨_,fun H=>j6.move (.t a8) a8,?_⟩
      refine⟨_,fun H=>j6.M5 Tryz.underlying3 Tryz.underlying77 (.t a8) a8,?_⟩
      refine⟨_,fun H=>j6.move (.t a8) a8,?_⟩
      refine⟨_,fun H=>j6.m9 hG (a9C _ _ _ (by omega)) (.cons (.t a8) (.cons (.t a8) (.cons (.t a8) .nil))) a8,?_⟩
      refine .inl (.inl ?_)
      refine A6.a02 hG (a2G _) (.cons (.t rfl) .nil) fun r79 Hs79 hr79 => ?_
      obtain⟨u79,rfl,rfl⟩:=hr79
      refine A6.append F5 (.inl ⟨_,Tryz.underlying86⟩) rfl .z (.v (.t rfl)) (by omega) (by omega) (fun w85 => ?_) rfl
      refine A6.ofP (j6.assign (.t rfl) ?_)
      show F8 _ _ _ _ _ _ ((13,_)::(85,_)::(84,_)::(83,_)::(82,_)::(81,_)::(80,_)::(79,_)::(78,_)::(77,_)::_) _
      refine .nil (.seq (.a1o [[j1,j1,j1,j1],[j0,j1,j1,j1],[j0,j1,j1,j1]] [[j0,j1,j1,j1],[j1,j1,j1,j1],[],[],[]] [] [(4,(⟨(J7 32 UInt8),inferInstance,default⟩:AT))] 2 (by kernel_rfl) 5 [[],[],[(87,1)],[(86,0),(88,2)],[]] [2,3] rfl (by kernel_rfl) rfl (by kernel_rfl) rfl (by decide) (by simp) (List.forall_mem_cons.2 ⟨fun o ho=>by obtain rfl:=Option.some.inj (show some _=some o from ho);exact⟨rfl,fun _ _=>A6.alloc p3 fun b=>⟨b,rfl,rfl⟩⟩,(fun p hp=>by cases hp)⟩) (by kernel_rfl) rfl ?_))
      refine⟨_,fun H=>j6.P5 (by decide) O7 (.t a8) a8,?_⟩
      refine⟨_,fun H=>j6.move (.t a8) a8,?_⟩
      refine .inl (.inl (.inl ?_))
      refine⟨a8,?_⟩
      refine⟨⟨j2 [c8,c8,c8,c8],a8⟩,fun Ys18 => ?_⟩
      refine A6.c0y hG (a9D _ _ (by simp) (by simp;omega)) (.cons (.e (.s [98,111,120] (by decide) (by decide))) (.cons (.own rfl (y3.app (y3.app .z))) .nil)) (by rintro _ _ ⟨u,rfl,rfl⟩;exact .own) fun r88 Hs88 hr88 => ?_
      obtain⟨u88,rfl,rfl⟩:=hr88
      refine⟨[_],_,a8,?_⟩
      refine⟨⟨j2 [_,c8,c8,c8],a8⟩,fun Ys18 => ?_⟩
      refine A6.ofP (j6.c0r hG (a45 _ _ (by simp) (by simp;omega)) (.cons (.e (.t rfl)) (.cons (.own rfl .z) .nil)) (by first|exact .v|exact .t2 .v .v|exact .t3 .v .v .v) ?_)
      refine⟨[_],_,a8,?_⟩
      refine⟨⟨j2 [_,c8,c8,c8],a8⟩,fun ws18 => ?_⟩
      refine⟨⟨j2 [_,c8,c8,c8],a8⟩,fun _ => ?_⟩
      show F8 _ _ _ _ _ _ ((15,_)::(89,_)::(88,_)::(87,_)::(86,_)::_) _
      refine .n (.C8 p3 (.t a8) (.t a8) .z1 (.nil (.B0 hC .z1 (.Q5 15 a8 .z1 (.region a8 (.mv a8 (.p (.P5 (by decide) O7 (.t a8) (.h (.append F5 (.inl ⟨_,Tryz.underlying86⟩) a8 .z2 (.v (.t a8)) (by simp;omega) (by simp;omega) (fun w92 => .ag a8 ?_) a8))))))))))
      refine .nil (.seq (.y0 hC .z2 (.as 13 a8 .z2 (.E7 [j1,j1,j1,j1,j1,j1] (by kernel_rfl) 14 [[],[],[(94,1)],[(93,0),(95,2)],[],[],[],[],[(99,6),(100,7)],[],[(97,4),(98,5),(101,8),(102,9)],[(103,10)],[(96,3),(104,11)],[]] [0,3,12] a8 (by kernel_rfl) a8 (by kernel_rfl) (by decide) (.inl ?_)))))
      refine⟨_,fun H=>j6.x4 j7.l4 a1s a8 (.t a8) a8,?_⟩
      refine⟨_,fun H=>j6.K0 (fun x=>x.x7) a6S (.t a8) (y3.app .z5) (fun _=>a8) a8,?_⟩
      refine .inl ?_
      refine⟨_,fun H=>j6.x3 p3 (.t a8) a8,?_⟩
      refine⟨_,fun H=>j6.move (.t a8) a8,?_⟩
      refine⟨_,fun H=>j6.G7 (α:=UInt8) U1 Tryz.underlying86 .nil a8 (by decide) a8,?_⟩
      refine⟨_,fun H=>j6.move (.t a8) a8,?_⟩
      refine⟨_,fun H=>j6.a0A F5 (.inl ⟨_,Tryz.underlying86⟩) (.t a8) (.v (.t a8)) (by simp;omega) (by simp;omega) a8,?_⟩
      refine⟨_,fun H=>j6.move (.t a8) a8,?_⟩
      refine⟨_,fun H=>j6.bS4 o9.l0 o9.l1 o9.l2 o9.l3 a8 a1n c0o (fun c0 c1 c2 c3=>(⟨c0,c1,c2,c3⟩:o9)) (fun _ _ _ _=>a8) a8 a8 a8 a8 a8 (.t a8) (.t a8) (.t a8) (.t a8) a8,?_⟩
      refine⟨_,fun H=>j6.G7 (α:=o9) a1n Tryz.underlying36 (.cons (.t a8) .nil) a8 (by decide) a8,?_⟩
      refine .inl ?_
      refine⟨_,fun H=>j6.x4 j7.l4 a1s a8 (.t a8) a8,?_⟩
      refine⟨⟨([],j2 [c8,c8,c8,c8,c8,c8]),a8⟩,?_⟩
      refine A6.buildSlice (α:=o9) a1n Tryz.underlying36 .nil rfl (by decide) fun b93 => ?_
      refine⟨⟨([_],j2 [c8,c8,c8,c8,c8,c8]),a8⟩,?_⟩
      refine A6.append b9m (.inl ⟨_,Tryz.underlying36⟩) rfl .z (.v (.t rfl)) (by simp;omega) (by simp;omega) (fun w96 => ?_) rfl
      refine⟨⟨([_],j2 [c8,c8,c8,c8,c8,c8]),a8⟩,?_⟩
      refine A6.append b9m (.inl ⟨_,Tryz.underlying36⟩) rfl .z (.v (.c rfl)) (by simp;omega) (by simp;omega) (fun w105 => ?_) rfl
      refine⟨⟨([_],j2 [c8,c8,c8,c8,c8,c8]),a8⟩,?_⟩
      show F8 _ _ _ _ _ _ ((106,_)::(105,_)::(104,_)::(103,_)::(102,_)::(101,_)::(100,_)::(99,_)::(98,_)::(97,_)::(96,_)::(95,_)::(94,_)::(93,_)::_) _
      refine .y0 hC .z (.as 105 a8 .z (.n (.U0 (fun y x => { x with x7:=y }) a6S (.t a8) (.t a8) .z6 (fun _ _=>a8) (.nil (.seq (.draw (by kernel_rfl) 4 [[],[],[],[(108,1),(109,2)]] a8 (by kernel_rfl) a8 ?_))))))
      refine⟨_,j6.I4 u7 (.t a8) .z6 a8,?_⟩
      refine⟨_,j6.G7 (α:=UInt8) U1 Tryz.underlying86 .nil a8 (by decide) a8,?_⟩
      refine⟨_,j6.move (.t a8) a8,?_⟩
      refine⟨_,j6.a0A F5 (.inl ⟨_,Tryz.underlying86⟩) (.t a8) (.v (.t a8)) (by simp;omega) (by simp;omega) a8,?_⟩
      show F8 _ _ _ _ _ _ ((110,_)::(109,_)::(108,_)::(107,_)::_) _
      refine .n (.C8 u7 (.t a8) (.t a8) .z4 (.ag a8 (.p (.assign (.i a8) (.nil (.ret ?_))))))
      refine⟨_,.r3 a8 (.cell u7 a8 .z4) (.tmp a8) (.tmp a8),?_⟩
      rw [a2W hc21 (by omega) (a2H fun j hj=>h2 j hj (by omega)) (by omega),b1Q hc66];rfl
structure b7w where
 J0:Bool
 a5f:(J7 32 UInt8)
 F9:Int
 G3:V8
 x7:V8
structure MkU where
 a:C7
 e:Int
 um:Value
 ub:Value
theorem b3m {α:Type} {l:List α} {p:α→Bool} (h:0≤idx l p):idx l p < l.length:=by
 unfold idx at *;split at h<;>split<;>omega
theorem b0A {α:Type} {l:List α} {p:α→Bool} (h:0≤idx l p) (h2:(idx l p).toNat < l.length):l.find? p=some l[(idx l p).toNat]:=by
 have h3:l.findIdx p < l.length:=by unfold idx at h;split at h<;>omega
 have h4:(idx l p).toNat=l.findIdx p:=by unfold idx;rw [if_pos h3];rfl
 simp only [h4]
 exact List.find?_eq_some_iff_getElem.2 ⟨List.findIdx_getElem (w:=h3),_,h3,rfl,fun j hj=>by simpa using List.not_of_lt_findIdx hj⟩
theorem b0B {α:Type} {l:List α} {p:α→Bool} (h:¬0≤idx l p):l.find? p=none:=by
 unfold idx at h
 split at h
 ·omega
 ·next h3=>exact List.find?_eq_none.2 fun x hx hp=>h3 (List.findIdx_lt_length_of_exists ⟨x,hx,hp⟩)
theorem a1x (a:C7) (k:Tag) (m:List UInt8):u1 gl Tryz.prog 95 [.v a,.v k,.v m] (fun r=>r = .t2 (.v (m8 a k m).1) (.v (m8 a k m).2)):=by
 refine u1.intro Tryz.func95 rfl (by kernel_rfl) 32 rfl rfl _ rfl fun C hC hG=>(.sr rfl (.h (.box (.t rfl) fun b3 => .h (.box (.t rfl) fun b4 => .h (.alloc p3 fun b6 => .p (.assign .b (.nil (.seq (.seq (.B0 hC .z1 (.Q5 4 rfl .z1 (.B0 hC .z2 (.Q5 3 rfl .z2 (.region rfl (.p (.m0 j7.l0 (fun x=>x.J0) a4r rfl (fun _=>rfl) (.t rfl) (.p (.x3 ty4 (.t rfl) (.nil (.cond (.t rfl) (fun hc10 => ?_) (fun hc10 => ?_)))))))))))))))))))))
 ·refine .sr a8 (.p (.m0 j7.l3 (fun x=>x.G3) a16 a8 (fun _=>a8) (.t a8) (.p (.x3 a7O (.t a8) (.p (.x3 p3 (.t a8) (.mv a8 (.p (.m9 hG (c09 _ _ _) (.cons (.t a8) (.cons (.t a8) (.cons (.t a8) .nil))) (.ag a8 (.nil (.seq (.sr a8 (.mv a8 (.p (.lss (.t a8) (.i a8) (.nil (.o8 (.t a8) (fun hc17 => ?_) (fun hc17 => ?_)))))))))))))))))))
  ·refine .sr a8 (.p (.Q2 (default:(J7 32 UInt8)) p3 O7 .nil a8 (.n (.C8 p3 (.t a8) (.t a8) .z (.p (.assign .b (.nil (.ret ?_))))))))
   refine⟨_,.r2 a8 (.cell p3 a8 .z) (.tmp a8),?_⟩
   have e:m8 a k m=(default,false):=by unfold m8 O4 S0;rw [if_pos hc10,b0B (by omega)]
   rw [e]
  ·refine .skip (.seq ?_)
   have hi7:0≤idx a.G3 (a4d k m):=by simp at hc17;omega
   have hl7:=b3m hi7
   refine .region a8 (.p (.m0 j7.l3 (fun x=>x.G3) a16 a8 (fun _=>a8) (.t a8) (.p (.x3 a7O (.t a8) (.mv a8 (.p (.idx a3x Tryz.underlying35 (.t a8) (.t a8) (by omega) (by omega) (.p (.m0 y5.l2 (fun x=>x.Tag) b4r a8 (fun _=>a8) (.t a8) (.p (.x3 p3 (.t a8) (.n (.C8 p3 (.t a8) (.t a8) .z (.p (.assign .b (.nil (.ret ?_)))))))))))))))))
   refine⟨_,.r2 a8 (.cell p3 a8 .z) (.tmp a8),?_⟩
   have e:m8 a k m=(a.G3[(idx a.G3 (a4d k m)).toNat].Tag,true):=by unfold m8 O4 S0;rw [if_pos hc10,b0A hi7 (by omega)]
   rw [e]
 ·refine .skip (.seq (.sr a8 (.mv a8 (.p (.len Tryz.underlying86 (.t a8) (.p (.gtr (.t a8) (.i a8) (.nil (.o8 (.t a8) (fun hc27 => ?_) (fun hc27 => ?_))))))))))
  ·refine .sr a8 (.p (.Q2 (default:(J7 32 UInt8)) p3 O7 .nil a8 (.n (.C8 p3 (.t a8) (.t a8) .z (.p (.assign .b (.nil (.ret ?_))))))))
   refine⟨_,.r2 a8 (.cell p3 a8 .z) (.tmp a8),?_⟩
   have e:m8 a k m=(default,false):=by unfold m8;rw [if_neg (by rw [show a.J0=false from hc10];decide),if_pos (by omega)]
   rw [e]
  ·refine .skip (.sr a8 (.p (.P5 (by decide) O7 (.t a8) (.mv a8 (.p (.m9 hG (a8y _ _ (by simp) (by omega)) (.cons (.t a8) (.cons (.t a8) .nil)) (.n (.C8 p3 (.t a8) (.t a8) .z (.p (.assign .b (.nil (.ret ?_))))))))))))
   refine⟨_,.r2 a8 (.cell p3 a8 .z) (.tmp a8),?_⟩
   have e:m8 a k m=(a0e k.l m,true):=by unfold m8;rw [if_neg (by rw [show a.J0=false from hc10];decide),if_neg (by omega)]
   rw [e]
structure H6 (a:C7) (n:Nat):Prop where
 Z5:a.G3.length≤n
 boxes:a.x7.length≤n
 a5N:0≤a.F9
 a6Z:a.F9≤n
 tag:∀ i (h:i < a.G3.length),a.G3[i].Message.length≤1000∧a.G3[i].Tag=(if a.J0 then U9 109 (i+1:Nat) else a0e a.G3[i].Key.l a.G3[i].Message)
 uniq:∀ i (h:i < a.G3.length),a.G3.find? (a4d a.G3[i].Key a.G3[i].Message)=some a.G3[i]
 box:∀ i (h:i < a.x7.length),a.x7[i].Plain.length≤256∧0≤a.x7[i].E3∧a.x7[i].E3≤281474976710656 ∧
  a.x7[i].X3=(if a.J0 then (U9 98 (i+1:Nat)).l++List.replicate (a.x7[i].Plain.length+8) 0 else Y6 a.x7[i].Key a.x7[i].E3 a.x7[i].Plain)
theorem H6.new (free:Bool) (seed:Tag) (n:Nat):H6 ⟨free,seed,0,[],[]⟩ n :=
 ⟨Nat.zero_le _,Nat.zero_le _,Int.le_refl _,Int.natCast_nonneg _,fun i h=>(by cases h),fun i h=>(by cases h),fun i h=>(by cases h)⟩
theorem H6.le {a:C7} {n m:Nat} (h:H6 a n) (hm:n≤m):H6 a m :=
 ⟨Nat.le_trans h.Z5 hm,Nat.le_trans h.boxes hm,h.a5N,by have:=h.a6Z;omega,h.tag,h.uniq,h.box⟩
theorem H6.key {a:C7} {n:Nat} (h:H6 a n) (hn:n < 65536):H6 (Q7 a).1 (n+1):=by
 have:=h.a6Z
 have:=h.a5N
 unfold Q7
 rw [if_neg (by omega)]
 exact⟨Nat.le_succ_of_le h.Z5,Nat.le_succ_of_le h.boxes,by show 0≤a.F9+1;omega,by show a.F9+1≤((n+1:Nat):Int);omega,h.tag,h.uniq,h.box⟩
theorem a5a (k:Tag) (m:List UInt8) (x:y5):a4d k m x=true↔x.Key=k∧x.Message=m:=by simp [a4d]
theorem H6.mac {a:C7} {n:Nat} (h:H6 a n) (hn:n < 65536) {k:Tag} {m:List UInt8} (hm:m.length≤1000):H6 (H5 a k m).1 (n+1):=by
 have h1:=h.Z5
 cases hf:S0 a k m with
 | some x =>
  have e:H5 a k m=(a,x.Tag,0):=by unfold H5;rw [if_neg (by omega),hf]
  rw [e];exact h.le (Nat.le_succ _)
 | none =>
  rw [a3Z (by omega) hf (by omega)]
  have hnone:∀ x∈a.G3,a4d k m x=false:=fun x hx=>by
   have:=List.find?_eq_none.1 hf x hx
   simpa using this
  refine⟨by simp;exact h1,Nat.le_succ_of_le h.boxes,h.a5N,by have:=h.a6Z;show a.F9≤_;omega,fun i hi => ?_,fun i hi => ?_,h.box⟩
  ·simp only [List.length_append,List.length_singleton] at hi
   by_cases e:i < a.G3.length
   ·simp only [List.getElem_append_left e];exact h.tag i e
   ·obtain rfl:i=a.G3.length:=by omega
    simp only [List.getElem_concat_length]
    refine⟨hm,?_⟩
    unfold a3g
    rw [show((a.G3.length+1:Nat):Int)=(a.G3.length:Int)+1 by omega]
  ·simp only [List.length_append,List.length_singleton] at hi
   by_cases e:i < a.G3.length
   ·simp only [List.getElem_append_left e]
    rw [List.find?_append,h.uniq i e];rfl
   ·obtain rfl:i=a.G3.length:=by omega
    simp only [List.getElem_concat_length]
    have:a.G3.find? (a4d k m)=none:=hf
    rw [List.find?_append,this]
    simp [a4d]
theorem H6.boxed {a:C7} {n:Nat} (h:H6 a n) (hn:n < 65536) {k:Tag} {c:Int} {p:List UInt8} (hc0:0≤c) (hc1:c≤281474976710656) (hp:p.length≤256):H6 (Q8 a k c p).1 (n+1):=by
 have h1:=h.boxes
 have hr:(decide (c < 0)||decide (281474976710656 < c))=false:=by simp;omega
 cases hf:a.x7.find? (a4H k c p) with
 | some x=>rw [a3j hr (by omega) hf];exact h.le (Nat.le_succ _)
 | none =>
  rw [a2W hr (by omega) hf (by omega)]
  refine⟨Nat.le_succ_of_le h.Z5,by simp;exact h1,h.a5N,by have:=h.a6Z;show a.F9≤_;omega,h.tag,h.uniq,fun i hi => ?_⟩
  simp only [List.length_append,List.length_singleton] at hi
  by_cases e:i < a.x7.length
  ·simp only [List.getElem_append_left e];exact h.box i e
  ·obtain rfl:i=a.x7.length:=by omega
   simp only [List.getElem_concat_length]
   refine⟨hp,hc0,hc1,?_⟩
   unfold a3i
   rw [show((a.x7.length+1:Nat):Int)=(a.x7.length:Int)+1 by omega]
theorem H6.c0z {a:C7} {n:Nat} (h:H6 a n):∀ x∈a.x7,x.X3.length≤1000000:=fun x hx=>by
 obtain⟨i,hi,rfl⟩:=List.getElem_of_mem hx
 obtain⟨h1,_,_,h2⟩:=h.box i hi
 rw [h2]
 split
 ·simp;omega
 ·simp [Y6,V0,E1,P7];omega
theorem I7 (w : Value) (d : o5) (n : Int) (hd : L5 d) (h0 : 0 < n) (h1 : n ≤ 4611686018427387904) :
    G5 gl Tryz.prog 19 [dk w,.v n] [.ob w d] (fun r Hs=>∃ v:Int,∃ d',0≤v∧v < n∧L5 d'∧r = .v v∧Hs = [.ob w d']) :=
  (a4B w d n hd h0 h1).mono fun r Hs ⟨h2,h3⟩=>⟨_,_,(Z1 h0).1,(Z1 h0).2,V7 hd,h2,h3⟩
end Go.Proofs.YtmmclghiidoldaaGreatDoor
namespace Go.Fl
open Go.RowKit
theorem a9a {P : Program} {l : Nat} {a : Act} {w : World} {o : Oper} {F : Operand} {args : Array Operand} {tys : Array TypeId} (ho : o.op = .call ⟨.value F, args, tys⟩)
    (hF:a.eval F = .func (.yield l) #[] #[]) {vs:List Value} (hv:args.toList.map a.eval=vs):(execOp a.eval o).run P w=(Instr.yield l vs.toArray).run P w:=by
  subst hv
  have hargs:args.map a.eval=(args.toList.map a.eval).toArray:=by cases args;simp
  simp [execOp,ho,resolve,Deferred.ofValue,hF,invoke,callFunc,←hargs]
def a0H (P:Program) (l:Nat) (args:Array Value) (I:Im) (L:Lh) (post:Value→Im→Lh→Prop):Prop :=
 ∀ w,Mem I L w→∃ f tmps assign body,(Instr.yield l args).run P w = .ok (.round l f tmps assign body) w∧RoundIn Fence.wide 0 P l f tmps assign body w fun e w'=>∃ v J L',e = .returned v∧Chg (L.flatten.map Prod.fst) w w'∧Le I J∧a7a w.heap.size I J∧Mem J L' w' ∧
  (∀ p∈L'.flatten,w.heap.size≤p.1∨p.1∈L.flatten.map Prod.fst)∧post v J L'
theorem St.c1g {C : Ctx} {I J : Im} {L : Lh} {w w' : World} {i : Nat} {c c' : List (Nat × Obj)} (hs : St C I L w) (hc : L[i]? = some c) (hch : Chg (c.map Prod.fst) w w') (hle : Le I J) (hn : a7a w.heap.size I J) (hm' : Mem J [c'] w')
    (hown:∀ p∈c',w.heap.size≤p.1∨p.1∈c.map Prod.fst):St C J (L.set i c') w':=by
  have hm:=hs.mem
  have hsplit:=fun c'=>a0T L i c hc c'
  have hlt:∀ p∈L.flatten,p.1 < w.heap.size:=fun p hp=>y6 (hm.loc p hp)
  have hnd:=hm.nodup
  rw [(hsplit c').1] at hnd
  have hoth:∀ p,p∈(L.take i).flatten∨p∈(L.drop (i+1)).flatten→p∈L.flatten∧p.1∉c.map Prod.fst:=by
    intro p hp
    rw [(hsplit c').1]
    simp only [List.map_append,List.nodup_append] at hnd
    rcases hp with hp|hp
    · exact⟨by simp [hp],fun hx=>hnd.2.2 p.1 (List.mem_map_of_mem hp) p.1 (by simp only [List.mem_append];exact .inl hx) rfl⟩
    · exact⟨by simp [hp],fun hx=>hnd.2.1.2.2 p.1 hx p.1 (List.mem_map_of_mem hp) rfl⟩
  have hcas:∀ p∈(L.set i c').flatten,p∈c'∨(p∈(L.take i).flatten∨p∈(L.drop (i+1)).flatten):=by
    intro p hp
    rw [(hsplit c').2] at hp
    simp only [List.mem_append] at hp
    rcases hp with hp|hp|hp
    · exact .inr (.inl hp)
    · exact .inl hp
    · exact .inr (.inr hp)
  have hcM:∀ k∈c.map Prod.fst,k < C.w0.heap.size→k∈C.M:=by
    intro k hk hlt0
    obtain⟨p,hp,rfl⟩:=List.mem_map.1 hk
    rcases hs.own p (D2 hc hp) with h1|h1
    · omega
    · exact h1
  have hchg:Chg C.M C.w0 w':=by
    refine⟨hch.os.trans hs.S3.os,hch.tape.trans hs.S3.tape,hch.output.trans hs.S3.output,Nat.le_trans hs.S3.size hch.size,fun k hk hkm => ?_⟩
    rw [hch.block k (Nat.lt_of_lt_of_le hk hs.S3.size) (fun hx=>hkm (hcM k hx hk))]
    exact hs.S3.block k hk hkm
  refine⟨⟨hm'.im,fun p hp => ?_,fun p hp => ?_,?_⟩,hchg,fun p hp => ?_,hs.V5.trans hle,fun b h0 h1 => ?_⟩
  · rcases hcas p hp with h1|h1
    · exact hm'.loc p (by simpa using h1)
    · obtain⟨h2,h3⟩:=hoth p h1
      exact(hch.block p.1 (hlt p h2) h3).trans (hm.loc p h2)
  · rcases hcas p hp with h1|h1
    · exact hm'.sep p (by simpa using h1)
    · obtain⟨h2,h3⟩:=hoth p h1
      cases hj:J p.1 with
      | none=>rfl
      | some o=>exact absurd (hn p.1 (hm.sep p h2) (by simp [hj])) (by have:=hlt p h2;omega)
  · rw [(hsplit c').2]
    have hc'nd:=hm'.nodup
    simp only [List.map_append,List.nodup_append] at hnd ⊢
    refine⟨hnd.1,⟨by simpa using hc'nd,hnd.2.1.2.1,?_⟩,?_⟩
    · rintro x hx y hy rfl
      obtain⟨p,hp,rfl⟩:=List.mem_map.1 hx
      obtain⟨q,hq,hqe⟩:=List.mem_map.1 hy
      obtain⟨h2,h3⟩:=hoth q (.inr hq)
      rcases hown p hp with h4|h4
      · have:=hlt q h2;omega
      · exact h3 (hqe▸h4)
    · rintro x hx y hy rfl
      obtain⟨q,hq,rfl⟩:=List.mem_map.1 hx
      obtain⟨h2,h3⟩:=hoth q (.inl hq)
      simp only [List.mem_append] at hy
      rcases hy with hy|hy
      · obtain⟨p,hp,hpe⟩:=List.mem_map.1 hy
        rcases hown p hp with h4|h4
        · have:=hlt q h2;omega
        · exact h3 (hpe▸h4)
      · exact hnd.2.2 q.1 hx q.1 (by simp only [List.mem_append];exact .inr hy) rfl
  · rcases hcas p hp with h1|h1
    · rcases hown p h1 with h2|h2
      · exact .inl (Nat.le_trans hs.S3.size h2)
      · obtain⟨q,hq,hqe⟩:=List.mem_map.1 h2
        rw [←hqe]
        exact hs.own q (D2 hc hq)
    · exact hs.own p (hoth p h1).1
  · cases hi:I b with
    | none=>exact Nat.le_trans hs.S3.size (hn b hi h1)
    | some o=>exact hs.new b h0 (by simp [hi])
theorem Mem.chunk {I:Im} {L:Lh} {w:World} {i:Nat} {c:List (Nat×Obj)} (hm:Mem I L w) (hc:L[i]?=some c):Mem I [c] w :=
 ⟨hm.im,fun p hp=>hm.loc p (D2 hc (by simpa using hp)),fun p hp=>hm.sep p (D2 hc (by simpa using hp)),by simpa using a0J hm.nodup hc⟩
section
variable {P:Program} {C:Ctx} {N:Nat} {ρ:Env} {I:Im} {L:Lh} {d:Option Nat} {F:Operand} {args:Array Operand} {tys:Array TypeId} {ty:TypeId} {ps:String} {af:Array Edge} {g:Option (Nat×Bool)} {vs:List Value}
theorem OpS.b3n {l : Nat} {post : Value → Im → Lh → Prop} {K : Value → Im → Lh → Prop} (i : Nat) {c : List (Nat × Obj)} (hc : L[i]? = some c) (hF : ev ρ F = some (.func (.yield l) #[] #[])) (hv : evL ρ args.toList = some vs)
    (h:a0H P l vs.toArray I [c] post) (k:∀ v J c' (w:World),Le I J→post v J [c']→(∀ p∈c',w.heap.size≤p.1∨p.1∈c.map Prod.fst)→C.w0.heap.size≤w.heap.size→K v J (L.set i c')) (hshape:∀ v J L',post v J L'→∃ c',L' = [c']) :
    OpS P C N ⟨d,.call ⟨.value F,args,tys⟩,ty,ps,af,g⟩ ρ I L K:=fun a w ha hs=>by
  rw [a9a rfl (ha.ev hF) (ha.evL hv)]
  obtain⟨f,tmps,as_,body,hy,hR⟩:=h w (hs.mem.chunk hc)
  rw [hy]
  refine RoundIn.mono hR ?_
  rintro e w' ⟨v,J,L',rfl,hch,hle,hn,hm',hown,hp⟩
  obtain⟨c',rfl⟩:=hshape v J L' hp
  have hch':Chg (c.map Prod.fst) w w':=by simpa using hch
  have hown':∀ p∈c',w.heap.size≤p.1∨p.1∈c.map Prod.fst:=fun p hq=>by simpa using hown p (by simpa using hq)
  exact⟨v,a8,J,L.set i c',hs.c1g hc hch' hle hn hm' hown',k v J c' w hle hp hown' hs.S3.size⟩
end
abbrev a4I (D l:Nat) (r:Loop):List (Nat×Obj) := [(D,.deferred (some [])),(l,.loop r)]
theorem Chg.putObj {M:List Nat} {w0 w:World} {l:Nat} (h:Chg M w0 w) (hl:l∈M∨w0.heap.size≤l) (o:Obj):Chg M w0 (w.putObj l o) :=
 ⟨h.os,h.tape,h.output,by rw [World.putObj_size];exact h.size,fun k hk hm=>by
  have hkl:k≠l:=fun e=>by
   subst e
   rcases hl with hl|hl
   ·exact hm hl
   ·omega
  rw [World.putObj_heap_other hkl];exact h.block k hk hm⟩
theorem Chg.alloc {M:List Nat} {w0 w:World} (h:Chg M w0 w) (o:Obj):Chg M w0 (w.alloc o) :=
 ⟨h.os,h.tape,h.output,by have:=h.size;simp;omega,fun k hk hm=>by
  have h1:k < w.heap.size:=Nat.lt_of_lt_of_le hk h.size
  rw [heap_alloc_old w _ h1];exact h.block k hk hm⟩
theorem Mem.c2o {I:Im} {Y:List (Nat×Obj)} {D l:Nat} {r r':Loop} {w:World} (hm:Mem I [Y++a4I D l r] w):Mem I [Y++a4I D l r'] (w.putObj l (.loop r')):=by
 have hnd:=hm.nodup
 have hl:w.heap[l]?=some (.loop r):=hm.loc (l,.loop r) (by simp)
 have hlt:=y6 hl
 have hne:∀ p∈Y,p.1≠l:=fun p hp e=>by
  simp only [List.flatten_cons,List.flatten_nil,List.append_nil,List.map_append,List.nodup_append] at hnd
  exact hnd.2.2 p.1 (List.mem_map_of_mem hp) l (by simp) e
 have hDl:D≠l:=fun e=>by
  simp only [List.flatten_cons,List.flatten_nil,List.append_nil,List.map_append,List.nodup_append] at hnd
  simp [e] at hnd
 refine⟨fun b o hb => ?_,fun p hp => ?_,fun p hp => ?_,?_⟩
 ·have hbl:b≠l:=fun e=>by
   have:=hm.sep (l,.loop r) (by simp)
   rw [e] at hb;rw [hb] at this;cases this
  rw [World.putObj_heap_other hbl];exact hm.im b o hb
 ·simp only [List.flatten_cons,List.flatten_nil,List.append_nil,List.mem_append,List.mem_cons,List.not_mem_nil,or_false] at hp
  rcases hp with hp|rfl|rfl
  ·rw [World.putObj_heap_other (hne p hp)];exact hm.loc p (by simp [hp])
  ·rw [World.putObj_heap_other hDl];exact hm.loc (D,.deferred (some [])) (by simp)
  ·exact World.putObj_heap_same hlt
 ·simp only [List.flatten_cons,List.flatten_nil,List.append_nil,List.mem_append,List.mem_cons,List.not_mem_nil,or_false] at hp
  rcases hp with hp|rfl|rfl
  ·exact hm.sep p (by simp [hp])
  ·exact hm.sep (D,.deferred (some [])) (by simp)
  ·exact hm.sep (l,.loop r) (by simp)
 ·simpa using hnd
theorem Mem.b4S {I:Im} {L M:Lh} {w:World} (hm:Mem I L w) (e:M.flatten=L.flatten):Mem I M w:=⟨hm.im,by rw [e];exact hm.loc,by rw [e];exact hm.sep,by rw [e];exact hm.nodup⟩
theorem Mem.left {I:Im} {Y Z:List (Nat×Obj)} {w:World} (hm:Mem I [Y++Z] w):Mem I [Y] w :=
 ⟨hm.im,fun p hp=>hm.loc p (by simp at hp ⊢;exact .inl hp),fun p hp=>hm.sep p (by simp at hp ⊢;exact .inl hp),by
  have:=hm.nodup
  simp only [List.flatten_cons,List.flatten_nil,List.append_nil,List.map_append,List.nodup_append] at this ⊢
  exact this.1⟩
theorem St.c2p {I:Im} {L:Lh} {w:World} (l:Option Nat) (hm:Mem I L w):St ⟨w,L.flatten.map Prod.fst,I,l⟩ I L w :=
 ⟨hm,Chg.refl _ _,fun p hp => .inr (List.mem_map_of_mem hp),Le.refl _,fun b h0 h1=>absurd h0 h1⟩
def R5 (ps:List Nat) (vs:List Value) (ρ:Env):Env:=(ps.zip vs).foldl (fun ρ p=>p::ρ) ρ
theorem Fits.params {N:Nat}:∀ {ps:List Nat} {vs:List Value} {ρ:Env} {t:Array Value},Fits N ρ ⟨t,[]⟩→(∀ p∈ps,p < N)→Fits N (R5 ps vs ρ) ⟨(ps.zip vs).foldl (fun t (p:Nat×Value)=>t.setIfInBounds p.1 p.2) t,[]⟩
 | [],vs,ρ,t,h,_=>by simpa [R5] using h
 | p::ps,[],ρ,t,h,_=>by simpa [R5] using h
 | p::ps,v::vs,ρ,t,h,hp=>by
  have h1:=h.put (d:=p) (hp p List.mem_cons_self) v
  have h2:=Fits.params (ps:=ps) (vs:=vs) (ρ:=(p,v)::ρ) (t:=t.setIfInBounds p v) (by simpa [Act.put] using h1) (fun q hq=>hp q (List.mem_cons_of_mem _ hq))
  simpa [R5] using h2
theorem a0H.round {P : Program} {N D l fn : Nat} {ps : Array Tmp} {assign body : Code} {tm : Array Value} {ρ : Env} {I' : Im} {Y : List (Nat × Obj)} {vs : List Value} {J' : Im → List (Nat × Obj) → Prop} {Jx : Nat → Im → List (Nat × Obj) → Prop}
    (hps:∀ p∈ps.toList,p < N) (hsz:vs.length=ps.size) (ha:Fits N ρ ⟨tm,[]⟩) (rec_:LoopState→Option Code→Loop) (hrec:rec_=fun st pe => { state:=st,pending:=pe,fn:=fn,tmps:=tm,params:=ps,assign:=assign,body:=body,defers:=D })
    (round:∀ (w1:World),Mem I' [Y] w1→∃ L1,L1.flatten=Y∧wpS P ⟨w1,L1.flatten.map Prod.fst,I',some l⟩ N assign (fun e ρ2 I2 L2=>e = .normal∧∀ w3,Mem I2 L2 w3 →
      wpS P ⟨w3,L2.flatten.map Prod.fst,I2,some l⟩ N body (fun e' ρ3 I3 L3=>(e' = .normal∧J' I3 L3.flatten)∨∃ id,e' = .exit id∧Jx id I3 L3.flatten) ρ2 I2 L2) (R5 ps.toList vs ρ) I' L1) :
    a0H P l vs.toArray I' [Y++a4I D l (rec_ .ready none)] (fun v I3 L'=>∃ Y3,(v = .bool true∧J' I3 Y3∧L' = [Y3++a4I D l (rec_ .ready none)])∨∃ id,v = .bool false∧Jx id I3 Y3∧L' = [Y3++a4I D l (rec_ .done (some (.exit id)))]):=by
  intro w1 hm1
  have hl1:w1.heap[l]?=some (.loop (rec_ .ready none)):=hm1.loc (l,.loop (rec_ .ready none)) (by simp)
  have hD1:w1.heap[D]?=some (.deferred (some [])):=hm1.loc (D,.deferred (some [])) (by simp)
  have hlt1:=y6 hl1
  have hDt1:=y6 hD1
  have hnd1:=hm1.nodup
  simp only [List.flatten_cons,List.flatten_nil,List.append_nil,List.map_append,List.nodup_append] at hnd1
  have hDl:D≠l:=fun e=>by have:=hnd1.2.1;simp [e] at this
  have hYl:∀ p∈Y,p.1≠l∧p.1≠D:=fun p hp=>⟨fun e=>hnd1.2.2 p.1 (List.mem_map_of_mem hp) l (by simp) e,fun e=>hnd1.2.2 p.1 (List.mem_map_of_mem hp) D (by simp) e⟩
  have hIl:I' l=none:=hm1.sep (l,.loop (rec_ .ready none)) (by simp)
  have hID:I' D=none:=hm1.sep (D,.deferred (some [])) (by simp)
  have hy:=run_yield (P:=P) (args:=vs.toArray) hl1 (by rw [hrec];simpa using hsz)
  rw [hrec] at hy
  refine⟨fn,_,assign,body,hy,roundIn_of_wpIn trivial ?_⟩
  obtain⟨L1,rfl,hw1⟩:=round w1 hm1.left
  have hst1:St ⟨w1,L1.flatten.map Prod.fst,I',some l⟩ I' L1 w1:=St.c2p (some l) (hm1.left.b4S (by simp))
  have hfit1:Fits N (R5 ps.toList vs ρ) ⟨(ps.zip vs.toArray).foldl (fun t (p,v)=>t.setIfInBounds p v) tm,[]⟩:=by
    have h1:=Fits.params (ps:=ps.toList) (vs:=vs) ha hps
    have e:(ps.zip vs.toArray).foldl (fun t (p,v)=>t.setIfInBounds p v) tm=(ps.toList.zip vs).foldl (fun t (p:Nat×Value)=>t.setIfInBounds p.1 p.2) tm:=by
      rw [←Array.foldl_toList,Array.toList_zip]
    rw [e];exact h1
  refine wpIn_mono (hw1 _ w1 hfit1 hst1) ?_
  rintro e a2 w2 ⟨ρ2,I2,L2,hf2,hs2,rfl,hbody⟩
  -- the record is still ags it was
  have hnotl2:∀ p∈L2.flatten,p.1≠l∧p.1≠D:=fun p hp=>by
    rcases hs2.own p hp with h|h
    · have h':w1.heap.size≤p.1:=h
      exact⟨by omega,by omega⟩
    · obtain⟨q,hq,hqe⟩:=List.mem_map.1 h
      rw [←hqe];exact hYl q hq
  have hl2:w2.heap[l]?=some (.loop (rec_ .ready none)):=(hs2.S3.block l hlt1 (fun hx=>by obtain⟨q,hq,hqe⟩:=List.mem_map.1 hx;exact(hYl q hq).1 hqe)).trans hl1
  have hD2:w2.heap[D]?=some (.deferred (some [])):=(hs2.S3.block D hDt1 (fun hx=>by obtain⟨q,hq,hqe⟩:=List.mem_map.1 hx;exact(hYl q hq).2 hqe)).trans hD1
  have hI2l:I2 l=none:=by
    cases h:I2 l with
    | none=>rfl
    | some o=>have h':w1.heap.size≤l:=hs2.new l hIl (by simp [h]);omega
  have hI2D:I2 D=none:=by
    cases h:I2 D with
    | none=>rfl
    | some o=>have h':w1.heap.size≤D:=hs2.new D hID (by simp [h]);omega
  have hbr:=run_beginRound (P:=P) hl2 (by rw [hrec])
  refine⟨_,hbr,?_⟩
  have hm3:Mem I2 (L2:Lh) (w2.putObj l (.loop { rec_ .ready none with state := .busy })):=by
    refine⟨fun b o hb => ?_,fun p hp => ?_,hs2.mem.sep,hs2.mem.nodup⟩
    · rw [World.putObj_heap_other (fun e=>by rw [e,hI2l] at hb;cases hb)];exact hs2.mem.im b o hb
    · rw [World.putObj_heap_other (hnotl2 p hp).1];exact hs2.mem.loc p hp
  have hst3:=St.c2p (some l) hm3
  have hl3:(w2.putObj l (.loop { rec_ .ready none with state := .busy })).heap[l]?=some (.loop { rec_ .ready none with state := .busy }):=World.putObj_heap_same (y6 hl2)
  have hD3:(w2.putObj l (.loop { rec_ .ready none with state := .busy })).heap[D]?=some (.deferred (some [])):=(World.putObj_heap_other hDl).trans hD2
  refine wpIn_mono (hbody _ hm3 a2 _ hf2 hst3) ?_
  rintro e a4 w4 ⟨ρ3,I3,L3,hf4,hs4,hq⟩
  have hc4:=hs4.S3
  have hlt3:l < (w2.putObj l (.loop { rec_ .ready none with state := .busy })).heap.size:=y6 hl3
  have hDt3:D < (w2.putObj l (.loop { rec_ .ready none with state := .busy })).heap.size:=y6 hD3
  have hl4:w4.heap[l]?=some (.loop { rec_ .ready none with state := .busy }):=(hc4.block l hlt3 (fun hx=>by obtain⟨q,hq,hqe⟩:=List.mem_map.1 hx;exact(hnotl2 q hq).1 hqe)).trans hl3
  have hD4:w4.heap[D]?=some (.deferred (some [])):=(hc4.block D hDt3 (fun hx=>by obtain⟨q,hq,hqe⟩:=List.mem_map.1 hx;exact(hnotl2 q hq).2 hqe)).trans hD3
  have hsz13:w1.heap.size≤(w2.putObj l (.loop { rec_ .ready none with state := .busy })).heap.size:=by rw [World.putObj_size];exact hs2.S3.size
  have hnotl3:∀ p∈L3.flatten,p.1≠l∧p.1≠D:=fun p hp=>by
    rcases hs4.own p hp with h|h
    · have h':(w2.putObj l (.loop { rec_ .ready none with state := .busy })).heap.size≤p.1:=h
      exact⟨by omega,by omega⟩
    · obtain⟨q,hq,hqe⟩:=List.mem_map.1 h
      rw [←hqe];exact hnotl2 q hq
  have hI3l:I3 l=none:=by
    cases h:I3 l with
    | none=>rfl
    | some o=>have h':(w2.putObj l (.loop { rec_ .ready none with state := .busy })).heap.size≤l:=hs4.new l hI2l (by simp [h]);omega
  have hI3D:I3 D=none:=by
    cases h:I3 D with
    | none=>rfl
    | some o=>have h':(w2.putObj l (.loop { rec_ .ready none with state := .busy })).heap.size≤D:=hs4.new D hI2D (by simp [h]);omega
  have hm4:Mem I3 [L3.flatten++a4I D l { rec_ .ready none with state := .busy }] w4:=by
    refine⟨hs4.mem.im,fun p hp => ?_,fun p hp => ?_,?_⟩
    · simp only [List.flatten_cons,List.flatten_nil,List.append_nil,List.mem_append,List.mem_cons,List.not_mem_nil,or_false] at hp
      rcases hp with hp|rfl|rfl
      · exact hs4.mem.loc p hp
      · exact hD4
      · exact hl4
    · simp only [List.flatten_cons,List.flatten_nil,List.append_nil,List.mem_append,List.mem_cons,List.not_mem_nil,or_false] at hp
      rcases hp with hp|rfl|rfl
      · exact hs4.mem.sep p hp
      · exact hI3D
      · exact hI3l
    · simp only [List.flatten_cons,List.flatten_nil,List.append_nil,List.map_append,List.map_cons,List.map_nil]
      refine List.nodup_append.2 ⟨hs4.mem.nodup,by simp [hDl],?_⟩
      rintro x hx y hy rfl
      obtain⟨q,hq,hqe⟩:=List.mem_map.1 hx
      simp only [List.mem_cons,List.not_mem_nil,or_false] at hy
      rcases hy with hy|hy
      · exact(hnotl3 q hq).2 (hqe.trans hy)
      · exact(hnotl3 q hq).1 (hqe.trans hy)
  have hZ:∀ k,k∈L1.flatten.map Prod.fst→k∈([L1.flatten++a4I D l (rec_ .ready none)]:Lh).flatten.map Prod.fst:=fun k hk=>by simp at hk ⊢;exact .inl hk
  have hlZ:l∈([L1.flatten++a4I D l (rec_ .ready none)]:Lh).flatten.map Prod.fst:=by simp
  have hchg14:Chg (([L1.flatten++a4I D l (rec_ .ready none)]:Lh).flatten.map Prod.fst) w1 w4:=by
    have h12:Chg (([L1.flatten++a4I D l (rec_ .ready none)]:Lh).flatten.map Prod.fst) w1 w2:=hs2.S3.mono (fun k hk _=>hZ k hk)
    have h13:=h12.putObj (.inl hlZ) (.loop { rec_ .ready none with state := .busy })
    refine⟨hc4.os.trans h13.os,hc4.tape.trans h13.tape,hc4.output.trans h13.output,Nat.le_trans h13.size hc4.size,fun k hk hm => ?_⟩
    rw [hc4.block k (Nat.lt_of_lt_of_le hk h13.size) (fun hx => ?_)]
    · exact h13.block k hk hm
    · obtain⟨q,hq,hqe⟩:=List.mem_map.1 hx
      rcases hs2.own q hq with h|h
      · have h':w1.heap.size≤q.1:=h
        omega
      · exact hm (hZ k (hqe▸h))
  have hown4:∀ p∈L3.flatten,w1.heap.size≤p.1∨p.1∈([L1.flatten++a4I D l (rec_ .ready none)]:Lh).flatten.map Prod.fst:=fun p hp=>by
    rcases hs4.own p hp with h|h
    · exact .inl (Nat.le_trans hsz13 h)
    · obtain⟨q,hq,hqe⟩:=List.mem_map.1 h
      rw [←hqe]
      rcases hs2.own q hq with h|h
      · exact .inl h
      · exact .inr (hZ _ h)
  have hnew4:a7a w1.heap.size I' I3:=fun b h0 h1=>by
    cases h:I2 b with
    | none=>exact Nat.le_trans hsz13 (hs4.new b h h1)
    | some o=>exact hs2.new b h0 (by simp [h])
  have hle4:Le I' I3:=hs2.V5.trans hs4.V5
  have fin : ∀ jump : Option Code, (Instr.endRound l jump).run P w4 = .ok (.bool jump.isNone) (w4.putObj l (.loop (rec_ (if jump.isNone then .ready else .done) jump))) ∧
      Mem I3 [L3.flatten++a4I D l (rec_ (if jump.isNone then .ready else .done) jump)] (w4.putObj l (.loop (rec_ (if jump.isNone then .ready else .done) jump))):=fun jump=>by
    have h:=run_endRound (P:=P) jump hl4
    rw [hrec] at h ⊢
    exact⟨h,by have:=hm4.c2o (r':=rec_ (if jump.isNone then .ready else .done) jump);rw [hrec] at this;exact this⟩
  have hown5:∀ (r:Loop),∀ p∈([L3.flatten++a4I D l r]:Lh).flatten,w1.heap.size≤p.1∨p.1∈([L1.flatten++a4I D l (rec_ .ready none)]:Lh).flatten.map Prod.fst:=fun r p hp=>by
    simp only [List.flatten_cons,List.flatten_nil,List.append_nil,List.mem_append,List.mem_cons,List.not_mem_nil,or_false] at hp
    rcases hp with hp|rfl|rfl
    · exact hown4 p hp
    · exact .inr (by simp)
    · exact .inr (by simp)
  rcases hq with ⟨rfl,hJ⟩|⟨id,rfl,hJ⟩
  · obtain⟨h1,h2⟩:=fin none
    exact⟨_,_,h1,_,I3,_,a8,hchg14.putObj (.inl hlZ) _,hle4,hnew4,h2,hown5 _,L3.flatten,.inl ⟨a8,hJ,a8⟩⟩
  · obtain⟨h1,h2⟩:=fin (some (.exit id))
    exact⟨_,_,h1,_,I3,_,a8,hchg14.putObj (.inl hlZ) _,hle4,hnew4,h2,hown5 _,L3.flatten,.inr ⟨id,a8,hJ,a8⟩⟩
end Go.Fl
namespace Go.Fl
open Go.RowKit
abbrev bare (a:Act):Act := { a with defers := [] }
def Marks (C:Ctx) (I:Im) (L:Lh) (w:World) (ds:List Deferred):Prop :=
 ds = []∨∃ D,ds = [{ target := .collected D,args := #[] }]∧w.heap[D]?=some (.deferred (some []))∧C.w0.heap.size≤D∧I D=none∧∀ p∈L.flatten,p.1≠D
def b7x (C:Ctx) (N:Nat) (Q:Exit→Env→Im→Lh→Prop):Exit→Act→World→Prop :=
 fun e a w=>∃ ρ I L,Fits N ρ (bare a)∧Marks C I L w a.defers∧St C I L w∧Q e ρ I L
def wpC (P:Program) (C:Ctx) (N:Nat) (c:Code) (Q:Exit→Env→Im→Lh→Prop) (ρ:Env) (I:Im) (L:Lh):Prop :=
 ∀ a w,Fits N ρ a→St C I L w→c.wpIn C.fen 0 P (b7x C N Q) a w
def wpD (P:Program) (C:Ctx) (N:Nat) (c:Code) (Q:Exit→Env→Im→Lh→Prop) (ρ:Env) (I:Im) (L:Lh):Prop :=
 ∀ a w,Fits N ρ (bare a)→Marks C I L w a.defers→St C I L w→c.wpIn C.fen 0 P (b7x C N Q) a w
theorem Fits.bare {N:Nat} {ρ:Env} {a:Act} (h:Fits N ρ a):Fits N ρ (bare a):=⟨rfl,h.size,h.tmp⟩
section
variable {P:Program} {C:Ctx} {N:Nat} {Q:Exit→Env→Im→Lh→Prop} {ρ:Env} {I:Im} {L:Lh}
theorem wpC.mono {Q':Exit→Env→Im→Lh→Prop} {c:Code} (h:wpC P C N c Q ρ I L) (hq:∀ e ρ I L,Q e ρ I L→Q' e ρ I L):wpC P C N c Q' ρ I L :=
 fun a w ha hw=>wpIn_mono (h a w ha hw) fun _ _ _ ⟨ρ,I,L,h1,h2,h3,h4⟩=>⟨ρ,I,L,h1,h2,h3,hq _ _ _ _ h4⟩
theorem wpC.c3k {x y:Code} (h:wpS P C N x (a9g (wpC P C N y Q) Q) ρ I L):wpC P C N (.seq x y) Q ρ I L:=fun a w ha hw=>by
 refine wpIn_seq (wpIn_mono (h a w ha hw) fun e a w hq => ?_)
 obtain⟨ρ,I,L,h1,h2,h3⟩:=hq
 cases e with
 | normal=>exact h3 a w h1 h2
 | _=>exact⟨ρ,I,L,h1.bare,.inl h1.defers,h2,h3⟩
theorem wpC.c3l {x y:Code} (h:wpC P C N x (a9g (wpD P C N y Q) Q) ρ I L):wpC P C N (.seq x y) Q ρ I L:=fun a w ha hw=>by
 refine wpIn_seq (wpIn_mono (h a w ha hw) fun e a w hq => ?_)
 obtain⟨ρ,I,L,h1,h2,h3,h4⟩:=hq
 cases e with
 | normal=>exact h4 a w h1 h2 h3
 | _=>exact⟨ρ,I,L,h1,h2,h3,h4⟩
theorem wpC.block {id:Nat} {c:Code} (h:wpC P C N c (a3K id Q) ρ I L):wpC P C N (.block id c) Q ρ I L:=fun a w ha hw=>by
 refine wpIn_block (wpIn_mono (h a w ha hw) fun e a w hq => ?_)
 obtain⟨ρ,I,L,h1,h2,h3,h4⟩:=hq
 cases e with
 | exit i =>
  by_cases hi:i=id
  ·subst hi
   simp only [Exit.inBlock,if_true]
   exact⟨ρ,I,L,h1,h2,h3,by simpa [a3K] using h4⟩
  ·have hb:Nat.beq i id=false:=a4i hi
   simp only [Exit.inBlock,if_neg hi]
   exact⟨ρ,I,L,h1,h2,h3,by simpa [a3K,hb] using h4⟩
 | _=>exact⟨ρ,I,L,h1,h2,h3,h4⟩
theorem wpD.seq {x y:Code} (h:wpD P C N x (a9g (wpD P C N y Q) Q) ρ I L):wpD P C N (.seq x y) Q ρ I L:=fun a w ha hm hw=>by
 refine wpIn_seq (wpIn_mono (h a w ha hm hw) fun e a w hq => ?_)
 obtain⟨ρ,I,L,h1,h2,h3,h4⟩:=hq
 cases e with
 | normal=>exact h4 a w h1 h2 h3
 | _=>exact⟨ρ,I,L,h1,h2,h3,h4⟩
theorem wpD.ret (h:Q .ret ρ I L):wpD P C N .ret Q ρ I L:=fun a w ha hm hw=>wpIn_ret ⟨ρ,I,L,ha,hm,hw,h⟩
def b3o (P:Program) (C:Ctx) (N:Nat) (ops:Array Oper) (Q:Exit→Env→Im→Lh→Prop) (l:List Oper) (ρ:Env) (I:Im) (L:Lh):Prop :=
 M3 N l=true→∀ a w,Fits N ρ (bare a)→Marks C I L w a.defers→St C I L w→wpListIn C.fen 0 P ops (b7x C N Q) l a w
theorem b3o.nil {ops:Array Oper} (h:Q .normal ρ I L):b3o P C N ops Q [] ρ I L:=fun _ a w ha hm hs=>wpListIn_nil ⟨ρ,I,L,ha,hm,hs,h⟩
theorem b3o.x {ops : Array Oper} {rest : List Oper} {d : Nat} {op : Op} {ty : TypeId} {ps : String} {af : Array Edge}
    (h:OpX P N ⟨some d,op,ty,ps,af,none⟩ ρ I L (fun v J X=>b3o P C N ops Q rest ((d,v)::ρ) J (X++L))) :
    b3o P C N ops Q (⟨some d,op,ty,ps,af,none⟩::rest) ρ I L:=fun hd a w ha hm hs=>by
  obtain⟨hlt,hd'⟩:=a71 hd
  refine wpListIn_plain rfl fun K hK=>Yld.wp ?_
  have h1:Yld P ((execOp a.eval ⟨some d,op,ty,ps,af,none⟩).run P w) _:=h (bare a) w ha hs.mem
  refine h1.mono ?_
  rintro v w' ⟨J,X,hc,hle,hn,hm',hX,hk⟩
  refine hK _ _ (hk hd' _ _ (ha.put hlt v) ?_ (hs.step hc hle hn hm' hX))
  rcases hm with hm|⟨D,h1,h2,h3,h4,h5⟩
  · exact .inl hm
  · have hDlt:=y6 h2
    refine .inr ⟨D,h1,(hc.block D hDlt (by simp)).trans h2,h3,?_,fun p hp e => ?_⟩
    · cases hj:J D with
      | none=>rfl
      | some o=>exact absurd (hn D h4 (by simp [hj])) (by omega)
    · simp only [List.flatten_append,List.mem_append] at hp
      rcases hp with hp|hp
      · have:=hX p hp;omega
      · exact h5 p hp e
theorem wpD.region {id:Nat} {l:List Oper} (hd:M3 N l=true) (h:b3o P C N l.toArray Q l ρ I L):wpD P C N (.region id l.toArray false) Q ρ I L:=fun a w ha hm hs =>
 wpIn_region_lit (h hd a w ha hm hs)
end
theorem a0H.mono {P:Program} {l:Nat} {args:Array Value} {I:Im} {L:Lh} {post post':Value→Im→Lh→Prop} (h:a0H P l args I L post) (hp:∀ v J L',Le I J→post v J L'→post' v J L'):a0H P l args I L post':=fun w hm=>by
 obtain⟨f,t,as_,b,h1,h2⟩:=h w hm
 refine⟨f,t,as_,b,h1,RoundIn.mono h2 ?_⟩
 rintro e w' ⟨v,J,L',a1,a2,a3,a4,a5,a6,a7⟩
 exact⟨v,J,L',a1,a2,a3,a4,a5,a6,hp _ _ _ a3 a7⟩
theorem Mem.perm {I:Im} {L M:Lh} {w:World} (hm:Mem I L w) (e:M.flatten.Perm L.flatten):Mem I M w :=
 ⟨hm.im,fun p hp=>hm.loc p (e.mem_iff.1 hp),fun p hp=>hm.sep p (e.mem_iff.1 hp),(e.map Prod.fst).nodup_iff.2 hm.nodup⟩
theorem a0H.perm {P:Program} {l:Nat} {args:Array Value} {I:Im} {L M:Lh} {post:Value→Im→Lh→Prop} (h:a0H P l args I M post) (e:M.flatten.Perm L.flatten):a0H P l args I L post:=fun w hm=>by
 obtain⟨f,t,as_,b,h1,h2⟩:=h w (hm.perm e)
 have hk:∀ k,k∈M.flatten.map Prod.fst↔k∈L.flatten.map Prod.fst:=fun k=>(e.map Prod.fst).mem_iff
 refine⟨f,t,as_,b,h1,RoundIn.mono h2 ?_⟩
 rintro e' w' ⟨v,J,L',a1,a2,a3,a4,a5,a6,a7⟩
 exact⟨v,J,L',a1,a2.mono (fun k hk' _=>(hk k).1 hk'),a3,a4,a5,fun p hp=>(a6 p hp).imp id (hk _).1,a7⟩
abbrev Chunk:=List (Nat×Obj)
theorem wpC.range {P : Program} {C : Ctx} {N : Nat} {Q : Exit → Env → Im → Lh → Prop} {ρ : Env} {I : Im} {L : Lh} {g : Operand} {ps : Array Tmp} {assign body : Code} {gf : Nat} {lb : Array Value} (vs : Nat → Im → List Value → Prop) (J : Nat → Im → Chunk → Prop) (xid : Nat) (Jx : Im → Chunk → Prop)
    (hrd:C.rd=none) (hg:ev ρ g=some (.func (.func gf) #[] lb)) (hok:a6C P gf) (hps:∀ p∈ps.toList,p < N) (hsz:∀ k I us,vs k I us→us.length=ps.size)
    (hmono:∀ k I1 I2 Y,Le I1 I2→J k I1 Y→J k I2 Y) (hmonox:∀ I1 I2 Y,Le I1 I2→Jx I1 Y→Jx I2 Y) (h0:J 0 I L.flatten)
    (round:∀ l k I' Y us,Le I I'→J k I' Y→vs k I' us→∃ L1:Lh,L1.flatten.Perm Y∧∀ w1,Mem I' L1 w1→wpS P ⟨w1,L1.flatten.map Prod.fst,I',some l⟩ N assign (fun e ρ2 I2 L2=>e = .normal∧∀ w3,Mem I2 L2 w3 →
      wpS P ⟨w3,L2.flatten.map Prod.fst,I2,some l⟩ N body (fun e' ρ3 I3 L3=>(e' = .normal∧J (k+1) I3 L3.flatten)∨(e' = .exit xid∧Jx I3 L3.flatten)) ρ2 I2 L2) (R5 ps.toList us ρ) I' L1)
    (iter:∀ (l:Nat) (K:Nat→Im→Chunk→Prop) (Kx:Im→Chunk→Prop) (Z:Chunk),(∀ k I1 I2 Z,Le I1 I2→K k I1 Z→K k I2 Z)→(∀ I1 I2 Z,Le I1 I2→Kx I1 Z→Kx I2 Z) →
      (∀ k I' Z,Le I I'→K k I' Z→∃ Y,J k I' Y)→K 0 I Z →
      (∀ k I' Z us,Le I I'→K k I' Z→vs k I' us→a0H P l us.toArray I' [Z] (fun v I3 L'=>∃ Z3,L' = [Z3]∧((v = .bool true∧K (k+1) I3 Z3)∨(v = .bool false∧Kx I3 Z3)))) →
      b0Z P gf (#[.func (.yield l) #[] #[]]++lb) I [Z] (fun v I3 L'=>∃ Z3,L' = [Z3]∧Kx I3 Z3))
    (done:∀ I3 Y,Le I I3→Jx I3 Y→((∀ q∈L.flatten,C.w0.heap.size≤q.1)→∀ p∈Y,C.w0.heap.size≤p.1)→∃ L3:Lh,L3.flatten.Perm Y∧Q (.exit xid) ρ I3 L3) :
    wpC P C N (.rangeFunc g ps assign body) Q ρ I L:=fun a w ha hs=>by
  obtain⟨w0,M,I0,rd⟩:=C
  have hrd':rd=none:=hrd
  subst hrd'
  refine wpIn_rangeFunc ?_
  intro fn hfn
  obtain⟨rec_,hrec⟩:∃ rec_:LoopState→Option Code→Loop,rec_=fun st pe => { state:=st,pending:=pe,fn:=fn,tmps:=a.tmps,params:=ps,assign:=assign,body:=body,defers:=w.heap.size }:=⟨_,rfl⟩
  obtain⟨W1,hW1⟩:∃ W1,(w.alloc (.deferred (some []))).alloc (.loop (rec_ .ready none))=W1:=⟨_,rfl⟩
  have hsz1:W1.heap.size=w.heap.size+2:=by rw [←hW1];simp
  have hL1:W1.heap[w.heap.size+1]?=some (.loop (rec_ .ready none)):=by
    rw [←hW1];have:=World.alloc_heap_new (w.alloc (.deferred (some []))) (.loop (rec_ .ready none));rwa [World.size_alloc] at this
  have hK1:W1.heap[w.heap.size]?=some (.deferred (some [])):=by
    rw [←hW1];exact(heap_alloc_old _ _ (by simp)).trans (World.alloc_heap_new w _)
  have hold:∀ b,b < w.heap.size→W1.heap[b]?=w.heap[b]?:=fun b hb=>by
    rw [←hW1];exact(heap_alloc_old _ _ (by simp;omega)).trans (heap_alloc_old _ _ hb)
  have hI:∀ b,w.heap.size≤b→I b=none:=fun b hb=>by
    cases h:I b with
    | none=>rfl
    | some o=>have:=y6 (hs.mem.im b o h);omega
  have hltL:∀ p∈L.flatten,p.1 < w.heap.size:=fun p hp=>y6 (hs.mem.loc p hp)
  have hm1:Mem I [L.flatten++a4I w.heap.size (w.heap.size+1) (rec_ .ready none)] W1:=by
    refine⟨fun b o hb => ?_,fun p hp => ?_,fun p hp => ?_,?_⟩
    · rw [hold b (y6 (hs.mem.im b o hb))];exact hs.mem.im b o hb
    · simp only [List.flatten_cons,List.flatten_nil,List.append_nil,List.mem_append,List.mem_cons,List.not_mem_nil,or_false] at hp
      rcases hp with hp|rfl|rfl
      · rw [hold _ (hltL p hp)];exact hs.mem.loc p hp
      · exact hK1
      · exact hL1
    · simp only [List.flatten_cons,List.flatten_nil,List.append_nil,List.mem_append,List.mem_cons,List.not_mem_nil,or_false] at hp
      rcases hp with hp|rfl|rfl
      · exact hs.mem.sep p hp
      · exact hI _ (Nat.le_refl _)
      · exact hI _ (by simp)
    · simp only [List.flatten_cons,List.flatten_nil,List.append_nil,List.map_append,List.map_cons,List.map_nil]
      refine List.nodup_append.2 ⟨hs.mem.nodup,by simp,?_⟩
      rintro x hx y hy rfl
      obtain⟨q,hq,hqe⟩:=List.mem_map.1 hx
      have:=hltL q hq
      simp only [List.mem_cons,List.not_mem_nil,or_false] at hy
      omega
  have hfun:=iter (w.heap.size+1) (fun k I' Z=>∃ Y,Z=Y++a4I w.heap.size (w.heap.size+1) (rec_ .ready none)∧J k I' Y)
    (fun I' Z=>∃ Y,Z=Y++a4I w.heap.size (w.heap.size+1) (rec_ .done (some (.exit xid)))∧Jx I' Y) _
    (fun k I1 I2 Z hle ⟨Y,e,h⟩=>⟨Y,e,hmono k I1 I2 Y hle h⟩) (fun I1 I2 Z hle ⟨Y,e,h⟩=>⟨Y,e,hmonox I1 I2 Y hle h⟩) (fun k I' Z _ ⟨Y,e,h⟩=>⟨Y,h⟩) ⟨L.flatten,rfl,h0⟩
    (by
      rintro k I' Z us hle ⟨Y,rfl,hJ⟩ hvs
      obtain⟨L1,hperm,hr⟩:=round (w.heap.size+1) k I' Y us hle hJ hvs
      have hab:Fits N ρ ⟨a.tmps,[]⟩:=ha.bare
      have hy:=a0H.round (P:=P) (N:=N) (D:=w.heap.size) (l:=w.heap.size+1) (fn:=fn) (ps:=ps) (assign:=assign) (body:=body) (tm:=a.tmps) (ρ:=ρ) (I':=I') (Y:=L1.flatten) (vs:=us)
        (J':=fun I3 Y3=>J (k+1) I3 Y3) (Jx:=fun id I3 Y3=>id=xid∧Jx I3 Y3) hps (hsz k I' us hvs) hab rec_ hrec
        (fun w1 hm=>⟨L1,rfl,(hr w1 (hm.b4S (by simp))).mono fun e ρ2 I2 L2 ⟨h1,h2⟩=>⟨h1,fun w3 h3=>(h2 w3 h3).mono fun e' ρ3 I3 L3 h4=>by
          rcases h4 with h4|⟨h4,h5⟩
          · exact .inl h4
          · exact .inr ⟨xid,h4,a8,h5⟩⟩⟩)
      refine a0H.mono (a0H.perm hy (by simpa using hperm.append_right _)) ?_
      rintro v J3 L' _ ⟨Y3,⟨h1,h2,h3⟩|⟨id,h1,⟨h4,h5⟩,h3⟩⟩
      · exact⟨_,h3,.inl ⟨h1,Y3,a8,h2⟩⟩
      · subst h4;exact⟨_,h3,.inr ⟨h1,Y3,rfl,h5⟩⟩)
  refine⟨w.heap.size+1,[{ target := .collected w.heap.size,args := #[] }],W1,{ target := .fn (.func gf) lb,args := #[.func (.yield (w.heap.size+1)) #[] #[]] },W1,gf,
    #[.func (.yield (w.heap.size+1)) #[] #[]]++lb,W1,?_,?_,fun _ _=>trivial,?_,fun hd=>(by cases hd),?_⟩
  · rw [←hW1,hrec];exact run_enterLoop_outer _ _ _ _ _
  · simp only [resolve,ha.ev hg]
    simp [go_sem]
  · obtain⟨f',h1,h2,h3⟩:=hok.ok
    have h2':¬f'.name = "runtime.NumGoroutine" := by simpa using h2
    have h3':f'.body≠none:=by intro e;simp [e] at h3
    simp [invoke,callFunc,program,Sem.run,h1,h2',h3']
  · refine(callsIn_wide.2 (Calls.mono (hfun.run W1 hm1) ?_):CallsIn Fence.wide (0 - 1) P gf _ W1 _)
    rintro e w2 ⟨v,I3,L',rfl,hch,hle,hn,hm2,hown,Z3,rfl,Y3,rfl,hJx⟩
    have hl2:w2.heap[w.heap.size+1]?=some (.loop (rec_ .done (some (.exit xid)))):=hm2.loc (w.heap.size+1,_) (by simp)
    have hend:(Instr.endLoop (w.heap.size+1)).run P w2 = .ok (some (.exit xid)) (w2.putObj (w.heap.size+1) (.loop { rec_ .done (some (.exit xid)) with state := .exhausted })):=by
      have h:=run_endLoop (P:=P) hl2 (by rw [hrec];simp)
      rw [hrec] at h ⊢
      exact h
    have hm4:=hm2.c2o (r' := { rec_ .done (some (.exit xid)) with state := .exhausted })
    refine⟨some (.exit xid),_,hend,?_⟩
    have hown3:∀ p∈Y3,w0.heap.size≤p.1∨p.1∈L.flatten.map Prod.fst:=fun p hp=>by
      have hsw:w0.heap.size≤w.heap.size:=hs.S3.size
      rcases hown p (by simp [hp]) with h|h
      · exact .inl (by omega)
      · simp only [List.flatten_cons,List.flatten_nil,List.append_nil,List.map_append,List.map_cons,List.map_nil,List.mem_append,List.mem_cons,List.not_mem_nil,or_false] at h
        rcases h with h|h|h
        · exact .inr h
        · exact .inl (by omega)
        · exact .inl (by omega)
    obtain⟨L3,hp3,hq⟩:=done I3 Y3 hle hJx (fun hL p hp=>(hown3 p hp).elim id fun h=>by
      obtain⟨q,hq,hqe⟩:=List.mem_map.1 h
      rw [←hqe];exact hL q hq)
    have hnd:=hm4.nodup
    simp only [List.flatten_cons,List.flatten_nil,List.append_nil,List.map_append,List.map_cons,List.map_nil,List.nodup_append] at hnd
    have hchg1:Chg M w0 W1:=by rw [←hW1];exact(hs.S3.alloc _).alloc _
    have hchg2:Chg M w0 w2:=by
      refine⟨hch.os.trans hchg1.os,hch.tape.trans hchg1.tape,hch.output.trans hchg1.output,Nat.le_trans hchg1.size hch.size,fun k hk hkm => ?_⟩
      rw [hch.block k (Nat.lt_of_lt_of_le hk hchg1.size) (fun hx => ?_)]
      · exact hchg1.block k hk hkm
      · have hsw:w0.heap.size≤w.heap.size:=hs.S3.size
        have hk':k < w0.heap.size:=hk
        simp only [List.flatten_cons,List.flatten_nil,List.append_nil,List.map_append,List.map_cons,List.map_nil,List.mem_append,List.mem_cons,List.not_mem_nil,or_false] at hx
        rcases hx with h|h|h
        · obtain⟨q,hq,hqe⟩:=List.mem_map.1 h
          rcases hs.own q hq with h1|h1
          · have h1':w0.heap.size≤q.1:=h1
            omega
          · exact hkm (hqe▸h1)
        · omega
        · omega
    have hsw:w0.heap.size≤w.heap.size:=hs.S3.size
    have hst:St ⟨w0,M,I0,none⟩ I3 L3 (w2.putObj (w.heap.size+1) (.loop { rec_ .done (some (.exit xid)) with state := .exhausted })):=by
      refine⟨(hm4.left).perm (by simpa using hp3),hchg2.putObj (.inr (by omega)) _,fun p hp => ?_,hs.V5.trans hle,fun b h0' h1' => ?_⟩
      · rcases hown3 p (hp3.mem_iff.1 hp) with h|h
        · exact .inl h
        · obtain⟨q,hq,hqe⟩:=List.mem_map.1 h
          rw [←hqe];exact hs.own q hq
      · cases h:I b with
        | none =>
          have h2:=hn b h h1'
          have:w0.heap.size≤b:=by omega
          exact this
        | some o=>exact hs.new b h0' (by simp [h])
    refine wpIn_exit ⟨ρ,I3,L3,ha.bare,.inr ⟨w.heap.size,by simp [ha.defers],hm4.loc (w.heap.size,.deferred (some [])) (by simp),hsw,hm4.sep (w.heap.size,.deferred (some [])) (by simp),fun p hp e => ?_⟩,hst,hq⟩
    exact hnd.2.2 p.1 (List.mem_map_of_mem (hp3.mem_iff.1 hp)) w.heap.size (by simp) e
theorem b1S {P : Program} {f : FuncId} {fn : Func} {c : Code} {l : List Value} {I : Im} {L : Lh} {M : List Nat} {w : World} {post : Value → Im → Lh → Prop} {R : Ending → World → Prop}
    (hf:P.funcs[f]?=some fn) (hb:fn.body=some c) (N:Nat) (hN:fn.ntmps=N) (hl:Nat.ble l.length N=true) (hm:Mem I L w) (hM:∀ p∈L.flatten,p.1∈M)
    (h:wpC P ⟨w,M,I,none⟩ N c (b5l P fn post) (a0E l 0) I L) (hR:∀ v J L' w',St ⟨w,M,I,none⟩ J L' w'→post v J L'→R (.returned v) w'):Calls P f l.toArray w R:=by
  refine callsIn_wide.1 (callsIn_of_wp_marks (F:=Fence.wide) (n:=0) hf hb trivial (wpIn_mono (h _ w ?_ ?_) ?_) rfl)
  · have hl':l.length≤N:=Nat.le_of_ble_eq_true hl
    refine⟨rfl,by simp [hN];omega,fun t v hv => ?_⟩
    obtain⟨_,h2⟩:=a4j l 0 t v hv
    have hlt:t < l.length:=(List.getElem?_eq_some_iff.1 (by simpa using h2)).1
    rw [Array.getElem?_append_left (by simpa using hlt)]
    simpa using h2
  · exact⟨hm,Chg.refl _ _,fun p hp => .inr (hM p hp),Le.refl _,fun b h0 h1=>absurd h0 h1⟩
  · rintro e a w' ⟨ρ,J,L',hfit,hmk,hst,hq⟩
    have fin:(∃ v,Fin P fn ρ J L' v∧post v J L')→LeavesInM Fence.wide 0 P fn a.tmps R a.defers .returning w':=by
      rintro⟨v,hfin,hp⟩
      rcases hmk with hd|⟨D,hd,hD,hDs,hDI,hDL⟩
      · rw [hd]
        exact⟨v,hfin N (bare a) w' hfit hst.mem,hR v J L' w' hst hp⟩
      · rw [hd]
        have hst':St ⟨w,M,I,none⟩ J L' (w'.putObj D (.deferred none)):=by
          refine⟨⟨fun b o hb => ?_,fun p hp => ?_,hst.mem.sep,hst.mem.nodup⟩,hst.S3.putObj (.inr hDs) _,hst.own,hst.V5,hst.new⟩
          · rw [World.putObj_heap_other (fun e=>by rw [e,hDI] at hb;cases hb)];exact hst.mem.im b o hb
          · rw [World.putObj_heap_other (hDL p hp)];exact hst.mem.loc p hp
        exact⟨by simp,.inl ⟨D,_,rfl,run_takeDeferred hD,v,hfin N (bare a) _ hfit hst'.mem,hR v J L' _ hst' hp⟩⟩
    cases e with
    | normal=>exact fin hq
    | ret=>exact fin hq
    | _=>exact hq.elim
end Go.Fl
namespace Go.Ab
open Go.Fl Go.RowKit
open p9 (rep)
def Cap (f:FuncId) (ags:List AV) (I:Im) (u:Value):Prop:=∃ vs,u = .func (.func f) #[] vs.toArray∧S4 I ags vs
theorem S4.b1s {I J:Im} (hle:Le I J):∀ {ags:List AV} {vs:List Value},S4 I ags vs→S4 J ags vs
 | [],_,h=>h
 | a::ags,_,h=>by obtain⟨v,r,h1,h2,h3⟩:=h;exact⟨v,r,h1,h2.mono hle,h3.b1s hle⟩
theorem Cap.mono {f:FuncId} {ags:List AV} {I J:Im} {u:Value} (hle:Le I J) (h:Cap f ags I u):Cap f ags J u:=by
 obtain⟨vs,h1,h2⟩:=h;exact⟨vs,h1,h2.b1s hle⟩
def AV.cap (f:FuncId) (ags:List AV):AV := .pr (Cap f ags) Cap.mono
theorem j6.c2r {P : Program} {C : Ctx} {N : Nat} {σ : y2} {H : j9} {f : FuncId} {d : Option Nat} {args : Array Operand} {ty : TypeId} {ps : String} {af : Array Edge} {g : Option (Nat × Bool)} {K : AV → Prop} {caps : List AV}
    (hv:a3u C σ H args.toList caps) (k:K (.cap f caps)):j6 P N C ⟨d,.makeFunc (.func f) #[] args,ty,ps,af,g⟩ σ H K := .B2 (.cap f caps) (fun ρ I L hs=>fun a w ha hm=>by
      obtain⟨vs,h1,h2⟩:=hv.get hs
      have e:=ha.evL h1
      have hargs:args.map a.eval=vs.toArray:=by rw [←e];cases args;simp
      exact⟨.func (.func f) #[] vs.toArray,⟨vs,rfl,h2⟩,by simp [execOp,Instr.makeFunc,hargs]⟩) k
theorem j6.b1d {P : Program} {C : Ctx} {N : Nat} {σ : y2} {H : j9} {d : Option Nat} {ty : TypeId} {ps : String} {af : Array Edge} {g : Option (Nat × Bool)} {K : AV → Prop} {x y : Operand} {T T2 : TypeId} {m n : UInt64} (hx : F1 C σ H x (.v m)) (hy : F1 C σ H y (.v n)) (k : K (.v (m * n))) :
    j6 P N C ⟨d,.binOp .mul T x y T2,ty,ps,af,g⟩ σ H K := .vk k (fun ρ I L hs => .b1d (hx.a1W hs) (hy.a1W hs) ⟨_,rfl,rfl⟩)
theorem j6.a78 {P : Program} {C : Ctx} {N : Nat} {σ : y2} {H : j9} {d : Option Nat} {ty : TypeId} {ps : String} {af : Array Edge} {g : Option (Nat × Bool)} {K : AV → Prop} {x : Operand} {S D : TypeId} {ds : TypeDesc} {m : UInt8} (hS : P.underlying S = some ds) (hD : P.underlying D = some (.int .u64))
    (hx:F1 C σ H x (.v m)) (k:K (.v m.toUInt64)):j6 P N C ⟨d,.convert S D x,ty,ps,af,g⟩ σ H K := .vk k (fun ρ I L hs=>I9.a78 hS hD (hx.by8 hs) ⟨[Fl.u64 m.toUInt64],rfl,rfl⟩)
def b7y (P:Program) (l:Nat) (I0:Im) (ags:List AV) (B:E9) (post:AV→E9→Prop):Prop :=
 ∀ I X vs,Le I0 I→S4 I ags vs→B.a6b I X→a0H P l vs.toArray I [X] (fun v J L'=>∃ r B' X',L' = [X']∧H4 J r v∧B'.a6b J X'∧post r B')
structure Iter where
 K:Nat→Im→Chunk→Prop
 Kx:Im→Chunk→Prop
 mono:∀ k I J Z,Le I J→K k I Z→K k J Z
 c2s:∀ I J Z,Le I J→Kx I Z→Kx J Z
structure b9s where
 it:Iter
 st:Option Nat
def b9s.ub (I:Im) (x:b9s) (X:Chunk):Prop:=match x.st with|some k=>x.it.K k I X|none=>x.it.Kx I X
instance:UB b9s where
 ub I _ x X:=x.ub I X
 mono:=by
  rintro I J w ⟨it,st⟩ X hle h
  cases st with
  | none=>exact it.c2s _ _ _ hle h
  | some k=>exact it.mono _ _ _ _ hle h
abbrev itB (it:Iter) (st:Option Nat):E9 := .usr undef (b9s.mk it st)
theorem A6.b3n {P : Program} {C : Ctx} {N : Nat} {σ : y2} {H : j9} {d : Option Nat} {t : Nat} {args : Array Operand} {tys : Array TypeId} {ty : TypeId} {ps : String} {af : Array Edge} {g : Option (Nat × Bool)} {l : Nat} {I0 : Im} {ags : List AV}
    {post:AV→E9→Prop} {K:AV→j9→Prop} {b:Bool} {B:E9} {F:Bool×E9→j9} (hI:Le I0 C.I0) (h:b7y P l I0 ags B post) (hF:G4 σ t=some (.raw (.func (.yield l) #[] #[]))) (hH:y3 H (b,B) F) (hv:a3u C σ H args.toList ags)
    (k:∀ r B',post r B'→K r (F (b,B'))):A6 P C N ⟨d,.call ⟨.value (.tmp t),args,tys⟩,ty,ps,af,g⟩ σ H K:=fun ρ I L hs=>by
  obtain⟨vs,h1,h2⟩:=hv.get hs
  obtain⟨i,X,h3,h4,h5⟩:=hH.get hs.heap
  obtain⟨u,h6,rfl⟩:=hs.env t _ hF
  refine OpS.b3n (l:=l) (F := .tmp t) i h3 h6 h1 (h I X vs (hI.trans hs.V5) h2 h4.1) ?_ ?_
  · intro v J c' w hle ⟨r,B',X',q1,q2,q3,q5⟩ q4 hsz
    cases q1
    refine⟨hle,r,_,q2,h5 J (b,B') c' hle ⟨q3,fun hb p hp => ?_⟩,k r B' q5⟩
    rcases q4 p hp with h6|h6
    · exact Nat.le_trans hsz h6
    · obtain⟨q,hq,hqe⟩:=List.mem_map.1 h6
      rw [←hqe];exact h4.2 hb q hq
  · intro v J L' ⟨r,B',X',q1,q2,q3,q5⟩
    exact⟨X',q1⟩
def Gl.over (G:Gl) (I0:Im):Gl:=⟨fun J=>G.p J∧Le I0 J,fun hle h=>⟨G.mono hle h.1,h.2.trans hle⟩⟩
def c0B (G:Gl) (P:Program) (gf:FuncId) (caps:List AV) (vs:Nat→List AV) (bound:Nat):Prop :=
 a6C P gf∧∀ (I0:Im) (l:Nat) (it:Iter),
  (∀ k,k≤bound→b7y P l I0 (vs k) (itB it (some k)) (fun r B'=>∃ b:Bool,r = .v b∧B'=itB it (if b then some (k+1) else none)∧(b=true→k+1≤bound))) →
  G5 (G.over I0) P gf (.raw (.func (.yield l) #[] #[])::caps) [itB it (some 0)] (fun _ Hs=>Hs = [itB it none])
def wpE (P:Program) (C:Ctx) (N:Nat) (c:Code) (Q:Exit→y2→j9→Prop) (σ:y2) (H:j9):Prop:=∀ ρ I L,Y2 C I L σ H ρ→wpC P C N c (qA C Q) ρ I L
def wpF (P:Program) (C:Ctx) (N:Nat) (c:Code) (Q:Exit→y2→j9→Prop) (σ:y2) (H:j9):Prop:=∀ ρ I L,Y2 C I L σ H ρ→wpD P C N c (qA C Q) ρ I L
def wpG (P:Program) (C:Ctx) (N:Nat) (ops:Array Oper) (Q:Exit→y2→j9→Prop) (l:List Oper) (σ:y2) (H:j9):Prop:=∀ ρ I L,Y2 C I L σ H ρ→b3o P C N ops (qA C Q) l ρ I L
section
variable {P:Program} {C:Ctx} {N:Nat} {Q:Exit→y2→j9→Prop} {σ:y2} {H:j9}
theorem wpE.c1h {x y:Code} (h:L9 P C N x (a9u (wpE P C N y Q) Q) σ H):wpE P C N (.seq x y) Q σ H:=fun ρ I L hs=>by
 refine .c3k ((h ρ I L hs).mono fun e ρ I L ⟨σ,H,h1,h2⟩ => ?_)
 cases e with
 | normal=>exact h2 ρ I L h1
 | _=>exact⟨σ,H,h1,h2⟩
theorem wpE.c3m {x y:Code} (h:wpE P C N x (a9u (wpF P C N y Q) Q) σ H):wpE P C N (.seq x y) Q σ H:=fun ρ I L hs=>by
 refine .c3l ((h ρ I L hs).mono fun e ρ I L ⟨σ,H,h1,h2⟩ => ?_)
 cases e with
 | normal=>exact h2 ρ I L h1
 | _=>exact⟨σ,H,h1,h2⟩
theorem wpE.block {id:Nat} {c:Code} (h:wpE P C N c (a8q id Q) σ H):wpE P C N (.block id c) Q σ H:=fun ρ I L hs=>by
 refine .block ((h ρ I L hs).mono fun e ρ I L ⟨σ,H,h1,h2⟩ => ?_)
 cases e with
 | exit i =>
  cases hb:Nat.beq i id with
  | true=>simp only [a8q,a3K,hb,cond_true] at h2 ⊢;exact⟨σ,H,h1,h2⟩
  | false=>simp only [a8q,a3K,hb,cond_false] at h2 ⊢;exact⟨σ,H,h1,h2⟩
 | _=>exact⟨σ,H,h1,h2⟩
theorem wpF.seq {x y:Code} (h:wpF P C N x (a9u (wpF P C N y Q) Q) σ H):wpF P C N (.seq x y) Q σ H:=fun ρ I L hs=>by
 refine .seq (fun a w ha hm hw=>wpIn_mono (h ρ I L hs a w ha hm hw) fun e a w ⟨ρ,I,L,q1,q2,q3,σ,H,h1,h2⟩=>⟨ρ,I,L,q1,q2,q3,?_⟩)
 cases e with
 | normal=>exact h2 ρ I L h1
 | _=>exact⟨σ,H,h1,h2⟩
theorem wpF.ret (h:Q .ret σ H):wpF P C N .ret Q σ H:=fun ρ I L hs => .ret ⟨σ,H,hs,h⟩
theorem wpF.region {id:Nat} {l:List Oper} (hd:M3 N l=true) (h:wpG P C N l.toArray Q l σ H):wpF P C N (.region id l.toArray false) Q σ H:=fun ρ I L hs => .region hd (h ρ I L hs)
theorem wpG.nil {ops:Array Oper} (h:Q .normal σ H):wpG P C N ops Q [] σ H:=fun ρ I L hs => .nil ⟨σ,H,hs,h⟩
theorem wpG.p {ops : Array Oper} {rest : List Oper} {d : Nat} {op : Op} {ty : TypeId} {ps : String} {af : Array Edge}
    (h:j6 P N C ⟨some d,op,ty,ps,af,none⟩ σ H (fun r=>wpG P C N ops Q rest ((d,r)::σ) H)) :
    wpG P C N ops Q (⟨some d,op,ty,ps,af,none⟩::rest) σ H:=fun ρ I L hs =>
  .x (OpX.a2x (h ρ I L hs) fun v J X hle ⟨hX,r,hr,hk⟩=>by subst hX;exact hk _ _ _ (hs.put hle hr (hs.heap.mono hle)))
end
def c0C (H:j9):j9:=H.map fun B=>(false,B.2)
theorem T5.c2t {n0 n1:Nat} {I:Im}:∀ {H:j9} {L:Lh},T5 n0 I H L→T5 n1 I (c0C H) L
 | [],_,h=>h
 | B::H,_,h=>by obtain⟨X,R,h1,h2,h3⟩:=h;exact⟨X,R,h1,⟨h2.1,fun e=>by cases e⟩,h3.c2t⟩
def b3p (ps:List Nat) (ags:List AV) (σ:y2):y2:=(ps.zip ags).foldl (fun σ p=>p::σ) σ
theorem Y2.params {C C':Ctx} {I I':Im} {L L':Lh} {H H':j9} (hle:Le I I') (hH:T5 C'.w0.heap.size I' H' L') (hI:Le C'.I0 I'):∀ {ps:List Nat} {ags:List AV} {vs:List Value} {σ:y2} {ρ:Env},Y2 C I L σ H ρ→S4 I' ags vs→Y2 C' I' L' (b3p ps ags σ) H' (R5 ps vs ρ):=by
 have base:∀ {σ:y2} {ρ:Env},Y2 C I L σ H ρ→Y2 C' I' L' σ H' ρ:=fun hs=>⟨fun t a ht=>by obtain⟨u,q1,q2⟩:=hs.env t a ht;exact⟨u,q1,q2.mono hle⟩,hH,hI⟩
 have main:∀ {ps:List Nat} {ags:List AV} {vs:List Value} {σ:y2} {ρ:Env},Y2 C' I' L' σ H' ρ→S4 I' ags vs→Y2 C' I' L' (b3p ps ags σ) H' (R5 ps vs ρ):=by
  intro ps
  induction ps with
  | nil=>intro ags vs σ ρ hs _;simpa [b3p,R5] using hs
  | cons p ps ih =>
   intro ags vs σ ρ hs hv
   cases ags with
   | nil=>cases (show vs = [] from hv);simpa [b3p,R5] using hs
   | cons a ags =>
    obtain⟨v,r,rfl,h2,h3⟩:=hv
    have:=ih (hs.put (Le.refl _) (d:=p) h2 hs.heap) h3
    simpa [b3p,R5] using this
 intro ps ags vs σ ρ hs hv
 exact main (base hs) hv
theorem a2P.le {I J:Im} (hle:Le I J):∀ {Hs:List E9} {L:Lh},a2P I Hs L→a2P J Hs L
 | [],_,h=>h
 | B::Hs,_,h=>by obtain⟨X,R,h1,h2,h3⟩:=h;exact⟨X,R,h1,E9.mono hle h2,a2P.le hle h3⟩
theorem wpE.range {G : Gl} {P : Program} {C : Ctx} {N : Nat} {Q : Exit → y2 → j9 → Prop} {σ : y2} {H : j9} {t : Nat} {ps : Array Tmp} {assign body : Code} {gf : Nat} {caps : List AV} {vs : Nat → List AV} {bound : Nat} (Hs : Nat → List E9) (Hx : List E9) (xid : Nat)
    (hrd:C.rd=none) (hG:G.p C.I0) (hg:G4 σ t=some (.cap gf caps)) (hit:c0B G P gf caps vs bound) (hps:∀ p∈ps.toList,p < N) (hsz:∀ k,(vs k).length=ps.size)
    (h0:Sel H (Hs 0)) (hall:H.all (·.1)=true)
    (round:∀ k,k≤bound→∀ C1:Ctx,Ctx.Ok C1→G.p C1.I0→L9 P C1 N assign (fun e σ2 H2=>e = .normal∧∀ C2:Ctx,Ctx.Ok C2→G.p C2.I0→L9 P C2 N body (fun e' _ H3=>(e' = .normal∧k+1≤bound∧Sel H3 (Hs (k+1)))∨(e' = .exit xid∧Sel H3 Hx)) σ2 (c0C H2))
      (b3p ps.toList (vs k) σ) ((Hs k).map (fun B=>(false,B)) ++ [(false,.none_)]))
    (done:Q (.exit xid) σ (Hx.map (fun B=>(true,B)) ++ [(false,.none_)])):wpE P C N (.rangeFunc (.tmp t) ps assign body) Q σ H:=fun ρ I L hs=>by
  obtain⟨u,hu,us,rfl,hcap⟩:=hs.env t _ hg
  obtain⟨L0,R0,hp0,hk0⟩:=h0 _ I L hs.heap
  have hlen:∀ {ags:List AV} {us:List Value} {I:Im},S4 I ags us→us.length=ags.length:=fun h=>S4.len h
  have hL:∀ q∈L.flatten,C.w0.heap.size≤q.1:=by
    have h1:=hs.heap
    clear hp0 hs h0 round
    revert L
    induction H with
    | nil=>intro L h1;have:L = []:=h1;subst this;simp
    | cons B H ih =>
      intro L h1
      obtain⟨X,R,rfl,h2,h3⟩:=h1
      simp only [List.all_cons,Bool.and_eq_true] at hall
      intro q hq
      simp only [List.flatten_cons,List.mem_append] at hq
      rcases hq with hq|hq
      · exact h2.2 hall.1 q hq
      · exact ih hall.2 R h3 q hq
  have stt:∀ {Hs:List E9} {I':Im} {Y:Chunk} {L1:Lh} {R:Chunk} (n:Nat),(L1.flatten++R).Perm Y→a2P I' Hs L1→T5 n I' (Hs.map (fun B=>(false,B)) ++ [(false,.none_)]) (L1 ++ [R]):=fun n h1 h2 =>
    T5.append h2.toH ⟨_,[],rfl,⟨trivial,fun e=>by cases e⟩,rfl⟩
  refine wpC.range (fun k I' ws=>S4 I' (vs k) ws) (fun k I' Y=>k≤bound∧∃ (L1:Lh) (R:Chunk),(L1.flatten++R).Perm Y∧a2P I' (Hs k) L1) xid (fun I' Y=>∃ (L1:Lh) (R:Chunk),(L1.flatten++R).Perm Y∧a2P I' Hx L1)
    hrd hu hit.1 hps (fun k I us h=>by rw [hlen h,hsz]) (fun k I1 I2 Y hle ⟨h1,L1,R,h2,h3⟩=>⟨h1,L1,R,h2,a2P.le hle h3⟩) (fun I1 I2 Y hle ⟨L1,R,h2,h3⟩=>⟨L1,R,h2,a2P.le hle h3⟩)
    ⟨Nat.zero_le _,L0,R0,hp0,hk0⟩ ?_ ?_ ?_
  · -- a round
    rintro l k I' Y ws hle ⟨hkb,L1,R,hp1,hk1⟩ hws
    refine⟨L1 ++ [R],by simpa using hp1,fun w1 hm1 => ?_⟩
    have hok:∀ {I:Im} {L:Lh} {w:World},Mem I L w→Ctx.Ok ⟨w,L.flatten.map Prod.fst,I,some l⟩:=fun hm k hk=>by
      obtain⟨p,hp,rfl⟩:=List.mem_map.1 hk
      exact y6 (hm.loc p hp)
    have hr:=round k hkb ⟨w1,(L1 ++ [R]).flatten.map Prod.fst,I',some l⟩ (hok hm1) (G.mono (hs.V5.trans hle) hG)
    have hrs:Y2 ⟨w1,(L1 ++ [R]).flatten.map Prod.fst,I',some l⟩ I' (L1 ++ [R]) (b3p ps.toList (vs k) σ) ((Hs k).map (fun B=>(false,B)) ++ [(false,.none_)]) (R5 ps.toList ws ρ) :=
      Y2.params hle (stt _ hp1 hk1) (Le.refl _) hs hws
    refine(hr _ I' _ hrs).mono ?_
    rintro e ρ2 I2 L2 ⟨σ2,H2,hr2,rfl,hb⟩
    refine⟨a8,fun w3 hm3 => ?_⟩
    have hb2:=hb ⟨w3,L2.flatten.map Prod.fst,I2,some l⟩ (hok hm3) (G.mono ((hs.V5.trans hle).trans hr2.V5) hG)
    refine(hb2 ρ2 I2 L2 ⟨hr2.env,hr2.heap.c2t,Le.refl _⟩).mono ?_
    rintro e' ρ3 I3 L3 ⟨σ3,H3,hr3,⟨rfl,hk',hsel⟩|⟨rfl,hsel⟩⟩
    · obtain⟨L4,R4,q1,q2⟩:=hsel _ I3 L3 hr3.heap
      exact .inl ⟨a8,hk',L4,R4,q1,q2⟩
    · obtain⟨L4,R4,q1,q2⟩:=hsel _ I3 L3 hr3.heap
      exact .inr ⟨a8,L4,R4,q1,q2⟩
  · -- the iterator
    intro l K Kx Z hm hmx hKJ hK0 hy
    have hit2:=hit.2 I l ⟨K,Kx,hm,hmx⟩ (fun k hkb I' X ws hle hws hB=>by
      have hB':K k I' X:=hB
      refine a0H.mono (hy k I' X ws hle hB' hws) ?_
      rintro v J L' hle' ⟨Z3,rfl,⟨rfl,h1⟩|⟨rfl,h1⟩⟩
      · obtain⟨Y,h2,_⟩:=hKJ (k+1) J Z3 (hle.trans hle') h1
        exact⟨.v true,itB ⟨K,Kx,hm,hmx⟩ (some (k+1)),Z3,a8,⟨_,a8,a8⟩,h1,.intro true ⟨a8,a8,fun _=>h2⟩⟩
      · exact⟨.v false,itB ⟨K,Kx,hm,hmx⟩ none,Z3,rfl,⟨_,rfl,rfl⟩,h1,.intro false ⟨rfl,rfl,fun e=>by cases e⟩⟩)
    have hM:=hit2 I [Z] (.func (.yield l) #[] #[]::us) ⟨G.mono hs.V5 hG,Le.refl _⟩ ⟨_,us,rfl,rfl,hcap⟩ ⟨Z,[],rfl,hK0,rfl⟩
    have hargs:(#[.func (.yield l) #[] #[]]++us.toArray:Array Value)=(.func (.yield l) #[] #[]::us).toArray:=by simp
    rw [hargs]
    refine⟨hM.ok,fun w0 hm0=>(hM.run w0 hm0).mono ?_⟩
    rintro e w' ⟨v,J,L',rfl,q1,q2,q3,q4,q5,r,Hs',q6,q7,rfl⟩
    obtain⟨X',R',rfl,q8,q9⟩:=q7
    have q9':R' = []:=q9
    subst q9'
    exact⟨v,J,_,a8,q1,q2,q3,q4,q5,X',a8,q8⟩
  · -- behind it
    rintro I3 Y hle ⟨L1,R,hp1,hk1⟩ hfr
    have hfr':=hfr hL
    refine⟨L1 ++ [R],by simpa using hp1,σ,_,⟨fun t a ht=>by obtain⟨u,q1,q2⟩:=hs.env t a ht;exact⟨u,q1,q2.mono hle⟩,?_,hs.V5.trans hle⟩,done⟩
    exact T5.append (hk1.toT (fun p hp=>hfr' p (hp1.mem_iff.1 (List.mem_append_left _ hp)))) ⟨_,[],rfl,⟨trivial,fun e=>by cases e⟩,rfl⟩
theorem F1.c1i {C:Ctx} {σ:y2} {H:j9} {α:Type} {r:p9 α} {t:Nat} {w:Value} {E:TypeId} {l:List α} {b:Bool} {F:Bool×E9→j9} (ht:G4 σ t=some (.raw w)) (hH:y3 H (b,.own E w l) F):F1 C σ H (.tmp t) (.v (V8.mk w)):=fun ρ I L hs=>by
 obtain⟨u,h1,rfl⟩:=hs.env t _ ht
 obtain⟨i,X,h2,h3,_⟩:=hH.get hs.heap
 obtain⟨xs,h4,_⟩:=h3.1
 obtain⟨a,c,rfl⟩:=h4.shape
 exact⟨_,h1,_,⟨a8,a8⟩,a8⟩
theorem G5.b0C {G:Gl} {P:Program} {f:FuncId} {ags:List AV} {E:TypeId} {α:Type} [r:p9 α] {l:List α} (h:G5 G P f ags [] (fun r Hs=>∃ u,r = .raw u∧Hs = [.own E u l])):u1 G P f ags (fun r=>r = .v l):=fun I vs hG hvs=>by
 have hM:=h I [] vs hG hvs rfl
 refine⟨hM.ok,fun w hm=>(hM.run w hm).mono ?_⟩
 rintro e w' ⟨v,J,L',rfl,q1,q2,q3,q4,q5,r,Hs',q6,q7,u,rfl,rfl⟩
 obtain⟨X,R,rfl,q8,q9⟩:=q7
 have q9':R = []:=q9
 subst q9'
 have q6':v=u:=q6
 subst q6'
 have hle:Le J (J.with X):=Im.a1I fun p hp=>q4.sep p (by simpa using hp)
 refine⟨v,J.with X,rfl,by simpa using q1,q2.trans hle,fun b h0 h1 => ?_,(q4.freeze (i:=0) (c:=X) rfl).drop,.v l,W0 q8 hle (fun p hp=>Im.a1P (by simpa using q4.nodup) hp),rfl⟩
 cases hj:J.with X b with
 | none=>exact absurd hj h1
 | some o =>
  rcases Im.a0b hj with h2|h2
  ·rcases q5 (b,o) (by simpa using h2) with h3|h3
   ·exact h3
   ·cases h3
  ·exact q3 b h0 (by simp [h2])
theorem G5.b9t {G : Gl} {P : Program} {f : FuncId} {fn : Func} {c : Code} {ags : List AV} {Hs : List E9} {post : AV → List E9 → Prop} (hf : P.funcs[f]? = some fn) (hb : fn.body = some c) (hn : (fn.name == "runtime.NumGoroutine") = false)
    (N:Nat) (hN:fn.ntmps=N) (hl:Nat.ble ags.length N=true) (σ:y2) (hσ:b0i ags 0=σ) (H0:j9) (hH:Hs.map (fun B=>(false,B))=H0)
    (h:∀ C:Ctx,Ctx.Ok C→C.rd=none→G.p C.I0→wpE P C N c (a7M P fn C (fun r H=>∃ Hs',Sel H Hs'∧post r Hs')) σ H0):G5 G P f ags Hs post:=fun I L vs hG hvs hL =>
  ⟨⟨fn,hf,hn,by simp [hb]⟩,fun w hm=>b1S hf hb N hN (by rw [hvs.len];exact hl) hm (M:=L.flatten.map Prod.fst) (fun p hp=>List.mem_map_of_mem hp)
    ((h ⟨w, L.flatten.map Prod.fst, I, none⟩ (fun k hk => by
        obtain⟨p,hp,rfl⟩:=List.mem_map.1 hk
        exact y6 (hm.loc p hp)) rfl hG (a0E vs 0) I L ⟨by rw [←hσ];exact hvs.env 0,by rw [←hH];exact hL.toH,Le.refl I⟩).mono fun e ρ J L hq=>a7M.q hq)
    fun v J L' w' hs hp=>by
      obtain⟨r,H,h1,h2,Hs',h3,h4⟩:=hp
      obtain⟨L2,R,h5,h6⟩:=h3 _ J L' h2
      have hin:∀ p∈L2.flatten,p∈L'.flatten:=fun p hp=>h5.mem_iff.1 (List.mem_append_left _ hp)
      refine⟨v,J,L2,a8,hs.S3,hs.V5,fun b h0 h1=>hs.new b h0 h1,⟨hs.mem.im,fun p hp=>hs.mem.loc p (hin p hp),fun p hp=>hs.mem.sep p (hin p hp),?_⟩,fun p hp=>hs.own p (hin p hp),r,_,h1,h6,h4⟩
      have:=(h5.map Prod.fst).nodup_iff.2 hs.mem.nodup
      rw [List.map_append,List.nodup_append] at this
      exact this.1⟩
end Go.Ab
namespace Go.Ab
open Go.Fl Go.RowKit
open p9 (rep)
variable {P:Program} {N:Nat} {C:Ctx} {σ:y2} {H:j9} {K:AV→Prop} {d:Option Nat} {ty:TypeId} {ps:String} {af:Array Edge} {g:Option (Nat×Bool)} {x y:Operand} {T T2:TypeId}
theorem a1K {m:Int} (h0:0≤m) (h1:m≤9223372036854775807):(BitVec.ofInt 64 m).toNat=m.toNat:=by
 rw [BitVec.toNat_ofInt,Int.emod_eq_of_lt h0 (by omega)]
theorem wrap64 {n:Nat} (h:n < 2^63):IntKind.wrap .i64 (n:Int)=(n:Int):=wrap_i64 (by omega) (by omega)
theorem b7z {m n:Int} (h0:0≤m) (h1:0≤n) (hm:m≤9223372036854775807) (hn:n≤9223372036854775807):binOp .and T (i64 m) (i64 n)=pure (i64 ((m.toNat &&& n.toNat:Nat):Int)):=by
 show Op.intBits .and .i64 m n=_
 unfold Op.intBits
 have e:((BitVec.ofInt 64 m) &&& (BitVec.ofInt 64 n)).toNat=m.toNat &&& n.toNat:=by rw [BitVec.toNat_and,a1K h0 hm,a1K h1 hn]
 have hb:m.toNat &&& n.toNat < 2^63:=Nat.lt_of_le_of_lt Nat.and_le_left (by omega)
 show(pure (Value.int .i64 (IntKind.wrap .i64 (((BitVec.ofInt 64 m) &&& (BitVec.ofInt 64 n)).toNat:Int))):Sem Value)=_
 rw [e,wrap64 hb]
theorem b9u {m n:Int} (h0:0≤m) (h1:0≤n) (hm:m≤9223372036854775807) (hn:n≤9223372036854775807):binOp .or T (i64 m) (i64 n)=pure (i64 ((m.toNat ||| n.toNat:Nat):Int)):=by
 show Op.intBits .or .i64 m n=_
 unfold Op.intBits
 have e:((BitVec.ofInt 64 m) ||| (BitVec.ofInt 64 n)).toNat=m.toNat ||| n.toNat:=by rw [BitVec.toNat_or,a1K h0 hm,a1K h1 hn]
 have hb:m.toNat ||| n.toNat < 2^63:=Nat.or_lt_two_pow (by omega) (by omega)
 show(pure (Value.int .i64 (IntKind.wrap .i64 (((BitVec.ofInt 64 m) ||| (BitVec.ofInt 64 n)).toNat:Int))):Sem Value)=_
 rw [e,wrap64 hb]
theorem j6.c3n {m n:Int} (hx:F1 C σ H x (.v m)) (hy:F1 C σ H y (.v n)) (h0:0≤m) (h1:0≤n) (k:K (.v (((m.toNat &&& n.toNat:Nat):Int)))):j6 P N C ⟨d,.binOp .and T x y T2,ty,ps,af,g⟩ σ H K :=
 .vk k (fun ρ I L hs=>by
  obtain⟨e1,_,b1⟩:=hx.int hs
  obtain⟨e2,_,b2⟩:=hy.int hs
  have hb:m.toNat &&& n.toNat≤m.toNat:=Nat.and_le_left
  exact .mk ⟨_,⟨rfl,by omega,by omega⟩,rfl⟩ fun a w ha hm=>by
   simp [execOp,ha.ev e1,ha.ev e2,eqGuard,b7z h0 h1 b1 b2,asV,p9.agg])
theorem j6.orI {m n:Int} (hx:F1 C σ H x (.v m)) (hy:F1 C σ H y (.v n)) (h0:0≤m) (h1:0≤n) (k:K (.v (((m.toNat ||| n.toNat:Nat):Int)))):j6 P N C ⟨d,.binOp .or T x y T2,ty,ps,af,g⟩ σ H K :=
 .vk k (fun ρ I L hs=>by
  obtain⟨e1,_,b1⟩:=hx.int hs
  obtain⟨e2,_,b2⟩:=hy.int hs
  have hb:m.toNat ||| n.toNat < 2^63:=Nat.or_lt_two_pow (by omega) (by omega)
  exact .mk ⟨_,⟨rfl,by omega,by omega⟩,rfl⟩ fun a w ha hm=>by
   simp [execOp,ha.ev e1,ha.ev e2,eqGuard,b9u h0 h1 b1 b2,asV,p9.agg])
theorem j6.c2u {m:Int} {n:UInt64} (hx:F1 C σ H x (.v m)) (hy:F1 C σ H y (.v n)) (h1:n.toNat < 64) (k:K (.v (m >>> n.toNat))):j6 P N C ⟨d,.binOp .shr T x y T2,ty,ps,af,g⟩ σ H K :=
 .vk k (fun ρ I L hs=>by
  have hm:=(hx.int hs).2
  refine .mk ⟨_,⟨rfl,?_,?_⟩,rfl⟩ fun a w ha hm=>by
   have e:=b1w T m .u64 n.toNat h1
   simp only [execOp,ha.ev (hx.int hs).1,ha.ev (hy.a1W hs),eqGuard]
   simp [Fl.u64,e,asV,p9.agg]
  ·rw [Int.shiftRight_eq_div_pow]
   rcases Int.le_total 0 m with h|h
   ·have:=Int.ediv_nonneg h (Int.natCast_nonneg (2^n.toNat));omega
   ·have h2:(1:Int)≤((2^n.toNat:Nat):Int):=Int.natCast_pos.2 (Nat.two_pow_pos _)
    have:=Int.le_ediv_of_mul_le (a:=m) (b:=m) (c:=((2^n.toNat:Nat):Int)) (by omega) (by have:=Int.mul_le_mul_of_nonpos_left h h2;omega)
    omega
  ·rw [Int.shiftRight_eq_div_pow]
   rcases Int.le_total 0 m with h|h
   ·have:=Int.ediv_le_self ((2^n.toNat:Nat):Int) h;omega
   ·have h2:(0:Int) < ((2^n.toNat:Nat):Int):=Int.natCast_pos.2 (Nat.two_pow_pos _)
    have:=Int.ediv_lt_of_lt_mul (a:=m) (b:=1) h2 (by omega);omega)
theorem G5.b7A {G:Gl} {P:Program} {f:FuncId} {ags:List AV} {E:TypeId} {α:Type} [r:p9 α] {l:List α} {b:AV} (h:G5 G P f ags [] (fun r Hs=>∃ u,r = .t2 (.raw u) b∧Hs = [.own E u l])):u1 G P f ags (fun r=>r = .t2 (.v l) b):=fun I vs hG hvs=>by
 have hM:=h I [] vs hG hvs rfl
 refine⟨hM.ok,fun w hm=>(hM.run w hm).mono ?_⟩
 rintro e w' ⟨v,J,L',rfl,q1,q2,q3,q4,q5,r,Hs',q6,q7,u,rfl,rfl⟩
 obtain⟨X,R,rfl,q8,q9⟩:=q7
 have q9':R = []:=q9
 subst q9'
 obtain⟨x,y,rfl,q6',q6b⟩:=q6
 have q6'':x=u:=q6'
 subst q6''
 have hle:Le J (J.with X):=Im.a1I fun p hp=>q4.sep p (by simpa using hp)
 refine⟨_,J.with X,rfl,by simpa using q1,q2.trans hle,fun b h0 h1 => ?_,(q4.freeze (i:=0) (c:=X) rfl).drop,.t2 (.v l) b,⟨x,y,rfl,W0 q8 hle (fun p hp=>Im.a1P (by simpa using q4.nodup) hp),q6b.mono hle⟩,rfl⟩
 cases hj:J.with X b with
 | none=>exact absurd hj h1
 | some o =>
  rcases Im.a0b hj with h2|h2
  ·rcases q5 (b,o) (by simpa using h2) with h3|h3
   ·exact h3
   ·cases h3
  ·exact q3 b h0 (by simp [h2])
def AV.b7B (P:Program) {α β γ δ:Type} [p9 α] [p9 β] [p9 γ] [p9 δ] (g:α→β→γ×δ):AV := .clo P (fun x:α×β => [.v x.1,.v x.2]) (fun x => .t2 (.v (g x.1 x.2).1) (.v (g x.1 x.2).2))
section clo
variable {C:Ctx} {σ:y2} {H:j9} {G:Gl} {f:FuncId} {args:Array Operand} {tys:Array TypeId}
theorem j6.b5O {α β γ δ : Type} [p9 α] [p9 β] [p9 γ] [p9 δ] {g2 : α → β → γ × δ} {x : α} {y : β} {t : Nat} {a b : Operand} (ht : G4 σ t = some (.b7B P g2)) (ha : F1 C σ H a (.v x)) (hb : F1 C σ H b (.v y)) (k : K (.t2 (.v (g2 x y).1) (.v (g2 x y).2))) :
    j6 P N C ⟨d,.call ⟨.value (.tmp t),#[a,b],tys⟩,ty,ps,af,g⟩ σ H K := .b4M (ags:=fun x:α×β => [.v x.1,.v x.2]) (r:=fun x => .t2 (.v (g2 x.1 x.2).1) (.v (g2 x.1 x.2).2)) (x,y) ht (.cons ha (.cons hb .nil)) k
theorem j6.b9v (hG : G.p C.I0) {α β γ δ : Type} [p9 α] [p9 β] [p9 γ] [p9 δ] {g2 : α → β → γ × δ} {caps : List AV} (h : ∀ x y, u1 G P f (.v x :: .v y :: caps) (fun r => r = .t2 (.v (g2 x y).1) (.v (g2 x y).2))) (hv : a3u C σ H args.toList caps) (k : K (.b7B P g2)) :
    j6 P N C ⟨d,.makeFunc (.func f) #[] args,ty,ps,af,g⟩ σ H K := .c0v hG (ags:=fun x:α×β => [.v x.1,.v x.2]) (r:=fun x => .t2 (.v (g2 x.1 x.2).1) (.v (g2 x.1 x.2).2)) (fun i=>h i.1 i.2) hv k
end clo
theorem j6.b9w {α : Type} {r : p9 α} {n : Nat} {l : List α} {A E : TypeId} (hA : P.underlying A = some (.array n E)) (hn : 0 < n) (hz : 0 < p9.size α) (hx : F1 C σ H x (.v l)) (h : l.length = n) (k : K (.p (⟨l, h⟩ : J7 n α))) :
    j6 P N C ⟨d,.sliceToArrayPointer A x,ty,ps,af,g⟩ σ H K :=
  .vk k (fun ρ I L hs=>by
    obtain⟨u,hu,xs,hsl,hl⟩:=hx.sl hs
    obtain⟨a,c,rfl,hlen,h3,h4,h5,h6⟩:=hsl
    have hne:xs ≠ []:=by
      intro e
      have:=hl.len
      rw [e,h] at this
      have h7:0 < n*p9.size α:=Nat.mul_pos hn hz
      simp at this;omega
    obtain⟨b,o,rfl,hc⟩:=h6 hne
    refine .mk ⟨b,o,xs,a8,hl,hc⟩ fun ac w ha hm => ?_
    have hle:¬l.length < n:=by omega
    simp [execOp,ha.ev hu,Instr.arrayAt,run_underlying hA,h])
theorem j6.b3q {m : UInt64} {n : Int} (hx : F1 C σ H x (.v m)) (hy : F1 C σ H y (.v n)) (h0 : 0 ≤ n) (h1 : n < 64) (k : K (.v (m >>> UInt64.ofNat n.toNat))) :
    j6 P N C ⟨d,.binOp .shr T x y T2,ty,ps,af,g⟩ σ H K :=
  .vk k (fun ρ I L hs=>I9.a9j n.toNat (hx.a1W hs) (hy.int hs).1 (by omega) (by omega) ⟨_,rfl,rfl⟩)
end Go.Ab
namespace Go.Ab
open Go.Fl Go.RowKit Go.Shelf Go.Proofs
open p9 (rep)
end Go.Ab
namespace Go.Proofs.YtmmclghiidoldaaGreatDoor
open Go.Fl Go.Ab Go.Mac Go.Sha
theorem y8 (l:List Int):L5 (⟨l,0⟩:o5):=Int.le_refl 0
theorem b0D (w : Value) (d : o5) (lo hi : Int) (hd : L5 d) (h : lo ≤ hi) (h0 : -1000000000000000000 ≤ lo) (h1 : hi ≤ 1000000000000000000) :
    G5 gl Tryz.prog 32 [dk w,.v lo,.v hi] [.ob w d] (fun r Hs=>∃ v:Int,∃ d',lo≤v∧v≤hi∧L5 d'∧r = .v v∧Hs = [.ob w d']):=by
  refine G5.T9 Tryz.func32 rfl (by kernel_rfl) 15 rfl rfl _ rfl _ rfl fun C hC hG=>(.sr rfl (.p (.assign (.i rfl) (.nil (.sr rfl (.mv rfl (.mv rfl (.mv rfl (.mv rfl (.p (.sub (.t rfl) (.t rfl) (by omega) (by omega) (.p (.add (.t rfl) (.i rfl) (by omega) (by omega) (.h (.D3 hG (I7 _ _ _ (by assumption) (by omega) (by omega)) .z (.cons (.t rfl) (.cons (.t rfl) .nil)) (by rintro _ _ ⟨_,_,_,_,_,_,rfl⟩;exact⟨_,rfl⟩) fun r13 B13 hr13 => ?_)))))))))))))))
  obtain⟨v13,d13,h013,h113,hd13,rfl,hB⟩:=hr13
  cases hB
  refine .p (.add (.t a8) (.t a8) (by omega) (by omega) (.ag a8 (.nil (.ret ?_))))
  refine⟨_,.r1 a8 (.tmp a8),?_⟩
  refine⟨_,.cons .z (.nil),?_⟩
  exact⟨_,_,by omega,by omega,by assumption,rfl,rfl⟩
theorem c1j (w:Value) (d:o5) (m:Int) (hd:L5 d) (h0:0≤m) (h1:m≤281474976710657):G5 gl Tryz.prog 86 [dk w,.v m] [.ob w d] (fun r Hs=>∃ x:Int,0≤x∧x≤m∧∃ d',L5 d'∧r = .v x∧Hs = [.ob w d']):=by
 have hok1:=V7 (n:=4) hd
 have hn1:=Z1 (d:=(R8 d 4).2) (n:=4) (by decide)
 have hn2:=Z1 (d:=(R8 d 4).2) (n:=300) (by decide)
 have hn3:=Z1 (d:=(R8 d 4).2) (n:=min 3 (m+1)) (by omega)
 have hn4:=Z1 (d:=(R8 d 4).2) (n:=m+1) (by omega)
 refine G5.intro Tryz.func86 rfl (by kernel_rfl) 32 rfl rfl _ rfl _ rfl fun C hC hG=>(.sr rfl (.p (.assign (.i rfl) (.nil (.seq (.sr rfl (.mv rfl (.h (.D3 hG (a4B _ _ _ (by assumption) (by omega) (by omega)) .z (.cons (.t rfl) (.cons (.i rfl) .nil)) (by rintro _ _ ⟨_,rfl⟩;exact⟨_,rfl⟩) fun r6 B6 hr6 => ?_)))))))))
 obtain⟨rfl,hB⟩:=hr6
 cases hB
 refine .nil (.block (.sr a8 (.p (.D4 (.t a8) (.i a8) (.ag a8 (.nil (.o8 (.t a8) (fun hc7 => ?_) (fun hc7 => ?_))))))))
 ·refine .sr a8 (.mv a8 (.h (.D3 hG (a4B _ _ _ (by assumption) (by omega) (by omega)) .z (.cons (.t a8) (.cons (.i a8) .nil)) (by rintro _ _ ⟨_,rfl⟩;exact⟨_,rfl⟩) fun r10 B10 hr10 => ?_)))
  obtain⟨rfl,hB⟩:=hr10
  cases hB
  refine .mv a8 (.p (.a9Y (.t a8) (.t a8) (.ag a8 (.nil (.ret ?_)))))
  refine⟨_,.r1 a8 (.tmp a8),?_⟩
  refine⟨_,?_,?_,_,V7 hok1,a8,a8⟩<;>omega
 ·refine .sr a8 (.p (.D4 (.t a8) (.i a8) (.ag a8 (.nil (.o8 (.t a8) (fun hc13 => ?_) (fun hc13 => ?_))))))
  ·refine .sr a8 (.mv a8 (.h (.D3 hG (a4B _ _ _ (by assumption) (by omega) (by omega)) .z (.cons (.t a8) (.cons (.i a8) .nil)) (by rintro _ _ ⟨_,rfl⟩;exact⟨_,rfl⟩) fun r16 B16 hr16 => ?_)))
   obtain⟨rfl,hB⟩:=hr16
   cases hB
   refine .mv a8 (.p (.a9Y (.t a8) (.t a8) (.ag a8 (.nil (.ret ?_)))))
   refine⟨_,.r1 a8 (.tmp a8),?_⟩
   refine⟨_,?_,?_,_,V7 hok1,a8,a8⟩<;>omega
  ·refine .sr a8 (.p (.D4 (.t a8) (.i a8) (.ag a8 (.nil (.o8 (.t a8) (fun hc19 => ?_) (fun hc19 => ?_))))))
   ·refine .sr a8 (.mv a8 (.mv a8 (.mv a8 (.p (.add (.t a8) (.i a8) (by omega) (by omega) (.p (.a9Y (.i a8) (.t a8) (.h (.D3 hG (a4B _ _ _ (by assumption) (by omega) (by omega)) .z (.cons (.t a8) (.cons (.t a8) .nil)) (by rintro _ _ ⟨_,rfl⟩;exact⟨_,rfl⟩) fun r26 B26 hr26 => ?_)))))))))
    obtain⟨rfl,hB⟩:=hr26
    cases hB
    refine .p (.sub (.t a8) (.t a8) (by omega) (by omega) (.ag a8 (.nil (.ret ?_))))
    refine⟨_,.r1 a8 (.tmp a8),?_⟩
    refine⟨_,?_,?_,_,V7 hok1,a8,a8⟩<;>omega
   ·refine .skip (.sr a8 (.mv a8 (.mv a8 (.p (.add (.t a8) (.i a8) (by omega) (by omega) (.h (.D3 hG (a4B _ _ _ (by assumption) (by omega) (by omega)) .z (.cons (.t a8) (.cons (.t a8) .nil)) (by rintro _ _ ⟨_,rfl⟩;exact⟨_,rfl⟩) fun r31 B31 hr31 => ?_)))))))
    obtain⟨rfl,hB⟩:=hr31
    cases hB
    refine .ag a8 (.nil (.ret ?_))
    refine⟨_,.r1 a8 (.tmp a8),?_⟩
    refine⟨_,?_,?_,_,V7 hok1,a8,a8⟩<;>omega
theorem b1T (n:Int) (hn0:0≤n) (hn1:n≤281474976710656):G5 gl Tryz.prog 214 [.v n] [] (fun r Hs=>∃ u,r = .raw u∧Hs = [.own 5 u (R7 (UInt64.ofInt n) 8)]):=by
 refine G5.a5K Tryz.func214 rfl (by kernel_rfl) 17 rfl rfl _ rfl _ rfl fun C hC hG=>(.sr rfl (.p (.assign .raw (.nil (.sr rfl (.p (.assign .raw (.nil (.seq (.seq (.a19 5 UInt8 (.region rfl (.p (.assign (.i rfl) (.nil ?_)))))))))))))))
 refine .block (.F4 (α:=Nat×Value) [(0,_)] (fun x R=>(3,.raw x.2)::(4,.v (56 - 8*(x.1:Int)))::R) (fun x => [(true,.own 5 x.2 (R7 (UInt64.ofInt n) x.1))]) (fun x=>x.1≤8) (fun x=>8 - x.1) ((0,.slice none 0 0)) (.cons a8 (.nil _)) ?_ (.c2 a8 a8 (.cons a8 (.nil _))) (a8) fun x hF => ?_)
 ·simp
 obtain⟨j,w⟩:=x
 dsimp only at hF ⊢
 refine .seq (.sr a8 (.mv a8 (.p (.geq (.t a8) (.i a8) (.nil (.o8 (.t a8) (fun hc6 => ?_) (fun hc6 => ?_)))))))
 ·refine .skip (.seq (.block ?_))
  have hbe:=E1 (UInt64.ofInt n) j
  refine .region a8 (.mv a8 (.mv a8 (.mv a8 (.p (.c26 (.t a8) (.t a8) (by omega) (by omega) (.p (.a7d Tryz.underlying3 Tryz.underlying5 (.t a8) (.h (.buildSlice (α:=UInt8) U1 Tryz.underlying86 (.cons (.t a8) .nil) a8 (by decide) fun b14=>(.h (.append F5 (.inl ⟨_,Tryz.underlying86⟩) a8 .z1 (.own a8 .z) (by simp;omega) (by simp;omega) (fun w15 => .ag a8 ?_) a8)))))))))))
  refine .drop (.nil (.region a8 (.mv a8 (.p (.sub (.t a8) (.i a8) (by omega) (by omega) (.ag a8 (.nil ?_)))))))
  refine⟨(j+1,w15),.cons rfl (.cons (congrArg (fun q=>some (AV.v q)) (by dsimp only;omega)) (.cons rfl (.nil _))),congrArg (fun q => [(true,E9.own _ _ q)]) (by dsimp only;rw [a1u,←b5H n hn0 (by omega) _ (by omega),show(56 - 8*(j:Int)).toNat=56 - 8*j by omega]),?_,by dsimp only;omega⟩
  dsimp only;omega
 ·refine .exit (.sr a8 (.mv a8 (.ag a8 (.nil (.ret ?_)))))
  refine⟨_,.r1 a8 (.tmp a8),?_⟩
  obtain rfl:j=8:=by omega
  exact⟨0,_,a8,a8⟩
theorem b3r (key:Tag) (b:List UInt8) (hb:b.length≤900000):u1 gl Tryz.prog 163 [.v key,.v b] (fun r=>r = .v (a0e key.l (a3h.l++b))):=by
 refine u1.intro Tryz.func163 rfl (by kernel_rfl) 11 rfl rfl _ rfl fun C hC hG=>(.sr rfl (.h (.box (.t rfl) fun b2 => .h (.alloc p3 fun b4=>(.nil (.seq (.B0 hC .z1 (.Q5 2 rfl .z1 (.a7l (by kernel_rfl) 6 [[],[],[(6,1)],[],[(7,2),(8,3)],[(5,0),(9,4)]] [1,2,4,5] rfl (by kernel_rfl) rfl (by kernel_rfl) (by decide) ?_)))))))))
 refine⟨_,fun H=>j6.P5 (by decide) O7 (.t a8) a8,?_⟩
 refine .inl (.inl ?_)
 refine⟨_,fun H=>j6.move (.t a8) a8,?_⟩
 refine .inl (.inl ?_)
 refine A6.buildSlice (α:=UInt8) U1 Tryz.underlying86 (.cons (.u8 98 rfl) (.cons (.u8 111 rfl) (.cons (.u8 120 rfl) .nil))) rfl (by decide) fun b6 => ?_
 refine A6.same Tryz.underlying86 Tryz.underlying5 rfl .z (by simp) ?_
 refine A6.append F5 (.inl ⟨_,Tryz.underlying86⟩) rfl .z (.v (.t rfl)) (by simp;omega) (by simp;omega) (fun w9 => ?_) rfl
 refine A6.y0 hC .z (A6.as 9 rfl .z (A6.ofP (j6.m9 hG (a8y _ _ (by simp) (by simp;omega)) (.cons (.t rfl) (.cons (.t rfl) .nil)) ?_)))
 show F8 _ _ _ _ _ _ ((10,_)::(9,_)::(8,_)::(7,_)::(6,_)::(5,_)::_) _
 refine .n (.C8 p3 (.t a8) (.t a8) .z1 (.nil (.ret ?_)))
 refine⟨_,.r1 a8 (.cell p3 a8 .z1),?_⟩
 rfl
theorem b3s (b:List UInt8) (hb:b.length≤1000000):G5 gl Tryz.prog 162 [.v b] [] (fun r Hs=>∃ u,r = .raw u∧Hs = [.own 5 u b]):=by
 refine G5.T9 Tryz.func162 rfl (by kernel_rfl) 8 rfl rfl _ rfl _ rfl fun C hC hG=>(.sr rfl (.p (.assign .raw (.nil (.seq (.sr rfl (.mv rfl (.p (.b3g Tryz.underlying86 (.t rfl) fun c4 hn4=>(.nil (.cond (.t rfl) (fun hc4 => ?_) (fun hc4 => ?_))))))))))))
 ·refine .sr a8 (.p (.assign .raw (.nil (.a19 5 UInt8 (.ret ?_)))))
  refine⟨_,.r1 a8 (.tmp a8),?_⟩
  refine⟨_,.cons .z (.nil),?_⟩
  rw [hn4 hc4];exact⟨_,rfl,rfl⟩
 ·refine .skip (.sr a8 (.h (.buildSlice (α:=UInt8) U1 Tryz.underlying86 .nil a8 (by decide) fun b5 => .mv a8 (.h (.append F5 (.inl ⟨_,Tryz.underlying86⟩) a8 .z (.v (.t a8)) (by simp;omega) (by simp;omega) (fun w7 => .ag a8 ?_) a8)))))
  refine .nil (.ret ?_)
  refine⟨_,.r1 a8 (.tmp a8),?_⟩
  refine⟨_,.cons .z (.nil),?_⟩
  rw [List.nil_append];exact⟨w7,rfl,rfl⟩
def a2f (f:Nat→UInt8) (b:List UInt8) (k:Nat):List UInt8:=(b.take k).mapIdx (fun i c=>c ^^^ f i)++b.drop k
theorem a4J (f:Nat→UInt8) (b:List UInt8) (k:Nat):(a2f f b k).length=b.length:=by simp [a2f];omega
theorem b0E (f:Nat→UInt8) (b:List UInt8) {k:Nat} (h:b.length≤k):a2f f b k=a2f f b b.length:=by simp [a2f,List.take_of_length_le h,List.drop_of_length_le h]
theorem b7C (f:Nat→UInt8) (b:List UInt8) (k:Nat) (hk:k < b.length) (h:k < (a2f f b k).length):(a2f f b k)[k]=b[k]:=by
 simp only [a2f]
 rw [List.getElem_append_right (by simp;omega)]
 simp
 congr 1;omega
theorem b5P (f:Nat→UInt8) (b:List UInt8) (k:Nat) (hk:k < b.length):(a2f f b k).set k (b[k] ^^^ f k)=a2f f b (k+1):=by
 apply List.ext_getElem (by simp [a4J])
 intro j h1 h2
 rw [List.getElem_set]
 simp only [a2f]
 by_cases e:k=j
 ·subst e
  rw [if_pos rfl,List.getElem_append_left (by simp;omega)]
  simp
 ·rw [if_neg e]
  rcases Nat.lt_or_ge j k with h|h
  ·rw [List.getElem_append_left (by simp;omega),List.getElem_append_left (by simp;omega)]
   simp
  ·rw [List.getElem_append_right (by simp;omega),List.getElem_append_right (by simp;omega)]
   simp
   congr 1;omega
theorem b5Q (f:Nat→UInt8) (b:List UInt8) (k x:Nat) (h:x=32∨(b.length≤32*k+x∧x≤32)):a2f f b (32*k+x)=a2f f b (32*(k+1)):=by
 rcases h with rfl|⟨h,h2⟩
 ·rfl
 ·rw [b0E _ _ h,b0E _ _ (show b.length≤32*(k+1) by omega)]
def a2g (key:Tag) (nb:List UInt8) (k:Nat):Tag:=a0e key.l (a48.l++nb++R7 (UInt64.ofInt (k:Int)) 8)
def a3C (key:Tag) (nb:List UInt8) (i:Nat):UInt8:=(a2g key nb (i/32)).l.getD (i % 32) 0
theorem b7D (key : Tag) (nb b : List UInt8) (k x : Nat) (hx : x < 32) (hk : 32 * k + x < b.length) (h1 : ((k : Int) * 32 + (x : Int)).toNat < (a2f (a3C key nb) b (32 * k + x)).length) (h2 : ((k : Int) * 32 + (x : Int) - (k : Int) * 32).toNat < 32) :
    (a2f (a3C key nb) b (32*k+x)).set ((k:Int)*32+(x:Int)).toNat ((a2f (a3C key nb) b (32*k+x))[((k:Int)*32+(x:Int)).toNat] ^^^ (m5.idx ((k:Int)*32+(x:Int) - (k:Int)*32).toNat h2).get (a2g key nb k))=a2f (a3C key nb) b (32*k+(x+1)):=by
  have e0:((k:Int)*32+(x:Int)).toNat=32*k+x:=by omega
  have e4:((k:Int)*32+(x:Int) - (k:Int)*32).toNat=x:=by omega
  rw [show 32*k+(x+1)=32*k+x+1 by omega,←b5P _ b _ hk]
  have e3:(m5.idx ((k:Int)*32+(x:Int) - (k:Int)*32).toNat h2).get (a2g key nb k)=a3C key nb (32*k+x):=by
    show(a2g key nb k).l[((k:Int)*32+(x:Int) - (k:Int)*32).toNat]'_=_
    unfold a3C
    have h5:(32*k+x)/32=k:=by omega
    have h6:(32*k+x) % 32=x:=by omega
    have h4:x < (a2g key nb k).l.length:=by rw [J7.len];omega
    simp only [e4,h5,h6]
    rw [List.getD_eq_getElem?_getD,List.getElem?_eq_getElem h4];rfl
  simp only [e3,e0]
  rw [b7C (a3C key nb) b _ hk]
theorem b1U (key:Tag) (nb:List UInt8):u1 gl Tryz.prog 202 [.v key,.v nb] (fun r=>r = .cap 213 [.p nb,.p key]):=by
 refine u1.intro Tryz.func202 rfl (by kernel_rfl) 6 rfl rfl _ rfl fun C hC hG=>(.sr rfl (.h (.box (.t rfl) fun b2 => .h (.box (.t rfl) fun b3 => .p (.assign .raw (.nil (.seq (.B0 hC .z (.Q5 3 rfl .z (.B0 hC .z1 (.Q5 2 rfl .z1 (.region rfl (.p (.c2r (.cons (.t rfl) (.cons (.t rfl) .nil)) (.ag rfl (.nil (.ret ?_)))))))))))))))))
 refine⟨_,.r1 a8 (.tmp a8),?_⟩
 rfl
theorem b3t (key:Tag) (nb:List UInt8) (hn:nb.length≤900000) (bound:Nat) (hb:bound≤1000000):c0B gl Tryz.prog 213 [.p nb,.p key] (fun k => [.v ((k:Int)*32),.v (a2g key nb k)]) bound:=by
 refine⟨⟨_,Tryz.func213,by kernel_rfl,rfl⟩,fun I0 l it hy => ?_⟩
 refine G5.T9 Tryz.func213 rfl (by kernel_rfl) 23 rfl rfl _ rfl _ rfl fun C hC hG' => ?_
 obtain⟨hG,hI⟩:=hG'
 refine .sr a8 (.p (.assign (.i a8) (.nil (.block (.F4 (α:=Nat) [(0,_),(1,_),(2,_)] (fun k R=>(4,.v (k:Int))::R) (fun k => [(false,itB it (some k))]) (fun k=>k≤bound) (fun k=>bound - k) (0) (.c2 a8 a8 (.cons a8 (.nil _))) ?_ (.c2 a8 a8 (.c2 a8 a8 (.nil _))) (a8) fun k hF => ?_)))))
 ·simp
 refine .seq (.block (.seq ?_))
 have hb2:=E1 (UInt64.ofInt (k:Int)) 8
 refine .region a8 (.h (.buildSlice (α:=UInt8) U1 Tryz.underlying86 (.cons (.u8 115 a8) (.cons (.u8 116 a8) (.cons (.u8 114 a8) (.cons (.u8 101 a8) (.cons (.u8 97 a8) (.cons (.u8 109 a8) .nil)))))) a8 (by decide) fun b8 => .h (.same Tryz.underlying86 Tryz.underlying5 a8 .z (by simp) (.p (.x3 P1 (.t a8) (.h (.append F5 (.inl ⟨_,Tryz.underlying86⟩) a8 .z (.v (.t a8)) (by simp;omega) (by simp;omega) (fun w11 => .mv a8 (.h (.a02 hG (b1T _ (by omega) (by omega)) (.cons (.t a8) .nil) fun r13 Hs13 hr13 => ?_))) a8)))))))
 obtain⟨u13,rfl,rfl⟩:=hr13
 show F8 _ _ _ _ _ _ _ ((true,_)::_)
 refine .h (.append F5 (.inl ⟨_,Tryz.underlying86⟩) a8 .z1 (.own a8 .z) (by simp;omega) (by simp;omega) (fun w14 => .ag a8 ?_) a8)
 refine .nil (.seq (.y0 hC .z1 (.as 5 a8 .z1 (.region a8 (.mv a8 (.mv a8 (.p (.mul (.t a8) (.i a8) (by omega) (by omega) (.p (.P5 (by decide) O7 (.t a8) (.mv a8 (.p (.m9 hG (a8y _ _ (by simp) (by simp;omega)) (.cons (.t a8) (.cons (.t a8) .nil)) (.h (.b3n hI (hy k hF) a8 .z2 (.cons (.t a8) (.cons (.t a8) .nil)) fun r21 B21 hr21 => ?_)))))))))))))))
 obtain⟨c21,rfl,rfl,hk21⟩:=hr21
 refine .p (.not (.t a8) (.drop (.drop (.nil (.cond (.t a8) (fun hc22 => ?_) (fun hc22 => ?_))))))
 ·refine .ret ?_
  refine⟨_,.r0 a8,?_⟩
  refine⟨_,.cons .z (.nil),?_⟩
  have e:c21=false:=by simpa using hc22
  subst e
  rfl
 ·refine .skip (.region a8 (.mv a8 (.p (.add (.t a8) (.i a8) (by omega) (by omega) (.ag a8 (.nil ?_))))))
  refine⟨k+1,.c2 rfl rfl (.c2 rfl rfl (.nil _)),congrArg (fun q => [(false,itB it q)]) (by rw [show c21=true by simpa using hc22];rfl),?_,by have:=hk21 (by simpa using hc22);omega⟩
  exact hk21 (by simpa using hc22)
theorem a9E:H9 Tryz.prog 86 V8 := .of (by kernel_rfl) (by kernel_rfl) (by kernel_rfl) (by decide)
theorem b9x (key:Tag) (nb b:List UInt8) (hn:nb.length≤900000) (hb:b.length≤1000000):G5 gl Tryz.prog 165 [.v key,.v nb,.v b] [] (fun r Hs=>∃ u,r = .raw u∧Hs = [.own 5 u (a2f (a3C key nb) b b.length)]):=by
 refine G5.b9t Tryz.func165 rfl (by kernel_rfl) 47 rfl rfl _ rfl _ rfl fun C hC hrd hG=>(.c1h (.region rfl (.h (.box (.t rfl) fun b3 => .p (.assign (.K4 (α:=UInt8)) (.nil (.c1h (.B0 hC .z (.Q5 3 rfl .z (.region rfl (.p (.move (.t rfl) (.h (.a02 hG (b3s _ (by omega)) (.cons (.t rfl) .nil) fun r12 Hs12 hr12 => ?_))))))))))))))
 obtain⟨u12,rfl,rfl⟩:=hr12
 show F8 _ _ _ _ _ _ _ ((true,_)::_)
 refine .h (.alloc a9E fun b7 => .n (.C8 a9E (.t a8) (.c1i a8 (.s .z)) .z (.nil (.c3m (.c1h (.region a8 (.p (.x3 p3 (.t a8) (.p (.move (.t a8) (.p (.m9 hG (b1U _ _) (.cons (.t a8) (.cons (.t a8) .nil)) (.nil (.block (.range (vs:=fun k => [.v ((k:Int)*32),.v (a2g key nb k)]) (bound:=(b.length+31)/32) (fun k => [.ob (ptr b7 0) (V8.mk u12),.own 5 u12 (a2f (a3C key nb) b (32*k))]) [.ob (ptr b7 0) (V8.mk u12),.own 5 u12 (a2f (a3C key nb) b b.length)] 0 hrd hG a8 (b3t key nb hn _ (by omega)) (by decide) (fun _=>a8) (.cons .z (.cons (.s .z) .nil)) a8 (fun k hk C hC hG => ?_) ?_)))))))))))))))
 ·show L9 _ _ _ _ _ ((17,_)::(16,_)::_) [(false,_),(false,_),(false,.none_)]
  have hl5:=a4J (a3C key nb) b (32*k)
  refine .seq (.region a8 (.p (.assign (.t a8) (.nil (.region a8 (.h (.alloc p3 fun b9 => .n (.C8 p3 (.t a8) (.t a8) .z (.nil ?_)))))))))
  refine⟨a8,fun C hC hG => ?_⟩
  show L9 _ _ _ _ _ _ [(false,_),(false,_),(false,_),(false,.none_)]
  refine .block (.seq (.seq (.region a8 (.p (.move (.t a8) (.p (.ldR (fun x=>x) a9E (.t a8) (.s .z) (fun _=>a8) (.p (.a8s Tryz.underlying86 a8 (.s (.s .z)) (.p (.geq (.t a8) (.t a8) (.nil (.o8 (.t a8) (fun hc21 => ?_) (fun hc21 => ?_))))))))))))))
  ·refine .exit ?_
   have e:=b0E (a3C key nb) b (k:=32*k) (by omega)
   rw [e]
   refine .inr ⟨a8,?_⟩
   exact(.cons (.s .z) (.cons (.s (.s .z)) .nil))
  ·refine .skip (.seq (.region a8 (.p (.move (.t a8) (.p (.assign (.t a8) (.nil (.block (.F4 (α:=Nat) [(7,_),(8,_),(9,_)] (fun x R=>(10,.v ((k:Int)*32+(x:Int)))::R) (fun x => [(false,.ob (ptr b9 0) (a2g key nb k)),(false,.ob (ptr b7 0) (V8.mk u12)),(false,.own 5 u12 (a2f (a3C key nb) b (32*k+x))),(false,.none_)]) (fun x=>x≤32∧32*k+x≤b.length) (fun x=>b.length - (32*k+x)) (0) (.cons a8 (.cons a8 (.cons a8 (.nil _)))) ?_ (.cons a8 (.cons a8 (.cons a8 (.cons a8 (.nil _))))) (a8) fun x hF => ?_)))))))))
   ·exact⟨by omega,by omega⟩
   obtain⟨hx1,hx2⟩:=hF
   have hl7:=a4J (a3C key nb) b (32*k+x)
   refine .seq (.seq (.region a8 (.p (.move (.t a8) (.p (.ldR (fun x=>x) a9E (.t a8) (.s .z) (fun _=>a8) (.p (.a8s Tryz.underlying86 a8 (.s (.s .z)) (.p (.lss (.t a8) (.t a8) (.p (.move (.t a8) (.go 27 a8 (.t a8) (fun hg28 => .move (.t a8) a8) (.go 27 a8 (.t a8) (fun hg29 => .move (.t a8) a8) (.go 27 a8 (.t a8) (fun hg30 => .add (.o a8 (beq_iff_eq.2 hg30)) (.i a8) (by first|omega|(simp;omega)|(have:=hg30;simp at this;omega)) (by first|omega|(simp;omega)|(have:=hg30;simp at this;omega)) a8) (.go 27 a8 (.t a8) (fun hg31 => .lss (.o a8 (beq_iff_eq.2 hg31)) (.o a8 (beq_iff_eq.2 hg31)) a8) (.p (.u0 (.t a8) (fun hp=>(.o a8 (beq_iff_eq.2 hp))) (.nil (.cond (.t a8) (fun hc32 => ?_) (fun hc32 => ?_)))))))))))))))))))))
   ·refine .skip (.seq (.block (.draw (by kernel_rfl) 11 [[],[],[(35,0),(36,1)],[(37,2)],[],[],[(39,4),(40,5)],[(41,6)],[(42,7)],[(38,3),(43,8)],[(35,0),(36,1)]] a8 (by kernel_rfl) a8 ?_)))
    refine⟨_,j6.ldR (fun x=>x) a9E (.t a8) (.s .z) (fun _=>a8) a8,?_⟩
    refine⟨_,j6.move (.t a8) a8,?_⟩
    refine⟨_,j6.a2z U1 Tryz.underlying86 a8 (.s (.s .z)) (.t a8) (by omega) (by simp at *;omega) a8,?_⟩
    refine⟨_,j6.b7j U1 (.t a8) (.s (.s .z)) (by simp at *;omega) a8,?_⟩
    refine⟨_,j6.move (.t a8) a8,?_⟩
    refine⟨_,j6.move (.t a8) a8,?_⟩
    refine⟨_,j6.sub (.t a8) (.t a8) (by omega) (by omega) a8,?_⟩
    refine⟨_,j6.c04 O7 (.t a8) (.t a8) (by omega) (by simp at *;omega) a8,?_⟩
    refine⟨_,j6.ldL U1 (.t a8) .z a8,?_⟩
    refine⟨_,j6.b2C (.t a8) (.t a8) a8,?_⟩
    refine⟨_,j6.a2z U1 Tryz.underlying86 a8 (.s (.s .z)) (.t a8) (by omega) (by simp at *;omega) a8,?_⟩
    show F8 _ _ _ _ _ _ ((45,_)::(44,_)::(43,_)::(42,_)::(41,_)::(40,_)::(39,_)::(38,_)::(37,_)::(36,_)::(35,_)::_) _
    refine .n (.b5B U1 (.t a8) (.t a8) (.s (.s .z)) (by simp at *;omega) (.nil (.region a8 (.p (.move (.t a8) (.p (.add (.t a8) (.i a8) (by omega) (by omega) (.p (.assign (.t a8) (.nil ?_))))))))))
    refine⟨x+1,.cons rfl (.cons rfl (.cons rfl (.cons rfl (.nil _)))),congrArg (fun q => [_,_,(false,E9.own _ _ q),_]) (b7D key nb b k x (by simp at hc32;omega) (by simp at hc32;omega) _ _),?_,by simp at hc32;omega⟩
    simp at hc32;exact⟨by omega,by omega⟩
   ·refine .exit ?_
    have e:=b5Q (a3C key nb) b k x (by simp at hc32;omega)
    rw [e]
    refine .inl ⟨rfl,by omega,?_⟩
    exact(.cons (.s .z) (.cons (.s (.s .z)) .nil))
 ·show wpF _ _ _ _ _ _ [(true,_),(true,_),(false,.none_)]
  refine .seq (.region a8 (.p (.ldR (fun x=>x) a9E (.t a8) .z (fun _=>a8) (.p (.assign (.t a8) (.nil (.ret ?_)))))))
  refine⟨_,.r1 a8 (.tmp a8),?_⟩
  refine⟨_,.cons (.s .z) (.nil),?_⟩
  exact⟨u12,a8,a8⟩
theorem b3u (k:Tag) (G6:UInt64) (i:Nat):a3C k (R7 G6 8) i=Z4 k G6 i:=by
 unfold a3C Z4 a2g a6n
 have e:UInt64.ofInt ((i/32:Nat):Int)=UInt64.ofNat (i/32):=by
  apply UInt64.toNat_inj.1
  simp [UInt64.ofInt];omega
 rw [List.append_assoc,e]
theorem a7p (k:Tag) (G6:UInt64) (p:List UInt8) (m:Nat):a2f (a3C k (R7 G6 8)) p m=M0 k G6 p m:=by
 unfold a2f M0
 rw [show a3C k (R7 G6 8)=Z4 k G6 from funext fun i=>b3u k G6 i]
theorem a2I (k:Tag) (n:Int) (p:List UInt8):(Y6 k n p).length=p.length+40:=by
 simp [Y6,V0,E1,P7,(a0e k.l _).len];omega
def K5 (n:Nat):List UInt8:=if n < 128 then [UInt8.ofNat n] else UInt8.ofNat (n % 128+128)::K5 (n/128)
termination_by n
theorem a2h {n:Nat} (h:n < 128):K5 n = [UInt8.ofNat n]:=by rw [K5,if_pos h]
theorem a30 {n:Nat} (h:¬n < 128):K5 n=UInt8.ofNat (n % 128+128)::K5 (n/128):=by rw [K5,if_neg h]
theorem a4K (k n:Nat) (h:n < 128^(k+1)):(K5 n).length≤k+1:=by
 induction k generalizing n with
 | zero=>rw [a2h (by simpa using h)];simp
 | succ k ih =>
  by_cases h1:n < 128
  ·rw [a2h h1];simp
  ·rw [a30 h1,List.length_cons]
   have:=ih (n/128) (by rw [Nat.pow_succ] at h;omega)
   omega
theorem A8 {n:Nat} (h:n≤281474976710656):(K5 n).length≤7:=a4K 6 n (by omega)
theorem b7E (n:Nat):0 < (K5 n).length:=by
 rw [K5];split<;>simp
theorem b7F (n:Nat):n &&& 127=n % 128:=Nat.and_two_pow_sub_one_eq_mod n 7
theorem c2v {n:Nat} (h:n < 128):n ||| 128=n+128:=by
 have:=Nat.two_pow_add_eq_or_of_lt (i:=7) (b:=n) (by simpa using h) 1
 rw [Nat.or_comm];simpa [Nat.add_comm] using this.symm
theorem a32 (n:Nat):UInt8.ofInt (n:Int)=UInt8.ofNat n:=by apply UInt8.toNat_inj.1;simp [UInt8.ofInt];omega
def b3v (n:Int):Bool:=decide (n < 0)||decide (281474976710656 < n)
theorem b0F {n:Int} (h0:0≤n) (h1:n≤281474976710656):b3v n=false:=by unfold b3v;simp;omega
theorem a2X (n:Int) (h0:0≤n) (h1:n≤281474976710656):G5 gl Tryz.prog 131 [.v n] [] (fun r Hs=>∃ u,r = .raw u∧Hs = [.own 5 u (K5 n.toNat)]):=by
 have hlen:=A8 (n:=n.toNat) (by omega)
 refine G5.a5K Tryz.func131 rfl (by kernel_rfl) 20 rfl rfl _ rfl _ rfl fun C hC hG=>(.sr rfl (.p (.assign .raw (.nil (.sr rfl (.p (.assign .raw (.a19 5 UInt8 (.nil (.seq (.block (.F4 (α:=Nat×Value×List UInt8) [] (fun x R=>(0,.v (x.1:Int))::(3,.raw x.2.1)::R) (fun x => [(true,.own 5 x.2.1 x.2.2)]) (fun x=>x.2.2++K5 x.1=K5 n.toNat) (fun x=>x.1) ((n.toNat,.slice none 0 0,[])) (.nil _) ?_ (.cons (congrArg (fun q=>some (AV.v q)) (by dsimp only;omega)) (.cons rfl (.nil _))) (rfl) fun x hF => ?_))))))))))))
 ·rfl
 obtain⟨k,w,l⟩:=x
 dsimp only at hF ⊢
 have hl9:=congrArg List.length hF
 rw [List.length_append] at hl9
 refine .seq (.sr a8 (.mv a8 (.p (.gtr (.t a8) (.i a8) (.nil (.o8 (.t a8) (fun hc5 => ?_) (fun hc5 => ?_)))))))
 ·refine .skip (.block (.sr a8 (.mv a8 (.mv a8 (.p (.rem (.t a8) (.i a8) (by omega) (by omega) (.p (.add (.t a8) (.i a8) (by omega) (by omega) (.p (.a7d Tryz.underlying3 Tryz.underlying5 (.t a8) (.h (.buildSlice (α:=UInt8) U1 Tryz.underlying86 (.cons (.t a8) .nil) a8 (by decide) fun b11=>(.h (.append F5 (.inl ⟨_,Tryz.underlying86⟩) a8 .z1 (.own a8 .z) (by simp;omega) (by simp;omega) (fun w12 => .ag a8 ?_) a8))))))))))))))
  refine .drop (.nil (.region a8 (.mv a8 (.p (.quo (.t a8) (.i a8) (by omega) (by omega) (.ag a8 (.nil ?_)))))))
  refine⟨(k/128,w12,_),.cons (congrArg (fun q=>some (AV.v q)) (by dsimp only;omega)) (.cons rfl (.nil _)),rfl,?_,by dsimp only;omega⟩
  dsimp only;rw [←hF,a30 (n:=k) (by omega),List.append_assoc,show((k:Int) % 128+128)=((k % 128+128:Nat):Int) by omega,a32];rfl
 ·refine .exit (.sr a8 (.mv a8 (.mv a8 (.p (.a7d Tryz.underlying3 Tryz.underlying5 (.t a8) (.h (.buildSlice (α:=UInt8) U1 Tryz.underlying86 (.cons (.t a8) .nil) a8 (by decide) fun b18 => .h (.append F5 (.inl ⟨_,Tryz.underlying86⟩) a8 .z1 (.own a8 .z) (by simp;omega) (by simp;omega) (fun w19 => .ag a8 ?_) a8))))))))
  refine .nil (.ret ?_)
  refine⟨_,.r1 a8 (.tmp a8),?_⟩
  exact⟨1,_,rfl,by rw [←hF,a2h (n:=k) (by omega),←a32];rfl⟩
theorem F0 (n:Int) (h0:0≤n) (h1:n≤281474976710656):u1 gl Tryz.prog 131 [.v n] (fun r=>r = .v (K5 n.toNat)):=(a2X n h0 h1).b0C
theorem a8E (b:List UInt8) (hb:b.length≤1000000):G5 gl Tryz.prog 193 [.v b] [] (fun r Hs=>∃ u,r = .raw u∧Hs = [.own 5 u b]):=by
 refine G5.T9 Tryz.func193 rfl (by kernel_rfl) 8 rfl rfl _ rfl _ rfl fun C hC hG=>(.sr rfl (.p (.assign .raw (.nil (.seq (.sr rfl (.mv rfl (.p (.b3g Tryz.underlying86 (.t rfl) fun c4 hn4=>(.nil (.cond (.t rfl) (fun hc4 => ?_) (fun hc4 => ?_))))))))))))
 ·refine .sr a8 (.p (.assign .raw (.nil (.a19 5 UInt8 (.ret ?_)))))
  refine⟨_,.r1 a8 (.tmp a8),?_⟩
  refine⟨_,.cons .z (.nil),?_⟩
  rw [hn4 hc4];exact⟨_,rfl,rfl⟩
 ·refine .skip (.sr a8 (.h (.buildSlice (α:=UInt8) U1 Tryz.underlying86 .nil a8 (by decide) fun b5 => .mv a8 (.h (.append F5 (.inl ⟨_,Tryz.underlying86⟩) a8 .z (.v (.t a8)) (by simp;omega) (by simp;omega) (fun w7 => .ag a8 ?_) a8)))))
  refine .nil (.ret ?_)
  refine⟨_,.r1 a8 (.tmp a8),?_⟩
  refine⟨_,.cons .z (.nil),?_⟩
  rw [List.nil_append];exact⟨w7,rfl,rfl⟩
theorem c3o (k:Nat):((k:Int) >>> (7:Nat))=((k/128:Nat):Int):=by rw [Int.shiftRight_eq_div_pow];rfl
theorem a1y (b:List UInt8) (n:Int) (hb:b.length≤900000) (h0:0≤n) (h1:n≤281474976710656):G5 gl Tryz.prog 158 [.v b,.v n] [] (fun r Hs=>∃ u,r = .t2 (.raw u) (.v (0:Int))∧Hs = [.own 5 u (b++K5 n.toNat)]):=by
 have hlen:=A8 (n:=n.toNat) (by omega)
 refine G5.a5K Tryz.func158 rfl (by kernel_rfl) 31 rfl rfl _ rfl _ rfl fun C hC hG=>(.sr rfl (.p (.assign .raw (.p (.assign (.i rfl) (.nil (.seq (.sr rfl (.mv rfl (.p (.lss (.t rfl) (.i rfl) (.mv rfl (.go 9 rfl (.t rfl) (fun hg10 => .move (.t rfl) rfl) (.go 9 rfl (.t rfl) (fun hg11 => .gtr (.q rfl hg11) (.i rfl) rfl) (.p (.E0 (.t rfl) (fun hp=>(.q rfl hp)) (.nil (.cond (.t rfl) (fun hc12=>(by exfalso;have hbad:=b0F h0 h1;unfold b3v at hbad;rw [hbad] at hc12;cases hc12)) (fun hc12=>(.skip ?_))))))))))))))))))))
 refine .sr a8 (.mv a8 (.h (.a02 hG (a8E _ (by omega)) (.cons (.t a8) .nil) fun r14 Hs14 hr14 => ?_)))
 obtain⟨u14,rfl,rfl⟩:=hr14
 show F8 _ _ _ _ _ _ _ ((true,_)::_)
 refine .ag a8 (.nil (.seq (.block (.F4 (α:=Nat×Value×List UInt8) [] (fun x R=>(1,.v (x.1:Int))::(6,.raw x.2.1)::R) (fun x => [(true,.own 5 x.2.1 x.2.2)]) (fun x=>x.2.2++K5 x.1=b++K5 n.toNat) (fun x=>x.1) ((n.toNat,u14,b)) (.nil _) ?_ (.cons (congrArg (fun q=>some (AV.v q)) (by dsimp only;omega)) (.cons a8 (.nil _))) (a8) fun x hF => ?_))))
 ·rfl
 obtain⟨k,w,l⟩:=x
 dsimp only at hF ⊢
 have hl9:=congrArg List.length hF
 rw [List.length_append,List.length_append] at hl9
 have hk9:=b7E k
 refine .seq (.sr a8 (.mv a8 (.p (.geq (.t a8) (.i a8) (.nil (.o8 (.t a8) (fun hc16 => ?_) (fun hc16 => ?_)))))))
 ·refine .skip (.seq (.block ?_))
  have hb6:=b7F k;have hc6:k % 128 < 128:=Nat.mod_lt _ (by decide)
  refine .region a8 (.mv a8 (.mv a8 (.p (.c3n (.t a8) (.i a8) (by omega) (by omega) (.p (.orI (.t a8) (.i a8) (by omega) (by omega) (.p (.a7d Tryz.underlying3 Tryz.underlying5 (.t a8) (.h (.buildSlice (α:=UInt8) U1 Tryz.underlying86 (.cons (.t a8) .nil) a8 (by decide) fun b24=>(.h (.append F5 (.inl ⟨_,Tryz.underlying86⟩) a8 .z1 (.own a8 .z) (by simp;omega) (by simp;omega) (fun w25 => .ag a8 ?_) a8))))))))))))
  refine .drop (.nil (.region a8 (.mv a8 (.p (.c2u (.t a8) (.u64 7 a8) (by decide) (.ag a8 (.nil ?_)))))))
  refine⟨(k/128,w25,_),.cons (congrArg (fun q=>some (AV.v q)) (c3o k)) (.cons rfl (.nil _)),rfl,?_,by dsimp only;omega⟩
  dsimp only;rw [←hF,a30 (n:=k) (by omega),List.append_assoc];show l++([UInt8.ofInt (((k &&& 127) ||| 128:Nat):Int)]++K5 (k/128))=_;rw [b7F,c2v (Nat.mod_lt _ (by decide)),a32];rfl
 ·refine .exit (.sr a8 (.mv a8 (.mv a8 (.p (.a7d Tryz.underlying3 Tryz.underlying5 (.t a8) (.h (.buildSlice (α:=UInt8) U1 Tryz.underlying86 (.cons (.t a8) .nil) a8 (by decide) fun b29 => .h (.append F5 (.inl ⟨_,Tryz.underlying86⟩) a8 .z1 (.own a8 .z) (by simp;omega) (by simp;omega) (fun w30 => .ag a8 ?_) a8))))))))
  refine .p (.assign (.i a8) (.nil (.ret ?_)))
  refine⟨_,.r2 a8 (.tmp a8) (.tmp a8),?_⟩
  exact⟨1,_,rfl,by rw [←hF,a2h (n:=k) (by omega),←a32];rfl⟩
theorem a9F (b x:List UInt8) (hb:b.length≤800000) (hx:x.length≤1024):G5 gl Tryz.prog 156 [.v b,.v x] [] (fun r Hs=>∃ u,r = .t2 (.raw u) (.v (0:Int))∧Hs = [.own 5 u (b++K5 x.length++x)]):=by
 have hlen:=A8 (n:=x.length) (by omega)
 refine G5.T9 Tryz.func156 rfl (by kernel_rfl) 22 rfl rfl _ rfl _ rfl fun C hC hG=>(.sr rfl (.p (.assign (.K4 (α:=UInt8)) (.p (.assign (.i rfl) (.nil (.seq (.sr rfl (.mv rfl (.p (.len Tryz.underlying86 (.t rfl) (.p (.gtr (.t rfl) (.i rfl) (.nil (.o8 (.t rfl) (fun hc10=>(by exfalso;omega)) (fun hc10=>(.skip (.sr rfl (.mv rfl (.mv rfl (.p (.len Tryz.underlying86 (.t rfl) (.h (.a02 hG (a1y _ _ (by omega) (by omega) (by omega)) (.cons (.t rfl) (.cons (.t rfl) .nil)) fun r15 Hs15 hr15 => ?_))))))))))))))))))))))))
 obtain⟨u15,rfl,rfl⟩:=hr15
 show F8 _ _ _ _ _ _ _ ((true,_)::_)
 refine .mv a8 (.p (.E5 (.t a8) (.p (.E6 (.t a8) (.ag a8 (.ag a8 (.nil (.sr a8 (.mv a8 (.mv a8 (.h (.append F5 (.inl ⟨_,Tryz.underlying86⟩) a8 .z (.v (.t a8)) (by simp;omega) (by simp;omega) (fun w20 => .mv a8 (.ag a8 (.ag a8 ?_))) a8))))))))))))
 refine .nil (.ret ?_)
 refine⟨_,.r2 a8 (.tmp a8) (.tmp a8),?_⟩
 refine⟨_,.cons .z (.nil),?_⟩
 exact⟨_,a8,a8⟩
theorem b0G (b x:List UInt8) (hb:b.length≤800000) (hx:x.length≤1024):u1 gl Tryz.prog 156 [.v b,.v x] (fun r=>r = .t2 (.v (b++K5 x.length++x)) (.v (0:Int))):=(a9F b x hb hx).b7A
theorem b3w (x:List UInt8) (hx:x.length≤1000000):G5 gl Tryz.prog 168 [.v x] [] (fun r Hs=>∃ u,r = .raw u∧Hs = [.own 5 u (K5 x.length++x)]):=by
 have hlen:=A8 (n:=x.length) (by omega)
 refine G5.T9 Tryz.func168 rfl (by kernel_rfl) 8 rfl rfl _ rfl _ rfl fun C hC hG=>(.sr rfl (.p (.assign (.K4 (α:=UInt8)) (.nil (.sr rfl (.mv rfl (.p (.len Tryz.underlying86 (.t rfl) (.h (.a02 hG (a2X _ (by omega) (by omega)) (.cons (.t rfl) .nil) fun r5 Hs5 hr5 => ?_))))))))))
 obtain⟨u5,rfl,rfl⟩:=hr5
 show F8 _ _ _ _ _ _ _ ((true,_)::_)
 refine .mv a8 (.h (.append F5 (.inl ⟨_,Tryz.underlying86⟩) a8 .z (.v (.t a8)) (by simp;omega) (by simp;omega) (fun w7 => .ag a8 ?_) a8))
 refine .nil (.ret ?_)
 refine⟨_,.r1 a8 (.tmp a8),?_⟩
 refine⟨_,.cons .z (.nil),?_⟩
 exact⟨_,a8,a8⟩
theorem a06 (x:List UInt8) (hx:x.length≤1000000):u1 gl Tryz.prog 168 [.v x] (fun r=>r = .v (K5 x.length++x)):=(b3w x hx).b0C
end Go.Proofs.YtmmclghiidoldaaGreatDoor
namespace Go.Ab
open Go.Fl Go.RowKit
open p9 (rep)
def EqT (P:Program) (T:TypeId) (k:Nat) (α:Type) [p9 α] [DecidableEq α]:Prop :=
 ∀ (d:Nat) (I:Im) (x y:α) (cs ds:List Value) (w:World),rep I x cs→rep I y ds→(Op.equalIn (d+k) T (asV (p9.agg α) cs) (asV (p9.agg α) ds)).run P w = .ok (decide (x=y)) w
variable {P:Program} {T E:TypeId}
theorem EqT.i64 (hT:P.underlying T=some (.int .i64)):EqT P T 1 Int:=fun d I x y cs ds w hx hy=>by
 obtain⟨rfl,_⟩:=hx
 obtain⟨rfl,_⟩:=hy
 exact a4p w d hT
theorem EqT.u64 (hT:P.underlying T=some (.int .u64)):EqT P T 1 UInt64:=fun d I x y cs ds w hx hy=>by
 obtain rfl:=hx
 obtain rfl:=hy
 refine(a4p w d hT).trans ?_
 congr 1
 rw [decide_eq_decide]
 exact⟨fun h=>UInt64.toNat_inj.1 (Int.ofNat_inj.1 h),fun h=>by rw [h]⟩
theorem EqT.str (hT:P.underlying T=some .string):EqT P T 1 Str:=fun d I x y cs ds w hx hy=>by
 obtain⟨⟨a,rfl,ha⟩,_⟩:=hx
 obtain⟨⟨b,rfl,hb⟩,_⟩:=hy
 refine(run_equalIn_string w d T a b hT).trans ?_
 rw [b7e ha hb]
inductive EqF (P:Program) (k:Nat):List Field→Nat→(β:Type)→(s:p9 β)→DecidableEq β→Prop
  | nil {off:Nat}:EqF P k [] off Unit inferInstance inferInstance
  | cons {f : Field} {fs : List Field} {off : Nat} {α β : Type} {r : p9 α} {s : p9 β} {d1 : DecidableEq α} {d2 : DecidableEq β} {dd : TypeDesc} (h1 : f.offset = off) (hn : (f.name ≠ "_") = true) (hT : P.underlying f.type = some dd) (ha : a0X dd = p9.agg α) (hz : D6 P f.type (p9.size α))
      (h2:EqT P f.type k α) (t:EqF P k fs (off+p9.size α) β s d2):EqF P k (f::fs) off (α×β) inferInstance inferInstance
theorem EqF.run {k : Nat} {fs : List Field} {off : Nat} {β : Type} {s : p9 β} {dec : DecidableEq β} (h : EqF P k fs off β s dec) : ∀ (d : Nat) (I : Im) (x y : β) (cs ds : List Value) (w : World), rep I x (cs.drop off) → rep I y (ds.drop off) →
    (Op.eqFields (d+k) cs.toArray ds.toArray fs).run P w = .ok (decide (x=y)) w:=by
  induction h with
  | nil=>intro d I x y cs ds w _ _;rfl
  | @cons f fs off α β r s d1 d2 dd h1 hn hT ha hz h2 t ih =>
    intro d I x y cs ds w hx hy
    obtain⟨c1,r1,e1,q1,q2⟩:=hx
    obtain⟨c2,r2,e2,q3,q4⟩:=hy
    have hp:∀ (zs c rr:List Value) (a:α),zs.drop off=c++rr→rep I a c→(part f.type zs.toArray f.offset).run P w = .ok (asV (p9.agg α) c) w:=fun zs c rr a e hc=>by
      have hl:=p9.len hc
      have hseg:I6 zs off (p9.size α)=c:=by rw [I6,e,←hl];simp
      obtain⟨g1,g2⟩:=a8b (P:=P) (cs:=zs) (off:=f.offset) hT hz w
      rw [h1] at g1 g2 ⊢
      cases hag:p9.agg α with
      | true =>
        rw [g1 (by rw [ha,hag]),hseg];rfl
      | false =>
        have hone:c.length=1:=by rw [hl];exact p9.one hag
        cases c with
        | nil=>simp at hone
        | cons v c =>
          have:c = []:=by simpa using hone
          subst this
          refine g2 v (by rw [ha,hag]) ?_
          have:(zs.drop off)[0]?=some v:=by rw [e];rfl
          simpa using this
    have hdrop:∀ (zs c rr:List Value) (a:α),zs.drop off=c++rr→rep I a c→zs.drop (off+p9.size α)=rr:=fun zs c rr a e hc=>by
      rw [←List.drop_drop,e,←p9.len hc];simp
    have hn':f.name ≠ "_" := by simpa using hn
    simp only [Op.eqFields,if_pos hn',Sem.run_bind,hp cs c1 r1 x.1 e1 q1,hp ds c2 r2 y.1 e2 q3,Result.andThen_ok,h2 d I x.1 y.1 c1 c2 w q1 q3]
    by_cases e:x.1=y.1
    · simp only [e,decide_true,Bool.not_true,Bool.false_eq_true,if_false]
      rw [ih d I x.2 y.2 cs ds w (by rw [hdrop cs c1 r1 x.1 e1 q1];exact q2) (by rw [hdrop ds c2 r2 y.1 e2 q3];exact q4)]
      congr 1
      rw [decide_eq_decide]
      exact⟨fun h=>Prod.ext e h,fun h=>by rw [h]⟩
    · simp only [e,decide_false,Bool.not_false,if_true,Sem.run_pure]
      congr 1
      symm
      rw [decide_eq_false_iff_not]
      exact fun h=>e (by rw [h])
theorem EqT.struct {S β:Type} [s:p9 β] [dS:DecidableEq S] {dec:DecidableEq β} {k:Nat} {fs:Array Field} (f:S→β) (hf:∀ a b,f a=f b→a=b) (hT0:P.underlying T=some (.struct fs)) (hp:P.stoodInHeld T=false) (h:EqF P k fs.toList 0 β s dec) : @EqT P T (k+1) S (p9.via f) dS:=by
 letI:p9 S:=p9.via f
 intro d I x y cs ds w hx hy
 have hfs:P.fieldsOf T=fs:=by unfold Program.fieldsOf;rw [hT0]
 have hT:P.underlying T=some (.struct (P.fieldsOf T)):=by rw [hfs];exact hT0
 have hx':rep I (f x) cs:=hx
 have hy':rep I (f y) ds:=hy
 refine(run_equalIn_struct w (d+k) T cs.toArray ds.toArray hT hp).trans ?_
 rw [hfs,h.run d I (f x) (f y) cs ds w (by simpa using hx') (by simpa using hy')]
 congr 1
 rw [decide_eq_decide]
 exact⟨hf _ _,fun h=>by rw [h]⟩
variable {N:Nat} {C:Ctx} {σ:y2} {H:j9} {K:AV→Prop} {d:Option Nat} {ty:TypeId} {ps:String} {af:Array Edge} {g:Option (Nat×Bool)} {x y:Operand} {T2:TypeId}
theorem j6.a2a {α : Type} {r : p9 α} {dd : DecidableEq α} {k0 : Nat} {a b : α} (he : EqT P T k0 α) (hk : Nat.ble k0 10000 = true) (hag : p9.agg α = true) (hg : P.eqGuardType P.depth T = false) (hx : F1 C σ H x (.v a)) (hy : F1 C σ H y (.v b)) (k : K (.v (decide (a = b)))) :
    j6 P N C ⟨d,.binOp .eql T x y T2,ty,ps,af,g⟩ σ H K :=
  .vk k (fun ρ I L hst => .mk ⟨[.bool (decide (a=b))],rfl,rfl⟩ fun ac w ha hm=>by
    obtain⟨u,h1,cs,h2,rfl⟩:=hx ρ I L hst
    obtain⟨v,h3,ds,h4,rfl⟩:=hy ρ I L hst
    have hke:10000 - k0+k0=10000:=by have:=Nat.le_of_ble_eq_true hk;omega
    have he':=he (10000 - k0) I a b cs ds w h2 h4
    rw [hke] at he'
    rw [hag] at he' h1 h3
    have h5:=run_eql_struct (P:=P) w T cs.toArray ds.toArray
    rw [show(Op.equalIn 10000 T (.agg cs.toArray) (.agg ds.toArray)).run P w=_ from he'] at h5
    have h1':ev ρ x=some (.agg cs.toArray):=h1
    have h3':ev ρ y=some (.agg ds.toArray):=h3
    simp only [execOp,ha.ev h1',ha.ev h3',Sem.run_bind,a9l w hg,h5,Result.andThen_ok,Sem.run_pure]
    rfl)
end Go.Ab
namespace Go.Proofs.YtmmclghiidoldaaGreatDoor
open Go.Ab Go.Mac
theorem X5:EqT Tryz.prog 97 2 j3 := .struct j3.f (fun a b h=>by cases a;cases b;simpa [j3.f] using h) Tryz.underlying97 (by kernel_rfl) (.cons rfl (by simp) Tryz.underlying3 rfl (.of (by kernel_rfl)) (.i64 Tryz.underlying3) (.cons rfl (by simp) Tryz.underlying77 rfl (.of (by kernel_rfl)) (.u64 Tryz.underlying77) (.cons rfl (by simp) Tryz.underlying3 rfl (.of (by kernel_rfl)) (.i64 Tryz.underlying3) (.cons rfl (by simp) Tryz.underlying3 rfl (.of (by kernel_rfl)) (.i64 Tryz.underlying3) (.cons rfl (by simp) Tryz.underlying9 rfl (.of (by kernel_rfl)) (.str Tryz.underlying9) (.cons rfl (by simp) Tryz.underlying3 rfl (.of (by kernel_rfl)) (.i64 Tryz.underlying3) .nil))))))
end Go.Proofs.YtmmclghiidoldaaGreatDoor
namespace Go.Ab
open Go.Fl Go.RowKit
open p9 (rep)
structure OF (α:Type) where
 E:TypeId
 l:List α
 own:Bool
instance {α:Type} [p9 α]:UB (OF α) where
 ub I w x X:=(x.own=false∧X = []∧H4 I (.v x.l) w)∨(x.own=true∧(E9.own x.E w x.l).a6b I X)
 mono hle h:=h.elim (fun h => .inl ⟨h.1,h.2.1,h.2.2.mono hle⟩) (fun h => .inr ⟨h.1,E9.mono hle h.2⟩)
theorem c1k {α:Type} [p9 α] {I J:Im} {w:Value} {x:OF α} {X:List (Nat×Obj)} (h:(E9.usr w x).a6b I X) (hle:Le I J) (hp:∀ p∈X,J p.1=some p.2):H4 J (.v x.l) w:=by
 rcases h with ⟨_,_,h⟩|⟨_,h⟩
 ·exact h.mono hle
 ·exact W0 h hle hp
section rules
variable {P:Program} {C:Ctx} {N:Nat} {σ:y2} {H:j9} {Q:Exit→y2→j9→Prop}
theorem L9.B2 {α:Type} {r:p9 α} (E:TypeId) {w:Value} {l:List α} {b:Bool} {c:Code} {F:Bool×E9→j9} (hH:y3 H (b,.fz w (.v l)) F) (k:L9 P C N c Q σ (F (b,.usr w (OF.mk E l false)))):L9 P C N c Q σ H:=fun ρ I L hs=>by
 obtain⟨i,X,h2,h3,h4⟩:=hH.get hs.heap
 have hset:L.set i X=L:=by
  obtain⟨hi,e⟩:=List.getElem?_eq_some_iff.1 h2
  rw [←e,List.set_getElem_self]
 have:=h4 I (b,.usr w (OF.mk E l false)) X (Le.refl I) ⟨.inl ⟨rfl,h3.1.1,h3.1.2⟩,h3.2⟩
 rw [hset] at this
 exact k ρ I L ⟨hs.env,this,hs.V5⟩
theorem L9.c0D {α:Type} {r:p9 α} {E:TypeId} {w:Value} {l:List α} {b:Bool} {c:Code} {F:Bool×E9→j9} (hH:y3 H (b,.own E w l) F) (k:L9 P C N c Q σ (F (b,.usr w (OF.mk E l true)))):L9 P C N c Q σ H:=fun ρ I L hs=>by
 obtain⟨i,X,h2,h3,h4⟩:=hH.get hs.heap
 have hset:L.set i X=L:=by
  obtain⟨hi,e⟩:=List.getElem?_eq_some_iff.1 h2
  rw [←e,List.set_getElem_self]
 have:=h4 I (b,.usr w (OF.mk E l true)) X (Le.refl I) ⟨.inr ⟨rfl,h3.1⟩,h3.2⟩
 rw [hset] at this
 exact k ρ I L ⟨hs.env,this,hs.V5⟩
theorem L9.c0E {α:Type} {r:p9 α} {w:Value} {s:OF α} (ho:s.own=true) {b:Bool} {c:Code} {F:Bool×E9→j9} (hH:y3 H (b,.usr w s) F) (k:L9 P C N c Q σ (F (b,.own s.E w s.l))):L9 P C N c Q σ H:=fun ρ I L hs=>by
 obtain⟨i,X,h2,h3,h4⟩:=hH.get hs.heap
 have hset:L.set i X=L:=by
  obtain⟨hi,e⟩:=List.getElem?_eq_some_iff.1 h2
  rw [←e,List.set_getElem_self]
 have h5:(E9.own s.E w s.l).a6b I X:=by
  rcases h3.1 with h|h
  ·rw [ho] at h;cases h.1
  ·exact h.2
 have:=h4 I (b,.own s.E w s.l) X (Le.refl I) ⟨h5,h3.2⟩
 rw [hset] at this
 exact k ρ I L ⟨hs.env,this,hs.V5⟩
theorem L9.c0F (hC:Ctx.Ok C) {α:Type} {r:p9 α} {w:Value} {s:OF α} {c:Code} {F:Bool×E9→j9} (hH:y3 H (true,.usr w s) F) (k:L9 P C N c Q σ (F (true,.fz w (.v s.l)))):L9 P C N c Q σ H:=fun ρ I L hs=>by
 obtain⟨i,X,h1,h2,h3⟩:=hH.get hs.heap
 refine .freeze i h1 (a5G hC h2) fun J hle hp=>k ρ J _ ⟨(hs.mono hle).env,h3 J _ [] hle ⟨⟨rfl,c1k h2.1 hle hp⟩,by simp⟩,hs.V5.trans hle⟩
end rules
theorem j6.c0G {P : Program} {C : Ctx} {N : Nat} {σ : y2} {H : j9} {K : AV → Prop} {d : Option Nat} {ty : TypeId} {ps : String} {af : Array Edge} {g : Option (Nat × Bool)} {x y : Operand} {T T2 : TypeId} {m n : UInt64}
    (hx:F1 C σ H x (.v m)) (hy:F1 C σ H y (.v n)) (k:K (.v (decide (m < n)))):j6 P N C ⟨d,.binOp .lss T x y T2,ty,ps,af,g⟩ σ H K :=
  .vk k (fun ρ I L hs => .lss (hx.a1W hs) (hy.a1W hs) ⟨_,rfl,by rw [b6Z];rfl⟩)
theorem F1.a9G {P:Program} {C:Ctx} {σ:y2} {H:j9} {G:Gl} {f:FuncId} (hG:G.p C.I0) {α β:Type} [p9 α] [p9 β] {g1:α→β} (h:∀ x:α,u1 G P f [.v x] (fun r=>r = .v (g1 x))):F1 C σ H (.func f) (.a8z P g1) :=
 show F1 C σ H (.func f) (.clo P (fun x:α => [.v x]) (fun x => .v (g1 x))) from F1.c3g hG h
theorem A6.b4T {P : Program} {C : Ctx} {N : Nat} {σ : y2} {H : j9} {KH : AV → j9 → Prop} {d : Option Nat} {ty : TypeId} {ps : String} {af : Array Edge} {g : Option (Nat × Bool)} {y : Operand} {T E U : TypeId} {α : Type} {r : p9 α} {i0 : Inhabited α} {by_ t : Nat} {w : Value} {l m : List α} {bb : Bool} {F : Bool × E9 → j9} (st : SlT P T E α by_) (hU : (∃ E2, P.underlying U = some (.slice E2)) ∨ P.underlying U = some .string) (hx : G4 σ t = some (.raw w))
    (hH:y3 H (bb,.own E w l) F) (hy:b0n P C σ H y m) (hb:(l.length+m.length)*by_≤140737488355328) (hn:l.length+m.length≤9223372036854775807) (k:∀ w',KH (.raw w') (F (bb,.own E w' (l++m)))) :
    A6 P C N ⟨d,.call ⟨.builtin .append,#[.tmp t,y],#[T,U]⟩,ty,ps,af,g⟩ σ H KH:=fun ρ I L hs=>by
  obtain⟨u,h1,rfl⟩:=hs.env t _ hx
  obtain⟨v,news,h2,h3,h4⟩:=hy ρ I L hs
  obtain⟨j,X,h5,h6,h7⟩:=hH.get hs.heap
  obtain⟨xs,h8,h9⟩:=h6.1
  intro a w0 ha hst
  refine Yld.mono (OpS.b4B (K:=fun v' J L'=>∃ X',L'=L.set j X'∧J=I∧a1V E (p9.size α) v' (l.length+m.length) (xs++news) X'∧(∀ p∈X',p.1∈X.map Prod.fst∨C.w0.heap.size≤p.1)) j st.elt st.pos hU (x := .tmp t) h1 h2 h5 h8 h3 h4.flat (by unfold maxLen;omega) hb (fun v' X' ho hn=>⟨X',rfl,rfl,ho,hn⟩) a w0 ha hst) ?_
  rintro v' w' ⟨J,L',hst',X',rfl,rfl,ho,hnew⟩
  refine⟨J,_,hst',Le.refl J,.raw v',_,rfl,h7 J (bb,.own E v' (l++m)) X' (Le.refl J) ⟨⟨xs++news,by rw [List.length_append];exact ho,h9.append h4⟩,fun hbb p hp => ?_⟩,k v'⟩
  rcases hnew p hp with h|h
  · obtain⟨q,hq,hqe⟩:=List.mem_map.1 h
    rw [←hqe];exact h6.2 hbb q hq
  · exact h
inductive Del:j9→j9→Prop
 | z {B:Bool×E9} {H:j9}:Del (B::H) H
 | s {A:Bool×E9} {H H':j9} (h:Del H H'):Del (A::H) (A::H')
theorem Del.get {n0:Nat} {I:Im} {H H':j9} (h:Del H H'):∀ {L:Lh},T5 n0 I H L→∃ X L',([X]++L':Lh).flatten.Perm L.flatten∧T5 n0 I H' L':=by
 induction h with
 | z =>
  rintro _ ⟨X,R,rfl,h1,h2⟩
  exact⟨X,R,.refl _,h2⟩
 | s h ih =>
  rintro _ ⟨X,R,rfl,h1,h2⟩
  obtain⟨Y,L',h3,h4⟩:=ih h2
  refine⟨Y,X::L',?_,X,L',a8,h1,h4⟩
  simp only [List.singleton_append,List.flatten_cons] at h3 ⊢
  refine(List.Perm.trans ?_ (List.Perm.append_left X h3))
  simp only [←List.append_assoc]
  exact List.Perm.append_right _ List.perm_append_comm
section del
variable {P:Program} {C:Ctx} {N:Nat} {σ:y2} {H H':j9} {Q:Exit→y2→j9→Prop}
theorem L9.del {c:Code} (hd:Del H H') (k:L9 P C N c Q σ H'):L9 P C N c Q σ H:=fun ρ I L hs a w ha hst=>by
 obtain⟨X,L',hp,hr⟩:=hd.get hs.heap
 exact(wpS.forget (X := [X]) (k ρ I L' ⟨hs.env,hr,hs.V5⟩)) a w ha (b7q hst hp)
end del
end Go.Ab
namespace Go.Fl
section scope
variable {P:Program} {b:Frame} {a:Act} {k:List Item} {cs:List Frame} {w:World}
theorem a0M {c:Code}:step P (lone (b.atR a (.code (.scope c)::k)) cs w) = .next (lone (b.atR a (.code c :: .inScope c::k)) cs w) :=
 step_lone_go (by simp [stepG,stepG.exec,Frame.atR])
theorem a9b {c:Code}:step P (lone (b.atR a (.inScope c::k)) cs w) = .next (lone (b.atR a k) cs w) :=
 step_lone_go (by simp [stepG,stepG.exec,Frame.atR])
theorem b1V {F:Fence} {n:Nat} {Q Q':Exit→Act→World→Prop} {c:Code} (h:c.wpIn F n P Q' a w) (hq:∀ e a w,Q' e a w→Q e a w∧∀ l,e ≠ .goto l):(Code.scope c).wpIn F n P Q a w:=by
 intro b k cs hro hb hr
 have h0:(lone (b.atR a (.code (.scope c)::k)) cs w).fenced P F:=fenced_calm hb hr rfl
 obtain⟨e,a₁,w₁,hq1,harr⟩:=h b (.inScope c::k) cs hro hb hr
 obtain⟨hq2,hq3⟩:=hq e a₁ w₁ hq1
 cases e with
 | normal=>exact⟨.normal,a₁,w₁,hq2,.head h0 a0M (StepsIn.trans harr (.one (fenced_calm hb hr rfl) a9b))⟩
 | exit id =>
  have hx:exitTo id (.inScope c::k)=exitTo id k:=by simp [exitTo]
  exact⟨.exit id,a₁,w₁,hq2,fun k' hk => .head h0 a0M (harr.1 k' (by rw [hx];exact hk)),
   fun hr' hk=>let ⟨k₁,h1,h2⟩:=harr.2 hr' (by rw [hx];exact hk);⟨k₁,h1,.head h0 a0M h2⟩⟩
 | goto l=>exact absurd rfl (hq3 l)
 | ret=>exact⟨_,a₁,w₁,hq2,.of_steps (.one h0 a0M) harr⟩
 | panic ch=>exact⟨_,a₁,w₁,hq2,.of_steps (.one h0 a0M) harr⟩
 | outgrown=>exact⟨_,a₁,w₁,hq2,.of_steps (.one h0 a0M) harr⟩
end scope
end Go.Fl
namespace Go.Ab
open Go.Fl Go.RowKit
@[reducible] def c3p (Q:Exit→y2→j9→Prop):Exit→y2→j9→Prop
 | .goto _,_,_=>False
 | e,σ,H=>Q e σ H
theorem L9.scope {P:Program} {C:Ctx} {N:Nat} {σ:y2} {H:j9} {Q:Exit→y2→j9→Prop} {c:Code} (k:L9 P C N c (c3p Q) σ H):L9 P C N (.scope c) Q σ H:=fun ρ I L hs a w ha hst=>by
 refine b1V (k ρ I L hs a w ha hst) ?_
 rintro e a w ⟨ρ,I,L,h1,h2,σ,H,h3,h4⟩
 cases e with
 | goto l=>exact h4.elim
 | _=>exact⟨⟨ρ,I,L,h1,h2,σ,H,h3,h4⟩,fun l h=>by cases h⟩
theorem L9.label {P:Program} {C:Ctx} {N:Nat} {σ:y2} {H:j9} {Q:Exit→y2→j9→Prop} {l:Nat} (h:Q .normal σ H):L9 P C N (.label l) Q σ H:=fun ρ I L hs a w ha hst =>
 wpIn_label ⟨ρ,I,L,ha,hst,σ,H,hs,h⟩
def b7H (P:Program) (N:Nat) (C:Ctx) (σ0:y2) (H:j9) (acc:List (Nat×AV)) (o:Oper) (s:List (Nat×Nat)) (r:AV):Prop :=
  match o.guard with
  | none=>j6 P N C o (D8 σ0 acc s (C3 o)) H (fun r'=>r'=r)
  | some (g, want) => (∃ b c, p4 acc g = some (.v b) ∧ r = .a7N (b == want) c ∧ (b = want → j6 P N C o (D8 σ0 acc s (C3 o)) H (fun r' => r' = c))) ∨
      (∃ b c0 c,p4 acc g=some (.a7N c0 (.v b))∧r = .a7N (c0&&(b == want)) c∧(c0=true→b=want→j6 P N C o (D8 σ0 acc s (C3 o)) H (fun r'=>r'=c)))
def b3x (P:Program) (N:Nat) (C:Ctx) (σ0:y2) (H:j9) (F:List (Nat×AV)→Prop):List Oper→List (List (Nat×Nat))→Nat→List (Nat×AV)→Prop
 | [],_,_,acc=>F acc
 | o::os,s::ss,k,acc=>∃ r,b7H P N C σ0 H acc o s r∧b3x P N C σ0 H F os ss (k+1) ((k,r)::acc)
 | _,[],_,_=>False
theorem b7I {P : Program} {N : Nat} {C : Ctx} {ops : Array Oper} {σ0 : y2} {H : j9} {acc : List (Nat × AV)} {ρ0 : Env} {I : Im} {L : Lh} {o : Oper} {s : List (Nat × Nat)} {r : AV} (hs : Y2 C I L σ0 H ρ0)
    (h:b7H P N C σ0 H acc o s r):a5w P N ops (R1 (a4w acc)) ρ0 I L o s (a2y r):=by
  intro J hle ρ
  refine a7W hs hle _ _ fun henv => ?_
  have hR:Y2 C J L (D8 σ0 acc s (C3 o)) H ρ:=⟨henv,hs.heap.mono hle,hs.V5.trans hle⟩
  unfold b7H at h
  cases hg:o.guard with
  | none =>
    simp only [hg] at h
    exact OpX.a2x (h ρ J L hR) fun v J' X _ ⟨h1,r',h2,h3⟩=>⟨h1,h3▸h2⟩
  | some p =>
    obtain⟨g,want⟩:=p
    simp only [hg] at h
    intro v hv
    rcases h with ⟨b,c,h1,rfl,h2⟩|⟨b,c0,c,h1,rfl,h2⟩
    · rw [a0L,h1] at hv
      simp only [Option.map_some,a2y,Fl.Spec.holds] at hv
      obtain⟨cs,rfl,rfl⟩:=hv
      refine⟨fun e => ?_,fun hne=>⟨?_,fun o e=>by cases e⟩⟩
      · have e':b=want:=by simpa [asV,p9.agg] using e
        exact OpX.a2x (h2 e' ρ J L hR) fun v J' X _ ⟨h3,r',h4,h5⟩=>⟨h3,⟨fun _=>h5▸h4,fun hc=>absurd e' (by simpa using hc)⟩⟩
      · have hb:b≠want:=hne b rfl
        exact⟨fun hc=>absurd (by simpa using hc) hb,fun _=>a8⟩
    · rw [a0L,h1] at hv
      simp only [Option.map_some,a2y,Fl.Spec.holds] at hv
      obtain⟨hv1,hv2⟩:=hv
      cases c0 with
      | false =>
        obtain rfl:=hv2 rfl
        exact⟨fun e=>(by cases e),fun _=>⟨⟨fun hc=>(by simp at hc),fun _=>a8⟩,fun o e=>(by cases e)⟩⟩
      | true =>
        obtain⟨cs,rfl,rfl⟩:=hv1 rfl
        refine⟨fun e => ?_,fun hne=>⟨?_,fun o e=>by cases e⟩⟩
        · have e':b=want:=by simpa [asV,p9.agg] using e
          exact OpX.a2x (h2 rfl e' ρ J L hR) fun v J' X _ ⟨h3,r',h4,h5⟩=>⟨h3,⟨fun _=>h5▸h4,fun hc=>absurd e' (by simpa using hc)⟩⟩
        · have hb:b≠want:=hne b rfl
          exact⟨fun hc=>absurd (by simpa using hc) hb,fun _=>a8⟩
theorem a9H {P : Program} {N : Nat} {C : Ctx} {ops : Array Oper} {σ0 : y2} {H : j9} {ρ0 : Env} {I : Im} {L : Lh} {F : List (Nat × AV) → Prop} {F' : List (Nat × Fl.Spec) → Prop} (hs : Y2 C I L σ0 H ρ0) :
    ∀ (os:List Oper) (ss:List (List (Nat×Nat))) (k:Nat) (acc:List (Nat×AV)),(∀ i,i < k→(p4 acc i).isSome)→b3x P N C σ0 H F os ss k acc →
      (∀ acc',(∀ i,i < k+os.length→(p4 acc' i).isSome)→F acc'→F' (a4w acc'))→chain P N ops ρ0 I L F' os ss k (a4w acc)
  | [],ss,k,acc,hk,h,hF=>by
    have hc:F acc:=by cases ss<;>exact h
    cases ss<;>exact hF acc (by simpa using hk) hc
  | o::os,[],k,acc,_,h,_=>h.elim
  | o::os,s::ss,k,acc,hk,h,hF=>by
    obtain⟨r,h1,h2⟩:=h
    refine⟨a2y r,b7I hs h1,a9H hs os ss (k+1) ((k,r)::acc) (fun i hi => ?_) h2 (fun acc' h3=>hF acc' (fun i hi=>h3 i (by simp only [List.length_cons] at hi;omega)))⟩
    simp only [p4]
    by_cases e:k=i
    · subst e;simp
    · rw [a4i e];exact hk i (by omega)
section b7J
variable {P:Program} {C:Ctx} {N:Nat} {Q:Exit→y2→j9→Prop} {σ:y2} {H:j9}
theorem L9.b7J {id : Nat} {l : List Oper} (hm : P.follows .mixedOrders = true) (n : Nat) (ss : List (List (Nat × Nat)))
    (hN:M3 N l=true) (hB:a9h l.toArray n ss=true) (hss:Nat.ble n ss.length=true)
    (hch:b3x P N C σ H (fun acc=>F8 P C N l.toArray Q (l.drop n) (a17 acc (l.take n) 0 σ) H) (l.take n) ss 0 []) :
    L9 P C N (.region id l.toArray true) Q σ H:=fun ρ I L hs=>by
  refine .draw hm n ss hN hB hss ?_
  refine a9H (acc := []) (F:=_) hs _ _ 0 (fun i hi=>by omega) hch fun acc hacc hF J hle => ?_
  refine b0l (l.take n) 0 σ ρ L (hs.mono hle) (fun i o ho => ?_) (fun ρ' h'=>hF ρ' J L h')
  have hi:i < n:=by
    have:=(List.getElem?_eq_some_iff.1 ho).1
    simp at this;omega
  obtain⟨o',d,h1,h2⟩:=a9w hB hi
  have:o'=o:=by
    rw [List.getElem?_take,if_pos hi] at ho
    have h1':l[i]?=some o':=by simpa using h1
    rw [h1'] at ho;exact Option.some.inj ho
  subst this
  have hlen:i < (l.take n).length:=(List.getElem?_eq_some_iff.1 ho).1
  obtain⟨r,hr⟩:=Option.isSome_iff_exists.1 (hacc i (by omega))
  exact⟨d,r,h2,by simpa using hr⟩
end b7J
theorem j6.c2w {P : Program} {C : Ctx} {N : Nat} {σ : y2} {H : j9} {K : AV → Prop} {d : Option Nat} {ty : TypeId} {ps : String} {af : Array Edge} {g : Option (Nat × Bool)} {x y : Operand} {T E : TypeId} {α : Type} {r : p9 α} {i : Inhabited α} {l : List α} {n : Int}
    (tE:H9 P E α) (hT:P.underlying T=some (.slice E)) (hx:F1 C σ H x (.v l)) (hy:F1 C σ H y (.v n)) (h0:0≤n) (h1:n < l.length) (k:K (.p (l.getD n.toNat default))):j6 P N C ⟨d,.indexAddr T x y,ty,ps,af,g⟩ σ H K :=
  .idx tE hT hx hy h0 h1 (by
    have e:l.getD n.toNat default=l[n.toNat]'(by omega):=by rw [List.getD_eq_getElem?_getD,List.getElem?_eq_getElem (by omega)];rfl
    rw [←e];exact k)
theorem j6.a2q {P:Program} {N:Nat} {C:Ctx} {σ:y2} {H:j9} {K:AV→Prop} {d:Option Nat} {ty:TypeId} {ps:String} {af:Array Edge} {g:Option (Nat×Bool)} {x y:Operand} {T T2:TypeId} {m c:UInt64} (hx:F1 C σ H x (.v m)) (hy:F1 C σ H y (.v c)) (h0:0≤c.toNat) (h1:c.toNat < 64) (k:K (.v (m <<< c))):j6 P N C ⟨d,.binOp .shl T x y T2,ty,ps,af,g⟩ σ H K :=
 .vk k (fun ρ I L hs=>I9.a2q c.toNat (hx.a1W hs) (hy.a1W hs) rfl h1 ⟨[Fl.u64 (m <<< c)],rfl,by rw [UInt64.ofNat_toNat];rfl⟩)
theorem j6.b6E {P:Program} {N:Nat} {C:Ctx} {σ:y2} {H:j9} {K:AV→Prop} {d:Option Nat} {ty:TypeId} {ps:String} {af:Array Edge} {g:Option (Nat×Bool)} {x:Operand} {T:TypeId} {m:UInt64} (hx:F1 C σ H x (.v m)) (k:K (.v (~~~m))):j6 P N C ⟨d,.unOp .xor T x,ty,ps,af,g⟩ σ H K :=
 .vk k (fun ρ I L hs=>I9.b6E (hx.a1W hs) ⟨[Fl.u64 (~~~m)],rfl,rfl⟩)
end Go.Ab
