/- Plain Lean over any program, and walks of this seat's functions: contracts, each proved once (part 6). -/
import Derived.Test.YtmmclghiidoldaaGreatDoorZ5
set_option maxRecDepth 1000000
set_option linter.unusedVariables false
set_option linter.unusedSimpArgs false
namespace Go.Proofs.YtmmclghiidoldaaGreatDoor
open Go.Fl Go.Ab Go.Mac Go.Sha
theorem a66 (b:List UInt8) (l:List Int) (hb:b.length≤600000) (hl:0 < l.length) (hl2:l.length≤1000) (h:∀ n∈l,0≤n∧n≤281474976710656):G5 gl Tryz.prog 154 [.v b,.v l] [] (fun r Hs=>∃ u,r = .raw u∧Hs = [.own 5 u (b++numsL l)]):=by
 refine G5.T9 Tryz.func154 rfl (by kernel_rfl) 21 rfl rfl _ rfl _ rfl fun C hC hG=>(.sr rfl (.p (.assign (.K4 (α:=UInt8)) (.nil (.seq (.seq (.name 0 rfl fun w0=>(.B2 5 .z (.region rfl (.mv rfl (.p (.len Tryz.underlying33 (.t rfl) (.p (.move (.i rfl) (.nil (.block (.F4 (α:=Nat×Value×List UInt8×Bool) [(7,_),(8,_)] (fun x R=>(0,.raw x.2.1)::(9,.v (x.1:Int))::R) (fun x => [(true,.usr x.2.1 (OF.mk 5 x.2.2.1 x.2.2.2))]) (fun x=>x.1≤l.length∧x.2.2.1=b++numsL (l.take x.1)∧(0 < x.1→x.2.2.2=true)) (fun x=>l.length - x.1) ((0,w0,b,false)) (.c2 rfl rfl (.nil _)) ?_ (.c2 rfl rfl (.c2 rfl rfl (.nil _))) (rfl) fun x hF => ?_)))))))))))))))))
 ·exact⟨Nat.zero_le _,by simp [numsL],by simp⟩
 obtain⟨k,w,c,o⟩:=x
 obtain⟨h1,h2,h3⟩:=hF
 dsimp only at h1 h2 h3 ⊢
 have hlen9:=a1A (l.take k) (fun n hn=>h n (List.mem_of_mem_take hn))
 have hc9:c.length≤607000:=(by rw [h2,List.length_append];have:(l.take k).length≤l.length:=(by simp;omega);omega)
 refine .sr a8 (.p (.lss (.t a8) (.t a8) (.nil (.seq (.o8 (.t a8) (fun hc10 => ?_) (fun hc10 => ?_))))))
 ·refine .skip (.seq (.block (.sr a8 (.p (.idx D0 Tryz.underlying33 (.t a8) (.t a8) (by omega) (by omega) (.p (.x3 D0 (.t a8) (.ag a8 (.nil (.c0F hC .z (.as 0 a8 .z (.drop (.region a8 (.mv a8 (.mv a8 (.h (.a02 hG (a1y _ _ (by simp;omega) (h _ (List.getElem_mem _)).1 (h _ (List.getElem_mem _)).2) (.cons (.t a8) (.cons (.t a8) .nil)) fun r16 Hs16 hr16 => ?_)))))))))))))))))
  obtain⟨u16,rfl,rfl⟩:=hr16
  show F8 _ _ _ _ _ _ _ ((true,_)::_)
  refine .mv a8 (.p (.E5 (.t a8) (.p (.E6 (.t a8) (.ag a8 (.nil (.c0D .z (.region a8 (.p (.add (.t a8) (.i a8) (by omega) (by omega) (.mv a8 (.nil ?_))))))))))))
  refine⟨(k+1,u16,_,true),.c2 rfl rfl (.c2 rfl rfl (.nil _)),rfl,?_,by dsimp only;omega⟩
  exact⟨by dsimp only;omega,by dsimp only;rw [a5P l k (by omega),←List.append_assoc,←h2];rfl,fun _=>rfl⟩
 ·refine .exit (.seq (.c0E (h3 (by omega)) .z (.region a8 (.mv a8 (.ag a8 (.nil (.ret ?_)))))))
  refine⟨_,.r1 a8 (.tmp a8),?_⟩
  refine⟨_,.cons .z (.nil),?_⟩
  exact⟨_,rfl,by rw [h2,List.take_of_length_le (by omega)]⟩
theorem b3T (u:Value) (b:List UInt8) (l:List Pred) (hb:b.length≤600000) (hl:l.length≤8) (h:∀ p∈l,A5 p=true):G5 gl Tryz.prog 157 [.raw u,.v l] [.own 5 u b] (fun r Hs=>∃ w,r = .raw w∧Hs = [.own 5 w (b++S5 u4 l)]):=by
 refine G5.T9 Tryz.func157 rfl (by kernel_rfl) 25 rfl rfl _ rfl _ rfl fun C hC hG=>(.sr rfl (.p (.assign (.K4 (α:=UInt8)) (.nil (.seq (.sr rfl (.mv rfl (.p (.len Tryz.underlying83 (.t rfl) (.p (.move (.i rfl) (.nil (.block (.F4 (α:=Nat×Value) [(9,_),(10,_)] (fun x R=>(0,.raw x.2)::(11,.v (x.1:Int))::R) (fun x => [(false,.own 5 x.2 (b++S5 u4 (l.take x.1)))]) (fun x=>x.1≤l.length) (fun x=>l.length - x.1) ((0,u)) (.c2 rfl rfl (.nil _)) ?_ (.c2 rfl rfl (.c2 rfl rfl (.nil _))) (congrArg (fun q => [(false,E9.own _ _ q)]) (by simp [S5])) fun x hF => ?_))))))))))))))
 ·simp
 obtain⟨k,w⟩:=x
 dsimp only at hF ⊢
 have hcl:=a2n u4 l 24 k (fun p hp=>I5 (L6 (h p hp)))
 refine .sr a8 (.p (.lss (.t a8) (.t a8) (.nil (.seq (.o8 (.t a8) (fun hc12 => ?_) (fun hc12 => ?_))))))
 ·refine .skip (.seq (.block (.sr a8 (.p (.idx A7 Tryz.underlying83 (.t a8) (.t a8) (by omega) (by omega) (.p (.x3 A7 (.t a8) (.h (.alloc A7 fun b6 => .n (.C8 A7 (.t a8) (.t a8) .z (.nil (.seq (.B0 hC .z (.Q5 6 a8 .z (.drop (.region a8 (.p (.x3 A7 (.t a8) (.p (.m9 hG (a60 _) (.cons (.t a8) .nil) (.mv a8 (.p (.E5 (.t a8) (.p (.E6 (.t a8) (.ag a8 (.ag a8 (.nil ?_))))))))))))))))))))))))))))
  have hpo:=h l[k] (List.getElem_mem _)
  have hpl:=a14 l[k]
  refine .region a8 (.mv a8 (.mv a8 (.h (.b4T F5 (.inl ⟨_,Tryz.underlying86⟩) a8 .z (.v (.t a8)) (by simp;omega) (by simp;omega) fun w22 => .ag a8 (.nil (.region a8 (.p (.add (.t a8) (.i a8) (by omega) (by omega) (.mv a8 (.nil ?_))))))))))
  refine⟨(k+1,_),.c2 rfl rfl (.c2 rfl rfl (.nil _)),congrArg (fun q => [(false,E9.own _ _ q)]) (by show b++S5 u4 (l.take k)++(U3 l[k]).1=b++S5 u4 (l.take (k+1));rw [a1B u4 l k (by omega),x8 hpo];simp),?_,by dsimp only;omega⟩
  omega
 ·refine .exit (.sr a8 (.mv a8 (.ag a8 (.nil (.ret ?_)))))
  refine⟨_,.r1 a8 (.tmp a8),?_⟩
  refine⟨_,.cons .z (.nil),?_⟩
  exact⟨_,rfl,by rw [List.take_of_length_le (by omega)]⟩
theorem b6g (u:Value) (b:List UInt8) (l:List Cav) (hb:b.length≤600000) (hl:l.length≤64) (h:∀ c∈l,H7 c=true):G5 gl Tryz.prog 155 [.raw u,.v l] [.own 5 u b] (fun r Hs=>∃ w,r = .raw w∧Hs = [.own 5 w (b++S5 D7 l)]):=by
 refine G5.T9 Tryz.func155 rfl (by kernel_rfl) 25 rfl rfl _ rfl _ rfl fun C hC hG=>(.sr rfl (.p (.assign (.K4 (α:=UInt8)) (.nil (.seq (.sr rfl (.mv rfl (.p (.len Tryz.underlying24 (.t rfl) (.p (.move (.i rfl) (.nil (.block (.F4 (α:=Nat×Value) [(9,_),(10,_)] (fun x R=>(0,.raw x.2)::(11,.v (x.1:Int))::R) (fun x => [(false,.own 5 x.2 (b++S5 D7 (l.take x.1)))]) (fun x=>x.1≤l.length) (fun x=>l.length - x.1) ((0,u)) (.c2 rfl rfl (.nil _)) ?_ (.c2 rfl rfl (.c2 rfl rfl (.nil _))) (congrArg (fun q => [(false,E9.own _ _ q)]) (by simp [S5])) fun x hF => ?_))))))))))))))
 ·simp
 obtain⟨k,w⟩:=x
 dsimp only at hF ⊢
 have hcl:=a2n D7 l 2100 k (fun p hp=>a2i (h p hp))
 refine .sr a8 (.p (.lss (.t a8) (.t a8) (.nil (.seq (.o8 (.t a8) (fun hc12 => ?_) (fun hc12 => ?_))))))
 ·refine .skip (.seq (.block (.sr a8 (.p (.idx T7 Tryz.underlying24 (.t a8) (.t a8) (by omega) (by omega) (.p (.x3 T7 (.t a8) (.h (.alloc T7 fun b6 => .n (.C8 T7 (.t a8) (.t a8) .z (.nil (.seq (.B0 hC .z (.Q5 6 a8 .z (.drop (.region a8 (.p (.x3 T7 (.t a8) (.p (.m9 hG (b2e _) (.cons (.t a8) .nil) (.mv a8 (.p (.E5 (.t a8) (.p (.E6 (.t a8) (.ag a8 (.ag a8 (.nil ?_))))))))))))))))))))))))))))
  have hco:=h l[k] (List.getElem_mem _)
  have hcl2:=a36 l[k]
  refine .region a8 (.mv a8 (.mv a8 (.h (.b4T F5 (.inl ⟨_,Tryz.underlying86⟩) a8 .z (.v (.t a8)) (by simp;omega) (by simp;omega) fun w22 => .ag a8 (.nil (.region a8 (.p (.add (.t a8) (.i a8) (by omega) (by omega) (.mv a8 (.nil ?_))))))))))
  refine⟨(k+1,_),.c2 rfl rfl (.c2 rfl rfl (.nil _)),congrArg (fun q => [(false,E9.own _ _ q)]) (by show b++S5 D7 (l.take k)++(W3 l[k]).1=b++S5 D7 (l.take (k+1));rw [a1B D7 l k (by omega),a1F hco];simp),?_,by dsimp only;omega⟩
  omega
 ·refine .exit (.sr a8 (.mv a8 (.ag a8 (.nil (.ret ?_)))))
  refine⟨_,.r1 a8 (.tmp a8),?_⟩
  refine⟨_,.cons .z (.nil),?_⟩
  exact⟨_,rfl,by rw [List.take_of_length_le (by omega)]⟩
def a27 (b:Y0):List UInt8:=numsL [1,b.Request.Gate,b.Request.E3,b.C9,b.y7,b.l9.length]++S5 D7 b.l9++b.Proof.l
structure c1u (b:Y0):Prop where
 nums:∀ n ∈ [1,b.Request.Gate,b.Request.E3,b.C9,b.y7,(b.l9.length:Int)],0≤n∧n≤281474976710656
 l0:(numsL [1,b.Request.Gate,b.Request.E3,b.C9,b.y7,b.l9.length]).length≤42
 l1:(S5 D7 b.l9).length≤134400
 l2:(a27 b).length≤134474
theorem b8j {b:Y0} (h:a9L b):c1u b:=by
 have h1:=h.rq
 have h2:=h.num
 have h3:=h.a4M
 have hn:∀ n ∈ [1,b.Request.Gate,b.Request.E3,b.C9,b.y7,(b.l9.length:Int)],0≤n∧n≤281474976710656:=by simp;omega
 have l0:=a1A _ hn
 have l1:=a13 D7 b.l9 2100 fun c hc=>a2i (h.cav c hc)
 have l1':(S5 D7 b.l9).length≤134400:=by omega
 exact⟨hn,l0,l1',by unfold a27;rw [List.length_append,List.length_append,J7.len];simp only [List.length_cons,List.length_nil] at l0;omega⟩
structure c2E (d:Bnd):Prop where
 a7P:d.l8.length≤8
 tick:1≤d.j8.length∧d.j8.length≤1024
 con:∀ p∈d.l8,A5 p=true
 len:(L7 d).length≤1400
 lf:(a0n d.j8).length≤1031
 ln:(K5 d.l8.length).length≤7
 lt:(K5 d.j8.length).length≤7
theorem b4Y {b:Y0} (h:a9L b) {d:Bnd} (hd:d∈b.j4):c2E d :=
 ⟨h.a7P d hd,h.tick d hd,h.con d hd,b0H (h.a7P d hd) (h.tick d hd).2 (h.con d hd),a1C (h.tick d hd).2,A8 (by have:=h.a7P d hd;omega),A8 (by have:=h.tick d hd;omega)⟩
theorem b6h (b:Y0) (h:a9L b):u1 gl Tryz.prog 88 [.v b] (fun r=>r = .v (a1c b)):=by
 have hh:=b8j h
 have hnd:=h.c2z
 refine u1.intro Tryz.func88 rfl (by kernel_rfl) 63 rfl rfl _ rfl fun C hC hG=>(.sr rfl (.h (.box (.t rfl) fun b1 => .p (.assign (.K4 (α:=UInt8)) (.nil (.seq (.B0 hC .z (.Q5 1 rfl .z (.region rfl (.p (.m0 m6.l0 (fun x=>x.Request) a3O rfl (fun _=>rfl) (.t rfl) (.p (.m0 p7.l0 (fun x=>x.Gate) a4q rfl (fun _=>rfl) (.t rfl) (.p (.x3 D0 (.t rfl) (.p (.m0 m6.l0 (fun x=>x.Request) a3O rfl (fun _=>rfl) (.t rfl) (.p (.m0 p7.l1 (fun x=>x.E3) a3N rfl (fun _=>rfl) (.t rfl) (.p (.x3 D0 (.t rfl) (.p (.m0 m6.l1 (fun x=>x.C9) a5B rfl (fun _=>rfl) (.t rfl) (.p (.x3 D0 (.t rfl) (.p (.m0 m6.l2 (fun x=>x.y7) a5C rfl (fun _=>rfl) (.t rfl) (.p (.x3 D0 (.t rfl) (.p (.m0 m6.l3 (fun x=>x.l9) a0m rfl (fun _=>rfl) (.t rfl) (.p (.x3 a3f (.t rfl) (.p (.len Tryz.underlying24 (.t rfl) (.h (.buildSlice (α:=Int) D0 Tryz.underlying33 (.cons (.i rfl) (.cons (.t rfl) (.cons (.t rfl) (.cons (.t rfl) (.cons (.t rfl) (.cons (.t rfl) .nil)))))) rfl (by decide) fun b19=>(.y0 hC .z (.as 19 rfl .z (.h (.a02 hG (a66 _ _ (by decide) (by simp) (by simp) hh.nums) (.cons .K4 (.cons (.t rfl) .nil)) fun r20 Hs20 hr20 => ?_)))))))))))))))))))))))))))))))))))))))))
 obtain⟨u20,rfl,rfl⟩:=hr20
 show F8 _ _ _ _ _ _ _ ((true,_)::_)
 refine .ag a8 (.nil (.seq ?_))
 have hq0:=hh.l0
 have hq1:=hh.l1
 refine .E7 [j0,j1,j1] (by kernel_rfl) 8 [[],[],[(22,1)],[(21,0),(23,2)],[],[(25,4)],[(24,3),(26,5)],[(27,6)]] [3,6,7] a8 (by kernel_rfl) a8 (by kernel_rfl) (by decide) ?_
 refine⟨_,fun H=>j6.move (.t a8) a8,?_⟩
 refine⟨_,fun H=>j6.m0 m6.l3 (fun x=>x.l9) a0m a8 (fun _=>a8) (.t a8) a8,?_⟩
 refine⟨_,fun H=>j6.x3 a3f (.t a8) a8,?_⟩
 refine .inl ?_
 refine⟨_,fun H=>j6.m0 m6.l4 (fun x=>x.Proof) a94 a8 (fun _=>a8) (.t a8) a8,?_⟩
 refine⟨_,fun H=>j6.P5 (by decide) O7 (.t a8) a8,?_⟩
 refine .inl (.inl ?_)
 refine⟨⟨([],j2 [_,c8,c8]),a8⟩,?_⟩
 refine A6.D3 hG (b6g _ _ _ (by simp;have:=hh.l0;simp at *;omega) h.a4M h.cav) .z (.cons (.t rfl) (.cons (.t rfl) .nil)) (by rintro _ _ ⟨_,_,rfl⟩;exact⟨_,rfl⟩) fun r24 B24 hr24 => ?_
 obtain⟨u24,rfl,hB⟩:=hr24
 cases hB
 refine⟨⟨([],j2 [_,c8,c8]),a8⟩,?_⟩
 refine A6.append F5 (.inl ⟨_,Tryz.underlying86⟩) rfl .z (.v (.t rfl)) (by simp;omega) (by simp;omega) (fun w27 => ?_) rfl
 refine⟨⟨([],j2 [_,c8,c8]),a8⟩,?_⟩
 refine A6.ofP (j6.assign (.t rfl) ?_)
 refine⟨⟨([],j2 [_,c8,c8]),a8⟩,?_⟩
 show F8 _ _ _ _ _ _ ((3,_)::(27,_)::(26,_)::(25,_)::(24,_)::(23,_)::(22,_)::(21,_)::_) _
 refine .nil (.seq (.y0 hC .z (.as 3 a8 .z (.region a8 (.mv a8 (.p (.m0 m6.l5 (fun x=>x.j4) R6 a8 (fun _=>a8) (.t a8) (.p (.x3 a3w (.t a8) (.p (.len Tryz.underlying27 (.t a8) (.h (.buildSlice (α:=Int) D0 Tryz.underlying33 (.cons (.t a8) .nil) a8 (by decide) fun b32=>(.y0 hC .z (.as 32 a8 .z (.h (.a02 hG (a66 _ _ (by simp;omega) (by simp) (by simp) (by simp;omega)) (.cons (.t a8) (.cons (.t a8) .nil)) fun r33 Hs33 hr33 => ?_)))))))))))))))))
 obtain⟨u33,rfl,rfl⟩:=hr33
 show F8 _ _ _ _ _ _ _ ((true,_)::_)
 refine .ag a8 (.nil (.seq (.seq (.del (.s .z) (.del (.s .z) (.del (.s .z) (.del (.s .z) (.region a8 (.p (.m0 m6.l5 (fun x=>x.j4) R6 a8 (fun _=>a8) (.t a8) (.p (.x3 a3w (.t a8) (.p (.len Tryz.underlying27 (.t a8) (.p (.move (.i a8) (.nil (.block (.F4 (α:=Nat×Value) [(35,_),(36,_)] (fun x R=>(3,.raw x.2)::(37,.v (x.1:Int))::R) (fun x => [(true,.own 5 x.2 (a27 b++K5 b.j4.length++S5 L7 (b.j4.take x.1)))]) (fun x=>x.1≤b.j4.length) (fun x=>b.j4.length - x.1) ((0,u33)) (.c2 a8 a8 (.nil _)) ?_ (.c2 a8 a8 (.c2 a8 a8 (.nil _))) (congrArg (fun q => [(true,E9.own _ _ q)]) (by simp [a27,numsL,S5])) fun x hF => ?_)))))))))))))))))))
 ·simp
 obtain⟨k,w⟩:=x
 dsimp only at hF ⊢
 have hcl:=a2n L7 b.j4 1400 k (fun d hd=>(b4Y h hd).len)
 refine .sr a8 (.p (.lss (.t a8) (.t a8) (.nil (.seq (.o8 (.t a8) (fun hc38 => ?_) (fun hc38 => ?_))))))
 ·refine .skip (.seq (.block (.sr a8 (.p (.idx P8 Tryz.underlying27 (.t a8) (.t a8) (by omega) (by omega) (.p (.x3 P8 (.t a8) (.h (.alloc P8 fun b5 => .n (.C8 P8 (.t a8) (.t a8) .z (.nil (.seq ?_))))))))))))
  have hdd:=b4Y h (List.getElem_mem (show k < b.j4.length by omega))
  have hh2:=hh.l2
  have q1:=hdd.a7P
  have q2:=hdd.tick
  have q3:=hdd.lt
  have q4:=hdd.ln
  have q6:(numsL [(b.j4[k].l8.length:Int)]).length≤7:=a1A [_] (by simp;omega)
  have q5:=a13 u4 b.j4[k].l8 24 (fun p hp=>I5 (L6 (hdd.con p hp)))
  have hnl:=A8 (n:=b.j4.length) (by omega)
  refine .B0 hC .z (.Q5 5 a8 .z (.y0 hC .z1 (.as 3 a8 .z1 (.del .z (.del .z (.region a8 (.mv a8 (.p (.m0 p5.l0 (fun x=>x.j8) a0Z a8 (fun _=>a8) (.t a8) (.p (.x3 P1 (.t a8) (.h (.a02 hG (a9F _ _ (by simp;omega) hdd.tick.2) (.cons (.t a8) (.cons (.t a8) .nil)) fun r45 Hs45 hr45 => ?_)))))))))))))
  obtain⟨u45,rfl,rfl⟩:=hr45
  show F8 _ _ _ _ _ _ _ ((true,_)::_)
  refine .mv a8 (.p (.E5 (.t a8) (.p (.E6 (.t a8) (.ag a8 (.nil (.seq (.y0 hC .z (.as 3 a8 .z (.del .z (.a7l (by kernel_rfl) 10 [[],[],[(49,1)],[(50,2)],[(51,3)],[(48,0),(52,4)],[],[(54,6)],[(53,5),(55,7)],[(56,8)]] [4,5,8,9] a8 (by kernel_rfl) a8 (by kernel_rfl) (by decide) ?_)))))))))))
  refine⟨_,fun H=>j6.move (.t a8) a8,?_⟩
  refine⟨_,fun H=>j6.m0 p5.l1 (fun x=>x.l8) a1t a8 (fun _=>a8) (.t a8) a8,?_⟩
  refine⟨_,fun H=>j6.x3 a4g (.t a8) a8,?_⟩
  refine⟨_,fun H=>j6.len Tryz.underlying83 (.t a8) a8,?_⟩
  refine .inl (.inl ?_)
  refine⟨_,fun H=>j6.m0 p5.l1 (fun x=>x.l8) a1t a8 (fun _=>a8) (.t a8) a8,?_⟩
  refine⟨_,fun H=>j6.x3 a4g (.t a8) a8,?_⟩
  refine .inl (.inl ?_)
  refine A6.buildSlice (α:=Int) D0 Tryz.underlying33 (.cons (.t rfl) .nil) rfl (by decide) fun b52 => ?_
  refine A6.y0 hC .z (A6.as 52 rfl .z (A6.a02 hG (a66 _ _ (by simp;omega) (by simp) (by simp) (by simp;omega)) (.cons (.t rfl) (.cons (.t rfl) .nil)) fun r53 Hs53 hr53 => ?_))
  obtain⟨u53,rfl,rfl⟩:=hr53
  refine A6.D3 hG (b3T _ _ _ (by simp;omega) hdd.a7P hdd.con) .z (.cons (.t rfl) (.cons (.t rfl) .nil)) (by rintro _ _ ⟨_,_,rfl⟩;exact⟨_,rfl⟩) fun r56 B56 hr56 => ?_
  obtain⟨u56,rfl,hB⟩:=hr56
  cases hB
  refine A6.ofP (j6.assign (.t rfl) ?_)
  show F8 _ _ _ _ _ _ ((3,_)::(56,_)::(55,_)::(54,_)::(53,_)::(52,_)::(51,_)::(50,_)::(49,_)::(48,_)::_) _
  refine .nil (.del (.s .z) (.region a8 (.mv a8 (.p (.m0 p5.l2 (fun x=>x.Proof) b2S a8 (fun _=>a8) (.t a8) (.p (.P5 (by decide) O7 (.t a8) (.h (.append F5 (.inl ⟨_,Tryz.underlying86⟩) a8 .z (.v (.t a8)) (by simp;omega) (by simp;omega) (fun w60 => .ag a8 ?_) a8)))))))))
  refine .nil (.region a8 (.p (.add (.t a8) (.i a8) (by omega) (by omega) (.mv a8 (.nil ?_)))))
  refine⟨(k+1,_),.c2 rfl rfl (.c2 rfl rfl (.nil _)),congrArg (fun q => [(true,E9.own _ _ q)]) (by show _=a27 b++K5 b.j4.length++S5 L7 (b.j4.take (k+1));rw [a1B L7 b.j4 k (by omega)];simp [L7,a0n,numsL]),?_,by dsimp only;omega⟩
  omega
 ·refine .exit (.seq (.y0 hC .z (.as 3 a8 .z (.region a8 (.mv a8 (.ag a8 (.nil (.ret ?_))))))))
  refine⟨_,.r1 a8 (.tmp a8),?_⟩
  refine congrArg AV.v ?_
  rw [List.take_of_length_le (by omega)];unfold a1c a27;simp
theorem a0j {b:Y0} (h:F6 b≠0):M8 b=F6 b:=by unfold M8;rw [if_pos h]
theorem a7C {b:Y0} (h:F6 b=0) (h2:4096 < (a1c b).length):M8 b=2:=by unfold M8;rw [if_neg (by simpa using h),if_pos h2]
theorem a7D {b:Y0} (h:F6 b=0) (h2:¬4096 < (a1c b).length):M8 b=0:=by unfold M8;rw [if_neg (by simpa using h),if_neg h2]
theorem b9O (b:Y0) (hl:b.l9.length≤1000000):u1 gl Tryz.prog 35 [.v b] (fun r=>r = .v (M8 b)):=by
 refine u1.intro Tryz.func35 rfl (by kernel_rfl) 13 rfl rfl _ rfl fun C hC hG=>(.sr rfl (.h (.box (.t rfl) fun b1 => .p (.assign (.i rfl) (.nil (.seq (.seq (.B0 hC .z (.Q5 1 rfl .z (.region rfl (.p (.x3 a0d (.t rfl) (.p (.m9 hG (b9N _ hl) (.cons (.t rfl) .nil) (.ag rfl (.nil (.sr rfl (.mv rfl (.p (.W8 (.t rfl) (.i rfl) ?_))))))))))))))))))))
 refine .nil (.o8 (.t a8) (fun hc7 => ?_) (fun hc7 => ?_))
 ·refine .sr a8 (.mv a8 (.ag a8 (.nil (.ret ?_))))
  refine⟨_,.r1 a8 (.tmp a8),?_⟩
  rw [a0j hc7]
 ·refine .skip (.seq (.seq ?_))
  have h0:F6 b=0:=Decidable.not_not.1 hc7
  refine .region a8 (.p (.x3 a0d (.t a8) (.p (.m9 hG (b6h _ (a4N h0)) (.cons (.t a8) .nil) (.p (.len Tryz.underlying86 (.t a8) (.p (.gtr (.t a8) (.i a8) (.nil (.o8 (.t a8) (fun hc12 => ?_) (fun hc12 => ?_)))))))))))
  ·refine .sr a8 (.p (.assign (.i a8) (.nil (.ret ?_))))
   refine⟨_,.r1 a8 (.tmp a8),?_⟩
   rw [a7C h0 (by omega)]
  ·refine .skip (.sr a8 (.p (.assign (.i a8) (.nil (.ret ?_)))))
   refine⟨_,.r1 a8 (.tmp a8),?_⟩
   rw [a7D h0 (by omega)]
theorem b8k (l:List Int) : [1]++numsL l=numsL (1::l):=by
 show [1]++numsL l=(K5 1::l.map fun n=>K5 n.toNat).flatten
 rw [List.flatten_cons,a2h (by decide)];rfl
theorem b8l (b:Y0) (h:a9L b):u1 gl Tryz.prog 108 [.v b] (fun r=>r = .v (a1c b)):=by
 have hh:=b8j h
 have hnd:=h.c2z
 have hnc:=h.a4M
 have hq0:=hh.l0
 have hq1:=hh.l1
 have hh2:=hh.l2
 have hnl:=A8 (n:=b.j4.length) (by omega)
 have hb5:∀ n ∈ [b.Request.Gate,b.Request.E3,b.C9,b.y7,(b.l9.length:Int)],0≤n∧n≤281474976710656:=fun n hn=>hh.nums n (List.mem_cons_of_mem _ hn)
 have hl5 : [b.Request.Gate,b.Request.E3,b.C9,b.y7,(b.l9.length:Int)].length=5:=rfl
 refine u1.intro Tryz.func108 rfl (by kernel_rfl) 116 rfl rfl _ rfl fun C hC hG=>(.sr rfl (.h (.box (.t rfl) fun b1 => .p (.assign (.K4 (α:=UInt8)) (.nil (.seq (.B0 hC .z (.Q5 1 rfl .z (.region rfl (.h (.buildSlice (α:=UInt8) U1 Tryz.underlying86 (.cons (.u8 1 rfl) .nil) rfl (by decide) fun b14 => .ag rfl (.nil (.sr rfl (.p (.m0 m6.l0 (fun x=>x.Request) a3O rfl (fun _=>rfl) (.t rfl) (.p (.m0 p7.l0 (fun x=>x.Gate) a4q rfl (fun _=>rfl) (.t rfl) (.p (.x3 D0 (.t rfl) (.p (.m0 m6.l0 (fun x=>x.Request) a3O rfl (fun _=>rfl) (.t rfl) (.p (.m0 p7.l1 (fun x=>x.E3) a3N rfl (fun _=>rfl) (.t rfl) (.p (.x3 D0 (.t rfl) (.p (.m0 m6.l1 (fun x=>x.C9) a5B rfl (fun _=>rfl) (.t rfl) (.p (.x3 D0 (.t rfl) (.p (.m0 m6.l2 (fun x=>x.y7) a5C rfl (fun _=>rfl) (.t rfl) (.p (.x3 D0 (.t rfl) (.p (.m0 m6.l3 (fun x=>x.l9) a0m rfl (fun _=>rfl) (.t rfl) (.p (.x3 a3f (.t rfl) ?_)))))))))))))))))))))))))))))))))))))
 refine .p (.len Tryz.underlying24 (.t a8) (.h (.buildSlice (α:=Int) D0 Tryz.underlying33 (.cons (.t a8) (.cons (.t a8) (.cons (.t a8) (.cons (.t a8) (.cons (.t a8) .nil))))) a8 (by decide) fun b28 => .ag a8 (.nil (.seq (.seq (.y0 hC .z (.as 4 a8 .z (.del .z (.del (.s .z) (.region a8 (.p (.assign (.i a8) (.nil (.block (.F4 (α:=Nat×Value) [(1,_),(4,_)] (fun x R=>(3,.raw x.2)::(5,.v (x.1:Int))::R) (fun x => [(true,.own 5 x.2 ([1]++numsL ([b.Request.Gate,b.Request.E3,b.C9,b.y7,(b.l9.length:Int)].take x.1)))]) (fun x=>x.1≤5) (fun x=>5 - x.1) ((0,slc b14 0 1 1)) (.c2 a8 a8 (.nil _)) ?_ (.c2 a8 a8 (.c2 a8 a8 (.nil _))) (congrArg (fun q => [(true,E9.own _ _ q)]) (by simp [numsL])) fun x hF => ?_))))))))))))))))
 ·simp
 obtain⟨k,w⟩:=x
 dsimp only at hF ⊢
 have hcl:=a1A ([b.Request.Gate,b.Request.E3,b.C9,b.y7,(b.l9.length:Int)].take k) (fun n hn=>hb5 n (List.mem_of_mem_take hn))
 have hcl2:([b.Request.Gate,b.Request.E3,b.C9,b.y7,(b.l9.length:Int)].take k).length≤5:=(by simp;omega)
 refine .seq (.sr a8 (.mv a8 (.mv a8 (.p (.len Tryz.underlying33 (.t a8) (.p (.lss (.t a8) (.t a8) (.nil (.o8 (.t a8) (fun hc32 => ?_) (fun hc32 => ?_))))))))))
 ·refine .skip (.seq (.block ?_))
  have hn7:=A8 (n:=([b.Request.Gate,b.Request.E3,b.C9,b.y7,(b.l9.length:Int)][k]).toNat) (by have:=hb5 _ (List.getElem_mem (show k < [b.Request.Gate,b.Request.E3,b.C9,b.y7,(b.l9.length:Int)].length by simp;omega));omega)
  refine .region a8 (.mv a8 (.mv a8 (.mv a8 (.p (.idx D0 Tryz.underlying33 (.t a8) (.t a8) (by omega) (by omega) (.p (.x3 D0 (.t a8) (.p (.m9 hG (F0 _ (hb5 _ (List.getElem_mem _)).1 (hb5 _ (List.getElem_mem _)).2) (.cons (.t a8) .nil) (.h (.append F5 (.inl ⟨_,Tryz.underlying86⟩) a8 .z (.v (.t a8)) (by simp;omega) (by simp;omega) (fun w41 => .ag a8 ?_) a8)))))))))))
  refine .nil (.region a8 (.mv a8 (.p (.add (.t a8) (.i a8) (by omega) (by omega) (.ag a8 (.nil ?_))))))
  refine⟨(k+1,_),.c2 rfl rfl (.c2 rfl rfl (.nil _)),congrArg (fun q => [(true,E9.own _ _ q)]) (by show _ = [1]++numsL ([b.Request.Gate,b.Request.E3,b.C9,b.y7,(b.l9.length:Int)].take (k+1));rw [a5P [b.Request.Gate,b.Request.E3,b.C9,b.y7,(b.l9.length:Int)] k (by simp;omega),←List.append_assoc];rfl),?_,by dsimp only;omega⟩
  dsimp only;omega
 ·refine .exit (.seq (.seq ?_))
  obtain rfl:k=5:=by simp only [List.length_cons,List.length_nil] at hc32;omega
  refine .region rfl (.p (.assign (.i rfl) (.nil (.block (.F4 (α:=Nat×Value) [(1,_)] (fun x R=>(3,.raw x.2)::(6,.v (x.1:Int))::R) (fun x => [(true,.own 5 x.2 (numsL (1 :: [b.Request.Gate,b.Request.E3,b.C9,b.y7,(b.l9.length:Int)])++S5 D7 (b.l9.take x.1)))]) (fun x=>x.1≤b.l9.length) (fun x=>b.l9.length - x.1) ((0,w)) (.cons rfl (.nil _)) ?_ (.c2 rfl rfl (.cons rfl (.nil _))) (congrArg (fun q => [(true,E9.own _ _ q)]) (by show [1]++numsL ([b.Request.Gate,b.Request.E3,b.C9,b.y7,(b.l9.length:Int)].take 5)=numsL (1 :: [b.Request.Gate,b.Request.E3,b.C9,b.y7,(b.l9.length:Int)])++S5 D7 (b.l9.take 0);rw [b8k];simp [S5])) fun x hF => ?_)))))
  ·simp
  obtain⟨k1,w1⟩:=x
  dsimp only at hF ⊢
  have hcl:=a2n D7 b.l9 2100 k1 (fun c hc=>a2i (h.cav c hc))
  refine .seq (.sr a8 (.mv a8 (.p (.m0 m6.l3 (fun x=>x.l9) a0m a8 (fun _=>a8) (.t a8) (.p (.x3 a3f (.t a8) (.p (.len Tryz.underlying24 (.t a8) (.p (.lss (.t a8) (.t a8) (.nil (.o8 (.t a8) (fun hc46 => ?_) (fun hc46 => ?_)))))))))))))
  ·refine .skip (.seq (.block (.seq ?_)))
   have hpl2:=a36 b.l9[k1]
   have hco:=h.cav _ (List.getElem_mem (show k1 < b.l9.length by omega))
   refine .region a8 (.p (.m0 m6.l3 (fun x=>x.l9) a0m a8 (fun _=>a8) (.t a8) (.p (.x3 a3f (.t a8) (.mv a8 (.p (.idx T7 Tryz.underlying24 (.t a8) (.t a8) (by omega) (by omega) (.p (.x3 T7 (.t a8) (.p (.m9 hG (a9N _) (.cons (.t a8) .nil) (.mv a8 (.p (.E5 (.t a8) (.p (.E6 (.t a8) (.ag a8 (.ag a8 (.nil (.region a8 (.mv a8 (.mv a8 (.h (.append F5 (.inl ⟨_,Tryz.underlying86⟩) a8 .z (.v (.t a8)) (by simp;omega) (by simp;omega) (fun w60 => .ag a8 ?_) a8))))))))))))))))))))))))
   refine .nil (.region a8 (.mv a8 (.p (.add (.t a8) (.i a8) (by omega) (by omega) (.ag a8 (.nil ?_))))))
   refine⟨(k1+1,_),.c2 rfl rfl (.cons rfl (.nil _)),congrArg (fun q => [(true,E9.own _ _ q)]) (by show _++(W3 b.l9[k1]).1=numsL (1 :: [b.Request.Gate,b.Request.E3,b.C9,b.y7,(b.l9.length:Int)])++S5 D7 (b.l9.take (k1+1));rw [a1B D7 b.l9 k1 (by omega),a1F hco];simp),?_,by dsimp only;omega⟩
   omega
  ·refine .exit (.seq ?_)
   obtain rfl:k1=b.l9.length:=by omega
   refine .E7 [j0] (by kernel_rfl) 10 [[],[],[(62,1)],[(61,0),(63,2)],[],[(65,4)],[(66,5)],[(67,6)],[(64,3),(68,7)],[(69,8)]] [0,3,8,9] a8 (by kernel_rfl) a8 (by kernel_rfl) (by decide) (.inl ?_)
   refine⟨_,fun H=>j6.m0 m6.l4 (fun x=>x.Proof) a94 a8 (fun _=>a8) (.t a8) a8,?_⟩
   refine⟨_,fun H=>j6.P5 (by decide) O7 (.t a8) a8,?_⟩
   refine .inl ?_
   refine⟨_,fun H=>j6.m0 m6.l5 (fun x=>x.j4) R6 a8 (fun _=>a8) (.t a8) a8,?_⟩
   refine⟨_,fun H=>j6.x3 a3w (.t a8) a8,?_⟩
   refine⟨_,fun H=>j6.len Tryz.underlying27 (.t a8) a8,?_⟩
   refine⟨_,fun H=>j6.m9 hG (F0 _ (by omega) (by omega)) (.cons (.t a8) .nil) a8,?_⟩
   refine .inl (.inl ?_)
   refine⟨⟨([],j2 [_]),a8⟩,?_⟩
   refine A6.ofP (j6.move (.t rfl) ?_)
   refine⟨⟨([],j2 [_]),a8⟩,?_⟩
   refine A6.append F5 (.inl ⟨_,Tryz.underlying86⟩) rfl .z (.v (.t rfl)) (by simp;omega) (by simp;omega) (fun w64 => ?_) rfl
   refine⟨⟨([],j2 [_]),a8⟩,?_⟩
   refine A6.append F5 (.inl ⟨_,Tryz.underlying86⟩) rfl .z (.v (.t rfl)) (by simp;omega) (by simp;omega) (fun w69 => ?_) rfl
   refine⟨⟨([],j2 [_]),a8⟩,?_⟩
   refine A6.ofP (j6.assign (.t rfl) ?_)
   refine⟨⟨([],j2 [_]),a8⟩,?_⟩
   show F8 _ _ _ _ _ _ ((3,_)::(69,_)::(68,_)::(67,_)::(66,_)::(65,_)::(64,_)::(63,_)::(62,_)::(61,_)::_) _
   refine .nil (.seq (.sr rfl (.p (.assign (.i rfl) (.nil (.block (.F4 (α:=Nat×Value) [(1,_)] (fun x R=>(3,.raw x.2)::(9,.v (x.1:Int))::R) (fun x => [(true,.own 5 x.2 (a27 b++K5 b.j4.length++S5 L7 (b.j4.take x.1)))]) (fun x=>x.1≤b.j4.length) (fun x=>b.j4.length - x.1) ((0,_)) (.cons rfl (.nil _)) ?_ (.c2 rfl rfl (.cons rfl (.nil _))) (congrArg (fun q => [(true,E9.own _ _ q)]) (by show _=a27 b++K5 b.j4.length++S5 L7 (b.j4.take 0);unfold a27;simp [S5])) fun x hF => ?_)))))))
   ·simp
   obtain⟨k2,w2⟩:=x
   dsimp only at hF ⊢
   have hcl:=a2n L7 b.j4 1400 k2 (fun d hd=>(b4Y h hd).len)
   refine .seq (.sr a8 (.mv a8 (.p (.m0 m6.l5 (fun x=>x.j4) R6 a8 (fun _=>a8) (.t a8) (.p (.x3 a3w (.t a8) (.p (.len Tryz.underlying27 (.t a8) (.p (.lss (.t a8) (.t a8) (.nil (.o8 (.t a8) (fun hc74 => ?_) (fun hc74 => ?_)))))))))))))
   ·refine .skip (.seq (.block (.sr a8 (.p (.m0 m6.l5 (fun x=>x.j4) R6 a8 (fun _=>a8) (.t a8) (.p (.x3 a3w (.t a8) (.mv a8 (.p (.idx P8 Tryz.underlying27 (.t a8) (.t a8) (by omega) (by omega) (.p (.x3 P8 (.t a8) (.h (.alloc P8 fun b10=>(.n (.C8 P8 (.t a8) (.t a8) .z (.nil (.seq ?_))))))))))))))))))
    have hdd:=b4Y h (List.getElem_mem (show k2 < b.j4.length by omega))
    have q1:=hdd.a7P
    have q2:=hdd.tick
    have q3:=hdd.lt
    have q4:=hdd.ln
    refine .B0 hC .z (.Q5 10 a8 .z (.del .z (.E7 [j0] (by kernel_rfl) 11 [[],[],[(83,1)],[(84,2)],[(82,0),(85,3)],[],[(87,5)],[(88,6)],[(89,7)],[(86,4),(90,8)],[(91,9)]] [0,4,9,10] a8 (by kernel_rfl) a8 (by kernel_rfl) (by decide) (.inl ?_))))
    refine⟨_,fun H=>j6.m0 p5.l0 (fun x=>x.j8) a0Z a8 (fun _=>a8) (.t a8) a8,?_⟩
    refine⟨_,fun H=>j6.x3 P1 (.t a8) a8,?_⟩
    refine⟨_,fun H=>j6.m9 hG (a06 _ (by simp;omega)) (.cons (.t a8) .nil) a8,?_⟩
    refine .inl ?_
    refine⟨_,fun H=>j6.m0 p5.l1 (fun x=>x.l8) a1t a8 (fun _=>a8) (.t a8) a8,?_⟩
    refine⟨_,fun H=>j6.x3 a4g (.t a8) a8,?_⟩
    refine⟨_,fun H=>j6.len Tryz.underlying83 (.t a8) a8,?_⟩
    refine⟨_,fun H=>j6.m9 hG (F0 _ (by omega) (by simp;omega)) (.cons (.t a8) .nil) a8,?_⟩
    refine .inl (.inl ?_)
    refine⟨⟨([],j2 [_]),a8⟩,?_⟩
    refine A6.ofP (j6.move (.t rfl) ?_)
    refine⟨⟨([],j2 [_]),a8⟩,?_⟩
    refine A6.append F5 (.inl ⟨_,Tryz.underlying86⟩) rfl .z (.v (.t rfl)) (by simp;omega) (by simp;omega) (fun w86 => ?_) rfl
    refine⟨⟨([],j2 [_]),a8⟩,?_⟩
    refine A6.append F5 (.inl ⟨_,Tryz.underlying86⟩) rfl .z (.v (.t rfl)) (by simp;omega) (by simp;omega) (fun w91 => ?_) rfl
    refine⟨⟨([],j2 [_]),a8⟩,?_⟩
    refine A6.ofP (j6.assign (.t rfl) ?_)
    refine⟨⟨([],j2 [_]),a8⟩,?_⟩
    show F8 _ _ _ _ _ _ ((3,_)::(91,_)::(90,_)::(89,_)::(88,_)::(87,_)::(86,_)::(85,_)::(84,_)::(83,_)::(82,_)::_) _
    refine .nil (.seq (.sr rfl (.p (.assign (.i rfl) (.nil (.block (.F4 (α:=Nat×Value) [(1,_),(9,_),(10,_)] (fun x R=>(3,.raw x.2)::(11,.v (x.1:Int))::R) (fun x => [(true,.own 5 x.2 (a27 b++K5 b.j4.length++S5 L7 (b.j4.take k2)++(K5 b.j4[k2].j8.length++b.j4[k2].j8)++K5 b.j4[k2].l8.length++S5 u4 (b.j4[k2].l8.take x.1)))]) (fun x=>x.1≤b.j4[k2].l8.length) (fun x=>b.j4[k2].l8.length - x.1) ((0,_)) (.c2 rfl rfl (.cons rfl (.nil _))) ?_ (.c2 rfl rfl (.c2 rfl rfl (.cons rfl (.nil _)))) (congrArg (fun q => [(true,E9.own _ _ q)]) (by show _=a27 b++K5 b.j4.length++S5 L7 (b.j4.take k2)++(K5 b.j4[k2].j8.length++b.j4[k2].j8)++K5 b.j4[k2].l8.length++S5 u4 (b.j4[k2].l8.take 0);simp [S5])) fun x hF => ?_)))))))
    ·simp
    obtain⟨k3,w3⟩:=x
    dsimp only at hF ⊢
    have hcl3:=a2n u4 b.j4[k2].l8 24 k3 (fun p hp=>I5 (L6 (hdd.con p hp)))
    refine .seq (.sr a8 (.mv a8 (.p (.m0 p5.l1 (fun x=>x.l8) a1t a8 (fun _=>a8) (.t a8) (.p (.x3 a4g (.t a8) (.p (.len Tryz.underlying83 (.t a8) (.p (.lss (.t a8) (.t a8) (.nil (.o8 (.t a8) (fun hc96 => ?_) (fun hc96 => ?_)))))))))))))
    ·refine .skip (.seq (.block (.seq ?_)))
     have hx3:(k3:Int) < (b.j4[k2].l8.length:Int):=hc96
     have hpo:=hdd.con _ (List.getElem_mem (show k3 < b.j4[k2].l8.length by omega))
     have hpl3:=a14 b.j4[k2].l8[k3]
     refine .region a8 (.p (.m0 p5.l1 (fun x=>x.l8) a1t a8 (fun _=>a8) (.t a8) (.p (.x3 a4g (.t a8) (.mv a8 (.p (.idx A7 Tryz.underlying83 (.t a8) (.t a8) (by omega) (by omega) (.p (.x3 A7 (.t a8) (.p (.m9 hG (a5Q _) (.cons (.t a8) .nil) (.mv a8 (.p (.E5 (.t a8) (.p (.E6 (.t a8) (.ag a8 (.ag a8 (.nil (.region a8 (.mv a8 (.mv a8 (.h (.append F5 (.inl ⟨_,Tryz.underlying86⟩) a8 .z (.v (.t a8)) (by simp;omega) (by simp;omega) (fun w110 => .ag a8 ?_) a8))))))))))))))))))))))))
     refine .nil (.region a8 (.mv a8 (.p (.add (.t a8) (.i a8) (by omega) (by omega) (.ag a8 (.nil ?_))))))
     refine⟨(k3+1,_),.c2 rfl rfl (.c2 rfl rfl (.cons rfl (.nil _))),congrArg (fun q => [(true,E9.own _ _ q)]) (by show _++(U3 b.j4[k2].l8[k3]).1=a27 b++K5 b.j4.length++S5 L7 (b.j4.take k2)++(K5 b.j4[k2].j8.length++b.j4[k2].j8)++K5 b.j4[k2].l8.length++S5 u4 (b.j4[k2].l8.take (k3+1));rw [a1B u4 b.j4[k2].l8 k3 (by omega),x8 hpo];simp),?_,by dsimp only;omega⟩
     omega
    ·refine .exit ?_
     have hx3:¬((k3:Int) < (b.j4[k2].l8.length:Int)):=hc96
     rw [List.take_of_length_le (show b.j4[k2].l8.length≤k3 by omega)]
     have q5:=a13 u4 b.j4[k2].l8 24 (fun p hp=>I5 (L6 (hdd.con p hp)))
     refine .region a8 (.mv a8 (.p (.m0 p5.l2 (fun x=>x.Proof) b2S a8 (fun _=>a8) (.t a8) (.p (.P5 (by decide) O7 (.t a8) (.h (.append F5 (.inl ⟨_,Tryz.underlying86⟩) a8 .z (.v (.t a8)) (by simp;omega) (by simp;omega) (fun w114 => .ag a8 ?_) a8)))))))
     refine .nil (.region a8 (.mv a8 (.p (.add (.t a8) (.i a8) (by omega) (by omega) (.ag a8 (.nil ?_))))))
     refine⟨(k2+1,_),.c2 rfl rfl (.cons rfl (.nil _)),congrArg (fun q => [(true,E9.own _ _ q)]) (by show _=a27 b++K5 b.j4.length++S5 L7 (b.j4.take (k2+1));rw [a1B L7 b.j4 k2 (by omega)];simp [L7,a0n]),?_,by dsimp only;omega⟩
     omega
   ·refine .exit (.seq (.y0 hC .z (.as 3 a8 .z (.region a8 (.mv a8 (.ag a8 (.nil (.ret ?_))))))))
    refine⟨_,.r1 a8 (.tmp a8),?_⟩
    refine congrArg AV.v ?_
    rw [List.take_of_length_le (by omega)];unfold a1c a27;simp
theorem any_succ {α:Type} (p:α→Bool) (l:List α) (k:Nat) (h:k < l.length):(l.take (k+1)).any p=((l.take k).any p||p l[k]):=by
 rw [List.take_succ_eq_append_getElem h,List.any_append];simp
def a0r (b:Y0) (i:Nat):Bool:=(!b.l9.all H7)||(b.j4.take i).any a3n
def W6 (b:Y0) (i:Nat):Bool:=(b.j4.take i).any a3E
def a39 (p:Pred):Bool := !A5 p
def a3H (p:Pred):Bool:=decide (p.Kind=7)
theorem b2r (b:Y0) (i:Nat) (h:i < b.j4.length):a0r b (i+1)=(a0r b i||decide ((b.j4[i].j8.length:Int) < 1)||decide ((1024:Int) < (b.j4[i].j8.length:Int))||b.j4[i].l8.any a39):=by
 unfold a0r;rw [any_succ _ _ _ h,c0J,b2o];unfold a3n a39;simp only [Bool.or_assoc]
theorem b0S (b:Y0) (i:Nat) (h:i < b.j4.length):W6 b (i+1)=(W6 b i||b.j4[i].l8.any a3H):=by
 unfold W6;rw [any_succ _ _ _ h];rfl
theorem b9P {b:Y0} (h1:(decide ((64:Int) < (b.l9.length:Int))||decide (8 < a09 b.l9)||decide ((8:Int) < (b.j4.length:Int)))=false) (h2:b.j4.any a1L=false):S2 b=false:=by
 rw [b8e,b9K] at h1;unfold S2;rw [h1,h2];rfl
theorem c1v {b:Y0} (h1:(decide ((64:Int) < (b.l9.length:Int))||decide (8 < a09 b.l9)||decide ((8:Int) < (b.j4.length:Int)))=true):S2 b=true:=by
 rw [b8e,b9K] at h1;unfold S2;rw [h1];rfl
theorem c1w {b:Y0} {i:Nat} (h:i < b.j4.length) (h2:(8:Int) < (b.j4[i].l8.length:Int)):S2 b=true:=by
 have:b.j4.any a1L=true:=List.any_eq_true.2 ⟨_,List.getElem_mem h,by unfold a1L;rw [decide_eq_true_eq];omega⟩
 unfold S2;rw [this,Bool.or_true]
theorem a6v (b:Y0):a0r b b.j4.length=((b.l9.any fun c => !H7 c)||b.j4.any a3n):=by
 unfold a0r;rw [List.take_length];congr 1
 induction b.l9 with
 | nil=>rfl
 | cons c l ih=>rw [List.all_cons,List.any_cons,Bool.not_and,ih]
theorem b9Q {b:Y0} (h:O6 b=false):M8 b=1:=by
 have:F6 b=1:=by unfold F6;rw [if_pos h]
 rw [a0j (by rw [this];decide),this]
theorem b4Z {b:Y0} (h:O6 b=true) (h2:S2 b=true):M8 b=2:=by
 have:F6 b=2:=by unfold F6;rw [if_neg (by rw [h];decide),if_pos h2]
 rw [a0j (by rw [this];decide),this]
theorem b9R {b:Y0} (h:O6 b=true) (h2:S2 b=false) (h3:a0r b b.j4.length=true):M8 b=5:=by
 rw [a6v] at h3
 have:F6 b=5:=by unfold F6;rw [if_neg (by rw [h];decide),if_neg (by rw [h2];decide),if_pos h3]
 rw [a0j (by rw [this];decide),this]
theorem b9S {b:Y0} (h:O6 b=true) (h2:S2 b=false) (h3:a0r b b.j4.length=false) (h4:W6 b b.j4.length=true):M8 b=6:=by
 rw [a6v] at h3;unfold W6 at h4;rw [List.take_length] at h4
 have:F6 b=6:=by unfold F6;rw [if_neg (by rw [h];decide),if_neg (by rw [h2];decide),if_neg (by rw [h3];decide),if_pos h4]
 rw [a0j (by rw [this];decide),this]
theorem b8m {b:Y0} (h:O6 b=true) (h2:S2 b=false) (h3:a0r b b.j4.length=false) (h4:W6 b b.j4.length=false) (h5:U6 b.j4 b.j4.length=true):M8 b=10:=by
 rw [a6v] at h3;unfold W6 at h4;rw [List.take_length] at h4
 have:F6 b=10:=by unfold F6;rw [if_neg (by rw [h];decide),if_neg (by rw [h2];decide),if_neg (by rw [h3];decide),if_neg (by rw [h4];decide),if_pos (show a3o b.j4=true from h5)]
 rw [a0j (by rw [this];decide),this]
theorem b9T {b:Y0} (h:O6 b=true) (h2:S2 b=false) (h3:a0r b b.j4.length=false) (h4:W6 b b.j4.length=false) (h5:U6 b.j4 b.j4.length=false):F6 b=0:=by
 rw [a6v] at h3;unfold W6 at h4;rw [List.take_length] at h4
 unfold F6;rw [if_neg (by rw [h];decide),if_neg (by rw [h2];decide),if_neg (by rw [h3];decide),if_neg (by rw [h4];decide),if_neg (by unfold a3o;rw [h5];decide)]
theorem b8n (b:Y0) (hl:b.l9.length≤1000000):u1 gl Tryz.prog 44 [.v b] (fun r=>r = .v (M8 b)):=by
 refine u1.intro Tryz.func44 rfl (by kernel_rfl) 138 rfl rfl _ rfl fun C hC hG=>(.sr rfl (.h (.box (.t rfl) fun b1 => .p (.assign (.i rfl) (.nil (.seq (.seq (.B0 hC .z (.Q5 1 rfl .z (.del .z (.region rfl (.p (.m0 m6.l0 (fun x=>x.Request) a3O rfl (fun _=>rfl) (.t rfl) (.p (.x3 a3V (.t rfl) (.p (.m9 hG (b4W _) (.cons (.t rfl) .nil) (.p (.not (.t rfl) (.mv rfl (.go 14 rfl (.t rfl) (fun hg15 => .m0 m6.l1 (fun x=>x.C9) a5B rfl (fun _=>rfl) (.t rfl) rfl) (.go 14 rfl (.t rfl) (fun hg16 => .x3 D0 (.q rfl hg16) rfl) (.go 14 rfl (.t rfl) (fun hg17 => .lss (.q rfl hg17) (.i rfl) rfl) ?_)))))))))))))))))))))))
 refine .p (.E0 (.t a8) (fun hp=>(.q a8 hp)) (.mv a8 (.go 19 a8 (.t a8) (fun hg20 => .m0 m6.l1 (fun x=>x.C9) a5B a8 (fun _=>a8) (.t a8) a8) (.go 19 a8 (.t a8) (fun hg21 => .x3 D0 (.q a8 hg21) a8) (.go 19 a8 (.t a8) (fun hg22 => .gtr (.q a8 hg22) (.i a8) a8) (.p (.E0 (.t a8) (fun hp=>(.q a8 hp)) (.mv a8 (.go 24 a8 (.t a8) (fun hg25 => .m0 m6.l2 (fun x=>x.y7) a5C a8 (fun _=>a8) (.t a8) a8) (.go 24 a8 (.t a8) (fun hg26 => .x3 D0 (.q a8 hg26) a8) (.go 24 a8 (.t a8) (fun hg27 => .lss (.q a8 hg27) (.i a8) a8) (.p (.E0 (.t a8) (fun hp=>(.q a8 hp)) (.mv a8 (.go 29 a8 (.t a8) (fun hg30 => .m0 m6.l2 (fun x=>x.y7) a5C a8 (fun _=>a8) (.t a8) a8) (.go 29 a8 (.t a8) (fun hg31 => .x3 D0 (.q a8 hg31) a8) (.go 29 a8 (.t a8) (fun hg32 => .gtr (.q a8 hg32) (.i a8) a8) (.p (.E0 (.t a8) (fun hp=>(.q a8 hp)) (.nil (.cond (.t a8) (fun hc33 => ?_) (fun hc33 => ?_))))))))))))))))))))))
 ·refine .sr a8 (.p (.assign (.i a8) (.nil (.ret ?_))))
  refine⟨_,.r1 a8 (.tmp a8),?_⟩
  rw [b9Q (b2q hc33)]
 ·refine .skip (.seq (.sr a8 (.p (.m0 m6.l3 (fun x=>x.l9) a0m a8 (fun _=>a8) (.t a8) (.p (.x3 a3f (.t a8) (.p (.len Tryz.underlying24 (.t a8) (.p (.gtr (.t a8) (.i a8) (.mv a8 (.go 38 a8 (.t a8) (fun hg39 => .m0 m6.l3 (fun x=>x.l9) a0m a8 (fun _=>a8) (.t a8) a8) (.go 38 a8 (.t a8) (fun hg40 => .x3 a3f (.q a8 hg40) a8) (.go 38 a8 (.t a8) (fun hg41 => .m9 hG (a9M _ hl) (.cons (.q a8 hg41) .nil) a8) (.go 38 a8 (.t a8) (fun hg42 => .gtr (.q a8 hg42) (.i a8) a8) (.p (.E0 (.t a8) (fun hp=>(.q a8 hp)) (.mv a8 (.go 44 a8 (.t a8) (fun hg45 => .m0 m6.l5 (fun x=>x.j4) R6 a8 (fun _=>a8) (.t a8) a8) (.go 44 a8 (.t a8) (fun hg46 => .x3 a3w (.q a8 hg46) a8) (.go 44 a8 (.t a8) (fun hg47 => .len Tryz.underlying27 (.q a8 hg47) a8) (.go 44 a8 (.t a8) (fun hg48 => .gtr (.q a8 hg48) (.i a8) a8) (.p (.E0 (.t a8) (fun hp=>(.q a8 hp)) ?_))))))))))))))))))))))))
  refine .nil (.cond (.t a8) (fun hc49 => ?_) (fun hc49 => ?_))
  ·refine .sr a8 (.p (.assign (.i a8) (.nil (.ret ?_))))
   refine⟨_,.r1 a8 (.tmp a8),?_⟩
   rw [b4Z (a0Q hc33) (c1v hc49)]
  ·refine .skip (.seq ?_)
   have hD:b.j4.length≤8:=by simp only [Bool.or_eq_false_iff,decide_eq_false_iff_not] at hc49;omega
   refine .region a8 (.p (.m0 m6.l3 (fun x=>x.l9) a0m a8 (fun _=>a8) (.t a8) (.p (.x3 a3f (.t a8) (.p (.m9 hG (b2d _) (.cons (.t a8) .nil) (.p (.not (.t a8) (.ag a8 (.p (.assign .b (.p (.assign .b (.nil (.seq (.sr a8 (.p (.assign (.i a8) (.nil (.block (.F4 (α:=Nat) [(1,_)] (fun i R=>(3,.v (a0r b i))::(4,.v (W6 b i))::(5,.v (U6 b.j4 i))::(6,.v (i:Int))::R) (Function.const _ _) (fun i=>i≤b.j4.length∧(b.j4.take i).any a1L=false) (fun i=>b.j4.length - i) (0) (.cons a8 (.nil _)) ?_ (.cons (congrArg (fun q=>some (AV.v q)) (by unfold a0r;simp)) (.c2 a8 a8 (.c2 a8 a8 (.nil _)))) (a8) fun i hF => ?_)))))))))))))))))))))
   ·exact⟨Nat.zero_le _,a8⟩
   obtain⟨h1,h2⟩:=hF
   refine .seq (.sr a8 (.mv a8 (.p (.m0 m6.l5 (fun x=>x.j4) R6 a8 (fun _=>a8) (.t a8) (.p (.x3 a3w (.t a8) (.p (.len Tryz.underlying27 (.t a8) (.p (.lss (.t a8) (.t a8) (.nil (.o8 (.t a8) (fun hc58 => ?_) (fun hc58 => ?_)))))))))))))
   ·refine .skip (.seq (.block (.sr a8 (.p (.m0 m6.l5 (fun x=>x.j4) R6 a8 (fun _=>a8) (.t a8) (.p (.x3 a3w (.t a8) (.mv a8 (.p (.idx P8 Tryz.underlying27 (.t a8) (.t a8) (by omega) (by omega) (.p (.x3 P8 (.t a8) (.h (.alloc P8 fun b7=>(.n (.C8 P8 (.t a8) (.t a8) .z (.nil (.seq (.seq (.B0 hC .z (.Q5 7 a8 .z (.del .z ?_))))))))))))))))))))))
    have hi:i < b.j4.length:=by omega
    refine .region a8 (.p (.m0 p5.l1 (fun x=>x.l8) a1t a8 (fun _=>a8) (.t a8) (.p (.x3 a4g (.t a8) (.p (.len Tryz.underlying83 (.t a8) (.p (.gtr (.t a8) (.i a8) (.nil (.o8 (.t a8) (fun hc69 => ?_) (fun hc69 => ?_)))))))))))
    ·refine .sr a8 (.p (.assign (.i a8) (.nil (.ret ?_))))
     refine⟨_,.r1 a8 (.tmp a8),?_⟩
     rw [b4Z (a0Q hc33) (c1w hi hc69)]
    ·refine .skip (.sr a8 (.mv a8 (.mv a8 (.go 71 a8 (.t a8) (fun hg72 => .m0 p5.l0 (fun x=>x.j8) a0Z a8 (fun _=>a8) (.t a8) a8) (.go 71 a8 (.t a8) (fun hg73 => .x3 P1 (.q a8 hg73) a8) (.go 71 a8 (.t a8) (fun hg74 => .len Tryz.underlying86 (.q a8 hg74) a8) (.go 71 a8 (.t a8) (fun hg75 => .lss (.q a8 hg75) (.i a8) a8) (.p (.E0 (.t a8) (fun hp=>(.q a8 hp)) (.mv a8 (.go 77 a8 (.t a8) (fun hg78 => .m0 p5.l0 (fun x=>x.j8) a0Z a8 (fun _=>a8) (.t a8) a8) (.go 77 a8 (.t a8) (fun hg79 => .x3 P1 (.q a8 hg79) a8) (.go 77 a8 (.t a8) (fun hg80 => .len Tryz.underlying86 (.q a8 hg80) a8) (.go 77 a8 (.t a8) (fun hg81 => .gtr (.q a8 hg81) (.i a8) a8) (.p (.E0 (.t a8) (fun hp=>(.q a8 hp)) (.ag a8 (.nil ?_))))))))))))))))))
     refine .seq (.seq ?_)
     have hcl:b.j4[i].l8.length≤8:=by(have hx:¬((8:Int) < (b.j4[i].l8.length:Int)):=hc69;omega)
     refine .region a8 (.p (.assign (.i a8) (.nil (.block (.F4 (α:=Nat) [(1,_),(5,_),(6,_),(7,_)] (fun y R=>(3,.v (a0r b i||decide ((b.j4[i].j8.length:Int) < 1)||decide ((1024:Int) < (b.j4[i].j8.length:Int))||(b.j4[i].l8.take y).any a39))::(4,.v (W6 b i||(b.j4[i].l8.take y).any a3H))::(8,.v (y:Int))::R) (Function.const _ _) (fun y=>y≤b.j4[i].l8.length) (fun y=>b.j4[i].l8.length - y) (0) (.c2 a8 a8 (.c2 a8 a8 (.nil _))) ?_ (.cons (congrArg (fun q=>some (AV.v q)) (Bool.or_false _).symm) (.cons (congrArg (fun q=>some (AV.v q)) (Bool.or_false _).symm) (.c2 a8 a8 (.c2 a8 a8 (.cons a8 (.nil _)))))) (a8) fun y hF => ?_)))))
     ·simp
     refine .seq (.sr a8 (.mv a8 (.p (.m0 p5.l1 (fun x=>x.l8) a1t a8 (fun _=>a8) (.t a8) (.p (.x3 a4g (.t a8) (.p (.len Tryz.underlying83 (.t a8) (.p (.lss (.t a8) (.t a8) (.nil (.o8 (.t a8) (fun hc87 => ?_) (fun hc87 => ?_)))))))))))))
     ·refine .skip (.seq (.block (.seq ?_)))
      have hy2:y < b.j4[i].l8.length:=by(have hx:(y:Int) < (b.j4[i].l8.length:Int):=hc87;omega)
      refine .region a8 (.mv a8 (.mv a8 (.go 91 a8 (.t a8) (fun hg92 => .m0 p5.l1 (fun x=>x.l8) a1t a8 (fun _=>a8) (.t a8) a8) (.go 91 a8 (.t a8) (fun hg93 => .x3 a4g (.q a8 hg93) a8) (.go 91 a8 (.t a8) (fun hg94 => .move (.t a8) a8) (.go 91 a8 (.t a8) (fun hg95 => .idx A7 Tryz.underlying83 (.q a8 hg95) (.q a8 hg95) (by first|omega|(simp;omega)|(have:=hg95;simp at this;omega)) (by first|omega|(simp;omega)|(have:=hg95;simp at this;omega)) a8) (.go 91 a8 (.t a8) (fun hg96 => .x3 A7 (.q a8 hg96) a8) (.go 91 a8 (.t a8) (fun hg97 => .m9 hG (a08 _) (.cons (.q a8 hg97) .nil) a8) (.go 91 a8 (.t a8) (fun hg98 => .not (.q a8 hg98) a8) (.p (.E0 (.t a8) (fun hp=>(.q a8 hp)) (.ag a8 (.nil (.region a8 (.mv a8 (.mv a8 (.go 101 a8 (.t a8) (fun hg102 => .m0 p5.l1 (fun x=>x.l8) a1t a8 (fun _=>a8) (.t a8) a8) (.go 101 a8 (.t a8) (fun hg103 => .x3 a4g (.q a8 hg103) a8) ?_))))))))))))))))))
      refine .go 101 a8 (.t a8) (fun hg104 => .move (.t a8) a8) (.go 101 a8 (.t a8) (fun hg105 => .idx A7 Tryz.underlying83 (.q a8 hg105) (.q a8 hg105) (by first|omega|(simp;omega)|(have:=hg105;simp at this;omega)) (by first|omega|(simp;omega)|(have:=hg105;simp at this;omega)) a8) (.go 101 a8 (.t a8) (fun hg106 => .m0 j3.l0 (fun x=>x.Kind) U8 a8 (fun _=>a8) (.q a8 hg106) a8) (.go 101 a8 (.t a8) (fun hg107 => .x3 D0 (.q a8 hg107) a8) (.go 101 a8 (.t a8) (fun hg108 => .D4 (.q a8 hg108) (.i a8) a8) (.p (.E0 (.t a8) (fun hp=>(.q a8 hp)) (.ag a8 (.nil ?_))))))))
      have hf1:(a0r b i||decide ((b.j4[i].j8.length:Int) < 1)||decide ((1024:Int) < (b.j4[i].j8.length:Int))||(b.j4[i].l8.take y).any a39 || !A5 b.j4[i].l8[y])=(a0r b i||decide ((b.j4[i].j8.length:Int) < 1)||decide ((1024:Int) < (b.j4[i].j8.length:Int))||(b.j4[i].l8.take (y+1)).any a39):=(by rw [any_succ a39 b.j4[i].l8 y hy2,←Bool.or_assoc];rfl)
      have hf2:(W6 b i||(b.j4[i].l8.take y).any a3H||decide (b.j4[i].l8[y].Kind=7))=(W6 b i||(b.j4[i].l8.take (y+1)).any a3H):=(by rw [any_succ a3H b.j4[i].l8 y hy2,←Bool.or_assoc];rfl)
      refine .region a8 (.mv a8 (.p (.add (.t a8) (.i a8) (by omega) (by omega) (.ag a8 (.nil ?_)))))
      refine⟨y+1,.cons (congrArg (fun q=>some (AV.v q)) hf1) (.cons (congrArg (fun q=>some (AV.v q)) hf2) (.c2 rfl rfl (.c2 rfl rfl (.cons rfl (.nil _))))),rfl,?_,by omega⟩
      omega
     ·refine .exit (.seq ?_)
      have hy:b.j4[i].l8.length≤y:=by(have hx:¬((y:Int) < (b.j4[i].l8.length:Int)):=hc87;omega)
      refine .region a8 (.p (.assign (.i a8) (.nil (.block (.F4 (α:=Nat) [(1,_),(3,_),(4,_),(6,_),(7,_)] (fun z R=>(5,.v (U6 b.j4 i||(b.j4.take z).any fun d=>decide (d.j8=b.j4[i].j8)))::(9,.v (z:Int))::R) (Function.const _ _) (fun z=>z≤i) (fun z=>i - z) (0) (.c2 a8 a8 (.c2 a8 a8 (.cons a8 (.nil _)))) ?_ (.cons (congrArg (fun q=>some (AV.v q)) (Bool.or_false _).symm) (.c2 a8 a8 (.c2 a8 a8 (.c2 a8 a8 (.nil _))))) (a8) fun z hF => ?_)))))
      ·simp
      refine .seq (.sr a8 (.mv a8 (.mv a8 (.p (.lss (.t a8) (.t a8) (.nil (.o8 (.t a8) (fun hc112 => ?_) (fun hc112 => ?_))))))))
      ·refine .skip (.seq (.block ?_))
       have hz2:z < b.j4.length:=by omega
       refine .draw (by kernel_rfl) 13 [[],[(115,0)],[],[(117,2)],[],[(119,4)],[],[(120,5),(121,6)],[(122,7)],[(123,8)],[(118,3),(124,9)],[(116,1),(125,10)],[(126,11)]] a8 (by kernel_rfl) a8 ?_
       refine⟨_,j6.move (.t a8) a8,?_⟩
       refine⟨_,j6.move (.t a8) a8,?_⟩
       refine⟨_,⟨_,_,a8,a8,fun hg117=>j6.m0 p5.l0 (fun x=>x.j8) a0Z a8 (fun _=>a8) (.t a8) a8⟩,?_⟩
       refine⟨_,⟨_,_,a8,a8,fun hg118=>j6.x3 P1 (.q a8 hg118) a8⟩,?_⟩
       refine⟨_,⟨_,_,a8,a8,fun hg119=>j6.m0 m6.l5 (fun x=>x.j4) R6 a8 (fun _=>a8) (.t a8) a8⟩,?_⟩
       refine⟨_,⟨_,_,a8,a8,fun hg120=>j6.x3 a3w (.q a8 hg120) a8⟩,?_⟩
       refine⟨_,⟨_,_,a8,a8,fun hg121=>j6.move (.t a8) a8⟩,?_⟩
       refine⟨_,⟨_,_,a8,a8,fun hg122=>j6.idx P8 Tryz.underlying27 (.q a8 hg122) (.q a8 hg122) (by first|omega|(simp;omega)|(have:=hg122;simp at this;omega)) (by first|omega|(simp;omega)|(have:=hg122;simp at this;omega)) a8⟩,?_⟩
       refine⟨_,⟨_,_,a8,a8,fun hg123=>j6.m0 p5.l0 (fun x=>x.j8) a0Z a8 (fun _=>a8) (.q a8 hg123) a8⟩,?_⟩
       refine⟨_,⟨_,_,a8,a8,fun hg124=>j6.x3 P1 (.q a8 hg124) a8⟩,?_⟩
       refine⟨_,⟨_,_,a8,a8,fun hg125=>j6.m9 hG (a6V _ _) (.cons (.q a8 hg125) (.cons (.q a8 hg125) .nil)) a8⟩,?_⟩
       refine⟨_,j6.E0 (.t a8) (fun hp=>(.q a8 hp)) a8,?_⟩
       refine⟨_,j6.assign (.t a8) a8,?_⟩
       show F8 _ _ _ _ _ _ ((5,_)::(126,_)::(125,_)::(124,_)::(123,_)::(122,_)::(121,_)::(120,_)::(119,_)::(118,_)::(117,_)::(116,_)::(115,_)::_) _
       refine .nil ?_
       have hf3:(U6 b.j4 i||((b.j4.take z).any fun d=>decide (d.j8=b.j4[i].j8))||decide (b.j4[i].j8=b.j4[z].j8))=(U6 b.j4 i||(b.j4.take (z+1)).any fun d=>decide (d.j8=b.j4[i].j8)):=(by rw [any_succ _ b.j4 z hz2,←Bool.or_assoc,decide_eq_decide.2 (show b.j4[i].j8=b.j4[z].j8↔b.j4[z].j8=b.j4[i].j8 from eq_comm)])
       refine .region a8 (.mv a8 (.p (.add (.t a8) (.i a8) (by omega) (by omega) (.ag a8 (.nil ?_)))))
       refine⟨z+1,.cons (congrArg (fun q=>some (AV.v q)) hf3) (.c2 rfl rfl (.c2 rfl rfl (.c2 rfl rfl (.nil _)))),rfl,?_,by omega⟩
       omega
      ·refine .exit ?_
       have he1:(a0r b i||decide ((b.j4[i].j8.length:Int) < 1)||decide ((1024:Int) < (b.j4[i].j8.length:Int))||(b.j4[i].l8.take y).any a39)=a0r b (i+1):=(by rw [b2r b i hi,List.take_of_length_le hy])
       have he2:(W6 b i||(b.j4[i].l8.take y).any a3H)=W6 b (i+1):=(by rw [b0S b i hi,List.take_of_length_le hy])
       have hz:z=i:=by omega
       have he3:(U6 b.j4 i||(b.j4.take z).any fun d=>decide (d.j8=b.j4[i].j8))=U6 b.j4 (i+1):=(by rw [hz,a34 b.j4 i hi])
       refine .region a8 (.mv a8 (.p (.add (.t a8) (.i a8) (by omega) (by omega) (.ag a8 (.nil ?_)))))
       refine⟨i+1,.cons (congrArg (fun q=>some (AV.v q)) he1) (.cons (congrArg (fun q=>some (AV.v q)) he2) (.cons (congrArg (fun q=>some (AV.v q)) he3) (.c2 rfl rfl (.nil _)))),rfl,?_,by omega⟩
       exact⟨by omega,by rw [any_succ a1L _ i hi,h2];unfold a1L;rw [decide_eq_false (by omega)];rfl⟩
   ·refine .exit (.seq (.block (.seq ?_)))
    obtain rfl:i=b.j4.length:=by omega
    rw [List.take_length] at h2
    have hm:=b9P hc49 h2
    have hr:=a0Q hc33
    refine .region a8 (.mv a8 (.ag a8 (.nil (.cond (.t a8) (fun hc127 => ?_) (fun hc127 => ?_)))))
    ·refine .sr a8 (.p (.assign (.i a8) (.nil (.ret ?_))))
     refine⟨_,.r1 a8 (.tmp a8),?_⟩
     rw [b9R hr hm hc127]
    ·refine .sr a8 (.mv a8 (.ag a8 (.nil (.cond (.t a8) (fun hc129 => ?_) (fun hc129 => ?_)))))
     ·refine .sr a8 (.p (.assign (.i a8) (.nil (.ret ?_))))
      refine⟨_,.r1 a8 (.tmp a8),?_⟩
      rw [b9S hr hm hc127 hc129]
     ·refine .sr a8 (.mv a8 (.ag a8 (.nil (.cond (.t a8) (fun hc131 => ?_) (fun hc131 => ?_)))))
      ·refine .sr a8 (.p (.assign (.i a8) (.nil (.ret ?_))))
       refine⟨_,.r1 a8 (.tmp a8),?_⟩
       rw [b8m hr hm hc127 hc129 hc131]
      ·refine .seq ?_
       have h0:=b9T hr hm hc127 hc129 hc131
       refine .region a8 (.p (.x3 a0d (.t a8) (.p (.m9 hG (b8l _ (a4N h0)) (.cons (.t a8) .nil) (.p (.len Tryz.underlying86 (.t a8) (.p (.gtr (.t a8) (.i a8) (.ag a8 (.nil (.cond (.t a8) (fun hc133 => ?_) (fun hc133 => ?_))))))))))))
       ·refine .sr a8 (.p (.assign (.i a8) (.nil (.ret ?_))))
        refine⟨_,.r1 a8 (.tmp a8),?_⟩
        rw [a7C h0 (by simp only [decide_eq_true_eq] at hc133;omega)]
       ·refine .skip (.sr a8 (.p (.assign (.i a8) (.nil (.ret ?_)))))
        refine⟨_,.r1 a8 (.tmp a8),?_⟩
        rw [a7D h0 (by simp only [decide_eq_false_iff_not] at hc133;omega)]
theorem b3U (l:List Epo) (p:Epo→Bool):u1 gl Tryz.prog 36 [.v l,.a8z Tryz.prog p] (fun r=>r = .v (idx l p)):=by
 refine u1.intro Tryz.func36 rfl (by kernel_rfl) 19 rfl rfl _ rfl fun C hC hG=>(.sr rfl (.p (.assign (.i rfl) (.nil (.seq (.seq (.Y4 0 rfl fun hl0=>(.region rfl (.mv rfl (.p (.len Tryz.underlying30 (.t rfl) (.p (.move (.i rfl) (.nil (.block (.F4 (α:=Nat) [(0,_),(1,_),(7,_)] (fun k R=>(8,.v (k:Int))::R) (fun k => []) (fun k=>k≤l.length∧∀ j (hj:j < l.length),j < k→p l[j]=false) (fun k=>l.length - k) (0) (.c2 rfl rfl (.cons rfl (.nil _))) ?_ (.c2 rfl rfl (.c2 rfl rfl (.nil _))) (rfl) fun k hF => ?_))))))))))))))))
 ·simp
 obtain⟨h1,h2⟩:=hF
 refine .sr a8 (.p (.lss (.t a8) (.t a8) (.nil (.seq (.o8 (.t a8) (fun hc9 => ?_) (fun hc9 => ?_))))))
 ·refine .skip (.seq (.block (.sr a8 (.mv a8 (.ag a8 (.nil (.sr a8 (.mv a8 (.mv a8 (.mv a8 (.p (.idx a4z Tryz.underlying30 (.t a8) (.t a8) (by omega) (by omega) (.p (.x3 a4z (.t a8) (.p (.a4C a8 (.t a8) (.nil (.cond (.t a8) (fun hc16 => ?_) (fun hc16 => ?_)))))))))))))))))))
  ·refine .sr a8 (.mv a8 (.ag a8 (.nil (.ret ?_))))
   refine⟨_,.r1 a8 (.tmp a8),?_⟩
   rw [a8A (by omega) (by simpa using hc16) h2]
  ·refine .skip (.region a8 (.p (.add (.t a8) (.i a8) (by omega) (by omega) (.mv a8 (.nil ?_)))))
   refine⟨k+1,.c2 rfl rfl (.c2 rfl rfl (.nil _)),rfl,?_,by omega⟩
   refine⟨by omega,fun j hj hjk => ?_⟩;rcases Nat.lt_or_ge j k with h|h;exact h2 j hj h;(obtain rfl:j=k:=by omega);simpa using hc16
 ·refine .exit (.sr a8 (.p (.assign (.i a8) (.nil (.ret ?_)))))
  refine⟨_,.r1 a8 (.tmp a8),?_⟩
  rw [a3y fun j hj=>h2 j hj (by omega)]
theorem b5a (f:Tag) (o:Bool) (t:Tag):u1 gl Tryz.prog 41 [.v f,.v o,.v t] (fun r=>r = .v (o&&decide (f=t))):=by
 refine u1.intro Tryz.func41 rfl (by kernel_rfl) 13 rfl rfl _ rfl fun C hC hG=>(.sr rfl (.h (.box (.t rfl) fun b3 => .h (.box (.t rfl) fun b5 => .p (.assign .b (.nil (.sr rfl (.mv rfl (.mv rfl (.go 8 rfl (.t rfl) (fun hg9 => .I4 p3 (.t rfl) .z1 rfl) (.go 8 rfl (.t rfl) (fun hg10 => .I4 p3 (.t rfl) .z rfl) (.go 8 rfl (.t rfl) (fun hg11 => .a6e Tryz.underlying26 sz5 Tryz.underlying5 a92 (.q rfl hg11) (.q rfl hg11) rfl) (.p (.u0 (.t rfl) (fun hp=>(.q rfl hp)) (.ag rfl (.nil (.ret ?_)))))))))))))))))
 refine⟨_,.r1 a8 (.tmp a8),?_⟩
 rfl
theorem b9U (d:Bnd) (c:Cav):u1 gl Tryz.prog 100 [.v d,.p c] (fun r=>r = .v (decide (d.j8=c.j8))):=by
 refine u1.intro Tryz.func100 rfl (by kernel_rfl) 9 rfl rfl _ rfl fun C hC hG=>(.sr rfl (.h (.box (.t rfl) fun b2 => .p (.assign .b (.nil (.sr rfl (.p (.x4 p5.l0 a0Z rfl (.t rfl) (.p (.K0 (fun x=>x.j8) P1 (.t rfl) .z (fun _=>rfl) (.p (.m0 m7.l3 (fun x=>x.j8) a3c rfl (fun _=>rfl) (.t rfl) (.p (.x3 P1 (.t rfl) (.p (.m9 hG (a05 _ _) (.cons (.t rfl) (.cons (.t rfl) .nil)) (.ag rfl (.nil (.ret ?_)))))))))))))))))))
 refine⟨_,.r1 a8 (.tmp a8),?_⟩
 rfl
theorem b0T {l:List Bnd} {t:List UInt8} {d:Bnd} (h:a23 l t=some d):d.j8=t:=by
 have:=List.find?_some h;simpa using this
theorem b3V {l:List UInt8} (h:l.length=32):(⟨l,h⟩:Tag)=R9 default l:=J7.ext (a65 h).symm
theorem b3W {b:Bool} (h:(!b)=true):b=false:=by cases b<;>simp_all
theorem b3X {b:Bool} (h:(!b)=false):b=true:=by cases b<;>simp_all
theorem b5b {p:Tag×Bool} {t:Tag} (h:(p.2&&decide (p.1=t))=true):p=(t,true):=by
 simp only [Bool.and_eq_true,decide_eq_true_eq] at h;exact Prod.ext h.2 h.1
theorem b5c {p:Tag×Bool} {t:Tag} (h:(p.2&&decide (p.1=t))=false):p≠(t,true):=by
 rintro rfl;simp at h
theorem c2F {p:Tag×Bool} {t:Tag} (h:(!p.2||decide (p.1≠t))=false):p=(t,true):=by
 simp only [Bool.or_eq_false_iff,decide_eq_false_iff_not,Bool.not_eq_false',Decidable.not_not] at h;exact Prod.ext h.2 h.1
theorem c0K {a:C7} {b:Y0} {c:Cav} {t leaf:Tag} (h:(m8 a t (D1 c.j8)).2=false∨(C4 a (m8 a t (D1 c.j8)).1 c.X3).2≠0∨(C4 a (m8 a t (D1 c.j8)).1 c.X3).1.length≠32):Z9 a b c t leaf=14:=by
 unfold Z9
 rcases h with h|h
 ·rw [if_pos h]
 ·by_cases h2:(m8 a t (D1 c.j8)).2=false
  ·rw [if_pos h2]
  ·rw [if_neg h2,if_pos h]
theorem b9V {a : C7} {b : Y0} {c : Cav} {t leaf : Tag} (h : ¬ (m8 a t (D1 c.j8)).2 = false) (h2 : ¬ ((C4 a (m8 a t (D1 c.j8)).1 c.X3).2 ≠ 0 ∨ (C4 a (m8 a t (D1 c.j8)).1 c.X3).1.length ≠ 32)) :
    Z9 a b c t leaf=match a23 b.j4 c.j8 with
      | none=>17
      | some d =>
        if (a1E a (R9 default (C4 a (m8 a t (D1 c.j8)).1 c.X3).1) c.j8 d.l8).2=false then 20 else
        if U5 a (a1E a (R9 default (C4 a (m8 a t (D1 c.j8)).1 c.X3).1) c.j8 d.l8).1 leaf b.Request≠(d.Proof,true) then 20 else 0:=by
  unfold Z9;rw [if_neg h,if_neg h2];rfl
theorem c1x (a:C7) (b:Y0) (c:Cav) (t leaf:Tag) (hpl:∀ x∈a.x7,x.Plain.length≤1000000) (hc:c.j8.length≤1024):u1 gl Tryz.prog 42 [.v a,.v b,.v c,.v t,.v leaf] (fun r=>r = .v (Z9 a b c t leaf)):=by
 refine u1.intro Tryz.func42 rfl (by kernel_rfl) 85 rfl rfl _ rfl fun C hC hG=>(.sr rfl (.h (.box (.t rfl) fun b5 => .h (.box (.t rfl) fun b6 => .h (.box (.t rfl) fun b7 => .h (.box (.t rfl) fun b8 => .h (.box (.t rfl) fun b9 => .p (.assign (.i rfl) (.nil (.seq (.B0 hC .z4 (.Q5 5 rfl .z4 (.B0 hC .z3 (.Q5 6 rfl .z3 (.B0 hC .z2 (.Q5 7 rfl .z2 (.B0 hC .z1 (.Q5 8 rfl .z1 (.B0 hC .z ?_)))))))))))))))))))
 refine .Q5 9 a8 .z (.del .z (.del .z (.del .z (.del .z (.del .z (.E7 [] (by kernel_rfl) 12 [[],[],[],[(22,2)],[(23,3)],[(20,0),(21,1),(24,4)],[(25,5)],[(19,6)],[(19,6)],[],[(11,9),(26,7)],[(27,8)]] [9,10] a8 (by kernel_rfl) a8 (by kernel_rfl) (by decide) ?_))))))
 refine⟨_,fun H=>j6.x3 u7 (.t a8) a8,?_⟩
 refine⟨_,fun H=>j6.x3 p3 (.t a8) a8,?_⟩
 refine⟨_,fun H=>j6.m0 m7.l3 (fun x=>x.j8) a3c a8 (fun _=>a8) (.t a8) a8,?_⟩
 refine⟨_,fun H=>j6.x3 P1 (.t a8) a8,?_⟩
 refine⟨_,fun H=>j6.m9 hG (a9O _ _ (by decide) (by omega)) (.cons (.s [115,101,97,108] (by decide) (by decide)) (.cons (.t a8) .nil)) a8,?_⟩
 refine⟨_,fun H=>j6.m9 hG (a1x _ _ _) (.cons (.t a8) (.cons (.t a8) (.cons (.t a8) .nil))) a8,?_⟩
 refine⟨_,fun H=>j6.move (.t a8) a8,?_⟩
 refine⟨_,fun H=>j6.E5 (.t a8) a8,?_⟩
 refine⟨_,fun H=>j6.E6 (.t a8) a8,?_⟩
 refine .inl (.inl ?_)
 refine⟨_,fun H=>j6.assign (.t a8) a8,?_⟩
 refine⟨⟨([],j2 []),a8⟩,?_⟩
 refine A6.alloc p3 fun b11 => ?_
 refine⟨⟨([_],j2 []),a8⟩,?_⟩
 refine A6.C8 p3 (.t rfl) (.t rfl) .z ?_
 refine⟨⟨([_],j2 []),a8⟩,?_⟩
 show F8 _ _ _ _ _ _ ((12,_)::(11,_)::(27,_)::(26,_)::(19,_)::(25,_)::(24,_)::(23,_)::(22,_)::(21,_)::(20,_)::_) _
 refine .nil (.seq (.sr a8 (.mv a8 (.p (.not (.t a8) (.nil (.cond (.t a8) (fun hc29 => ?_) (fun hc29 => ?_))))))))
 ·refine .sr a8 (.p (.assign (.i a8) (.nil (.ret ?_))))
  refine⟨_,.r1 a8 (.tmp a8),?_⟩
  rw [c0K (Or.inl (by(have hx:(!(m8 a t (D1 c.j8)).2)=true:=hc29;simpa using hx)))]
 ·refine .skip (.seq ?_)
  have h1:¬(m8 a t (D1 c.j8)).2=false:=by(have hx:(!(m8 a t (D1 c.j8)).2)=false:=hc29;simpa using hx)
  refine .region a8 (.p (.x3 u7 (.t a8) (.p (.I4 p3 (.t a8) .z (.p (.m0 m7.l4 (fun x=>x.X3) a4u a8 (fun _=>a8) (.t a8) (.p (.x3 P1 (.t a8) (.p (.m9 hG (b5R _ _ _ hpl) (.cons (.t a8) (.cons (.t a8) (.cons (.t a8) .nil))) (.mv a8 (.p (.E5 (.t a8) (.p (.E6 (.t a8) (.ag a8 (.ag a8 (.nil (.seq (.sr a8 (.mv a8 (.p (.W8 (.t a8) (.i a8) (.mv a8 (.go 40 a8 (.t a8) (fun hg41 => .move (.t a8) a8) (.go 40 a8 (.t a8) (fun hg42 => .len Tryz.underlying86 (.q a8 hg42) a8) (.go 40 a8 (.t a8) (fun hg43 => .W8 (.q a8 hg43) (.i a8) a8) (.p (.E0 (.t a8) (fun hp=>(.q a8 hp)) (.nil (.cond (.t a8) (fun hc44 => ?_) (fun hc44 => ?_))))))))))))))))))))))))))))))))
  ·refine .sr a8 (.p (.assign (.i a8) (.nil (.ret ?_))))
   refine⟨_,.r1 a8 (.tmp a8),?_⟩
   rw [c0K (Or.inr (by(have hx:(decide ((C4 a (m8 a t (D1 c.j8)).1 c.X3).2≠0)||decide (((C4 a (m8 a t (D1 c.j8)).1 c.X3).1.length:Int)≠32))=true:=hc44);simp only [Bool.or_eq_true,decide_eq_true_eq] at hx;rcases hx with hx|hx;exact Or.inl hx;exact Or.inr (by omega)))]
  ·refine .skip (.seq ?_)
   have h2:(C4 a (m8 a t (D1 c.j8)).1 c.X3).2=0∧(C4 a (m8 a t (D1 c.j8)).1 c.X3).1.length=32:=(by(have hx:(decide ((C4 a (m8 a t (D1 c.j8)).1 c.X3).2≠0)||decide (((C4 a (m8 a t (D1 c.j8)).1 c.X3).1.length:Int)≠32))=false:=hc44);simp only [Bool.or_eq_false_iff,decide_eq_false_iff_not,Decidable.not_not] at hx;exact⟨hx.1,by omega⟩)
   rw [b9V h1 (by rintro (h|h);exact h h2.1;exact h h2.2)]
   refine .region a8 (.p (.m0 m6.l5 (fun x=>x.j4) R6 a8 (fun _=>a8) (.t a8) (.p (.x3 a3w (.t a8) (.p (.b0s hG (fun x=>b9U x _) (.cons (.t a8) .nil) (.p (.m9 hG (a8O _ _) (.cons (.t a8) (.cons (.t a8) .nil)) (.ag a8 (.nil (.seq (.sr a8 (.mv a8 (.p (.lss (.t a8) (.i a8) (.nil (.o8 (.t a8) (fun hc50 => ?_) (fun hc50 => ?_))))))))))))))))))
   ·refine .sr a8 (.p (.assign (.i a8) (.nil (.ret ?_))))
    refine⟨_,.r1 a8 (.tmp a8),?_⟩
    unfold a23
    rw [b0B (show ¬0≤idx b.j4 (fun d=>decide (d.j8=c.j8)) from fun hx=>absurd hc50 (Int.not_lt.2 hx))]
   ·refine .skip (.seq ?_)
    have hi0:0≤idx b.j4 (fun d=>decide (d.j8=c.j8)):=Int.not_lt.1 hc50
    have hi1:=b3m hi0
    have hd:a23 b.j4 c.j8=some b.j4[(idx b.j4 (fun d=>decide (d.j8=c.j8))).toNat]:=b0A hi0 (by omega)
    have hdt:=b0T hd
    rw [hd]
    dsimp only
    refine .region a8 (.p (.m0 m6.l5 (fun x=>x.j4) R6 a8 (fun _=>a8) (.t a8) (.p (.x3 a3w (.t a8) (.mv a8 (.p (.idx P8 Tryz.underlying27 (.t a8) (.t a8) (by omega) (by omega) (.p (.x3 P8 (.t a8) (.h (.alloc P8 fun b16=>(.n (.C8 P8 (.t a8) (.t a8) .z (.nil (.seq (.B0 hC .z (.Q5 16 a8 .z ?_)))))))))))))))))
    have ed:a1E a (R9 default (C4 a (m8 a t (D1 c.j8)).1 c.X3).1) c.j8 b.j4[(idx b.j4 (fun d=>decide (d.j8=c.j8))).toNat].l8=a1E a ⟨(C4 a (m8 a t (D1 c.j8)).1 c.X3).1,h2.2⟩ b.j4[(idx b.j4 (fun d=>decide (d.j8=c.j8))).toNat].j8 b.j4[(idx b.j4 (fun d=>decide (d.j8=c.j8))).toNat].l8:=(by rw [hdt,b3V h2.2])
    rw [ed]
    refine .E7 [j1,j1] (by kernel_rfl) 15 [[],[],[(58,1)],[(59,2)],[],[(61,4)],[],[(63,6)],[(57,0),(60,3),(62,5),(64,7)],[(65,8)],[(56,9)],[(56,9)],[],[(17,12),(66,10)],[(67,11)]] [12,13] a8 (by kernel_rfl) a8 (by kernel_rfl) (by decide) ?_
    refine⟨_,fun H=>j6.x3 u7 (.t a8) a8,?_⟩
    refine⟨_,fun H=>j6.move (.t a8) a8,?_⟩
    refine⟨_,fun H=>j6.b9w Tryz.underlying26 (by decide) (by decide) (.t a8) h2.2 a8,?_⟩
    refine⟨_,fun H=>j6.x3 p3 (.t a8) a8,?_⟩
    refine⟨_,fun H=>j6.m0 p5.l0 (fun x=>x.j8) a0Z a8 (fun _=>a8) (.t a8) a8,?_⟩
    refine⟨_,fun H=>j6.x3 P1 (.t a8) a8,?_⟩
    refine⟨_,fun H=>j6.m0 p5.l1 (fun x=>x.l8) a1t a8 (fun _=>a8) (.t a8) a8,?_⟩
    refine⟨_,fun H=>j6.x3 a4g (.t a8) a8,?_⟩
    refine⟨_,fun H=>j6.m9 hG (b7S _ _ _ _ (by rw [hdt];omega)) (.cons (.t a8) (.cons (.t a8) (.cons (.t a8) (.cons (.t a8) .nil)))) a8,?_⟩
    refine⟨_,fun H=>j6.move (.t a8) a8,?_⟩
    refine⟨_,fun H=>j6.E5 (.t a8) a8,?_⟩
    refine⟨_,fun H=>j6.E6 (.t a8) a8,?_⟩
    refine .inl (.inl ?_)
    refine⟨_,fun H=>j6.assign (.t a8) a8,?_⟩
    refine⟨⟨([],j2 [c8,c8]),a8⟩,?_⟩
    refine A6.alloc p3 fun b17 => ?_
    refine⟨⟨([_],j2 [c8,c8]),a8⟩,?_⟩
    refine A6.C8 p3 (.t rfl) (.t rfl) .z ?_
    refine⟨⟨([_],j2 [c8,c8]),a8⟩,?_⟩
    show F8 _ _ _ _ _ _ ((12,_)::(17,_)::(67,_)::(66,_)::(56,_)::(65,_)::(64,_)::(63,_)::(62,_)::(61,_)::(60,_)::(59,_)::(58,_)::(57,_)::_) _
    refine .nil (.seq (.sr a8 (.mv a8 (.p (.not (.t a8) (.nil (.cond (.t a8) (fun hc69 => ?_) (fun hc69 => ?_))))))))
    ·refine .sr a8 (.p (.assign (.i a8) (.nil (.ret ?_))))
     refine⟨_,.r1 a8 (.tmp a8),?_⟩
     have hx:(!(a1E a ⟨(C4 a (m8 a t (D1 c.j8)).1 c.X3).1,h2.2⟩ b.j4[(idx b.j4 (fun d=>decide (d.j8=c.j8))).toNat].j8 b.j4[(idx b.j4 (fun d=>decide (d.j8=c.j8))).toNat].l8).2)=true:=hc69
     rw [if_pos (by simpa using hx)]
    ·refine .skip (.seq ?_)
     have hx69:(!(a1E a ⟨(C4 a (m8 a t (D1 c.j8)).1 c.X3).1,h2.2⟩ b.j4[(idx b.j4 (fun d=>decide (d.j8=c.j8))).toNat].j8 b.j4[(idx b.j4 (fun d=>decide (d.j8=c.j8))).toNat].l8).2)=false:=hc69
     rw [if_neg (by simpa using hx69)]
     refine .region a8 (.p (.x3 u7 (.t a8) (.p (.I4 p3 (.t a8) .z (.p (.x3 p3 (.t a8) (.p (.m0 m6.l0 (fun x=>x.Request) a3O a8 (fun _=>a8) (.t a8) (.p (.x3 a3V (.t a8) (.p (.m9 hG (b5Z _ _ _ _) (.cons (.t a8) (.cons (.t a8) (.cons (.t a8) (.cons (.t a8) .nil)))) (.mv a8 (.p (.E5 (.t a8) (.p (.E6 (.t a8) (.h (.alloc p3 fun b18 => .n (.C8 p3 (.t a8) (.t a8) .z (.ag a8 (.nil (.seq (.sr a8 (.p (.I4 p3 (.t a8) .z (.mv a8 (.p (.m0 p5.l2 (fun x=>x.Proof) b2S a8 (fun _=>a8) (.t a8) (.p (.x3 p3 (.t a8) (.p (.m9 hG (b5a _ _ _) (.cons (.t a8) (.cons (.t a8) (.cons (.t a8) .nil))) (.p (.not (.t a8) (.nil (.cond (.t a8) (fun hc84 => ?_) (fun hc84 => ?_))))))))))))))))))))))))))))))))))))))
     ·refine .sr a8 (.p (.assign (.i a8) (.nil (.ret ?_))))
      refine⟨_,.r1 a8 (.tmp a8),?_⟩
      have hx:((U5 a (a1E a ⟨(C4 a (m8 a t (D1 c.j8)).1 c.X3).1,h2.2⟩ b.j4[(idx b.j4 (fun d=>decide (d.j8=c.j8))).toNat].j8 b.j4[(idx b.j4 (fun d=>decide (d.j8=c.j8))).toNat].l8).1 leaf b.Request).2&&decide ((U5 a (a1E a ⟨(C4 a (m8 a t (D1 c.j8)).1 c.X3).1,h2.2⟩ b.j4[(idx b.j4 (fun d=>decide (d.j8=c.j8))).toNat].j8 b.j4[(idx b.j4 (fun d=>decide (d.j8=c.j8))).toNat].l8).1 leaf b.Request).1=b.j4[(idx b.j4 (fun d=>decide (d.j8=c.j8))).toNat].Proof))=false:=b3W hc84
      rw [if_pos (b5c hx)]
     ·refine .skip (.sr a8 (.p (.assign (.i a8) (.nil (.ret ?_)))))
      refine⟨_,.r1 a8 (.tmp a8),?_⟩
      have hx:((U5 a (a1E a ⟨(C4 a (m8 a t (D1 c.j8)).1 c.X3).1,h2.2⟩ b.j4[(idx b.j4 (fun d=>decide (d.j8=c.j8))).toNat].j8 b.j4[(idx b.j4 (fun d=>decide (d.j8=c.j8))).toNat].l8).1 leaf b.Request).2&&decide ((U5 a (a1E a ⟨(C4 a (m8 a t (D1 c.j8)).1 c.X3).1,h2.2⟩ b.j4[(idx b.j4 (fun d=>decide (d.j8=c.j8))).toNat].j8 b.j4[(idx b.j4 (fun d=>decide (d.j8=c.j8))).toNat].l8).1 leaf b.Request).1=b.j4[(idx b.j4 (fun d=>decide (d.j8=c.j8))).toNat].Proof))=true:=b3X hc84
      rw [if_neg (by rw [b5b hx];simp)]
theorem a8P {α:Type} {l:List α} {p:α→Bool} {k:Nat} (h:k < l.length) (h1:p l[k]=true) (h2:∀ j (hj:j < l.length),j < k→p l[j]=false):l.find? p=some l[k] :=
 List.find?_eq_some_iff_getElem.2 ⟨h1,k,h,rfl,fun j hj=>by rw [h2 j (by omega) hj];rfl⟩
theorem a8Q {α:Type} {l:List α} {p:α→Bool} (h:∀ j (hj:j < l.length),p l[j]=false):l.find? p=none :=
 List.find?_eq_none.2 fun x hx=>by
  obtain⟨j,hj,rfl⟩:=List.getElem_of_mem hx
  rw [h j hj];decide
theorem c1y (b:Y0) (t:List UInt8):u1 gl Tryz.prog 113 [.v b,.v t] (fun r=>r = .t2 (.v ((a23 b.j4 t).getD default)) (.v (a23 b.j4 t).isSome)):=by
 refine u1.intro Tryz.func113 rfl (by kernel_rfl) 28 rfl rfl _ rfl fun C hC hG=>(.sr rfl (.h (.box (.t rfl) fun b2 => .h (.alloc P8 fun b4 => .p (.assign .b (.nil (.seq (.seq (.B0 hC .z1 (.Q5 2 rfl .z1 (.del (.s .z) (.region rfl (.p (.assign (.i rfl) (.nil (.block (.F4 (α:=Nat) [(1,_),(2,_),(4,_)] (fun k R=>(6,.v (k:Int))::R) (Function.const _ _) (fun k=>k≤b.j4.length∧∀ j (hj:j < b.j4.length),j < k→decide (b.j4[j].j8=t)=false) (fun k=>b.j4.length - k) (0) (.c2 rfl rfl (.cons rfl (.nil _))) ?_ (.c2 rfl rfl (.c2 rfl rfl (.nil _))) (rfl) fun k hF => ?_)))))))))))))))))
 ·simp
 obtain⟨h1,h2⟩:=hF
 refine .seq (.sr a8 (.mv a8 (.p (.m0 m6.l5 (fun x=>x.j4) R6 a8 (fun _=>a8) (.t a8) (.p (.x3 a3w (.t a8) (.p (.len Tryz.underlying27 (.t a8) (.p (.lss (.t a8) (.t a8) (.nil (.o8 (.t a8) (fun hc11 => ?_) (fun hc11 => ?_)))))))))))))
 ·refine .skip (.seq (.block (.sr a8 (.p (.m0 m6.l5 (fun x=>x.j4) R6 a8 (fun _=>a8) (.t a8) (.p (.x3 a3w (.t a8) (.mv a8 (.p (.idx P8 Tryz.underlying27 (.t a8) (.t a8) (by omega) (by omega) (.p (.m0 p5.l0 (fun x=>x.j8) a0Z a8 (fun _=>a8) (.t a8) (.p (.x3 P1 (.t a8) (.mv a8 (.p (.m9 hG (a6V _ _) (.cons (.t a8) (.cons (.t a8) .nil)) (.nil (.cond (.t a8) (fun hc21 => ?_) (fun hc21 => ?_))))))))))))))))))))
  ·refine .sr a8 (.p (.m0 m6.l5 (fun x=>x.j4) R6 a8 (fun _=>a8) (.t a8) (.p (.x3 a3w (.t a8) (.mv a8 (.p (.idx P8 Tryz.underlying27 (.t a8) (.t a8) (by omega) (by omega) (.p (.x3 P8 (.t a8) (.n (.C8 P8 (.t a8) (.t a8) .z (.p (.assign .b (.nil (.ret ?_)))))))))))))))
   refine⟨_,.r2 a8 (.cell P8 a8 .z) (.tmp a8),?_⟩
   have e:a23 b.j4 t=some b.j4[k]:=a8P (by omega) hc21 h2
   rw [e];rfl
  ·refine .skip (.Y4 9 a8 fun hl9=>(.region a8 (.mv a8 (.p (.add (.t a8) (.i a8) (by omega) (by omega) (.ag a8 (.nil ?_)))))))
   refine⟨k+1,.c2 rfl rfl (.c2 rfl rfl (.nil _)),rfl,?_,by omega⟩
   refine⟨by omega,fun j hj hjk => ?_⟩;rcases Nat.lt_or_ge j k with h|h;exact h2 j hj h;(obtain rfl:j=k:=by omega);exact hc21
 ·refine .exit (.sr a8 (.p (.bS0 (α:=p5) a8 P8 b6R (.n (.C8 P8 (.t a8) (.t a8) .z (.p (.assign .b (.nil (.ret ?_)))))))))
  refine⟨_,.r2 a8 (.cell P8 a8 .z) (.tmp a8),?_⟩
  have e:a23 b.j4 t=none:=a8Q fun j hj=>h2 j hj (by omega)
  rw [e];rfl
theorem b9W (b:Y0):u1 gl Tryz.prog 43 [.v b] (fun r=>r = .v (a64 b)):=by
 refine u1.intro Tryz.func43 rfl (by kernel_rfl) 32 rfl rfl _ rfl fun C hC hG=>(.sr rfl (.h (.box (.t rfl) fun b1 => .p (.assign .b (.nil (.scope (.seq (.label (.seq (.seq (.B0 hC .z (.Q5 1 rfl .z (.del .z (.region rfl (.p (.m0 m6.l5 (fun x=>x.j4) R6 rfl (fun _=>rfl) (.t rfl) (.p (.x3 a3w (.t rfl) (.p (.len Tryz.underlying27 (.t rfl) (.p (.move (.i rfl) ?_))))))))))))))))))))))
 refine .nil (.block (.F4 (α:=Nat) [(1,_),(8,_),(9,_)] (fun i R=>(10,.v (i:Int))::R) (Function.const _ _) (fun i=>i≤b.j4.length∧(b.j4.take i).any (a5Z b)=false) (fun i=>b.j4.length - i) (0) (.c2 a8 a8 (.cons a8 (.nil _))) ?_ (.c2 a8 a8 (.c2 a8 a8 (.nil _))) (a8) fun i hF => ?_))
 ·exact⟨Nat.zero_le _,a8⟩
 obtain⟨h1,h2⟩:=hF
 refine .seq (.Y4 8 a8 fun hl8=>(.region a8 (.p (.lss (.t a8) (.t a8) (.nil (.seq (.o8 (.t a8) (fun hc11 => ?_) (fun hc11 => ?_))))))))
 ·refine .skip (.seq (.block (.sr a8 (.p (.idx P8 Tryz.underlying27 (.t a8) (.t a8) (by omega) (by omega) (.p (.x3 P8 (.t a8) (.h (.alloc P8 fun b4 => .n (.C8 P8 (.t a8) (.t a8) .z (.nil (.seq (.seq (.B0 hC .z (.Q5 4 a8 .z (.del .z ?_))))))))))))))))
  have hi:i < b.j4.length:=by omega
  refine .region a8 (.p (.m0 m6.l3 (fun x=>x.l9) a0m a8 (fun _=>a8) (.t a8) (.p (.x3 a3f (.t a8) (.p (.len Tryz.underlying24 (.t a8) (.p (.move (.i a8) (.nil (.block (.F4 (α:=Nat) [(1,_),(4,_),(8,_),(9,_),(10,_),(15,_),(16,_)] (fun k R=>(17,.v (k:Int))::R) (Function.const _ _) (fun k=>k≤b.l9.length∧(b.l9.take k).any (fun c:Cav=>c.M1&&decide (c.j8=b.j4[i].j8))=false) (fun k=>b.l9.length - k) (0) (.c2 a8 a8 (.c2 a8 a8 (.c2 a8 a8 (.cons a8 (.nil _))))) ?_ (.c2 a8 a8 (.c2 a8 a8 (.c2 a8 a8 (.c2 a8 a8 (.nil _))))) (a8) fun k hF => ?_)))))))))))
  ·exact⟨Nat.zero_le _,a8⟩
  obtain⟨h3,h4⟩:=hF
  refine .seq (.Y4 15 a8 fun hl15=>(.region a8 (.p (.lss (.t a8) (.t a8) (.nil (.seq (.o8 (.t a8) (fun hc18 => ?_) (fun hc18 => ?_))))))))
  ·refine .skip (.seq (.block (.sr a8 (.p (.idx T7 Tryz.underlying24 (.t a8) (.t a8) (by omega) (by omega) (.p (.x3 T7 (.t a8) (.h (.alloc T7 fun b6 => .n (.C8 T7 (.t a8) (.t a8) .z (.nil (.seq (.B0 hC .z (.Q5 6 a8 .z (.del .z ?_)))))))))))))))
   have hk:k < b.l9.length:=by omega
   refine .region a8 (.p (.m0 m7.l0 (fun x=>x.M1) a3Q a8 (fun _=>a8) (.t a8) (.p (.x3 ty4 (.t a8) (.mv a8 (.go 23 a8 (.t a8) (fun hg24 => .m0 m7.l3 (fun x=>x.j8) a3c a8 (fun _=>a8) (.t a8) a8) (.go 23 a8 (.t a8) (fun hg25 => .x3 P1 (.q a8 hg25) a8) (.go 23 a8 (.t a8) (fun hg26 => .m0 p5.l0 (fun x=>x.j8) a0Z a8 (fun _=>a8) (.t a8) a8) (.go 23 a8 (.t a8) (fun hg27 => .x3 P1 (.q a8 hg27) a8) (.go 23 a8 (.t a8) (fun hg28 => .m9 hG (a05 _ _) (.cons (.q a8 hg28) (.cons (.q a8 hg28) .nil)) a8) (.p (.u0 (.t a8) (fun hp=>(.q a8 hp)) (.nil (.cond (.t a8) (fun hc29 => ?_) (fun hc29 => ?_)))))))))))))))
   ·refine .exit ?_
    have hex:a5Z b b.j4[i]=false:=(by unfold a5Z;rw [List.any_eq_true.2 ⟨b.l9[k],List.getElem_mem hk,hc29⟩];rfl)
    refine .region a8 (.p (.add (.t a8) (.i a8) (by omega) (by omega) (.mv a8 (.nil ?_))))
    refine⟨i+1,.c2 rfl rfl (.c2 rfl rfl (.nil _)),rfl,?_,by omega⟩
    exact⟨by omega,by rw [any_succ (a5Z b) _ i hi,h2,hex];rfl⟩
   ·refine .skip (.region a8 (.p (.add (.t a8) (.i a8) (by omega) (by omega) (.mv a8 (.nil ?_)))))
    refine⟨k+1,.c2 rfl rfl (.c2 rfl rfl (.c2 rfl rfl (.c2 rfl rfl (.nil _)))),rfl,?_,by omega⟩
    exact⟨by omega,by rw [any_succ (fun c:Cav=>c.M1&&decide (c.j8=b.j4[i].j8)) _ k hk,h4];exact hc29⟩
  ·refine .exit (.sr a8 (.p (.assign .b (.nil (.ret ?_)))))
   refine⟨_,.r1 a8 (.tmp a8),?_⟩
   have hex:a5Z b b.j4[i]=true:=(by rw [List.take_of_length_le (by omega)] at h4;unfold a5Z;rw [h4];rfl)
   have e:a64 b=true:=List.any_eq_true.2 ⟨_,List.getElem_mem hi,hex⟩
   rw [e]
 ·refine .exit (.sr a8 (.p (.assign .b (.nil (.ret ?_)))))
  refine⟨_,.r1 a8 (.tmp a8),?_⟩
  rw [List.take_of_length_le (by omega)] at h2
  have e:a64 b=false:=h2
  rw [e]
def a2M (b:List UInt8):Nat:=(b.take 7).findIdx fun c => !decide (127 < c)
def a6w:List UInt8→Nat
 | []=>0
 | c::l=>c.toNat % 128+128*a6w l
theorem b5d:∀ l:List UInt8,a6w l < 128^l.length
 | []=>by decide
 | c::l=>by
  have:=b5d l
  rw [List.length_cons,Nat.pow_succ];unfold a6w;omega
def a0a (b:List UInt8):Int×Int×Int :=
 if a2M b=7 then (0,0,5) else if a2M b=b.length then (0,0,3) else
 if (decide (0 < a2M b)&&decide (b.getD (a2M b) 0=0)) then (0,0,5) else
 if 281474976710656 < a6w (b.take (a2M b+1)) then (0,0,1) else ((a6w (b.take (a2M b+1)):Int),(a2M b:Int)+1,0)
theorem b8o (b:List UInt8):a2M b≤7∧a2M b≤b.length:=by
 have h:=List.findIdx_le_length (p:=fun c:UInt8 => !decide (127 < c)) (xs:=b.take 7)
 rw [List.length_take] at h
 unfold a2M;omega
theorem b8p {b:List UInt8} {k:Nat} (h1:k≤7) (h2:k≤b.length) (h3:∀ j (hj:j < b.length),j < k→decide (127 < b[j])=true) (h4:k=7∨k=b.length∨∃ h:k < b.length,decide (127 < b[k])=false):a2M b=k:=by
 unfold a2M
 by_cases e:k < (b.take 7).length
 ·rw [List.findIdx_eq e]
  rw [List.length_take] at e
  refine⟨?_,fun j hj => ?_⟩
  ·rcases h4 with h4|h4|⟨h4,h5⟩
   ·omega
   ·omega
   ·simp only [List.getElem_take];rw [h5];rfl
  ·simp only [List.getElem_take];rw [h3 j (by omega) hj];rfl
 ·rw [List.length_take] at e
  have:(b.take 7).length=k:=by rw [List.length_take];omega
  rw [←this]
  refine List.findIdx_eq_length.2 fun x hx => ?_
  obtain⟨j,hj,rfl⟩:=List.getElem_of_mem hx
  simp only [List.getElem_take]
  rw [List.length_take] at hj
  rw [h3 j (by omega) (by omega)];rfl
theorem b6i {b:List UInt8} {k j:Nat} (hk:k < b.length) (hj:j≤k) (hj2:j < b.length):a6w ((b.take (k+1)).drop j)=128*a6w ((b.take (k+1)).drop (j+1))+b[j].toNat % 128:=by
 have hl:j < (b.take (k+1)).length:=by rw [List.length_take];omega
 rw [List.drop_eq_getElem_cons hl]
 simp only [a6w,List.getElem_take];omega
theorem b5e {b:List UInt8} {k:Nat} (h:k < b.length):b.getD k default=b[k]:=by rw [List.getD_eq_getElem?_getD,List.getElem?_eq_getElem h];rfl
theorem a8R {b:List UInt8} {k j:Nat} (hk:k≤6):a6w ((b.take (k+1)).drop j) < 562949953421312:=by
 refine Nat.lt_of_lt_of_le (b5d _) ?_
 refine Nat.le_trans (Nat.pow_le_pow_right (by decide) (show((b.take (k+1)).drop j).length≤7 by simp;omega)) (by decide)
theorem b9X (b:List UInt8):u1 gl Tryz.prog 208 [.v b] (fun r=>r = .t3 (.v (a0a b).1) (.v (a0a b).2.1) (.v (a0a b).2.2)):=by
 refine u1.intro Tryz.func208 rfl (by kernel_rfl) 59 rfl rfl _ rfl fun C hC hG=>(.sr rfl (.p (.assign (.i rfl) (.p (.assign (.i rfl) (.p (.assign (.i rfl) (.nil (.seq (.Y4 0 rfl fun hl0=>(.region rfl (.p (.assign (.i rfl) (.nil (.seq (.block (.F4 (α:=Nat) [(0,_)] (fun k R=>(5,.v (k:Int))::R) (fun k => []) (fun k=>k≤7∧k≤b.length∧∀ j (hj:j < b.length),j < k→decide (127 < b[j])=true) (fun k=>7 - k) (0) (.cons rfl (.nil _)) ?_ (.c2 rfl rfl (.nil _)) (rfl) fun k hF => ?_)))))))))))))))))
 ·simp
 obtain⟨h1,h2,h3⟩:=hF
 refine .seq (.sr a8 (.mv a8 (.mv a8 (.p (.len Tryz.underlying86 (.t a8) (.p (.lss (.t a8) (.t a8) (.mv a8 (.go 12 a8 (.t a8) (fun hg13 => .move (.t a8) a8) (.go 12 a8 (.t a8) (fun hg14 => .lss (.q a8 hg14) (.i a8) a8) (.p (.u0 (.t a8) (fun hp=>(.q a8 hp)) (.mv a8 (.go 16 a8 (.t a8) (fun hg17 => .move (.t a8) a8) (.go 16 a8 (.t a8) (fun hg18 => .move (.t a8) a8) (.go 16 a8 (.t a8) (fun hg19 => .c2w U1 Tryz.underlying86 (.q a8 hg19) (.q a8 hg19) (by first|omega|(simp;omega)|(have:=hg19;simp at this;omega)) (by first|omega|(simp;omega)|(have:=hg19;simp at this;omega)) a8) (.go 16 a8 (.t a8) (fun hg20 => .x3 U1 (.q a8 hg20) a8) (.go 16 a8 (.t a8) (fun hg21 => .c0Z (.q a8 hg21) (.u8 127 a8) a8) (.p (.u0 (.t a8) (fun hp=>(.q a8 hp)) (.nil (.cond (.t a8) (fun hc22 => ?_) (fun hc22 => ?_)))))))))))))))))))))))
 ·refine .skip (.block ?_)
  have hlt1:k < b.length:=by(simp only [Bool.and_eq_true,decide_eq_true_eq] at hc22;omega)
  have hlt2:k < 7:=by(simp only [Bool.and_eq_true,decide_eq_true_eq] at hc22;omega)
  have hlt3:decide (127 < b[k])=true:=(by rw [←b5e hlt1];simp only [Bool.and_eq_true] at hc22;exact hc22.2)
  refine .region a8 (.mv a8 (.p (.add (.t a8) (.i a8) (by omega) (by omega) (.ag a8 (.nil ?_)))))
  refine⟨k+1,.c2 rfl rfl (.nil _),rfl,?_,by omega⟩
  refine⟨by omega,by omega,fun j hj hjk => ?_⟩;rcases Nat.lt_or_ge j k with h|h;exact h3 j hj h;(obtain rfl:j=k:=by omega);exact hlt3
 ·refine .exit (.seq (.seq ?_))
  have hcl:a2M b=k:=b8p h1 h2 h3 (by rcases Nat.lt_or_ge k 7 with h|h;rcases Nat.lt_or_ge k b.length with h5|h5;right;right;refine⟨h5,?_⟩;(rw [decide_eq_true (show(k:Int) < (b.length:Int) by omega),decide_eq_true (show(k:Int) < 7 by omega)] at hc22;rw [←b5e h5];exact hc22);right;left;omega;left;omega)
  refine .region a8 (.mv a8 (.p (.D4 (.t a8) (.i a8) (.nil (.o8 (.t a8) (fun hc26 => ?_) (fun hc26 => ?_))))))
  ·refine .sr a8 (.p (.assign (.i a8) (.p (.assign (.i a8) (.p (.assign (.i a8) (.nil (.ret ?_))))))))
   refine⟨_,.r3 a8 (.tmp a8) (.tmp a8) (.tmp a8),?_⟩
   have e:a0a b=(0,0,5):=(by unfold a0a;rw [if_pos (by omega)])
   rw [e]
  ·refine .skip (.seq (.sr a8 (.mv a8 (.mv a8 (.p (.len Tryz.underlying86 (.t a8) (.p (.D4 (.t a8) (.t a8) (.nil (.o8 (.t a8) (fun hc30 => ?_) (fun hc30 => ?_)))))))))))
   ·refine .sr a8 (.p (.assign (.i a8) (.p (.assign (.i a8) (.p (.assign (.i a8) (.nil (.ret ?_))))))))
    refine⟨_,.r3 a8 (.tmp a8) (.tmp a8) (.tmp a8),?_⟩
    have e:a0a b=(0,0,3):=(by unfold a0a;rw [if_neg (by omega),if_pos (by omega)])
    rw [e]
   ·refine .skip (.seq (.seq ?_))
    have hkl:k < b.length:=by omega
    have hgd:b.getD k 0=b[k]:=by rw [List.getD_eq_getElem?_getD,List.getElem?_eq_getElem hkl];rfl
    refine .region a8 (.mv a8 (.p (.gtr (.t a8) (.i a8) (.mv a8 (.go 33 a8 (.t a8) (fun hg34 => .move (.t a8) a8) (.go 33 a8 (.t a8) (fun hg35 => .move (.t a8) a8) (.go 33 a8 (.t a8) (fun hg36 => .c2w U1 Tryz.underlying86 (.q a8 hg36) (.q a8 hg36) (by first|omega|(simp;omega)|(have:=hg36;simp at this;omega)) (by first|omega|(simp;omega)|(have:=hg36;simp at this;omega)) a8) (.go 33 a8 (.t a8) (fun hg37 => .x3 U1 (.q a8 hg37) a8) (.go 33 a8 (.t a8) (fun hg38 => .c11 (.q a8 hg38) (.u8 0 a8) a8) (.p (.u0 (.t a8) (fun hp=>(.q a8 hp)) (.nil (.cond (.t a8) (fun hc39 => ?_) (fun hc39 => ?_))))))))))))))
    ·refine .sr a8 (.p (.assign (.i a8) (.p (.assign (.i a8) (.p (.assign (.i a8) (.nil (.ret ?_))))))))
     refine⟨_,.r3 a8 (.tmp a8) (.tmp a8) (.tmp a8),?_⟩
     have e:a0a b=(0,0,5):=(by unfold a0a;rw [if_neg (by omega),if_neg (by omega),hcl,if_pos (by simp only [Bool.and_eq_true,decide_eq_true_eq] at hc39 ⊢;exact⟨by omega,hc39.2⟩)])
     rw [e]
    ·refine .skip (.seq ?_)
     have hcz:(decide (0 < a2M b)&&decide (b.getD (a2M b) 0=0))=false:=(by rw [hcl,←hc39];congr 1;exact decide_eq_decide.2 (by omega))
     refine .region a8 (.p (.assign (.i a8) (.nil (.seq (.sr a8 (.mv a8 (.ag a8 (.nil (.block (.F4 (α:=Nat) [(0,_),(5,_)] (fun j R=>(6,.v ((a6w ((b.take (k+1)).drop j):Nat):Int))::(7,.v ((j:Int) - 1))::R) (fun j => []) (fun j=>j≤k+1) (fun j=>j) (k+1) (.c2 a8 a8 (.nil _)) ?_ (.cons (congrArg (fun q=>some (AV.v q)) (by simp [a6w])) (.cons (congrArg (fun q=>some (AV.v q)) (by omega)) (.c2 a8 a8 (.nil _)))) (a8) fun j hF => ?_))))))))))
     ·simp
     refine .seq (.sr a8 (.mv a8 (.p (.geq (.t a8) (.i a8) (.nil (.o8 (.t a8) (fun hc42 => ?_) (fun hc42 => ?_)))))))
     ·refine .skip (.seq (.block ?_))
      have hj0:1≤j:=by omega
      have hvs:=a8R (b:=b) (k:=k) (j:=j) (by omega)
      refine .region a8 (.mv a8 (.p (.mul (.i a8) (.t a8) (by omega) (by omega) (.mv a8 (.mv a8 (.p (.idx U1 Tryz.underlying86 (.t a8) (.t a8) (by omega) (by omega) (.p (.x3 U1 (.t a8) (.p (.b7a Tryz.underlying5 Tryz.underlying3 (.t a8) (.p (.rem (.t a8) (.i a8) (by omega) (by omega) (.p (.add (.t a8) (.t a8) (by omega) (by omega) (.ag a8 (.nil ?_)))))))))))))))))
      have hs:(128:Int)*((a6w ((b.take (k+1)).drop j):Nat):Int)+((b[((j:Int) - 1).toNat]'(by omega)).toNat:Int) % 128=((a6w ((b.take (k+1)).drop (j - 1)):Nat):Int):=(by have h5:=b6i (b:=b) (k:=k) (j:=j - 1) hkl (by omega) (by omega);rw [show j - 1+1=j by omega] at h5;rw [h5];simp only [show((j:Int) - 1).toNat=j - 1 by omega];omega)
      refine .region a8 (.mv a8 (.p (.sub (.t a8) (.i a8) (by omega) (by omega) (.ag a8 (.nil ?_)))))
      refine⟨j - 1,.cons (congrArg (fun q=>some (AV.v q)) hs) (.cons (congrArg (fun q=>some (AV.v q)) (by omega)) (.c2 rfl rfl (.nil _))),rfl,?_,by omega⟩
      omega
     ·refine .exit (.seq (.seq ?_))
      obtain rfl:j=0:=by omega
      rw [List.drop_zero]
      have hvs:=a8R (b:=b) (k:=k) (j:=0) (by omega)
      rw [List.drop_zero] at hvs
      refine .region a8 (.mv a8 (.p (.gtr (.t a8) (.i a8) (.nil (.o8 (.t a8) (fun hc55 => ?_) (fun hc55 => ?_))))))
      ·refine .sr a8 (.p (.assign (.i a8) (.p (.assign (.i a8) (.p (.assign (.i a8) (.nil (.ret ?_))))))))
       refine⟨_,.r3 a8 (.tmp a8) (.tmp a8) (.tmp a8),?_⟩
       have e:a0a b=(0,0,1):=(by unfold a0a;rw [if_neg (by omega),if_neg (by omega),hcz,if_neg (by decide),hcl,if_pos (by omega)])
       rw [e]
      ·refine .skip (.sr a8 (.mv a8 (.mv a8 (.p (.add (.t a8) (.i a8) (by omega) (by omega) (.ag a8 (.ag a8 (.p (.assign (.i a8) (.nil (.ret ?_)))))))))))
       refine⟨_,.r3 a8 (.tmp a8) (.tmp a8) (.tmp a8),?_⟩
       have e:a0a b=((a6w (b.take (k+1)):Int),(k:Int)+1,0):=(by unfold a0a;rw [if_neg (by omega),if_neg (by omega),hcz,if_neg (by decide),hcl,if_neg (by omega)])
       rw [e]
theorem b3Y (b:List UInt8):0≤(a0a b).2.1∧(a0a b).2.1≤b.length:=by
 have h:=b8o b
 unfold a0a
 split
 ·exact⟨Int.le_refl _,Int.natCast_nonneg _⟩
 ·split
  ·exact⟨Int.le_refl _,Int.natCast_nonneg _⟩
  ·split
   ·exact⟨Int.le_refl _,Int.natCast_nonneg _⟩
   ·split
    ·exact⟨Int.le_refl _,Int.natCast_nonneg _⟩
    ·dsimp only;omega
abbrev Rdr:=o6
abbrev rd (w:Value):AV := .ln w (m5.id (α:=Rdr))
def b3Z (r:Rdr):Prop:=0≤r.Used∧r.Used≤r.B.length∧r.B.length≤1000000
def a4a (r:Rdr) (e:Int):Rdr:=if r.E=0 then ⟨r.B,r.Used,e⟩ else r
theorem b8q (r:Rdr) (e:Int):(a4a r e).B=r.B:=by unfold a4a;split<;>rfl
theorem b2s (r:Rdr) (e:Int):(a4a r e).Used=r.Used:=by unfold a4a;split<;>rfl
theorem b9Y (w:Value) (r:Rdr) (e:Int):G5 gl Tryz.prog 209 [rd w,.v e] [.ob w r] (fun x Hs=>Hs = [.ob w (a4a r e)]):=by
 refine G5.T9 Tryz.func209 rfl (by kernel_rfl) 13 rfl rfl _ rfl _ rfl fun C hC hG=>(.sr rfl (.mv rfl (.p (.D9 (.t rfl) (.p (.x4 o6.l2 a4Z rfl (.t rfl) (.p (.K0 (fun x=>x.E) b5E (.t rfl) .z (fun _=>rfl) (.p (.D4 (.t rfl) (.i rfl) (.nil (.o8 (.t rfl) (fun hc8 => ?_) (fun hc8 => ?_)))))))))))))
 ·refine .region a8 (.mv a8 (.mv a8 (.p (.D9 (.t a8) (.p (.x4 o6.l2 a4Z a8 (.t a8) (.n (.U0 (fun y x => { x with E:=y }) b5E (.t a8) (.t a8) .z (fun _ _=>a8) (.nil ?_)))))))))
  refine⟨_,.r0 a8,?_⟩
  have e0:a4a r e=⟨r.B,r.Used,e⟩:=if_pos hc8
  refine⟨_,.cons .z (.nil),?_⟩
  rw [e0]
 ·refine .skip ?_
  refine⟨_,.r0 a8,?_⟩
  have e0:a4a r e=r:=if_neg hc8
  refine⟨_,.cons .z (.nil),?_⟩
  rw [e0]
def rdNum (r:Rdr):Int×Rdr :=
 if r.E≠0 then (0,r) else ((a0a (r.B.drop r.Used.toNat)).1,⟨r.B,r.Used+(a0a (r.B.drop r.Used.toNat)).2.1,(a4a r (a0a (r.B.drop r.Used.toNat)).2.2).E⟩)
theorem b6j (w:Value) (r:Rdr) (h:b3Z r):G5 gl Tryz.prog 185 [rd w] [.ob w r] (fun x Hs=>x = .v (rdNum r).1∧Hs = [.ob w (rdNum r).2]):=by
 obtain⟨h0,h1,h2⟩:=h
 have hu:=b3Y (r.B.drop r.Used.toNat)
 have hdl:(r.B.drop r.Used.toNat).length=r.B.length - r.Used.toNat:=List.length_drop
 refine G5.T9 Tryz.func185 rfl (by kernel_rfl) 38 rfl rfl _ rfl _ rfl fun C hC hG=>(.sr rfl (.p (.assign (.i rfl) (.nil (.seq (.sr rfl (.mv rfl (.p (.D9 (.t rfl) (.p (.x4 o6.l2 a4Z rfl (.t rfl) (.p (.K0 (fun x=>x.E) b5E (.t rfl) .z (fun _=>rfl) (.p (.W8 (.t rfl) (.i rfl) (.nil (.o8 (.t rfl) (fun hc10 => ?_) (fun hc10 => ?_))))))))))))))))))
 ·refine .sr a8 (.p (.assign (.i a8) (.nil (.ret ?_))))
  refine⟨_,.r1 a8 (.tmp a8),?_⟩
  have e0:rdNum r=(0,r):=if_pos hc10
  refine⟨_,.cons .z (.nil),?_⟩
  rw [e0];exact⟨rfl,rfl⟩
 ·refine .skip (.seq (.draw (by kernel_rfl) 17 [[],[(12,0)],[(13,1)],[(14,2)],[],[(16,4)],[(17,5)],[(18,6)],[(15,3),(19,7)],[(20,8)],[(21,9)],[(11,10)],[(11,10)],[(11,10)],[(22,11)],[(23,12)],[(24,13)]] a8 (by kernel_rfl) a8 ?_))
  refine⟨_,j6.move (.t a8) a8,?_⟩
  refine⟨_,j6.D9 (.t a8) a8,?_⟩
  refine⟨_,j6.x4 o6.l0 b0c a8 (.t a8) a8,?_⟩
  refine⟨_,j6.K0 (fun x=>x.B) P1 (.t a8) .z (fun _=>a8) a8,?_⟩
  refine⟨_,j6.move (.t a8) a8,?_⟩
  refine⟨_,j6.D9 (.t a8) a8,?_⟩
  refine⟨_,j6.x4 o6.l1 a2e a8 (.t a8) a8,?_⟩
  refine⟨_,j6.K0 (fun x=>x.Used) D0 (.t a8) .z (fun _=>a8) a8,?_⟩
  refine⟨_,j6.b7b U1 Tryz.underlying86 (.t a8) (.t a8) (by omega) (by omega) a8,?_⟩
  refine⟨_,j6.m9 hG (b9X _) (.cons (.t a8) .nil) a8,?_⟩
  refine⟨_,j6.move (.t a8) a8,?_⟩
  refine⟨_,j6.K1 (.t a8) a8,?_⟩
  refine⟨_,j6.K2 (.t a8) a8,?_⟩
  refine⟨_,j6.K3 (.t a8) a8,?_⟩
  refine⟨_,j6.assign (.t a8) a8,?_⟩
  refine⟨_,j6.assign (.t a8) a8,?_⟩
  refine⟨_,j6.assign (.t a8) a8,?_⟩
  show F8 _ _ _ _ _ _ ((5,_)::(4,_)::(3,_)::(24,_)::(23,_)::(22,_)::(11,_)::(21,_)::(20,_)::(19,_)::(18,_)::(17,_)::(16,_)::(15,_)::(14,_)::(13,_)::(12,_)::_) _
  refine .nil (.sr a8 (.mv a8 (.mv a8 (.h (.D3 hG (b9Y _ _ _) .z (.cons (.t a8) (.cons (.t a8) .nil)) (by rintro _ _ rfl;exact⟨_,rfl⟩) fun r27 B27 hr27 => ?_)))))
  cases hr27
  refine .nil (.seq ?_)
  have hfu:=b2s r (a0a (r.B.drop r.Used.toNat)).2.2
  refine .region a8 (.mv a8 (.mv a8 (.p (.D9 (.t a8) (.p (.x4 o6.l1 a2e a8 (.t a8) (.p (.K0 (fun x=>x.Used) D0 (.t a8) .z (fun _=>a8) (.mv a8 (.p (.add (.t a8) (.t a8) (by omega) (by omega) (.p (.D9 (.t a8) (.p (.x4 o6.l1 a2e a8 (.t a8) (.n (.U0 (fun y x => { x with Used:=y }) D0 (.t a8) (.t a8) .z (fun _ _=>a8) (.nil (.sr a8 (.mv a8 (.ag a8 (.nil (.ret ?_)))))))))))))))))))))))
  refine⟨_,.r1 a8 (.tmp a8),?_⟩
  have e0:rdNum r=((a0a (r.B.drop r.Used.toNat)).1,⟨r.B,r.Used+(a0a (r.B.drop r.Used.toNat)).2.1,(a4a r (a0a (r.B.drop r.Used.toNat)).2.2).E⟩):=if_neg hc10
  refine⟨_,.cons .z (.nil),?_⟩
  rw [e0];refine⟨rfl,?_⟩;rw [b8q,b2s]
theorem b8r (w:Value) (r:Rdr) (n:Int) (h:b3Z r) (he:r.E=0) (hn0:0≤n) (hn:n≤r.B.length - r.Used):G5 gl Tryz.prog 207 [rd w,.v n] [.ob w r] (fun x Hs=>x = .v ((r.B.take (r.Used+n).toNat).drop r.Used.toNat)∧Hs = [.ob w (⟨r.B,r.Used+n,r.E⟩:Rdr)]):=by
 obtain⟨h0,h1,h2⟩:=h
 refine G5.T9 Tryz.func207 rfl (by kernel_rfl) 58 rfl rfl _ rfl _ rfl fun C hC hG=>(.sr rfl (.p (.assign (.K4 (α:=UInt8)) (.nil (.seq (.seq (.draw (by kernel_rfl) 19 [[],[(5,0)],[(6,1)],[(7,2)],[(8,3)],[(9,4)],[],[(11,6)],[(12,7)],[(13,8)],[(14,9)],[],[(16,11)],[(17,12)],[(18,13)],[(15,10),(19,14)],[],[(20,15),(21,16)],[(10,5),(22,17)]] rfl (by kernel_rfl) rfl ?_)))))))
 refine⟨_,j6.move (.t a8) a8,?_⟩
 refine⟨_,j6.D9 (.t a8) a8,?_⟩
 refine⟨_,j6.x4 o6.l2 a4Z a8 (.t a8) a8,?_⟩
 refine⟨_,j6.K0 (fun x=>x.E) b5E (.t a8) .z (fun _=>a8) a8,?_⟩
 refine⟨_,j6.D4 (.t a8) (.i a8) a8,?_⟩
 refine⟨_,j6.move (.t a8) a8,?_⟩
 refine⟨_,⟨_,_,a8,a8,fun hg11=>j6.move (.t a8) a8⟩,?_⟩
 refine⟨_,⟨_,_,a8,a8,fun hg12=>j6.D9 (.q a8 hg12) a8⟩,?_⟩
 refine⟨_,⟨_,_,a8,a8,fun hg13=>j6.x4 o6.l0 b0c a8 (.q a8 hg13) a8⟩,?_⟩
 refine⟨_,⟨_,_,a8,a8,fun hg14=>j6.K0 (fun x=>x.B) P1 (.q a8 hg14) .z (fun _=>a8) a8⟩,?_⟩
 refine⟨_,⟨_,_,a8,a8,fun hg15=>j6.len Tryz.underlying86 (.q a8 hg15) a8⟩,?_⟩
 refine⟨_,⟨_,_,a8,a8,fun hg16=>j6.move (.t a8) a8⟩,?_⟩
 refine⟨_,⟨_,_,a8,a8,fun hg17=>j6.D9 (.q a8 hg17) a8⟩,?_⟩
 refine⟨_,⟨_,_,a8,a8,fun hg18=>j6.x4 o6.l1 a2e a8 (.q a8 hg18) a8⟩,?_⟩
 refine⟨_,⟨_,_,a8,a8,fun hg19=>j6.K0 (fun x=>x.Used) D0 (.q a8 hg19) .z (fun _=>a8) a8⟩,?_⟩
 refine⟨_,⟨_,_,a8,a8,fun hg20=>j6.sub (.q a8 hg20) (.q a8 hg20) (by first|omega|(simp;omega)|(have:=hg20;simp at this;omega)) (by first|omega|(simp;omega)|(have:=hg20;simp at this;omega)) a8⟩,?_⟩
 refine⟨_,⟨_,_,a8,a8,fun hg21=>j6.move (.t a8) a8⟩,?_⟩
 refine⟨_,⟨_,_,a8,a8,fun hg22=>j6.lss (.q a8 hg22) (.q a8 hg22) a8⟩,?_⟩
 refine⟨_,j6.u0 (.t a8) (fun hp=>(.q a8 hp)) a8,?_⟩
 show F8 _ _ _ _ _ _ ((23,_)::(22,_)::(21,_)::(20,_)::(19,_)::(18,_)::(17,_)::(16,_)::(15,_)::(14,_)::(13,_)::(12,_)::(11,_)::(10,_)::(9,_)::(8,_)::(7,_)::(6,_)::(5,_)::_) _
 refine .nil (.cond (.t a8) (fun hc23=>(by exfalso;simp only [he,Bool.and_eq_true,decide_eq_true_eq] at hc23;omega)) (fun hc23=>(.skip (.seq (.sr a8 (.mv a8 (.p (.D9 (.t a8) (.p (.x4 o6.l2 a4Z a8 (.t a8) (.p (.K0 (fun x=>x.E) b5E (.t a8) .z (fun _=>a8) (.p (.W8 (.t a8) (.i a8) (.nil (.o8 (.t a8) (fun hc31=>(by exfalso;exact hc31 he)) (fun hc31=>(.skip (.sr a8 (.mv a8 (.mv a8 (.p (.D9 (.t a8) (.p (.x4 o6.l1 a2e a8 (.t a8) (.p (.K0 (fun x=>x.Used) D0 (.t a8) .z (fun _=>a8) (.mv a8 (.p (.add (.t a8) (.t a8) (by omega) (by omega) (.p (.D9 (.t a8) (.p (.x4 o6.l1 a2e a8 (.t a8) (.n (.U0 (fun y x => { x with Used:=y }) D0 (.t a8) (.t a8) .z (fun _ _=>a8) (.nil ?_)))))))))))))))))))))))))))))))))))))
 refine .seq (.draw (by kernel_rfl) 16 [[],[(43,0)],[(44,1)],[(45,2)],[],[(47,4)],[(48,5)],[(49,6)],[],[(50,7),(51,8)],[],[(53,10)],[(54,11)],[(55,12)],[(46,3),(52,9),(56,13)],[(57,14)]] a8 (by kernel_rfl) a8 ?_)
 refine⟨_,j6.move (.t a8) a8,?_⟩
 refine⟨_,j6.D9 (.t a8) a8,?_⟩
 refine⟨_,j6.x4 o6.l0 b0c a8 (.t a8) a8,?_⟩
 refine⟨_,j6.K0 (fun x=>x.B) P1 (.t a8) .z (fun _=>a8) a8,?_⟩
 refine⟨_,j6.move (.t a8) a8,?_⟩
 refine⟨_,j6.D9 (.t a8) a8,?_⟩
 refine⟨_,j6.x4 o6.l1 a2e a8 (.t a8) a8,?_⟩
 refine⟨_,j6.K0 (fun x=>x.Used) D0 (.t a8) .z (fun _=>a8) a8,?_⟩
 refine⟨_,j6.move (.t a8) a8,?_⟩
 refine⟨_,j6.sub (.t a8) (.t a8) (by simp;omega) (by simp;omega) a8,?_⟩
 refine⟨_,j6.move (.t a8) a8,?_⟩
 refine⟨_,j6.D9 (.t a8) a8,?_⟩
 refine⟨_,j6.x4 o6.l1 a2e a8 (.t a8) a8,?_⟩
 refine⟨_,j6.K0 (fun x=>x.Used) D0 (.t a8) .z (fun _=>a8) a8,?_⟩
 refine⟨_,j6.c12 U1 Tryz.underlying86 (.t a8) (.t a8) (.t a8) (by simp;omega) (by omega) (by simp;omega) a8,?_⟩
 refine⟨_,j6.assign (.t a8) a8,?_⟩
 show F8 _ _ _ _ _ _ ((4,_)::(57,_)::(56,_)::(55,_)::(54,_)::(53,_)::(52,_)::(51,_)::(50,_)::(49,_)::(48,_)::(47,_)::(46,_)::(45,_)::(44,_)::(43,_)::_) _
 refine .nil (.ret ?_)
 refine⟨_,.r1 a8 (.tmp a8),?_⟩
 refine⟨_,.cons .z (.nil),?_⟩
 refine⟨congrArg AV.v ?_,a8⟩
 rw [show r.Used+n - n=r.Used by omega]
theorem c1z (w:Value) (r:Rdr) (h:b3Z r) (he:r.E=0) (hn:32≤r.B.length - r.Used):G5 gl Tryz.prog 184 [rd w] [.ob w r] (fun x Hs=>x = .v (R9 (default:Tag) ((r.B.take (r.Used+32).toNat).drop r.Used.toNat))∧Hs = [.ob w (⟨r.B,r.Used+32,r.E⟩:Rdr)]):=by
 have hok:=h
 obtain⟨h0,h1,h2⟩:=h
 refine G5.T9 Tryz.func184 rfl (by kernel_rfl) 9 rfl rfl _ rfl _ rfl fun C hC hG=>(.sr rfl (.h (.alloc p3 fun b2=>(.nil (.sr rfl (.h (.alloc p3 fun b3=>(.nil (.seq (.E7 [j0,j1,j0] (by kernel_rfl) 4 [[],[],[(5,1)],[(4,0),(6,2)]] [2,3] rfl (by kernel_rfl) rfl (by kernel_rfl) (by decide) ?_))))))))))
 refine⟨_,fun H=>j6.b7c O7 (.t a8) a8,?_⟩
 refine⟨_,fun H=>j6.move (.t a8) a8,?_⟩
 refine .inl (.inl ?_)
 refine⟨⟨([],j2 [_,c8,_]),a8⟩,?_⟩
 refine A6.D3 hG (b8r _ _ _ hok he (by decide) hn) .z2 (.cons (.t rfl) (.cons (.i rfl) .nil)) (by rintro _ _ ⟨_,rfl⟩;exact⟨_,rfl⟩) fun r6 B6 hr6 => ?_
 obtain⟨rfl,hB⟩:=hr6
 cases hB
 refine⟨⟨([],j2 [_,c8,_]),a8⟩,?_⟩
 refine A6.b7o U1 Tryz.underlying86 (.t rfl) .z (.v (.t rfl)) (by simp;omega) ?_
 refine⟨⟨([],j2 [_,c8,_]),a8⟩,?_⟩
 show F8 _ _ _ _ _ _ ((7,_)::(6,_)::(5,_)::(4,_)::_) _
 refine .nil (.sr a8 (.p (.I4 p3 (.t a8) .z (.n (.C8 p3 (.t a8) (.t a8) .z1 (.nil (.ret ?_)))))))
 refine⟨_,.r1 a8 (.cell p3 a8 .z1),?_⟩
 refine⟨_,.cons .z2 (.nil),?_⟩
 exact⟨a8,a8⟩
theorem a9T {w:Value} {r r':Rdr} {v:Int} (h:b3Z r) (e:rdNum r=(v,r')):G5 gl Tryz.prog 185 [rd w] [.ob w r] (fun x Hs=>x = .v v∧Hs = [.ob w r']):=by
 have:=b6j w r h
 rw [e] at this;exact this
theorem b0U (a : C7) (c : b0I) (t : List UInt8) (k : Tag) (hpl : ∀ x ∈ a.x7, x.Plain.length ≤ 1000000) (ho : C4 a c.Key t = (k.l ++ [0, 150, 1], 0)) :
    u1 gl Tryz.prog 141 [.v a,.v c,.v t] (fun r=>r = .t3 (.v k) (.v (⟨0,150⟩:y9)) (.v (0:Int))):=by
  have hb:(k.l ++ [0,150,1]).length=35:=by rw [List.length_append,J7.len];rfl
  have ht:(k.l ++ [0,150,1]).take 32=k.l:=List.take_left' k.len
  have hd:(k.l ++ [0,150,1]).drop 32 = [0,150,1]:=List.drop_left' k.len
  have hd2:(k.l ++ [0,150,1]).drop 33 = [150,1]:=by
    rw [show 33=32+1 from rfl,←List.drop_drop,hd];rfl
  have hn1:rdNum ⟨k.l ++ [0,150,1],32,0⟩=(0,⟨k.l ++ [0,150,1],33,0⟩):=by
    unfold rdNum
    rw [if_neg (show ¬((0:Int)≠0) by decide)]
    dsimp only
    rw [show((32:Int).toNat)=32 from rfl,hd];rfl
  have hn2:rdNum ⟨k.l ++ [0,150,1],33,0⟩=(150,⟨k.l ++ [0,150,1],35,0⟩):=by
    unfold rdNum
    rw [if_neg (show ¬((0:Int)≠0) by decide)]
    dsimp only
    rw [show((33:Int).toNat)=33 from rfl,hd2];rfl
  have ok0:b3Z ⟨k.l ++ [0,150,1],0,0⟩:=⟨Int.le_refl _,Int.natCast_nonneg _,by dsimp only;omega⟩
  have ok1:b3Z ⟨k.l ++ [0,150,1],32,0⟩:=⟨show(0:Int)≤32 by decide,by dsimp only;omega,by dsimp only;omega⟩
  have ok2:b3Z ⟨k.l ++ [0,150,1],33,0⟩:=⟨show(0:Int)≤33 by decide,by dsimp only;omega,by dsimp only;omega⟩
  refine u1.intro Tryz.func141 rfl (by kernel_rfl) 61 rfl rfl _ rfl fun C hC hG=>(.sr rfl (.h (.box (.t rfl) fun b3 => .h (.box (.t rfl) fun b4 => .h (.alloc p3 fun b6 => .h (.alloc a5r fun b7 => .p (.assign (.i rfl) (.nil (.seq (.B0 hC .z3 (.Q5 3 rfl .z3 (.B0 hC .z2 (.Q5 4 rfl .z2 (.region rfl (.p (.x3 u7 (.t rfl) (.p (.m0 u3.l1 (fun x=>x.Key) b6L rfl (fun _=>rfl) (.t rfl) (.p (.x3 p3 (.t rfl) (.mv rfl (.p (.m9 hG (b9y _ _ _ hpl) (.cons (.t rfl) (.cons (.t rfl) (.cons (.t rfl) .nil))) (.mv rfl (.p (.E5 (.t rfl) (.p (.E6 (.t rfl) (.ag rfl (.ag rfl (.nil (.seq ?_))))))))))))))))))))))))))))))))
  refine .seq ?_
  rw [ho]
  refine .region a8 (.mv a8 (.p (.W8 (.t a8) (.i a8) (.nil (.o8 (.t a8) (fun hc23=>(by exfalso;exact hc23 rfl)) (fun hc23=>(.skip (.sr a8 (.mv a8 (.p (.bS1 o6.l0 a8 c2a c1S (fun c0=>(⟨c0,0,0⟩:o6)) (fun _=>a8) a8 a8 (.t a8) (.h (.box (.t a8) fun b29 => .ag a8 (.nil (.sr a8 (.mv a8 (.h (.D3 hG (c1z _ (⟨k.l ++ [0,150,1],0,0⟩:Rdr) ok0 a8 (by dsimp only;omega)) .z (.cons (.t a8) .nil) (by rintro _ _ ⟨_,rfl⟩;exact⟨_,rfl⟩) fun r31 B31 hr31 => ?_))))))))))))))))))
  obtain⟨rfl,hB⟩:=hr31
  cases hB
  refine .h (.alloc p3 fun b12 => .n (.C8 p3 (.t a8) (.t a8) .z (.nil (.sr a8 (.h (.alloc a5r fun b13=>(.nil (.sr a8 (.mv a8 (.h (.D3 hG (a9T ok1 hn1) .z2 (.cons (.t a8) .nil) (by rintro _ _ ⟨_,rfl⟩;exact⟨_,rfl⟩) fun r33 B33 hr33 => ?_)))))))))))
  obtain⟨rfl,hB⟩:=hr33
  cases hB
  refine .p (.x4 y9.l0 a57 a8 (.t a8) (.n (.U0 (fun y x => { x with a2T:=y }) D0 (.t a8) (.t a8) .z (fun _ _=>a8) (.nil (.sr a8 (.mv a8 (.h (.D3 hG (a9T ok2 hn2) .z2 (.cons (.t a8) .nil) (by rintro _ _ ⟨_,rfl⟩;exact⟨_,rfl⟩) fun r36 B36 hr36 => ?_))))))))
  obtain⟨rfl,hB⟩:=hr36
  cases hB
  refine .p (.x4 y9.l1 a58 a8 (.t a8) (.n (.U0 (fun y x => { x with a6g:=y }) D0 (.t a8) (.t a8) .z (fun _ _=>a8) (.nil (.seq (.sr a8 (.mv a8 (.p (.D9 (.t a8) (.p (.x4 o6.l2 a4Z a8 (.t a8) (.p (.K0 (fun x=>x.E) b5E (.t a8) .z2 (fun _=>a8) (.p (.W8 (.t a8) (.i a8) (.mv a8 (.go 43 a8 (.t a8) (fun hg44 => .move (.t a8) a8) (.go 43 a8 (.t a8) (fun hg45 => .D9 (.q a8 hg45) a8) (.go 43 a8 (.t a8) (fun hg46 => .x4 o6.l1 a2e a8 (.q a8 hg46) a8) (.go 43 a8 (.t a8) (fun hg47 => .K0 (fun x=>x.Used) D0 (.q a8 hg47) .z2 (fun _=>a8) a8) (.go 43 a8 (.t a8) (fun hg48 => .move (.t a8) a8) (.go 43 a8 (.t a8) (fun hg49 => .len Tryz.underlying86 (.q a8 hg49) a8) (.go 43 a8 (.t a8) (fun hg50 => .W8 (.q a8 hg50) (.q a8 hg50) a8) (.p (.E0 (.t a8) (fun hp=>(.q a8 hp)) (.mv a8 (.go 52 a8 (.t a8) (fun hg53 => .I4 a5r (.t a8) .z a8) ?_)))))))))))))))))))))))))))
  refine .go 52 a8 (.t a8) (fun hg54 => .m9 hG (a9P _) (.cons (.q a8 hg54) .nil) a8) (.go 52 a8 (.t a8) (fun hg55 => .not (.q a8 hg55) a8) (.p (.E0 (.t a8) (fun hp=>(.q a8 hp)) (.nil (.cond (.t a8) (fun hc56=>(by exfalso;simp [hb,a0D] at hc56)) (fun hc56=>(.skip (.seq (.E7 [j1,j1,j1,j0,j0,j1,j1] (by kernel_rfl) 5 [[],[],[(59,0)],[(60,1)],[]] [2,3] a8 (by kernel_rfl) a8 (by kernel_rfl) (by decide) ?_)))))))))
  refine⟨_,fun H=>j6.I4 p3 (.t a8) (y3.app .z1) a8,?_⟩
  refine⟨_,fun H=>j6.I4 a5r (.t a8) (y3.app .z) a8,?_⟩
  refine .inl (.inl ?_)
  refine⟨_,fun H=>j6.assign (.i a8) a8,?_⟩
  refine⟨⟨([],j2 [c8,c8,c8,_,_,c8,c8]),a8⟩,?_⟩
  refine A6.C8 p3 (.t rfl) (.t rfl) .z4 ?_
  refine⟨⟨([],j2 [c8,c8,c8,_,_,c8,c8]),a8⟩,?_⟩
  refine A6.C8 a5r (.t rfl) (.t rfl) .z3 ?_
  refine⟨⟨([],j2 [c8,c8,c8,_,_,c8,c8]),a8⟩,?_⟩
  show F8 _ _ _ _ _ _ ((8,_)::(60,_)::(59,_)::_) _
  refine .nil (.ret ?_)
  refine⟨_,.r3 a8 (.cell p3 a8 .z4) (.cell a5r a8 .z3) (.tmp a8),?_⟩
  show AV.t3 (.v (R9 (default:Tag) (((k.l ++ [0,150,1]).take 32).drop 0))) (.v (⟨0,150⟩:y9)) (.v (0:Int))=_
  rw [List.drop_zero,ht,a6u]
abbrev b8s:=A0
def b2t (c:b0I) (s:Str):Option b8s:=c.a0B.find? fun p=>decide (p.Name=s)
theorem b0V (c:b0I) (s:Str):u1 gl Tryz.prog 142 [.v c,.v s] (fun r=>r = .t2 (.v ((b2t c s).getD default)) (.v (b2t c s).isSome)):=by
 refine u1.intro Tryz.func142 rfl (by kernel_rfl) 28 rfl rfl _ rfl fun C hC hG=>(.sr rfl (.h (.box (.t rfl) fun b2 => .h (.alloc a2D fun b4 => .p (.assign .b (.nil (.seq (.seq (.B0 hC .z1 (.Q5 2 rfl .z1 (.del (.s .z) (.region rfl (.p (.assign (.i rfl) (.nil (.block (.F4 (α:=Nat) [(1,_),(2,_),(4,_)] (fun k R=>(6,.v (k:Int))::R) (Function.const _ _) (fun k=>k≤c.a0B.length∧∀ j (hj:j < c.a0B.length),j < k→decide (c.a0B[j].Name=s)=false) (fun k=>c.a0B.length - k) (0) (.c2 rfl rfl (.cons rfl (.nil _))) ?_ (.c2 rfl rfl (.c2 rfl rfl (.nil _))) (rfl) fun k hF => ?_)))))))))))))))))
 ·simp
 obtain⟨h1,h2⟩:=hF
 refine .seq (.sr a8 (.mv a8 (.p (.m0 u3.l2 (fun x=>x.a0B) b2N a8 (fun _=>a8) (.t a8) (.p (.x3 c05 (.t a8) (.p (.len Tryz.underlying39 (.t a8) (.p (.lss (.t a8) (.t a8) (.nil (.o8 (.t a8) (fun hc11 => ?_) (fun hc11 => ?_)))))))))))))
 ·refine .skip (.seq (.block (.sr a8 (.p (.m0 u3.l2 (fun x=>x.a0B) b2N a8 (fun _=>a8) (.t a8) (.p (.x3 c05 (.t a8) (.mv a8 (.p (.idx a2D Tryz.underlying39 (.t a8) (.t a8) (by omega) (by omega) (.p (.m0 A0.l0 (fun x=>x.Name) b8Y a8 (fun _=>a8) (.t a8) (.p (.x3 ty9 (.t a8) (.mv a8 (.p (.c13 (.t a8) (.t a8) (.nil (.o8 (.t a8) (fun hc21 => ?_) (fun hc21 => ?_))))))))))))))))))))
  ·refine .sr a8 (.p (.m0 u3.l2 (fun x=>x.a0B) b2N a8 (fun _=>a8) (.t a8) (.p (.x3 c05 (.t a8) (.mv a8 (.p (.idx a2D Tryz.underlying39 (.t a8) (.t a8) (by omega) (by omega) (.p (.x3 a2D (.t a8) (.n (.C8 a2D (.t a8) (.t a8) .z (.p (.assign .b (.nil (.ret ?_)))))))))))))))
   refine⟨_,.r2 a8 (.cell a2D a8 .z) (.tmp a8),?_⟩
   have e:b2t c s=some c.a0B[k]:=a8P (by omega) (decide_eq_true hc21) h2
   rw [e];rfl
  ·refine .skip (.Y4 9 a8 fun hl9=>(.region a8 (.mv a8 (.p (.add (.t a8) (.i a8) (by omega) (by omega) (.ag a8 (.nil ?_)))))))
   refine⟨k+1,.c2 rfl rfl (.c2 rfl rfl (.nil _)),rfl,?_,by omega⟩
   refine⟨by omega,fun j hj hjk => ?_⟩;rcases Nat.lt_or_ge j k with h|h;exact h2 j hj h;(obtain rfl:j=k:=by omega);exact decide_eq_false hc21
 ·refine .exit (.sr a8 (.p (.bS0 (α:=A0) a8 a2D b6S (.n (.C8 a2D (.t a8) (.t a8) .z (.p (.assign .b (.nil (.ret ?_)))))))))
  refine⟨_,.r2 a8 (.cell a2D a8 .z) (.tmp a8),?_⟩
  have e:b2t c s=none:=a8Q fun j hj=>h2 j hj (by omega)
  rw [e];rfl
theorem c2G (p:b8s) (m:Int):u1 gl Tryz.prog 143 [.v p,.v m] (fun r=>∃ n:Int,0≤n∧n≤150∧r = .v n):=by
 refine u1.intro Tryz.func143 rfl (by kernel_rfl) 33 rfl rfl _ rfl fun C hC hG=>(.sr rfl (.h (.box (.t rfl) fun b2 => .p (.assign (.i rfl) (.nil (.seq (.seq (.B0 hC .z (.Q5 2 rfl .z (.region rfl (.mv rfl (.p (.lss (.t rfl) (.i rfl) (.mv rfl (.go 7 rfl (.t rfl) (fun hg8 => .move (.t rfl) rfl) (.go 7 rfl (.t rfl) (fun hg9 => .gtr (.q rfl hg9) (.i rfl) rfl) (.p (.E0 (.t rfl) (fun hp=>(.q rfl hp)) (.mv rfl (.go 11 rfl (.t rfl) (fun hg12 => .m0 A0.l1 (fun x=>x.b3b) a7T rfl (fun _=>rfl) (.t rfl) rfl) ?_))))))))))))))))))))
 refine .go 11 a8 (.t a8) (fun hg13 => .x3 D0 (.q a8 hg13) a8) (.go 11 a8 (.t a8) (fun hg14 => .lss (.q a8 hg14) (.i a8) a8) (.p (.E0 (.t a8) (fun hp=>(.q a8 hp)) (.mv a8 (.go 16 a8 (.t a8) (fun hg17 => .m0 A0.l1 (fun x=>x.b3b) a7T a8 (fun _=>a8) (.t a8) a8) (.go 16 a8 (.t a8) (fun hg18 => .x3 D0 (.q a8 hg18) a8) (.go 16 a8 (.t a8) (fun hg19 => .gtr (.q a8 hg19) (.i a8) a8) (.p (.E0 (.t a8) (fun hp=>(.q a8 hp)) (.mv a8 (.go 21 a8 (.t a8) (fun hg22 => .m0 A0.l1 (fun x=>x.b3b) a7T a8 (fun _=>a8) (.t a8) a8) (.go 21 a8 (.t a8) (fun hg23 => .x3 D0 (.q a8 hg23) a8) (.go 21 a8 (.t a8) (fun hg24 => .move (.t a8) a8) (.go 21 a8 (.t a8) (fun hg25 => .gtr (.q a8 hg25) (.q a8 hg25) a8) (.p (.E0 (.t a8) (fun hp=>(.q a8 hp)) (.nil (.cond (.t a8) (fun hc26 => ?_) (fun hc26 => ?_)))))))))))))))))))
 ·refine .sr a8 (.p (.assign (.i a8) (.nil (.ret ?_))))
  refine⟨_,.r1 a8 (.tmp a8),?_⟩
  exact⟨0,by decide,by decide,rfl⟩
 ·refine .skip (.seq ?_)
  simp only [Bool.or_eq_false_iff,decide_eq_false_iff_not] at hc26
  refine .region a8 (.mv a8 (.p (.m0 A0.l1 (fun x=>x.b3b) a7T a8 (fun _=>a8) (.t a8) (.p (.x3 D0 (.t a8) (.p (.sub (.t a8) (.t a8) (by omega) (by omega) (.p (.quo (.t a8) (.i a8) (by omega) (by omega) (.p (.a9Y (.t a8) (.i a8) (.ag a8 (.nil (.ret ?_))))))))))))))
  refine⟨_,.r1 a8 (.tmp a8),?_⟩
  exact⟨_,by omega,by omega,rfl⟩
theorem b9Z (a : C7) (c : b0I) (t : List UInt8) (s : Str) (m : Int) (k : Tag) (hpl : ∀ x ∈ a.x7, x.Plain.length ≤ 1000000) (ho : C4 a c.Key t = (k.l ++ [0, 150, 1], 0)) (hs : S8 s = true) (hm0 : 0 ≤ m) (hm1 : m ≤ 67108864) (hf : (b2t c s).isSome = true) (ht : t.length ≤ 1000000) :
    u1 gl Tryz.prog 82 [.v a,.v c,.v t,.v s,.v m] (fun r=>r = .t3 (.v (a5V a k t s).1) (.v (a5V a k t s).2.1) (.v (a5V a k t s).2.2)):=by
  refine u1.intro Tryz.func82 rfl (by kernel_rfl) 97 rfl rfl _ rfl fun C hC hG=>(.sr rfl (.h (.box (.t rfl) fun b5 => .h (.box (.t rfl) fun b6 => .h (.alloc u7 fun b10 => .h (.alloc P3 fun b11 => .p (.assign (.i rfl) (.nil (.seq (.seq (.B0 hC .z2 (.Q5 6 rfl .z2 (.region rfl (.mv rfl (.p (.m9 hG (b3f _) (.cons (.t rfl) .nil) (.p (.not (.t rfl) (.nil (.cond (.t rfl) (fun hc22=>(by exfalso;simp [hs] at hc22)) (fun hc22=>(.skip (.seq ?_)))))))))))))))))))))))
  refine .sr a8 (.mv a8 (.p (.lss (.t a8) (.i a8) (.mv a8 (.go 27 a8 (.t a8) (fun hg28 => .move (.t a8) a8) (.go 27 a8 (.t a8) (fun hg29 => .gtr (.q a8 hg29) (.i a8) a8) (.p (.E0 (.t a8) (fun hp=>(.q a8 hp)) (.nil (.cond (.t a8) (fun hc30=>(by exfalso;(simp at hc30;omega))) (fun hc30=>(.skip (.sr a8 (.p (.I4 u7 (.t a8) .z3 (.p (.x3 b5D (.t a8) (.mv a8 (.p (.m9 hG (b0U _ _ _ _ hpl ho) (.cons (.t a8) (.cons (.t a8) (.cons (.t a8) .nil))) (.mv a8 (.p (.K1 (.t a8) (.p (.K2 (.t a8) (.p (.K3 (.t a8) (.h (.alloc p3 fun b13 => .h (.alloc a5r fun b14 => .n (.C8 p3 (.t a8) (.t a8) .z1 (.n (.C8 a5r (.t a8) (.t a8) .z (.ag a8 (.nil ?_)))))))))))))))))))))))))))))))))))
  refine .seq (.sr a8 (.mv a8 (.p (.W8 (.t a8) (.i a8) (.nil (.o8 (.t a8) (fun hc42=>(by exfalso;exact hc42 rfl)) (fun hc42=>(.skip (.sr a8 (.p (.x3 b5D (.t a8) (.mv a8 (.p (.m9 hG (b0V _ _) (.cons (.t a8) (.cons (.t a8) .nil)) (.mv a8 (.p (.E5 (.t a8) (.p (.E6 (.t a8) (.h (.alloc a2D fun b16 => .n (.C8 a2D (.t a8) (.t a8) .z (.ag a8 (.nil (.seq (.sr a8 ?_))))))))))))))))))))))))))
  refine .mv a8 (.p (.not (.t a8) (.nil (.cond (.t a8) (fun hc53=>(by exfalso;simp [hf] at hc53)) (fun hc53=>(.skip (.seq (.sr a8 (.p (.I4 a2D (.t a8) .z (.mv a8 (.p (.call hG (c2G _ _) (.cons (.t a8) (.cons (.t a8) .nil)) fun r58 hr58 => ?_)))))))))))))
  obtain⟨n,hn0,hn1,rfl⟩:=hr58
  refine .ag rfl (.nil (.sr rfl (.mv rfl (.p (.x4 y9.l0 a57 rfl (.t rfl) (.p (.K0 (fun x=>x.a2T) D0 (.t rfl) .z1 (fun _=>rfl) (.p (.lss (.t rfl) (.t rfl) (.mv rfl (.go 63 rfl (.t rfl) (fun hg64 => .move (.t rfl) rfl) (.go 63 rfl (.t rfl) (fun hg65 => .x4 y9.l1 a58 rfl (.t rfl) rfl) (.go 63 rfl (.t rfl) (fun hg66 => .K0 (fun x=>x.a6g) D0 (.q rfl hg66) .z1 (fun _=>rfl) rfl) (.go 63 rfl (.t rfl) (fun hg67 => .gtr (.q rfl hg67) (.q rfl hg67) rfl) (.p (.E0 (.t rfl) (fun hp=>(.q rfl hp)) (.nil (.cond (.t rfl) (fun hc68=>(by exfalso;(simp at hc68;omega))) (fun hc68=>(.skip (.seq (.a1o [[j1,j1,j1,j1,j1,j1,j1],[j1,j1,j1,j1,j1,j1,j1],[j1,j1,j1,j1,j1,j1,j0],[j1,j1,j1,j1,j1,j1,j0]] [[j1,j1,j1,j1,j1,j1,j1],[j1,j1,j1,j1,j1,j1,j1],[j1,j1,j1,j1,j1,j1,j1],[j1,j1,j1,j1,j1,j1,j1],[j1,j1,j1,j1,j1,j1,j1],[j1,j1,j1,j1,j1,j1,j1],[j1,j1,j1,j1,j1,j1,j1],[j1,j1,j1,j1,j1,j1,j0],[j1,j1,j1,j1,j1,j1,j0],[],[],[],[j1,j1,j1,j1,j1,j1,j0]] [] [] 3 (by kernel_rfl) 13 [[],[],[],[(74,2)],[(72,0),(73,1),(75,3)],[(76,4)],[(71,5)],[(71,5)],[(71,5)],[],[(77,6)],[(19,9),(78,7)],[(79,8)]] [9,10,11] rfl (by kernel_rfl) rfl (by kernel_rfl) rfl (by decide) (by simp) (fun p hp=>by cases hp) (by kernel_rfl) rfl ?_))))))))))))))))))))))
  refine⟨_,fun H=>j6.I4 u7 (.t a8) (y3.app .z6) a8,?_⟩
  refine⟨_,fun H=>j6.I4 p3 (.t a8) (y3.app .z2) a8,?_⟩
  refine⟨_,fun H=>j6.move (.t a8) a8,?_⟩
  refine⟨_,fun H=>j6.m9 hG (a7v _ ht) (.cons (.t a8) .nil) a8,?_⟩
  refine⟨_,fun H=>j6.m9 hG (a5J _ _ _) (.cons (.t a8) (.cons (.t a8) (.cons (.t a8) .nil))) a8,?_⟩
  refine⟨_,fun H=>j6.move (.t a8) a8,?_⟩
  refine⟨_,fun H=>j6.K1 (.t a8) a8,?_⟩
  refine⟨_,fun H=>j6.K2 (.t a8) a8,?_⟩
  refine⟨_,fun H=>j6.K3 (.t a8) a8,?_⟩
  refine .inl (.inl (.inl ?_))
  refine⟨_,fun H=>j6.assign (.t a8) a8,?_⟩
  refine⟨a8,?_⟩
  refine⟨⟨j2 [c8,c8,c8,c8,c8,c8,c8],a8⟩,fun Ys14 => ?_⟩
  refine A6.alloc p3 fun b19 => ?_
  refine⟨[_],_,a8,?_⟩
  refine⟨⟨j2 [c8,c8,c8,c8,c8,c8,c8],a8⟩,fun Ys14 => ?_⟩
  refine A6.C8 u7 (.t rfl) (.t rfl) (.s (y3.app (y3.app .z6))) ?_
  refine⟨[_],_,a8,?_⟩
  refine⟨⟨j2 [c8,c8,c8,c8,c8,c8,_],a8⟩,fun Ys14 => ?_⟩
  refine A6.C8 p3 (.t rfl) (.t rfl) .z ?_
  refine⟨[_],_,a8,?_⟩
  refine⟨⟨j2 [c8,c8,c8,c8,c8,c8,_],a8⟩,fun ws14 => ?_⟩
  refine⟨⟨j2 [c8,c8,c8,c8,c8,c8,_],a8⟩,fun _ => ?_⟩
  show F8 _ _ _ _ _ _ ((15,_)::(19,_)::(79,_)::(78,_)::(77,_)::(71,_)::(76,_)::(75,_)::(74,_)::(73,_)::(72,_)::_) _
  refine .nil (.seq (.sr a8 (.mv a8 (.p (.W8 (.t a8) (.i a8) (.nil (.o8 (.t a8) (fun hc81 => ?_) (fun hc81 => ?_))))))))
  · refine .sr a8 (.p (.bS0 (α:=j7) a8 u7 a1g (.p (.bS0 (α:=p8) a8 P3 a9m (.mv a8 (.n (.C8 u7 (.t a8) (.t a8) .z5 (.n (.C8 P3 (.t a8) (.t a8) .z4 (.ag a8 (.nil (.ret ?_))))))))))))
    refine⟨_,.r3 a8 (.cell u7 a8 .z5) (.cell P3 a8 .z4) (.tmp a8),?_⟩
    unfold a5V
    rw [Q4 hc81]
  · refine .skip (.seq (.draw (by kernel_rfl) 12 [[],[],[],[(86,1),(87,2)],[],[(88,3),(89,4)],[],[(91,6)],[(85,0),(90,5),(92,7)],[(93,8)],[(93,8)],[(93,8)]] a8 (by kernel_rfl) a8 ?_))
    refine⟨_,j6.I4 u7 (.t a8) .z7 a8,?_⟩
    refine⟨_,j6.G7 (α:=UInt8) U1 Tryz.underlying86 .nil a8 (by decide) a8,?_⟩
    refine⟨_,j6.move (.t a8) a8,?_⟩
    refine⟨_,j6.a0A F5 (.inl ⟨_,Tryz.underlying86⟩) (.t a8) (.v (.t a8)) (by simp;omega) (by simp;omega) a8,?_⟩
    refine⟨_,j6.I4 p3 (.t a8) .z a8,?_⟩
    refine⟨_,j6.bS2 p8.l0 p8.l2 a8 P3 a9m (fun c0 c2=>(⟨c0,[],c2⟩:p8)) (fun _ _=>a8) a8 a8 a8 (.t a8) (.t a8) a8,?_⟩
    refine⟨_,j6.move (.t a8) a8,?_⟩
    refine⟨_,j6.bS2 j3.l0 j3.l4 a8 A7 a7K (fun c0 c4=>(⟨c0,0,0,0,c4,0⟩:j3)) (fun _ _=>a8) a8 a8 a8 (.i a8) (.t a8) a8,?_⟩
    refine⟨_,j6.m9 hG (a5W _ _ _ (by simp)) (.cons (.t a8) (.cons (.t a8) (.cons (.t a8) .nil))) a8,?_⟩
    refine⟨_,j6.K1 (.t a8) a8,?_⟩
    refine⟨_,j6.K2 (.t a8) a8,?_⟩
    refine⟨_,j6.K3 (.t a8) a8,?_⟩
    show F8 _ _ _ _ _ _ ((96,_)::(95,_)::(94,_)::(93,_)::(92,_)::(91,_)::(90,_)::(89,_)::(88,_)::(87,_)::(86,_)::(85,_)::_) _
    refine .n (.C8 u7 (.t a8) (.t a8) .z5 (.n (.C8 P3 (.t a8) (.t a8) .z4 (.ag a8 (.nil (.ret ?_))))))
    refine⟨_,.r3 a8 (.cell u7 a8 .z5) (.cell P3 a8 .z4) (.tmp a8),?_⟩
    unfold a5V
    rw [F7 (Decidable.not_not.1 hc81)];rfl
theorem b8t {c:b0I} {t:y9} (h:(!a0D t||decide (c.E8 < 0)||decide (7 < c.E8))=true):(a0D t&&decide (0≤c.E8)&&decide (c.E8≤7))=false:=by
 simp only [Bool.or_eq_true,Bool.not_eq_true',decide_eq_true_eq] at h
 rcases h with (h|h)|h
 ·rw [h];rfl
 ·rw [decide_eq_false (show ¬0≤c.E8 by omega),Bool.and_false];rfl
 ·rw [decide_eq_false (show ¬c.E8≤7 by omega),Bool.and_false]
theorem b6k {c:b0I} {t:y9} (h:(!a0D t||decide (c.E8 < 0)||decide (7 < c.E8))=false):a0D t=true∧0≤c.E8∧c.E8≤7:=by
 simp only [Bool.or_eq_false_iff,Bool.not_eq_false',decide_eq_false_iff_not] at h;exact⟨h.1.1,by omega,by omega⟩
theorem b4a {t:y9} (h:a0D t=true):0≤t.a2T∧t.a2T≤t.a6g∧t.a6g≤150:=by
 unfold a0D at h;simp only [Bool.and_eq_true,decide_eq_true_eq] at h;omega
theorem b0W {a:C7} {x:o9} (h:x∈(Q7 a).1.x7):x∈a.x7:=by
 unfold Q7 at h;split at h
 ·cases h
 ·exact h
theorem c0a (a:C7) (c:b0I) (t:y9) (h0:0≤a.F9) (hb:∀ x∈a.x7,x.X3.length≤1000000):u1 gl Tryz.prog 80 [.v a,.v c,.v t] (fun r=>r = .t3 (.v (a35 a c t).1) (.v (a35 a c t).2.1) (.v (a35 a c t).2.2)):=by
 have hb1:∀ x∈(Q7 a).1.x7,x.X3.length≤1000000:=fun x hx=>hb x (b0W hx)
 refine u1.intro Tryz.func80 rfl (by kernel_rfl) 70 rfl rfl _ rfl fun C hC hG=>(.sr rfl (.h (.box (.t rfl) fun b3 => .h (.box (.t rfl) fun b4 => .h (.box (.t rfl) fun b5 => .h (.alloc u7 fun b6 => .h (.alloc a2b fun b7 => .p (.assign (.i rfl) (.nil (.seq (.seq (.B0 hC .z3 (.Q5 4 rfl .z3 (.B0 hC .z2 (.Q5 5 rfl .z2 (.region rfl (.p (.x3 a5r (.t rfl) (.p (.m9 hG (a9P _) (.cons (.t rfl) .nil) (.p (.not (.t rfl) (.mv rfl (.go 15 rfl (.t rfl) (fun hg16 => .m0 u3.l0 (fun x=>x.E8) b2M rfl (fun _=>rfl) (.t rfl) rfl) (.go 15 rfl (.t rfl) (fun hg17 => .x3 D0 (.q rfl hg17) rfl) ?_)))))))))))))))))))))))))
 refine .go 15 a8 (.t a8) (fun hg18 => .lss (.q a8 hg18) (.i a8) a8) (.p (.E0 (.t a8) (fun hp=>(.q a8 hp)) (.mv a8 (.go 20 a8 (.t a8) (fun hg21 => .m0 u3.l0 (fun x=>x.E8) b2M a8 (fun _=>a8) (.t a8) a8) (.go 20 a8 (.t a8) (fun hg22 => .x3 D0 (.q a8 hg22) a8) (.go 20 a8 (.t a8) (fun hg23 => .gtr (.q a8 hg23) (.i a8) a8) (.p (.E0 (.t a8) (fun hp=>(.q a8 hp)) (.nil (.cond (.t a8) (fun hc24 => ?_) (fun hc24 => ?_)))))))))))
 ·refine .sr a8 (.p (.bS0 (α:=j7) a8 u7 a1g (.p (.bS0 (α:=C0) a8 a2b b4o (.n (.C8 u7 (.t a8) (.t a8) .z1 (.n (.C8 a2b (.t a8) (.t a8) .z (.p (.assign (.i a8) (.nil (.ret ?_))))))))))))
  refine⟨_,.r3 a8 (.cell u7 a8 .z1) (.cell a2b a8 .z) (.tmp a8),?_⟩
  unfold a35
  rw [if_pos (b8t hc24)]
 ·refine .skip (.seq ?_)
  obtain⟨htk,hp0,hp7⟩:=b6k hc24
  have htt:=b4a htk
  have hn1:=A8 (n:=t.a2T.toNat) (by omega)
  have hn2:=A8 (n:=t.a6g.toNat) (by omega)
  refine .region a8 (.p (.I4 u7 (.t a8) .z4 (.p (.m9 hG (b3i _ h0) (.cons (.t a8) .nil) (.mv a8 (.p (.K1 (.t a8) (.p (.K2 (.t a8) (.p (.K3 (.t a8) (.h (.alloc p3 fun b9 => .n (.C8 u7 (.t a8) (.t a8) .z5 (.n (.C8 p3 (.t a8) (.t a8) .z (.ag a8 (.nil (.seq (.seq ?_))))))))))))))))))))
  have hbf:(a0D t&&decide (0≤c.E8)&&decide (c.E8≤7))=true:=by rw [htk,decide_eq_true hp0,decide_eq_true hp7];rfl
  refine .region a8 (.mv a8 (.p (.W8 (.t a8) (.i a8) (.nil (.o8 (.t a8) (fun hc34 => ?_) (fun hc34 => ?_))))))
  ·refine .sr a8 (.p (.bS0 (α:=j7) a8 u7 a1g (.p (.bS0 (α:=C0) a8 a2b b4o (.mv a8 (.n (.C8 u7 (.t a8) (.t a8) .z2 (.n (.C8 a2b (.t a8) (.t a8) .z1 (.ag a8 (.nil (.ret ?_))))))))))))
   refine⟨_,.r3 a8 (.cell u7 a8 .z2) (.cell a2b a8 .z1) (.tmp a8),?_⟩
   unfold a35
   rw [if_neg (by rw [hbf];decide),Q4 hc34]
  ·refine .skip (.seq (.B0 hC .z (.Q5 9 rfl .z (.a1o [[j1,j1,j1,j1,j1,j1],[j1,j1,j1,j1,j1,j1],[j1,j1,j1,j1,j1,j1],[j1,j1,j1,j1,j1,j1],[j1,j1,j1,j1,j1,j1],[j1,j1,j1,j1,j1,j1],[j1,j1,j1,j1,j1,j0]] [[j1,j1,j1,j1,j1,j1],[j1,j1,j1,j1,j1,j1],[j1,j1,j1,j1,j1,j1],[j1,j1,j1,j1,j1,j1],[j1,j1,j1,j1,j1,j1],[],[j1,j1,j1,j1,j1,j1],[],[j1,j1,j1,j1,j1,j1],[j1,j1,j1,j1,j1,j1],[j1,j1,j1,j1,j1,j1],[],[j1,j1,j1,j1,j1,j1],[j1,j1,j1,j1,j1,j1],[j1,j1,j1,j1,j1,j1],[],[],[j1,j1,j1,j1,j1,j1],[j1,j1,j1,j1,j1,j1],[j1,j1,j1,j1,j1,j0],[j1,j1,j1,j1,j1,j0],[],[j1,j1,j1,j1,j1,j0],[j1,j1,j1,j1,j1,j0]] [[],[],[],[],[],[17,18,19,20,22,23],[]] [] 6 (by kernel_rfl) 24 [[],[],[(40,1)],[],[(42,3)],[],[],[(44,5),(45,6)],[],[(47,8)],[(48,9)],[(46,7),(49,10)],[],[(51,12)],[(52,13)],[(50,11),(53,14)],[(39,0),(41,2),(43,4),(54,15)],[(55,16)],[(38,17)],[(38,17)],[(38,17)],[(56,18)],[(57,19)],[(58,20)]] [5,7,11,15,16,21] rfl (by kernel_rfl) rfl (by kernel_rfl) rfl (by decide) (by simp) (fun p hp=>by cases hp) (by kernel_rfl) rfl ?_))))
   refine⟨_,fun H=>j6.I4 u7 (.t a8) (y3.app .z5) a8,?_⟩
   refine⟨_,fun H=>j6.m0 u3.l1 (fun x=>x.Key) b6L a8 (fun _=>a8) (.t a8) a8,?_⟩
   refine⟨_,fun H=>j6.x3 p3 (.t a8) a8,?_⟩
   refine⟨_,fun H=>j6.x4 j7.l2 a6K a8 (.t a8) a8,?_⟩
   refine⟨_,fun H=>j6.K0 (fun x=>x.F9) D0 (.t a8) (y3.app .z5) (fun _=>a8) a8,?_⟩
   refine .inl ?_
   refine⟨_,fun H=>j6.P5 (by decide) O7 (.t a8) a8,?_⟩
   refine .inl ?_
   refine⟨_,fun H=>j6.m0 y9.l0 (fun x=>x.a2T) a57 a8 (fun _=>a8) (.t a8) a8,?_⟩
   refine⟨_,fun H=>j6.x3 D0 (.t a8) a8,?_⟩
   refine⟨_,fun H=>j6.m9 hG (F0 _ (by omega) (by omega)) (.cons (.t a8) .nil) a8,?_⟩
   refine .inl ?_
   refine⟨_,fun H=>j6.m0 y9.l1 (fun x=>x.a6g) a58 a8 (fun _=>a8) (.t a8) a8,?_⟩
   refine⟨_,fun H=>j6.x3 D0 (.t a8) a8,?_⟩
   refine⟨_,fun H=>j6.m9 hG (F0 _ (by omega) (by omega)) (.cons (.t a8) .nil) a8,?_⟩
   refine .inl (.inl (.inl (.inl (.inl (.inl (.inl (.inl (.inl ?_))))))))
   refine⟨a8,?_⟩
   refine⟨⟨j2 [c8,c8,c8,c8,c8,c8],a8⟩,fun Ys6 => ?_⟩
   refine A6.buildSlice (α:=UInt8) U1 Tryz.underlying86 .nil rfl (by decide) fun b44 => ?_
   refine⟨[_],_,a8,?_⟩
   refine⟨⟨j2 [c8,c8,c8,c8,c8,c8],a8⟩,fun Ys6 => ?_⟩
   refine A6.append F5 (.inl ⟨_,Tryz.underlying86⟩) rfl .z (.v (.t rfl)) (by simp) (by simp) (fun w46 => ?_) rfl
   refine⟨[_],_,a8,?_⟩
   refine⟨⟨j2 [c8,c8,c8,c8,c8,c8],a8⟩,fun Ys6 => ?_⟩
   refine A6.append F5 (.inl ⟨_,Tryz.underlying86⟩) rfl .z (.v (.t rfl)) (by simp;omega) (by simp;omega) (fun w50 => ?_) rfl
   refine⟨[_],_,a8,?_⟩
   refine⟨⟨j2 [c8,c8,c8,c8,c8,c8],a8⟩,fun Ys6 => ?_⟩
   refine A6.append F5 (.inl ⟨_,Tryz.underlying86⟩) rfl .z (.v (.t rfl)) (by simp;omega) (by simp;omega) (fun w54 => ?_) rfl
   refine⟨[_],_,a8,?_⟩
   refine⟨⟨j2 [c8,c8,c8,c8,c8,c8],a8⟩,fun Ys6 => ?_⟩
   refine A6.y0 hC .z (A6.as 54 rfl .z (A6.ofP (j6.m9 hG (b4R _ _ _ _ hb1) (.cons (.t rfl) (.cons (.t rfl) (.cons (.t rfl) (.cons (.t rfl) .nil)))) ?_)))
   refine⟨[_],_,a8,?_⟩
   refine⟨_,fun H=>j6.move (.t a8) a8,?_⟩
   refine⟨_,fun H=>j6.K1 (.t a8) a8,?_⟩
   refine⟨_,fun H=>j6.K2 (.t a8) a8,?_⟩
   refine⟨_,fun H=>j6.K3 (.t a8) a8,?_⟩
   refine⟨_,fun H=>j6.assign (.t a8) a8,?_⟩
   refine⟨_,fun H=>j6.assign (.t a8) a8,?_⟩
   refine⟨⟨j2 [c8,c8,c8,c8,c8,c8],a8⟩,fun Ys6 => ?_⟩
   refine A6.C8 u7 (.t rfl) (.t rfl) (.s (y3.app (y3.app .z5))) ?_
   refine⟨[_],_,a8,?_⟩
   refine⟨⟨j2 [c8,c8,c8,c8,c8,_],a8⟩,fun ws6 => ?_⟩
   refine⟨⟨j2 [c8,c8,c8,c8,c8,_],a8⟩,fun _ => ?_⟩
   show F8 _ _ _ _ _ _ ((10,_)::(11,_)::(58,_)::(57,_)::(56,_)::(38,_)::(55,_)::(54,_)::(53,_)::(52,_)::(51,_)::(50,_)::(49,_)::(48,_)::(47,_)::(46,_)::(45,_)::(44,_)::(43,_)::(42,_)::(41,_)::(40,_)::(39,_)::_) _
   refine .nil (.seq (.sr a8 (.mv a8 (.p (.W8 (.t a8) (.i a8) (.nil (.o8 (.t a8) (fun hc60 => ?_) (fun hc60 => ?_))))))))
   ·refine .sr a8 (.p (.bS0 (α:=j7) a8 u7 a1g (.p (.bS0 (α:=C0) a8 a2b b4o (.mv a8 (.n (.C8 u7 (.t a8) (.t a8) .z3 (.n (.C8 a2b (.t a8) (.t a8) .z2 (.ag a8 (.nil (.ret ?_))))))))))))
    refine⟨_,.r3 a8 (.cell u7 a8 .z3) (.cell a2b a8 .z2) (.tmp a8),?_⟩
    unfold a35
    rw [if_neg (by rw [hbf];decide),F7 (Decidable.not_not.1 hc34),Q4 (r:=(Q8 (Q7 a).1 c.Key (Q7 a).1.F9 (Z8 (Q7 a).2.1 t))) hc60];rfl
   ·refine .skip (.seq (.E7 [j1,j1,j0,j0,j1,j1,j1] (by kernel_rfl) 9 [[],[],[(65,1)],[],[],[(66,2),(67,3),(68,4)],[(64,0)],[(69,5)],[]] [6,7] a8 (by kernel_rfl) a8 (by kernel_rfl) (by decide) ?_))
    refine⟨_,fun H=>j6.I4 u7 (.t a8) (y3.app .z6) a8,?_⟩
    refine⟨_,fun H=>j6.m0 u3.l0 (fun x=>x.E8) b2M a8 (fun _=>a8) (.t a8) a8,?_⟩
    refine⟨_,fun H=>j6.x3 D0 (.t a8) a8,?_⟩
    refine⟨_,fun H=>j6.x3 p3 (.t a8) a8,?_⟩
    refine⟨_,fun H=>j6.move (.t a8) a8,?_⟩
    refine⟨_,fun H=>j6.bS3 C0.l0 C0.l1 C0.l2 a8 a2b b4o (fun c0 c1 c2=>(⟨c0,c1,c2⟩:C0)) (fun _ _ _=>a8) a8 a8 a8 a8 (.t a8) (.t a8) (.t a8) a8,?_⟩
    refine .inl (.inl ?_)
    refine⟨_,fun H=>j6.assign (.i a8) a8,?_⟩
    refine⟨⟨([],j2 [c8,c8,_,_,c8,c8,c8]),a8⟩,?_⟩
    refine A6.C8 u7 (.t rfl) (.t rfl) .z3 ?_
    refine⟨⟨([],j2 [c8,c8,_,_,c8,c8,c8]),a8⟩,?_⟩
    refine A6.C8 a2b (.t rfl) (.t rfl) .z2 ?_
    refine⟨⟨([],j2 [c8,c8,_,_,c8,c8,c8]),a8⟩,?_⟩
    show F8 _ _ _ _ _ _ ((8,_)::(69,_)::(68,_)::(67,_)::(66,_)::(65,_)::(64,_)::_) _
    refine .nil (.ret ?_)
    refine⟨_,.r3 a8 (.cell u7 a8 .z3) (.cell a2b a8 .z2) (.tmp a8),?_⟩
    unfold a35
    rw [if_neg (by rw [hbf];decide),F7 (Decidable.not_not.1 hc34),F7 (r:=(Q8 (Q7 a).1 c.Key (Q7 a).1.F9 (Z8 (Q7 a).2.1 t))) (Decidable.not_not.1 hc60)];rfl
theorem ofNat_inj {a b:Nat} (ha:a < 256) (hb:b < 256) (h:UInt8.ofNat a=UInt8.ofNat b):a=b:=by
 have:=congrArg UInt8.toNat h
 simp at this;omega
theorem V3:∀ (a b:Nat) (s t:List UInt8),K5 a++s=K5 b++t→a=b∧s=t:=by
 intro a
 induction a using Nat.strongRecOn with
 | _ a ih =>
  intro b s t h
  by_cases ha:a < 128
  ·by_cases hb:b < 128
   ·rw [a2h ha,a2h hb] at h
    simp only [List.cons_append,List.nil_append,List.cons.injEq] at h
    exact⟨ofNat_inj (by omega) (by omega) h.1,h.2⟩
   ·rw [a2h ha,a30 hb] at h
    simp only [List.cons_append,List.nil_append,List.cons.injEq] at h
    have:=ofNat_inj (by omega) (by omega) h.1
    omega
  ·by_cases hb:b < 128
   ·rw [a30 ha,a2h hb] at h
    simp only [List.cons_append,List.nil_append,List.cons.injEq] at h
    have:=ofNat_inj (by omega) (by omega) h.1
    omega
   ·rw [a30 ha,a30 hb] at h
    simp only [List.cons_append,List.cons.injEq] at h
    have h1:=ofNat_inj (by omega) (by omega) h.1
    obtain⟨h2,h3⟩:=ih (a/128) (by omega) (b/128) s t h.2
    exact⟨by omega,h3⟩
def bnd (B:C7) (leaf:Tag) (r:Rq) (g:Dis):Bnd:=⟨g.j8,g.l8,(m8 B g.Tag (U4 leaf r)).1⟩
theorem a8S {r:Rq} (h:S9 r=true):(a1a r).length≤14:=by
 have:=a1b h
 have l1:=A8 (n:=r.Gate.toNat) (by omega)
 have l2:=A8 (n:=r.E3.toNat) (by omega)
 unfold a1a;rw [List.length_append];omega
theorem b4b {leaf:Tag} {r:Rq} (h:S9 r=true):(U4 leaf r).length≤60:=by
 have:=a8S h
 unfold U4;rw [List.length_append,List.length_append,leaf.len];show 4+_≤_;omega
theorem b8v {r:Rq} (h:S9 r=true):(a2J r).length≤30:=by
 have:=a8S h
 unfold a2J;rw [List.length_append];show 7+_≤_;omega
structure c2H (a:C7) (n:Nat) (leaf:Tag) (r:Rq) (l:List Dis) (c:C7):Prop where
 eq:a2L leaf r a l=(c,l.map (bnd c leaf r),0)
 ok:H6 c (n+l.length)
 le:Q0 a c
 boxes:c.x7=a.x7
 looks:∀ g∈l,(m8 c g.Tag (U4 leaf r)).2=true
 Z5:∀ x∈c.G3,x∈a.G3∨∃ g∈l,x.Key=g.Tag∧x.Message=U4 leaf r
theorem H6.binds (leaf:Tag) {r:Rq} (hr:S9 r=true):∀ (l:List Dis) {a:C7} {n:Nat},H6 a n→n+l.length < 60000→∃ c,c2H a n leaf r l c
 | [],a,n,h,_=>⟨a,rfl,h,Q0.refl a,rfl,fun g hg=>(by cases hg),fun x hx=>Or.inl hx⟩
 | d::l,a,n,h,hn=>by
  rw [List.length_cons] at hn
  obtain⟨b,t,s⟩:=h.step (by omega) d.Tag (m:=U4 leaf r) (by have:=b4b (leaf:=leaf) hr;omega)
  obtain⟨c,q⟩:=H6.binds leaf hr l s.ok (by omega)
  have hl:m8 c d.Tag (U4 leaf r)=(t,true):=q.le.look s.look
  have e1:a2K a d leaf r=(b,⟨d.j8,d.l8,t⟩,0):=by
   unfold a2K;rw [if_neg (by rw [hr];decide),s.eq,F7 rfl]
  refine⟨c,?_,?_,s.le.trans q.le,q.boxes.trans s.boxes,fun g hg => ?_,fun x hx => ?_⟩
  ·show a0S (a2K a d leaf r) _=_
   rw [e1,F7 rfl];dsimp only
   rw [q.eq,F7 rfl,List.map_cons]
   have:bnd c leaf r d=⟨d.j8,d.l8,t⟩:=by unfold bnd;rw [hl]
   rw [this]
  ·have:=q.ok;rw [List.length_cons];exact this.le (by omega)
  ·rcases List.mem_cons.1 hg with rfl|hg
   ·rw [hl]
   ·exact q.looks g hg
  ·rcases q.Z5 x hx with h'|⟨g,hg,h'⟩
   ·rcases s.Z5 x h' with h'|h'
    ·exact Or.inl h'
    ·exact Or.inr ⟨d,by simp,h'⟩
   ·exact Or.inr ⟨g,by simp [hg],h'⟩
theorem b4c (l:List Cav):0≤a09 l∧a09 l≤l.length:=by
 have:=a0P l;unfold a09;omega
theorem b2u (l:List Bnd):a3o l=false↔(l.map (·.j8)).Nodup:=by
 unfold a3o U6 List.Nodup
 rw [List.pairwise_map,List.pairwise_iff_getElem,List.any_eq_false]
 constructor
 ·intro h i j hi hj hij e
  have h1:=h j (List.mem_range.2 hj)
  rw [Bool.not_eq_true,List.any_eq_false] at h1
  have h2:=h1 l[i] (List.mem_take_iff_getElem.2 ⟨i,by omega,rfl⟩)
  rw [a38 hj] at h2
  simp [e] at h2
 ·intro h j hj
  rw [Bool.not_eq_true,List.any_eq_false]
  intro x hx
  obtain⟨i,hi,rfl⟩:=List.mem_take_iff_getElem.1 hx
  have hj':=List.mem_range.1 hj
  rw [a38 hj']
  have:=h i j (by omega) hj' (by omega)
  simpa using this
theorem b0X {A : C7} {root : Epo} {P : Pass} {G : List Dis} {T : List Tag} {n k : Nat} (h : a0i A root P G T n k) (hk : k ≤ 6) {r : Rq} (hr : S9 r = true) (t : Tag) (f : Dis → Bnd) (hf : ∀ g, (f g).j8 = g.j8 ∧ (f g).l8 = g.l8) :
    M8 ⟨r,P.C9,P.y7,P.l9,t,G.map f⟩=0:=by
  have hncav:=h.a4M
  have hngr:=h.ngr
  have hser:=h.a4R
  have hep:=h.a4e
  have hth:=b4c P.l9
  have hrq:=a1b hr
  have e1:O6 ⟨r,P.C9,P.y7,P.l9,t,G.map f⟩=true:=by
    unfold O6;simp [hr];omega
  have e2:S2 ⟨r,P.C9,P.y7,P.l9,t,G.map f⟩=false:=by
    unfold S2
    simp only [List.any_map,Bool.or_eq_false_iff,decide_eq_false_iff_not,List.any_eq_false,List.length_map]
    refine⟨⟨⟨by omega,by omega⟩,by omega⟩,fun g hg => ?_⟩
    have:=(h.a3F g hg).a7P
    simp only [Function.comp,a1L,(hf g).2]
    simpa using this
  have e3:((P.l9.any fun c => !H7 c)||(G.map f).any a3n)=false:=by
    simp only [List.any_map,Bool.or_eq_false_iff,List.any_eq_false]
    refine⟨fun c hc=>by rw [(h.cav c hc).1];decide,fun g hg => ?_⟩
    have h1:=h.a3F g hg
    have h2:(g.l8.any fun p => !A5 p)=false:=List.any_eq_false.2 fun p hp=>by rw [(h1.con p hp).1];decide
    have:=h1.tick
    simp only [Function.comp,a3n,(hf g).1,(hf g).2,h2]
    rw [decide_eq_false (show ¬g.j8.length < 1 by omega),decide_eq_false (show ¬1024 < g.j8.length by omega)];decide
  have e4:(G.map f).any a3E=false:=by
    simp only [List.any_map,List.any_eq_false]
    intro g hg
    have h2:(g.l8.any fun p=>decide (p.Kind=7))=false:=List.any_eq_false.2 fun p hp=>by simpa using ((h.a3F g hg).con p hp).2
    simp only [Function.comp,a3E,(hf g).2,h2];decide
  have e5:a3o (G.map f)=false:=by
    rw [b2u,List.map_map]
    have:((fun d:Bnd=>d.j8)∘f)=fun g:Dis=>g.j8:=funext fun g=>(hf g).1
    rw [this];exact h.nodup
  have e6:(a1c ⟨r,P.C9,P.y7,P.l9,t,G.map f⟩).length≤4096:=by
    have l1:=a1A [1,r.Gate,r.E3,P.C9,P.y7,(P.l9.length:Int)] (by simp;omega)
    have l2:=a13 D7 P.l9 200 fun c hc=>(h.cav c hc).2
    have l3:=A8 (n:=(G.map f).length) (by simp;omega)
    have l4:=a13 L7 (G.map f) 400 fun d hd=>by
      obtain⟨g,hg,rfl⟩:=List.mem_map.1 hd
      have h1:=h.a3F g hg
      have:=h1.tick
      have:=h1.a7P
      have m1:=A8 (n:=(f g).j8.length) (by rw [(hf g).1];omega)
      have m2:=A8 (n:=(f g).l8.length) (by rw [(hf g).2];omega)
      have m3:=a13 u4 g.l8 24 fun p hp=>I5 (L6 (h1.con p hp).1)
      unfold L7 a0n
      rw [(hf g).1] at m1 ⊢
      rw [(hf g).2] at m2 ⊢
      simp only [List.length_append,(f g).Proof.len];omega
    rw [List.length_map] at l3 l4
    simp only [List.length_cons,List.length_nil] at l1
    unfold a1c
    simp only [List.length_append,t.len,List.length_map];omega
  have e0:F6 ⟨r,P.C9,P.y7,P.l9,t,G.map f⟩=0:=by
    unfold F6;dsimp only;simp only [e1,e2,e3,e4,e5,Bool.false_eq_true,Bool.true_eq_false,if_false]
  unfold M8
  rw [e0,if_neg (by decide),if_neg (by omega)]
structure a67 (B:C7) (root:Epo) (P:Pass) (G:List Dis) (T:List Tag) (r:Rq) (t:Tag) (n k:Nat):Prop where
 sc:a0i B root P G T n k
 rq:S9 r=true
 proof:m8 B P.Tag (a2J r)=(t,true)
 binds:∀ g∈G,(m8 B g.Tag (U4 P.Tag r)).2=true
 Z5:∀ x∈B.G3,(∃ c,x.Message.head?=some c∧c≠114∧c≠98)∨(x.Key=P.Tag∧x.Message=a2J r)∨(∃ g∈G,x.Key=g.Tag∧x.Message=U4 P.Tag r)
def prB (B:C7) (P:Pass) (G:List Dis) (r:Rq) (t:Tag):Y0:=⟨r,P.C9,P.y7,P.l9,t,G.map (bnd B P.Tag r)⟩
theorem b2v:∀ {X:List Bnd} {d:Bnd},(X.map (·.j8)).Nodup→d∈X→a23 X d.j8=some d
 | [],g,_,h=>by cases h
 | e::X,d,hn,h=>by
  unfold a23
  rw [List.map_cons,List.nodup_cons] at hn
  by_cases q:e.j8=d.j8
  ·rw [List.find?_cons_of_pos (by simpa using q)]
   rcases List.mem_cons.1 h with rfl|h
   ·rfl
   ·exact absurd (List.mem_map.2 ⟨d,h,q.symm⟩) hn.1
  ·rw [List.find?_cons_of_neg (by simpa using q)]
   rcases List.mem_cons.1 h with rfl|h
   ·exact absurd rfl q
   ·exact b2v hn.2 h
theorem b8w {f:Dis→Bnd} (hf:∀ g,(f g).j8=g.j8) (G:List Dis):(G.map f).map (·.j8)=G.map (·.j8):=by
 rw [List.map_map]
 have:((fun d:Bnd=>d.j8)∘f)=fun g:Dis=>g.j8:=funext hf
 rw [this]
theorem b6l {f:Dis→Bnd} (hf:∀ g,(f g).j8=g.j8) {G:List Dis} {g:Dis} (hn:(G.map (·.j8)).Nodup) (h:g∈G):a23 (G.map f) g.j8=some (f g):=by
 rw [←hf g]
 exact b2v (by rw [b8w hf];exact hn) (List.mem_map.2 ⟨g,h,rfl⟩)
theorem a0i.last {A:C7} {root:Epo} {P:Pass} {G:List Dis} {T:List Tag} {n k:Nat} (h:a0i A root P G T n k):T.getLastD default=P.Tag:=by
 have h1:=h.leaf
 rwa [getLastD_cons (by have:=h.a5X;omega)] at h1
theorem b6c.ver {B:C7} {root:Epo} {P:Pass} {G:List Dis} {T:List Tag} {r:Rq} {t:Tag} {n k:Nat} (h:a67 B root P G T r t n k) {c:Cav} {s:Tag} (hc:b6c B G s c) {x:Y0} (hx:x.Request=r) (hd:∀ g∈G,a23 x.j4 g.j8=some (bnd B P.Tag r g)):b8b B x c s P.Tag:=by
 obtain⟨key,bk,g,h1,h2,h3,h4,h5⟩:=hc.th
 refine⟨key,bk,bnd B P.Tag r g,g.Tag,h2,h3,by rw [←h4];exact hd g h1,?_,?_⟩
 ·rw [←h4];exact h5
 ·rw [hx];exact Prod.ext rfl (h.binds g h1)
theorem a67.ver {B:C7} {root:Epo} {P:Pass} {G:List Dis} {T:List Tag} {r:Rq} {t:Tag} {n k:Nat} (h:a67 B root P G T r t n k) (hk:k≤6):b8c B root.Key (prB B P G r t) T:=by
 refine⟨b0X h.sc hk h.rq t (bnd B P.Tag r) fun g=>⟨rfl,rfl⟩,h.sc.walk,h.sc.a5X,h.sc.nodes,by rw [h.sc.last];exact h.proof,fun i hi h3 => ?_,?_⟩
 ·rw [h.sc.last]
  exact(h.sc.a7x i hi h3).ver h a8 fun g hg=>b6l (fun _=>a8) h.sc.nodup hg
 ·refine List.any_eq_false.2 fun d hd => ?_
  obtain⟨g,hg,rfl⟩:=List.mem_map.1 hd
  obtain⟨c,hc,h1,h2⟩:=(h.sc.a3F g hg).cav
  have:(P.l9.any fun c=>c.M1&&decide (c.j8=g.j8))=true:=List.any_eq_true.2 ⟨c,hc,by rw [h1,h2];simp⟩
  show ¬(!(P.l9.any fun c=>c.M1&&decide (c.j8=g.j8)))=true
  rw [this];decide
theorem a3I {B:C7} {n:Nat} (h:H6 B n) (hn:n < 60000) (hf:B.J0=true) {k k' t:Tag} {m m':List UInt8} (h1:m8 B k m=(t,true)) (h2:m8 B k' m'=(t,true)):k=k'∧m=m':=by
 rw [look_eq,if_pos hf] at h1 h2
 obtain⟨x,hx,hx2⟩:=h1
 obtain⟨y,hy,hy2⟩:=h2
 have ex:=(a5a k m x).1 (List.find?_some hx)
 have ey:=(a5a k' m' y).1 (List.find?_some hy)
 obtain⟨i,hi,rfl⟩:=List.getElem_of_mem (List.mem_of_find?_eq_some hx)
 obtain⟨j,hj,rfl⟩:=List.getElem_of_mem (List.mem_of_find?_eq_some hy)
 have t1:=(h.tag i hi).2
 have t2:=(h.tag j hj).2
 have hl:=h.Z5
 rw [hf,if_pos rfl] at t1 t2
 rw [hx2] at t1;rw [hy2] at t2
 obtain rfl:=b0M (by omega) (by omega) (t1.symm.trans t2)
 exact⟨ex.1.symm.trans ey.1,ex.2.symm.trans ey.2⟩
theorem b2w {B:C7} (hf:B.J0=true) {k t:Tag} {m:List UInt8} (h1:m8 B k m=(t,true)):∃ x∈B.G3,x.Key=k∧x.Message=m:=by
 rw [look_eq,if_pos hf] at h1
 obtain⟨x,hx,hx2⟩:=h1
 have ex:=(a5a k m x).1 (List.find?_some hx)
 exact⟨x,List.mem_of_find?_eq_some hx,ex.1,ex.2⟩
theorem V4 {p:Tag→List UInt8→Tag×Bool} {k:Tag} {l:List (List UInt8)} {m:List UInt8} {r:List Tag} (h:O5 p k (l ++ [m])=some r):∃ s,O5 p k l=some s∧p (s.getLastD default) m=(r.getLastD default,true):=by
 rw [a6t] at h
 cases hs:O5 p k l with
 | none=>rw [hs] at h;cases h
 | some s =>
  rw [hs] at h
  refine⟨s,a8,?_⟩
  have h2:(if (p (s.getLastD default) m).2 then some (s ++ [(p (s.getLastD default) m).1]) else none)=some r:=h
  split at h2
  ·next h3 =>
   obtain rfl:=Option.some.inj h2
   have e:∀ x:Tag,(s ++ [x]).getLastD default=x:=fun x=>by rw [List.getLastD_eq_getLast?,List.getLast?_append];rfl
   exact Prod.ext (e _).symm h3
  ·cases h2
theorem a9e {p q:Pred} (hp:A5 p=true) (hq:A5 q=true) (h:u4 p=u4 q):p=q:=by
 have op:=L6 hp
 have oq:=L6 hq
 have kp:=op.kind
 have kq:=oq.kind
 unfold u4 at h
 obtain⟨h1,h⟩:=V3 _ _ _ _ h
 have hk:p.Kind=q.Kind:=by omega
 unfold A5 at hp hq
 rw [←hk] at hq h
 have pf:=op.from_
 have qf:=oq.from_
 have pt:=op.to
 have qt:=oq.to
 have pn:=op.num
 have qn:=oq.num
 by_cases a1:p.Kind=1∨p.Kind=2∨p.Kind=3
 ·rw [if_pos a1] at hp hq
  simp only [Bool.and_eq_true,decide_eq_true_eq] at hp hq
  rw [if_neg (by omega),if_neg (by omega),if_neg (by omega),if_neg (by omega),if_neg (by omega),if_neg (by omega)] at h
  have e:=a8K h
  exact hp.2.trans ((by rw [e]:(⟨p.Kind,p.Mask,0,0,⟨[]⟩,0⟩:Pred)=⟨p.Kind,q.Mask,0,0,⟨[]⟩,0⟩).trans hq.2.symm)
 ·rw [if_neg a1] at hp hq
  by_cases a4:p.Kind=4
  ·rw [if_pos a4] at hp hq
   simp only [Bool.and_eq_true,decide_eq_true_eq] at hp hq
   rw [if_pos (Or.inl a4),if_pos (Or.inl a4)] at h
   obtain⟨e1,h⟩:=V3 _ _ _ _ h
   obtain⟨e2,_⟩:=V3 p.To.toNat q.To.toNat [] [] (by rw [h])
   have f1:p.J8=q.J8:=by omega
   have f2:p.To=q.To:=by omega
   exact hp.2.trans ((by rw [f1,f2]:(⟨p.Kind,0,p.J8,p.To,⟨[]⟩,0⟩:Pred)=⟨p.Kind,0,q.J8,q.To,⟨[]⟩,0⟩).trans hq.2.symm)
  ·rw [if_neg a4] at hp hq
   by_cases a5:p.Kind=5
   ·rw [if_pos a5] at hp hq
    simp only [Bool.and_eq_true,decide_eq_true_eq] at hp hq
    rw [if_pos (Or.inr a5),if_pos (Or.inr a5)] at h
    obtain⟨e1,h⟩:=V3 _ _ _ _ h
    obtain⟨e2,_⟩:=V3 p.To.toNat q.To.toNat [] [] (by rw [h])
    have f1:p.J8=q.J8:=by omega
    have f2:p.To=q.To:=by omega
    exact hp.2.trans ((by rw [f1,f2]:(⟨p.Kind,0,p.J8,p.To,⟨[]⟩,0⟩:Pred)=⟨p.Kind,0,q.J8,q.To,⟨[]⟩,0⟩).trans hq.2.symm)
   ·rw [if_neg a5] at hp hq
    by_cases a6:p.Kind=6
    ·rw [if_pos a6] at hp hq
     simp only [Bool.and_eq_true,decide_eq_true_eq] at hp hq
     rw [if_neg (by omega),if_pos a6,if_neg (by omega),if_pos a6] at h
     obtain⟨_,h⟩:=V3 _ _ _ _ h
     have e:p.Name=q.Name:=congrArg Str.mk h
     exact hp.2.trans ((by rw [e]:(⟨p.Kind,0,0,0,p.Name,0⟩:Pred)=⟨p.Kind,0,0,0,q.Name,0⟩).trans hq.2.symm)
    ·rw [if_neg a6,if_pos (by omega)] at hp hq
     simp only [Bool.and_eq_true,decide_eq_true_eq] at hp hq
     rw [if_neg (by omega),if_neg a6,if_pos (by omega),if_neg (by omega),if_neg a6,if_pos (by omega)] at h
     obtain⟨e2,_⟩:=V3 p.Number.toNat q.Number.toNat [] [] (by rw [h])
     have e:p.Number=q.Number:=by omega
     exact hp.2.trans ((by rw [e]:(⟨p.Kind,0,0,0,⟨[]⟩,p.Number⟩:Pred)=⟨p.Kind,0,0,0,⟨[]⟩,q.Number⟩).trans hq.2.symm)
theorem b0Y {c d:Cav} (hc:H7 c=true) (hd:H7 d=true) (h:D7 c=D7 d):c=d:=by
 unfold D7 at h
 cases h3:c.M1 with
 | true =>
  cases h4:d.M1 with
  | false=>rw [h3,h4,if_pos rfl,if_neg (by decide)] at h;cases h
  | true =>
   rw [h3,h4,if_pos rfl,if_pos rfl] at h
   obtain⟨c1,c2,c3,c4,c5,c6,c7⟩:=a0N hc h3
   obtain⟨d1,d2,d3,d4,d5,d6,d7⟩:=a0N hd h4
   have h:=(List.cons.inj h).2
   unfold a0n at h
   simp only [List.append_assoc] at h
   obtain⟨e1,h⟩:=V3 _ _ _ _ h
   obtain⟨e2,h⟩:=V3 _ _ _ _ h
   obtain⟨e3,h⟩:=List.append_inj h e2
   obtain⟨_,e4⟩:=V3 _ _ _ _ h
   have e5:c.E8=d.E8:=by omega
   obtain⟨cT,cF,cP,cK,cB⟩:=c
   obtain⟨dT,dF,dP,dK,dB⟩:=d
   dsimp only at *
   subst h3 h4 c1 d1 e3 e4 e5;rfl
 | false =>
  cases h4:d.M1 with
  | true=>rw [h3,h4,if_neg (by decide),if_pos rfl] at h;cases h
  | false =>
   rw [h3,h4,if_neg (by decide),if_neg (by decide)] at h
   obtain⟨c1,c2,c3,c4⟩:=a0O hc h3
   obtain⟨d1,d2,d3,d4⟩:=a0O hd h4
   have e:=a9e c1 d1 (List.cons.inj h).2
   obtain⟨cT,cF,cP,cK,cB⟩:=c
   obtain⟨dT,dF,dP,dK,dB⟩:=d
   dsimp only at *
   subst h3 h4 e c2 d2 c3 d3 c4 d4;rfl
theorem a29 {α:Type} (l:List α):l = []∨∃ m a,l=m ++ [a]:=by
 rcases List.eq_nil_or_concat l with h|⟨m,a,h⟩
 ·exact Or.inl h
 ·exact Or.inr ⟨m,a,by rw [h,List.concat_eq_append]⟩
theorem a4T {n:Int} {c:Cav}:W4 n≠Z6 c:=fun h=>by
 have:=congrArg List.head? h
 simp [W4,Z6] at this
theorem a7E {m n:Int} (hm:1≤m) (hn:1≤n) (h:W4 m=W4 n):m=n:=by
 have h:=List.append_cancel_left h
 obtain⟨h1,_⟩:=V3 m.toNat n.toNat [] [] (by rw [h])
 omega
theorem b6m {B : C7} {n : Nat} (h : H6 B n) (hn : n < 60000) (hf : B.J0 = true) {k k' : Tag} {i j : Int} (hi : 1 ≤ i) (hj : 1 ≤ j) : ∀ (N : Nat) (l m : List Cav) {s r : List Tag}, l.length ≤ N → (∀ c ∈ l, H7 c = true) → (∀ c ∈ m, H7 c = true) →
    O5 (m8 B) k (C5 i l)=some s→O5 (m8 B) k' (C5 j m)=some r→s.getLastD default=r.getLastD default→k=k'∧i=j∧l=m:=by
  intro N
  induction N with
  | zero =>
    intro l m s r hN hl hm h1 h2 e
    obtain rfl:l = []:=List.length_eq_zero_iff.1 (by omega)
    rcases a29 m with rfl|⟨m',c,rfl⟩
    · obtain⟨_,h3,h4⟩:=V4 (l := []) h1
      obtain⟨_,h5,h6⟩:=V4 (l := []) h2
      cases h3;cases h5
      rw [e] at h4
      obtain⟨e1,e2⟩:=a3I h hn hf h4 h6
      exact⟨e1,a7E hi hj e2,a8⟩
    · obtain⟨_,h3,h4⟩:=V4 (l := []) h1
      rw [show C5 j (m' ++ [c])=C5 j m' ++ [Z6 c] by simp [C5]] at h2
      obtain⟨_,h5,h6⟩:=V4 h2
      rw [e] at h4
      exact absurd (a3I h hn hf h4 h6).2 a4T
  | succ N ih =>
    intro l m s r hN hl hm h1 h2 e
    rcases a29 l with rfl|⟨l',d,rfl⟩
    · rcases a29 m with rfl|⟨m',c,rfl⟩
      · obtain⟨_,h3,h4⟩:=V4 (l := []) h1
        obtain⟨_,h5,h6⟩:=V4 (l := []) h2
        cases h3;cases h5
        rw [e] at h4
        obtain⟨e1,e2⟩:=a3I h hn hf h4 h6
        exact⟨e1,a7E hi hj e2,a8⟩
      · obtain⟨_,h3,h4⟩:=V4 (l := []) h1
        rw [show C5 j (m' ++ [c])=C5 j m' ++ [Z6 c] by simp [C5]] at h2
        obtain⟨_,h5,h6⟩:=V4 h2
        rw [e] at h4
        exact absurd (a3I h hn hf h4 h6).2 a4T
    · rw [show C5 i (l' ++ [d])=C5 i l' ++ [Z6 d] by simp [C5]] at h1
      obtain⟨s',h3,h4⟩:=V4 h1
      rcases a29 m with rfl|⟨m',c,rfl⟩
      · obtain⟨_,h5,h6⟩:=V4 (l := []) h2
        rw [e] at h4
        exact absurd (a3I h hn hf h6 h4).2 a4T
      · rw [show C5 j (m' ++ [c])=C5 j m' ++ [Z6 c] by simp [C5]] at h2
        obtain⟨r',h5,h6⟩:=V4 h2
        rw [e] at h4
        obtain⟨e1,e2⟩:=a3I h hn hf h4 h6
        have hd:=hl d (by simp)
        have hc:=hm c (by simp)
        rw [a5d hd,a5d hc] at e2
        obtain rfl:=b0Y hd hc (List.append_cancel_left e2)
        obtain⟨q1,q2,rfl⟩:=ih l' m' (by simp at hN;omega) (fun c hc=>hl c (by simp [hc])) (fun c hc=>hm c (by simp [hc])) h3 h5 e1
        exact⟨q1,q2,a8⟩
theorem b6n {r q:Rq} (hr:S9 r=true) (hq:S9 q=true) (h:a2J r=a2J q):r=q:=by
 have h:=List.append_cancel_left h
 unfold a1a at h
 obtain⟨e1,h⟩:=V3 _ _ _ _ h
 obtain⟨e2,_⟩:=V3 r.E3.toNat q.E3.toNat [] [] (by rw [h])
 have:=a1b hr
 have:=a1b hq
 obtain⟨g,n⟩:=r
 obtain⟨g',n'⟩:=q
 dsimp only at *
 rw [show g=g' by omega,show n=n' by omega]
def W7 (e:Epo) (l:Int):Ring:=⟨[e],l⟩
theorem a9U {l i:Int} {e x:Epo} (h:a1G (W7 e l) i=some x):i=e.Number∧x=e:=by
 unfold a1G W7 at h
 by_cases h2:e.Number=i
 ·rw [List.find?_cons_of_pos (by simpa using h2)] at h;cases h;exact⟨h2.symm,rfl⟩
 ·rw [List.find?_cons_of_neg (by simpa using h2)] at h;cases h
theorem b8x (e:Epo) (l:Int):a1G (W7 e l) e.Number=some e:=by
 unfold a1G W7;rw [List.find?_cons_of_pos (by simp)]
section
variable {B:C7} {root:Epo} {P:Pass} {G:List Dis} {T:List Tag} {r:Rq} {t:Tag} {n k:Nat}
theorem a67.b4d (h:a67 B root P G T r t n k) (hk:k≤6) (l:Int):∃ v,a5g B (W7 root l) (prB B P G r t)=(v,0)∧v.a9z.length=P.l9.length+1∧v.b5C=P.Tag:=by
 refine⟨_,b8d (root:=root) (by rw [show(prB B P G r t).C9=root.Number from h.sc.a4e.1];exact b8x _ _) (h.ver hk),?_,h.sc.last⟩
 have:=b3Q h.sc.nodes
 rw [h.sc.a5X] at this;exact this
theorem a67.c0b (h:a67 B root P G T r t n k) (hk:k≤6) {e:Epo} (hm:e.Number≠root.Number) (l:Int):(a5g B (W7 e l) (prB B P G r t)).2=16:=by
 have hc:=(h.ver hk).chk
 cases he:a1G (W7 e l) (prB B P G r t).C9 with
 | none=>rw [c0I hc he]
 | some x =>
  have:=(a9U he).1
  rw [show(prB B P G r t).C9=root.Number from h.sc.a4e.1] at this
  exact absurd this.symm hm
theorem a67.b8y (h:a67 B root P G T r t n k) (hk:k≤6) (hn:n < 60000) (hf:B.J0=true) (key:Tag) (l:Int):(a5g B (W7 ⟨root.Number,key⟩ l) (prB B P G r t)).2=0↔key=root.Key:=by
 constructor
 ·intro hv
  obtain⟨e,T',he,hV⟩:=b6f hv
  obtain⟨he1,rfl⟩:=a9U he
  obtain⟨y,hy,hyk,hym⟩:=b2w hf hV.proof
  have hP:T'.getLastD default=P.Tag:=by
   rcases h.Z5 y hy with ⟨c,hc,hc1,hc2⟩|⟨h1,h2⟩|⟨g,_,_,h2⟩
   ·rw [hym] at hc;exact absurd (Option.some.inj hc).symm hc1
   ·exact hyk.symm.trans h1
   ·rw [hym] at h2;exact absurd (congrArg List.head? h2) (by simp [a2J,U4])
  have hser:=h.sc.a4R
  exact(b6m h.sc.ok hn hf (by show 1≤P.y7;omega) (by show 1≤P.y7;omega) _ _ _ (Nat.le_refl _) (fun c hc=>(h.sc.cav c hc).1) (fun c hc=>(h.sc.cav c hc).1) hV.walk h.sc.walk (by
   rw [getLastD_cons (by have:=hV.a5X;omega),hP,getLastD_cons (by have:=h.sc.a5X;omega),h.sc.last])).1
 ·rintro rfl
  obtain⟨v,hv,_⟩:=h.b4d hk l
  rw [hv]
end
end Go.Proofs.YtmmclghiidoldaaGreatDoor
namespace Go.Ab
open Go.Fl Go.RowKit
open p9 (rep)
section c0c
variable {P:Program} {C:Ctx} {N:Nat} {σ:y2} {H:j9} {Q:Exit→y2→j9→Prop}
theorem y3.fz {w:Value} {a:AV} {b:Bool} {F:Bool×E9→j9} (hH:y3 H (b,.fz w a) F) {n0:Nat} {I:Im} {L:Lh} (hr:T5 n0 I H L):H4 I a w:=by
 obtain⟨i,X,h1,h2,h3⟩:=hH.get hr
 exact h2.1.2
theorem L9.c0c {α β:Type} {r:p9 α} {s:p9 β} {w:Value} {x:α} {y:β} {b:Bool} {c:Code} {F:Bool×E9→j9} (hH:y3 H (b,.ob w x) F) (h:∀ n0 I L,T5 n0 I H L→∀ cs,r.rep I x cs→s.rep I y cs) (k:L9 P C N c Q σ (F (b,.ob w y))):L9 P C N c Q σ H:=fun ρ I L hs=>by
 obtain⟨i,X,h2,h3,h4⟩:=hH.get hs.heap
 have hset:L.set i X=L:=by
  obtain⟨hi,e⟩:=List.getElem?_eq_some_iff.1 h2
  rw [←e,List.set_getElem_self]
 obtain⟨⟨bb,T,cs,e1,e2,e3⟩,h5⟩:=h3
 have:=h4 I (b,.ob w y) X (Le.refl I) ⟨⟨bb,T,cs,e1,e2,h _ I L hs.heap cs e3⟩,h5⟩
 rw [hset] at this
 exact k ρ I L ⟨hs.env,this,hs.V5⟩
end c0c
section rawOps
variable {P:Program} {C:Ctx} {N:Nat} {σ:y2} {H:j9}
theorem F1.vR {α:Type} {r:p9 α} {t:Nat} {w:Value} {l:List α} {b:Bool} {F:Bool×E9→j9} (ht:G4 σ t=some (.raw w)) (hH:y3 H (b,.fz w (.v l)) F):F1 C σ H (.tmp t) (.v (V8.mk w)):=fun ρ I L hs=>by
 obtain⟨u,h1,rfl⟩:=hs.env t _ ht
 have h:=y3.fz hH hs.heap
 obtain⟨cs,⟨v,e1,h4⟩,e2⟩:=h
 subst e1
 have e2:u=v:=e2
 have o4:u.oneCell'=true:=by rw [e2];obtain⟨xs,⟨a,c,rfl,_⟩,_⟩:=h4;rfl
 exact⟨_,h1,_,⟨a8,o4⟩,a8⟩
theorem EvL.st {α β γ:Type} {ra:p9 α} {rb:p9 β} {rc:p9 γ} {t:Nat} {x:α} {y:β} {E:TypeId} {w:Value} {l:List γ} {g:Bool} {F:Bool×E9→j9} (ht:G4 σ t=some (.v x)) (h:y3 H (g,.own E w l) F) (hc:∀ J n0 L v,T5 n0 J H L→H4 J (.v x) v→H4 J (.v l) w→H4 J (.v y) v):EvL C σ H (.tmp t) (.v y):=fun ρ I L hs=>by
 obtain⟨u,h1,h2⟩:=hs.env t _ ht
 obtain⟨i,X,h3,h4,_⟩:=h.get hs.heap
 exact⟨_,h1,fun J hle hp=>hc J _ L u (hs.heap.mono hle) (h2.mono hle) (W0 h4.1 hle (fun p hpx=>hp p (D2 h3 hpx)))⟩
theorem F8.name {ops:Array Oper} {Q:Exit→y2→j9→Prop} {os:List Oper} (t:Nat) {a:AV} (ht:G4 σ t=some a) (k:∀ w,F8 P C N ops Q os ((t,.raw w)::σ) ((true,.fz w a)::H)):F8 P C N ops Q os σ H:=fun ρ I L hs=>by
 obtain⟨u,h1,h2⟩:=hs.env t _ ht
 refine wpL.pad (k u ρ I ([]::L) ⟨fun s b hb => ?_,⟨[],L,rfl,⟨⟨rfl,h2⟩,fun _ p hp=>by cases hp⟩,hs.heap⟩,hs.V5⟩)
 rw [M6] at hb
 by_cases e:t=s
 ·subst e;simp at hb;subst hb;exact⟨u,h1,rfl⟩
 ·rw [if_neg e] at hb;exact hs.env s b hb
end rawOps
end Go.Ab
namespace Go.Proofs.YtmmclghiidoldaaGreatDoor
open Go.Fl Go.Ab Go.Mac Go.Sha
theorem a1f {l:List Pred} {p:Pred} (h:∀ q∈l,A5 q=true) (hp:A5 p=true):∀ q∈l ++ [p],A5 q=true:=fun q hq=>by
 rcases List.mem_append.1 hq with h'|h'
 ·exact h q h'
 ·rw [List.mem_singleton.1 h'];exact hp
theorem b2x (w:Value) (d:o5) (n:Int) (s:Str) (hd:L5 d) (h0:0≤n) (h1:n≤1000) (hs:S8 s=true):G5 gl Tryz.prog 78 [dk w,.v n,.v s] [.ob w d] (fun r Hs=>∃ l:List Pred,(l.length:Int)≤n∧(∀ p∈l,A5 p=true)∧∃ d',L5 d'∧r = .v l∧Hs = [.ob w d']):=by
 refine G5.a5K Tryz.func78 rfl (by kernel_rfl) 58 rfl rfl _ rfl _ rfl fun C hC hG=>(.sr rfl (.p (.assign (.K4 (α:=j3)) (.nil (.sr rfl (.p (.assign .raw (.nil (.seq (.seq (.a19 97 Pred (.region rfl (.mv rfl (.mv rfl (.p (.add (.t rfl) (.i rfl) (by omega) (by omega) (.h (.D3 hG (I7 _ _ _ (by first|assumption|exact y8 _) (by omega) (by omega)) .z1 (.cons (.t rfl) (.cons (.t rfl) .nil)) (by rintro _ _ ⟨_,_,_,_,_,_,rfl⟩;exact⟨_,rfl⟩) fun r12 B12 hr12 => ?_))))))))))))))))))
 obtain⟨v12,d12,h012,h112,hd12,rfl,hB⟩:=hr12
 cases hB
 refine .ag a8 (.nil (.block (.F4 (α:=Nat×Value×List Pred×o5) [(0,_),(2,_)] (fun x R=>(7,.raw x.2.1)::(8,.v (x.1:Int))::R) (fun x => [(true,.own 97 x.2.1 x.2.2.1),(false,.ob w x.2.2.2)]) (fun x=>(x.1:Int)+x.2.2.1.length≤n∧L5 x.2.2.2∧∀ p∈x.2.2.1,A5 p=true) (fun x=>x.1) ((v12.toNat,.slice none 0 0,[],d12)) (.c2 a8 a8 (.nil _)) ?_ (.cons a8 (.cons (congrArg (fun q=>some (AV.v q)) (by dsimp only;omega)) (.c2 a8 a8 (.nil _)))) (a8) fun x hF => ?_)))
 ·exact⟨by dsimp only;simp;omega,by assumption,by simp⟩
 obtain⟨k,v,b,e⟩:=x
 obtain⟨h2,h3,h4⟩:=hF
 dsimp only at h2 h3 h4 ⊢
 refine .seq (.sr a8 (.mv a8 (.p (.gtr (.t a8) (.i a8) (.nil (.o8 (.t a8) (fun hc14 => ?_) (fun hc14 => ?_)))))))
 ·refine .skip (.seq (.block (.sr a8 (.mv a8 (.h (.D3 hG (I7 _ _ _ (by first|assumption|exact y8 _) (by omega) (by omega)) .z1 (.cons (.t a8) (.cons (.i a8) .nil)) (by rintro _ _ ⟨_,_,_,_,_,_,rfl⟩;exact⟨_,rfl⟩) fun r18 B18 hr18 => ?_))))))
  obtain⟨v18,d18,h018,h118,hd18,rfl,hB⟩:=hr18
  cases hB
  refine .nil (.block (.sr a8 (.p (.D4 (.t a8) (.i a8) (.ag a8 (.nil (.o8 (.t a8) (fun hc19 => ?_) (fun hc19 => ?_))))))))
  ·refine .region a8 (.mv a8 (.p (.bS2 j3.l0 j3.l1 a8 A7 a7K (fun c0 c1=>(⟨c0,c1,0,0,⟨[]⟩,0⟩:j3)) (fun _ _=>a8) a8 a8 a8 (.i a8) (.u64 7 a8) (.h (.buildSlice (α:=j3) A7 Tryz.underlying83 (.cons (.t a8) .nil) a8 (by decide) fun b23 => .h (.append a8v (.inl ⟨_,Tryz.underlying83⟩) a8 .z1 (.own a8 .z) (by simp;omega) (by simp;omega) (fun w24 => .ag a8 ?_) a8))))))
   refine .drop (.nil (.region a8 (.mv a8 (.p (.sub (.t a8) (.i a8) (by omega) (by omega) (.ag a8 (.nil ?_)))))))
   refine⟨(k - 1,_,_,_),.cons rfl (.cons (congrArg (fun q=>some (AV.v q)) (by dsimp only;omega)) (.c2 rfl rfl (.nil _))),rfl,?_,by dsimp only;omega⟩
   first|(exfalso;omega)|(exfalso;simp_all;done)|(exfalso;simp at *;omega)|exact⟨by dsimp only;simp;omega,by assumption,a1f h4 (by first|assumption|exact Q9 hs|exact I8 (by omega) (by omega) (by omega)|exact M9 (by omega) (by omega)|exact E4 (Or.inl rfl) (by decide))⟩
  ·refine .sr a8 (.p (.D4 (.t a8) (.i a8) (.ag a8 (.nil (.o8 (.t a8) (fun hc25 => ?_) (fun hc25 => ?_))))))
   ·refine .region a8 (.mv a8 (.mv a8 (.h (.D3 hG (I7 _ _ _ (by first|assumption|exact y8 _) (by omega) (by omega)) .z1 (.cons (.t a8) (.cons (.i a8) .nil)) (by rintro _ _ ⟨_,_,_,_,_,_,rfl⟩;exact⟨_,rfl⟩) fun r29 B29 hr29 => ?_))))
    obtain⟨v29,d29,h029,h129,hd29,rfl,hB⟩:=hr29
    cases hB
    refine .p (.add (.i a8) (.t a8) (by omega) (by omega) (.p (.bS3 j3.l0 j3.l2 j3.l3 a8 A7 a7K (fun c0 c2 c3=>(⟨c0,0,c2,c3,⟨[]⟩,0⟩:j3)) (fun _ _ _=>a8) a8 a8 a8 a8 (.i a8) (.i a8) (.t a8) (.h (.buildSlice (α:=j3) A7 Tryz.underlying83 (.cons (.t a8) .nil) a8 (by decide) fun b32 => .h (.append a8v (.inl ⟨_,Tryz.underlying83⟩) a8 .z1 (.own a8 .z) (by simp;omega) (by simp;omega) (fun w33 => .ag a8 ?_) a8))))))
    refine .drop (.nil (.region a8 (.mv a8 (.p (.sub (.t a8) (.i a8) (by omega) (by omega) (.ag a8 (.nil ?_)))))))
    refine⟨(k - 1,_,_,_),.cons rfl (.cons (congrArg (fun q=>some (AV.v q)) (by dsimp only;omega)) (.c2 rfl rfl (.nil _))),rfl,?_,by dsimp only;omega⟩
    first|(exfalso;omega)|(exfalso;simp_all;done)|(exfalso;simp at *;omega)|exact⟨by dsimp only;simp;omega,by assumption,a1f h4 (by first|assumption|exact Q9 hs|exact I8 (by omega) (by omega) (by omega)|exact M9 (by omega) (by omega)|exact E4 (Or.inl rfl) (by decide))⟩
   ·refine .sr a8 (.p (.D4 (.t a8) (.i a8) (.ag a8 (.nil (.o8 (.t a8) (fun hc34 => ?_) (fun hc34 => ?_))))))
    ·refine .region a8 (.mv a8 (.mv a8 (.p (.bS2 j3.l0 j3.l4 a8 A7 a7K (fun c0 c4=>(⟨c0,0,0,0,c4,0⟩:j3)) (fun _ _=>a8) a8 a8 a8 (.i a8) (.t a8) (.h (.buildSlice (α:=j3) A7 Tryz.underlying83 (.cons (.t a8) .nil) a8 (by decide) fun b39 => .h (.append a8v (.inl ⟨_,Tryz.underlying83⟩) a8 .z1 (.own a8 .z) (by simp;omega) (by simp;omega) (fun w40 => .ag a8 ?_) a8)))))))
     refine .drop (.nil (.region a8 (.mv a8 (.p (.sub (.t a8) (.i a8) (by omega) (by omega) (.ag a8 (.nil ?_)))))))
     refine⟨(k - 1,_,_,_),.cons rfl (.cons (congrArg (fun q=>some (AV.v q)) (by dsimp only;omega)) (.c2 rfl rfl (.nil _))),rfl,?_,by dsimp only;omega⟩
     first|(exfalso;omega)|(exfalso;simp_all;done)|(exfalso;simp at *;omega)|exact⟨by dsimp only;simp;omega,by assumption,a1f h4 (by first|assumption|exact Q9 hs|exact I8 (by omega) (by omega) (by omega)|exact M9 (by omega) (by omega)|exact E4 (Or.inl rfl) (by decide))⟩
    ·refine .seq (.sr a8 (.p (.D4 (.t a8) (.i a8) (.ag a8 (.nil (.cond (.t a8) (fun hc41 => ?_) (fun hc41 => ?_)))))))
     ·refine .skip (.cond (.t a8) (fun hc41 => ?_) (fun hc41 => ?_))
      ·refine .region a8 (.mv a8 (.mv a8 (.h (.D3 hG (I7 _ _ _ (by first|assumption|exact y8 _) (by omega) (by omega)) .z1 (.cons (.t a8) (.cons (.i a8) .nil)) (by rintro _ _ ⟨_,_,_,_,_,_,rfl⟩;exact⟨_,rfl⟩) fun r46 B46 hr46 => ?_))))
       obtain⟨v46,d46,h046,h146,hd46,rfl,hB⟩:=hr46
       cases hB
       refine .p (.bS2 j3.l0 j3.l5 a8 A7 a7K (fun c0 c5=>(⟨c0,0,0,0,⟨[]⟩,c5⟩:j3)) (fun _ _=>a8) a8 a8 a8 (.i a8) (.t a8) (.h (.buildSlice (α:=j3) A7 Tryz.underlying83 (.cons (.t a8) .nil) a8 (by decide) fun b48 => .h (.append a8v (.inl ⟨_,Tryz.underlying83⟩) a8 .z1 (.own a8 .z) (by simp;omega) (by simp;omega) (fun w49 => .ag a8 ?_) a8))))
       refine .drop (.nil (.region a8 (.mv a8 (.p (.sub (.t a8) (.i a8) (by omega) (by omega) (.ag a8 (.nil ?_)))))))
       refine⟨(k - 1,_,_,_),.cons rfl (.cons (congrArg (fun q=>some (AV.v q)) (by dsimp only;omega)) (.c2 rfl rfl (.nil _))),rfl,?_,by dsimp only;omega⟩
       first|(exfalso;omega)|(exfalso;simp_all;done)|(exfalso;simp at *;omega)|exact⟨by dsimp only;simp;omega,by assumption,a1f h4 (by first|assumption|exact Q9 hs|exact I8 (by omega) (by omega) (by omega)|exact M9 (by omega) (by omega)|exact E4 (Or.inl rfl) (by decide))⟩
      ·refine .sr a8 (.p (.D4 (.t a8) (.i a8) (.ag a8 (.nil (.o8 (.t a8) (fun hc50 => ?_) (fun hc50 => ?_))))))
       ·refine .region a8 (.mv a8 (.mv a8 (.h (.D3 hG (a0h _ _ _ (by assumption)) .z1 (.cons (.t a8) (.cons .b .nil)) (by rintro _ _ ⟨_,_,_,_,_,_,rfl⟩;exact⟨_,rfl⟩) fun r54 B54 hr54 => ?_))))
        obtain⟨p54,hp54,hk54,d54,hd54,rfl,hB⟩:=hr54
        cases hB
        refine .h (.buildSlice (α:=j3) A7 Tryz.underlying83 (.cons (.t a8) .nil) a8 (by decide) fun b55 => .h (.append a8v (.inl ⟨_,Tryz.underlying83⟩) a8 .z1 (.own a8 .z) (by simp;omega) (by simp;omega) (fun w56 => .ag a8 ?_) a8))
        refine .drop (.nil (.region a8 (.mv a8 (.p (.sub (.t a8) (.i a8) (by omega) (by omega) (.ag a8 (.nil ?_)))))))
        refine⟨(k - 1,_,_,_),.cons rfl (.cons (congrArg (fun q=>some (AV.v q)) (by dsimp only;omega)) (.c2 rfl rfl (.nil _))),rfl,?_,by dsimp only;omega⟩
        first|(exfalso;omega)|(exfalso;simp_all;done)|(exfalso;simp at *;omega)|exact⟨by dsimp only;simp;omega,by assumption,a1f h4 (by first|assumption|exact Q9 hs|exact I8 (by omega) (by omega) (by omega)|exact M9 (by omega) (by omega)|exact E4 (Or.inl rfl) (by decide))⟩
       ·refine .skip (.region a8 (.mv a8 (.p (.sub (.t a8) (.i a8) (by omega) (by omega) (.ag a8 (.nil ?_))))))
        refine⟨(k - 1,_,_,_),.cons rfl (.cons (congrArg (fun q=>some (AV.v q)) (by dsimp only;omega)) (.c2 rfl rfl (.nil _))),rfl,?_,by dsimp only;omega⟩
        first|(exfalso;omega)|(exfalso;simp_all;done)|(exfalso;simp at *;omega)|exact⟨by dsimp only;simp;omega,by assumption,a1f h4 (by first|assumption|exact Q9 hs|exact I8 (by omega) (by omega) (by omega)|exact M9 (by omega) (by omega)|exact E4 (Or.inl rfl) (by decide))⟩
     ·refine .region a8 (.p (.D4 (.t a8) (.i a8) (.ag a8 (.nil (.cond (.t a8) (fun hc41 => ?_) (fun hc41 => ?_))))))
      ·refine .region a8 (.mv a8 (.mv a8 (.h (.D3 hG (I7 _ _ _ (by first|assumption|exact y8 _) (by omega) (by omega)) .z1 (.cons (.t a8) (.cons (.i a8) .nil)) (by rintro _ _ ⟨_,_,_,_,_,_,rfl⟩;exact⟨_,rfl⟩) fun r46 B46 hr46 => ?_))))
       obtain⟨v46,d46,h046,h146,hd46,rfl,hB⟩:=hr46
       cases hB
       refine .p (.bS2 j3.l0 j3.l5 a8 A7 a7K (fun c0 c5=>(⟨c0,0,0,0,⟨[]⟩,c5⟩:j3)) (fun _ _=>a8) a8 a8 a8 (.i a8) (.t a8) (.h (.buildSlice (α:=j3) A7 Tryz.underlying83 (.cons (.t a8) .nil) a8 (by decide) fun b48 => .h (.append a8v (.inl ⟨_,Tryz.underlying83⟩) a8 .z1 (.own a8 .z) (by simp;omega) (by simp;omega) (fun w49 => .ag a8 ?_) a8))))
       refine .drop (.nil (.region a8 (.mv a8 (.p (.sub (.t a8) (.i a8) (by omega) (by omega) (.ag a8 (.nil ?_)))))))
       refine⟨(k - 1,_,_,_),.cons rfl (.cons (congrArg (fun q=>some (AV.v q)) (by dsimp only;omega)) (.c2 rfl rfl (.nil _))),rfl,?_,by dsimp only;omega⟩
       first|(exfalso;omega)|(exfalso;simp_all;done)|(exfalso;simp at *;omega)|exact⟨by dsimp only;simp;omega,by assumption,a1f h4 (by first|assumption|exact Q9 hs|exact I8 (by omega) (by omega) (by omega)|exact M9 (by omega) (by omega)|exact E4 (Or.inl rfl) (by decide))⟩
      ·refine .sr a8 (.p (.D4 (.t a8) (.i a8) (.ag a8 (.nil (.o8 (.t a8) (fun hc50 => ?_) (fun hc50 => ?_))))))
       ·refine .region a8 (.mv a8 (.mv a8 (.h (.D3 hG (a0h _ _ _ (by assumption)) .z1 (.cons (.t a8) (.cons .b .nil)) (by rintro _ _ ⟨_,_,_,_,_,_,rfl⟩;exact⟨_,rfl⟩) fun r54 B54 hr54 => ?_))))
        obtain⟨p54,hp54,hk54,d54,hd54,rfl,hB⟩:=hr54
        cases hB
        refine .h (.buildSlice (α:=j3) A7 Tryz.underlying83 (.cons (.t a8) .nil) a8 (by decide) fun b55 => .h (.append a8v (.inl ⟨_,Tryz.underlying83⟩) a8 .z1 (.own a8 .z) (by simp;omega) (by simp;omega) (fun w56 => .ag a8 ?_) a8))
        refine .drop (.nil (.region a8 (.mv a8 (.p (.sub (.t a8) (.i a8) (by omega) (by omega) (.ag a8 (.nil ?_)))))))
        refine⟨(k - 1,_,_,_),.cons rfl (.cons (congrArg (fun q=>some (AV.v q)) (by dsimp only;omega)) (.c2 rfl rfl (.nil _))),rfl,?_,by dsimp only;omega⟩
        first|(exfalso;omega)|(exfalso;simp_all;done)|(exfalso;simp at *;omega)|exact⟨by dsimp only;simp;omega,by assumption,a1f h4 (by first|assumption|exact Q9 hs|exact I8 (by omega) (by omega) (by omega)|exact M9 (by omega) (by omega)|exact E4 (Or.inl rfl) (by decide))⟩
       ·refine .skip (.region a8 (.mv a8 (.p (.sub (.t a8) (.i a8) (by omega) (by omega) (.ag a8 (.nil ?_))))))
        refine⟨(k - 1,_,_,_),.cons rfl (.cons (congrArg (fun q=>some (AV.v q)) (by dsimp only;omega)) (.c2 rfl rfl (.nil _))),rfl,?_,by dsimp only;omega⟩
        first|(exfalso;omega)|(exfalso;simp_all;done)|(exfalso;simp at *;omega)|exact⟨by dsimp only;simp;omega,by assumption,a1f h4 (by first|assumption|exact Q9 hs|exact I8 (by omega) (by omega) (by omega)|exact M9 (by omega) (by omega)|exact E4 (Or.inl rfl) (by decide))⟩
 ·refine .exit (.seq (.y0 hC .z (.as 7 a8 .z (.region a8 (.mv a8 (.ag a8 (.nil (.ret ?_))))))))
  refine⟨_,.r1 a8 (.tmp a8),?_⟩
  exact⟨1,_,by omega,h4,_,h3,rfl,rfl⟩
structure j5 where
 A:j7
 Ring:B3
 C:u3
 Pass:x6
 M7:V8
 Request:p7
 Q6:Str
 Minute:Int
def j5.f (x:j5):j7×B3×u3×x6×V8×p7×Str×Int×Unit:=(x.A,x.Ring,x.C,x.Pass,x.M7,x.Request,x.Q6,x.Minute,())
instance:Inhabited j5:=⟨⟨default,default,default,default,default,default,default,default⟩⟩
instance:p9 j5:=p9.via j5.f
instance:J6 j5:=J6.via j5.f rfl
def j5.l0:m5 j5 j7:=m5.via j5.f m5.fst (fun x=>x.A) (fun y x => { x with A:=y }) (fun _=>rfl) (fun _ _=>rfl)
def j5.l1:m5 j5 B3:=m5.via j5.f (m5.snd.comp m5.fst) (fun x=>x.Ring) (fun y x => { x with Ring:=y }) (fun _=>rfl) (fun _ _=>rfl)
def j5.l2:m5 j5 u3:=m5.via j5.f (m5.snd.comp (m5.snd.comp m5.fst)) (fun x=>x.C) (fun y x => { x with C:=y }) (fun _=>rfl) (fun _ _=>rfl)
def j5.l3:m5 j5 x6:=m5.via j5.f (m5.snd.comp (m5.snd.comp (m5.snd.comp m5.fst))) (fun x=>x.Pass) (fun y x => { x with Pass:=y }) (fun _=>rfl) (fun _ _=>rfl)
def j5.l4:m5 j5 V8:=m5.via j5.f (m5.snd.comp (m5.snd.comp (m5.snd.comp (m5.snd.comp m5.fst)))) (fun x=>x.M7) (fun y x => { x with M7:=y }) (fun _=>rfl) (fun _ _=>rfl)
def j5.l5:m5 j5 p7:=m5.via j5.f (m5.snd.comp (m5.snd.comp (m5.snd.comp (m5.snd.comp (m5.snd.comp m5.fst))))) (fun x=>x.Request) (fun y x => { x with Request:=y }) (fun _=>rfl) (fun _ _=>rfl)
def j5.l6:m5 j5 Str:=m5.via j5.f (m5.snd.comp (m5.snd.comp (m5.snd.comp (m5.snd.comp (m5.snd.comp (m5.snd.comp m5.fst)))))) (fun x=>x.Q6) (fun y x => { x with Q6:=y }) (fun _=>rfl) (fun _ _=>rfl)
def j5.l7:m5 j5 Int:=m5.via j5.f (m5.snd.comp (m5.snd.comp (m5.snd.comp (m5.snd.comp (m5.snd.comp (m5.snd.comp (m5.snd.comp m5.fst))))))) (fun x=>x.Minute) (fun y x => { x with Minute:=y }) (fun _=>rfl) (fun _ _=>rfl)
theorem c0L:H9 Tryz.prog 44 V8 := .of (by kernel_rfl) (by kernel_rfl) (by kernel_rfl) (by decide)
theorem c2I:H9 Tryz.prog 46 j5 := .of (by kernel_rfl) (by kernel_rfl) (by kernel_rfl) (by decide)
abbrev Scn:=o7
def b8z (s:Scn) (u:Value):j5:=⟨s.A,s.Ring,s.C,s.Pass,⟨u⟩,s.Request,s.Q6,s.Minute⟩
theorem b6p {s:Scn} {u:Value} {I:Im} {cs:List Value} (h:p9.rep I (b8z s u) cs) (hg:H4 I (.v s.M7) u):p9.rep I s cs:=by
 obtain⟨c1,r1,rfl,h1,c2,r2,rfl,h2,c3,r3,rfl,h3,c4,r4,rfl,h4,c5,r5,rfl,⟨rfl,_⟩,h6⟩:=h
 obtain⟨_,⟨v,rfl,h5⟩,rfl⟩:=hg
 exact⟨c1,_,a8,h1,c2,_,a8,h2,c3,_,a8,h3,c4,_,a8,h4,_,_,a8,⟨_,a8,h5⟩,h6⟩
theorem as3 {α:Type} [p9 α] {P:Program} {f:FuncId} {ag:List AV} {x:C7×α×Int} {b:C7} {y:α} {e:Int} (h:u1 gl P f ag (fun r=>r = .t3 (.v x.1) (.v x.2.1) (.v x.2.2))) (hx:x=(b,y,e)):u1 gl P f ag (fun r=>r = .t3 (.v b) (.v y) (.v e)):=by
 subst hx;exact h
abbrev b4e:Str:=⟨[97,110,110]⟩
structure a7F (A:C7) (root:Epo) (P:Pass) (G:List Dis) (k:Nat):Prop where
 ex:∃ T n,a0i A root P G T n k∧n≤4+10*k
 b5f:a3G A
theorem a9V {A:C7} {root:Epo} {P:Pass} {G:List Dis} {k:Nat} (h:a7F A root P G k) (hk:k < 6) {l:List Pred} (hl:l.length≤1) (hp:∀ p∈l,A5 p=true):∃ B Q,a1d A P l=(B,Q,0)∧a7F B root Q G (k+1):=by
 obtain⟨T,n,hs,hn⟩:=h.ex
 rcases l with _|⟨p,l⟩
 ·exact⟨A,P,rfl,⟨T,n,hs.wide (Nat.le_refl _) (Nat.le_succ _),by omega⟩,h.b5f⟩
 ·obtain rfl:l = []:=List.length_eq_zero_iff.1 (by simpa using hl)
  obtain⟨B,Q,U,e,h2,h3,_⟩:=hs.first (by omega) (by omega) (hp p (by simp)) h.b5f
  refine⟨B,Q,?_,⟨U,n+2,h2,by omega⟩,h3⟩
  unfold a1d;rw [e,F7 rfl];rfl
set_option maxHeartbeats 1000000 in
theorem b6q (w:Value) (d:o5) (wide:Bool) (hd:L5 d):G5 gl Tryz.prog 30 [dk w,.v wide] [.ob w d] (fun r Hs=>∃ s:Scn,∃ root k,(a7F s.A root s.Pass s.M7 k∧k≤5∧root.Number=2∧s.Ring=W7 root 3∧S9 s.Request=true∧s.Q6=b4e)∧∃ d',L5 d'∧r = .v s∧Hs = [.ob w d']):=by
 refine G5.a5K Tryz.func30 rfl (by kernel_rfl) 176 rfl rfl _ rfl _ rfl fun C hC hG=>(.sr rfl (.h (.alloc a6h fun b4=>(.nil (.sr rfl (.h (.alloc c2I fun b5=>(.nil (.seq (.a19 139 Dis (.region rfl (.mv rfl (.h (.D3 hG (I7 _ _ _ (by first|assumption|exact y8 _) (by omega) (by omega)) .z3 (.cons (.t rfl) (.cons (.i rfl) .nil)) (by rintro _ _ ⟨_,_,_,_,_,_,rfl⟩;exact⟨_,rfl⟩) fun r15 B15 hr15 => ?_))))))))))))))
 obtain⟨v15,d15,h015,h115,hd15,rfl,hB⟩:=hr15
 cases hB
 refine .p (.D4 (.t a8) (.i a8) (.mv a8 (.h (.D3 hG (b3k _ _ (by first|assumption|exact y8 _)) .z3 (.cons (.t a8) .nil) (by rintro _ _ ⟨_,_,_,_,rfl⟩;exact⟨_,rfl⟩) fun r18 B18 hr18 => ?_))))
 obtain⟨k18,d18,hd18,rfl,hB⟩:=hr18
 cases hB
 refine .p (.m9 hG (c1a _ _) (.cons (.t a8) (.cons (.t a8) .nil)) (.p (.x4 j5.l0 O8 a8 (.t a8) (.n (.U0 (fun y x => { x with A:=y }) u7 (.t a8) (.t a8) .z1 (fun _ _=>a8) (.nil (.sr a8 (.h (.alloc p3 fun b6 => .h (.alloc p3 fun b7=>(.nil (.sr a8 (.p (.x4 j5.l0 O8 a8 (.t a8) (.p (.K0 (fun x=>x.A) u7 (.t a8) .z3 (fun _=>a8) (.p (.m9 hG (b3i _ (Int.le_refl 0)) (.cons (.t a8) .nil) ?_))))))))))))))))))
 have hk0:=(H6.new (decide (v15=0)) k18 0).b0N (by decide)
 obtain⟨kb,kt,ks⟩:=hk0
 rw [ks.eq]
 dsimp only
 refine .mv a8 (.p (.K1 (.t a8) (.p (.K2 (.t a8) (.p (.K3 (.t a8) (.p (.x4 j5.l0 O8 a8 (.t a8) (.n (.U0 (fun y x => { x with A:=y }) u7 (.t a8) (.t a8) .z3 (fun _ _=>a8) (.n (.C8 p3 (.t a8) (.t a8) .z1 (.nil (.sr a8 (.p (.x4 j5.l0 O8 a8 (.t a8) (.p (.K0 (fun x=>x.A) u7 (.t a8) .z3 (fun _=>a8) (.p (.m9 hG (b3i _ ks.ok.a5N) (.cons (.t a8) .nil) ?_))))))))))))))))))))
 have hk0:=ks.ok.b0N (by decide)
 obtain⟨kb2,kt2,ks2⟩:=hk0
 rw [ks2.eq]
 dsimp only
 refine .mv a8 (.p (.K1 (.t a8) (.p (.K2 (.t a8) (.p (.K3 (.t a8) (.p (.x4 j5.l0 O8 a8 (.t a8) (.n (.U0 (fun y x => { x with A:=y }) u7 (.t a8) (.t a8) .z3 (fun _ _=>a8) (.n (.C8 p3 (.t a8) (.t a8) .z (.nil (.sr a8 (.p (.I4 p3 (.t a8) .z (.p (.bS2 p6.l0 p6.l1 a8 a4z b6Q (fun c0 c1=>(⟨c0,c1⟩:p6)) (fun _ _=>a8) a8 a8 a8 (.i a8) (.t a8) (.h (.buildSlice (α:=p6) a4z Tryz.underlying30 (.cons (.t a8) .nil) a8 (by decide) fun b39=>(.y0 hC .z (.as 39 a8 .z (.p (.bS2 B3.l0 B3.l1 a8 a6R c1O (fun c0 c1=>(⟨c0,c1⟩:B3)) (fun _ _=>a8) a8 a8 a8 (.t a8) (.i a8) (.p (.x4 j5.l1 a6L a8 (.t a8) (.n (.U0 (fun y x => { x with Ring:=y }) a6R (.t a8) (.t a8) .z4 (fun _ _=>a8) (.drop (.nil (.sr a8 (.p (.x4 j5.l6 b2Q a8 (.t a8) (.n (.U0 (fun y x => { x with Q6:=y }) ty9 (.t a8) (.s [97,110,110] (by decide) (by decide)) .z3 (fun _ _=>a8) (.nil ?_))))))))))))))))))))))))))))))))))))
 refine .sr a8 (.mv a8 (.h (.D3 hG (I7 _ _ _ (by first|assumption|exact y8 _) (by omega) (by omega)) .z5 (.cons (.t a8) (.cons (.i a8) .nil)) (by rintro _ _ ⟨_,_,_,_,_,_,rfl⟩;exact⟨_,rfl⟩) fun r44 B44 hr44 => ?_)))
 obtain⟨v44,d44,h044,h144,hd44,rfl,hB⟩:=hr44
 cases hB
 refine .p (.x4 j5.l7 b6N a8 (.t a8) (.n (.U0 (fun y x => { x with Minute:=y }) D0 (.t a8) (.t a8) .z3 (fun _ _=>a8) (.nil (.seq (.E7 [j1,j1,j1,j1,j1,j0] (by kernel_rfl) 13 [[],[(46,0)],[],[],[(49,3)],[(50,4)],[(51,5)],[(52,6)],[(53,7)],[],[(54,8),(55,9)],[(47,1),(48,2),(56,10)],[]] [1,4,5,6,7,8,10,11] a8 (by kernel_rfl) a8 (by kernel_rfl) (by decide) ?_))))))
 refine⟨_,fun H=>j6.move (.t a8) a8,?_⟩
 refine .inl ?_
 refine⟨_,fun H=>j6.I4 p3 (.t a8) (y3.app .z1) a8,?_⟩
 refine⟨_,fun H=>j6.move (.t a8) a8,?_⟩
 refine .inl (.inl (.inl (.inl (.inl ?_))))
 refine⟨_,fun H=>j6.bS2 A0.l0 A0.l1 a8 a2D b6S (fun c0 c1=>(⟨c0,c1⟩:A0)) (fun _ _=>a8) a8 a8 a8 (.s [98,111,98] (by decide) (by decide)) (.i a8) a8,?_⟩
 refine .inl (.inl ?_)
 refine⟨_,fun H=>j6.x4 j5.l2 b2O a8 (.t a8) a8,?_⟩
 refine⟨⟨([],j2 [c8,c8,c8,c8,c8,_]),a8⟩,?_⟩
 refine A6.D3 hG (I7 _ _ _ (by first|assumption|exact y8 _) (by omega) (by omega)) .z5 (.cons (.t rfl) (.cons (.i rfl) .nil)) (by rintro _ _ ⟨_,_,_,_,_,_,rfl⟩;exact⟨_,rfl⟩) fun r47 B47 hr47 => ?_
 obtain⟨v47,d47,h047,h147,hd47,rfl,hB⟩:=hr47
 cases hB
 refine⟨⟨([],j2 [c8,c8,c8,c8,c8,_]),a8⟩,?_⟩
 refine A6.D3 hG (I7 _ _ _ (by first|assumption|exact y8 _) (by omega) (by omega)) .z5 (.cons (.t rfl) (.cons (.i rfl) .nil)) (by rintro _ _ ⟨_,_,_,_,_,_,rfl⟩;exact⟨_,rfl⟩) fun r50 B50 hr50 => ?_
 obtain⟨v50,d50,h050,h150,hd50,rfl,hB⟩:=hr50
 cases hB
 refine⟨⟨([],j2 [c8,c8,c8,c8,c8,_]),a8⟩,?_⟩
 refine A6.ofP (j6.neg (.t rfl) (by omega) ?_)
 refine⟨⟨([],j2 [c8,c8,c8,c8,c8,_]),a8⟩,?_⟩
 refine A6.ofP (j6.mul (.t rfl) (.i rfl) (by omega) (by omega) ?_)
 refine⟨⟨([],j2 [c8,c8,c8,c8,c8,_]),a8⟩,?_⟩
 refine A6.ofP (j6.mul (.t rfl) (.i rfl) (by omega) (by omega) ?_)
 refine⟨⟨([],j2 [c8,c8,c8,c8,c8,_]),a8⟩,?_⟩
 refine A6.ofP (j6.bS2 A0.l0 A0.l1 rfl a2D b6S (fun c0 c1=>(⟨c0,c1⟩:A0)) (fun _ _=>rfl) rfl rfl rfl (.s [97,110,110] (by decide) (by decide)) (.t rfl) ?_)
 refine⟨⟨([],j2 [c8,c8,c8,c8,c8,_]),a8⟩,?_⟩
 refine A6.ofP (j6.G7 (α:=A0) a2D Tryz.underlying39 (.cons (.t rfl) (.cons (.t rfl) .nil)) rfl (by decide) ?_)
 refine⟨⟨([],j2 [c8,c8,c8,c8,c8,_]),a8⟩,?_⟩
 refine A6.ofP (j6.bS3 u3.l0 u3.l1 u3.l2 rfl b5D c20 (fun c0 c1 c2=>(⟨c0,c1,c2⟩:u3)) (fun _ _ _=>rfl) rfl rfl rfl rfl (.t rfl) (.t rfl) (.c rfl) ?_)
 refine⟨⟨([],j2 [c8,c8,c8,c8,c8,_]),a8⟩,?_⟩
 show F8 _ _ _ _ _ _ ((58,_)::(57,_)::(56,_)::(55,_)::(54,_)::(53,_)::(52,_)::(51,_)::(50,_)::(49,_)::(48,_)::(47,_)::(46,_)::_) _
 refine .n (.U0 (fun y x => { x with C:=y }) b5D (.t a8) (.t a8) .z3 (fun _ _=>a8) (.nil (.sr a8 (.mv a8 (.h (.D3 hG (I7 _ _ _ (by first|assumption|exact y8 _) (by omega) (by omega)) .z5 (.cons (.t a8) (.cons (.i a8) .nil)) (by rintro _ _ ⟨_,_,_,_,_,_,rfl⟩;exact⟨_,rfl⟩) fun r60 B60 hr60 => ?_))))))
 obtain⟨v60,d60,h060,h160,hd60,rfl,hB⟩:=hr60
 cases hB
 refine .mv a8 (.h (.D3 hG (b0D _ _ _ _ (by first|assumption|exact y8 _) (by omega) (by omega) (by omega)) .z5 (.cons (.t a8) (.cons (.i a8) (.cons (.i a8) .nil))) (by rintro _ _ ⟨_,_,_,_,_,_,rfl⟩;exact⟨_,rfl⟩) fun r62 B62 hr62 => ?_))
 obtain⟨v62,d62,h062,h162,hd62,rfl,hB⟩:=hr62
 cases hB
 refine .p (.bS2 p7.l0 p7.l1 rfl a3V c1N (fun c0 c1=>(⟨c0,c1⟩:p7)) (fun _ _=>rfl) rfl rfl rfl (.t rfl) (.t rfl) (.p (.x4 j5.l5 b6M rfl (.t rfl) (.n (.U0 (fun y x => { x with Request:=y }) a3V (.t rfl) (.t rfl) .z3 (fun _ _=>rfl) (.nil (.seq (.a1o [[j1,j1,j1,j1,j1,j1],[j1,j1,j1,j1,j1,j0],[j1,j1,j1,j0,j1,j0],[j1,j1,j1,j0,j1,j0]] [[j1,j1,j1,j1,j1,j0],[j1,j1,j1,j1,j1,j0],[j1,j1,j1,j1,j1,j0],[j1,j1,j1,j1,j1,j0],[j1,j1,j1,j1,j1,j0],[j1,j1,j1,j1,j1,j0],[j1,j1,j1,j1,j1,j0],[j1,j1,j1,j1,j1,j1],[],[j1,j1,j1,j1,j1,j0],[j1,j1,j1,j1,j1,j0],[j1,j1,j1,j1,j1,j0],[j1,j1,j1,j0,j1,j0],[j1,j1,j1,j0,j1,j0],[j1,j1,j1,j1,j1,j0],[],[j1,j1,j1,j0,j1,j0],[]] [[],[9,10,11,12,13],[],[]] [] 3 (by kernel_rfl) 18 [[],[(66,0)],[],[(68,2)],[(69,3)],[(70,4)],[(71,5)],[],[(73,7)],[(67,1),(72,6),(74,8)],[(75,9)],[(65,10)],[(65,10)],[(65,10)],[],[(79,14),(76,11)],[],[(80,16),(77,12)]] [8,15,17] rfl (by kernel_rfl) rfl (by kernel_rfl) rfl (by decide) (by simp) (fun p hp=>by cases hp) (by kernel_rfl) rfl ?_))))))))
 refine⟨_,fun H=>j6.x4 j5.l0 O8 a8 (.t a8) a8,?_⟩
 refine⟨_,fun H=>j6.K0 (fun x=>x.A) u7 (.t a8) (y3.app .z3) (fun _=>a8) a8,?_⟩
 refine⟨_,fun H=>j6.x4 j5.l1 a6L a8 (.t a8) a8,?_⟩
 refine⟨_,fun H=>j6.b5y B3.l0 a5D a8 (.t a8) a8,?_⟩
 refine⟨_,fun H=>j6.K0 (fun x=>x.Ring.Live) b3d (.t a8) (y3.app .z3) (fun _=>a8) a8,?_⟩
 refine⟨_,fun H=>j6.idx a4z Tryz.underlying30 (.t a8) (.i a8) (by omega) (by simp) a8,?_⟩
 refine⟨_,fun H=>j6.x3 a4z (.t a8) a8,?_⟩
 refine⟨_,fun H=>j6.move (.t a8) a8,?_⟩
 refine .inl (.inl (.inl (.inl (.inl (.inl ?_)))))
 refine⟨_,fun H=>j6.x4 j5.l0 O8 a8 (.t a8) a8,?_⟩
 refine .inl ?_
 refine⟨_,fun H=>j6.x4 j5.l3 a3P a8 (.t a8) a8,?_⟩
 refine .inl ?_
 refine⟨a8,?_⟩
 refine⟨⟨j2 [c8,c8,c8,c8,c8,c8],a8⟩,fun Ys11 => ?_⟩
 refine A6.D3 hG (b0D _ _ _ _ (by first|assumption|exact y8 _) (by omega) (by omega) (by omega)) (y3.app (y3.app .z5)) (.cons (.t rfl) (.cons (.i rfl) (.cons (.i rfl) .nil))) (by rintro _ _ ⟨_,_,_,_,_,_,rfl⟩;exact⟨_,rfl⟩) fun r74 B74 hr74 => ?_
 obtain⟨v74,d74,h074,h174,hd74,rfl,hB⟩:=hr74
 cases hB
 have hst:=a0i.start (decide (v15=0)) k18 (root:=⟨2,kt2⟩) ⟨(by decide:(1:Int)≤2),(by decide:(2:Int)≤2)⟩ ks2.ok (by rw [ks2.Z5,ks.Z5]) (by rw [ks2.boxes,ks.boxes]) (n:=v74) (by omega) (by omega)
 obtain⟨mB,mP,mT,me,hS,hH,hF0,hser⟩:=hst
 refine⟨[],_,a8,?_⟩
 refine⟨_,fun H=>j6.m9 hG (as3 (b7U _ _ _) me) (.cons (.t a8) (.cons (.t a8) (.cons (.t a8) .nil))) a8,?_⟩
 refine⟨_,fun H=>j6.move (.t a8) a8,?_⟩
 refine⟨_,fun H=>j6.K1 (.t a8) a8,?_⟩
 refine⟨_,fun H=>j6.K2 (.t a8) a8,?_⟩
 refine⟨_,fun H=>j6.K3 (.t a8) a8,?_⟩
 refine⟨⟨j2 [c8,c8,c8,c8,c8,_],a8⟩,fun Ys11 => ?_⟩
 refine A6.U0 (fun y x => { x with A:=y }) u7 (.t rfl) (.t rfl) (y3.app (y3.app .z3)) (fun _ _=>rfl) ?_
 refine⟨[],_,a8,?_⟩
 refine⟨⟨j2 [c8,c8,c8,_,c8,_],a8⟩,fun Ys11 => ?_⟩
 refine A6.U0 (fun y x => { x with Pass:=y }) P6 (.t rfl) (.t rfl) (y3.app (y3.app .z3)) (fun _ _=>rfl) ?_
 refine⟨[],_,a8,?_⟩
 refine⟨⟨j2 [c8,c8,c8,_,c8,_],a8⟩,fun ws11 => ?_⟩
 refine⟨⟨j2 [c8,c8,c8,_,c8,_],a8⟩,fun _ => ?_⟩
 show F8 _ _ _ _ _ _ ((80,_)::(79,_)::(78,_)::(77,_)::(76,_)::(65,_)::(75,_)::(74,_)::(73,_)::(72,_)::(71,_)::(70,_)::(69,_)::(68,_)::(67,_)::(66,_)::_) _
 have hrq:S9 (⟨v60,v62⟩:Rq)=true:=(by unfold S9;simp;omega)
 refine .nil (.seq (.sr a8 (.mv a8 (.h (.D3 hG (I7 _ _ _ (by first|assumption|exact y8 _) (by omega) (by omega)) .z5 (.cons (.t a8) (.cons (.i a8) .nil)) (by rintro _ _ ⟨_,_,_,_,_,_,rfl⟩;exact⟨_,rfl⟩) fun r82 B82 hr82 => ?_)))))
 obtain⟨v82,d82,h082,h182,hd82,rfl,hB⟩:=hr82
 cases hB
 refine .ag a8 (.nil (.block (.F4 (α:=Nat×Scn×Value×o5) [(0,_),(1,_),(4,_),(5,_)] (fun x R=>(8,.v (x.1:Int))::R) (fun x => [(true,.ob (ptr b7 0) kt2),(true,.ob (ptr b6 0) kt),(true,.own 139 x.2.2.1 x.2.1.M7),(true,.ob (ptr b5 0) (b8z x.2.1 x.2.2.1)),(true,.ob (ptr b4 0) (default:Scn)),(false,.ob w x.2.2.2)]) (fun x=>x.1≤5∧L5 x.2.2.2∧a7F x.2.1.A ⟨2,kt2⟩ x.2.1.Pass x.2.1.M7 (5 - x.1)∧x.2.1.Ring=W7 ⟨2,kt2⟩ 3∧x.2.1.C=⟨v47,kt,[⟨b4e,-v50*365*1440⟩,⟨⟨[98,111,98]⟩,0⟩]⟩∧x.2.1.Request=⟨v60,v62⟩∧x.2.1.Q6=b4e∧x.2.1.Minute=v44) (fun x=>x.1) ((v82.toNat,⟨mB,⟨[⟨2,kt2⟩],3⟩,⟨v47,kt,[⟨b4e,-v50*365*1440⟩,⟨⟨[98,111,98]⟩,0⟩]⟩,mP,[],⟨v60,v62⟩,b4e,v44⟩,.slice none 0 0,d82)) (.c2 a8 a8 (.c2 a8 a8 (.nil _))) ?_ (.cons (congrArg (fun q=>some (AV.v q)) (by dsimp only;omega)) (.c2 a8 a8 (.c2 a8 a8 (.nil _)))) (a8) fun x hF => ?_)))
 ·exact⟨by dsimp only;omega,by assumption,⟨⟨mT,4,hS.wide (Nat.le_refl _) (Nat.zero_le _),by omega⟩,hH⟩,rfl,rfl,rfl,rfl,rfl⟩
 obtain⟨i,s,gu,e⟩:=x
 obtain⟨f1,f2,f3,f4,f5,f6,f7,f8⟩:=hF
 dsimp only at f1 f2 f3 f4 f5 f6 f7 f8 ⊢
 refine .seq (.seq ?_)
 have hcv:s.Pass.l9.length≤5:=(by obtain⟨T,n,hs,hn⟩:=f3.ex;have:=hs.a4M;omega)
 refine .region a8 (.mv a8 (.p (.gtr (.t a8) (.i a8) (.nil (.o8 (.t a8) (fun hc84 => ?_) (fun hc84 => ?_))))))
 ·refine .skip (.seq (.block (.seq (.sr a8 (.mv a8 (.h (.D3 hG (I7 _ _ _ (by first|assumption|exact y8 _) (by omega) (by omega)) .z5 (.cons (.t a8) (.cons (.i a8) .nil)) (by rintro _ _ ⟨_,_,_,_,_,_,rfl⟩;exact⟨_,rfl⟩) fun r88 B88 hr88 => ?_)))))))
  obtain⟨v88,d88,h088,h188,hd88,rfl,hB⟩:=hr88
  cases hB
  refine .p (.gtr (.t a8) (.i a8) (.nil (.o8 (.t a8) (fun hc89 => ?_) (fun hc89 => ?_))))
  ·refine .sr a8 (.mv a8 (.h (.D3 hG (a0h _ _ _ (by assumption)) .z5 (.cons (.t a8) (.cons .b .nil)) (by rintro _ _ ⟨_,_,_,_,_,_,rfl⟩;exact⟨_,rfl⟩) fun r91 B91 hr91 => ?_)))
   obtain⟨p91,hp91,hk91,d91,hd91,rfl,hB⟩:=hr91
   cases hB
   refine .h (.buildSlice (α:=j3) A7 Tryz.underlying83 (.cons (.t a8) .nil) a8 (by decide) fun b92 => .ag a8 (.nil (.seq (.sr a8 (.mv a8 (.nil (.cond (.t a8) (fun hc93 => ?_) (fun hc93 => ?_))))))))
   ·refine .region a8 (.mv a8 (.p (.x4 j5.l6 b2Q a8 (.t a8) (.p (.K0 (fun x=>x.Q6) ty9 (.t a8) .z4 (fun _=>a8) (.h (.D3 hG (b2x _ _ _ s.Q6 (by assumption) (by decide) (by decide) (by rw [f7];decide)) .z6 (.cons (.t a8) (.cons (.i a8) (.cons (.t a8) .nil))) (by rintro _ _ ⟨_,_,_,_,_,_,rfl⟩;exact⟨_,rfl⟩) fun r97 B97 hr97 => ?_)))))))
    obtain⟨l97,hl97,hp97,d97,hd97,rfl,hB⟩:=hr97
    cases hB
    refine .ag a8 (.nil (.seq (.drop ?_)))
    have hna:=a9V f3 (by omega) (l:=l97) (by omega) hp97
    obtain⟨nB,nQ,ne,nS⟩:=hna
    refine .region a8 (.p (.x4 j5.l0 O8 a8 (.t a8) (.p (.K0 (fun x=>x.A) u7 (.t a8) .z3 (fun _=>a8) (.p (.x4 j5.l3 a3P a8 (.t a8) (.p (.K0 (fun x=>x.Pass) P6 (.t a8) .z3 (fun _=>a8) (.mv a8 (.p (.m9 hG (as3 (b2g _ _ _ (by(try simp);omega)) ne) (.cons (.t a8) (.cons (.t a8) (.cons (.t a8) .nil))) (.mv a8 (.p (.K1 (.t a8) (.p (.K2 (.t a8) (.p (.K3 (.t a8) (.p (.x4 j5.l0 O8 a8 (.t a8) (.n (.U0 (fun y x => { x with A:=y }) u7 (.t a8) (.t a8) .z3 (fun _ _=>a8) (.p (.x4 j5.l3 a3P a8 (.t a8) (.n (.U0 (fun y x => { x with Pass:=y }) P6 (.t a8) (.t a8) .z3 (fun _ _=>a8) ?_))))))))))))))))))))))))))
    have hsc:a7F nB ⟨2,kt2⟩ nQ s.M7 (5 - (i - 1)):=(by rw [show 5 - (i - 1)=5 - i+1 by omega];exact nS)
    refine .nil (.exit (.region a8 (.mv a8 (.p (.sub (.t a8) (.i a8) (by omega) (by omega) (.ag a8 (.nil ?_)))))))
    refine⟨(i - 1,⟨nB,s.Ring,s.C,nQ,s.M7,s.Request,s.Q6,s.Minute⟩,gu,_),.cons (congrArg (fun q=>some (AV.v q)) (by dsimp only;omega)) (.c2 rfl rfl (.c2 rfl rfl (.nil _))),rfl,?_,by dsimp only;omega⟩
    exact⟨by dsimp only;omega,by assumption,hsc,f4,f5,f6,f7,f8⟩
   ·refine .skip (.seq (.y0 hC .z (.as 9 a8 .z (.drop ?_))))
    have hna:=a9V f3 (by omega) (l := [p91]) (Nat.le_refl 1) (by simpa using hp91)
    obtain⟨nB,nQ,ne,nS⟩:=hna
    refine .region a8 (.p (.x4 j5.l0 O8 a8 (.t a8) (.p (.K0 (fun x=>x.A) u7 (.t a8) .z3 (fun _=>a8) (.p (.x4 j5.l3 a3P a8 (.t a8) (.p (.K0 (fun x=>x.Pass) P6 (.t a8) .z3 (fun _=>a8) (.mv a8 (.p (.m9 hG (as3 (b2g _ _ _ (by(try simp);omega)) ne) (.cons (.t a8) (.cons (.t a8) (.cons (.t a8) .nil))) (.mv a8 (.p (.K1 (.t a8) (.p (.K2 (.t a8) (.p (.K3 (.t a8) (.p (.x4 j5.l0 O8 a8 (.t a8) (.n (.U0 (fun y x => { x with A:=y }) u7 (.t a8) (.t a8) .z3 (fun _ _=>a8) (.p (.x4 j5.l3 a3P a8 (.t a8) (.n (.U0 (fun y x => { x with Pass:=y }) P6 (.t a8) (.t a8) .z3 (fun _ _=>a8) ?_))))))))))))))))))))))))))
    have hsc:a7F nB ⟨2,kt2⟩ nQ s.M7 (5 - (i - 1)):=(by rw [show 5 - (i - 1)=5 - i+1 by omega];exact nS)
    refine .nil (.exit (.region a8 (.mv a8 (.p (.sub (.t a8) (.i a8) (by omega) (by omega) (.ag a8 (.nil ?_)))))))
    refine⟨(i - 1,⟨nB,s.Ring,s.C,nQ,s.M7,s.Request,s.Q6,s.Minute⟩,gu,_),.cons (congrArg (fun q=>some (AV.v q)) (by dsimp only;omega)) (.c2 rfl rfl (.c2 rfl rfl (.nil _))),rfl,?_,by dsimp only;omega⟩
    exact⟨by dsimp only;omega,by assumption,hsc,f4,f5,f6,f7,f8⟩
  ·refine .skip (.seq ?_)
   obtain⟨T,n,hs,hn⟩:=f3.ex
   have hco:=hs.c3q (by omega) (by omega) f3.b5f (c:=s.C) (by rw [f5];exact h047) (by rw [f5];show v47≤7;omega) s.Q6 (by rw [f7];decide)
   obtain⟨A1,bl,e1,ok1,A2,P2,e2,ho,ok2,hbt,A3,g,U,e3,hs3,hh3,hfr3,hgc⟩:=hco
   refine .region a8 (.h (.alloc a2b fun b10=>(.nil (.sr a8 (.p (.x4 j5.l0 O8 a8 (.t a8) (.p (.K0 (fun x=>x.A) u7 (.t a8) .z4 (fun _=>a8) (.p (.x4 j5.l2 b2O a8 (.t a8) (.p (.K0 (fun x=>x.C) b5D (.t a8) .z4 (fun _=>a8) (.p (.bS1 y9.l1 a8 a5r c1R (fun c1=>(⟨0,c1⟩:y9)) (fun _=>a8) a8 a8 (.i a8) (.p (.m9 hG (as3 (c0a _ _ _ hs.ok.a5N hs.ok.c0z) e1) (.cons (.t a8) (.cons (.t a8) (.cons (.t a8) .nil))) (.mv a8 (.p (.K1 (.t a8) (.p (.K2 (.t a8) (.p (.K3 (.t a8) (.p (.x4 j5.l0 O8 a8 (.t a8) (.n (.U0 (fun y x => { x with A:=y }) u7 (.t a8) (.t a8) .z4 (fun _ _=>a8) (.n (.C8 a2b (.t a8) (.t a8) .z (.nil (.sr a8 (.p (.x4 j5.l0 O8 a8 (.t a8) (.p (.K0 (fun x=>x.A) u7 (.t a8) .z4 (fun _=>a8) (.p (.x4 j5.l3 a3P a8 (.t a8) (.p (.K0 (fun x=>x.Pass) P6 (.t a8) .z4 (fun _=>a8) (.p (.I4 a2b (.t a8) .z (.p (.m9 hG (as3 (c2B _ _ _ (by(try dsimp only);omega) ok1.c0z (by omega)) e2) (.cons (.t a8) (.cons (.t a8) (.cons (.t a8) .nil))) (.mv a8 (.p (.K1 (.t a8) (.p (.K2 (.t a8) (.p (.K3 (.t a8) (.p (.x4 j5.l0 O8 a8 (.t a8) (.n (.U0 (fun y x => { x with A:=y }) u7 (.t a8) (.t a8) .z4 (fun _ _=>a8) (.p (.x4 j5.l3 a3P a8 (.t a8) (.n (.U0 (fun y x => { x with Pass:=y }) P6 (.t a8) (.t a8) .z4 (fun _ _=>a8) (.nil ?_)))))))))))))))))))))))))))))))))))))))))))))))))))))))))))
   refine .sr a8 (.h (.alloc P3 fun b11=>(.nil (.sr a8 (.p (.x4 j5.l0 O8 a8 (.t a8) (.p (.K0 (fun x=>x.A) u7 (.t a8) .z5 (fun _=>a8) (.p (.x4 j5.l2 b2O a8 (.t a8) (.p (.K0 (fun x=>x.C) b5D (.t a8) .z5 (fun _=>a8) (.p (.x4 C0.l2 a98 a8 (.t a8) (.p (.K0 (fun x=>x.j8) P1 (.t a8) .z1 (fun _=>a8) (.p (.x4 j5.l6 b2Q a8 (.t a8) (.p (.K0 (fun x=>x.Q6) ty9 (.t a8) .z5 (fun _=>a8) (.p (.x4 j5.l7 b6N a8 (.t a8) (.p (.K0 (fun x=>x.Minute) D0 (.t a8) .z5 (fun _=>a8) (.p (.m9 hG (as3 (b9Z _ _ _ s.Q6 s.Minute bl.Key ok2.b0K ho (by rw [f7];decide) (by rw [f8];omega) (by rw [f8];omega) (by rw [f5,f7];rfl) (by omega)) e3) (.cons (.t a8) (.cons (.t a8) (.cons (.t a8) (.cons (.t a8) (.cons (.t a8) .nil))))) (.mv a8 (.p (.K1 (.t a8) (.p (.K2 (.t a8) (.p (.K3 (.t a8) (.p (.x4 j5.l0 O8 a8 (.t a8) (.n (.U0 (fun y x => { x with A:=y }) u7 (.t a8) (.t a8) .z5 (fun _ _=>a8) (.n (.C8 P3 (.t a8) (.t a8) .z (.nil (.seq (.sr a8 (.mv a8 (.h (.D3 hG (I7 _ _ _ (by first|assumption|exact y8 _) (by omega) (by omega)) .z7 (.cons (.t a8) (.cons (.i a8) .nil)) (by rintro _ _ ⟨_,_,_,_,_,_,rfl⟩;exact⟨_,rfl⟩) fun r150 B150 hr150 => ?_)))))))))))))))))))))))))))))))))))))))))))))
   obtain⟨v150,d150,h0150,h1150,hd150,rfl,hB⟩:=hr150
   cases hB
   refine .ag a8 (.nil (.block (.F4 (α:=Nat×C7×Dis×o5) [(0,_),(1,_),(4,_),(5,_),(8,_),(11,_)] (fun y R=>(12,.v (y.1:Int))::R) (fun y => [(true,.ob (ptr b11 0) y.2.2.1),(true,.ob (ptr b10 0) bl),(true,.ob (ptr b7 0) kt2),(true,.ob (ptr b6 0) kt),(true,.own 139 gu s.M7),(true,.ob (ptr b5 0) (b8z ⟨y.2.1,s.Ring,s.C,P2,s.M7,s.Request,s.Q6,s.Minute⟩ gu)),(true,.ob (ptr b4 0) (default:Scn)),(false,.ob w y.2.2.2)]) (fun y=>y.1≤2∧L5 y.2.2.2∧(∃ T n,a0i y.2.1 ⟨2,kt2⟩ P2 (s.M7 ++ [y.2.2.1]) T n (5 - i+1)∧n+y.1≤4+10*(5 - i+1))∧a3G y.2.1∧y.2.2.1.l8.length+y.1≤3) (fun y=>y.1) ((v150.toNat,A3,g,d150)) (.c2 a8 a8 (.c2 a8 a8 (.c2 a8 a8 (.nil _)))) ?_ (.cons (congrArg (fun q=>some (AV.v q)) (by dsimp only;omega)) (.c2 a8 a8 (.c2 a8 a8 (.c2 a8 a8 (.nil _))))) (a8) fun y hF => ?_)))
   ·exact⟨by dsimp only;omega,by assumption,⟨U,n+8,hs3,by dsimp only;omega⟩,hh3,by dsimp only;omega⟩
   obtain⟨j,A4,g4,e4⟩:=y
   obtain⟨q1,q2,q3,q4,q5⟩:=hF
   dsimp only at q1 q2 q3 q4 q5 ⊢
   refine .seq (.sr a8 (.mv a8 (.p (.gtr (.t a8) (.i a8) (.nil (.o8 (.t a8) (fun hc152 => ?_) (fun hc152 => ?_)))))))
   ·refine .skip (.seq (.block (.sr a8 (.mv a8 (.h (.D3 hG (a0h _ _ _ (by assumption)) .z7 (.cons (.t a8) (.cons .b .nil)) (by rintro _ _ ⟨_,_,_,_,_,_,rfl⟩;exact⟨_,rfl⟩) fun r156 B156 hr156 => ?_))))))
    obtain⟨p156,hp156,hk156,d156,hd156,rfl,hB⟩:=hr156
    cases hB
    refine .h (.alloc A7 fun b13 => .n (.C8 A7 (.t a8) (.t a8) .z (.nil (.seq (.sr a8 (.mv a8 (.nil (.cond (.t a8) (fun hc157 => ?_) (fun hc157 => ?_)))))))))
    ·refine .region a8 (.p (.bS3 j3.l0 j3.l2 j3.l3 a8 A7 a7K (fun c0 c2 c3=>(⟨c0,0,c2,c3,⟨[]⟩,0⟩:j3)) (fun _ _ _=>a8) a8 a8 a8 a8 (.i a8) (.i a8) (.i a8) (.n (.C8 A7 (.t a8) (.t a8) .z (.nil ?_)))))
     obtain⟨T4,n4,hs4,hn4⟩:=q3
     have hre:=hs4.restrict (by omega) q4 (p:=⟨4,0,0,3000,⟨[]⟩,0⟩) (by decide) (by decide) (by omega)
     obtain⟨rB,rd,re,rs,rh,rf,rc⟩:=hre
     refine .region a8 (.p (.x4 j5.l0 O8 a8 (.t a8) (.p (.K0 (fun x=>x.A) u7 (.t a8) .z6 (fun _=>a8) (.p (.I4 P3 (.t a8) .z1 (.p (.I4 A7 (.t a8) .z (.p (.m9 hG (as3 (a5W _ _ _ (by omega)) re) (.cons (.t a8) (.cons (.t a8) (.cons (.t a8) .nil))) (.mv a8 (.p (.K1 (.t a8) (.p (.K2 (.t a8) (.p (.K3 (.t a8) (.p (.x4 j5.l0 O8 a8 (.t a8) (.n (.U0 (fun y x => { x with A:=y }) u7 (.t a8) (.t a8) .z6 (fun _ _=>a8) (.n (.C8 P3 (.t a8) (.t a8) .z1 (.drop (.nil (.region a8 (.mv a8 (.p (.sub (.t a8) (.i a8) (by omega) (by omega) (.ag a8 (.nil ?_)))))))))))))))))))))))))))))))
     refine⟨(j - 1,rB,rd,_),.cons (congrArg (fun q=>some (AV.v q)) (by dsimp only;omega)) (.c2 rfl rfl (.c2 rfl rfl (.c2 rfl rfl (.nil _)))),rfl,?_,by dsimp only;omega⟩
     exact⟨by dsimp only;omega,by assumption,⟨T4,n4+1,rs,by dsimp only;omega⟩,rh,by dsimp only;omega⟩
    ·refine .skip ?_
     obtain⟨T4,n4,hs4,hn4⟩:=q3
     have hre:=hs4.restrict (by omega) q4 (p:=p156) hp156 (hk156 rfl) (by omega)
     obtain⟨rB,rd,re,rs,rh,rf,rc⟩:=hre
     refine .region a8 (.p (.x4 j5.l0 O8 a8 (.t a8) (.p (.K0 (fun x=>x.A) u7 (.t a8) .z6 (fun _=>a8) (.p (.I4 P3 (.t a8) .z1 (.p (.I4 A7 (.t a8) .z (.p (.m9 hG (as3 (a5W _ _ _ (by omega)) re) (.cons (.t a8) (.cons (.t a8) (.cons (.t a8) .nil))) (.mv a8 (.p (.K1 (.t a8) (.p (.K2 (.t a8) (.p (.K3 (.t a8) (.p (.x4 j5.l0 O8 a8 (.t a8) (.n (.U0 (fun y x => { x with A:=y }) u7 (.t a8) (.t a8) .z6 (fun _ _=>a8) (.n (.C8 P3 (.t a8) (.t a8) .z1 (.drop (.nil (.region a8 (.mv a8 (.p (.sub (.t a8) (.i a8) (by omega) (by omega) (.ag a8 (.nil ?_)))))))))))))))))))))))))))))))
     refine⟨(j - 1,rB,rd,_),.cons (congrArg (fun q=>some (AV.v q)) (by dsimp only;omega)) (.c2 rfl rfl (.c2 rfl rfl (.c2 rfl rfl (.nil _)))),rfl,?_,by dsimp only;omega⟩
     exact⟨by dsimp only;omega,by assumption,⟨T4,n4+1,rs,by dsimp only;omega⟩,rh,by dsimp only;omega⟩
   ·refine .exit ?_
    obtain⟨T4,n4,hs4,hn4⟩:=q3
    have hgl:s.M7.length≤6:=(by have:=hs4.ngr;rw [List.length_append] at this;omega)
    have hsc:a7F A4 ⟨2,kt2⟩ P2 (s.M7 ++ [g4]) (5 - (i - 1)):=(by rw [show 5 - (i - 1)=5 - i+1 by omega];exact⟨⟨T4,n4,hs4,by omega⟩,q4⟩)
    refine .region a8 (.p (.x4 j5.l4 b2P a8 (.t a8) (.p (.ldR (fun x=>x.M7) c0L (.t a8) .z5 (fun _=>a8) (.p (.I4 P3 (.t a8) .z (.h (.buildSlice (α:=p8) P3 Tryz.underlying44 (.cons (.t a8) .nil) a8 (by decide) fun b172 => .h (.append c3d (.inl ⟨_,Tryz.underlying44⟩) a8 .z5 (.own a8 .z) (by simp;omega) (by simp;omega) (fun w173 => .p (.x4 j5.l4 b2P a8 (.t a8) (.n (.U0 (fun y x => { x with M7:=y }) c0L (.t a8) (.c1i a8 .z5) .z6 (fun _ _=>a8) ?_)))) a8)))))))))
    refine .drop (.drop (.drop (.nil (.region a8 (.mv a8 (.p (.sub (.t a8) (.i a8) (by omega) (by omega) (.ag a8 (.nil ?_)))))))))
    refine⟨(i - 1,⟨A4,s.Ring,s.C,P2,s.M7 ++ [g4],s.Request,s.Q6,s.Minute⟩,w173,_),.cons (congrArg (fun q=>some (AV.v q)) (by dsimp only;omega)) (.c2 rfl rfl (.c2 rfl rfl (.nil _))),rfl,?_,by dsimp only;omega⟩
    exact⟨by dsimp only;omega,by assumption,hsc,f4,f5,f6,f7,f8⟩
 ·refine .exit (.seq (.y0 hC .z2 (.c0c .z3 (fun n0 I L hr cs hc=>b6p hc (y3.fz .z2 hr)) (.conv 5 (.ln (ptr b5 0) (m5.id (α:=Scn))) a8 (fun _ _ _ _ _ h=>h) (.region a8 (.p (.I4 a6h (.t a8) .z3 (.n (.C8 a6h (.t a8) (.t a8) .z4 (.nil (.ret ?_)))))))))))
  refine⟨_,.r1 a8 (.cell a6h a8 .z4),?_⟩
  exact⟨5,s,⟨2,kt2⟩,5 - i,⟨f3,by omega,rfl,f4,by rw [f6];exact hrq,f7⟩,_,f2,rfl,rfl⟩
structure x9 where
 Request:p7
 C9:Int
 y7:Int
 l9:V8
 Proof:(J7 32 UInt8)
 j4:V8
def x9.f (x:x9):p7×Int×Int×V8×(J7 32 UInt8)×V8×Unit:=(x.Request,x.C9,x.y7,x.l9,x.Proof,x.j4,())
instance:Inhabited x9:=⟨⟨default,default,default,default,default,default⟩⟩
instance:p9 x9:=p9.via x9.f
instance:J6 x9:=J6.via x9.f rfl
def x9.l0:m5 x9 p7:=m5.via x9.f m5.fst (fun x=>x.Request) (fun y x => { x with Request:=y }) (fun _=>rfl) (fun _ _=>rfl)
def x9.l1:m5 x9 Int:=m5.via x9.f (m5.snd.comp m5.fst) (fun x=>x.C9) (fun y x => { x with C9:=y }) (fun _=>rfl) (fun _ _=>rfl)
def x9.l2:m5 x9 Int:=m5.via x9.f (m5.snd.comp (m5.snd.comp m5.fst)) (fun x=>x.y7) (fun y x => { x with y7:=y }) (fun _=>rfl) (fun _ _=>rfl)
def x9.l3:m5 x9 V8:=m5.via x9.f (m5.snd.comp (m5.snd.comp (m5.snd.comp m5.fst))) (fun x=>x.l9) (fun y x => { x with l9:=y }) (fun _=>rfl) (fun _ _=>rfl)
def x9.l4:m5 x9 (J7 32 UInt8):=m5.via x9.f (m5.snd.comp (m5.snd.comp (m5.snd.comp (m5.snd.comp m5.fst)))) (fun x=>x.Proof) (fun y x => { x with Proof:=y }) (fun _=>rfl) (fun _ _=>rfl)
def x9.l5:m5 x9 V8:=m5.via x9.f (m5.snd.comp (m5.snd.comp (m5.snd.comp (m5.snd.comp (m5.snd.comp m5.fst))))) (fun x=>x.j4) (fun y x => { x with j4:=y }) (fun _=>rfl) (fun _ _=>rfl)
theorem b8B:H9 Tryz.prog 27 V8 := .of (by kernel_rfl) (by kernel_rfl) (by kernel_rfl) (by decide)
theorem b5g:H9 Tryz.prog 29 x9 := .of (by kernel_rfl) (by kernel_rfl) (by kernel_rfl) (by decide)
def b5h (b:Y0) (uc ud:Value):x9:=⟨b.Request,b.C9,b.y7,⟨uc⟩,b.Proof,⟨ud⟩⟩
theorem a9W {b:Y0} {uc ud:Value} {I:Im} {cs:List Value} (h:p9.rep I (b5h b uc ud) cs) (hc:H4 I (.v b.l9) uc) (hd:H4 I (.v b.j4) ud):p9.rep I b cs:=by
 obtain⟨c1,r1,rfl,h1,c2,r2,rfl,h2,c3,r3,rfl,h3,c4,r4,rfl,⟨rfl,_⟩,c5,r5,rfl,h5,c6,r6,rfl,⟨rfl,_⟩,h6⟩:=h
 obtain⟨_,⟨v,rfl,h7⟩,rfl⟩:=hc
 obtain⟨_,⟨v',rfl,h8⟩,rfl⟩:=hd
 exact⟨c1,_,a8,h1,c2,_,a8,h2,c3,_,a8,h3,_,_,a8,⟨_,a8,h7⟩,c5,_,a8,h5,_,_,a8,⟨_,a8,h8⟩,h6⟩
theorem c0d {b:Y0} {uc ud:Value} {I:Im} {u:Value} (h:H4 I (.v (b5h b uc ud)) u) (hc:H4 I (.v b.l9) uc) (hd:H4 I (.v b.j4) ud):H4 I (.v b) u:=by
 obtain⟨cs,h1,h2⟩:=h
 exact⟨cs,a9W h1 hc hd,h2⟩
theorem a4b {α β γ:Type} [Inhabited β] [Inhabited γ] (r:C7×α×Int) (f:C7→α→C7×β×Int) (g:C7→β→C7×γ×Int):a0S (a0S r f) g=a0S r fun b x=>a0S (f b x) g:=by
 by_cases h:r.2.2=0
 ·rw [F7 h,F7 h]
 ·rw [Q4 h,Q4 h,Q4 (r:=(default,default,r.2.2)) h]
theorem a8T (leaf:Tag) (r:Rq) (d:Dis):∀ (l:List Dis) (a:C7),a2L leaf r a (l ++ [d])=a0S (a2L leaf r a l) fun b y=>a0S (a2K b d leaf r) fun c x=>(c,y ++ [x],0)
 | [],a=>by
  rw [show a2L leaf r a []=(a,[],0) from rfl,F7 (r:=(a,([]:List Bnd),(0:Int))) rfl];rfl
 | e::l,a=>by
  show a0S (a2K a e leaf r) (fun b x=>a0S (a2L leaf r b (l ++ [d])) fun c y=>(c,x::y,0))=a0S (a0S (a2K a e leaf r) fun b x=>a0S (a2L leaf r b l) fun c y=>(c,x::y,0)) _
  rw [a4b]
  refine congrArg _ (funext fun b=>funext fun x => ?_)
  rw [a8T leaf r d l,a4b,a4b]
  refine congrArg _ (funext fun c=>funext fun y => ?_)
  rw [F7 (r:=(c,x::y,(0:Int))) rfl,a4b];rfl
structure a6x (leaf:Tag) (r:Rq) (a:C7) (l:List Dis):Prop where
 ok:∀ i,i≤l.length→(a2L leaf r a (l.take i)).2.2=0
def bA (leaf:Tag) (r:Rq) (a:C7) (l:List Dis) (i:Nat):C7:=(a2L leaf r a (l.take i)).1
def bY (leaf:Tag) (r:Rq) (a:C7) (l:List Dis) (i:Nat):List Bnd:=(a2L leaf r a (l.take i)).2.1
theorem a6x.step {leaf:Tag} {r:Rq} {a:C7} {l:List Dis} (h:a6x leaf r a l) {i:Nat} (hi:i < l.length):∃ y,a2K (bA leaf r a l i) l[i] leaf r=(bA leaf r a l (i+1),y,0)∧bY leaf r a l (i+1)=bY leaf r a l i ++ [y]:=by
 have h1:=h.ok i (by omega)
 have h2:=h.ok (i+1) hi
 unfold bA bY
 rw [List.take_succ_eq_append_getElem hi,a8T,F7 h1] at h2 ⊢
 by_cases h3:(a2K (a2L leaf r a (l.take i)).1 l[i] leaf r).2.2=0
 ·rw [F7 h3]
  exact⟨_,Prod.ext a8 (Prod.ext a8 h3),a8⟩
 ·rw [Q4 h3] at h2;exact absurd h2 h3
theorem b8C {leaf:Tag} {r:Rq} {a:C7} {l:List Dis} (h:a6x leaf r a l):∀ i,i≤l.length→(bY leaf r a l i).length=i
 | 0,_=>rfl
 | i+1,hi=>by
  obtain⟨y,_,e⟩:=h.step (show i < l.length by omega)
  rw [e,List.length_append,b8C h i (by omega)];rfl
abbrev bd0 (d:Dis):Bnd:=⟨d.j8,d.l8,default⟩
theorem c0e {α β:Type} (f:α→β) (l:List α) (k:Nat) (h:k < l.length):(l.take k).map f ++ [f l[k]]=(l.take (k+1)).map f:=by
 rw [List.take_succ_eq_append_getElem h,List.map_append];rfl
theorem b8D {Y:List Bnd} {l:List Dis} {i:Nat} (y:Bnd) (hY:Y.length=i) (h:i < l.length):(Y++(l.drop i).map bd0).set i y=(Y ++ [y])++(l.drop (i+1)).map bd0:=by
 rw [List.drop_eq_getElem_cons h,List.map_cons,List.set_append_right _ _ (by omega),show i - Y.length=0 by omega,List.set_cons_zero,List.append_assoc];rfl
theorem b6r (a : C7) (p : Pass) (l : List Dis) (r : Rq) (hl : p.l9.length ≤ 1000000) (hl2 : l.length ≤ 1000000) {b : C7} {t : Tag} (h0 : M8 (b7O p l r) = 0) (h1 : H5 a p.Tag (a2J r) = (b, t, 0)) (h2 : a6x p.Tag r b l) (hr : S9 r = true) :
    u1 gl Tryz.prog 29 [.v a,.v p,.v l,.v r] (fun x=>x = .t3 (.v (bA p.Tag r b l l.length)) (.v (⟨r,p.C9,p.y7,p.l9,t,bY p.Tag r b l l.length⟩:Y0)) (.v (0:Int))):=by
  refine u1.intro Tryz.func29 rfl (by kernel_rfl) 101 rfl rfl _ rfl fun C hC hG=>(.sr rfl (.h (.box (.t rfl) fun b4 => .h (.box (.t rfl) fun b5 => .h (.box (.t rfl) fun b7 => .h (.alloc u7 fun b8 => .h (.alloc a0d fun b9 => .p (.assign (.i rfl) (.nil (.sr rfl (.p (.I4 a3V (.t rfl) .z2 (.p (.x4 x6.l0 c0T rfl (.t rfl) (.p (.K0 (fun x=>x.C9) D0 (.t rfl) .z3 (fun _=>rfl) (.p (.x4 x6.l1 c0U rfl (.t rfl) (.p (.K0 (fun x=>x.y7) D0 (.t rfl) .z3 (fun _=>rfl) (.p (.x4 x6.l2 a8i rfl (.t rfl) (.p (.K0 (fun x=>x.l9) a3f (.t rfl) .z3 (fun _=>rfl) (.name 23 rfl fun w23=>(.p (.bS4 x9.l0 x9.l1 x9.l2 x9.l3 rfl b5g c2Z (fun c0 c1 c2 c3=>(⟨c0,c1,c2,c3,default,default⟩:x9)) (fun _ _ _ _=>rfl) rfl rfl rfl rfl rfl (.t rfl) (.t rfl) (.t rfl) (.vR rfl .z) (.h (.alloc b5g fun b11 => .n (.C8 b5g (.t rfl) (.t rfl) .z (.a19 88 Bnd (.nil (.seq (.seq ?_))))))))))))))))))))))))))))))))))
  refine .Y4 2 a8 fun hl2'=>(.region a8 (.p (.assign (.i a8) (.nil (.block (.F4 (α:=Nat×Value) [(2,_),(4,_),(5,_),(7,_),(8,_),(9,_),(11,_)] (fun x R=>(12,.v (x.1:Int))::R) (fun x => [(true,.own 88 x.2 ((l.take x.1).map bd0)),(true,.ob (ptr b11 0) (b5h ⟨r,p.C9,p.y7,p.l9,default,[]⟩ w23 x.2)),(true,.fz w23 (.v p.l9)),(true,.ob (ptr b9 0) (default:Y0)),(true,.ob (ptr b8 0) (default:C7)),(true,.ob (ptr b7 0) r),(true,.ob (ptr b5 0) p),(true,.ob (ptr b4 0) a)]) (fun x=>x.1≤l.length) (fun x=>l.length - x.1) ((0,.slice none 0 0)) (.c2 a8 a8 (.c2 a8 a8 (.c2 a8 a8 (.cons a8 (.nil _))))) ?_ (.c2 a8 a8 (.c2 a8 a8 (.c2 a8 a8 (.c2 a8 a8 (.nil _))))) (a8) fun x hF => ?_))))))
  · simp
  obtain⟨i,gu⟩:=x
  dsimp only at hF ⊢
  refine .seq (.sr a8 (.mv a8 (.mv a8 (.p (.len Tryz.underlying44 (.t a8) (.p (.lss (.t a8) (.t a8) (.nil (.o8 (.t a8) (fun hc28 => ?_) (fun hc28 => ?_))))))))))
  · refine .skip (.seq (.block (.E7 [j0,j1,j1,j1,j1,j1,j1,j1] (by kernel_rfl) 16 [[],[(31,0)],[],[],[(33,2),(34,3)],[(35,4)],[(36,5)],[],[],[(38,7),(39,8)],[(40,9)],[(41,10)],[(37,6),(42,11)],[(43,12)],[(32,1),(44,13)],[]] [1,14] a8 (by kernel_rfl) a8 (by kernel_rfl) (by decide) ?_)))
    refine⟨_,fun H=>j6.x4 x9.l5 R6 a8 (.t a8) a8,?_⟩
    refine .inl ?_
    refine⟨_,fun H=>j6.move (.t a8) a8,?_⟩
    refine⟨_,fun H=>j6.move (.t a8) a8,?_⟩
    refine⟨_,fun H=>j6.idx P3 Tryz.underlying44 (.t a8) (.t a8) (by omega) (by omega) a8,?_⟩
    refine⟨_,fun H=>j6.m0 p8.l0 (fun x=>x.j8) b4n a8 (fun _=>a8) (.t a8) a8,?_⟩
    refine⟨_,fun H=>j6.x3 P1 (.t a8) a8,?_⟩
    refine⟨_,fun H=>j6.move (.t a8) a8,?_⟩
    refine⟨_,fun H=>j6.move (.t a8) a8,?_⟩
    refine⟨_,fun H=>j6.idx P3 Tryz.underlying44 (.t a8) (.t a8) (by omega) (by omega) a8,?_⟩
    refine⟨_,fun H=>j6.m0 p8.l1 (fun x=>x.l8) a56 a8 (fun _=>a8) (.t a8) a8,?_⟩
    refine⟨_,fun H=>j6.x3 a4g (.t a8) a8,?_⟩
    refine⟨_,fun H=>j6.bS2 p5.l0 p5.l1 a8 P8 b6R (fun c0 c1=>(⟨c0,c1,default⟩:p5)) (fun _ _=>a8) a8 a8 a8 (.t a8) (.t a8) a8,?_⟩
    refine⟨_,fun H=>j6.G7 (α:=p5) P8 Tryz.underlying27 (.cons (.t a8) .nil) a8 (by decide) a8,?_⟩
    refine .inl ?_
    refine⟨_,fun H=>j6.x4 x9.l5 R6 a8 (.t a8) a8,?_⟩
    refine⟨⟨([],j2 [_,c8,c8,c8,c8,c8,c8,c8]),a8⟩,?_⟩
    refine A6.ofP (j6.ldR (fun x=>x.j4) b8B (.t rfl) .z1 (fun _=>rfl) ?_)
    refine⟨⟨([],j2 [_,c8,c8,c8,c8,c8,c8,c8]),a8⟩,?_⟩
    refine A6.append c3c (.inl ⟨_,Tryz.underlying27⟩) rfl .z (.v (.c rfl)) (by simp;omega) (by simp;omega) (fun w45 => ?_) rfl
    refine⟨⟨([],j2 [_,c8,c8,c8,c8,c8,c8,c8]),a8⟩,?_⟩
    show F8 _ _ _ _ _ _ ((46,_)::(45,_)::(44,_)::(43,_)::(42,_)::(41,_)::(40,_)::(39,_)::(38,_)::(37,_)::(36,_)::(35,_)::(34,_)::(33,_)::(32,_)::(31,_)::_) _
    refine .n (.U0 (fun y x => { x with j4:=y }) b8B (.t a8) (.c1i a8 .z) .z1 (fun _ _=>a8) (.nil (.region a8 (.mv a8 (.p (.add (.t a8) (.i a8) (by omega) (by omega) (.ag a8 (.nil ?_))))))))
    refine⟨(i+1,w45),.c2 rfl rfl (.c2 rfl rfl (.c2 rfl rfl (.c2 rfl rfl (.nil _)))),congrArg (fun q => [(true,E9.own _ _ q),_,_,_,_,_,_,_]) (c0e bd0 l i (by omega)),?_,by dsimp only;omega⟩
    dsimp only;omega
  · refine .exit (.seq (.seq ?_))
    obtain rfl:i=l.length:=(by omega)
    rw [List.take_length]
    refine .region rfl (.p (.I4 b5g (.t rfl) .z1 (.p (.c0r hG (b8n (b7O p l r) hl) (.cons (.st rfl .z (fun J n0 L v hr hx hd=>c0d (b:=b7O p l r) hx (y3.fz .z2 hr) hd)) .nil) .v (.ag rfl (.nil (.sr rfl (.mv rfl (.p (.W8 (.t rfl) (.i rfl) (.nil (.o8 (.t rfl) (fun hc50=>(by exfalso;exact hc50 h0)) (fun hc50=>(.skip (.seq (.a1o [[j1,j1,j1,j1,j1,j1,j1,j1],[j1,j1,j1,j1,j1,j1,j1,j1],[j1,j1,j1,j1,j1,j1,j1,j0],[j1,j1,j1,j1,j1,j1,j1,j0]] [[j1,j1,j1,j1,j1,j1,j1,j1],[j1,j1,j1,j1,j1,j1,j1,j1],[j1,j1,j1,j1,j1,j1,j1,j1],[j1,j1,j1,j1,j1,j1,j1,j1],[j1,j1,j1,j1,j1,j1,j1,j1],[j1,j1,j1,j1,j1,j1,j1,j1],[j1,j1,j1,j1,j1,j1,j1,j1],[j1,j1,j1,j1,j1,j1,j1,j1],[j1,j1,j1,j1,j1,j1,j1,j0],[j1,j1,j1,j1,j1,j1,j1,j0],[],[],[],[j1,j1,j1,j1,j1,j1,j1,j0]] [] [] 3 (by kernel_rfl) 14 [[],[],[(56,1)],[],[(58,3)],[(55,0),(57,2),(59,4)],[(60,5)],[(54,6)],[(54,6)],[(54,6)],[],[(61,7)],[(14,10),(62,8)],[(63,9)]] [10,11,12] rfl (by kernel_rfl) rfl (by kernel_rfl) rfl (by decide) (by simp) (fun p hp=>by cases hp) (by kernel_rfl) rfl ?_))))))))))))))))
    refine⟨_,fun H=>j6.I4 u7 (.t a8) (y3.app .z7) a8,?_⟩
    refine⟨_,fun H=>j6.x4 x6.l3 a5E a8 (.t a8) a8,?_⟩
    refine⟨_,fun H=>j6.K0 (fun x=>x.Tag) p3 (.t a8) (y3.app .z6) (fun _=>a8) a8,?_⟩
    refine⟨_,fun H=>j6.I4 a3V (.t a8) (y3.app .z5) a8,?_⟩
    refine⟨_,fun H=>j6.m9 hG (b7Q _ hr) (.cons (.t a8) .nil) a8,?_⟩
    refine⟨_,fun H=>j6.m9 hG (as3 (a5J _ _ _) h1) (.cons (.t a8) (.cons (.t a8) (.cons (.t a8) .nil))) a8,?_⟩
    refine⟨_,fun H=>j6.move (.t a8) a8,?_⟩
    refine⟨_,fun H=>j6.K1 (.t a8) a8,?_⟩
    refine⟨_,fun H=>j6.K2 (.t a8) a8,?_⟩
    refine⟨_,fun H=>j6.K3 (.t a8) a8,?_⟩
    refine .inl (.inl (.inl ?_))
    refine⟨_,fun H=>j6.assign (.t a8) a8,?_⟩
    refine⟨a8,?_⟩
    refine⟨⟨j2 [c8,c8,c8,c8,c8,c8,c8,c8],a8⟩,fun Ys9 => ?_⟩
    refine A6.alloc p3 fun b14 => ?_
    refine⟨[_],_,a8,?_⟩
    refine⟨⟨j2 [c8,c8,c8,c8,c8,c8,c8,c8],a8⟩,fun Ys9 => ?_⟩
    refine A6.C8 u7 (.t rfl) (.t rfl) (.s (y3.app (y3.app .z7))) ?_
    refine⟨[_],_,a8,?_⟩
    refine⟨⟨j2 [c8,c8,c8,c8,c8,c8,c8,_],a8⟩,fun Ys9 => ?_⟩
    refine A6.C8 p3 (.t rfl) (.t rfl) .z ?_
    refine⟨[_],_,a8,?_⟩
    refine⟨⟨j2 [c8,c8,c8,c8,c8,c8,c8,_],a8⟩,fun ws9 => ?_⟩
    refine⟨⟨j2 [c8,c8,c8,c8,c8,c8,c8,_],a8⟩,fun _ => ?_⟩
    show F8 _ _ _ _ _ _ ((15,_)::(14,_)::(63,_)::(62,_)::(61,_)::(54,_)::(60,_)::(59,_)::(58,_)::(57,_)::(56,_)::(55,_)::_) _
    refine .nil (.seq (.sr a8 (.mv a8 (.p (.W8 (.t a8) (.i a8) (.nil (.o8 (.t a8) (fun hc65=>(by exfalso;exact hc65 rfl)) (fun hc65=>(.skip (.sr a8 (.p (.I4 p3 (.t a8) .z (.p (.x4 x9.l4 a94 a8 (.t a8) (.n (.U0 (fun y x => { x with Proof:=y }) p3 (.t a8) (.t a8) .z2 (fun _ _=>a8) (.nil (.seq (.sr a8 ?_)))))))))))))))))))
    refine .p (.assign (.i a8) (.nil (.block (.F4 (α:=Nat) [(2,_),(4,_),(5,_),(7,_),(8,_),(9,_),(11,_)] (fun k R=>(16,.v (k:Int))::R) (fun k => [(true,.ob (ptr b14 0) t),(true,.own 88 gu (bY p.Tag r b l k++(l.drop k).map bd0)),(true,.ob (ptr b11 0) (b5h ⟨r,p.C9,p.y7,p.l9,t,[]⟩ w23 gu)),(true,.fz w23 (.v p.l9)),(true,.ob (ptr b9 0) (default:Y0)),(true,.ob (ptr b8 0) (default:C7)),(true,.ob (ptr b7 0) r),(true,.ob (ptr b5 0) p),(true,.ob (ptr b4 0) (bA p.Tag r b l k))]) (fun k=>k≤l.length) (fun k=>l.length - k) (0) (.c2 a8 a8 (.c2 a8 a8 (.c2 a8 a8 (.cons a8 (.nil _))))) ?_ (.c2 a8 a8 (.c2 a8 a8 (.c2 a8 a8 (.c2 a8 a8 (.nil _))))) (a8) fun k hF => ?_))))
    · simp
    refine .seq (.sr a8 (.mv a8 (.mv a8 (.p (.len Tryz.underlying44 (.t a8) (.p (.lss (.t a8) (.t a8) (.nil (.o8 (.t a8) (fun hc74 => ?_) (fun hc74 => ?_))))))))))
    · refine .skip (.seq (.block (.seq ?_)))
      have hYl:=b8C h2 k (by omega)
      have hst:=h2.step (i:=k) (by omega)
      obtain⟨y,hbe,hye⟩:=hst
      have hDl:(bY p.Tag r b l k++(l.drop k).map bd0).length=l.length:=(by rw [List.length_append,hYl,List.length_map,List.length_drop];omega)
      have hse:(bY p.Tag r b l k++(l.drop k).map bd0).set k y=bY p.Tag r b l (k+1)++(l.drop (k+1)).map bd0:=(by rw [b8D y hYl (by omega),hye])
      refine .a1o [[j1,j1,j1,j1,j1,j1,j1,j1,j1],[j1,j1,j1,j1,j1,j1,j1,j1,j0],[j1,j0,j1,j1,j1,j1,j1,j1,j0]] [[j1,j1,j1,j1,j1,j1,j1,j1,j0],[j1,j1,j1,j1,j1,j1,j1,j1,j0],[j1,j1,j1,j1,j1,j1,j1,j1,j0],[j1,j1,j1,j1,j1,j1,j1,j1,j1],[j1,j1,j1,j1,j1,j1,j1,j1,j1],[j1,j1,j1,j1,j1,j1,j1,j1,j1],[j1,j1,j1,j1,j1,j1,j1,j1,j1],[j1,j1,j1,j1,j1,j1,j1,j1,j1],[j1,j1,j1,j1,j1,j1,j1,j1,j1],[j1,j1,j1,j1,j1,j1,j1,j1,j1],[j1,j1,j1,j1,j1,j1,j1,j1,j1],[j1,j1,j1,j1,j1,j1,j1,j1,j1],[j1,j1,j1,j1,j1,j1,j1,j1,j1],[j1,j1,j1,j1,j1,j1,j1,j1,j1],[j1,j1,j1,j1,j1,j1,j1,j1,j0],[j1,j0,j1,j1,j1,j1,j1,j1,j0],[],[j1,j1,j1,j1,j1,j1,j1,j1,j0],[],[j1,j0,j1,j1,j1,j1,j1,j1,j0]] [] [] 2 (by kernel_rfl) 20 [[],[(78,0)],[],[],[],[],[(82,4),(83,5)],[(84,6)],[],[(86,8)],[],[(81,3),(85,7),(87,9),(88,10)],[(89,11)],[(77,12)],[(77,12)],[(77,12)],[(90,13)],[(79,1),(80,2)],[(93,17),(91,14)],[(92,15)]] [16,18] rfl (by kernel_rfl) rfl (by kernel_rfl) rfl (by decide) (by simp) (fun p hp=>by cases hp) (by kernel_rfl) rfl ?_
      refine⟨_,fun H=>j6.x4 x9.l5 R6 a8 (.t a8) a8,?_⟩
      refine⟨_,fun H=>j6.ldR (fun x=>x.j4) b8B (.t a8) (y3.app .z2) (fun _=>a8) a8,?_⟩
      refine⟨_,fun H=>j6.move (.t a8) a8,?_⟩
      refine⟨_,fun H=>j6.I4 u7 (.t a8) (y3.app .z8) a8,?_⟩
      refine⟨_,fun H=>j6.move (.t a8) a8,?_⟩
      refine⟨_,fun H=>j6.move (.t a8) a8,?_⟩
      refine⟨_,fun H=>j6.idx P3 Tryz.underlying44 (.t a8) (.t a8) (by omega) (by omega) a8,?_⟩
      refine⟨_,fun H=>j6.x3 P3 (.t a8) a8,?_⟩
      refine⟨_,fun H=>j6.x4 x6.l3 a5E a8 (.t a8) a8,?_⟩
      refine⟨_,fun H=>j6.K0 (fun x=>x.Tag) p3 (.t a8) (y3.app .z7) (fun _=>a8) a8,?_⟩
      refine⟨_,fun H=>j6.I4 a3V (.t a8) (y3.app .z6) a8,?_⟩
      refine⟨_,fun H=>j6.m9 hG (as3 (c1p _ _ _ _) hbe) (.cons (.t a8) (.cons (.t a8) (.cons (.t a8) (.cons (.t a8) .nil)))) a8,?_⟩
      refine⟨_,fun H=>j6.move (.t a8) a8,?_⟩
      refine⟨_,fun H=>j6.K1 (.t a8) a8,?_⟩
      refine⟨_,fun H=>j6.K2 (.t a8) a8,?_⟩
      refine⟨_,fun H=>j6.K3 (.t a8) a8,?_⟩
      refine .inl ?_
      refine⟨_,fun H=>j6.a2z P8 Tryz.underlying27 a8 (y3.app .z1) (.t a8) (by omega) (by omega) a8,?_⟩
      refine .inl ?_
      refine⟨_,fun H=>j6.assign (.t a8) a8,?_⟩
      refine⟨a8,?_⟩
      refine⟨⟨j2 [c8,c8,c8,c8,c8,c8,c8,c8,c8],a8⟩,fun Ys16 => ?_⟩
      refine A6.C8 u7 (.t rfl) (.t rfl) (y3.app (y3.app .z8)) ?_
      refine⟨[],_,a8,?_⟩
      refine⟨⟨j2 [c8,c8,c8,c8,c8,c8,c8,c8,_],a8⟩,fun Ys16 => ?_⟩
      refine A6.b5B P8 (.t rfl) (.t rfl) (y3.app (y3.app .z1)) (by omega) ?_
      refine⟨[],_,a8,?_⟩
      refine⟨⟨j2 [c8,_,c8,c8,c8,c8,c8,c8,_],a8⟩,fun ws16 => ?_⟩
      refine⟨⟨j2 [c8,_,c8,c8,c8,c8,c8,c8,_],a8⟩,fun _ => ?_⟩
      show F8 _ _ _ _ _ _ ((15,_)::(93,_)::(92,_)::(91,_)::(90,_)::(77,_)::(89,_)::(88,_)::(87,_)::(86,_)::(85,_)::(84,_)::(83,_)::(82,_)::(81,_)::(80,_)::(79,_)::(78,_)::_) _
      refine .nil (.sr a8 (.mv a8 (.p (.W8 (.t a8) (.i a8) (.nil (.o8 (.t a8) (fun hc95=>(by exfalso;exact hc95 rfl)) (fun hc95=>(.skip (.region a8 (.mv a8 (.p (.add (.t a8) (.i a8) (by omega) (by omega) (.ag a8 (.nil ?_))))))))))))))
      refine⟨k+1,.c2 rfl rfl (.c2 rfl rfl (.c2 rfl rfl (.c2 rfl rfl (.nil _)))),congrArg (fun q => [_,(true,E9.own _ _ q),_,_,_,_,_,_,_]) hse,?_,by omega⟩
      omega
    · refine .exit (.seq ?_)
      obtain rfl:k=l.length:=(by omega)
      rw [List.drop_length,List.map_nil,List.append_nil]
      refine .y0 hC .z1 (.c0c .z2 (fun n0 I L hr cs hc=>a9W (b:=⟨r,p.C9,p.y7,p.l9,t,bY p.Tag r b l l.length⟩) hc (y3.fz .z3 hr) (y3.fz .z1 hr)) (.conv 11 (.ln (ptr b11 0) (m5.id (α:=Y0))) a8 (fun _ _ _ _ _ h=>h) (.E7 [j1,j1,j1,j1,j0,j0,j1,j1,j1] (by kernel_rfl) 5 [[],[],[(99,0)],[(100,1)],[]] [2,3] a8 (by kernel_rfl) a8 (by kernel_rfl) (by decide) ?_)))
      refine⟨_,fun H=>j6.I4 u7 (.t a8) (y3.app .z8) a8,?_⟩
      refine⟨_,fun H=>j6.I4 a0d (.t a8) (y3.app .z2) a8,?_⟩
      refine .inl (.inl ?_)
      refine⟨_,fun H=>j6.assign (.i a8) a8,?_⟩
      refine⟨⟨([],j2 [c8,c8,c8,c8,_,_,c8,c8,c8]),a8⟩,?_⟩
      refine A6.C8 u7 (.t rfl) (.t rfl) .z5 ?_
      refine⟨⟨([],j2 [c8,c8,c8,c8,_,_,c8,c8,c8]),a8⟩,?_⟩
      refine A6.C8 a0d (.t rfl) (.t rfl) .z4 ?_
      refine⟨⟨([],j2 [c8,c8,c8,c8,_,_,c8,c8,c8]),a8⟩,?_⟩
      show F8 _ _ _ _ _ _ ((10,_)::(100,_)::(99,_)::_) _
      refine .nil (.ret ?_)
      refine⟨_,.r3 a8 (.cell u7 a8 .z5) (.cell a0d a8 .z4) (.tmp a8),?_⟩
      rfl
end Go.Proofs.YtmmclghiidoldaaGreatDoor
