/- Plain Lean over any program, and walks of this seat's functions: contracts, each proved once (part 1). -/
import Derived.Test.YtfdifhfnpbphaaaGreatDoorZ0
import Derived.Laws.CopyRow
import Derived.Laws.IdiomStrings
import Derived.Laws.BytesArg
set_option maxRecDepth 1000000
set_option synthInstance.maxSize 1000000
set_option synthInstance.maxHeartbeats 10000000
set_option linter.unusedVariables false
set_option linter.unusedSimpArgs false
namespace Go.Proofs.YtfdifhfnpbphaaaGreatDoor
open Go.Proofs.Tryz
open Go.Fl Go.Sha
theorem b8n (I:Im):Fun prog 204 #[] I (fun v J=>v = .agg (iv.cells ++ [.slice none 0 0,i64 0]).toArray):=by
 refine Fun.intro (l := []) func204 rfl (by kernel_rfl) 3 rfl rfl [] rfl fun C hC=>(.seq (.region rfl (.x (.alloc c4H fun b => .nil (.seq (.region rfl (.v (.a1y a3j c4G rfl rfl rfl rfl (.v (.a3A c6y c4H rfl rfl (.n (.a4f 0 10 b3T rfl rfl rfl rfl rfl rfl (.nil (.ret ⟨_,.r1 rfl (.a9U (cs:=iv.cells ++ [.slice none 0 0,i64 0]) 0 underlying260 rfl b3T rfl rfl),rfl⟩))))))))))))))
theorem a7V (I:Im)(x:H8)(sv:Value)(r:List UInt8)(len:Nat)(b:Value)(bs:List UInt8)(hr:Sl I 1 sv r.length (C5 r))(hb:Sl I 1 b bs.length (C5 bs))
    (hlen:r.length+bs.length≤35184372088832)(hlen2:len+bs.length≤4611686018427387904)(hkk:Cells I 1 0 (kk.map u32)) :
    Fun prog 203 #[.agg (x.cells ++ [sv,i64 (len:Int)]).toArray,b] I (fun v J=>∃ sv',v = .agg ((a1z x (r++bs)).cells ++ [sv',i64 ((len+bs.length:Nat):Int)]).toArray∧Sl J 1 sv' (rest (r++bs)).length (C5 (rest (r++bs)))):=by
  generalize hl:r++bs=l
  have hll:l.length=r.length+bs.length:=by rw [←hl];simp
  obtain⟨a1,c1,rfl,_,_⟩:=id hr.shape
  obtain⟨a2,c2,rfl,_,_⟩:=id hb.shape
  generalize hsv:Value.slice a1 r.length c1=sv at *
  generalize hbv:Value.slice a2 bs.length c2=b at *
  refine Fun.intro (l := [.agg (x.cells ++ [sv,i64 (len:Int)]).toArray,b]) func203 rfl (by kernel_rfl) 32 rfl rfl [(0,.agg (x.cells ++ [sv,i64 (len:Int)]).toArray),(1,b)] rfl fun C hC=>(.seq (.region rfl (.x (.box (cs:=x.cells ++ [sv,i64 (len:Int)]) rfl rfl fun b2 => .x (.alloc c4H fun b4 => .nil (.seq (.region rfl (.v (.fieldAddr b8k rfl (.v (.a1v (v:=sv) 1 underlying34 rfl rfl rfl rfl (.v (.move rfl (.x (.buildSlice (n:=2) (zs := [.slice none 0 0]) (vs := [sv,b]) (pv := [(0,sv),(1,b)]) b1A.und b1A.size z34 rfl rfl (by rw [←hsv,←hbv];rfl) rfl (by decide) fun b9=>(.freeze 0 rfl (fun p _ hM=>by rw [hC] at hM;cases hM) fun I1 hI1 hp1=>(.x (.call rfl rfl (b6o I1 (slc b9 0 2 2) [(sv,r),(b,bs)] 2 rfl ?_ (Sl.a3T (Cells.b6c (hp1 (b9,row [sv,b] 34) (List.mem_singleton.2 rfl))) rfl (by decide) (by decide)) (by simp;omega)) fun v0 I2 hI2 hv0 => ?_))))))))))))))))))
  · intro p hp
    simp only [List.mem_cons,List.not_mem_nil,or_false] at hp
    rcases hp with rfl|rfl
    · exact hr.mono hI1
    · exact hb.mono hI1
  have hv0:Sl I2 1 v0 l.length (C5 l):=by simpa [hll,←hl] using hv0
  refine .v (.assign j0 ?_)
  refine .nil (.seq (.block (.loop (α:=Nat×Value) (fun x => [(5,x.2),(2,ptr b2 0),(4,ptr b4 0),(1,b)])
    (fun k => [[],[(b4,row (List.replicate 8 (u32 0) ++ [.slice none 0 0,i64 0]) 260)],[(b2,row ((feed x l k.1).cells ++ [sv,i64 (len:Int)]) 260)]])
    (fun k J=>64*k.1≤l.length∧Sl J 1 k.2 (l.length - 64*k.1) (C5 (l.drop (64*k.1)))) (fun k=>l.length - 64*k.1) (0,v0) ⟨by simp,by simpa using hv0⟩
    (.cons rfl (.cons rfl (.cons rfl (.cons rfl (.nil _))))) rfl fun x1 J1 hJ1 hF => ?_)))
  obtain⟨k,v⟩:=x1
  obtain⟨hk,hv⟩:=hF
  dsimp only at hk hv ⊢
  generalize hX:feed x l k=X
  obtain⟨a3,c3,rfl,_,hc3⟩:=id hv.shape
  generalize hvv:Value.slice a3 (l.length - 64*k) c3=v at *
  refine .seq (.seq (.region j0 (.v (.move j0 (.v (.len (a0:=a3) (n:=l.length - 64*k) (c:=c3) underlying34 (by rw [hvv];rfl) (.v (.geq j0 j0 (.nil (.a0q j0 (fun hge => .skip ?_) (fun hlt => .exit ?_)))))))))))
  · have h64:64≤l.length - 64*k:=by omega
    have cut6:∀ {J:Im} {v':Value},Sl J 1 v' (l.length - 64*k - 64) (((C5 (l.drop (64*k))).take ((l.length - 64*k)*1)).drop (64*1))→Sl J 1 v' (l.length - 64*(k+1)) (C5 (l.drop (64*(k+1)))):=fun h=>by
      have e1:l.length - 64*k - 64=l.length - 64*(k+1):=by omega
      have e2:((C5 (l.drop (64*k))).take ((l.length - 64*k)*1)).drop (64*1)=C5 (l.drop (64*(k+1))):=by
        rw [List.take_of_length_le (by simp [C5])]
        simp only [C5,←List.map_drop,List.drop_drop]
        congr 2
      rw [e1,e2] at h
      exact h
    refine .block (.b3R (by kernel_rfl) 8 [[],[(14,0)],[],[(16,2)],[(15,1),(17,3)],[],[(19,5)],[]] [5,6] j0 (by kernel_rfl) j0 ?_)
    refine⟨.is _,fun JJ hJJ ρ e2 => .M1 (.fieldAddr a9q e2 ⟨j0,j0⟩),?_⟩
    refine⟨.is _,fun JJ hJJ ρ e14 => .M1 (.b6d (vs:=X.cells) 2 underlying258 j0 a56 e14 j0 j0 ⟨j0,j0⟩),?_⟩
    refine⟨.is _,fun JJ hJJ ρ e5 => .M1 (.move e5 ⟨j0,j0⟩),?_⟩
    refine⟨.val (fun v J=>Sl J 1 v 64 (C5 ((l.drop (64*k)).take 64))) (fun _ _ _ h hle=>h.mono hle),fun JJ hJJ ρ e16 => .M1 (.slice (l:=0) (h:=64) a0X.und a0X.size e16 (hv.mono hJJ) (.inl ⟨rfl,rfl⟩) (.inr ⟨_,_,rfl,rfl⟩) (by omega) (by omega) fun v' hv'=>⟨rfl,by simpa [C5,List.map_take] using hv'⟩),?_⟩
    refine⟨.is _,fun JJ hJJ ρ e15 v17 e17 q17 => .a1c j0 (c4g e15 e17) (fun J hJ hL=>b6n J X _ (by simp;omega) v17 (q17.mono hJ) (hkk.mono (hI1.trans (hI2.trans (hJ1.trans (hJJ.trans hJ)))))) ⟨j0,j0⟩,?_⟩
    refine⟨.is _,fun JJ hJJ ρ e5 => .M1 (.move e5 ⟨j0,j0⟩),?_⟩
    refine⟨.val (fun v J=>Sl J 1 v (l.length - 64*(k+1)) (C5 (l.drop (64*(k+1))))) (fun _ _ _ h hle=>h.mono hle),fun JJ hJJ ρ e19 => .M1 (.slice (l:=64) (h:=l.length - 64*k) a0X.und a0X.size e19 (hv.mono (hJJ)) (.inr ⟨_,_,j0,j0⟩) (.inl ⟨j0,j0⟩) (by omega) (by omega) fun v' hv'=>⟨j0,cut6 hv'⟩),?_⟩
    refine⟨.is _,fun JJ hJJ ρ e2 => .M1 (.fieldAddr a9q e2 ⟨j0,j0⟩),?_⟩
    refine⟨j0,fun J2 hJ2 v17 q17 => ?_⟩
    refine .c1z 2 8 a56 j0 j0 j0 j0 j0 (by exact Nat.le_of_ble_eq_true rfl) ⟨Le.refl _,fun JJ hJJ ρ e5 => .M1 (.move e5 ⟨j0,j0⟩),fun JJ hJJ ρ e19 => .M1 (.slice (l:=64) (h:=l.length - 64*k) a0X.und a0X.size e19 (hv.mono (hJ2.trans hJJ)) (.inr ⟨_,_,j0,j0⟩) (.inl ⟨j0,j0⟩) (by omega) (by omega) fun v' hv'=>⟨j0,cut6 hv'⟩),fun J3 hJ3 v20 q20 => ?_⟩
    refine .v (.assign rfl (.nil ⟨(k+1,v20),.cons rfl (.cons rfl (.cons rfl (.cons rfl (.nil _)))),?_,⟨by dsimp only;omega,q20⟩,by dsimp only;omega,hJ1.trans (hJ2.trans hJ3)⟩))
    subst hX
    rfl
  · have hkk2:k=l.length/64:=by omega
    have hX2:X=a1z x l:=by rw [←hX,hkk2];rfl
    have hv2:Sl J1 1 v (l.length - 64*k) (C5 (rest l)):=by rw [rest,←hkk2];exact hv
    have hrl:(rest l).length=l.length - 64*k:=by rw [rest,←hkk2,List.length_drop]
    refine .seq (.draw (by kernel_rfl) 10 [[],[(22,0)],[],[(24,2)],[],[(26,4)],[],[(28,6)],[(27,5),(29,7)],[(23,1),(25,3),(30,8)]] j0 (by kernel_rfl) j0 ?_)
    refine⟨.is _,fun JJ hJJ ρ e2 => .M1 (.fieldAddr a9q e2 ⟨j0,j0⟩),?_⟩
    refine⟨.is _,fun JJ hJJ ρ e22 => .M1 (.b6d (vs:=X.cells) 2 underlying258 j0 a56 e22 j0 j0 ⟨j0,j0⟩),?_⟩
    refine⟨.is _,fun JJ hJJ ρ e5 => .M1 (.move e5 ⟨j0,j0⟩),?_⟩
    refine⟨.val (fun v J=>Sl J 1 v (l.length - 64*k) (C5 (rest l))) (fun _ _ _ h hle=>h.mono hle),fun JJ hJJ ρ e24 => .call j0 (c83 e24) (b9z JJ v (l.length - 64*k) (rest l) hrl (hv2.mono hJJ) (by omega)) fun v' J' hle hp=>⟨j0,hp⟩,?_⟩
    refine⟨.is _,fun JJ hJJ ρ e2 => .M1 (.fieldAddr b8l e2 ⟨j0,j0⟩),?_⟩
    refine⟨.is _,fun JJ hJJ ρ e26 => .M1 (.a1v (v:=i64 (len:Int)) 2 underlying3 j0 e26 j0 j0 ⟨j0,j0⟩),?_⟩
    refine⟨.is _,fun JJ hJJ ρ e1 => .M1 (.move e1 ⟨j0,j0⟩),?_⟩
    refine⟨.is _,fun JJ hJJ ρ e28 => .M1 (.len (a0:=a2) (n:=bs.length) (c:=c2) underlying34 (by rw [hbv];exact e28) ⟨j0,j0⟩),?_⟩
    refine⟨.is _,fun JJ hJJ ρ e27 e29 => .M1 (.add e27 e29 (by omega) (by omega) ⟨j0,j0⟩),?_⟩
    refine⟨.val (fun v J=>∃ sv',v = .agg (X.cells ++ [sv',i64 ((len+bs.length:Nat):Int)]).toArray∧Sl J 1 sv' (l.length - 64*k) (C5 (rest l))) (fun _ _ _ h hle=>by obtain⟨s,h1,h2⟩:=h;exact⟨s,h1,h2.mono hle⟩),fun JJ hJJ ρ e23 v25 e25 q25 e30 => .M1 (by obtain⟨a9,c9,hv9,_,_⟩:=id q25.shape;subst hv9;exact .a3A (pv := [(0,.agg X.cells.toArray),(1,.slice a9 (l.length - 64*k) c9),(2,i64 ((len:Int)+(bs.length:Int)))]) c6y c4H (a9X e23 (a9X e25 (a9X e30 c4i))) rfl ⟨rfl,_,(by rw [Int.natCast_add];rfl),q25⟩),?_⟩
    intro J2 hJ2 v25 q25 v31 q31
    obtain⟨sv',rfl,hsv'⟩:=q31
    obtain⟨a9,c9,rfl,_,_⟩:=id hsv'.shape
    refine .n (.a4f 1 10 b3T j0 j0 j0 j0 j0 j0 (.nil (.ret ⟨_,.r1 j0 (.a9U (cs:=X.cells ++ [.slice a9 (l.length - 64*k) c9,i64 ((len+bs.length:Nat):Int)]) 1 underlying260 j0 b3T j0 j0),.slice a9 (l.length - 64*k) c9,?_,?_⟩)))
    · rw [hX2]
    · rw [hrl];exact hsv'
theorem b8o (I:Im)(x:H8)(sv:Value)(r:List UInt8)(len:Nat)(hr:Sl I 1 sv r.length (C5 r))(hlen:r.length≤17592186044416)(hlen2:len≤2305843009213693952)(hkk:Cells I 1 0 (kk.map u32)) :
    Fun prog 202 #[.agg (x.cells ++ [sv,i64 (len:Int)]).toArray] I (fun v J=>v = .agg (C5 (a3C x r len)).toArray):=by
  obtain⟨a1,c1,rfl,_,_⟩:=id hr.shape
  generalize hsv:Value.slice a1 r.length c1=sv at *
  refine Fun.intro (l := [.agg (x.cells ++ [sv,i64 (len:Int)]).toArray]) func202 rfl (by kernel_rfl) 72 rfl rfl [(0,.agg (x.cells ++ [sv,i64 (len:Int)]).toArray)] rfl fun C hC=>(.seq (.region rfl (.x (.box (cs:=x.cells ++ [sv,i64 (len:Int)]) rfl rfl fun b1 => .x (.alloc z28 fun b2 => .nil (.seq (.region rfl (.x (.buildSlice (n:=1) (zs := [u8 0]) (vs := [u8 128]) (pv := [(0,u8 128)]) a0X.und a0X.size z5 rfl rfl rfl rfl (by decide) fun b9=>(.v (.assign rfl ?_)))))))))))
  have hz:=c4W r.length
  have hzd:a6W r.length=(119 - r.length % 64) % 64:=rfl
  refine .nil (.seq (.block (.loop (α:=Nat×Value×List (Nat×Obj)) (fun x => [(3,x.2.1),(1,ptr b1 0),(2,ptr b2 0)])
    (fun k => [k.2.2,[(b2,row (List.replicate 32 (u8 0)) 28)],[(b1,row (x.cells ++ [sv,i64 (len:Int)]) 260)]])
    (fun k J=>k.1≤a6W r.length∧Own 5 1 k.2.1 (1+k.1) (C5 (128::List.replicate k.1 0)) k.2.2) (fun k=>a6W r.length - k.1) (0,slc b9 0 1 1,[(b9,row [u8 128] 5)]) ⟨by simp,Own.made rfl (by decide)⟩
    (.cons rfl (.cons rfl (.cons rfl (.nil _)))) rfl fun x1 J1 hJ1 hF => ?_)))
  obtain⟨k,v,X⟩:=x1
  obtain⟨hk,hown⟩:=hF
  dsimp only at hk hown ⊢
  obtain⟨a3,c3,rfl⟩:=id hown.shape
  generalize hvv:Value.slice a3 (1+k) c3=v at *
  refine .seq (.seq (.region j0 (.v (.fieldAddr b8k j0 (.v (.a1v (v:=sv) 2 underlying34 j0 j0 j0 j0 (.v (.len (a0:=a1) (n:=r.length) (c:=c1) underlying34 (by rw [hsv];rfl) (.v (.move j0 (.v (.len (a0:=a3) (n:=1+k) (c:=c3) underlying34 (by rw [hvv];rfl) (.v (.add j0 j0 (by omega) (by omega) (.v (.rem j0 j0 (by omega) (by omega) (.v (.b9o j0 j0 (.nil (.a0q j0 (fun hne => .skip ?_) (fun heq => .exit ?_)))))))))))))))))))))
  · have hk2:k < a6W r.length:=by
      rcases Nat.lt_or_ge k (a6W r.length) with h|h
      · exact h
      · exact absurd (show((r.length:Int)+((1+k:Nat):Int)) % 64=56 by omega) hne
    refine .block (.region j0 (.v (.move j0 (.x (.buildSlice (n:=1) (zs := [u8 0]) (vs := [u8 0]) (pv := [(0,u8 0)]) a0X.und a0X.size z5 j0 j0 j0 j0 (by decide) fun b19=>(.s (.append 1 a0X (by decide) (.inl ⟨_,underlying34⟩) j0 j0 j0 hown (.chunk 0 j0 j0) j0 (by unfold maxLen;omega) (by omega) fun v' X' hown'=>(.v (.assign j0 ?_)))))))))
    refine .forget (X := [_]) (.nil ⟨(k+1,v',X'),.cons rfl (.cons rfl (.cons rfl (.nil _))),rfl,⟨by dsimp only;omega,?_⟩,by dsimp only;omega,hJ1⟩)
    have e1:C5 (128::List.replicate k 0) ++ [u8 0]=C5 (128::List.replicate (k+1) 0):=by simp [C5,List.replicate_succ']
    rw [e1] at hown'
    exact hown'
  · have hk2:k=a6W r.length:=by
      have:((r.length:Int)+((1+k:Nat):Int)) % 64=56:=by
        by_cases h:((r.length:Int)+((1+k:Nat):Int)) % 64=56
        · exact h
        · exact absurd h heq
      omega
    subst hk2
    generalize hp0:(128::List.replicate (a6W r.length) 0:List UInt8)=p0 at hown
    have hp0l:p0.length=1+a6W r.length:=by rw [←hp0];simp;omega
    refine .seq (.region j0 (.v (.fieldAddr b8l j0 (.v (.a1v (v:=i64 (len:Int)) 2 underlying3 j0 j0 j0 j0 (.v (.a9L underlying3 underlying129 j0 (.v (.c8Y (n:=8) j0 j0 (.v (.assign j0 ?_)))))))))))
    generalize hn:UInt64.ofInt (len:Int)*8=n
    refine .nil (.seq (.seq (.region j0 (.v (.assign j0 ?_)))))
    refine .nil (.block (.loop (α:=Nat×Value×List (Nat×Obj)) (fun x => [(5,i64 (56 - 8*(x.1:Int))),(3,x.2.1),(4,u64 n),(1,ptr b1 0),(2,ptr b2 0)])
      (fun k => [k.2.2,[(b2,row (List.replicate 32 (u8 0)) 28)],[(b1,row (x.cells ++ [sv,i64 (len:Int)]) 260)]])
      (fun k J=>k.1≤8∧Own 5 1 k.2.1 (1+a6W r.length+k.1) (C5 (p0++W5 n k.1)) k.2.2) (fun k=>8 - k.1) (0,v,X) ⟨by simp,by simpa [W5] using hown⟩
      (.cons rfl (.cons rfl (.cons rfl (.cons rfl (.cons rfl (.nil _)))))) rfl fun x2 J2 hJ2 hF => ?_))
    obtain⟨k,v2,X2⟩:=x2
    obtain⟨hk,hown2⟩:=hF
    dsimp only at hk hown2 ⊢
    refine .seq (.seq (.region j0 (.v (.move j0 (.v (.geq j0 j0 (.nil (.a0q j0 (fun hge => .skip ?_) (fun hlt => .exit ?_)))))))))
    · have hk8:k < 8:=by omega
      refine .seq (.block (.region j0 (.v (.move j0 (.v (.move j0 (.v (.move j0 (.v (.c6r (56 - 8*k) j0 j0 (by omega) (by omega) (.v (.a45 underlying129 underlying5 j0 ?_))))))))))))
      generalize hq:(n >>> UInt64.ofNat (56 - 8*k)).toUInt8=q
      refine .x (.buildSlice (n:=1) (zs := [u8 0]) (vs := [u8 q]) (pv := [(0,u8 q)]) a0X.und a0X.size z5 j0 j0 j0 j0 (by decide) fun b34=>(.s (.append 1 a0X (by decide) (.inl ⟨_,underlying34⟩) j0 j0 j0 hown2 (.chunk 0 j0 j0) j0 (by unfold maxLen;omega) (by omega) fun v' X' hown'=>(.v (.assign j0 (.forget (X := [_]) (.nil (.region j0 (.v (.move j0 (.v (.sub j0 j0 (by omega) (by omega) (.v (.assign j0 ?_))))))))))))))
      refine .nil ⟨(k+1,v',X'),.cons ?_ (.cons rfl (.cons rfl (.cons rfl (.cons rfl (.nil _))))),rfl,⟨by dsimp only;omega,?_⟩,by dsimp only;omega,hJ2⟩
      · exact congrArg (fun q=>some (i64 q)) (by dsimp only;omega)
      · have e1:C5 (p0++W5 n k) ++ [u8 q]=C5 (p0++W5 n (k+1)):=by rw [a1U,hq];simp [C5]
        rw [e1] at hown'
        exact hown'
    · have hk2:k=8:=by omega
      subst hk2
      have hpl:(pad r.length n).length=1+a6W r.length+8:=by rw [b6m];omega
      have hpad:p0++W5 n 8=pad r.length n:=by rw [←hp0];rfl
      refine .seq (.region rfl (.x (.alloc z28 fun b6 => .nil (.freeze 1 rfl (fun p _ hM=>by rw [hC] at hM;cases hM) fun J3 hJ3 hp3 => ?_))))
      have hps:Sl J3 1 v2 (pad r.length n).length (C5 (pad r.length n)):=by
        have:=hown2.sl hp3
        rw [hpad] at this
        rw [hpl];exact this
      have hI3:=hJ1.trans (hJ2.trans hJ3)
      refine .seq (.seq (.region j0 (.v (.a7P (cs:=x.cells ++ [sv,i64 (len:Int)]) 3 underlying260 j0 b3T j0 j0 (.v (.move j0 (.x (.call j0 j0 (a7V J3 x sv r len v2 (pad r.length n) (hr.mono hI3) hps (by omega) (by omega) (hkk.mono hI3)) fun v4 J4 hJ4 hp4 => ?_))))))))
      obtain⟨sv',rfl,_⟩:=hp4
      have hy:a3C x r len=(a1z x (r++pad r.length n)).l.flatMap a92:=by rw [←hn];rfl
      generalize a1z x (r++pad r.length n)=y at hy
      refine .v (.c7b (vs:=y.cells) a9q j0 j0 (.v (.move j0 ?_)))
      refine .nil (.block (.loop (α:=Nat) (fun k => [(40,i64 k),(39,.agg y.cells.toArray),(6,ptr b6 0),(1,ptr b1 0),(2,ptr b2 0)])
        (fun k => [[(b6,row (a7T y k) 28)],[],[(b2,row (List.replicate 32 (u8 0)) 28)],[(b1,row (x.cells ++ [sv,i64 (len:Int)]) 260)]])
        (fun k _=>k≤8) (fun k=>8 - k) 0 (by omega)
        (.cons rfl (.cons rfl (.cons rfl (.cons rfl (.cons rfl (.nil _)))))) rfl fun k J5 hJ5 hk => ?_))
      refine .seq (.region j0 (.v (.lss j0 j0 (.nil (.seq (.a0q j0 (fun hlt => .skip ?_) (fun hge => .exit ?_)))))))
      · have hk8:k < 8:=by omega
        refine .seq (.block (.seq (.region j0 (.v (.move j0 (.v (.c1x a3j j0 j0 (by omega) (by omega) (b1B y k _ (by simp) hk8) (.v (.assign j0 (.v (.assign j0 (.nil (.region j0 (.v (.move j0 (.v (.mul j0 j0 (by omega) (by omega) (.v (.move j0 (.v (.mul j0 j0 (by omega) (by omega) (.v (.add j0 j0 (by omega) (by omega) (.v (.move j0 (.v (.mul j0 j0 (by omega) (by omega) (.v (.add j0 j0 (by omega) (by omega) (.v (.move j0 (.v (.mul j0 j0 (by omega) (by omega) (.v (.add j0 j0 (by omega) (by omega) (.v (.move j0 (.v (.b1y 24 j0 j0 j0 (by decide) (.v (.a6S underlying257 underlying5 j0 (.v (.move j0 (.v (.b1y 16 j0 j0 j0 (by decide) (.v (.a6S underlying257 underlying5 j0 (.v (.move j0 (.v (.b1y 8 j0 j0 j0 (by decide) (.v (.a6S underlying257 underlying5 j0 (.v (.move j0 (.v (.a6S underlying257 underlying5 j0 (.v (.I7 a1s j0 j0 (by omega) (by omega) ?_)))))))))))))))))))))))))))))))))))))))))))))))))))))))))))
        have hL:=a8y y k (by omega)
        refine .n (.a6p 0 sz5 j0 j0 j0 j0 j0 (by rw [hL];omega) (.v (.I7 a1s j0 j0 (by omega) (by omega) (.n (.a6p 0 sz5 j0 j0 j0 j0 j0 (by rw [K7 _ _ _ (by rw [hL];simp;omega),hL];omega) (.v (.I7 a1s j0 j0 (by omega) (by omega) (.n (.a6p 0 sz5 j0 j0 j0 j0 j0 (by rw [K7 _ _ _ (by rw [K7 _ _ _ (by rw [hL];simp;omega),hL];simp;omega),K7 _ _ _ (by rw [hL];simp;omega),hL];omega) (.v (.I7 a1s j0 j0 (by omega) (by omega) (.n (.a6p 0 sz5 j0 j0 j0 j0 j0 (by rw [K7 _ _ _ (by rw [K7 _ _ _ (by rw [K7 _ _ _ (by rw [hL];simp;omega),hL];simp;omega),K7 _ _ _ (by rw [hL];simp;omega),hL];simp;omega),K7 _ _ _ (by rw [K7 _ _ _ (by rw [hL];simp;omega),hL];simp;omega),K7 _ _ _ (by rw [hL];simp;omega),hL];omega) (.nil ?_))))))))))))))
        have hset:=c1W y k _ _ _ _ (show 0+(4*(k:Int)).toNat*1=4*k by omega) (show 0+(4*(k:Int)+1).toNat*1=4*k+1 by omega) (show 0+(4*(k:Int)+2).toNat*1=4*k+2 by omega) (show 0+(4*(k:Int)+3).toNat*1=4*k+3 by omega) hk8
        refine .region j0 (.v (.add j0 j0 (by omega) (by omega) (.v (.move j0 ?_))))
        refine .nil ⟨k+1,.cons rfl (.cons rfl (.cons rfl (.cons rfl (.cons rfl (.nil _))))),?_,by omega,by omega,hJ5⟩
        exact congrArg (fun c => [[(b6,row c 28)],[],[(b2,row (List.replicate 32 (u8 0)) 28)],[(b1,row (x.cells ++ [sv,i64 (len:Int)]) 260)]]) hset
      · have hk8:k=8:=by omega
        subst hk8
        have hL:=a8y y 8 (by omega)
        have ho8:a7T y 8=C5 (y.l.flatMap a92):=by simp [a7T,H8.l]
        refine .seq (.region j0 (.v (.a7P (cs:=a7T y 8) 0 underlying28 j0 (by rw [hL];exact c1C) j0 j0 (.n (.a4f 2 32 c1C j0 j0 hL (a3U _ _ fun _=>j0) j0 j0 (.nil (.ret ⟨_,.r1 j0 (.a9U (cs:=a7T y 8) 2 underlying28 j0 (by rw [hL];exact c1C) j0 j0),?_⟩)))))))
        rw [ho8,hy]
theorem c7q (I:Im)(b:Value)(bs:List UInt8)(hb:Sl I 1 b bs.length (C5 bs))(hlen:bs.length≤17592186044416)(hkk:Cells I 1 0 (kk.map u32)) :
    Fun prog 151 #[b] I (fun v J=>v = .agg (C5 (a5b bs)).toArray):=by
  refine Fun.intro (l := [b]) func151 rfl (by kernel_rfl) 7 rfl rfl [(0,b)] rfl fun C hC=>(.seq (.region rfl (.x (.alloc z28 fun b2 => .nil (.seq (.region rfl (.x (.a1c rfl rfl (fun J _ _=>b8n J) (.v (.move rfl (.x (.call rfl rfl (a7V I iv (.slice none 0 0) [] 0 b bs (Sl.nil _ _) hb (by simp;omega) (by omega) hkk) fun v J hJ hp => ?_))))))))))))
  simp only [List.nil_append,Nat.zero_add] at hp
  obtain⟨sv',rfl,hsv⟩:=hp
  have hrl:(rest bs).length≤bs.length:=by simp [rest]
  refine .x (.a1c j0 j0 (fun J2 hJ2 _=>b8o J2 (a1z iv bs) sv' (rest bs) bs.length (hsv.mono hJ2) (by omega) (by omega) (hkk.mono (hJ.trans hJ2))) ?_)
  have hdl:(C5 (a5b bs)).length=32:=by
    rw [a3D,a5b,a3C,a2m,H8.length]
  refine .n (.a4f 0 32 c1C j0 j0 hdl (a3U _ _ fun _=>j0) j0 j0 (.nil (.ret ⟨_,.r1 j0 (.a9U (cs:=C5 (a5b bs)) 0 underlying28 j0 (by rw [hdl];exact c1C) j0 j0),j0⟩)))
end Go.Proofs.YtfdifhfnpbphaaaGreatDoor
namespace Go.Sha
open Go.Fl
theorem b1D (x:H8)(l m:List UInt8):∀ k,64*k≤l.length→feed x (l++m) k=feed x l k
 | 0,_=>rfl
 | k+1,h=>by
  rw [feed,feed,b1D x l m k (by omega),List.drop_append_of_le_length (by omega),List.take_append_of_le_length (by simp;omega)]
theorem b3W (x:H8)(l:List UInt8)(a:Nat):∀ b,feed x l (a+b)=feed (feed x l a) (l.drop (64*a)) b
 | 0=>rfl
 | b+1=>by
  rw [←Nat.add_assoc,feed,feed,b3W x l a b,List.drop_drop,Nat.mul_add]
theorem a5d (l:List UInt8):(rest l).length=l.length % 64:=by
 rw [rest,List.length_drop];omega
theorem b1f (x:H8)(l m:List UInt8):a1z (a1z x l) (rest l++m)=a1z x (l++m):=by
 have h1:(l++m).length/64=l.length/64+(rest l++m).length/64:=by
  rw [List.length_append,List.length_append,a5d];omega
 unfold a1z
 rw [h1,b3W,b1D x l m _ (by omega)]
 congr 1
 rw [rest,List.drop_append_of_le_length (by omega)]
theorem b3X (l m:List UInt8):rest (rest l++m)=rest (l++m):=by
 have h1:64*((l++m).length/64)=64*(l.length/64)+64*((rest l++m).length/64):=by
  rw [List.length_append,List.length_append,a5d];omega
 have h2:(l++m).drop (64*(l.length/64))=rest l++m:=by rw [rest,List.drop_append_of_le_length (by omega)]
 conv=>rhs;unfold rest
 rw [h1,←List.drop_drop,h2,rest]
theorem b1g (l:List UInt8):(a5b l).length=32:=by rw [a5b,a3C,a2m,H8.length]
end Go.Sha
namespace Go.Ab
open Go.Fl Go.RowKit
class u3 (α:Type) where
 size:Nat
 agg:Bool
 rep:Im→α→List Value→Prop
 len:∀ {I x cs},rep I x cs→cs.length=size
 mono:∀ {I J x cs},Le I J→rep I x cs→rep J x cs
 one:agg=false→size=1
 flat:∀ {I x cs},rep I x cs→a0W cs=true
open u3 (rep)
def asV (ag:Bool)(cs:List Value):Value:=if ag then .agg cs.toArray else cs.headD undef
def P2 {α:Type}[u3 α](I:Im):List α→List Value→Prop
 | [],cs=>cs = []
 | x::l,cs=>∃ c r,cs=c++r∧rep I x c∧P2 I l r
theorem P2.mono {α:Type}[u3 α]{I J:Im}(hle:Le I J):∀ {l:List α} {cs:List Value},P2 I l cs→P2 J l cs
 | [],_,h=>h
 | x::l,_,h=>by obtain⟨c,r,h1,h2,h3⟩:=h;exact⟨c,r,h1,u3.mono hle h2,P2.mono hle h3⟩
theorem P2.len {α:Type}[u3 α]{I:Im}:∀ {l:List α} {cs:List Value},P2 I l cs→cs.length=l.length*u3.size α
 | [],_,h=>by simp [P2] at h;simp [h]
 | x::l,_,h=>by
  obtain⟨c,r,rfl,h2,h3⟩:=h
  simp [u3.len h2,h3.len,Nat.succ_mul,Nat.add_comm]
theorem a8z {xs ys:List Value}(h:a0W xs=true)(k:a0W ys=true):a0W (xs++ys)=true:=by
 simp only [a0W,List.all_append,Bool.and_eq_true] at *;exact⟨h,k⟩
theorem P2.flat {α:Type}[u3 α]{I:Im}:∀ {l:List α} {cs:List Value},P2 I l cs→a0W cs=true
 | [],_,h=>by simp [P2] at h;simp [h,a0W]
 | x::l,_,h=>by
  obtain⟨c,r,rfl,h2,h3⟩:=h
  exact a8z (u3.flat h2) h3.flat
theorem P2.append {α:Type}[u3 α]{I:Im}:∀ {l m:List α} {cs ds:List Value},P2 I l cs→P2 I m ds→P2 I (l++m) (cs++ds)
 | [],_,_,_,h,k=>by simp [P2] at h;simpa [h] using k
 | x::l,_,_,_,h,k=>by
  obtain⟨c,r,rfl,h2,h3⟩:=h
  exact⟨c,r++_,by simp,h2,h3.append k⟩
theorem P2.one {α:Type}[u3 α]{I:Im}{x:α}{c:List Value}(h:rep I x c):P2 I [x] c:=⟨c,[],by simp,h,rfl⟩
theorem P2.split {α:Type}[u3 α]{I:Im}:∀ {l m:List α} {cs:List Value},P2 I (l++m) cs→P2 I l (cs.take (l.length*u3.size α))∧P2 I m (cs.drop (l.length*u3.size α))
 | [],_,_,h=>by simp [P2];simpa using h
 | x::l,m,_,h=>by
  obtain⟨c,r,rfl,h2,h3⟩:=h
  have hl:=u3.len h2
  obtain⟨h4,h5⟩:=h3.split
  have e:(x::l).length*u3.size α=c.length+l.length*u3.size α:=by simp [hl,Nat.succ_mul,Nat.add_comm]
  rw [e,List.take_length_add_append,List.drop_length_add_append]
  exact⟨⟨c,_,j0,h2,h4⟩,h5⟩
theorem P2.get {α:Type}[u3 α]{I:Im}{l:List α}{cs:List Value}(h:P2 I l cs)(k:Nat)(hk:k < l.length):rep I l[k] (K5 cs (k*u3.size α) (u3.size α)):=by
 have e:l=l.take k++(l[k]::l.drop (k+1)):=by simp
 rw [e] at h
 obtain⟨_,h2⟩:=h.split
 obtain⟨c,r,h3,h4,h5⟩:=h2
 have hl:(l.take k).length=k:=by simp;omega
 rw [hl] at h3
 have:K5 cs (k*u3.size α) (u3.size α)=c:=by rw [K5,h3,←u3.len h4];simp
 rw [this];exact h4
theorem P2.set {α:Type}[u3 α]{I:Im}{l:List α}{cs vs:List Value}{y:α}(h:P2 I l cs)(k:Nat)(hk:k < l.length)(hy:rep I y vs):P2 I (l.set k y) (G1 cs (k*u3.size α) vs):=by
 have e:l=l.take k++(l[k]::l.drop (k+1)):=by simp
 have e2:l.set k y=l.take k++(y::l.drop (k+1)):=List.set_eq_take_append_cons_drop .. |>.trans (by simp [hk])
 rw [e] at h
 obtain⟨h1,h2⟩:=h.split
 obtain⟨c,r,h3,h4,h5⟩:=h2
 have hl:(l.take k).length=k:=by simp;omega
 rw [hl] at h1 h3
 rw [e2,G1]
 have hd:cs.drop (k*u3.size α+vs.length)=r:=by
  rw [←List.drop_drop,h3,u3.len hy,←u3.len h4];simp
 rw [hd,List.append_assoc]
 exact h1.append ⟨vs,r,rfl,hy,h5⟩
structure M4 (n:Nat)(α:Type) where
 l:List α
 h:l.length=n
instance {n:Nat}{α:Type}[DecidableEq α]:DecidableEq (M4 n α):=fun a b =>
 if h:a.l=b.l then isTrue (by cases a;cases b;cases h;rfl) else isFalse (fun e=>h (by rw [e]))
@[simp] theorem M4.len {n:Nat}{α:Type}(a:M4 n α):a.l.length=n:=a.h
theorem M4.ext {n:Nat}{α:Type}{a b:M4 n α}(h:a.l=b.l):a=b:=by cases a;cases b;cases h;rfl
instance {n:Nat}{α:Type}[Inhabited α]:Inhabited (M4 n α):=⟨⟨List.replicate n default,by simp⟩⟩
instance {n:Nat}{α:Type}[u3 α]:u3 (M4 n α) where
 size:=n*u3.size α
 agg:=true
 rep I x cs:=P2 I x.l cs
 len {_ x _} h:=by rw [h.len,x.h]
 mono hle h:=h.mono hle
 one h:=by cases h
 flat h:=h.flat
structure j9 (α β:Type)[u3 α][u3 β] where
 off:Nat
 get:α→β
 set:β→α→α
 fits:off+u3.size β≤u3.size α
 a5W:∀ {I x cs},rep I x cs→rep I (get x) (K5 cs off (u3.size β))
 a7W:∀ {I x cs y vs},rep I x cs→rep I y vs→rep I (set y x) (G1 cs off vs)
def SlA {α:Type}[u3 α](I:Im)(v:Value)(l:List α):Prop:=∃ xs,Sl I (u3.size α) v l.length xs∧P2 I l xs
inductive AV:Type 1 where
 | v {α:Type} [r:u3 α] (x:α)
 | p {α:Type} [r:u3 α] (x:α)
 | raw (u:Value)
 | vc {α:Type} [r:u3 α] (l:List α)
 | ln {α β:Type} [r:u3 α] [s:u3 β] (w:Value) (l:j9 α β)
 | el {α β:Type} [r:u3 α] [s:u3 β] (w:Value) (k:Nat) (l:j9 α β)
 | sv {α β:Type} {n:Nat} [r:u3 α] [s:u3 β] (w:Value) (l:j9 α (M4 n β))
 | t2 (a b:AV)
 | t3 (a b c:AV)
 | t4 (a b c d:AV)
 | opt (c:Bool) (a:AV)
 | pr (p:Im→Value→Prop) (m:∀ {I J:Im} {u:Value},Le I J→p I u→p J u)
 | any
def a6r:Value→Option Nat
 | .pointer (some ⟨b,0,none⟩)=>some b
 | .slice (some ⟨b,0,none⟩) _ _=>some b
 | _=>none
def F9 (I:Im):AV→Value→Prop
 | @AV.v α r x,u=>∃ cs,@u3.rep α r I x cs∧u=asV (@u3.agg α r) cs
 | @AV.p α r x,u=>∃ b o cs,u=ptr b o ∧ @u3.rep α r I x cs∧Cells I b o cs
 | .raw w,u=>u=w
 | @AV.vc α r l,u=>(∃ a,u = .slice a l.length l.length) ∧ @SlA α r I u l
 | @AV.ln α β r s w l,u=>∃ b,a6r w=some b∧u=ptr b (@j9.off α β r s l)
 | @AV.el α β r s w k l,u=>∃ b,a6r w=some b∧u=ptr b (k * @u3.size α r + @j9.off α β r s l)
 | @AV.sv α β n r s w l,u=>∃ b,a6r w=some b∧u=slc b (@j9.off α (M4 n β) r _ l) n n
 | .t2 a b,u=>∃ x y,u = .tuple #[x,y]∧F9 I a x∧F9 I b y
 | .t3 a b c,u=>∃ x y z,u = .tuple #[x,y,z]∧F9 I a x∧F9 I b y∧F9 I c z
 | .t4 a b c d,u=>∃ x y z t,u = .tuple #[x,y,z,t]∧F9 I a x∧F9 I b y∧F9 I c z∧F9 I d t
 | .opt c a,u=>c=true→F9 I a u
 | .pr p _,u=>p I u
 | .any,_=>True
theorem F9.mono {I J:Im}(hle:Le I J):∀ {a:AV} {u:Value},F9 I a u→F9 J a u
 | @AV.v α r x,_,h=>by obtain⟨cs,h1,h2⟩:=h;exact⟨cs,@u3.mono α r _ _ _ _ hle h1,h2⟩
 | @AV.p α r x,_,h=>by obtain⟨b,o,cs,h1,h2,h3⟩:=h;exact⟨b,o,cs,h1,@u3.mono α r _ _ _ _ hle h2,h3.mono hle⟩
 | .raw w,_,h=>h
 | @AV.vc α r l,_,h=>⟨h.1,by obtain⟨_,xs,h1,h2⟩:=h;exact⟨xs,h1.mono hle,h2.mono hle⟩⟩
 | @AV.ln α β r s w l,_,h=>h
 | @AV.el α β r s w k l,_,h=>h
 | @AV.sv α β n r s w l,_,h=>h
 | .t2 a b,_,h=>by obtain⟨x,y,h1,h2,h3⟩:=h;exact⟨x,y,h1,h2.mono hle,h3.mono hle⟩
 | .t3 a b c,_,h=>by obtain⟨x,y,z,h1,h2,h3,h4⟩:=h;exact⟨x,y,z,h1,h2.mono hle,h3.mono hle,h4.mono hle⟩
 | .t4 a b c d,_,h=>by obtain⟨x,y,z,t,h1,h2,h3,h4,h5⟩:=h;exact⟨x,y,z,t,h1,h2.mono hle,h3.mono hle,h4.mono hle,h5.mono hle⟩
 | .opt c a,_,h=>fun hc=>(h hc).mono hle
 | .pr _ m,_,h=>m hle h
 | .any,_,h=>h
instance:u3 Int where
 size:=1
 agg:=false
 rep _ x cs:=cs = [i64 x] ∧ -9223372036854775808≤x∧x≤9223372036854775807
 len h:=by simp [h.1]
 mono _ h:=h
 one _:=rfl
 flat h:=by simp [h.1,a0W,Value.oneCell']
instance:u3 UInt8 where
 size:=1
 agg:=false
 rep _ x cs:=cs = [u8 x]
 len h:=by simp [h]
 mono _ h:=h
 one _:=rfl
 flat h:=by simp [h,a0W,u8,Value.oneCell']
instance:u3 UInt32 where
 size:=1
 agg:=false
 rep _ x cs:=cs = [u32 x]
 len h:=by simp [h]
 mono _ h:=h
 one _:=rfl
 flat h:=by simp [h,a0W,u32,Value.oneCell']
instance:u3 UInt64 where
 size:=1
 agg:=false
 rep _ x cs:=cs = [u64 x]
 len h:=by simp [h]
 mono _ h:=h
 one _:=rfl
 flat h:=by simp [h,a0W,u64,Value.oneCell']
instance:u3 Bool where
 size:=1
 agg:=false
 rep _ x cs:=cs = [.bool x]
 len h:=by simp [h]
 mono _ h:=h
 one _:=rfl
 flat h:=by simp [h,a0W,Value.oneCell']
structure Str where
 l:List UInt8
instance:Inhabited Str:=⟨⟨[]⟩⟩
instance:DecidableEq Str:=fun a b=>if h:a.l=b.l then isTrue (by cases a;cases b;cases h;rfl) else isFalse (fun e=>h (by rw [e]))
instance:u3 Str where
 size:=1
 agg:=false
 rep _ x cs:=(∃ b:ByteArray,cs = [.string b]∧b.data.toList=x.l)∧x.l.length≤9223372036854775807
 len h:=by obtain⟨⟨b,h,_⟩,_⟩:=h;simp [h]
 mono _ h:=h
 one _:=rfl
 flat h:=by obtain⟨⟨b,h,_⟩,_⟩:=h;simp [h,a0W,Value.oneCell']
instance {α:Type}[u3 α]:u3 (List α) where
 size:=1
 agg:=false
 rep I x cs:=∃ v,cs = [v]∧SlA I v x
 len h:=by obtain⟨v,h,_⟩:=h;simp [h]
 mono hle h:=by obtain⟨v,h,xs,h1,h2⟩:=h;exact⟨v,h,xs,h1.mono hle,h2.mono hle⟩
 one _:=rfl
 flat h:=by
  obtain⟨v,h,xs,h1,_⟩:=h
  obtain⟨a,c,rfl,_⟩:=h1
  simp [h,a0W,Value.oneCell']
instance:u3 Unit where
 size:=0
 agg:=true
 rep _ _ cs:=cs = []
 len h:=by simp [h]
 mono _ h:=h
 one h:=by cases h
 flat h:=by simp [h,a0W]
instance {α β:Type}[u3 α][u3 β]:u3 (α×β) where
 size:=u3.size α+u3.size β
 agg:=true
 rep I x cs:=∃ c r,cs=c++r∧rep I x.1 c∧rep I x.2 r
 len h:=by obtain⟨c,r,rfl,h1,h2⟩:=h;simp [u3.len h1,u3.len h2]
 mono hle h:=by obtain⟨c,r,e,h1,h2⟩:=h;exact⟨c,r,e,u3.mono hle h1,u3.mono hle h2⟩
 one h:=by cases h
 flat h:=by obtain⟨c,r,rfl,h1,h2⟩:=h;exact a8z (u3.flat h1) (u3.flat h2)
@[reducible] def u3.via {S T:Type}[u3 T](f:S→T):u3 S where
 size:=u3.size T
 agg:=true
 rep I x cs:=u3.rep I (f x) cs
 len h:=u3.len h
 mono hle h:=u3.mono hle h
 one h:=by cases h
 flat h:=u3.flat h
theorem b3Y {cs:List Value}{n:Nat}(h:cs.length=n):K5 cs 0 n=cs:=by subst h;exact a9N cs
def j9.id {α:Type}[u3 α]:j9 α α where
 off:=0
 get x:=x
 set y _:=y
 fits:=by simp
 a5W h:=by rw [b3Y (u3.len h)];exact h
 a7W h k:=by rw [a9O _ _ (by rw [u3.len h,u3.len k])];exact k
def j9.fst {α β:Type}[u3 α][u3 β]:j9 (α×β) α where
 off:=0
 get x:=x.1
 set y x:=(y,x.2)
 fits:=by simp [u3.size]
 a5W h:=by
  obtain⟨c,r,rfl,h1,h2⟩:=h
  have:K5 (c++r) 0 (u3.size α)=c:=by rw [K5,←u3.len h1];simp
  rw [this];exact h1
 a7W h k:=by
  obtain⟨c,r,rfl,h1,h2⟩:=h
  refine⟨_,r,?_,k,h2⟩
  rw [G1,Nat.zero_add,u3.len k,←u3.len h1];simp
def j9.snd {α β:Type}[u3 α][u3 β]:j9 (α×β) β where
 off:=u3.size α
 get x:=x.2
 set y x:=(x.1,y)
 fits:=by simp [u3.size]
 a5W h:=by
  obtain⟨c,r,rfl,h1,h2⟩:=h
  have:K5 (c++r) (u3.size α) (u3.size β)=r:=by rw [K5,←u3.len h1,←u3.len h2];simp
  rw [this];exact h2
 a7W h k:=by
  obtain⟨c,r,rfl,h1,h2⟩:=h
  refine⟨c,_,?_,h1,k⟩
  rw [G1,u3.len k,←u3.len h1,←u3.len h2]
  simp
theorem a57 {cs:List Value}{o n p m:Nat}(h:p+m≤n):K5 (K5 cs o n) p m=K5 cs (o+p) m:=by
 simp only [K5,List.drop_take,List.take_take,List.drop_drop]
 congr 1;omega
theorem a3E {cs vs:List Value}{o n p:Nat}(h:p+vs.length≤n)(hn:o+n≤cs.length):G1 cs o (G1 (K5 cs o n) p vs)=G1 cs (o+p) vs:=by
 have hl:(K5 cs o n).length=n:=by simp [K5];omega
 have hll:(G1 (K5 cs o n) p vs).length=n:=by rw [K7 _ _ _ (by omega),hl]
 apply List.ext_getElem?
 intro i
 rw [a0v (cs:=cs) (o:=o) (by omega),a0v (cs:=cs) (o:=o+p) (by omega),hll]
 by_cases h1:i < o
 ·rw [if_pos h1,if_pos (by omega)]
 ·rw [if_neg h1]
  by_cases h2:i < o+n
  ·rw [if_pos h2,a0v (by omega)]
   have hg:∀ j,j < n→(K5 cs o n)[j]?=cs[o+j]?:=fun j hj=>by simp [K5,hj]
   by_cases h3:i - o < p
   ·rw [if_pos h3,if_pos (by omega),hg _ (by omega)];congr 1;omega
   ·rw [if_neg h3,if_neg (show ¬i < o+p by omega)]
    by_cases h4:i - o < p+vs.length
    ·rw [if_pos h4,if_pos (by omega)];congr 1;omega
    ·rw [if_neg h4,if_neg (by omega),hg _ (by omega)];congr 1;omega
  ·rw [if_neg h2,if_neg (by omega),if_neg (by omega)]
def j9.comp {α β γ:Type}[u3 α][u3 β][u3 γ](l:j9 α β)(m:j9 β γ):j9 α γ where
 off:=l.off+m.off
 get x:=m.get (l.get x)
 set y x:=l.set (m.set y (l.get x)) x
 fits:=by have:=l.fits;have:=m.fits;omega
 a5W h:=by
  have:=m.a5W (l.a5W h)
  rwa [a57 m.fits] at this
 a7W h k:=by
  have h1:=l.a5W h
  have h2:=l.a7W h (m.a7W h1 k)
  have hf:=l.fits
  have hm:=m.fits
  rw [a3E (by rw [u3.len k];exact m.fits) (by rw [u3.len h];exact hf)] at h2
  exact h2
def j9.idx {n:Nat}{α:Type}[u3 α](k:Nat)(hk:k < n):j9 (M4 n α) α where
 off:=k*u3.size α
 get x:=x.l[k]'(by rw [x.h];exact hk)
 set y x:=⟨x.l.set k y,by simp [x.h]⟩
 fits:=by
  have:=Nat.mul_le_mul_right (u3.size α) (Nat.succ_le_of_lt hk)
  simp only [u3.size,Nat.succ_mul] at *;exact this
 a5W {_ x _} h:=P2.get h k (by rw [x.h];exact hk)
 a7W {_ x _ _ _} h y:=P2.set h k (by rw [x.h];exact hk) y
def j9.via {S T β:Type}[r:u3 T][u3 β](f:S→T)(m:j9 T β)(get:S→β)(set:β→S→S)(hg:∀ x,get x=m.get (f x))(hs:∀ y x,f (set y x)=m.set y (f x)) : @j9 S β (u3.via f) _ :=
  letI:u3 S:=u3.via f
  { off := m.off, get := get, set := set, fits := m.fits, a5W := fun {_ x _} h => by rw [hg]; exact m.a5W h, a7W := fun {_ x _ y _} h k => by
      have:=m.a7W h k
      rw [←hs] at this;exact this }
end Go.Ab
namespace Go.Ab
open Go.Fl Go.RowKit
open u3 (rep)
def a0Q (e:TypeId)(s:Nat)(v:Value)(n:Nat)(xs:List Value)(X:List (Nat×Obj)):Prop :=
 ((∃ a,v = .slice a 0 0)∧n=0∧xs = []∧X = []) ∨
 ∃ b c sp q,v=slc b 0 n c∧X = [(b,.cells (xs++sp).toArray e q)]∧xs.length=n*s∧(xs++sp).length=c*s∧n≤c∧c≤maxLen∧(q=(0,0)∨q=((xs++sp).length,(xs++sp).length+1))
theorem a0Q.nil (e:TypeId)(s:Nat):a0Q e s (.slice none 0 0) 0 [] [] := .inl ⟨⟨none,rfl⟩,rfl,rfl,rfl⟩
theorem a0Q.empty (e:TypeId)(s:Nat)(a:Option Addr):a0Q e s (.slice a 0 0) 0 [] [] := .inl ⟨⟨a,rfl⟩,rfl,rfl,rfl⟩
theorem Sl.empty (I:Im)(s:Nat)(a:Option Addr):Sl I s (.slice a 0 0) 0 []:=⟨a,0,rfl,by simp,Nat.le_refl _,by simp [maxLen],fun _=>rfl,fun h=>absurd rfl h⟩
theorem a0Q.of {e:TypeId}{s n:Nat}{v:Value}{xs:List Value}{X:List (Nat×Obj)}(h:Own e s v n xs X):a0Q e s v n xs X:=by
 rcases h with ⟨h1,h2⟩|⟨b,c,sp,h1,h2,h3,h4,h5,h6⟩
 ·exact .inl ⟨⟨none,h1⟩,h2⟩
 ·exact .inr ⟨b,c,sp,(0,0),h1,h2,h3,h4,h5,h6,.inl j0⟩
theorem a0Q.shape {e:TypeId}{s n:Nat}{v:Value}{xs:List Value}{X:List (Nat×Obj)}(h:a0Q e s v n xs X):∃ a c,v = .slice a n c:=by
 rcases h with ⟨⟨a,rfl⟩,rfl,_⟩|⟨b,c,sp,q,rfl,_⟩
 ·exact⟨_,_,j0⟩
 ·exact⟨_,_,j0⟩
theorem a0Q.len {e:TypeId}{s n:Nat}{v:Value}{xs:List Value}{X:List (Nat×Obj)}(h:a0Q e s v n xs X):xs.length=n*s:=by
 rcases h with ⟨_,rfl,rfl,_⟩|⟨b,c,sp,q,_,_,h,_⟩
 ·simp
 ·exact h
theorem a0Q.le {e:TypeId}{s n:Nat}{v:Value}{xs:List Value}{X:List (Nat×Obj)}(h:a0Q e s v n xs X):n≤9223372036854775807:=by
 rcases h with ⟨_,rfl,rfl,_⟩|⟨b,c,sp,q,_,_,_,_,h1,h2,_⟩
 ·simp
 ·unfold maxLen at h2;omega
theorem a0Q.sl {e:TypeId}{s n:Nat}{v:Value}{xs:List Value}{X:List (Nat×Obj)}(h:a0Q e s v n xs X){J:Im}(hJ:∀ p∈X,J p.1=some p.2):Sl J s v n xs:=by
 rcases h with ⟨⟨a,rfl⟩,rfl,rfl,rfl⟩|⟨b,c,sp,q,rfl,rfl,h3,h4,h5,h6,_⟩
 ·exact Sl.empty J s a
 ·refine Sl.a3T ⟨_,_,_,hJ _ (List.mem_singleton.2 rfl),fun i v hv => ?_⟩ h3 h5 h6
  have hi:=(List.getElem?_eq_some_iff.1 hv).1
  simp only [Nat.zero_add,List.getElem?_toArray]
  rw [List.getElem?_append_left hi];exact hv
theorem W8 (P:Program)(g o:Nat)(t:TypeId)(q:Nat×Nat):∀ (vs:List Value) (i:Nat) (cur:Array Value) (w:World),w.heap[g]?=some (.cells cur t q)→o+i+vs.length≤cur.size→(∀ v∈vs,v.oneCell'=true) →
    (∀ j,j < cur.size→¬(q.1≤j∧j < q.2))→(storeCells ⟨g,o,none⟩ vs i).run P w = .ok () (w.setRow g (cur.toList.take (o+i)++vs++cur.toList.drop (o+i+vs.length)).toArray)
  | [],i,cur,w,hg,_,_,_=>by
    simp only [storeCells,List.append_nil,List.length_nil,Nat.add_zero,List.take_append_drop,Array.toArray_toList]
    rw [setRow_self w g cur t q hg]
    rfl
  | v::rest,i,cur,w,hg,hl,h1,hq=>by
    have hi:o+i < cur.size:=by simp at hl;omega
    have hadd:(⟨g,o,none⟩:Addr).add i=⟨g,o+i,none⟩:=by unfold Addr.add;split<;>simp_all
    have hcell:w.cell? ⟨g,o+i,none⟩=some cur[o+i]:=by simp [World.cell?,hg,hi]
    have hfro:w.frozen? ⟨g,o+i,none⟩=false:=by
      have:=hq (o+i) hi
      simp only [World.frozen?,hg]
      simp only [Bool.and_eq_false_iff,decide_eq_false_iff_not]
      omega
    have hst:(store ((⟨g,o,none⟩:Addr).add i) v).run P w = .ok () (w.setRow g (cur.setIfInBounds (o+i) v)):=by
      rw [hadd,run_store P w _ v _ (h1 v (by simp)),hcell]
      simp [hfro,setCell_eq_setRow w g (o+i) cur t q v hg]
    have ih:=W8 P g o t q rest (i+1) (cur.setIfInBounds (o+i) v) (w.setRow g (cur.setIfInBounds (o+i) v)) (setRow_heap w g cur _ t _ hg) (by simp at hl ⊢;omega) (fun x hx=>h1 x (by simp [hx])) (by simpa using hq)
    simp only [storeCells,Sem.run_bind,hst,Result.andThen_ok,ih,setRow_setRow]
    congr 3
    have e:=list_seg_step cur.toList (o+i) v rest (by simp at hl ⊢;omega)
    simpa [Array.toList_setIfInBounds,Nat.add_assoc] using e
theorem a9r {C:Ctx}{I:Im}{L:Lh}{w:World}(hs:St C I L w){i b:Nat}{cs:List Value}{e:TypeId}{q:Nat×Nat}(hL:L[i]?=some [(b,.cells cs.toArray e q)])(cs':List Value):St C I (L.set i [(b,.cells cs'.toArray e q)]) (w.setRow b cs'.toArray):=by
 have hb:=hs.mem.loc (b,.cells cs.toArray e q) (G3 hL (by simp))
 exact hs.write hL (setRow_heap w b _ _ e q hb) (fun k hk=>setRow_other w b k _ hk) (by simp) rfl rfl rfl
section
variable {P:Program}{C:Ctx}{N:Nat}{ρ:Env}{I:Im}{L:Lh}{K:Value→Im→Lh→Prop}{d:Option Nat}{ty:TypeId}{ps:String}{af:Array Edge}{g:Option (Nat×Bool)}
variable {x y z:Operand}{T T2 E:TypeId}
theorem a8A {w:World}(hm:Mem I L w){i b:Nat}{cs:List Value}{e:TypeId}{q:Nat×Nat}(hL:L[i]?=some [(b,.cells cs.toArray e q)])(o:Nat):w.cell? ⟨b,o,none⟩=cs[o]?:=by
 have:=hm.loc (b,.cells cs.toArray e q) (G3 hL (by simp))
 rw [cell_of this]
 simp
theorem Src.c9q {s m:Nat}{v:Value}{news:List Value}{X:List (Nat×Obj)}{e:TypeId}(i:Nat)(hL:L[i]?=some X)(h:a0Q e s v m news X):Src P I L s v m news:=by
 rcases h with ⟨⟨a,rfl⟩,rfl,rfl,rfl⟩|⟨b,c,sp,q,rfl,rfl,h1,h2,h3,h4,h5⟩
 ·exact Src.sl (Sl.empty I s a)
 ·refine⟨fun w=>by simp [Builtin.lenOf],fun w hm k hk => ?_,h1⟩
  have hle:k*s≤m*s:=Nat.mul_le_mul_right _ hk
  have htl:(news.take (k*s)).length=k*s:=by rw [List.length_take,h1];exact Nat.min_eq_left hle
  have:=run_loadCells_list (P:=P) w ⟨b,0,none⟩ (news.take (k*s)) (fun j u hj=>by
   rw [List.getElem?_take] at hj
   split at hj
   ·rw [Addr.add_plain,a8A hm hL,Nat.zero_add,List.getElem?_append_left (List.getElem?_eq_some_iff.1 hj).1];exact hj
   ·cases hj)
  rw [htl] at this
  simp only [Builtin.firstCells,this]
theorem OpS.b2D (i:Nat){n m:Nat}{a0:Option Addr}{c:Nat}{u:Value}{xs news:List Value}{X:List (Nat×Obj)}{U:TypeId}{inf:TypeInfo}{zv:Value}(hzs:zv.cells.size=inf.size){a:Act}{w:World}
    (hxe:ev ρ x=some (.slice a0 n c))(hye:ev ρ y=some u)(ha:Fits N ρ a)(hst:St C I L w)(hL:L[i]?=some X)(hown:a0Q E inf.size (.slice a0 n c) n xs X)(hnl:news.length=m*inf.size)(h1:a0W news=true)
    (hn63:n+m≤maxLen)
    (hboth:(n+m≤c→(Builtin.append_ #[T,U] ty #[.slice a0 n c,u]).run P w=((match a0 with|some ad=>storeCells (ad.add (n*inf.size)) news|none=>pure ()).run P w).andThen fun _ w' => .ok (.slice a0 (n+m) c) w') ∧
    (c < n+m→∀ olds,((Builtin.firstCells inf.size n (.slice a0 n c)).run P w.drew = .ok olds w.drew) →
      (Builtin.append_ #[T,U] ty #[.slice a0 n c,u]).run P w = .ok (.slice (some ⟨w.heap.size,0,none⟩) (n+m) (grownCap w (n+m) c E))
        (w.drew.alloc (.cells (olds++news.toArray++Builtin.zeroCells zv.cells (grownCap w (n+m) c E - (n+m))) E))))
    (k:∀ v' X',a0Q E inf.size v' (n+m) (xs++news) X'→(∀ p∈X',p.1∈X.map Prod.fst∨C.w0.heap.size≤p.1)→K v' I (L.set i X')) :
    Yld P ((execOp a.eval ⟨d,.call ⟨.builtin .append,#[x,y],#[T,U]⟩,ty,ps,af,g⟩).run P w) fun v w'=>∃ J L',St C J L' w'∧K v J L':=by
  have hmem:∀ w',w'.heap=w.heap→Mem I L w':=fun w' hw=>⟨by rw [hw];exact hst.mem.im,by rw [hw];exact hst.mem.loc,hst.mem.sep,hst.mem.nodup⟩
  have hop:∀ r,(Builtin.append_ #[T,U] ty #[.slice a0 n c,u]).run P w=r→(execOp a.eval ⟨d,.call ⟨.builtin .append,#[x,y],#[T,U]⟩,ty,ps,af,g⟩).run P w=r.andThen fun v w' => .ok (.value v) w':=fun r hr=>by
    simp [execOp,resolve,invoke,builtin,ha.ev hxe,ha.ev hye,hr]
  have hxl:=hown.len
  by_cases hroom:n+m≤c
  · have hr:=hboth.1 hroom
    rcases hown with ⟨⟨a1,hv⟩,rfl,rfl,rfl⟩|⟨b,c',sp,q,hv,rfl,h2,h3,h4,h5,h6⟩
    · cases hv
      have hm0:m=0:=by omega
      subst hm0
      have hn0:news = []:=List.eq_nil_of_length_eq_zero (by simpa using hnl)
      subst hn0
      have hr2:(Builtin.append_ #[T,U] ty #[.slice a0 0 0,u]).run P w = .ok (.slice a0 0 0) w:=by
        rw [hr];cases a0<;>rfl
      rw [hop _ hr2]
      refine⟨I,L.set i [],?_,k _ _ (by simpa using a0Q.empty E inf.size a0) (by simp)⟩
      exact hst.b6e i
    · cases hv
      rw [hop _ hr]
      have hbh:=hst.mem.loc (b,.cells (xs++sp).toArray E q) (G3 hL (by simp))
      have hfit:n*inf.size+news.length≤(xs++sp).length:=by rw [hnl,h3,←Nat.add_mul];exact Nat.mul_le_mul_right _ hroom
      have hall:∀ u∈news,u.oneCell'=true:=fun u hu=>List.all_eq_true.1 h1 u hu
      have hst2:=W8 P b (n*inf.size) E q news 0 (xs++sp).toArray w hbh (by simpa using hfit) hall (fun j hj=>by rcases h6 with rfl|rfl<;>simp at hj ⊢ <;> omega)
      simp only [Nat.add_zero] at hst2
      have hseg:List.take (n*inf.size) (xs++sp)++news++List.drop (n*inf.size+news.length) (xs++sp)=(xs++news)++sp.drop news.length:=by
        rw [←h2,List.take_left,List.drop_append]
        simp
      simp only [Addr.add_plain,Nat.zero_add,hst2,Result.andThen_ok]
      refine⟨I,L.set i [(b,.cells ((xs++news)++sp.drop news.length).toArray E q)],?_,k _ _ (.inr ⟨b,c,sp.drop news.length,q,j0,j0,?_,?_,hroom,h5,?_⟩) (by simp)⟩
      · rw [hseg];exact a9r hst hL _
      · rw [List.length_append,h2,hnl,Nat.add_mul]
      · have:(xs++sp).length=n*inf.size+sp.length:=by rw [List.length_append,h2]
        simp only [List.length_append,List.length_drop]
        rw [h3] at this hfit
        omega
      · have hle:news.length≤sp.length:=by rw [List.length_append,h2] at hfit;omega
        have e:((xs++news)++sp.drop news.length).length=(xs++sp).length:=by simp;omega
        rw [e];exact h6
  · have hlt:c < n+m:=by omega
    have hold:(Builtin.firstCells inf.size n (.slice a0 n c)).run P w.drew = .ok xs.toArray w.drew:=by
      have:=(Src.c9q (P:=P) (I:=I) i hL hown).cells w.drew (hmem w.drew rfl) n (Nat.le_refl _)
      rwa [←hxl,List.take_length] at this
    have hr:=hboth.2 hlt _ hold
    rw [hop _ hr]
    have hge:=grownCap_ge w (n+m) c E
    have hcm:grownCap w (n+m) c E≤maxLen:=grownCap_le_maxLen w (n+m) c E hn63
    refine⟨I,_,hst.replace hL j0 j0 j0 j0,k _ _ (.inr ⟨w.heap.size,_,(Builtin.zeroCells zv.cells (grownCap w (n+m) c E - (n+m))).toList,(0,0),j0,?_,?_,?_,hge,hcm,.inl j0⟩) (fun p hp => .inr (by simp only [List.mem_singleton] at hp;subst hp;exact hst.W4.size))⟩
    · have hz2:xs.toArray++news.toArray++Builtin.zeroCells zv.cells (grownCap w (n+m) c E - (n+m))=(xs++news++(Builtin.zeroCells zv.cells (grownCap w (n+m) c E - (n+m))).toList).toArray:=by
        apply Array.ext'
        simp
      rw [hz2]
    · rw [List.length_append,hxl,hnl,Nat.add_mul]
    · simp only [List.length_append,Array.length_toList,size_zeroCells,hzs,hxl,hnl,←Nat.add_mul]
      congr 1
      omega
theorem OpS.b2E (i:Nat){s by_ n m:Nat}{v u:Value}{xs news:List Value}{X:List (Nat×Obj)}{U:TypeId}(he:Elt P T E s by_)(hs0:0 < s)(hU:(∃ E2,P.underlying U=some (.slice E2))∨P.underlying U=some .string)
    (hx:ev ρ x=some v)(hy:ev ρ y=some u)(hL:L[i]?=some X)(hown:a0Q E s v n xs X)(hsrc:Src P I L s u m news)(h1:a0W news=true)
    (hn63:n+m≤maxLen)(hb:(n+m)*by_≤140737488355328)(k:∀ v' X',a0Q E s v' (n+m) (xs++news) X'→(∀ p∈X',p.1∈X.map Prod.fst∨C.w0.heap.size≤p.1)→K v' I (L.set i X')) :
    OpS P C N ⟨d,.call ⟨.builtin .append,#[x,y],#[T,U]⟩,ty,ps,af,g⟩ ρ I L K:=fun a w ha hst=>by
  obtain⟨inf,zv,hi,hz,rfl,rfl,hzs⟩:=he.info
  have hmem:∀ w',w'.heap=w.heap→Mem I L w':=fun w' hw=>⟨by rw [hw];exact hst.mem.im,by rw [hw];exact hst.mem.loc,hst.mem.sep,hst.mem.nodup⟩
  have hcells:∀ w',w'.heap=w.heap→(Builtin.firstCells inf.size m u).run P w' = .ok news.toArray w':=fun w' hw=>by
    have:=hsrc.cells w' (hmem w' hw) m (Nat.le_refl _)
    rwa [←hsrc.size,List.take_length] at this
  have h63:n+m≤9223372036854775807:=by unfold maxLen at hn63;omega
  obtain⟨a0,c,rfl⟩:=hown.shape
  have hboth:(n+m≤c→(Builtin.append_ #[T,U] ty #[.slice a0 n c,u]).run P w=((match a0 with|some ad=>storeCells (ad.add (n*inf.size)) news|none=>pure ()).run P w).andThen fun _ w' => .ok (.slice a0 (n+m) c) w') ∧
    (c < n+m→∀ olds,((Builtin.firstCells inf.size n (.slice a0 n c)).run P w.drew = .ok olds w.drew) →
      (Builtin.append_ #[T,U] ty #[.slice a0 n c,u]).run P w = .ok (.slice (some ⟨w.heap.size,0,none⟩) (n+m) (grownCap w (n+m) c E))
        (w.drew.alloc (.cells (olds++news.toArray++Builtin.zeroCells zv.cells (grownCap w (n+m) c E - (n+m))) E))):=by
    rcases hU with ⟨E2,hU⟩|hU
    · exact a2e he.und hi hz hU hsrc.len hcells h63 hb
    · exact a1w he.und hi hz hU hsrc.len hcells h63 hb
  exact b2D i hzs hx hy ha hst hL hown hsrc.size h1 hn63 hboth k
end
end Go.Ab
namespace Go.Ab
open Go.Fl Go.RowKit
open u3 (rep)
abbrev o8:=List (Nat×AV)
def F6:o8→Nat→Option AV
 | [],_=>none
 | (s,v)::r,t=>bif Nat.beq s t then some v else F6 r t
theorem G7 (s:Nat)(v:AV)(ρ:o8)(t:Nat):F6 ((s,v)::ρ) t=if s=t then some v else F6 ρ t:=by
 by_cases h:s=t
 ·subst h;simp [F6]
 ·simp [F6,h,a6l h]
class UB (α:Type) where
 ub:Im→Value→α→List (Nat×Obj)→Prop
 mono:∀ {I J w x X},Le I J→ub I w x X→ub J w x X
inductive C3:Type 1 where
 | ob {α:Type} [r:u3 α] (w:Value) (x:α)
 | own {α:Type} [r:u3 α] (E:TypeId) (w:Value) (l:List α)
 | fz (w:Value) (a:AV)
 | P4 {α:Type} [r:UB α] (w:Value) (x:α)
 | none_
def C3.a0H (I:Im):C3→List (Nat×Obj)→Prop
 | @C3.ob α r w x,X=>∃ b T cs,w=ptr b 0∧X = [(b,row cs T)] ∧ @u3.rep α r I x cs
 | @C3.own α r E w l,X=>∃ xs,a0Q E (@u3.size α r) w l.length xs X ∧ @P2 α r I l xs
 | .fz w a,X=>X = []∧F9 I a w
 | @C3.P4 α r w x,X=>r.ub I w x X
 | .none_,_=>True
theorem C3.mono {I J:Im}(hle:Le I J):∀ {B:C3} {X:List (Nat×Obj)},B.a0H I X→B.a0H J X
 | @C3.ob α r w x,_,h=>by obtain⟨b,T,cs,h1,h2,h3⟩:=h;exact⟨b,T,cs,h1,h2,@u3.mono α r _ _ _ _ hle h3⟩
 | @C3.own α r E w l,_,h=>by obtain⟨xs,h1,h2⟩:=h;exact⟨xs,h1,h2.mono hle⟩
 | .fz w a,_,h=>⟨h.1,h.2.mono hle⟩
 | @C3.P4 α r w x,_,h=>r.mono hle h
 | .none_,_,_=>trivial
abbrev j8:=List (Bool×C3)
def b6p (n0:Nat)(I:Im)(B:Bool×C3)(X:List (Nat×Obj)):Prop:=B.2.a0H I X∧(B.1=true→∀ p∈X,n0≤p.1)
def T4 (n0:Nat)(I:Im):j8→Lh→Prop
 | [],L=>L = []
 | B::H,L=>∃ X R,L=X::R∧b6p n0 I B X∧T4 n0 I H R
theorem b6p.mono {n0:Nat}{I J:Im}(hle:Le I J){B:Bool×C3}{X:List (Nat×Obj)}(h:b6p n0 I B X):b6p n0 J B X:=⟨C3.mono hle h.1,h.2⟩
theorem T4.mono {n0:Nat}{I J:Im}(hle:Le I J):∀ {H:j8} {L:Lh},T4 n0 I H L→T4 n0 J H L
 | [],_,h=>h
 | B::H,_,h=>by obtain⟨X,R,h1,h2,h3⟩:=h;exact⟨X,R,h1,h2.mono hle,h3.mono hle⟩
theorem T4.append {n0:Nat}{I:Im}:∀ {H K:j8} {L M:Lh},T4 n0 I H L→T4 n0 I K M→T4 n0 I (H++K) (L++M)
 | [],_,_,_,h,k=>by simp [T4] at h;simpa [h] using k
 | B::H,_,_,_,h,k=>by obtain⟨X,R,rfl,h2,h3⟩:=h;exact⟨X,R++_,rfl,h2,h3.append k⟩
structure RSt (C:Ctx)(I:Im)(L:Lh)(σ:o8)(H:j8)(ρ:Env):Prop where
 env:∀ t a,F6 σ t=some a→∃ u,Fl.look ρ t=some u∧F9 I a u
 heap:T4 C.w0.heap.size I H L
 U9:Le C.I0 I
theorem RSt.mono {C:Ctx}{I J:Im}{L:Lh}{σ:o8}{H:j8}{ρ:Env}(hle:Le I J)(h:RSt C I L σ H ρ):RSt C J L σ H ρ :=
 ⟨fun t a ht=>by obtain⟨u,h1,h2⟩:=h.env t a ht;exact⟨u,h1,h2.mono hle⟩,h.heap.mono hle,h.U9.trans hle⟩
theorem RSt.put {C:Ctx}{I J:Im}{L L':Lh}{σ:o8}{H H':j8}{ρ:Env}(hle:Le I J)(h:RSt C I L σ H ρ){d:Nat}{r:AV}{v:Value}(hv:F9 J r v)(hH:T4 C.w0.heap.size J H' L') :
    RSt C J L' ((d,r)::σ) H' ((d,v)::ρ):=by
  refine⟨fun t a ht => ?_,hH,h.U9.trans hle⟩
  rw [G7] at ht
  rw [Fl.R6]
  by_cases e:d=t
  · rw [if_pos e] at ht ⊢;cases ht;exact⟨v,rfl,hv⟩
  · rw [if_neg e] at ht ⊢
    obtain⟨u,h1,h2⟩:=h.env t a ht
    exact⟨u,h1,h2.mono hle⟩
def a3X (σ' σ:o8):Prop:=∀ t a,F6 σ' t=some a→F6 σ t=some a
theorem a3X.nil (σ:o8):a3X [] σ:=fun _ _ h=>by simp [F6] at h
theorem a3X.cons {σ' σ:o8}{t:Nat}{a:AV}(h:F6 σ t=some a)(k:a3X σ' σ):a3X ((t,a)::σ') σ:=fun s b hb=>by
 rw [G7] at hb
 by_cases e:t=s
 ·subst e;simp at hb;subst hb;exact h
 ·rw [if_neg e] at hb;exact k s b hb
theorem RSt.sub {C:Ctx}{I:Im}{L:Lh}{σ σ':o8}{H:j8}{ρ:Env}(h:RSt C I L σ H ρ)(k:a3X σ' σ):RSt C I L σ' H ρ:=⟨fun t a ht=>h.env t a (k t a ht),h.heap,h.U9⟩
def qA (C:Ctx)(Q:Exit→o8→j8→Prop):Exit→Env→Im→Lh→Prop:=fun e ρ I L=>∃ σ H,RSt C I L σ H ρ∧Q e σ H
def wpA (P:Program)(C:Ctx)(N:Nat)(c:Code)(Q:Exit→o8→j8→Prop)(σ:o8)(H:j8):Prop :=
 ∀ ρ I L,RSt C I L σ H ρ→wpS P C N c (qA C Q) ρ I L
def wpB (P:Program)(C:Ctx)(N:Nat)(ops:Array Oper)(Q:Exit→o8→j8→Prop)(l:List Oper)(σ:o8)(H:j8):Prop :=
 ∀ ρ I L,RSt C I L σ H ρ→wpL P C N ops (qA C Q) l ρ I L
def G5 (C:Ctx)(σ:o8)(H:j8)(x:Operand)(a:AV):Prop:=∀ ρ I L,RSt C I L σ H ρ→∃ u,ev ρ x=some u∧F9 I a u
section evA
variable {C:Ctx}{σ:o8}{H:j8}
theorem G5.t {t:Nat}{a:AV}(h:F6 σ t=some a):G5 C σ H (.tmp t) a:=fun ρ I L hs=>hs.env t a h
theorem G5.i {n:Int}(h:(decide (-9223372036854775808≤n)&&decide (n≤9223372036854775807))=true):G5 C σ H (.const (.int .i64 n)) (.v n):=fun ρ I L hs=>by
 simp only [Bool.and_eq_true,decide_eq_true_eq] at h
 exact⟨_,j0,_,⟨j0,h.1,h.2⟩,j0⟩
theorem G5.u8 (x:UInt8){m:Int}(h:m=(x.toNat:Int)):G5 C σ H (.const (.int .u8 m)) (.v x):=fun ρ I L hs=>⟨_,rfl,_,rfl,by rw [h];rfl⟩
theorem G5.u64 (x:UInt64){m:Int}(h:m=(x.toNat:Int)):G5 C σ H (.const (.int .u64 m)) (.v x):=fun ρ I L hs=>⟨_,rfl,_,rfl,by rw [h];rfl⟩
theorem G5.b {x:Bool}:G5 C σ H (.const (.bool x)) (.v x):=fun ρ I L hs=>⟨_,rfl,_,rfl,rfl⟩
theorem G5.s {x:ByteArray}(l:List UInt8)(h:x.data.toList=l)(hl:l.length≤9223372036854775807):G5 C σ H (.const (.string x)) (.v (Str.mk l)):=fun ρ I L hs=>⟨_,rfl,_,⟨⟨x,rfl,h⟩,hl⟩,rfl⟩
theorem G5.b1h {α:Type}[u3 α]:G5 C σ H (.const (.slice none 0 0)) (.v ([]:List α)):=fun ρ I L hs=>⟨_,rfl,_,⟨_,rfl,[],Sl.nil I _,rfl⟩,rfl⟩
theorem G5.raw {u:Value}:G5 C σ H (.const u) (.raw u):=fun ρ I L hs=>⟨_,rfl,rfl⟩
theorem G5.c {α:Type}{r:u3 α}{t:Nat}{l:List α}(h:F6 σ t=some (.vc l)):G5 C σ H (.tmp t) (.v l):=fun ρ I L hs=>by
 obtain⟨u,h1,h2,h3⟩:=hs.env t _ h
 exact⟨u,h1,[u],⟨u,j0,h3⟩,j0⟩
theorem G5.o {t:Nat}{a:AV}{c:Bool}(h:F6 σ t=some (.opt c a))(hc:c=true):G5 C σ H (.tmp t) a:=fun ρ I L hs=>by
 obtain⟨u,h1,h2⟩:=hs.env t _ h
 exact⟨u,h1,h2 hc⟩
theorem G5.int {x:Operand}{n:Int}(h:G5 C σ H x (.v n)){ρ:Env}{I:Im}{L:Lh}(hs:RSt C I L σ H ρ):ev ρ x=some (i64 n) ∧ -9223372036854775808≤n∧n≤9223372036854775807:=by
 obtain⟨u,h1,cs,⟨rfl,h2⟩,rfl⟩:=h ρ I L hs
 exact⟨h1,h2⟩
theorem G5.bool {x:Operand}{b:Bool}(h:G5 C σ H x (.v b)){ρ:Env}{I:Im}{L:Lh}(hs:RSt C I L σ H ρ):ev ρ x=some (.bool b):=by
 obtain⟨u,h1,cs,rfl,rfl⟩:=h ρ I L hs
 exact h1
theorem G5.by8 {x:Operand}{n:UInt8}(h:G5 C σ H x (.v n)){ρ:Env}{I:Im}{L:Lh}(hs:RSt C I L σ H ρ):ev ρ x=some (Fl.u8 n):=by
 obtain⟨u,h1,cs,rfl,rfl⟩:=h ρ I L hs
 exact h1
theorem G5.a4i {x:Operand}{n:UInt64}(h:G5 C σ H x (.v n)){ρ:Env}{I:Im}{L:Lh}(hs:RSt C I L σ H ρ):ev ρ x=some (Fl.u64 n):=by
 obtain⟨u,h1,cs,rfl,rfl⟩:=h ρ I L hs
 exact h1
theorem G5.str {x:Operand}{s:Str}(h:G5 C σ H x (.v s)){ρ:Env}{I:Im}{L:Lh}(hs:RSt C I L σ H ρ):∃ b,ev ρ x=some (.string b)∧b.data.toList=s.l:=by
 obtain⟨u,h1,cs,⟨⟨b,rfl,h2⟩,_⟩,rfl⟩:=h ρ I L hs
 exact⟨b,h1,h2⟩
theorem G5.b1E {x:Operand}{s:Str}(h:G5 C σ H x (.v s)){ρ:Env}{I:Im}{L:Lh}(hs:RSt C I L σ H ρ):s.l.length≤9223372036854775807:=by
 obtain⟨u,h1,cs,⟨_,h2⟩,rfl⟩:=h ρ I L hs
 exact h2
theorem G5.sl {α:Type}{r:u3 α}{x:Operand}{l:List α}(h:G5 C σ H x (.v l)){ρ:Env}{I:Im}{L:Lh}(hs:RSt C I L σ H ρ):∃ u,ev ρ x=some u∧SlA I u l:=by
 obtain⟨u,h1,cs,⟨v,rfl,h2⟩,rfl⟩:=h ρ I L hs
 exact⟨_,h1,h2⟩
end evA
section control
variable {P:Program}{C:Ctx}{N:Nat}{Q:Exit→o8→j8→Prop}{σ:o8}{H:j8}
theorem qA.mono {C:Ctx}{Q':Exit→o8→j8→Prop}(h:∀ e σ H,Q e σ H→Q' e σ H){e:Exit}{ρ:Env}{I:Im}{L:Lh}(k:qA C Q e ρ I L):qA C Q' e ρ I L:=by
 obtain⟨σ,H,h1,h2⟩:=k;exact⟨σ,H,h1,h _ _ _ h2⟩
theorem wpA.mono {Q':Exit→o8→j8→Prop}{c:Code}(h:wpA P C N c Q σ H)(hq:∀ e σ H,Q e σ H→Q' e σ H):wpA P C N c Q' σ H :=
 fun ρ I L hs=>(h ρ I L hs).mono fun _ _ _ _ k=>qA.mono hq k
theorem wpA.skip (h:Q .normal σ H):wpA P C N .skip Q σ H:=fun ρ I L hs => .skip ⟨σ,H,hs,h⟩
theorem wpA.ret (h:Q .ret σ H):wpA P C N .ret Q σ H:=fun ρ I L hs => .ret ⟨σ,H,hs,h⟩
theorem wpA.exit {id:Nat}(h:Q (.exit id) σ H):wpA P C N (.exit id) Q σ H:=fun ρ I L hs => .exit ⟨σ,H,hs,h⟩
@[reducible] def a1m (next:o8→j8→Prop)(Q:Exit→o8→j8→Prop):Exit→o8→j8→Prop
 | .normal,σ,H=>next σ H
 | e,σ,H=>Q e σ H
theorem wpA.seq {x y:Code}(h:wpA P C N x (a1m (wpA P C N y Q) Q) σ H):wpA P C N (.seq x y) Q σ H:=fun ρ I L hs=>by
 refine .seq ((h ρ I L hs).mono fun e ρ I L ⟨σ,H,h1,h2⟩ => ?_)
 cases e with
 | normal=>exact h2 ρ I L h1
 | _=>exact⟨σ,H,h1,h2⟩
theorem wpA.cond {c:Operand}{x y:Code}{b:Bool}(hc:G5 C σ H c (.v b))(ht:b=true→wpA P C N x Q σ H)(hf:b=false→wpA P C N y Q σ H):wpA P C N (.cond c x y) Q σ H :=
 fun ρ I L hs => .cond (hc.bool hs) (fun e=>ht e ρ I L hs) (fun e=>hf e ρ I L hs)
theorem wpA.a0q {c:Operand}{x y:Code}{p:Prop}{_:Decidable p}(hc:G5 C σ H c (.v (decide p)))(ht:p→wpA P C N x Q σ H)(hf:¬p→wpA P C N y Q σ H):wpA P C N (.cond c x y) Q σ H :=
 .cond hc (fun e=>ht (of_decide_eq_true e)) (fun e=>hf (of_decide_eq_false e))
@[reducible] def Y8 (id:Nat)(Q:Exit→o8→j8→Prop):Exit→o8→j8→Prop
 | .exit i,σ,H=>bif Nat.beq i id then Q .normal σ H else Q (.exit i) σ H
 | e,σ,H=>Q e σ H
theorem wpA.block {id:Nat}{c:Code}(h:wpA P C N c (Y8 id Q) σ H):wpA P C N (.block id c) Q σ H:=fun ρ I L hs=>by
 refine .block ((h ρ I L hs).mono fun e ρ I L ⟨σ,H,h1,h2⟩ => ?_)
 cases e with
 | exit i =>
  simp only [a4b,Y8] at *
  cases hb:Nat.beq i id with
  | true=>simp only [hb,cond_true] at *;exact⟨σ,H,h1,h2⟩
  | false=>simp only [hb,cond_false] at *;exact⟨σ,H,h1,h2⟩
 | _=>exact⟨σ,H,h1,h2⟩
theorem wpS.c9r {Q:Exit→Env→Im→Lh→Prop}{ρ:Env}{I:Im}{L:Lh}{α:Type}(E:α→Env)(Lf:α→Lh)(F:α→Im→Prop)(μ:α→Nat){c:Code}
    (x0:α)(h0:F x0 I)(hE:Sub (E x0) ρ)(hL:L=Lf x0)
    (round:∀ x J,F x J→wpS P C N c (b1w (fun ρ' J' L'=>∃ x',Sub (E x') ρ'∧L'=Lf x'∧F x' J'∧μ x' < μ x) Q) (E x) J (Lf x)) :
    wpS P C N (.loop c) Q ρ I L:=fun a w ha hw=>by
  intro b k cs hro hfn hroom
  have key : ∀ n x J a w, μ x = n → F x J → Fits N (E x) a → St C J (Lf x) w →
      ∃ e a' w',a54 C N Q e a' w'∧ArrivesIn (Machine.fenced P C.fen) P (lone (b.atR a (.code c :: .inLoop c::k)) cs w) b k cs e a' w':=by
    intro n
    induction n using Nat.strongRecOn with
    | _ n ih =>
      intro x J a w hn hF ha hw
      obtain⟨e,a1,w1,⟨ρ1,J1,L1,hf1,hs1,hq1⟩,harr⟩:=round x J hF a w ha hw b (.inLoop c::k) cs hro hfn hroom
      cases e with
      | normal =>
        obtain⟨x',hsub,rfl,hF',hlt⟩:=hq1
        obtain⟨e2,a2,w2,hq2,harr2⟩:=ih (μ x') (hn▸hlt) x' J1 a1 w1 rfl hF' (hf1.sub hsub) hs1
        exact⟨e2,a2,w2,hq2,.of_steps (StepsIn.trans harr (.one (fenced_calm hfn hroom j0) stepR_inLoop)) harr2⟩
      | exit id=>exact⟨_,a1,w1,⟨ρ1,J1,L1,hf1,hs1,hq1⟩,.pass (x := .inLoop c) rfl (fun _ _ => .inl (by simp)) harr⟩
      | goto l=>exact⟨_,a1,w1,⟨ρ1,J1,L1,hf1,hs1,hq1⟩,.pass (x := .inLoop c) rfl (fun _ _ => .inl (by simp)) harr⟩
      | ret=>exact⟨_,a1,w1,⟨ρ1,J1,L1,hf1,hs1,hq1⟩,.pass (x := .inLoop c) rfl (fun _ _ => .inl (by simp)) harr⟩
      | panic ch=>exact⟨_,a1,w1,⟨ρ1,J1,L1,hf1,hs1,hq1⟩,.pass (x := .inLoop c) rfl (fun _ _ => .inl (by simp)) harr⟩
      | outgrown=>exact⟨_,a1,w1,⟨ρ1,J1,L1,hf1,hs1,hq1⟩,.pass (x := .inLoop c) rfl (fun _ _ => .inl (by simp)) harr⟩
  subst hL
  obtain⟨e,a',w',hq,harr⟩:=key _ x0 I a w rfl h0 (ha.sub hE) hw
  exact⟨e,a',w',hq,.of_steps (.one (fenced_calm hfn hroom j0) stepR_loop) harr⟩
theorem wpA.loop {α:Type}(E:α→o8)(Hf:α→j8)(F:α→Prop)(μ:α→Nat){c:Code}
    (x0:α)(h0:F x0)(hE:a3X (E x0) σ)(hH:H=Hf x0)
    (round:∀ x,F x→wpA P C N c (a1m (fun σ' H'=>∃ x',a3X (E x') σ'∧H'=Hf x'∧F x'∧μ x' < μ x) Q) (E x) (Hf x)) :
    wpA P C N (.loop c) Q σ H:=fun ρ I L hs=>by
  refine wpS.c9r (α:=α×Env×Lh) (fun y=>y.2.1) (fun y=>y.2.2) (fun y J=>F y.1∧RSt C J y.2.2 (E y.1) (Hf y.1) y.2.1) (fun y=>μ y.1) (x0,ρ,L) ⟨h0,hH▸hs.sub hE⟩ (Sub.refl _) rfl ?_
  rintro⟨x,ρ1,L1⟩ J ⟨hF,hR⟩
  refine(round x hF ρ1 J L1 hR).mono fun e ρ2 J2 L2 ⟨σ2,H2,h1,h2⟩ => ?_
  cases e with
  | normal =>
    obtain⟨x',k1,k2,k3,k4⟩:=h2
    subst k2
    exact⟨(x',ρ2,L2),Sub.refl _,j0,⟨k3,h1.sub k1⟩,k4⟩
  | _=>exact⟨σ2,H2,h1,h2⟩
theorem wpA.a0Y (R:o8){α:Type}(V:α→o8→o8)(Hf:α→j8)(F:α→Prop)(μ:α→Nat){c:Code}
    (x0:α)(hR:a3X R σ)(h0:F x0)(hE:a3X (V x0 R) σ)(hH:H=Hf x0)
    (round:∀ x,F x→wpA P C N c (a1m (fun σ' H'=>∃ x',a3X (V x' R) σ'∧H'=Hf x'∧F x'∧μ x' < μ x) Q) (V x R) (Hf x)) :
    wpA P C N (.loop c) Q σ H := .loop (fun x=>V x R) Hf F μ x0 h0 hE hH round
end control
abbrev j4:Bool×C3:=(true,.none_)
abbrev j7 (l:List (Bool×C3))(k:Nat):Bool×C3:=List.getD l k (true,.none_)
abbrev j5:Bool:=true
abbrev j6:Bool:=false
end Go.Ab
namespace Go.Ab
open Go.Fl Go.RowKit
open u3 (rep)
theorem OpX.a4j {P:Program}{N:Nat}{o:Oper}{ρ:Env}{I:Im}{L:Lh}{K K':Value→Im→Lh→Prop}(h:OpX P N o ρ I L K)(hk:∀ v J X,Le I J→K v J X→K' v J X):OpX P N o ρ I L K' :=
 fun a w ha hm=>(h a w ha hm).mono fun v w' ⟨J,X,a1,a2,a3,a4,a5,a6⟩=>⟨J,X,a1,a2,a3,a4,a5,hk v J X a2 a6⟩
theorem OpS.b3Z {P:Program}{C:Ctx}{N:Nat}{o:Oper}{ρ:Env}{I:Im}{L:Lh}{K K':Value→Im→Lh→Prop}(h:OpS P C N o ρ I L K)(hk:∀ v J X,K v J X→K' v J X):OpS P C N o ρ I L K' :=
 fun a w ha hm=>(h a w ha hm).mono fun v w' ⟨J,X,a1,a2⟩=>⟨J,X,a1,hk v J X a2⟩
def OpP (P:Program)(N:Nat)(C:Ctx)(o:Oper)(σ:o8)(H:j8)(K:AV→Prop):Prop :=
 ∀ ρ I L,RSt C I L σ H ρ→OpX P N o ρ I L (fun v J X=>X = []∧∃ r,F9 J r v∧K r)
def OpH (P:Program)(C:Ctx)(N:Nat)(o:Oper)(σ:o8)(H:j8)(K:AV→j8→Prop):Prop :=
 ∀ ρ I L,RSt C I L σ H ρ→OpS P C N o ρ I L (fun v J L'=>Le I J∧∃ r H',F9 J r v∧T4 C.w0.heap.size J H' L'∧K r H')
theorem OpP.M1 {P:Program}{N:Nat}{C:Ctx}{o:Oper}{σ:o8}{H:j8}{K:AV→Prop}(r:AV)(h:∀ ρ I L,RSt C I L σ H ρ→O3 P N o ρ I L (fun v=>F9 I r v))(k:K r):OpP P N C o σ H K :=
 fun ρ I L hs => .M1 fun a w ha hm=>by
  obtain⟨v,hv,hr⟩:=h ρ I L hs a w ha hm
  exact⟨v,⟨j0,r,hv,k⟩,hr⟩
section opers
variable {P:Program}{C:Ctx}{N:Nat}{ops:Array Oper}{Q:Exit→o8→j8→Prop}{rest:List Oper}{σ:o8}{H:j8}
theorem wpB.nil (h:Q .normal σ H):wpB P C N ops Q [] σ H:=fun ρ I L hs => .nil ⟨σ,H,hs,h⟩
theorem wpB.p {d:Nat}{op:Op}{ty:TypeId}{ps:String}{af:Array Edge}
    (h:OpP P N C ⟨some d,op,ty,ps,af,none⟩ σ H (fun r=>wpB P C N ops Q rest ((d,r)::σ) H)) :
    wpB P C N ops Q (⟨some d,op,ty,ps,af,none⟩::rest) σ H:=fun ρ I L hs =>
  .x (OpX.a4j (h ρ I L hs) fun v J X hle ⟨hX,r,hr,hk⟩=>by subst hX;exact hk _ _ _ (hs.put hle hr (hs.heap.mono hle)))
theorem wpB.h {d:Nat}{op:Op}{ty:TypeId}{ps:String}{af:Array Edge}
    (h:OpH P C N ⟨some d,op,ty,ps,af,none⟩ σ H (fun r H'=>wpB P C N ops Q rest ((d,r)::σ) H')) :
    wpB P C N ops Q (⟨some d,op,ty,ps,af,none⟩::rest) σ H:=fun ρ I L hs =>
  .s (OpS.b3Z (h ρ I L hs) fun v J L' ⟨hle,r,H',hr,hH,hk⟩=>hk _ _ _ (hs.put hle hr hH))
theorem wpB.n {op:Op}{ty:TypeId}{ps:String}{af:Array Edge}
    (h:OpH P C N ⟨none,op,ty,ps,af,none⟩ σ H (fun _ H'=>wpB P C N ops Q rest σ H')) :
    wpB P C N ops Q (⟨none,op,ty,ps,af,none⟩::rest) σ H:=fun ρ I L hs =>
  .n (OpS.b3Z (h ρ I L hs) fun v J L' ⟨hle,r,H',hr,hH,hk⟩=>hk _ _ _ ⟨(hs.mono hle).env,hH,hs.U9.trans hle⟩)
theorem wpB.go {d:Nat}{op:Op}{ty:TypeId}{ps:String}{af:Array Edge}{j:Nat}{want:Bool}(dj:Nat)(hj:(ops[j]?).bind (·.dst)=some dj){b:Bool}(hb:G5 C σ H (.tmp dj) (.v b)){r:AV}
    (h:b=want→OpP P N C ⟨some d,op,ty,ps,af,none⟩ σ H (fun r'=>r'=r))(k:wpB P C N ops Q rest ((d,.opt (b == want) r)::σ) H) :
    wpB P C N ops Q (⟨some d,op,ty,ps,af,some (j,want)⟩::rest) σ H:=fun ρ I L hs=>by
  have hbv:=hb.bool hs
  by_cases e:b=want
  · refine .gt dj hj (by rw [←e];exact hbv) (OpS.ofX (OpX.a4j (h e ρ I L hs) fun v J X hle ⟨hX,r',hr,hk⟩ => ?_))
    subst hX;subst hk
    exact k _ _ _ (hs.put hle (r := .opt (b == want) r') (fun _=>hr) (hs.heap.mono hle))
  · have e':b = !want:=by cases b<;>cases want<;>simp_all
    exact .gf dj hj (by rw [←e'];exact hbv) (k _ _ _ (hs.put (Le.refl I) (r := .opt (b == want) r) (fun hc=>absurd (by simpa using hc) e) hs.heap))
theorem wpA.region {id:Nat}{l:List Oper}(hd:R7 N l=true)(h:wpB P C N l.toArray Q l σ H):wpA P C N (.region id l.toArray false) Q σ H:=fun ρ I L hs => .region hd (h ρ I L hs)
inductive H9:j8→Bool×C3→(Bool×C3→j8)→Prop
 | z {B:Bool×C3} {H:j8}:H9 (B::H) B (fun X=>X::H)
 | s {A B:Bool×C3} {H:j8} {F:Bool×C3→j8} (h:H9 H B F):H9 (A::H) B (fun X=>A::F X)
theorem H9.get {n0:Nat}{I:Im}{H:j8}{B:Bool×C3}{F:Bool×C3→j8}(h:H9 H B F):∀ {L:Lh},T4 n0 I H L →
    ∃ i X,L[i]?=some X∧b6p n0 I B X∧∀ J B' X',Le I J→b6p n0 J B' X'→T4 n0 J (F B') (L.set i X'):=by
  induction h with
  | z =>
    rintro _ ⟨X,R,rfl,h1,h2⟩
    exact⟨0,X,j0,h1,fun J B' X' hle hb=>⟨X',R,j0,hb,h2.mono hle⟩⟩
  | s h ih =>
    rintro _ ⟨X,R,rfl,h1,h2⟩
    obtain⟨i,Y,h3,h4,h5⟩:=ih h2
    exact⟨i+1,Y,by simpa using h3,h4,fun J B' X' hle hb=>⟨X,R.set i X',by simp,h1.mono hle,h5 J B' X' hle hb⟩⟩
theorem O9 {I J:Im}{E:TypeId}{α:Type}{r:u3 α}{w:Value}{l:List α}{X:List (Nat×Obj)}(h:(C3.own E w l).a0H I X)(hle:Le I J)(hp:∀ p∈X,J p.1=some p.2):F9 J (.v l) w:=by
 obtain⟨xs,h1,h2⟩:=h
 obtain⟨a,c,rfl⟩:=h1.shape
 exact⟨_,⟨_,j0,xs,h1.sl hp,h2.mono hle⟩,j0⟩
theorem a7X {I J:Im}{α:Type}{r:u3 α}{w:Value}{x:α}{X:List (Nat×Obj)}(h:(C3.ob w x).a0H I X)(hle:Le I J)(hp:∀ p∈X,J p.1=some p.2):F9 J (.p x) w:=by
 obtain⟨b,T,cs,rfl,rfl,h3⟩:=h
 exact⟨b,0,cs,j0,u3.mono hle h3,Cells.b6c (hp (b,row cs T) (List.mem_singleton.2 j0))⟩
def Ctx.Ok (C:Ctx):Prop:=∀ k∈C.M,k < C.w0.heap.size
theorem a3F (hC:Ctx.Ok C){B:C3}{I:Im}{X:List (Nat×Obj)}(h:b6p C.w0.heap.size I (true,B) X):∀ p∈X,p.1∈C.M→False:=fun p hp hm=>by
 have:=h.2 rfl p hp
 have:=hC _ hm
 omega
theorem wpB.Q7 (hC:Ctx.Ok C){E:TypeId}{α:Type}{r:u3 α}{w:Value}{l:List α}{os:List Oper}{F:Bool×C3→j8}(h:H9 H (true,.own E w l) F)(k:wpB P C N ops Q os σ (F (true,.fz w (.v l)))):wpB P C N ops Q os σ H:=fun ρ I L hs=>by
 obtain⟨i,X,h1,h2,h3⟩:=h.get hs.heap
 refine .freeze i h1 (a3F hC h2) fun J hle hp=>k ρ J _ ⟨(hs.mono hle).env,h3 J _ [] hle ⟨⟨rfl,O9 h2.1 hle hp⟩,by simp⟩,hs.U9.trans hle⟩
theorem wpB.U2 (hC:Ctx.Ok C){α:Type}{r:u3 α}{w:Value}{x:α}{os:List Oper}{F:Bool×C3→j8}(h:H9 H (true,.ob w x) F)(k:wpB P C N ops Q os σ (F (true,.fz w (.p x)))):wpB P C N ops Q os σ H:=fun ρ I L hs=>by
 obtain⟨i,X,h1,h2,h3⟩:=h.get hs.heap
 refine .freeze i h1 (a3F hC h2) fun J hle hp=>k ρ J _ ⟨(hs.mono hle).env,h3 J _ [] hle ⟨⟨rfl,a7X h2.1 hle hp⟩,by simp⟩,hs.U9.trans hle⟩
theorem wpA.Q7 (hC:Ctx.Ok C){E:TypeId}{α:Type}{r:u3 α}{w:Value}{l:List α}{c:Code}{F:Bool×C3→j8}(h:H9 H (true,.own E w l) F)(k:wpA P C N c Q σ (F (true,.fz w (.v l)))):wpA P C N c Q σ H:=fun ρ I L hs=>by
 obtain⟨i,X,h1,h2,h3⟩:=h.get hs.heap
 refine .freeze i h1 (a3F hC h2) fun J hle hp=>k ρ J _ ⟨(hs.mono hle).env,h3 J _ [] hle ⟨⟨rfl,O9 h2.1 hle hp⟩,by simp⟩,hs.U9.trans hle⟩
theorem wpA.U2 (hC:Ctx.Ok C){α:Type}{r:u3 α}{w:Value}{x:α}{c:Code}{F:Bool×C3→j8}(h:H9 H (true,.ob w x) F)(k:wpA P C N c Q σ (F (true,.fz w (.p x)))):wpA P C N c Q σ H:=fun ρ I L hs=>by
 obtain⟨i,X,h1,h2,h3⟩:=h.get hs.heap
 refine .freeze i h1 (a3F hC h2) fun J hle hp=>k ρ J _ ⟨(hs.mono hle).env,h3 J _ [] hle ⟨⟨rfl,a7X h2.1 hle hp⟩,by simp⟩,hs.U9.trans hle⟩
theorem RSt.as {C:Ctx}{I:Im}{L:Lh}{ρ:Env}(t:Nat){w:Value}{a:AV}{g:Bool}{F:Bool×C3→j8}(ht:F6 σ t=some (.raw w))(h:H9 H (g,.fz w a) F)(hs:RSt C I L σ H ρ):RSt C I L ((t,a)::σ) H ρ :=
 ⟨fun s b hb=>by
  rw [G7] at hb
  by_cases e:t=s
  ·subst e;simp at hb;subst hb
   obtain⟨u,h1,rfl⟩:=hs.env t _ ht
   obtain⟨i,X,h2,h3,_⟩:=h.get hs.heap
   exact⟨_,h1,h3.1.2⟩
  ·rw [if_neg e] at hb;exact hs.env s b hb,hs.heap,hs.U9⟩
theorem wpB.as (t:Nat){w:Value}{a:AV}{g:Bool}{F:Bool×C3→j8}{os:List Oper}(ht:F6 σ t=some (.raw w))(h:H9 H (g,.fz w a) F)(k:wpB P C N ops Q os ((t,a)::σ) H):wpB P C N ops Q os σ H :=
 fun ρ I L hs=>k ρ I L (hs.as t ht h)
theorem wpA.as (t:Nat){w:Value}{a:AV}{g:Bool}{F:Bool×C3→j8}{c:Code}(ht:F6 σ t=some (.raw w))(h:H9 H (g,.fz w a) F)(k:wpA P C N c Q ((t,a)::σ) H):wpA P C N c Q σ H :=
 fun ρ I L hs=>k ρ I L (hs.as t ht h)
theorem RSt.asP {C:Ctx}{I:Im}{L:Lh}{ρ:Env}(t:Nat){α:Type}{r:u3 α}{b:Nat}{a:AV}{g:Bool}{F:Bool×C3→j8}(ht:F6 σ t=some (.ln (ptr b 0) (j9.id (α:=α))))(h:H9 H (g,.fz (ptr b 0) a) F)(hs:RSt C I L σ H ρ):RSt C I L ((t,a)::σ) H ρ :=
 ⟨fun s c hb=>by
  rw [G7] at hb
  by_cases e:t=s
  ·subst e;simp at hb;subst hb
   obtain⟨u,h1,b',hb',rfl⟩:=hs.env t _ ht
   cases hb'
   obtain⟨i,X,h2,h3,_⟩:=h.get hs.heap
   exact⟨_,h1,h3.1.2⟩
  ·rw [if_neg e] at hb;exact hs.env s c hb,hs.heap,hs.U9⟩
theorem wpB.asP (t:Nat){α:Type}{r:u3 α}{b:Nat}{a:AV}{g:Bool}{F:Bool×C3→j8}{os:List Oper}(ht:F6 σ t=some (.ln (ptr b 0) (j9.id (α:=α))))(h:H9 H (g,.fz (ptr b 0) a) F)(k:wpB P C N ops Q os ((t,a)::σ) H):wpB P C N ops Q os σ H :=
 fun ρ I L hs=>k ρ I L (hs.asP t ht h)
theorem wpA.asP (t:Nat){α:Type}{r:u3 α}{b:Nat}{a:AV}{g:Bool}{F:Bool×C3→j8}{c:Code}(ht:F6 σ t=some (.ln (ptr b 0) (j9.id (α:=α))))(h:H9 H (g,.fz (ptr b 0) a) F)(k:wpA P C N c Q ((t,a)::σ) H):wpA P C N c Q σ H :=
 fun ρ I L hs=>k ρ I L (hs.asP t ht h)
theorem wpA.a4I (t:Nat){α:Type}{r:u3 α}{l:List α}{c:Code}(ht:F6 σ t=some (.v l))(k:l.length≤9223372036854775807→wpA P C N c Q σ H):wpA P C N c Q σ H :=
 fun ρ I L hs=>by
  obtain⟨u,_,xs,⟨a,c,_,_,h1,h2,_⟩,_⟩:=G5.sl (.t ht) hs
  exact k (by unfold maxLen at h2;omega) ρ I L hs
theorem wpA.b1E (t:Nat){s:Str}{c:Code}(ht:F6 σ t=some (.v s))(k:s.l.length≤9223372036854775807→wpA P C N c Q σ H):wpA P C N c Q σ H :=
 fun ρ I L hs=>k (G5.b1E (.t ht) hs) ρ I L hs
end opers
structure Gl where
 p:Im→Prop
 mono:∀ {I J},Le I J→p I→p J
def T5 (I:Im):List AV→List Value→Prop
 | [],vs=>vs = []
 | a::ags,vs=>∃ v r,vs=v::r∧F9 I a v∧T5 I ags r
theorem T5.mono {I J:Im}(hle:Le I J):∀ {ags:List AV} {vs:List Value},T5 I ags vs→T5 J ags vs
 | [],_,h=>h
 | a::ags,_,h=>by obtain⟨v,r,h1,h2,h3⟩:=h;exact⟨v,r,h1,h2.mono hle,h3.mono hle⟩
theorem T5.len {I:Im}:∀ {ags:List AV} {vs:List Value},T5 I ags vs→vs.length=ags.length
 | [],_,h=>by simp [T5] at h;simp [h]
 | a::ags,_,h=>by obtain⟨v,r,rfl,_,h3⟩:=h;simp [h3.len]
@[reducible] def a95:List AV→Nat→o8
 | [],_ => []
 | a::r,k=>(k,a)::a95 r (k+1)
theorem T5.env {I:Im}:∀ {ags:List AV} {vs:List Value} (k:Nat),T5 I ags vs→∀ t a,F6 (a95 ags k) t=some a→∃ u,Fl.look (a1a vs k) t=some u∧F9 I a u
 | [],_,k,h,t,a,ht=>by simp [a95,F6] at ht
 | a::ags,_,k,h,t,b,ht=>by
  obtain⟨v,r,rfl,h2,h3⟩:=h
  rw [a95,G7] at ht
  rw [a1a,Fl.R6]
  by_cases e:k=t
  ·rw [if_pos e] at ht ⊢;cases ht;exact⟨v,rfl,h2⟩
  ·rw [if_neg e] at ht ⊢;exact h3.env (k+1) t b ht
def C4 (G:Gl)(P:Program)(f:FuncId)(ags:List AV)(post:AV→Prop):Prop:=∀ I vs,G.p I→T5 I ags vs→Fun P f vs.toArray I (fun v J=>∃ r,F9 J r v∧post r)
def Q9 (I:Im):List C3→Lh→Prop
 | [],L=>L = []
 | B::H,L=>∃ X R,L=X::R∧B.a0H I X∧Q9 I H R
def C6 (G:Gl)(P:Program)(f:FuncId)(ags:List AV)(Hs:List C3)(post:AV→List C3→Prop):Prop :=
 ∀ I L vs,G.p I→T5 I ags vs→Q9 I Hs L→a9I P f vs.toArray I L (fun v J L'=>∃ r Hs',F9 J r v∧Q9 J Hs' L'∧post r Hs')
@[reducible] def a6X:List C3→j8
 | [] => []
 | B::r=>(false,B)::a6X r
theorem a5e:∀ Hs:List C3,a6X Hs=Hs.map (fun B=>(false,B))
 | []=>rfl
 | B::r=>by rw [a6X,a5e r];rfl
theorem Q9.toH {n0:Nat}{I:Im}:∀ {Hs:List C3} {L:Lh},Q9 I Hs L→T4 n0 I (Hs.map (fun B=>(false,B))) L
 | [],_,h=>h
 | B::Hs,_,h=>by obtain⟨X,R,h1,h2,h3⟩:=h;exact⟨X,R,h1,⟨h2,fun e=>by cases e⟩,h3.toH⟩
theorem Q9.toT {n0:Nat}{I:Im}:∀ {Hs:List C3} {L:Lh},Q9 I Hs L→(∀ p∈L.flatten,n0≤p.1)→T4 n0 I (Hs.map (fun B=>(true,B))) L
 | [],_,h,_=>h
 | B::Hs,_,h,hp=>by
  obtain⟨X,R,rfl,h2,h3⟩:=h
  exact⟨X,R,j0,⟨h2,fun _ p h=>hp p (by simp [h])⟩,h3.toT (fun p h=>hp p (by simp only [List.flatten_cons,List.mem_append];exact .inr h))⟩
theorem T4.toK {n0:Nat}{I:Im}:∀ {H:j8} {L:Lh},T4 n0 I H L→Q9 I (H.map Prod.snd) L
 | [],_,h=>h
 | B::Hs,_,h=>by obtain⟨X,R,h1,h2,h3⟩:=h;exact⟨X,R,h1,h2.1,h3.toK⟩
def a9h (P:Program)(fn:Func)(C:Ctx)(σ:o8)(H:j8)(r:AV):Prop:=∀ ρ I L,RSt C I L σ H ρ→∃ v,Fin P fn ρ I L v∧F9 I r v
def a5X (P:Program)(fn:Func)(C:Ctx)(post:AV→j8→Prop):Exit→o8→j8→Prop
 | .normal,σ,H | .ret,σ,H=>∃ r,a9h P fn C σ H r∧post r H
 | _,_,_=>False
theorem a5X.q {P:Program}{fn:Func}{C:Ctx}{post:AV→j8→Prop}{e:Exit}{ρ:Env}{I:Im}{L:Lh}(h:qA C (a5X P fn C post) e ρ I L) :
    b9n P fn (fun v J L'=>∃ r H,F9 J r v∧T4 C.w0.heap.size J H L'∧post r H) e ρ I L:=by
  obtain⟨σ,H,h1,h2⟩:=h
  cases e with
  | normal|ret =>
    obtain⟨r,h3,h4⟩:=h2
    obtain⟨v,h5,h6⟩:=h3 ρ I L h1
    exact⟨v,h5,r,H,h6,h1.heap,h4⟩
  | _=>exact h2.elim
theorem C4.intro {G:Gl}{P:Program}{f:FuncId}{fn:Func}{c:Code}{ags:List AV}{post:AV→Prop}(hf:P.funcs[f]?=some fn)(hb:fn.body=some c)(hn:(fn.name == "runtime.NumGoroutine")=false)
    (N:Nat)(hN:fn.ntmps=N)(hl:Nat.ble ags.length N=true)(σ:o8)(hσ:a95 ags 0=σ)
    (h:∀ C:Ctx,Ctx.Ok C→G.p C.I0→wpA P C N c (a5X P fn C (fun r _=>post r)) σ []):C4 G P f ags post:=fun I vs hG hvs =>
  ⟨⟨fn,hf,hn,by simp [hb]⟩,fun w hm=>a1R hf hb N hN (by rw [hvs.len];exact hl) hm (M := []) (by simp)
    ((h ⟨w,[],I,none⟩ (fun k hk=>by cases hk) hG (a1a vs 0) I [] ⟨by rw [←hσ];exact hvs.env 0,rfl,Le.refl I⟩).mono fun e ρ J L hq=>a5X.q hq)
    fun v J L' w' hs hp=>by
      obtain⟨r,H,h1,h2,h3⟩:=hp
      exact⟨v,J,j0,hs.W4,hs.U9,fun b h0 h1=>hs.new b h0 h1,hs.mem.drop,r,h1,h3⟩⟩
theorem C6.intro {G:Gl}{P:Program}{f:FuncId}{fn:Func}{c:Code}{ags:List AV}{Hs:List C3}{post:AV→List C3→Prop}(hf:P.funcs[f]?=some fn)(hb:fn.body=some c)(hn:(fn.name == "runtime.NumGoroutine")=false)
    (N:Nat)(hN:fn.ntmps=N)(hl:Nat.ble ags.length N=true)(σ:o8)(hσ:a95 ags 0=σ)(H0:j8)(hH:a6X Hs=H0)
    (h:∀ C:Ctx,Ctx.Ok C→G.p C.I0→wpA P C N c (a5X P fn C (fun r H=>post r (H.map Prod.snd))) σ H0):C6 G P f ags Hs post:=fun I L vs hG hvs hL =>
  ⟨⟨fn,hf,hn,by simp [hb]⟩,fun w hm=>a1R hf hb N hN (by rw [hvs.len];exact hl) hm (M:=L.flatten.map Prod.fst) (fun p hp=>List.mem_map_of_mem hp)
    ((h ⟨w, L.flatten.map Prod.fst, I, none⟩ (fun k hk => by
        obtain⟨p,hp,rfl⟩:=List.mem_map.1 hk
        exact D7 (hm.loc p hp)) hG (a1a vs 0) I L ⟨by rw [←hσ];exact hvs.env 0,by rw [←hH,a5e];exact hL.toH,Le.refl I⟩).mono fun e ρ J L hq=>a5X.q hq)
    fun v J L' w' hs hp=>by
      obtain⟨r,H,h1,h2,h3⟩:=hp
      exact⟨v,J,L',j0,hs.W4,hs.U9,fun b h0 h1=>hs.new b h0 h1,hs.mem,hs.own,r,_,h1,h2.toK,h3⟩⟩
theorem C4.mono {G:Gl}{P:Program}{f:FuncId}{ags:List AV}{post post':AV→Prop}(h:C4 G P f ags post)(hp:∀ r,post r→post' r):C4 G P f ags post':=fun I vs hG hvs =>
 (h I vs hG hvs).mono fun v J hle ⟨r,h1,h2⟩=>⟨r,h1,hp r h2⟩
theorem G5.c7r {C:Ctx}{G:Gl}{σ:o8}{H:j8}{g:Nat}{a:AV}(hG:G.p C.I0)(h:∀ I,G.p I→F9 I a (ptr g 0)):G5 C σ H (.global g) a:=fun ρ I L hs=>⟨_,rfl,h I (G.mono hs.U9 hG)⟩
def a0I (C:Ctx)(σ:o8)(H:j8):List Operand→List AV→Prop
 | [],ags=>ags = []
 | x::xs,ags=>∃ a r,ags=a::r∧G5 C σ H x a∧a0I C σ H xs r
theorem a0I.nil {C:Ctx}{σ:o8}{H:j8}:a0I C σ H [] []:=rfl
theorem a0I.cons {C:Ctx}{σ:o8}{H:j8}{x:Operand}{a:AV}{xs:List Operand}{ags:List AV}(h:G5 C σ H x a)(k:a0I C σ H xs ags):a0I C σ H (x::xs) (a::ags):=⟨a,ags,rfl,h,k⟩
theorem a0I.get {C:Ctx}{σ:o8}{H:j8}{ρ:Env}{I:Im}{L:Lh}(hs:RSt C I L σ H ρ):∀ {xs:List Operand} {ags:List AV},a0I C σ H xs ags→∃ vs,evL ρ xs=some vs∧T5 I ags vs
 | [],_,h=>by simp [a0I] at h;subst h;exact⟨[],rfl,rfl⟩
 | x::xs,_,h=>by
  obtain⟨a,r,rfl,h1,h2⟩:=h
  obtain⟨u,h3,h4⟩:=h1 ρ I L hs
  obtain⟨vs,h5,h6⟩:=a0I.get hs h2
  exact⟨u::vs,by simp [evL,h3,h5],u,vs,rfl,h4,h6⟩
def EvL (C:Ctx)(σ:o8)(H:j8)(x:Operand)(a:AV):Prop:=∀ ρ I L,RSt C I L σ H ρ→∃ u,ev ρ x=some u∧∀ J,Le I J→(∀ p∈L.flatten,J p.1=some p.2)→F9 J a u
theorem EvL.e {C:Ctx}{σ:o8}{H:j8}{x:Operand}{a:AV}(h:G5 C σ H x a):EvL C σ H x a:=fun ρ I L hs=>by
 obtain⟨u,h1,h2⟩:=h ρ I L hs
 exact⟨u,h1,fun J hle _=>h2.mono hle⟩
theorem EvL.own {C:Ctx}{σ:o8}{H:j8}{t:Nat}{E:TypeId}{α:Type}{r:u3 α}{w:Value}{l:List α}{g:Bool}{F:Bool×C3→j8}(ht:F6 σ t=some (.raw w))(h:H9 H (g,.own E w l) F):EvL C σ H (.tmp t) (.v l):=fun ρ I L hs=>by
 obtain⟨u,h1,rfl⟩:=hs.env t _ ht
 obtain⟨i,X,h2,h3,_⟩:=h.get hs.heap
 exact⟨_,h1,fun J hle hp=>O9 h3.1 hle (fun p hpx=>hp p (G3 h2 hpx))⟩
def a6Y (C:Ctx)(σ:o8)(H:j8):List Operand→List AV→Prop
 | [],ags=>ags = []
 | x::xs,ags=>∃ a r,ags=a::r∧EvL C σ H x a∧a6Y C σ H xs r
theorem a6Y.nil {C:Ctx}{σ:o8}{H:j8}:a6Y C σ H [] []:=rfl
theorem a6Y.cons {C:Ctx}{σ:o8}{H:j8}{x:Operand}{a:AV}{xs:List Operand}{ags:List AV}(h:EvL C σ H x a)(k:a6Y C σ H xs ags):a6Y C σ H (x::xs) (a::ags):=⟨a,ags,rfl,h,k⟩
theorem a6Y.get {C:Ctx}{σ:o8}{H:j8}{ρ:Env}{I:Im}{L:Lh}(hs:RSt C I L σ H ρ):∀ {xs:List Operand} {ags:List AV},a6Y C σ H xs ags→∃ vs,evL ρ xs=some vs∧∀ J,Le I J→(∀ p∈L.flatten,J p.1=some p.2)→T5 J ags vs
 | [],_,h=>by simp [a6Y] at h;subst h;exact⟨[],rfl,fun _ _ _=>rfl⟩
 | x::xs,_,h=>by
  obtain⟨a,r,rfl,h1,h2⟩:=h
  obtain⟨u,h3,h4⟩:=h1 ρ I L hs
  obtain⟨vs,h5,h6⟩:=a6Y.get hs h2
  exact⟨u::vs,by simp [evL,h3,h5],fun J hle hp=>⟨u,vs,rfl,h4 J hle hp,h6 J hle hp⟩⟩
def FlatV (r:AV):Prop:=∀ I J u,F9 I r u→F9 J r u
class a96 (α:Type)[u3 α]:Prop where
 any:∀ {I J:Im} {x:α} {cs},rep I x cs→rep J x cs
instance:a96 Int:=⟨fun h=>h⟩
instance:a96 UInt8:=⟨fun h=>h⟩
theorem P2.any {α:Type}[u3 α][a96 α]{I J:Im}:∀ {l:List α} {cs:List Value},P2 I l cs→P2 J l cs
 | [],_,h=>h
 | x::l,_,h=>by obtain⟨c,r,h1,h2,h3⟩:=h;exact⟨c,r,h1,a96.any h2,P2.any h3⟩
instance {n:Nat}{α:Type}[u3 α][a96 α]:a96 (M4 n α):=⟨fun h=>P2.any h⟩
theorem FlatV.v {α:Type}[u3 α][a96 α]{x:α}:FlatV (.v x):=fun I J u h=>by obtain⟨cs,h1,h2⟩:=h;exact⟨cs,a96.any h1,h2⟩
theorem FlatV.t2 {a b:AV}(h:FlatV a)(k:FlatV b):FlatV (.t2 a b):=fun I J u hu=>by obtain⟨x,y,e,h1,h2⟩:=hu;exact⟨x,y,e,h _ _ _ h1,k _ _ _ h2⟩
section calls
variable {P:Program}{C:Ctx}{N:Nat}{σ:o8}{H:j8}{G:Gl}(hG:G.p C.I0){f:FuncId}{d:Option Nat}{args:Array Operand}{tys:Array TypeId}{ty:TypeId}{ps:String}{af:Array Edge}{g:Option (Nat×Bool)}{ags:List AV}
include hG
theorem OpP.call {post:AV→Prop}{K:AV→Prop}(h:C4 G P f ags post)(hv:a0I C σ H args.toList ags)(k:∀ r,post r→K r):OpP P N C ⟨d,.call ⟨.value (.func f),args,tys⟩,ty,ps,af,g⟩ σ H K:=fun ρ I L hs=>by
 obtain⟨vs,h1,h2⟩:=hv.get hs
 exact .call j0 h1 (h I vs (G.mono hs.U9 hG) h2) fun v J hle ⟨r,h3,h4⟩=>⟨j0,r,h3,k r h4⟩
theorem OpP.J7 {r:AV}{K:AV→Prop}(h:C4 G P f ags (fun x=>x=r))(hv:a0I C σ H args.toList ags)(k:K r):OpP P N C ⟨d,.call ⟨.value (.func f),args,tys⟩,ty,ps,af,g⟩ σ H K :=
 .call hG h hv fun x e=>e▸k
theorem OpP.c4c {post:AV→Prop}{K:AV→Prop}(h:C4 G P f ags post)(hv:a6Y C σ H args.toList ags)(hf:∀ r,post r→FlatV r)(k:∀ r,post r→K r):OpP P N C ⟨d,.call ⟨.value (.func f),args,tys⟩,ty,ps,af,g⟩ σ H K:=fun ρ I L hs=>by
 obtain⟨vs,h1,h2⟩:=hv.get hs
 exact .c4c (φ:=fun v=>∃ r,F9 I r v∧post r) j0 h1 (fun J hle hp=>(h J vs (G.mono (hs.U9.trans hle) hG) (h2 J hle hp)).mono fun v J' _ ⟨r,h3,h4⟩=>⟨r,hf r h4 _ _ _ h3,h4⟩) fun v ⟨r,h3,h4⟩=>⟨j0,r,h3,k r h4⟩
theorem OpP.c1Y {r:AV}{K:AV→Prop}(h:C4 G P f ags (fun x=>x=r))(hv:a6Y C σ H args.toList ags)(hf:FlatV r)(k:K r):OpP P N C ⟨d,.call ⟨.value (.func f),args,tys⟩,ty,ps,af,g⟩ σ H K :=
 .c4c hG h hv (fun x e=>e▸hf) fun x e=>e▸k
omit hG in
theorem OpS.c1Z {ρ:Env}{I:Im}{L:Lh}{F:Operand}{vs:List Value}{post:Value→Im→Lh→Prop}{K:Value→Im→Lh→Prop}(i:Nat){c:List (Nat×Obj)}(hc:L[i]?=some c)(hF:ev ρ F=some (.func (.func f) #[] #[]))(hv:evL ρ args.toList=some vs)
    (h:a9I P f vs.toArray I [c] post)(k:∀ v J c' (w:World),Le I J→post v J [c']→(∀ p∈c',w.heap.size≤p.1∨p.1∈c.map Prod.fst)→C.w0.heap.size≤w.heap.size→K v J (L.set i c'))(hshape:∀ v J L',post v J L'→∃ c',L' = [c']) :
    OpS P C N ⟨d,.call ⟨.value F,args,tys⟩,ty,ps,af,g⟩ ρ I L K:=fun a w ha hs=>by
  have hm:=hs.mem
  have hsplit:=fun c'=>a1t L i c hc c'
  have hmc:Mem I [c] w:=⟨hm.im,fun p hp=>hm.loc p (G3 hc (by simpa using hp)),fun p hp=>hm.sep p (G3 hc (by simpa using hp)),by simpa using a0r hm.nodup hc⟩
  rw [Y0 h.ok rfl (ha.ev hF) (ha.evL hv)]
  refine(h.run w hmc).mono ?_
  rintro e w' ⟨v,J,L',rfl,hch,hle,hn,hm',hown,hp⟩
  obtain⟨c',rfl⟩:=hshape v J L' hp
  have hlt:∀ p∈L.flatten,p.1 < w.heap.size:=fun p hp=>D7 (hm.loc p hp)
  have hnd:=hm.nodup
  rw [(hsplit c').1] at hnd
  -- the blocks of the other chunks
  have hoth:∀ p,p∈(L.take i).flatten∨p∈(L.drop (i+1)).flatten→p∈L.flatten∧p.1∉c.map Prod.fst:=by
    intro p hp
    rw [(hsplit c').1]
    simp only [List.map_append,List.nodup_append] at hnd
    rcases hp with hp|hp
    · exact⟨by simp [hp],fun hx=>hnd.2.2 p.1 (List.mem_map_of_mem hp) p.1 (by simp only [List.mem_append];exact .inl hx) rfl⟩
    · exact⟨by simp [hp],fun hx=>hnd.2.1.2.2 p.1 hx p.1 (List.mem_map_of_mem hp) rfl⟩
  have hcas:∀ p∈(L.set i c').flatten,p∈c'∨(p∈(L.take i).flatten∨p∈(L.drop (i+1)).flatten):=by
    intro p hp
    rw [(hsplit c').2] at hp
    simp only [List.mem_append] at hp
    rcases hp with hp|hp|hp
    · exact .inr (.inl hp)
    · exact .inl hp
    · exact .inr (.inr hp)
  have hcM:∀ k∈([c]:Lh).flatten.map Prod.fst,k < C.w0.heap.size→k∈C.M:=by
    intro k hk hlt0
    simp only [List.flatten_cons,List.flatten_nil,List.append_nil,List.mem_map] at hk
    obtain⟨p,hp,rfl⟩:=hk
    rcases hs.own p (G3 hc hp) with h1|h1
    · omega
    · exact h1
  have hchg:Chg C.M C.w0 w':=by
    refine⟨hch.os.trans hs.W4.os,hch.tape.trans hs.W4.tape,hch.output.trans hs.W4.output,Nat.le_trans hs.W4.size hch.size,fun k hk hkm => ?_⟩
    rw [hch.block k (Nat.lt_of_lt_of_le hk hs.W4.size) (fun hx=>hkm (hcM k hx hk))]
    exact hs.W4.block k hk hkm
  refine⟨v,rfl,J,L.set i c',⟨⟨hm'.im,fun p hp => ?_,fun p hp => ?_,?_⟩,hchg,fun p hp => ?_,hs.U9.trans hle,fun b h0 h1 => ?_⟩,k v J c' w hle hp (fun p hp=>by simpa using hown p (by simpa using hp)) hs.W4.size⟩
  · rcases hcas p hp with h1|h1
    · exact hm'.loc p (by simpa using h1)
    · obtain⟨h2,h3⟩:=hoth p h1
      exact(hch.block p.1 (hlt p h2) (by simpa using h3)).trans (hm.loc p h2)
  · rcases hcas p hp with h1|h1
    · exact hm'.sep p (by simpa using h1)
    · obtain⟨h2,h3⟩:=hoth p h1
      cases hj:J p.1 with
      | none=>rfl
      | some o=>exact absurd (hn p.1 (hm.sep p h2) (by simp [hj])) (by have:=hlt p h2;omega)
  · rw [(hsplit c').2]
    have hc'nd:=hm'.nodup
    have hblk:∀ p∈c',w.heap.size≤p.1∨p.1∈c.map Prod.fst:=fun p hp=>by
      have:=hown p (by simpa using hp)
      simpa using this
    simp only [List.map_append,List.nodup_append] at hnd ⊢
    refine⟨hnd.1,⟨by simpa using hc'nd,hnd.2.1.2.1,?_⟩,?_⟩
    · rintro x hx y hy rfl
      obtain⟨p,hp,rfl⟩:=List.mem_map.1 hx
      obtain⟨q,hq,hqe⟩:=List.mem_map.1 hy
      obtain⟨h2,h3⟩:=hoth q (.inr hq)
      rcases hblk p hp with h4|h4
      · have:=hlt q h2;omega
      · exact h3 (hqe▸h4)
    · rintro x hx y hy rfl
      obtain⟨q,hq,rfl⟩:=List.mem_map.1 hx
      obtain⟨h2,h3⟩:=hoth q (.inl hq)
      simp only [List.mem_append] at hy
      rcases hy with hy|hy
      · obtain⟨p,hp,hpe⟩:=List.mem_map.1 hy
        rcases hblk p hp with h4|h4
        · have:=hlt q h2;omega
        · exact h3 (hpe▸h4)
      · exact hnd.2.2 q.1 hx q.1 (by simp only [List.mem_append];exact .inr hy) rfl
  · rcases hcas p hp with h1|h1
    · rcases hown p (by simpa using h1) with h2|h2
      · exact .inl (Nat.le_trans hs.W4.size h2)
      · obtain⟨q,hq,hqe⟩:=List.mem_map.1 h2
        rw [←hqe]
        exact hs.own q (G3 hc (by simpa using hq))
    · exact hs.own p (hoth p h1).1
  · cases hi:I b with
    | none=>exact Nat.le_trans hs.W4.size (hn b hi h1)
    | some o=>exact hs.new b h0 (by simp [hi])
theorem OpH.a8u {post:AV→List C3→Prop}{K:AV→j8→Prop}{b:Bool}{B:C3}{F:Bool×C3→j8}(h:C6 G P f ags [B] post)(hH:H9 H (b,B) F)(hv:a0I C σ H args.toList ags)
    (hshape:∀ r Hs,post r Hs→∃ B',Hs = [B'])(k:∀ r B',post r [B']→K r (F (b,B'))):OpH P C N ⟨d,.call ⟨.value (.func f),args,tys⟩,ty,ps,af,g⟩ σ H K:=fun ρ I L hs=>by
  obtain⟨vs,h1,h2⟩:=hv.get hs
  obtain⟨i,X,h3,h4,h5⟩:=hH.get hs.heap
  refine OpS.c1Z (post:=fun v J L'=>∃ r Hs',F9 J r v∧Q9 J Hs' L'∧post r Hs') i h3 rfl h1 (h I [X] vs (G.mono hs.U9 hG) h2 ⟨X,[],rfl,h4.1,rfl⟩) ?_ ?_
  · intro v J c' w hle ⟨r,Hs',q1,q2,q3⟩ q4 hsz
    obtain⟨B',rfl⟩:=hshape r Hs' q3
    obtain⟨X',R,e,q5,q6⟩:=q2
    simp [Q9] at q6
    subst q6
    cases e
    refine⟨hle,r,_,q1,h5 J (b,B') c' hle ⟨q5,fun hb p hp => ?_⟩,k r B' q3⟩
    rcases q4 p hp with h6|h6
    · exact Nat.le_trans hsz h6
    · obtain⟨q,hq,hqe⟩:=List.mem_map.1 h6
      rw [←hqe];exact h4.2 hb q hq
  · intro v J L' ⟨r,Hs',q1,q2,q3⟩
    obtain⟨B',rfl⟩:=hshape r Hs' q3
    obtain⟨X',R,e,q5,q6⟩:=q2
    exact⟨X',by rw [e,q6]⟩
theorem OpH.a6Z {post : AV → List C3 → Prop}{K : AV → j8 → Prop}(h : C6 G P f ags [] post)(hv : a0I C σ H args.toList ags)(k : ∀ r Hs, post r Hs → K r (Hs.map (fun B => (true, B)) ++ H)) :
    OpH P C N ⟨d,.call ⟨.value (.func f),args,tys⟩,ty,ps,af,g⟩ σ H K:=fun ρ I L hs=>by
  obtain⟨vs,h1,h2⟩:=hv.get hs
  have hM:=h I [] vs (G.mono hs.U9 hG) h2 rfl
  intro a w ha hst
  have hm:=hst.mem
  rw [Y0 hM.ok rfl (ha.ev (x := .func f) rfl) (ha.evL h1)]
  refine(hM.run w hm.drop).mono ?_
  rintro e w' ⟨v,J,L',rfl,hc,hle,hn,hm',hown,r,Hs',q1,q2,q3⟩
  have hlt:∀ p∈L.flatten,p.1 < w.heap.size:=fun p hp=>D7 (hm.loc p hp)
  have hnew:∀ p∈L'.flatten,w.heap.size≤p.1:=fun p hp=>by simpa using hown p hp
  have hmem:Mem J (L'++L) w':=by
    refine⟨hm'.im,fun p hp => ?_,fun p hp => ?_,?_⟩
    · simp only [List.flatten_append,List.mem_append] at hp
      rcases hp with hp|hp
      · exact hm'.loc p hp
      · exact(hc.block p.1 (hlt p hp) (by simp)).trans (hm.loc p hp)
    · simp only [List.flatten_append,List.mem_append] at hp
      rcases hp with hp|hp
      · exact hm'.sep p hp
      · cases hj:J p.1 with
        | none=>rfl
        | some o=>exact absurd (hn p.1 (hm.sep p hp) (by simp [hj])) (by have:=hlt p hp;omega)
    · simp only [List.flatten_append,List.map_append]
      refine List.nodup_append.2 ⟨hm'.nodup,hm.nodup,?_⟩
      rintro x hx y hy rfl
      obtain⟨p,hp,rfl⟩:=List.mem_map.1 hx
      obtain⟨q,hq,hqe⟩:=List.mem_map.1 hy
      have:=hnew p hp
      have:=hlt q hq
      omega
  refine⟨v,j0,J,L'++L,hst.step (by simpa using hc) hle hn hmem hnew,hle,r,_,q1,?_,k r Hs' q3⟩
  exact(q2.toT (fun p hp=>Nat.le_trans hst.W4.size (hnew p hp))).append (hs.heap.mono hle)
end calls
end Go.Ab
namespace Go.Ab
open Go.Fl Go.RowKit
open u3 (rep)
def F7 (acc:List (Nat×AV))(j:Nat):Option AV :=
 match acc with
 | []=>none
 | (i,S)::r=>bif Nat.beq i j then some S else F7 r j
def T6 (σ0:o8)(acc:List (Nat×AV))(s:List (Nat×Nat)):List Nat→o8
 | [] => []
 | t::ts =>
  match (match T1 s t with|none=>F6 σ0 t|some j=>F7 acc j) with
  | some a=>(t,a)::T6 σ0 acc s ts
  | none=>T6 σ0 acc s ts
def a97 (P:Program)(N:Nat)(C:Ctx)(σ0:o8)(H:j8)(acc:List (Nat×AV))(o:Oper)(s:List (Nat×Nat))(r:AV):Prop :=
 match o.guard with
 | none=>OpP P N C o (T6 σ0 acc s (J6 o)) H (fun r'=>r'=r)
 | some (g,want)=>∃ b c,F7 acc g=some (.v b)∧r = .opt (b == want) c∧(b=want→OpP P N C o (T6 σ0 acc s (J6 o)) H (fun r'=>r'=c))
def b6q (P:Program)(N:Nat)(C:Ctx)(σ0:o8)(H:j8)(F:List (Nat×AV)→Prop):List Oper→List (List (Nat×Nat))→Nat→List (Nat×AV)→Prop
 | [],_,_,acc=>F acc
 | o::os,s::ss,k,acc=>∃ r,a97 P N C σ0 H acc o s r∧b6q P N C σ0 H F os ss (k+1) ((k,r)::acc)
 | _,[],_,_=>False
def a9i (acc:List (Nat×AV)):List Oper→Nat→o8→o8
 | o::os,k,σ =>
  match o.dst,F7 acc k with
  | some d,some r=>a9i acc os (k+1) ((d,r)::σ)
  | _,_=>a9i acc os (k+1) σ
 | [],_,σ=>σ
def a6s (r:AV):Fl.Spec := .val (fun v J=>F9 J r v) (fun v I J h hle=>h.mono hle)
def a8B (acc:List (Nat×AV)):List (Nat×Fl.Spec):=acc.map fun p=>(p.1,a6s p.2)
theorem a3l:∀ (acc:List (Nat×AV)) (j:Nat),V7 (a8B acc) j=(F7 acc j).map a6s
 | [],j=>rfl
 | (i,r)::acc,j=>by
  simp only [a8B,List.map_cons,V7,F7]
  cases Nat.beq i j with
  | true=>rfl
  | false=>simpa [a8B] using a3l acc j
theorem b2F {C:Ctx}{σ0:o8}{H:j8}{acc:List (Nat×AV)}{s:List (Nat×Nat)}{ρ0 ρ:Env}{I J:Im}{L:Lh}(hs:RSt C I L σ0 H ρ0)(hle:Le I J)(G:Prop):∀ (ts:List Nat),
    ((∀ t a,F6 (T6 σ0 acc s ts) t=some a→∃ u,Fl.look ρ t=some u∧F9 J a u)→G)→a04 (V7 (a8B acc)) s ρ0 ρ J ts G
  | [],h=>h (fun t a ht=>by simp [T6,F6] at ht)
  | t::ts,h=>by
    simp only [a04]
    cases hsrc:T1 s t with
    | none =>
      intro hlk
      refine b2F hs hle G ts fun h2=>h fun t' a ht => ?_
      simp only [T6,hsrc] at ht
      cases h0:F6 σ0 t with
      | none=>simp only [h0] at ht;exact h2 t' a ht
      | some b =>
        simp only [h0] at ht
        rw [G7] at ht
        by_cases e:t=t'
        · subst e;simp at ht;subst ht
          obtain⟨u,h3,h4⟩:=hs.env t _ h0
          exact⟨u,hlk.trans h3,h4.mono hle⟩
        · rw [if_neg e] at ht;exact h2 t' a ht
    | some j =>
      simp only [a3l]
      cases hj:F7 acc j with
      | none=>simp
      | some r =>
        simp only [Option.map_some,a6s]
        intro v hv hr
        refine b2F hs hle G ts fun h2=>h fun t' a ht => ?_
        simp only [T6,hsrc,hj] at ht
        rw [G7] at ht
        by_cases e:t=t'
        · subst e;simp at ht;subst ht;exact⟨v,hv,hr⟩
        · rw [if_neg e] at ht;exact h2 t' a ht
theorem c4Y {P:Program}{N:Nat}{C:Ctx}{ops:Array Oper}{σ0:o8}{H:j8}{acc:List (Nat×AV)}{ρ0:Env}{I:Im}{L:Lh}{o:Oper}{s:List (Nat×Nat)}{r:AV}(hs:RSt C I L σ0 H ρ0)
    (h:a97 P N C σ0 H acc o s r):a6O P N ops (V7 (a8B acc)) ρ0 I L o s (a6s r):=by
  intro J hle ρ
  refine b2F hs hle _ _ fun henv => ?_
  have hR:RSt C J L (T6 σ0 acc s (J6 o)) H ρ:=⟨henv,hs.heap.mono hle,hs.U9.trans hle⟩
  unfold a97 at h
  cases hg:o.guard with
  | none =>
    simp only [hg] at h
    exact OpX.a4j (h ρ J L hR) fun v J' X _ ⟨h1,r',h2,h3⟩=>⟨h1,h3▸h2⟩
  | some p =>
    obtain⟨g,want⟩:=p
    simp only [hg] at h
    obtain⟨b,c,h1,rfl,h2⟩:=h
    intro v hv
    rw [a3l,h1] at hv
    simp only [Option.map_some,a6s,Fl.Spec.holds] at hv
    obtain⟨cs,rfl,rfl⟩:=hv
    refine⟨fun e => ?_,fun hne=>⟨?_,fun o e=>by cases e⟩⟩
    · have e':b=want:=by simpa [asV,u3.agg] using e
      exact OpX.a4j (h2 e' ρ J L hR) fun v J' X _ ⟨h3,r',h4,h5⟩=>⟨h3,fun _=>h5▸h4⟩
    · have hb:b≠want:=hne b rfl
      exact fun hc=>absurd (by simpa using hc) hb
theorem b8p {C:Ctx}{H:j8}{acc:List (Nat×AV)}{J:Im}{G:Env→Lh→Prop}:∀ (os:List Oper) (k:Nat) (σ:o8) (ρ:Env) (L:Lh),RSt C J L σ H ρ →
    (∀ i o,os[i]?=some o→∃ d r,o.dst=some d∧F7 acc (k+i)=some r)→(∀ ρ',RSt C J L (a9i acc os k σ) H ρ'→G ρ' L)→a9e J (V7 (a8B acc)) G os k ρ L
  | [],k,σ,ρ,L,hs,_,h=>h ρ hs
  | o::os,k,σ,ρ,L,hs,hd,h=>by
    obtain⟨d,r,h1,h2⟩:=hd 0 o rfl
    simp only [a9e,h1,a3l]
    simp only [Nat.add_zero] at h2
    rw [h2]
    simp only [Option.map_some,a6s]
    intro v hv
    refine b8p os (k+1) ((d,r)::σ) _ L (hs.put (Le.refl J) hv hs.heap) (fun i o' ho => ?_) (fun ρ' h'=>h ρ' ?_)
    · obtain⟨d',r',h3,h4⟩:=hd (i+1) o' (by simpa using ho)
      exact⟨d',r',h3,by rw [show k+1+i=k+(i+1) by omega];exact h4⟩
    · simpa only [a9i,h1,h2] using h'
theorem b4a {P:Program}{N:Nat}{C:Ctx}{ops:Array Oper}{σ0:o8}{H:j8}{ρ0:Env}{I:Im}{L:Lh}{F:List (Nat×AV)→Prop}{F':List (Nat×Fl.Spec)→Prop}(hs:RSt C I L σ0 H ρ0) :
    ∀ (os:List Oper) (ss:List (List (Nat×Nat))) (k:Nat) (acc:List (Nat×AV)),(∀ i,i < k→(F7 acc i).isSome)→b6q P N C σ0 H F os ss k acc →
      (∀ acc',(∀ i,i < k+os.length→(F7 acc' i).isSome)→F acc'→F' (a8B acc'))→chain P N ops ρ0 I L F' os ss k (a8B acc)
  | [],ss,k,acc,hk,h,hF=>by
    have hc:F acc:=by cases ss<;>exact h
    cases ss<;>exact hF acc (by simpa using hk) hc
  | o::os,[],k,acc,_,h,_=>h.elim
  | o::os,s::ss,k,acc,hk,h,hF=>by
    obtain⟨r,h1,h2⟩:=h
    refine⟨a6s r,c4Y hs h1,b4a hs os ss (k+1) ((k,r)::acc) (fun i hi => ?_) h2 (fun acc' h3=>hF acc' (fun i hi=>h3 i (by simp only [List.length_cons] at hi;omega)))⟩
    simp only [F7]
    by_cases e:k=i
    · subst e;simp
    · rw [a6l e];exact hk i (by omega)
theorem b9A {ops:Array Oper}{n:Nat}{ss:List (List (Nat×Nat))}(h:b3O ops n ss=true){i:Nat}(hi:i < n):∃ o d,ops[i]?=some o∧o.dst=some d:=by
 simp only [b3O,Bool.and_eq_true] at h
 have h1:=h.1.1.1.2
 have h2:=List.all_eq_true.1 h1 i (List.mem_range.2 hi)
 unfold a9f at h2
 split at h2
 ·rename_i o s ho hss
  simp only [Bool.and_eq_true] at h2
  obtain⟨d,hd⟩:=Option.isSome_iff_exists.1 h2.1.1
  exact⟨o,d,ho,hd⟩
 ·cases h2
section
variable {P:Program}{C:Ctx}{N:Nat}{Q:Exit→o8→j8→Prop}{σ:o8}{H:j8}
theorem wpA.draw {id:Nat}{l:List Oper}(hm:P.follows .mixedOrders=true)(n:Nat)(ss:List (List (Nat×Nat)))
    (hN:R7 N l=true)(hB:b3O l.toArray n ss=true)(hss:Nat.ble n ss.length=true)
    (hch:b6q P N C σ H (fun acc=>wpB P C N l.toArray Q (l.drop n) (a9i acc (l.take n) 0 σ) H) (l.take n) ss 0 []) :
    wpA P C N (.region id l.toArray true) Q σ H:=fun ρ I L hs=>by
  refine .draw hm n ss hN hB hss ?_
  refine b4a (acc := []) (F:=_) hs _ _ 0 (fun i hi=>by omega) hch fun acc hacc hF J hle => ?_
  refine b8p (l.take n) 0 σ ρ L (hs.mono hle) (fun i o ho => ?_) (fun ρ' h'=>hF ρ' J L h')
  have hi:i < n:=by
    have:=(List.getElem?_eq_some_iff.1 ho).1
    simp at this;omega
  obtain⟨o',d,h1,h2⟩:=b9A hB hi
  have:o'=o:=by
    rw [List.getElem?_take,if_pos hi] at ho
    have h1':l[i]?=some o':=by simpa using h1
    rw [h1'] at ho;exact Option.some.inj ho
  subst this
  have hlen:i < (l.take n).length:=(List.getElem?_eq_some_iff.1 ho).1
  obtain⟨r,hr⟩:=Option.isSome_iff_exists.1 (hacc i (by omega))
  exact⟨d,r,h2,by simpa using hr⟩
end
class K4 (α:Type)[u3 α][Inhabited α] where
 zs:List Value
 zero:∀ I,rep I (default:α) zs
instance:K4 Int:=⟨[i64 0],fun _=>⟨rfl,by decide,by decide⟩⟩
instance:K4 UInt8:=⟨[Fl.u8 0],fun _=>rfl⟩
instance:K4 UInt64:=⟨[Fl.u64 0],fun _=>rfl⟩
instance:K4 Bool:=⟨[.bool false],fun _=>rfl⟩
instance:K4 Str:=⟨[.string ⟨#[]⟩],fun _=>⟨⟨_,rfl,rfl⟩,by decide⟩⟩
instance:K4 Unit:=⟨[],fun _=>rfl⟩
instance {α:Type}[u3 α]:K4 (List α):=⟨[.slice none 0 0],fun I=>⟨_,rfl,[],Sl.nil I _,rfl⟩⟩
theorem a1A {α:Type}[u3 α]{I:Im}{x:α}{c:List Value}(h:rep I x c):∀ n,P2 I (List.replicate n x) (List.replicate n c).flatten
 | 0=>rfl
 | n+1=>by simp only [List.replicate_succ,List.flatten_cons];exact⟨c,_,rfl,h,a1A h n⟩
instance {n:Nat}{α:Type}[u3 α][Inhabited α][K4 α]:K4 (M4 n α):=⟨(List.replicate n (K4.zs α)).flatten,fun I=>a1A (K4.zero I) n⟩
instance {α β:Type}[u3 α][u3 β][Inhabited α][Inhabited β][K4 α][K4 β]:K4 (α×β):=⟨K4.zs α++K4.zs β,fun I=>⟨_,_,rfl,K4.zero I,K4.zero I⟩⟩
@[reducible] def K4.via {S T:Type}[u3 T][Inhabited S][Inhabited T][K4 T](f:S→T)(h:f default=default) : @K4 S (u3.via f) _ :=
 letI:u3 S:=u3.via f
 ⟨K4.zs T,fun I=>by show rep I (f default) _;rw [h];exact K4.zero I⟩
structure K1 (P:Program)(T:TypeId)(α:Type)[u3 α][Inhabited α]:Prop where
 size:G6 P T (u3.size α)
 kind:∃ dd,P.underlying T=some dd∧a1O dd=u3.agg α
 zero:∃ zs,Y4 P T=some zs∧∀ I,rep I (default:α) zs
 pos:u3.size α≠0
theorem K1.of {P:Program}{T:TypeId}{α:Type}[u3 α][Inhabited α][K4 α](h1:(P.info? T).map (·.size)=some (u3.size α))(h2:(P.underlying T).map a1O=some (u3.agg α))(h3:Y4 P T=some (K4.zs α))(h4:u3.size α≠0):K1 P T α :=
 ⟨.of h1,by
  cases h:P.underlying T with
  | none=>simp [h] at h2
  | some dd=>exact⟨dd,rfl,by simpa [h] using h2⟩,⟨_,h3,K4.zero⟩,h4⟩
def a27 (P:Program)(rv:ResultVar)(C:Ctx)(σ:o8)(H:j8)(a:AV):Prop:=∀ ρ I L,RSt C I L σ H ρ→∃ v,a47 P rv ρ I L v∧F9 I a v
section
variable {P:Program}{C:Ctx}{σ:o8}{H:j8}
theorem a27.tmp {t:Nat}{a:AV}(h:F6 σ t=some a):a27 P (.tmp t) C σ H a:=fun ρ I L hs=>by
 obtain⟨u,h1,h2⟩:=hs.env t a h
 exact⟨u,.tmp h1,h2⟩
theorem a9s {α:Type}[u3 α]{I:Im}{x:α}{cs:List Value}(h:rep I x cs)(hg:u3.agg α=false):∃ v,cs = [v]∧asV (u3.agg α) cs=v:=by
 have h1:=u3.len h
 rw [u3.one hg] at h1
 obtain⟨v,rfl⟩:=List.length_eq_one_iff.1 h1
 exact⟨v,rfl,by rw [hg];rfl⟩
theorem a27.cell {t b:Nat}{T:TypeId}{α:Type}{r:u3 α}{i:Inhabited α}{x:α}{g:Bool}{F:Bool×C3→j8}(ty:K1 P T α)(h:F6 σ t=some (.ln (ptr b 0) (j9.id (α:=α))))(hH:H9 H (g,.ob (ptr b 0) x) F) :
    a27 P (.cell t T) C σ H (.v x):=fun ρ I L hs=>by
  obtain⟨u,h1,b',hb,rfl⟩:=hs.env t _ h
  cases hb
  obtain⟨i,X,h2,h3,_⟩:=hH.get hs.heap
  obtain⟨b2,T2,cs,hb2,rfl,h5⟩:=h3.1
  cases hb2
  obtain⟨dd,hd1,hd2⟩:=ty.kind
  refine⟨asV (u3.agg α) cs,?_,cs,h5,j0⟩
  cases hag:u3.agg α with
  | true=>exact .a9U i hd1 (hd2.trans hag) (by rw [u3.len h5];exact ty.size) (by simpa [j9.id] using h1) h2
  | false =>
    obtain⟨v,rfl,hv⟩:=a9s h5 hag
    exact .c82 i hd1 (hd2.trans hag) (by simpa [j9.id] using h1) h2
variable {fn:Func}{q q2 q3:ResultVar}{a b c:AV}
theorem a9h.r0 (h:fn.results = #[]):a9h P fn C σ H (.raw (.tuple #[])):=fun ρ I L hs=>⟨_,.r0 h,rfl⟩
theorem a9h.r1 (h:fn.results = #[q])(h1:a27 P q C σ H a):a9h P fn C σ H a:=fun ρ I L hs=>by
 obtain⟨v,k1,k2⟩:=h1 ρ I L hs
 exact⟨v,.r1 h k1,k2⟩
theorem a9h.r2 (h:fn.results = #[q,q2])(h1:a27 P q C σ H a)(h2:a27 P q2 C σ H b):a9h P fn C σ H (.t2 a b):=fun ρ I L hs=>by
 obtain⟨v,k1,k2⟩:=h1 ρ I L hs
 obtain⟨v2,l1,l2⟩:=h2 ρ I L hs
 exact⟨_,.r2 h k1 l1,v,v2,j0,k2,l2⟩
theorem a9h.r3 (h:fn.results = #[q,q2,q3])(h1:a27 P q C σ H a)(h2:a27 P q2 C σ H b)(h3:a27 P q3 C σ H c):a9h P fn C σ H (.t3 a b c):=fun ρ I L hs=>by
 obtain⟨v,k1,k2⟩:=h1 ρ I L hs
 obtain⟨v2,l1,l2⟩:=h2 ρ I L hs
 obtain⟨v3,m1,m2⟩:=h3 ρ I L hs
 exact⟨_,.r3 h k1 l1 m1,v,v2,v3,j0,k2,l2,m2⟩
end
end Go.Ab
namespace Go.Ab
open Go.Fl Go.RowKit
open u3 (rep)
variable {P:Program}{C:Ctx}{N:Nat}{σ:o8}{H:j8}{K:AV→Prop}{d:Option Nat}{ty:TypeId}{ps:String}{af:Array Edge}{g:Option (Nat×Bool)}
variable {x y z:Operand}{T T2 E S D:TypeId}
theorem OpP.vk {o:Oper}{r:AV}(k:K r)(h:∀ ρ I L,RSt C I L σ H ρ→O3 P N o ρ I L (fun v=>F9 I r v)):OpP P N C o σ H K := .M1 r h k
theorem OpP.move {a:AV}(hx:G5 C σ H x a)(k:K a):OpP P N C ⟨d,.move x,ty,ps,af,g⟩ σ H K :=
 .M1 a (fun ρ I L hs=>by obtain⟨u,h1,h2⟩:=hx ρ I L hs;exact .move h1 h2) k
theorem OpP.assign {a:AV}(hx:G5 C σ H x a)(k:K a):OpP P N C ⟨d,.assign x,ty,ps,af,g⟩ σ H K :=
 .M1 a (fun ρ I L hs=>by obtain⟨u,h1,h2⟩:=hx ρ I L hs;exact .assign h1 h2) k
theorem OpP.a2I {b v:Bool}(hc:G5 C σ H x (.v b))(hy:b=true→G5 C σ H y (.v v))(k:K (.v (b&&v))):OpP P N C ⟨d,.pick x y (.const (.bool false)),ty,ps,af,g⟩ σ H K :=
 .M1 (.v (b&&v)) (fun ρ I L hs=>by
  cases b with
  | true=>obtain⟨w,h1,h2⟩:=hy rfl ρ I L hs;exact .c6p (hc.bool hs) h1 (by simpa using h2)
  | false=>exact .c6q (v := .bool false) (hc.bool hs) rfl ⟨_,rfl,rfl⟩) k
theorem OpP.b6r {b v:Bool}(hc:G5 C σ H x (.v b))(hz:b=false→G5 C σ H z (.v v))(k:K (.v (b||v))):OpP P N C ⟨d,.pick x (.const (.bool true)) z,ty,ps,af,g⟩ σ H K :=
 .M1 (.v (b||v)) (fun ρ I L hs=>by
  cases b with
  | true=>exact .c6p (v := .bool true) (hc.bool hs) rfl ⟨_,rfl,rfl⟩
  | false=>obtain⟨w,h1,h2⟩:=hz rfl ρ I L hs;exact .c6q (hc.bool hs) h1 (by simpa using h2)) k
theorem OpP.c10 {a b:AV}(hx:G5 C σ H x (.t2 a b))(k:K a):OpP P N C ⟨d,.extract x 0,ty,ps,af,g⟩ σ H K :=
 .M1 a (fun ρ I L hs=>by obtain⟨u,h1,v,w,rfl,h3,h4⟩:=hx ρ I L hs;exact .extract h1 rfl h3) k
theorem OpP.c11 {a b:AV}(hx:G5 C σ H x (.t2 a b))(k:K b):OpP P N C ⟨d,.extract x 1,ty,ps,af,g⟩ σ H K :=
 .M1 b (fun ρ I L hs=>by obtain⟨u,h1,v,w,rfl,h3,h4⟩:=hx ρ I L hs;exact .extract h1 rfl h4) k
theorem OpP.b6s {a b c:AV}(hx:G5 C σ H x (.t3 a b c))(k:K a):OpP P N C ⟨d,.extract x 0,ty,ps,af,g⟩ σ H K :=
 .M1 a (fun ρ I L hs=>by obtain⟨u,h1,v,w,t,rfl,h3,h4,h5⟩:=hx ρ I L hs;exact .extract h1 rfl h3) k
theorem OpP.b2G {a b c:AV}(hx:G5 C σ H x (.t3 a b c))(k:K b):OpP P N C ⟨d,.extract x 1,ty,ps,af,g⟩ σ H K :=
 .M1 b (fun ρ I L hs=>by obtain⟨u,h1,v,w,t,rfl,h3,h4,h5⟩:=hx ρ I L hs;exact .extract h1 rfl h4) k
theorem OpP.b2H {a b c:AV}(hx:G5 C σ H x (.t3 a b c))(k:K c):OpP P N C ⟨d,.extract x 2,ty,ps,af,g⟩ σ H K :=
 .M1 c (fun ρ I L hs=>by obtain⟨u,h1,v,w,t,rfl,h3,h4,h5⟩:=hx ρ I L hs;exact .extract h1 rfl h5) k
section int
variable {m n:Int}(hx:G5 C σ H x (.v m))(hy:G5 C σ H y (.v n))
include hx hy
theorem OpP.add (h1 : -9223372036854775808≤m+n)(h2:m+n≤9223372036854775807)(k:K (.v (m+n))):OpP P N C ⟨d,.binOp .add T x y T2,ty,ps,af,g⟩ σ H K :=
 .vk k (fun ρ I L hs => .add (hx.int hs).1 (hy.int hs).1 h1 h2 ⟨_,⟨rfl,h1,h2⟩,rfl⟩)
theorem OpP.sub (h1 : -9223372036854775808≤m - n)(h2:m - n≤9223372036854775807)(k:K (.v (m - n))):OpP P N C ⟨d,.binOp .sub T x y T2,ty,ps,af,g⟩ σ H K :=
 .vk k (fun ρ I L hs => .sub (hx.int hs).1 (hy.int hs).1 h1 h2 ⟨_,⟨rfl,h1,h2⟩,rfl⟩)
theorem OpP.mul (h1 : -9223372036854775808≤m*n)(h2:m*n≤9223372036854775807)(k:K (.v (m*n))):OpP P N C ⟨d,.binOp .mul T x y T2,ty,ps,af,g⟩ σ H K :=
 .vk k (fun ρ I L hs => .mul (hx.int hs).1 (hy.int hs).1 h1 h2 ⟨_,⟨rfl,h1,h2⟩,rfl⟩)
theorem OpP.rem (h0:0≤m)(h2:0 < n)(k:K (.v (m % n))):OpP P N C ⟨d,.binOp .rem T x y T2,ty,ps,af,g⟩ σ H K :=
 .vk k (fun ρ I L hs => .rem (hx.int hs).1 (hy.int hs).1 h0 h2 ⟨_,⟨rfl,by have:=Int.emod_nonneg m (show n≠0 by omega);omega,by have:=Int.emod_lt_of_pos m h2;have:=(hy.int hs).2.2;omega⟩,rfl⟩)
theorem OpP.tmod (hn:n≠0)(k:K (.v (m.tmod n))):OpP P N C ⟨d,.binOp .rem T x y T2,ty,ps,af,g⟩ σ H K :=
  .vk k (fun ρ I L hs => .tmod (hx.int hs).1 (hy.int hs).1 hn ⟨_, ⟨rfl, by
      have h1:=(hx.int hs).2
      have h3:(m.tmod n).natAbs≤m.natAbs:=by rw [Int.natAbs_tmod];exact Nat.mod_le _ _
      by_cases hm:0≤m
      · have:=Int.tmod_nonneg n hm;omega
      · omega,by
      have h1:=(hx.int hs).2
      have h3:(m.tmod n).natAbs≤m.natAbs:=by rw [Int.natAbs_tmod];exact Nat.mod_le _ _
      by_cases hm:0≤m
      · omega
      · have e:m.tmod n = -((-m).tmod n):=by rw [Int.neg_tmod];omega
        have:=Int.tmod_nonneg n (show 0 ≤ -m by omega)
        omega⟩,rfl⟩)
theorem OpP.lss (k:K (.v (decide (m < n)))):OpP P N C ⟨d,.binOp .lss T x y T2,ty,ps,af,g⟩ σ H K :=
 .vk k (fun ρ I L hs => .lss (hx.int hs).1 (hy.int hs).1 ⟨_,rfl,rfl⟩)
theorem OpP.leq (k:K (.v (decide (m≤n)))):OpP P N C ⟨d,.binOp .leq T x y T2,ty,ps,af,g⟩ σ H K :=
 .vk k (fun ρ I L hs => .leq (hx.int hs).1 (hy.int hs).1 ⟨_,rfl,rfl⟩)
theorem OpP.gtr (k:K (.v (decide (n < m)))):OpP P N C ⟨d,.binOp .gtr T x y T2,ty,ps,af,g⟩ σ H K :=
 .vk k (fun ρ I L hs => .gtr (hx.int hs).1 (hy.int hs).1 ⟨_,rfl,rfl⟩)
theorem OpP.geq (k:K (.v (decide (n≤m)))):OpP P N C ⟨d,.binOp .geq T x y T2,ty,ps,af,g⟩ σ H K :=
 .vk k (fun ρ I L hs => .geq (hx.int hs).1 (hy.int hs).1 ⟨_,rfl,rfl⟩)
theorem OpP.b6a (k:K (.v (decide (m=n)))):OpP P N C ⟨d,.binOp .eql T x y T2,ty,ps,af,g⟩ σ H K :=
 .vk k (fun ρ I L hs => .b6a (hx.int hs).1 (hy.int hs).1 ⟨_,rfl,rfl⟩)
theorem OpP.b9o (k:K (.v (decide (m≠n)))):OpP P N C ⟨d,.binOp .neq T x y T2,ty,ps,af,g⟩ σ H K :=
 .vk k (fun ρ I L hs => .b9o (hx.int hs).1 (hy.int hs).1 ⟨_,rfl,rfl⟩)
theorem OpP.c69 {ts:Array TypeId}(k:K (.v (min m n))):OpP P N C ⟨d,.call ⟨.builtin .min,#[x,y],ts⟩,ty,ps,af,g⟩ σ H K :=
 .vk k (fun ρ I L hs => .c69 (hx.int hs).1 (hy.int hs).1 ⟨_,⟨rfl,by have:=(hx.int hs).2;have:=(hy.int hs).2;omega,by have:=(hx.int hs).2;omega⟩,rfl⟩)
theorem OpP.c7a {ts:Array TypeId}(k:K (.v (max m n))):OpP P N C ⟨d,.call ⟨.builtin .max,#[x,y],ts⟩,ty,ps,af,g⟩ σ H K :=
 .vk k (fun ρ I L hs => .c7a (hx.int hs).1 (hy.int hs).1 ⟨_,⟨rfl,by have:=(hx.int hs).2;omega,by have:=(hx.int hs).2;have:=(hy.int hs).2;omega⟩,rfl⟩)
end int
theorem OpP.not {b:Bool}(hx:G5 C σ H x (.v b))(k:K (.v (!b))):OpP P N C ⟨d,.unOp .not T x,ty,ps,af,g⟩ σ H K :=
 .vk k (fun ρ I L hs => .not (hx.bool hs) ⟨_,rfl,rfl⟩)
theorem b8q (m n:UInt8):decide ((m.toNat:Int) < n.toNat)=decide (m < n):=by simp [UInt8.lt_iff_toNat_lt]
theorem b8r (m n:UInt8):decide ((m.toNat:Int)=n.toNat)=decide (m=n):=by rw [decide_eq_decide,Int.ofNat_inj,UInt8.toNat_inj]
theorem b4b (m n:UInt64):decide ((m.toNat:Int)=n.toNat)=decide (m=n):=by rw [decide_eq_decide,Int.ofNat_inj,UInt64.toNat_inj]
section by8
variable {m n:UInt8}(hx:G5 C σ H x (.v m))(hy:G5 C σ H y (.v n))
include hx hy
theorem OpP.d1Z (k:K (.v (decide (m < n)))):OpP P N C ⟨d,.binOp .lss T x y T2,ty,ps,af,g⟩ σ H K :=
 .vk k (fun ρ I L hs => .lss (hx.by8 hs) (hy.by8 hs) ⟨_,rfl,by rw [b8q];rfl⟩)
theorem OpP.d2a (k:K (.v (decide (n < m)))):OpP P N C ⟨d,.binOp .gtr T x y T2,ty,ps,af,g⟩ σ H K :=
 .vk k (fun ρ I L hs => .gtr (hx.by8 hs) (hy.by8 hs) ⟨_,rfl,by rw [b8q];rfl⟩)
theorem OpP.d2b (k:K (.v (decide (m=n)))):OpP P N C ⟨d,.binOp .eql T x y T2,ty,ps,af,g⟩ σ H K :=
 .vk k (fun ρ I L hs => .b6a (hx.by8 hs) (hy.by8 hs) ⟨_,rfl,by rw [b8r];rfl⟩)
theorem OpP.d2c (k:K (.v (decide (m≠n)))):OpP P N C ⟨d,.binOp .neq T x y T2,ty,ps,af,g⟩ σ H K :=
 .vk k (fun ρ I L hs => .b9o (hx.by8 hs) (hy.by8 hs) ⟨_,rfl,by simp only [ne_eq,decide_not,b8r];rfl⟩)
theorem OpP.c1p (k:K (.v (m ^^^ n))):OpP P N C ⟨d,.binOp .xor T x y T2,ty,ps,af,g⟩ σ H K :=
 .vk k (fun ρ I L hs => .c1p (hx.by8 hs) (hy.by8 hs) ⟨_,rfl,rfl⟩)
theorem OpP.or8 (k:K (.v (m ||| n))):OpP P N C ⟨d,.binOp .or T x y T2,ty,ps,af,g⟩ σ H K :=
 .vk k (fun ρ I L hs => .or8 (hx.by8 hs) (hy.by8 hs) ⟨_,rfl,rfl⟩)
theorem OpP.c66 (k:K (.v (m &&& n))):OpP P N C ⟨d,.binOp .and T x y T2,ty,ps,af,g⟩ σ H K :=
 .vk k (fun ρ I L hs => .c66 (hx.by8 hs) (hy.by8 hs) ⟨_,rfl,rfl⟩)
end by8
section a4i
variable {m n:UInt64}(hx:G5 C σ H x (.v m))(hy:G5 C σ H y (.v n))
include hx hy
theorem OpP.c6B (k:K (.v (decide (m=n)))):OpP P N C ⟨d,.binOp .eql T x y T2,ty,ps,af,g⟩ σ H K :=
 .vk k (fun ρ I L hs => .b6a (hx.a4i hs) (hy.a4i hs) ⟨_,rfl,by rw [b4b];rfl⟩)
theorem OpP.c9s (k:K (.v (decide (m≠n)))):OpP P N C ⟨d,.binOp .neq T x y T2,ty,ps,af,g⟩ σ H K :=
 .vk k (fun ρ I L hs => .b9o (hx.a4i hs) (hy.a4i hs) ⟨_,rfl,by simp only [ne_eq,decide_not,b4b];rfl⟩)
theorem OpP.c67 (k:K (.v (m ||| n))):OpP P N C ⟨d,.binOp .or T x y T2,ty,ps,af,g⟩ σ H K :=
 .vk k (fun ρ I L hs => .c67 (hx.a4i hs) (hy.a4i hs) ⟨_,rfl,rfl⟩)
theorem OpP.b7T (k:K (.v (m &&& n))):OpP P N C ⟨d,.binOp .and T x y T2,ty,ps,af,g⟩ σ H K :=
 .vk k (fun ρ I L hs => .b7T (hx.a4i hs) (hy.a4i hs) ⟨_,rfl,rfl⟩)
theorem OpP.b7W (k:K (.v (m - n))):OpP P N C ⟨d,.binOp .sub T x y T2,ty,ps,af,g⟩ σ H K :=
 .vk k (fun ρ I L hs => .b7W (hx.a4i hs) (hy.a4i hs) ⟨_,rfl,rfl⟩)
end a4i
section conv
variable {ds:TypeDesc}
theorem OpP.c13 {n:UInt8}(hS:P.underlying S=some ds)(hD:P.underlying D=some (.int .i64))(hx:G5 C σ H x (.v n))(k:K (.v (n.toNat:Int))):OpP P N C ⟨d,.convert S D x,ty,ps,af,g⟩ σ H K :=
 .vk k (fun ρ I L hs => .c8Z hS hD (hx.by8 hs) (by have:=n.toNat_lt;omega) (by have:=n.toNat_lt;omega) ⟨_,⟨rfl,by have:=n.toNat_lt;omega,by have:=n.toNat_lt;omega⟩,rfl⟩)
theorem OpP.c1w {n:Int}(hS:P.underlying S=some ds)(hD:P.underlying D=some (.int .u8))(hx:G5 C σ H x (.v n))(k:K (.v (UInt8.ofInt n))):OpP P N C ⟨d,.convert S D x,ty,ps,af,g⟩ σ H K :=
 .vk k (fun ρ I L hs => .c1w hS hD (hx.int hs).1 ⟨_,rfl,rfl⟩)
theorem OpP.a9L {n:Int}(hS:P.underlying S=some ds)(hD:P.underlying D=some (.int .u64))(hx:G5 C σ H x (.v n))(k:K (.v (UInt64.ofInt n))):OpP P N C ⟨d,.convert S D x,ty,ps,af,g⟩ σ H K :=
 .vk k (fun ρ I L hs => .a9L hS hD (hx.int hs).1 ⟨_,rfl,rfl⟩)
end conv
theorem OpP.len {α:Type}{r:u3 α}{l:List α}(hT:P.underlying T=some (.slice E))(hx:G5 C σ H x (.v l))(k:K (.v (l.length:Int))):OpP P N C ⟨d,.call ⟨.builtin .len,#[x],#[T]⟩,ty,ps,af,g⟩ σ H K :=
 .vk k (fun ρ I L hs=>by
  obtain⟨u,h1,xs,⟨a,c,rfl,_,h3,h4,_⟩,_⟩:=hx.sl hs
  exact .len hT h1 ⟨_,⟨rfl,by omega,by unfold maxLen at h4;omega⟩,rfl⟩)
theorem OpP.b6t {α:Type}{r:u3 α}{t:Nat}{w:Value}{l:List α}{b:Bool}{F:Bool×C3→j8}(hT:P.underlying T=some (.slice E))(hx:F6 σ t=some (.raw w)){E':TypeId}(hH:H9 H (b,.own E' w l) F)(k:K (.v (l.length:Int))) :
    OpP P N C ⟨d,.call ⟨.builtin .len,#[.tmp t],#[T]⟩,ty,ps,af,g⟩ σ H K :=
  .vk k (fun ρ I L hs=>by
    obtain⟨u,h1,rfl⟩:=hs.env t _ hx
    obtain⟨i,X,h2,h3,_⟩:=hH.get hs.heap
    obtain⟨xs,ho,_⟩:=h3.1
    have hle:=ho.le
    obtain⟨a,c,rfl⟩:=ho.shape
    exact .len hT h1 ⟨_,⟨rfl,by omega,by omega⟩,rfl⟩)
theorem OpP.c68 {s:Str}(hT:P.underlying T=some .string)(hx:G5 C σ H x (.v s))(k:K (.v (s.l.length:Int))):OpP P N C ⟨d,.call ⟨.builtin .len,#[x],#[T]⟩,ty,ps,af,g⟩ σ H K :=
 .vk k (fun ρ I L hs=>by
  obtain⟨b,h1,h2⟩:=hx.str hs
  have hb:=hx.b1E hs
  have e:(b.size:Int)=(s.l.length:Int):=by rw [←h2];rfl
  exact .c68 hT h1 ⟨_,⟨congrArg (fun q => [i64 q]) e,by omega,by omega⟩,rfl⟩)
theorem a1V {xs:List Value}{k s i:Nat}{v:Value}(h:(K5 xs k s)[i]?=some v):xs[k+i]?=some v:=by
 simp only [K5,List.getElem?_take,List.getElem?_drop] at h
 split at h
 ·exact h
 ·cases h
theorem OpP.idx {α:Type}{r:u3 α}{i:Inhabited α}{l:List α}{n:Int}(tE:K1 P E α)(hT:P.underlying T=some (.slice E))(hx:G5 C σ H x (.v l))(hy:G5 C σ H y (.v n))(h0:0≤n)(h1:n < l.length)
    (k:K (.p (l[n.toNat]'(by omega)))):OpP P N C ⟨d,.indexAddr T x y,ty,ps,af,g⟩ σ H K :=
  .vk k (fun ρ I L hs=>by
    obtain⟨u,hu,xs,hsl,hl⟩:=hx.sl hs
    have hk:n.toNat < l.length:=by omega
    have hg:=hl.get n.toNat hk
    obtain⟨a,c,rfl,hlen,h3,h4,h5,h6⟩:=hsl
    have hz:xs ≠ []:=by
      intro hz
      have:=hl.len
      rw [hz] at this
      simp only [List.length_nil] at this
      rcases Nat.mul_eq_zero.1 this.symm with h|h
      · omega
      · exact tE.pos h
    obtain⟨b,o,rfl,hc⟩:=h6 hz
    exact .Z6 hT tE.size hu (hy.int hs).1 h0 h1 ⟨b,_,_,j0,hg,hc.sub (n.toNat*u3.size α) (fun i v hv=>a1V hv)⟩)
theorem b4c (T:TypeId)(m:Int)(kd:IntKind)(n:Nat)(h:n < 64):binOp .shr T (i64 m) (.int kd (n:Int))=pure (i64 (m >>> n)):=by
 show Op.shift .shr .i64 m kd n=_
 unfold Op.shift
 rw [if_neg (by omega)]
 have e:min ((n:Int).toNat) (IntKind.bits .i64)=n:=by simp [IntKind.bits];omega
 show(pure (Value.int .i64 (Int.fdiv m (2^(min ((n:Int).toNat) (IntKind.bits .i64))))):Sem Value)=_
 rw [e,Int.shiftRight_eq_div_pow,Int.fdiv_eq_ediv_of_nonneg _ (Int.pow_nonneg (by omega))]
 rfl
theorem OpP.c7s {m n:Int}(hx:G5 C σ H x (.v m))(hy:G5 C σ H y (.v n))(h0:0≤n)(h1:n < 64)(k:K (.v (m >>> n.toNat))):OpP P N C ⟨d,.binOp .shr T x y T2,ty,ps,af,g⟩ σ H K :=
 .vk k (fun ρ I L hs=>by
  obtain⟨j,rfl⟩:=Int.eq_ofNat_of_zero_le h0
  have hm:=(hx.int hs).2
  refine .mk ⟨_,⟨rfl,?_,?_⟩,rfl⟩ fun a w ha hm=>by
   simp [execOp,ha.ev (hx.int hs).1,ha.ev (hy.int hs).1,eqGuard,b4c T m _ j (by omega),asV,u3.agg]
  ·rw [Int.toNat_natCast,Int.shiftRight_eq_div_pow]
   rcases Int.le_total 0 m with h|h
   ·have:=Int.ediv_nonneg h (Int.natCast_nonneg (2^j));omega
   ·have h2:(1:Int)≤((2^j:Nat):Int):=Int.natCast_pos.2 (Nat.two_pow_pos j)
    have:=Int.le_ediv_of_mul_le (a:=m) (b:=m) (c:=((2^j:Nat):Int)) (by omega) (by have:=Int.mul_le_mul_of_nonpos_left h h2;omega)
    omega
  ·rw [Int.toNat_natCast,Int.shiftRight_eq_div_pow]
   rcases Int.le_total 0 m with h|h
   ·have:=Int.ediv_le_self ((2^j:Nat):Int) h;omega
   ·have h2:(0:Int) < ((2^j:Nat):Int):=Int.natCast_pos.2 (Nat.two_pow_pos j)
    have:=Int.ediv_lt_of_lt_mul (a:=m) (b:=1) h2 (by omega);omega)
end Go.Ab
namespace Go.Ab
open Go.Fl Go.RowKit
open u3 (rep)
variable {P:Program}{C:Ctx}{N:Nat}{σ:o8}{H:j8}{K:AV→Prop}{KH:AV→j8→Prop}{d:Option Nat}{ty:TypeId}{ps:String}{af:Array Edge}{g:Option (Nat×Bool)}
variable {x y z:Operand}{T T2 E S D:TypeId}
theorem OpP.c9t {α β:Type}{r:u3 α}{s:u3 β}{n:Nat}{ag:Bool}{w:Value}{l:j9 α (M4 n β)}{i:Int}(hf:O7 P T=some (n,u3.size β,ag))(hx:G5 C σ H x (.ln w l))(hy:G5 C σ H y (.v i))(h0:0≤i)(h1:i < n)
    (k:K (.ln w (l.comp (j9.idx i.toNat (by omega))))):OpP P N C ⟨d,.indexAddr T x y,ty,ps,af,g⟩ σ H K :=
  .vk k (fun ρ I L hs=>by
    obtain⟨u,h2,b,h3,rfl⟩:=hx ρ I L hs
    exact .I7 hf h2 (hy.int hs).1 h0 h1 ⟨b,h3,j0⟩)
theorem OpP.c7t {β:Type}{s:u3 β}{n:Nat}{ag:Bool}{a:M4 n β}{i:Int}(hf:O7 P T=some (n,u3.size β,ag))(hx:G5 C σ H x (.p a))(hy:G5 C σ H y (.v i))(h0:0≤i)(h1:i < n)
    (k:K (.p (a.l[i.toNat]'(by rw [a.h];omega)))):OpP P N C ⟨d,.indexAddr T x y,ty,ps,af,g⟩ σ H K :=
  .vk k (fun ρ I L hs=>by
    obtain⟨u,h2,b,o,cs,rfl,h3,h4⟩:=hx ρ I L hs
    exact .I7 hf h2 (hy.int hs).1 h0 h1 ⟨b,_,_,j0,P2.get h3 i.toNat (by rw [a.h];omega),h4.sub (i.toNat*u3.size β) (fun j v hv=>a1V hv)⟩)
theorem OpP.a7Y {β:Type}{s:u3 β}{ib:Inhabited β}{t:Nat}{w:Value}{l:List β}{i:Int}{bb:Bool}{E':TypeId}{F:Bool×C3→j8}(tE:K1 P E β)(hT:P.underlying T=some (.slice E))(hx:F6 σ t=some (.raw w))(hH:H9 H (bb,.own E' w l) F)
    (hy:G5 C σ H y (.v i))(h0:0≤i)(h1:i < l.length)(k:K (.el w i.toNat (j9.id (α:=β)))):OpP P N C ⟨d,.indexAddr T (.tmp t) y,ty,ps,af,g⟩ σ H K :=
  .vk k (fun ρ I L hs=>by
    obtain⟨u,h2,rfl⟩:=hs.env t _ hx
    obtain⟨j,X,h3,h4,_⟩:=hH.get hs.heap
    obtain⟨xs,ho,hl⟩:=h4.1
    rcases ho with ⟨_,h,_⟩|⟨b,c,sp,q,rfl,_⟩
    · omega
    · refine .Z6 hT tE.size h2 (hy.int hs).1 h0 h1 ⟨b,j0,?_⟩
      simp [j9.id])
theorem OpP.a2n {α β γ:Type}{r:u3 α}{s:u3 β}{q:u3 γ}{i off sz:Nat}{ag:Bool}{w:Value}{l:j9 α β}(m:j9 β γ)(hf:y4 P T i=some (off,sz+1,ag))(ho:off=m.off)(hx:G5 C σ H x (.ln w l))(k:K (.ln w (l.comp m))) :
    OpP P N C ⟨d,.fieldAddr T x i,ty,ps,af,g⟩ σ H K :=
  .vk k (fun ρ I L hs=>by
    obtain⟨u,h2,b,h3,rfl⟩:=hx ρ I L hs
    subst ho
    exact .fieldAddr hf h2 ⟨b,h3,j0⟩)
theorem OpP.c9u {α β γ:Type}{r:u3 α}{s:u3 β}{q:u3 γ}{i off sz kk:Nat}{ag:Bool}{w:Value}{l:j9 α β}(m:j9 β γ)(hf:y4 P T i=some (off,sz+1,ag))(ho:off=m.off)(hx:G5 C σ H x (.el w kk l))(k:K (.el w kk (l.comp m))) :
    OpP P N C ⟨d,.fieldAddr T x i,ty,ps,af,g⟩ σ H K :=
  .vk k (fun ρ I L hs=>by
    obtain⟨u,h2,b,h3,rfl⟩:=hx ρ I L hs
    subst ho
    exact .fieldAddr hf h2 ⟨b,h3,by simp [j9.comp,Nat.add_assoc]⟩)
theorem OpP.d2d {β γ:Type}{s:u3 β}{q:u3 γ}{i off sz:Nat}{ag:Bool}{a:β}(m:j9 β γ)(hf:y4 P T i=some (off,sz+1,ag))(ho:off=m.off)(hx:G5 C σ H x (.p a))(k:K (.p (m.get a))) :
    OpP P N C ⟨d,.fieldAddr T x i,ty,ps,af,g⟩ σ H K :=
  .vk k (fun ρ I L hs=>by
    obtain⟨u,h2,b,o,cs,rfl,h3,h4⟩:=hx ρ I L hs
    subst ho
    exact .fieldAddr hf h2 ⟨b,_,_,j0,m.a5W h3,h4.sub m.off (fun j v hv=>a1V hv)⟩)
theorem O3.b2I {ρ:Env}{I:Im}{L:Lh}{φ:Value→Prop}{α:Type}[u3 α][Inhabited α]{I':Im}{a:α}{vs:List Value}{b off:Nat}(tT:K1 P T α)(hx:ev ρ x=some (ptr b off))(hr:rep I' a vs)
    (hc:∀ w,Mem I L w→∀ j v,vs[j]?=some v→w.cell? ⟨b,off+j,none⟩=some v)(k:φ (asV (u3.agg α) vs)):O3 P N ⟨d,.load T x,ty,ps,af,g⟩ ρ I L φ := .mk k fun ac w ha hm=>by
  obtain⟨dd,hd1,hd2⟩:=tT.kind
  cases hag:u3.agg α with
  | true =>
    have hs:G6 P T vs.length:=by rw [u3.len hr];exact tT.size
    simp [execOp,ha.ev hx,Fl.a7O hd1 (hd2.trans hag) hs (hc w hm),asV]
  | false =>
    obtain⟨v,rfl,hv⟩:=a9s hr hag
    simp [execOp,ha.ev hx,Fl.run_load hd1 (hd2.trans hag) (show w.cell? ⟨b,off,none⟩=some v by simpa using hc w hm 0 v rfl),asV]
theorem OpP.ldP {α:Type}{r:u3 α}{i:Inhabited α}{a:α}(tT:K1 P T α)(hx:G5 C σ H x (.p a))(k:K (.v a)):OpP P N C ⟨d,.load T x,ty,ps,af,g⟩ σ H K :=
 .vk k (fun ρ I L hs=>by
  obtain⟨u,h2,b,o,cs,rfl,h3,h4⟩:=hx ρ I L hs
  exact O3.b2I tT h2 h3 (fun w hm j v hv=>h4.cell hm hv) ⟨cs,h3,rfl⟩)
theorem OpP.ldL {α β:Type}{r:u3 α}{s:u3 β}{i:Inhabited β}{w:Value}{l:j9 α β}{a:α}{bb:Bool}{F:Bool×C3→j8}(tT:K1 P T β)(hx:G5 C σ H x (.ln w l))(hH:H9 H (bb,.ob w a) F)(k:K (.v (l.get a))) :
    OpP P N C ⟨d,.load T x,ty,ps,af,g⟩ σ H K :=
  .vk k (fun ρ I L hs=>by
    obtain⟨u,h2,b,h3,rfl⟩:=hx ρ I L hs
    obtain⟨j,X,h4,h5,_⟩:=hH.get hs.heap
    obtain⟨b2,T',cs,rfl,rfl,h6⟩:=h5.1
    cases h3
    exact O3.b2I tT h2 (l.a5W h6) (fun w hm j v hv=>by rw [a0u hm h4];exact a1V hv) ⟨_,l.a5W h6,rfl⟩)
theorem OpP.ldE {α β:Type}{r:u3 α}{s:u3 β}{i:Inhabited β}{w:Value}{l:j9 α β}{ags:List α}{kk:Nat}{bb:Bool}{E':TypeId}{F:Bool×C3→j8}(tT:K1 P T β)(hx:G5 C σ H x (.el w kk l))(hH:H9 H (bb,.own E' w ags) F)(hk:kk < ags.length)
    (k:K (.v (l.get ags[kk]))):OpP P N C ⟨d,.load T x,ty,ps,af,g⟩ σ H K :=
  .vk k (fun ρ I L hs=>by
    obtain⟨u,h2,b,h3,rfl⟩:=hx ρ I L hs
    obtain⟨j,X,h4,h5,_⟩:=hH.get hs.heap
    obtain⟨xs,ho,h6⟩:=h5.1
    rcases ho with ⟨_,h,_⟩|⟨b2,c,sp,q,rfl,rfl,_⟩
    · omega
    · cases h3
      have hg:=l.a5W (h6.get kk hk)
      rw [a57 l.fits] at hg
      exact O3.b2I tT h2 hg (fun w hm j v hv=>by
        rw [a8A hm h4]
        have:=a1V hv
        rw [List.getElem?_append_left (List.getElem?_eq_some_iff.1 this).1];exact this) ⟨_,hg,rfl⟩)
theorem a3Y {α:Type}[u3 α]{I:Im}{a:α}{vs:List Value}(h:rep I a vs):(asV (u3.agg α) vs).cells.toList=vs:=by
 cases hag:u3.agg α with
 | true=>simp [asV,Value.cells]
 | false =>
  obtain⟨v,rfl,hv⟩:=a9s h hag
  have h1:=u3.flat h
  simp only [a0W,List.all_cons,List.all_nil,Bool.and_true] at h1
  simp only [asV,List.headD_cons]
  cases v<;>first|rfl|(simp [Value.oneCell'] at h1)
theorem OpH.stL {α β:Type}{r:u3 α}{s:u3 β}{i:Inhabited β}{w:Value}{l:j9 α β}{a:α}{c:β}{bb:Bool}{F:Bool×C3→j8}(tT:K1 P T β)(hx:G5 C σ H x (.ln w l))(hy:G5 C σ H y (.v c))(hH:H9 H (bb,.ob w a) F)
    (k:KH .any (F (bb,.ob w (l.set c a)))):OpH P C N ⟨d,.store T x y,ty,ps,af,g⟩ σ H KH:=fun ρ I L hs=>by
  obtain⟨u,h2,b,h3,rfl⟩:=hx ρ I L hs
  obtain⟨u,h7,vs,h8,rfl⟩:=hy ρ I L hs
  obtain⟨j,X,h4,h5,h6⟩:=hH.get hs.heap
  obtain⟨b2,T',cs,rfl,rfl,h9⟩:=h5.1
  cases h3
  refine .store j (by rw [u3.len h8];exact tT.size) h2 h7 (a3Y h8) (u3.flat h8) h4 (by rw [u3.len h8,u3.len h9];exact l.fits) ⟨Le.refl I,.any,_,trivial,h6 I (bb,.ob (ptr b 0) (l.set c a)) [(b,row (G1 cs l.off vs) T')] (Le.refl I) ⟨⟨b,T',_,j0,j0,l.a7W h9 h8⟩,fun hb p hp => ?_⟩,k⟩
  have:=h5.2 hb (b,row cs T') (by simp)
  simp only [List.mem_singleton] at hp
  subst hp;exact this
theorem OpH.stW {α:Type}{r:u3 α}{i:Inhabited α}{w:Value}{a c:α}{bb:Bool}{F:Bool×C3→j8}(tT:K1 P T α)(hx:G5 C σ H x (.ln w (j9.id (α:=α))))(hy:G5 C σ H y (.v c))(hH:H9 H (bb,.ob w a) F)
    (k:KH .any (F (bb,.ob w c))):OpH P C N ⟨d,.store T x y,ty,ps,af,g⟩ σ H KH := .stL tT hx hy hH k
theorem OpP.ldW {α:Type}{r:u3 α}{i:Inhabited α}{w:Value}{a:α}{bb:Bool}{F:Bool×C3→j8}(tT:K1 P T α)(hx:G5 C σ H x (.ln w (j9.id (α:=α))))(hH:H9 H (bb,.ob w a) F)(k:K (.v a)) :
    OpP P N C ⟨d,.load T x,ty,ps,af,g⟩ σ H K := .ldL tT hx hH k
theorem OpS.c7u {ρ:Env}{I:Im}{L:Lh}{K:Value→Im→Lh→Prop}(i:Nat){b off:Nat}{v:Value}{cs vs:List Value}{e:TypeId}{q:Nat×Nat}(hs:G6 P T vs.length)(hx:ev ρ x=some (ptr b off))(hy:ev ρ y=some v)(hv:v.cells.toList=vs)(h1:a0W vs=true)
    (hL:L[i]?=some [(b,.cells cs.toArray e q)])(hq:∀ j,j < cs.length→¬(q.1≤j∧j < q.2))(hle:off+vs.length≤cs.length)(k:K undef I (L.set i [(b,.cells (G1 cs off vs).toArray e q)])) :
    OpS P C N ⟨d,.store T x y,ty,ps,af,g⟩ ρ I L K:=fun a w ha hst=>by
  have hb:=hst.mem.loc (b,.cells cs.toArray e q) (G3 hL (by simp))
  have hvs:v.cells.size=vs.length:=by rw [←hv];simp
  have hall:∀ u∈vs,u.oneCell'=true:=fun u hu=>List.all_eq_true.1 h1 u hu
  have hrun:=W8 P b off e q vs 0 cs.toArray w hb (by simpa using hle) hall (by simpa using hq)
  have hr:(execOp a.eval ⟨d,.store T x y,ty,ps,af,g⟩).run P w = .ok .skip (w.setRow b (G1 cs off vs).toArray):=by
    simp only [Nat.add_zero] at hrun
    simp [execOp,ha.ev hx,ha.ev hy,Instr.storeAt,Instr.sureAddr,storeVar,hs.run,hvs,hv,hrun,G1]
  rw [hr]
  exact⟨I,_,a9r hst hL _,k⟩
theorem OpH.stE {α β:Type}{r:u3 α}{s:u3 β}{i:Inhabited β}{w:Value}{l:j9 α β}{ags:List α}{c:β}{kk:Nat}{bb:Bool}{E':TypeId}{F:Bool×C3→j8}(tT:K1 P T β)(hx:G5 C σ H x (.el w kk l))(hy:G5 C σ H y (.v c))
    (hH:H9 H (bb,.own E' w ags) F)(hk:kk < ags.length)(k:KH .any (F (bb,.own E' w (ags.set kk (l.set c ags[kk]))))):OpH P C N ⟨d,.store T x y,ty,ps,af,g⟩ σ H KH:=fun ρ I L hs=>by
  obtain⟨u,h2,b,h3,rfl⟩:=hx ρ I L hs
  obtain⟨u,h7,vs,h8,rfl⟩:=hy ρ I L hs
  obtain⟨j,X,h4,h5,h6⟩:=hH.get hs.heap
  obtain⟨xs,ho,h9⟩:=h5.1
  rcases ho with ⟨_,h,_⟩|⟨b2,cc,sp,q,rfl,rfl,e1,e2,e3,e4,e5⟩
  · omega
  · cases h3
    have hfit:kk*u3.size α+l.off+vs.length≤xs.length:=by
      rw [u3.len h8,h9.len]
      have:=l.fits
      have h10:=Nat.mul_le_mul_right (u3.size α) (Nat.succ_le_of_lt hk)
      rw [Nat.succ_mul] at h10
      omega
    have hset:P2 I (ags.set kk (l.set c ags[kk])) (G1 xs (kk*u3.size α+l.off) vs):=by
      have h10:=h9.set kk hk (l.a7W (h9.get kk hk) h8)
      rw [a3E (by rw [u3.len h8];exact l.fits) (by
        rw [h9.len]
        have h11:=Nat.mul_le_mul_right (u3.size α) (Nat.succ_le_of_lt hk)
        rw [Nat.succ_mul] at h11
        omega)] at h10
      exact h10
    refine OpS.c7u j (by rw [u3.len h8];exact tT.size) h2 h7 (a3Y h8) (u3.flat h8) h4 (fun i hi=>by rcases e5 with rfl|rfl<;>simp at hi ⊢ <;> omega) (by rw [List.length_append];omega) ?_
    have hseg:G1 (xs++sp) (kk*u3.size α+l.off) vs=G1 xs (kk*u3.size α+l.off) vs++sp:=a55 xs sp _ vs hfit
    have hlen:(G1 xs (kk*u3.size α+l.off) vs).length=xs.length:=K7 _ _ _ hfit
    refine⟨Le.refl I,.any,_,trivial,h6 I (bb,.own E' _ (ags.set kk (l.set c ags[kk]))) _ (Le.refl I) ⟨⟨G1 xs (kk*u3.size α+l.off) vs,.inr ⟨b,cc,sp,q,?_,by rw [hseg],by rw [hlen,List.length_set];exact e1,by rw [List.length_append,hlen,←List.length_append];exact e2,by rw [List.length_set];exact e3,e4,?_⟩,hset⟩,fun hb p hp => ?_⟩,k⟩
    · rw [List.length_set]
    · rw [List.length_append,hlen,←List.length_append];exact e5
    · have:=h5.2 hb (b,.cells (xs++sp).toArray E' q) (by simp)
      simp only [List.mem_singleton] at hp
      subst hp;exact this
theorem OpH.ofX {o:Oper}(h:∀ ρ I L,RSt C I L σ H ρ→OpX P N o ρ I L (fun v J X=>∃ r B Xc,X = [Xc]∧F9 J r v∧C3.a0H J B Xc∧KH r ((true,B)::H))):OpH P C N o σ H KH:=fun ρ I L hs a w ha hst =>
 (h ρ I L hs a w ha hst.mem).mono fun v w' ⟨J,X,hc,hle,hn,hm,hX,r,B,Xc,e,h1,h2,h3⟩=>by
  subst e
  exact⟨J,[Xc]++L,hst.step hc hle hn hm hX,hle,r,(true,B)::H,h1,⟨Xc,L,j0,⟨h2,fun _ p hp=>Nat.le_trans hst.W4.size (hX p (by simpa using hp))⟩,hs.heap.mono hle⟩,h3⟩
theorem OpH.alloc {α:Type}{r:u3 α}{i:Inhabited α}(tT:K1 P T α)(k:∀ b,KH (.ln (ptr b 0) (j9.id (α:=α))) ((true,.ob (ptr b 0) (default:α))::H)):OpH P C N ⟨d,.alloc T,ty,ps,af,g⟩ σ H KH :=
 .ofX fun ρ I L hs=>by
  obtain⟨zs,h1,h2⟩:=tT.zero
  exact .alloc h1 fun b=>⟨.ln (ptr b 0) (j9.id (α:=α)),.ob (ptr b 0) (default:α),_,j0,⟨b,j0,j0⟩,⟨b,T,zs,j0,j0,h2 I⟩,k b⟩
theorem OpH.box {α:Type}{r:u3 α}{a:α}(hx:G5 C σ H x (.v a))(k:∀ b,KH (.ln (ptr b 0) (j9.id (α:=α))) ((true,.ob (ptr b 0) a)::H)):OpH P C N ⟨d,.box T x,ty,ps,af,g⟩ σ H KH :=
 .ofX fun ρ I L hs=>by
  obtain⟨u,h1,cs,h2,rfl⟩:=hx ρ I L hs
  exact .box h1 (a3Y h2) fun b=>⟨.ln (ptr b 0) (j9.id (α:=α)),.ob (ptr b 0) a,_,j0,⟨b,j0,j0⟩,⟨b,T,cs,j0,j0,h2⟩,k b⟩
theorem OpP.ix {β:Type}{s:u3 β}{n:Nat}{a:M4 n β}{i:Int}(hf:O7 P T=some (n,u3.size β,false))(hb:u3.agg β=false)(hx:G5 C σ H x (.v a))(hy:G5 C σ H y (.v i))(h0:0≤i)(h1:i < n)
    (k:K (.v (a.l[i.toNat]'(by rw [a.h];omega)))):OpP P N C ⟨d,.index T x y,ty,ps,af,g⟩ σ H K :=
  .vk k (fun ρ I L hs=>by
    obtain⟨u,h2,cs,h3,rfl⟩:=hx ρ I L hs
    have hgs:=P2.get h3 i.toNat (by rw [a.h];omega)
    obtain⟨v,hv,hv2⟩:=a9s hgs hb
    refine .c1x hf h2 (hy.int hs).1 h0 h1 (v:=v) ?_ ⟨_,hgs,hv2.symm⟩
    have:(K5 cs (i.toNat*u3.size β) (u3.size β))[0]?=some v:=by rw [hv];rfl
    simpa using a1V this)
theorem OpP.b8s {s:Str}{i:Int}(hT:P.underlying T=some .string)(hx:G5 C σ H x (.v s))(hy:G5 C σ H y (.v i))(h0:0≤i)(h1:i < s.l.length)(k:K (.v (s.l[i.toNat]'(by omega)))):OpP P N C ⟨d,.index T x y,ty,ps,af,g⟩ σ H K :=
 .vk k (fun ρ I L hs=>by
  obtain⟨b,h2,h3⟩:=hx.str hs
  obtain⟨h4,_⟩:=hy.int hs
  obtain⟨m,rfl⟩:=Int.eq_ofNat_of_zero_le h0
  refine .c1y hT h2 h4 (c:=s.l[m]'(by omega)) ?_ ⟨_,j0,j0⟩
  rw [h3]
  exact List.getElem?_eq_getElem _)
theorem P2.cut {α:Type}[u3 α]{I:Im}{l:List α}{xs:List Value}(h:P2 I l xs)(a b:Nat)(hb:b≤l.length):P2 I ((l.take b).drop a) ((xs.take (b*u3.size α)).drop (a*u3.size α)):=by
 have h1:P2 I (l.take b) (xs.take (b*u3.size α)):=by
  have h2:=h
  rw [←List.take_append_drop b l] at h2
  have:=h2.split.1
  rwa [List.length_take,Nat.min_eq_left hb] at this
 by_cases ha:a≤b
 ·have h2:=h1
  rw [←List.take_append_drop a (l.take b)] at h2
  have:=h2.split.2
  rwa [List.length_take,List.length_take,Nat.min_eq_left hb,Nat.min_eq_left ha] at this
 ·have e:(l.take b).drop a = []:=List.drop_eq_nil_of_le (by rw [List.length_take];omega)
  have e2:(xs.take (b*u3.size α)).drop (a*u3.size α) = []:=List.drop_eq_nil_of_le (by
   rw [List.length_take]
   exact Nat.le_trans (Nat.min_le_left _ _) (Nat.mul_le_mul_right _ (by omega)))
  rw [e,e2];rfl
theorem OpP.sl {α:Type}{r:u3 α}{i0:Inhabited α}{l:List α}{lo hi:Option Operand}(a b:Nat)(tE:K1 P E α)(hT:P.underlying T=some (.slice E))(hx:G5 C σ H x (.v l))
    (hlo:(lo=none∧a=0)∨∃ o,lo=some o∧G5 C σ H o (.v (a:Int)))(hhi:(hi=none∧b=l.length)∨∃ o,hi=some o∧G5 C σ H o (.v (b:Int)))(h1:a≤b)(h2:b≤l.length)
    (k:K (.v ((l.take b).drop a))):OpP P N C ⟨d,.slice T x lo hi none,ty,ps,af,g⟩ σ H K :=
  .vk k (fun ρ I L hs=>by
    obtain⟨u,hu,xs,hsl,hl⟩:=hx.sl hs
    refine .slice hT tE.size hu hsl (l:=a) (h:=b) ?_ ?_ h1 h2 (fun v' hv' => ?_)
    · rcases hlo with ⟨rfl,rfl⟩|⟨o,rfl,ho⟩
      · exact .inl ⟨j0,j0⟩
      · exact .inr ⟨_,o,j0,(ho.int hs).1⟩
    · rcases hhi with ⟨rfl,rfl⟩|⟨o,rfl,ho⟩
      · exact .inl ⟨j0,j0⟩
      · exact .inr ⟨_,o,j0,(ho.int hs).1⟩
    · refine⟨_,⟨v',j0,_,?_,hl.cut a b h2⟩,j0⟩
      have e:((l.take b).drop a).length=b - a:=by simp [Nat.min_eq_left h2]
      rw [e];exact hv')
section sl
variable {α:Type}{r:u3 α}{i0:Inhabited α}{l:List α}{i j:Int}(tE:K1 P E α)(hT:P.underlying T=some (.slice E))(hx:G5 C σ H x (.v l))
include tE hT hx
theorem OpP.c4Z (hy:G5 C σ H y (.v i))(h0:0≤i)(h1:i≤l.length)(k:K (.v (l.drop i.toNat))):OpP P N C ⟨d,.slice T x (some y) none none,ty,ps,af,g⟩ σ H K :=
 .sl i.toNat l.length tE hT hx (.inr ⟨y,rfl,by rw [Int.toNat_of_nonneg h0];exact hy⟩) (.inl ⟨rfl,rfl⟩) (by omega) (Nat.le_refl _) (by rw [List.take_length];exact k)
theorem OpP.c9v (hz:G5 C σ H z (.v j))(h0:0≤j)(h1:j≤l.length)(k:K (.v (l.take j.toNat))):OpP P N C ⟨d,.slice T x none (some z) none,ty,ps,af,g⟩ σ H K :=
 .sl 0 j.toNat tE hT hx (.inl ⟨rfl,rfl⟩) (.inr ⟨z,rfl,by rw [Int.toNat_of_nonneg h0];exact hz⟩) (by omega) (by omega) (by rw [List.drop_zero];exact k)
theorem OpP.c9w (hy:G5 C σ H y (.v i))(hz:G5 C σ H z (.v j))(h0:0≤i)(h1:i≤j)(h2:j≤l.length)(k:K (.v ((l.take j.toNat).drop i.toNat))):OpP P N C ⟨d,.slice T x (some y) (some z) none,ty,ps,af,g⟩ σ H K :=
 .sl i.toNat j.toNat tE hT hx (.inr ⟨y,rfl,by rw [Int.toNat_of_nonneg h0];exact hy⟩) (.inr ⟨z,rfl,by rw [Int.toNat_of_nonneg (by omega)];exact hz⟩) (by omega) (by omega) k
end sl
theorem OpP.c14 {α β:Type}{n:Nat}{r:u3 α}{s:u3 β}{ag:Bool}{w:Value}{l:j9 α (M4 n β)}(hf:O7 P T=some (n,u3.size β,ag))(hx:G5 C σ H x (.ln w l))(k:K (.sv w l)):OpP P N C ⟨d,.slice T x none none none,ty,ps,af,g⟩ σ H K :=
 .vk k (fun ρ I L hs=>by
  obtain⟨u,h2,b,h3,rfl⟩:=hx ρ I L hs
  exact .a9R hf h2 ⟨b,h3,j0⟩)
theorem OpP.a1W {β:Type}{n:Nat}{s:u3 β}{ag:Bool}{a:M4 n β}(hn:n≤9223372036854775807)(hf:O7 P T=some (n,u3.size β,ag))(hx:G5 C σ H x (.p a))(k:K (.v a.l)):OpP P N C ⟨d,.slice T x none none none,ty,ps,af,g⟩ σ H K :=
 .vk k (fun ρ I L hs=>by
  obtain⟨u,h2,b,o,cs,rfl,h3,h4⟩:=hx ρ I L hs
  refine .a9R hf h2 ⟨_,⟨_,j0,cs,?_,h3⟩,j0⟩
  have hl:=h3.len
  rw [a.h] at hl ⊢
  exact Sl.a3T h4 hl (Nat.le_refl _) (by unfold maxLen;omega))
end Go.Ab
namespace Go.Ab
open Go.Fl Go.RowKit
open u3 (rep)
variable {P:Program}{C:Ctx}{N:Nat}{σ:o8}{H:j8}{K:AV→Prop}{KH:AV→j8→Prop}{d:Option Nat}{ty:TypeId}{ps:String}{af:Array Edge}{g:Option (Nat×Bool)}
variable {x y z:Operand}{T T2 E S D U:TypeId}
inductive a58 {α:Type}[u3 α](C:Ctx)(σ:o8)(H:j8)(place:Nat→Option (Nat×Nat)):List (Nat×Operand)→α→α→Prop
 | nil {x:α}:a58 C σ H place [] x x
 | cons {i:Nat} {o:Operand} {γ:Type} {q:u3 γ} {r:List (Nat×Operand)} {x y:α} (m:j9 α γ) (c:γ) (hi:place i=some (m.off,u3.size γ)) (ho:G5 C σ H o (.v c)) (t:a58 C σ H place r (m.set c x) y):a58 C σ H place ((i,o)::r) x y
theorem a58.run {α:Type}[u3 α]{place:Nat→Option (Nat×Nat)}{ρ:Env}{I:Im}{L:Lh}(hs:RSt C I L σ H ρ){ps:List (Nat×Operand)}{x y:α}(h:a58 C σ H place ps x y):∀ {cells:Array Value},rep I x cells.toList →
    ∃ pv out,evP ρ ps=some pv∧Instr.fill place cells pv=some out∧rep I y out.toList:=by
  induction h with
  | nil=>intro cells hc;exact⟨[],cells,rfl,rfl,hc⟩
  | @cons i o γ q r x y m c hi ho t ih =>
    intro cells hc
    obtain⟨u,h1,vs,h2,rfl⟩:=ho ρ I L hs
    have hcv:=a3Y h2
    have hsz:(asV (u3.agg γ) vs).cells.size=u3.size γ:=by have:=congrArg List.length hcv;rw [u3.len h2] at this;simpa using this
    have hcl:cells.size=u3.size α:=by have:=u3.len hc;simpa using this
    have hfit:=m.fits
    have hseg:=a9T (cells:=cells) (vs:=(asV (u3.agg γ) vs).cells) (off:=m.off) (by rw [hsz,hcl];exact hfit)
    rw [hcv] at hseg
    obtain⟨pv,out,h3,h4,h5⟩:=ih (cells:=(asV (u3.agg γ) vs).cells.zipIdx.foldl (fun cs (c,j)=>cs.setIfInBounds (m.off+j) c) cells) (by rw [hseg];exact m.a7W hc h2)
    refine⟨(i,asV (u3.agg γ) vs)::pv,out,by simp [evP,h1,h3],?_,h5⟩
    simp only [Instr.fill,hi]
    rw [if_neg (by simp only [hsz,ne_eq,not_true,hcl,gt_iff_lt];simp;omega)]
    exact h4
theorem c15 {offs:List (Nat×Nat)}(hT:E5 P T=some offs)(w:World):∃ fs,P.underlying T=some (.struct fs)∧(fs.mapM fun f=>(do pure (f.offset,←sizeOf f.type):Sem (Nat×Nat))).run P w = .ok offs.toArray w:=by
  unfold E5 at hT
  split at hT
  · rename_i fs hu
    have hpl : ∀ (l : List Field) (o : List (Nat × Nat)), (l.mapM fun f => (P.info? f.type).map fun i => (f.offset, i.size)) = some o →
        (l.mapM fun f=>(do pure (f.offset,←sizeOf f.type):Sem (Nat×Nat))).run P w = .ok o w:=by
      intro l
      induction l with
      | nil=>intro o h;simp at h;subst h;simp
      | cons f r ih =>
        intro o h
        rw [List.mapM_cons] at h
        cases hq:P.info? f.type with
        | none=>simp [hq] at h
        | some inf =>
          cases hr:(r.mapM fun f=>(P.info? f.type).map fun i=>(f.offset,i.size)) with
          | none=>simp [hq,hr] at h
          | some o' =>
            simp [hq,hr] at h
            subst h
            have hsz:G6 P f.type inf.size:=by simp [G6,hq]
            rw [List.mapM_cons,Sem.run_bind,Sem.run_bind,hsz.run]
            simp only [Result.andThen_ok,Sem.run_pure,Sem.run_bind]
            rw [ih o' hr]
            simp
    refine⟨fs,hu,?_⟩
    rw [Array.mapM_eq_mapM_toList,map_eq_pure_bind,Sem.run_bind,hpl fs.toList offs hT]
    simp
  · cases hT
theorem OpP.a3A {α : Type}{r : u3 α}{i0 : Inhabited α}{offs : List (Nat × Nat)}{parts : Array (Nat × Operand)}{a : α}(c : α)(hg : u3.agg α = true)(tT : K1 P T α)(hT : E5 P T = some offs)(hp : a58 C σ H (fun i => offs[i]?) parts.toList (default : α) a)(e : a = c)(k : K (.v c)) :
    OpP P N C ⟨d,.build T parts,ty,ps,af,g⟩ σ H K:=by
  subst e
  exact .vk k (fun ρ I L hs=>by
    obtain⟨zs,hz1,hz2⟩:=tT.zero
    intro ac w ha hm
    obtain⟨zv,h1,h2⟩:=a2V hz1 w
    obtain⟨pv,out,h3,h4,h5⟩:=hp.run hs (cells:=zv.cells) (by rw [h2];exact hz2 I)
    have hparts:(parts.map fun x=>(x.1,ac.eval x.2)).toList=pv:=by rw [Array.toList_map];exact ha.evP h3
    obtain⟨fs,hu,h6⟩:=c15 hT w
    refine⟨.agg out,⟨out.toList,h5,by rw [hg];rfl⟩,?_⟩
    have e1:(fun (i:Nat)=>offs.toArray[i]?)=fun (i:Nat)=>offs[i]?:=by funext i;simp
    simp only [execOp,Instr.build,Sem.run_bind,h1,Result.andThen_ok,run_underlying hu,h6,hparts,Sem.run_pure,e1,h4])
theorem OpP.a1y {β : Type}{n : Nat}{r : u3 β}{i0 : Inhabited β}{ag : Bool}{parts : Array (Nat × Operand)}{a : M4 n β}(c : M4 n β)(tT : K1 P T (M4 n β))(hT : O7 P T = some (n, u3.size β, ag))(hp : a58 C σ H (fun i => some (i * u3.size β, u3.size β)) parts.toList (default : M4 n β) a)(e : a = c)(k : K (.v c)) :
    OpP P N C ⟨d,.build T parts,ty,ps,af,g⟩ σ H K:=by
  subst e
  exact .vk k (fun ρ I L hs=>by
    obtain⟨zs,hz1,hz2⟩:=tT.zero
    intro ac w ha hm
    obtain⟨zv,h1,h2⟩:=a2V hz1 w
    obtain⟨pv,out,h3,h4,h5⟩:=hp.run hs (cells:=zv.cells) (by rw [h2];exact hz2 I)
    have hparts:(parts.map fun x=>(x.1,ac.eval x.2)).toList=pv:=by rw [Array.toList_map];exact ha.evP h3
    unfold O7 at hT
    split at hT
    · rename_i m e hu
      split at hT
      · rename_i inf dd h6 h7
        simp only [Option.some.injEq,Prod.mk.injEq] at hT
        obtain⟨rfl,h8,_⟩:=hT
        have hsz:G6 P e (u3.size β):=by simp [G6,h6,h8]
        refine⟨.agg out,⟨out.toList,h5,j0⟩,?_⟩
        simp only [execOp,Instr.build,Sem.run_bind,h1,Result.andThen_ok,run_underlying hu,hsz.run,hparts,h4,Sem.run_pure]
      · cases hT
    · cases hT)
inductive a8C {α:Type}[u3 α](C:Ctx)(σ:o8)(H:j8):Nat→List (Nat×Operand)→List α→Prop
 | nil {i:Nat}:a8C C σ H i [] []
 | cons {i:Nat} {o:Operand} {c:α} {r:List (Nat×Operand)} {l:List α} (ho:G5 C σ H o (.v c)) (t:a8C C σ H (i+1) r l):a8C C σ H i ((i,o)::r) (c::l)
theorem a8C.run {α:Type}[u3 α]{ρ:Env}{I:Im}{L:Lh}(hs:RSt C I L σ H ρ){i:Nat}{ps:List (Nat×Operand)}{l:List α}(h:a8C C σ H i ps l):∃ pv vs,evP ρ ps=some pv∧Z7 (u3.size α) i pv=some vs∧P2 I l vs:=by
 induction h with
 | nil=>exact⟨[],[],rfl,rfl,rfl⟩
 | @cons i o c r l ho t ih =>
  obtain⟨u,h1,cs,h2,rfl⟩:=ho ρ I L hs
  obtain⟨pv,vs,h3,h4,h5⟩:=ih
  have hcv:=a3Y h2
  have hsz:(asV (u3.agg α) cs).cells.size=u3.size α:=by have:=congrArg List.length hcv;rw [u3.len h2] at this;simpa using this
  refine⟨(i,asV (u3.agg α) cs)::pv,cs++vs,by simp [evP,h1,h3],?_,cs,vs,rfl,h2,h5⟩
  have b1:Nat.beq i i=true:=Nat.beq_refl i
  simp only [Z7,hsz,b1,Nat.beq_refl,Bool.and_self,cond_true,h4,Option.map_some,hcv]
theorem OpH.buildSlice {α:Type}{r:u3 α}{i0:Inhabited α}{n:Nat}{l:List α}{parts:Array (Nat×Operand)}(tE:K1 P E α)(hT:P.underlying T=some (.slice E))(hp:a8C C σ H 0 parts.toList l)(hn:l.length=n)(hb:n*u3.size α≤16777216)
    (k:∀ b,KH (.raw (slc b 0 n n)) ((true,.own E (slc b 0 n n) l)::H)):OpH P C N ⟨d,.buildSlice T n parts,ty,ps,af,g⟩ σ H KH :=
  .ofX fun ρ I L hs=>by
    obtain⟨zs,hz1,hz2⟩:=tE.zero
    obtain⟨pv,vs,h1,h2,h3⟩:=hp.run hs
    subst hn
    have hl:=h3.len
    refine .buildSlice hT tE.size hz1 (u3.len (hz2 I)) h1 h2 hl hb fun b=>⟨.raw (slc b 0 l.length l.length),.own E (slc b 0 l.length l.length) l,_,j0,j0,⟨vs,.of (.made hl ?_),h3⟩,k b⟩
    have:1≤u3.size α:=Nat.one_le_iff_ne_zero.2 tE.pos
    have:=Nat.mul_le_mul_left l.length this
    unfold maxLen;omega
structure SlT (P:Program)(T E:TypeId)(α:Type)(by_:Nat)[u3 α][Inhabited α]:Prop where
 elt:Elt P T E (u3.size α) by_
 ty:K1 P E α
theorem b1j {zs:List Value}{n:Nat}(h:zs.length≠0):madeCells zs.toArray (n*zs.length)=(List.replicate n zs).flatten.toArray:=by
 apply Array.ext'
 apply List.ext_getElem?
 intro i
 unfold madeCells
 simp only [Array.toList_map,Array.toList_range,List.getElem?_map,List.size_toArray]
 by_cases hi:i < n*zs.length
 ·rw [List.getElem?_range hi]
  have hm:i % zs.length < zs.length:=Nat.mod_lt _ (by omega)
  simp only [Option.map_some]
  have key:∀ (n i:Nat),i < n*zs.length→(List.replicate n zs).flatten[i]?=zs[i % zs.length]?:=by
   intro n
   induction n with
   | zero=>intro i hi;simp at hi
   | succ n ih =>
    intro i hi
    rw [List.replicate_succ,List.flatten_cons]
    by_cases h1:i < zs.length
    ·rw [List.getElem?_append_left h1,Nat.mod_eq_of_lt h1]
    ·rw [List.getElem?_append_right (by omega),ih (i - zs.length) (by rw [Nat.succ_mul] at hi;omega)]
     exact congrArg (fun q=>zs[q]?) (Nat.mod_eq_sub_mod (by omega)).symm
  rw [key n i hi]
  simp [hm]
 ·have hf:((List.replicate n zs).flatten).length=n*zs.length:=by simp
  rw [List.getElem?_eq_none (by simp;omega),List.getElem?_eq_none (by rw [hf];omega)]
  rfl
theorem OpH.make {α:Type}{r:u3 α}{i0:Inhabited α}{by_:Nat}{i:Int}(st:SlT P T E α by_)(hx:G5 C σ H x (.v i))(h0:0≤i)(hb:(by_:Int)*i≤281474976710656)(hn:i≤9223372036854775807)
    (k:∀ b,KH (.raw (slc b 0 i.toNat i.toNat)) ((true,.own E (slc b 0 i.toNat i.toNat) (List.replicate i.toNat (default:α)))::H)):OpH P C N ⟨d,.makeSlice T x x,ty,ps,af,g⟩ σ H KH :=
  .ofX fun ρ I L hs=>by
    obtain⟨inf,zv,h1,h2,h3,h4,h5⟩:=st.elt.info
    obtain⟨zs,hz1,hz2⟩:=st.ty.zero
    have hze:zs=zv.cells.toList:=by
      have:Y4 P E=some zv.cells.toList:=by simp [Y4,h1,h2]
      rw [this] at hz1;exact(Option.some.inj hz1).symm
    have hzl:zs.length=u3.size α:=u3.len (hz2 I)
    have hrep:P2 I (List.replicate i.toNat (default:α)) (List.replicate i.toNat zs).flatten:=a1A (hz2 I) i.toNat
    obtain⟨hxi,_⟩:=hx.int hs
    refine a9n (v:=fun b=>slc b 0 i.toNat i.toNat) (cs:=(List.replicate i.toNat zs).flatten) (e:=E) (fun a w ha hm => ?_)
      fun b=>⟨.raw (slc b 0 i.toNat i.toNat),.own E (slc b 0 i.toNat i.toNat) (List.replicate i.toNat (default:α)),_,rfl,rfl,⟨_,.of ?_,hrep⟩,k b⟩
    · have h:=run_make (P:=P) w T E inf zv st.elt.und h1 h2 .i64 .i64 i i h0 (Int.le_refl _) (by rw [h4];exact hb) hn
      simp only [execOp,Sem.run_bind,ha.ev hxi,h,Result.andThen_ok,Sem.run_pure]
      have e1:madeCells zv.cells (i.toNat*inf.size)=(List.replicate i.toNat zs).flatten.toArray:=by
        have:=b1j (zs:=zs) (n:=i.toNat) (by rw [hzl];exact st.ty.pos)
        rw [hze] at this ⊢
        rw [←this,h3,←hzl,hze]
      rw [e1]
    · have:=Own.made (e:=E) (s:=u3.size α) (b:=b) (n:=i.toNat) (xs:=(List.replicate i.toNat zs).flatten) (by simp [hzl]) (by unfold maxLen;omega)
      simpa using this
theorem SlT.pos {α:Type}[u3 α][Inhabited α]{by_:Nat}(st:SlT P T E α by_):0 < u3.size α:=Nat.pos_of_ne_zero st.ty.pos
def a5Y (P:Program)(C:Ctx)(σ:o8)(H:j8)(y:Operand){α:Type}[u3 α](m:List α):Prop:=∀ ρ I L,RSt C I L σ H ρ→∃ u news,ev ρ y=some u∧Src P I L (u3.size α) u m.length news∧P2 I m news
theorem a5Y.v {α:Type}{r:u3 α}{m:List α}(h:G5 C σ H y (.v m)):a5Y P C σ H y m:=fun ρ I L hs=>by
 obtain⟨u,h1,xs,h2,h3⟩:=h.sl hs
 exact⟨u,xs,h1,.sl h2,h3⟩
theorem a5Y.own {α:Type}{r:u3 α}{t:Nat}{w:Value}{m:List α}{bb:Bool}{E':TypeId}{F:Bool×C3→j8}(ht:F6 σ t=some (.raw w))(hH:H9 H (bb,.own E' w m) F):a5Y P C σ H (.tmp t) m:=fun ρ I L hs=>by
 obtain⟨u,h1,rfl⟩:=hs.env t _ ht
 obtain⟨j,X,h2,h3,_⟩:=hH.get hs.heap
 obtain⟨xs,h4,h5⟩:=h3.1
 exact⟨_,xs,h1,Ab.Src.c9q j h2 h4,h5⟩
theorem a5Y.str {s:Str}(h:G5 C σ H y (.v s)):a5Y P C σ H y s.l:=fun ρ I L hs=>by
 obtain⟨b,h1,h2⟩:=h.str hs
 refine⟨_,C5 s.l,h1,?_,?_⟩
 ·have:=Src.str (P:=P) (I:=I) (L:=L) b
  rw [h2] at this
  have e:b.size=s.l.length:=by rw [←h2];rfl
  rw [e] at this
  exact this
 ·have:∀ l:List UInt8,P2 I l (C5 l):=by
   intro l
   induction l with
   | nil=>rfl
   | cons c l ih=>exact⟨[Fl.u8 c],C5 l,rfl,rfl,ih⟩
  exact this s.l
theorem OpH.append {α:Type}{r:u3 α}{i0:Inhabited α}{by_ t:Nat}{w:Value}{l m:List α}{bb:Bool}{F:Bool×C3→j8}(st:SlT P T E α by_)(hU:(∃ E2,P.underlying U=some (.slice E2))∨P.underlying U=some .string)(hx:F6 σ t=some (.raw w))
    (hH:H9 H (bb,.own E w l) F)(hy:a5Y P C σ H y m)(hb:(l.length+m.length)*by_≤140737488355328)(hn:l.length+m.length≤9223372036854775807)(k:∀ w',KH (.raw w') (F (true,.own E w' (l++m))))(hbb:bb=true) :
    OpH P C N ⟨d,.call ⟨.builtin .append,#[.tmp t,y],#[T,U]⟩,ty,ps,af,g⟩ σ H KH:=fun ρ I L hs=>by
  obtain⟨u,h1,rfl⟩:=hs.env t _ hx
  obtain⟨v,news,h2,h3,h4⟩:=hy ρ I L hs
  obtain⟨j,X,h5,h6,h7⟩:=hH.get hs.heap
  obtain⟨xs,h8,h9⟩:=h6.1
  intro a w0 ha hst
  have hfr:=h6.2 hbb
  refine Yld.mono (OpS.b2E (K:=fun v' J L'=>∃ X',L'=L.set j X'∧J=I∧a0Q E (u3.size α) v' (l.length+m.length) (xs++news) X'∧(∀ p∈X',p.1∈X.map Prod.fst∨C.w0.heap.size≤p.1)) j st.elt st.pos hU (x := .tmp t) h1 h2 h5 h8 h3 h4.flat (by unfold maxLen;omega) hb (fun v' X' ho hn=>⟨X',rfl,rfl,ho,hn⟩) a w0 ha hst) ?_
  rintro v' w' ⟨J,L',hst',X',rfl,rfl,ho,hnew⟩
  refine⟨J,_,hst',Le.refl J,.raw v',_,rfl,h7 J (true,.own E v' (l++m)) X' (Le.refl J) ⟨⟨xs++news,by rw [List.length_append];exact ho,h9.append h4⟩,fun _ p hp => ?_⟩,k v'⟩
  rcases hnew p hp with h|h
  · obtain⟨q,hq,hqe⟩:=List.mem_map.1 h
    rw [←hqe];exact hfr q hq
  · exact h
theorem OpX.push {ρ:Env}{I:Im}{L:Lh}{KX:Value→Im→Lh→Prop}{o:Oper} (h:∀ a w,Fits N ρ a→Mem I L w→(∃ v,(execOp a.eval o).run P w = .ok (.value v) w∧KX v I []) ∨
    ∃ v w' ob,(execOp a.eval o).run P w = .ok (.value v) w'∧w'.heap=w.heap.push ob∧w'.os=w.os∧w'.tape=w.tape∧w'.output=w.output∧KX v I [[(w.heap.size,ob)]]):OpX P N o ρ I L KX:=fun a w ha hm=>by
  rcases h a w ha hm with ⟨v,hr,hk⟩|⟨v,w',ob,hr,hw,h1,h2,h3,hk⟩
  · rw [hr];exact⟨I,[],Chg.refl _ _,Le.refl _,fun b h0 h1=>absurd h0 h1,hm,by simp,hk⟩
  · rw [hr]
    have hnI:I w.heap.size=none:=by
      cases hi:I w.heap.size with
      | none=>rfl
      | some o=>have:=D7 (hm.im _ _ hi);omega
    have hnew:w'.heap[w.heap.size]?=some ob:=by rw [hw];simp
    have hold:∀ k,k < w.heap.size→w'.heap[k]?=w.heap[k]?:=fun k hk=>by
      rw [hw,Array.getElem?_push_lt hk,Array.getElem?_eq_getElem hk]
    refine⟨I,[[(w.heap.size,ob)]],⟨h1,h2,h3,by rw [hw];simp,fun k hk _=>hold k hk⟩,Le.refl I,fun b h0 h1=>absurd h0 h1,⟨fun b o hb => ?_,fun p hp => ?_,fun p hp => ?_,?_⟩,?_,hk⟩
    · exact(hold b (D7 (hm.im b o hb))).trans (hm.im b o hb)
    · simp only [List.cons_append,List.nil_append,List.flatten_cons,List.mem_cons] at hp
      rcases hp with rfl|hp
      · exact hnew
      · exact(hold _ (D7 (hm.loc p hp))).trans (hm.loc p hp)
    · simp only [List.cons_append,List.nil_append,List.flatten_cons,List.mem_cons] at hp
      rcases hp with rfl|hp
      · exact hnI
      · exact hm.sep p hp
    · simp only [List.cons_append,List.nil_append,List.flatten_cons,List.map_cons,List.nodup_cons,List.mem_map,not_exists,not_and]
      refine⟨fun p hp e => ?_,hm.nodup⟩
      have:=D7 (hm.loc p hp)
      omega
    · intro p hp;simp at hp;subst hp;exact Nat.le_refl _
theorem OpP.c41 {α:Type}{r:u3 α}{i0:Inhabited α}{by_:Nat}{l m:List α}(st:SlT P T E α by_)(hU:(∃ E2,P.underlying U=some (.slice E2))∨P.underlying U=some .string)(hx:G5 C σ H x (.vc l))(hy:a5Y P C σ H y m)
    (hb:(l.length+m.length)*by_≤140737488355328)(hn:l.length+m.length≤9223372036854775807)(k:K (.v (l++m))):OpP P N C ⟨d,.call ⟨.builtin .append,#[x,y],#[T,U]⟩,ty,ps,af,g⟩ σ H K:=fun ρ I L hs=>by
  obtain⟨u,h1,⟨a0,rfl⟩,xs,hsl,hrl⟩:=hx ρ I L hs
  obtain⟨v,news,h2,h3,h4⟩:=hy ρ I L hs
  obtain⟨inf,zv,e1,e2,e3,e4,e5⟩:=st.elt.info
  refine OpX.frz (OpX.push fun a w ha hm => ?_)
  have hcells:∀ w',w'.heap=w.heap→(Builtin.firstCells inf.size m.length v).run P w' = .ok news.toArray w':=fun w' hw=>by
    have hm':Mem I L w':=⟨by rw [hw];exact hm.im,by rw [hw];exact hm.loc,hm.sep,hm.nodup⟩
    have:=h3.cells w' hm' m.length (Nat.le_refl _)
    rw [←h3.size,List.take_length,←e3] at this;exact this
  have hboth:(l.length+m.length≤l.length→(Builtin.append_ #[T,U] ty #[.slice a0 l.length l.length,v]).run P w=((match a0 with|some ad=>storeCells (ad.add (l.length*inf.size)) news|none=>pure ()).run P w).andThen fun _ w' => .ok (.slice a0 (l.length+m.length) l.length) w') ∧
    (l.length < l.length+m.length→∀ olds,((Builtin.firstCells inf.size l.length (.slice a0 l.length l.length)).run P w.drew = .ok olds w.drew) →
      (Builtin.append_ #[T,U] ty #[.slice a0 l.length l.length,v]).run P w = .ok (.slice (some ⟨w.heap.size,0,none⟩) (l.length+m.length) (grownCap w (l.length+m.length) l.length E))
        (w.drew.alloc (.cells (olds++news.toArray++Builtin.zeroCells zv.cells (grownCap w (l.length+m.length) l.length E - (l.length+m.length))) E))):=by
    rcases hU with ⟨E2,hU⟩|hU
    · exact a2e st.elt.und e1 e2 hU h3.len hcells hn (by rw [e4];exact hb)
    · exact a1w st.elt.und e1 e2 hU h3.len hcells hn (by rw [e4];exact hb)
  have hop:∀ r,(Builtin.append_ #[T,U] ty #[.slice a0 l.length l.length,v]).run P w=r→(execOp a.eval ⟨d,.call ⟨.builtin .append,#[x,y],#[T,U]⟩,ty,ps,af,g⟩).run P w=r.andThen fun v w' => .ok (.value v) w':=fun r hr=>by
    simp [execOp,resolve,invoke,builtin,ha.ev h1,ha.ev h2,hr]
  by_cases h0:m.length=0
  · have hm0:m = []:=List.eq_nil_of_length_eq_zero h0
    subst hm0
    have hnw:news = []:=by simpa [P2] using h4
    subst hnw
    left
    refine⟨.slice a0 l.length l.length,?_,fun J' hle _=>⟨j0,.v (l ++ []),?_,k⟩⟩
    · rw [hop _ (hboth.1 (by simp))]
      cases a0<;>simp [storeCells]
    · rw [List.append_nil]
      exact⟨_,⟨_,j0,xs,hsl.mono hle,hrl.mono hle⟩,j0⟩
  · right
    have hold:(Builtin.firstCells inf.size l.length (.slice a0 l.length l.length)).run P w.drew = .ok xs.toArray w.drew:=by
      have hm':Mem I L w.drew:=⟨hm.im,hm.loc,hm.sep,hm.nodup⟩
      have:=(Src.sl (P:=P) (L:=L) hsl).cells w.drew hm' l.length (Nat.le_refl _)
      rw [←hsl.len,List.take_length,←e3] at this;exact this
    have hr:=hboth.2 (by omega) _ hold
    have hge:=grownCap_ge w (l.length+m.length) l.length E
    have hcm:grownCap w (l.length+m.length) l.length E≤maxLen:=grownCap_le_maxLen w _ _ E (by unfold maxLen;omega)
    refine⟨.slice (some ⟨w.heap.size,0,none⟩) (l.length+m.length) (grownCap w (l.length+m.length) l.length E),w.drew.alloc (.cells (xs.toArray++news.toArray++Builtin.zeroCells zv.cells (grownCap w (l.length+m.length) l.length E - (l.length+m.length))) E),
      .cells (xs.toArray++news.toArray++Builtin.zeroCells zv.cells (grownCap w (l.length+m.length) l.length E - (l.length+m.length))) E,by rw [hop _ hr];rfl,rfl,rfl,rfl,rfl,fun J' hle hp=>⟨rfl,.v (l++m),⟨_,⟨_,rfl,xs++news,?_,(hrl.append h4).mono hle⟩,rfl⟩,k⟩⟩
    have hob:=hp (w.heap.size,_) (List.mem_singleton.2 rfl)
    rw [List.length_append]
    refine Sl.a3T ⟨_,_,_,hob,fun i q hq => ?_⟩ ?_ hge hcm
    · have hi:=(List.getElem?_eq_some_iff.1 hq).1
      rw [Nat.zero_add]
      have:(xs.toArray++news.toArray++Builtin.zeroCells zv.cells (grownCap w (l.length+m.length) l.length E - (l.length+m.length)))=(xs++news++(Builtin.zeroCells zv.cells (grownCap w (l.length+m.length) l.length E - (l.length+m.length))).toList).toArray:=by
        apply Array.ext';simp
      rw [this,List.getElem?_toArray,List.getElem?_append_left hi];exact hq
    · rw [List.length_append,hsl.len,h3.size,Nat.add_mul]
end Go.Ab
namespace Go.Ab
open Go.Fl Go.RowKit
open u3 (rep)
variable {P:Program}{C:Ctx}{N:Nat}{σ:o8}{H:j8}{K:AV→Prop}{KH:AV→j8→Prop}{d:Option Nat}{ty:TypeId}{ps:String}{af:Array Edge}{g:Option (Nat×Bool)}
variable {x y z:Operand}{T T2 E S D U:TypeId}
theorem a06 {I:Im}:∀ {l:List UInt8} {cs:List Value},P2 I l cs↔cs=C5 l
 | [],cs=>by simp [P2,C5]
 | x::l,cs=>by
  constructor
  ·rintro⟨c,r,rfl,h1,h2⟩
   rw [a06.1 h2,show c = [Fl.u8 x] from h1];rfl
  ·rintro rfl
   exact⟨[Fl.u8 x],C5 l,j0,j0,a06.2 j0⟩
theorem a60 {I:Im}:∀ {l:List UInt32} {cs:List Value},P2 I l cs↔cs=l.map Fl.u32
 | [],cs=>by simp [P2]
 | x::l,cs=>by
  constructor
  ·rintro⟨c,r,rfl,h1,h2⟩
   rw [a60.1 h2,show c = [Fl.u32 x] from h1];rfl
  ·rintro rfl
   exact⟨[Fl.u32 x],l.map Fl.u32,j0,j0,a60.2 j0⟩
theorem G5.a7Z {n:Nat}{a:M4 n UInt8}(h:G5 C σ H x (.v a)){ρ:Env}{I:Im}{L:Lh}(hs:RSt C I L σ H ρ):ev ρ x=some (.agg (C5 a.l).toArray):=by
 obtain⟨u,h1,cs,h2,rfl⟩:=h ρ I L hs
 rw [a06.1 h2] at h1
 exact h1
theorem b8t {n:Nat}{α:Type}[DecidableEq α](a b:M4 n α):decide (a.l=b.l)=decide (a=b):=by
 rw [decide_eq_decide]
 exact⟨M4.ext,fun h=>by rw [h]⟩
theorem OpP.b4f {n:Nat}{a b:M4 n UInt8}(hT:P.underlying T=some (.array n E))(hs:G6 P E 1)(hE:P.underlying E=some (.int .u8))(hg:P.eqGuardType P.depth T=false)(hx:G5 C σ H x (.v a))(hy:G5 C σ H y (.v b))(k:K (.v (decide (a=b)))) :
    OpP P N C ⟨d,.binOp .eql T x y T2,ty,ps,af,g⟩ σ H K :=
  .vk k (fun ρ I L hst => .d1R hT hs hE hg a.h b.h (hx.a7Z hst) (hy.a7Z hst) ⟨_,rfl,by rw [b8t];rfl⟩)
theorem OpP.c9x {n:Nat}{a b:M4 n UInt8}(hT:P.underlying T=some (.array n E))(hs:G6 P E 1)(hE:P.underlying E=some (.int .u8))(hg:P.eqGuardType P.depth T=false)(hx:G5 C σ H x (.v a))(hy:G5 C σ H y (.v b))(k:K (.v (decide (a≠b)))) :
    OpP P N C ⟨d,.binOp .neq T x y T2,ty,ps,af,g⟩ σ H K :=
  .vk k (fun ρ I L hst => .mk ⟨_,rfl,rfl⟩ fun ac w ha hm=>by
    have e1:∀ l:List UInt8,C5 l=(l.map fun c=>(c.toNat:Int)).map (Value.int .u8):=fun l=>by simp [C5,Fl.u8]
    have h:=a9Y (P:=P) (T:=T) (kd := .u8) w hT hs hE (a.l.map fun c=>(c.toNat:Int)) (b.l.map fun c=>(c.toNat:Int)) (by rw [List.length_map];exact a.h) (by rw [List.length_map];exact b.h)
    rw [←e1,←e1] at h
    have hd:decide ((a.l.map fun c=>(c.toNat:Int))=(b.l.map fun c=>(c.toNat:Int)))=decide (a=b):=by
      rw [←b8t,decide_eq_decide]
      exact a5a _ (fun a b h=>UInt8.toNat_inj.1 (Int.ofNat_inj.1 h)) a.l b.l
    rw [hd] at h
    have hneq:(binOp .neq T (.agg (C5 a.l).toArray) (.agg (C5 b.l).toArray)).run P w = .ok (.bool (!(decide (a=b)))) w:=by simp [binOp,h]
    simp only [execOp,ha.ev (hx.a7Z hst),ha.ev (hy.a7Z hst),Sem.run_bind,a5K w hg,hneq,Result.andThen_ok,Sem.run_pure]
    simp [asV,u3.agg])
theorem c17 {a b:ByteArray}{s t:Str}(ha:a.data.toList=s.l)(hb:b.data.toList=t.l):(a.toList == b.toList)=decide (s=t):=by
 have h1:∀ q:ByteArray,q.toList=q.data.toList:=fun q=>ByteArray.toList_eq q
 rw [h1,h1,ha,hb]
 cases s;cases t
 exact Bool.eq_iff_iff.2 (by simp)
theorem OpP.d2g {s t:Str}(hx:G5 C σ H x (.v s))(hy:G5 C σ H y (.v t))(k:K (.v (decide (s=t)))):OpP P N C ⟨d,.binOp .eql T x y T2,ty,ps,af,g⟩ σ H K :=
 .vk k (fun ρ I L hst=>by
  obtain⟨a,h1,h2⟩:=hx.str hst
  obtain⟨b,h3,h4⟩:=hy.str hst
  exact .mk ⟨_,rfl,rfl⟩ fun ac w ha hm=>by simp [execOp,ha.ev h1,ha.ev h3,eqGuard,binOp_string_eql,c17 h2 h4,asV,u3.agg])
theorem b4g (w:World){a b:Bool}(hT:P.underlying T=some .bool):(Op.equal T (.bool a) (.bool b)).run P w = .ok (a == b) w:=by
 have:∀ dd,(Op.equalIn (dd+1) T (.bool a) (.bool b)).run P w = .ok (a == b) w:=fun dd=>by simp [Op.equalIn,run_underlying hT]
 exact this 9999
theorem OpP.c9y {a b:Bool}(hT:P.underlying T=some .bool)(hx:G5 C σ H x (.v a))(hy:G5 C σ H y (.v b))(k:K (.v (a == b))):OpP P N C ⟨d,.binOp .eql T x y T2,ty,ps,af,g⟩ σ H K :=
 .vk k (fun ρ I L hst => .mk ⟨_,rfl,rfl⟩ fun ac w ha hm=>by simp [execOp,ha.ev (hx.bool hst),ha.ev (hy.bool hst),eqGuard,binOp,b4g w hT,asV,u3.agg])
theorem OpP.c9z {a b:Bool}(hT:P.underlying T=some .bool)(hx:G5 C σ H x (.v a))(hy:G5 C σ H y (.v b))(k:K (.v (a != b))):OpP P N C ⟨d,.binOp .neq T x y T2,ty,ps,af,g⟩ σ H K :=
 .vk k (fun ρ I L hst => .mk ⟨_,rfl,rfl⟩ fun ac w ha hm=>by simp [execOp,ha.ev (hx.bool hst),ha.ev (hy.bool hst),eqGuard,binOp,b4g w hT,asV,u3.agg];cases a<;>cases b<;>rfl)
theorem OpH.a5f {s:Str}(hS:P.underlying S=some .string)(hD:P.underlying D=some (.slice E))(hE:P.underlying E=some (.int .u8))(hx:G5 C σ H x (.v s))
    (k:∀ w,KH (.raw w) ((true,.own E w s.l)::H)):OpH P C N ⟨d,.convert S D x,ty,ps,af,g⟩ σ H KH :=
  .ofX fun ρ I L hs a w ha hm=>by
    obtain⟨b,h1,h2⟩:=hx.str hs
    have hb:=hx.b1E hs
    have hsz:b.size=s.l.length:=by rw [←h2];rfl
    have hrun:=run_bytes_of_string (P:=P) w S D E b hS hD hE
    have hop:(execOp a.eval ⟨d,.convert S D x,ty,ps,af,g⟩).run P w=((convert S D (.string b)).run P w).andThen fun v w' => .ok (.value v) w':=by
      simp [execOp,ha.ev h1]
    rw [hop,hrun]
    generalize hC:bytesRow b (grownCap w b.size 0 E)=R
    have hcap:grownCap w b.size 0 E≥b.size:=grownCap_ge w b.size 0 E
    have hcapm:grownCap w b.size 0 E≤maxLen:=grownCap_le_maxLen w b.size 0 E (by rw [hsz];unfold maxLen;omega)
    generalize grownCap w b.size 0 E=c at *
    have hR:R.toList=C5 s.l++List.replicate (c - b.size) (Value.int .u8 0):=by
      rw [←hC,←h2]
      simp [bytesRow,C5,Fl.u8]
    have hnI:I w.heap.size=none:=by
      cases hi:I w.heap.size with
      | none=>rfl
      | some o=>have:=D7 (hm.im _ _ hi);omega
    have hnew:(w.drew.alloc (.cells R E (R.size,R.size+1))).heap[w.heap.size]?=some (.cells R E (R.size,R.size+1)):=by
      show(w.heap.push _)[w.heap.size]?=_
      simp
    have hold:∀ k,k < w.heap.size→(w.drew.alloc (.cells R E (R.size,R.size+1))).heap[k]?=w.heap[k]?:=fun k hk=>by
      show(w.heap.push _)[k]?=_
      rw [Array.getElem?_push_lt hk,Array.getElem?_eq_getElem hk]
    have hRl:R=(C5 s.l++List.replicate (c - b.size) (Value.int .u8 0)).toArray:=by rw [←hR]
    have hbl:(C5 s.l).length=s.l.length:=by simp [C5]
    refine⟨I,[[(w.heap.size,.cells R E (R.size,R.size+1))]],⟨rfl,rfl,rfl,by show _≤(w.heap.push _).size;simp,fun k hk _=>hold k hk⟩,Le.refl I,fun b h0 h1=>absurd h0 h1,⟨fun b o hb => ?_,fun p hp => ?_,fun p hp => ?_,?_⟩,?_,.raw (slc w.heap.size 0 b.size c),.own E (slc w.heap.size 0 b.size c) s.l,_,rfl,rfl,⟨C5 s.l,.inr ⟨w.heap.size,c,_,(R.size,R.size+1),by rw [hsz],by rw [hRl],by rw [hbl];exact(Nat.mul_one _).symm,?_,by omega,hcapm,.inr ?_⟩,a06.2 rfl⟩,k _⟩
    · exact(hold b (D7 (hm.im b o hb))).trans (hm.im b o hb)
    · simp only [List.cons_append,List.nil_append,List.flatten_cons,List.mem_cons] at hp
      rcases hp with rfl|hp
      · exact hnew
      · exact(hold _ (D7 (hm.loc p hp))).trans (hm.loc p hp)
    · simp only [List.cons_append,List.nil_append,List.flatten_cons,List.mem_cons] at hp
      rcases hp with rfl|hp
      · exact hnI
      · exact hm.sep p hp
    · simp only [List.cons_append,List.nil_append,List.flatten_cons,List.map_cons,List.nodup_cons,List.mem_map,not_exists,not_and]
      refine⟨fun p hp e => ?_,hm.nodup⟩
      have:=D7 (hm.loc p hp)
      omega
    · intro p hp;simp at hp;subst hp;exact Nat.le_refl _
    · rw [List.length_append,hbl,List.length_replicate]
      show _=c*1
      omega
    · rw [hRl];simp
theorem OpH.same {α:Type}{r:u3 α}{t:Nat}{w:Value}{l:List α}{bb:Bool}{F:Bool×C3→j8}(hT:P.underlying T=some (.slice E))(hE:P.underlying E=some (.int .u8))(hx:F6 σ t=some (.raw w))(hH:H9 H (bb,.own E w l) F)(hl:l ≠ [])
    (k:KH (.raw w) (F (bb,.own E w l))):OpH P C N ⟨d,.convert T T (.tmp t),ty,ps,af,g⟩ σ H KH:=fun ρ I L hs=>by
  obtain⟨u,h1,rfl⟩:=hs.env t _ hx
  obtain⟨j,X,h5,h6,h7⟩:=hH.get hs.heap
  obtain⟨xs,h8,h9⟩:=h6.1
  intro a w ha hst
  have hx2:a.eval (.tmp t)=_:=ha.ev (x := .tmp t) h1
  rcases h8 with ⟨⟨a1,rfl⟩,hn,rfl,rfl⟩|⟨b,c,sp,q,rfl,rfl,e1,e2,e3,e4,e5⟩
  · exact absurd (List.eq_nil_of_length_eq_zero hn) hl
  · have hb:=hst.mem.loc (b,.cells (xs++sp).toArray E q) (G3 h5 (by simp))
    have hsh:w.shape? b=some (E,(xs++sp).length):=by simp [World.shape?,hb]
    have hr:(execOp a.eval ⟨d,.convert T T (.tmp t),ty,ps,af,g⟩).run P w = .ok (.value (slc b 0 l.length c)) (w.freeze ⟨b,(xs++sp).length,none⟩ 1):=by
      simp only [execOp,hx2,convert,Sem.run_bind,run_underlying hT,run_underlying hE,Result.andThen_ok]
      simp [markStringish,hsh]
    rw [hr]
    refine⟨I,L.set j [(b,.cells (xs++sp).toArray E ((xs++sp).length,(xs++sp).length+1))],hst.write (w':=w.freeze ⟨b,(xs++sp).length,none⟩ 1) h5 ?_ ?_ ?_ j0 j0 j0,Le.refl I,.raw _,_,j0,h7 I (bb,.own E _ l) _ (Le.refl I) ⟨⟨xs,.inr ⟨b,c,sp,_,j0,j0,e1,e2,e3,e4,.inr j0⟩,h9⟩,fun hbb p hp => ?_⟩,k⟩
    · have hlt:=D7 hb
      simp only [World.freeze,Nat.one_ne_zero,if_false]
      rw [Array.getElem?_modify,if_pos rfl,hb]
      rcases e5 with rfl|rfl
      · simp
      · simp
    · intro q hq
      simp only [World.freeze,Nat.one_ne_zero,if_false]
      rw [Array.getElem?_modify,if_neg (Ne.symm hq)]
    · simp [World.freeze]
    · have:=h6.2 hbb _ (List.mem_singleton.2 rfl)
      simp only [List.mem_singleton] at hp
      subst hp;exact this
theorem OpH.c42 {α:Type}{r:u3 α}{i0:Inhabited α}{t:Nat}{w:Value}{l m:List α}{bb:Bool}{F:Bool×C3→j8}(tE:K1 P E α)(hT:P.underlying T=some (.slice E))(hx:F6 σ t=some (.raw w))(hH:H9 H (bb,.own E w l) F)(hy:a5Y P C σ H y m)
    (hb:m.length≤9223372036854775807)(k:KH (.v ((min m.length l.length:Nat):Int)) (F (bb,.own E w (m.take l.length++l.drop m.length)))):OpH P C N ⟨d,.call ⟨.builtin .copy,#[.tmp t,y],#[T,U]⟩,ty,ps,af,g⟩ σ H KH:=fun ρ I L hs=>by
  obtain⟨u,h1,rfl⟩:=hs.env t _ hx
  obtain⟨v,news,h2,h3,h4⟩:=hy ρ I L hs
  obtain⟨j,X,h5,h6,h7⟩:=hH.get hs.heap
  obtain⟨xs,h8,h9⟩:=h6.1
  intro a w ha hst
  have hmem:=hst.mem
  generalize hmn:min m.length l.length=n at k
  have hnm:Nat.min m.length l.length=n:=hmn
  have hsz:=tE.size.run w
  have hfc:=h3.cells w hmem n (by omega)
  have hl4:=h4.len
  have hpos:0 < u3.size α:=Nat.pos_of_ne_zero tE.pos
  have hlist:m.take l.length=m.take n:=by rw [←hmn,List.take_eq_take_iff];omega
  have hdrop:l.drop m.length=l.drop n:=by
    by_cases h:m.length≤l.length
    · rw [←hmn,Nat.min_eq_left h]
    · rw [List.drop_eq_nil_of_le (by omega),List.drop_eq_nil_of_le (by omega)]
  have hrep:P2 I (m.take l.length++l.drop m.length) (G1 xs 0 (news.take (n*u3.size α))):=by
    rw [hlist,hdrop]
    have h10:=h4.cut 0 n (by omega)
    have h11:=h9.cut n l.length (Nat.le_refl _)
    simp only [List.drop_zero,Nat.zero_mul,List.take_length] at h10 h11
    rw [←h9.len,List.take_length] at h11
    have hl:(news.take (n*u3.size α)).length=n*u3.size α:=by
      rw [List.length_take,hl4];exact Nat.min_eq_left (Nat.mul_le_mul_right _ (by omega))
    simp only [G1,List.take_zero,List.nil_append,Nat.zero_add]
    rw [hl]
    exact h10.append h11
  have hlen2:(m.take l.length++l.drop m.length).length=l.length:=by
    rw [hlist,hdrop];simp;omega
  rcases h8 with ⟨⟨a1,rfl⟩,hn0,rfl,rfl⟩|⟨b,c,sp,q,rfl,rfl,e1,e2,e3,e4,e5⟩
  · have hn00:n=0:=by omega
    have hr:(execOp a.eval ⟨d,.call ⟨.builtin .copy,#[.tmp t,y],#[T,U]⟩,ty,ps,af,g⟩).run P w = .ok (.value (goInt n)) w:=by
      simp only [execOp,resolve,invoke,builtin,Builtin.copy_,Sem.run_bind,run_underlying hT,Result.andThen_ok,ha.ev (x := .tmp t) h1,ha.ev h2,h3.len w,hsz,hn0] at hfc hnm ⊢
      simp [run_underlying hT,h3.len w,hsz,ha.ev (x := .tmp t) h1,ha.ev h2,hn0,hn00] at hfc hnm ⊢
      cases a1<;>simp [hnm,hfc,storeCells]
    rw [hr]
    refine⟨I,L.set j [],hst.b6e j,Le.refl I,.v ((n:Nat):Int),_,⟨_,⟨rfl,by omega,by omega⟩,rfl⟩,h7 I (bb,.own E _ (m.take l.length++l.drop m.length)) [] (Le.refl I) ⟨⟨_,.inl ⟨⟨a1,rfl⟩,by rw [hlen2];exact hn0,?_,rfl⟩,hrep⟩,by simp⟩,k⟩
    have:=hrep.len
    rw [hlen2,hn0,Nat.zero_mul] at this
    exact List.eq_nil_of_length_eq_zero this
  · have hbh:=hst.mem.loc (b,.cells (xs++sp).toArray E q) (G3 h5 (by simp))
    have hxl:xs.length=l.length*u3.size α:=h9.len
    have hnl:(news.take (n*u3.size α)).length=n*u3.size α:=by
      rw [List.length_take,hl4];exact Nat.min_eq_left (Nat.mul_le_mul_right _ (by omega))
    have hfit:0+(news.take (n*u3.size α)).length≤xs.length:=by rw [hnl,hxl,Nat.zero_add];exact Nat.mul_le_mul_right _ (by omega)
    have hall:∀ u∈news.take (n*u3.size α),u.oneCell'=true:=fun u hu=>List.all_eq_true.1 h4.flat u (List.mem_of_mem_take hu)
    have hst2:=W8 P b 0 E q (news.take (n*u3.size α)) 0 (xs++sp).toArray w hbh (by simp only [List.size_toArray,List.length_append];omega) hall (fun j hj=>by rcases e5 with rfl|rfl<;>simp at hj ⊢ <;> omega)
    have hr:(execOp a.eval ⟨d,.call ⟨.builtin .copy,#[.tmp t,y],#[T,U]⟩,ty,ps,af,g⟩).run P w = .ok (.value (goInt n)) (w.setRow b (G1 (xs++sp) 0 (news.take (n*u3.size α))).toArray):=by
      simp [execOp,resolve,invoke,builtin,Builtin.copy_,run_underlying hT,h3.len w,hsz,ha.ev (x := .tmp t) h1,ha.ev h2,hmn,hfc]
      simp only [Nat.add_zero] at hst2
      rw [show(⟨b,0,none⟩:Addr) = { block:=b,off:=0 } from rfl] at hst2
      simp [hst2,G1]
    rw [hr]
    have hseg:G1 (xs++sp) 0 (news.take (n*u3.size α))=G1 xs 0 (news.take (n*u3.size α))++sp:=a55 xs sp _ _ hfit
    have hlen:(G1 xs 0 (news.take (n*u3.size α))).length=xs.length:=K7 _ _ _ hfit
    refine⟨I,_,a9r hst h5 _,Le.refl I,.v ((n:Nat):Int),_,⟨_,⟨rfl,by omega,by omega⟩,rfl⟩,h7 I (bb,.own E _ (m.take l.length++l.drop m.length)) _ (Le.refl I) ⟨⟨_,.inr ⟨b,c,sp,q,by rw [hlen2],by rw [hseg],by rw [hlen,hlen2];exact e1,by rw [List.length_append,hlen,←List.length_append];exact e2,by rw [hlen2];exact e3,e4,?_⟩,hrep⟩,fun hbb p hp => ?_⟩,k⟩
    · rw [List.length_append,hlen,←List.length_append];exact e5
    · have:=h6.2 hbb _ (List.mem_singleton.2 rfl)
      simp only [List.mem_singleton] at hp
      subst hp;exact this
end Go.Ab
namespace Go.Ab
open Go.Fl Go.RowKit
open u3 (rep)
theorem c18 {b w:Bool}(h:¬b=w):b = !w:=by cases b<;>cases w<;>simp_all
def b1k (P:Program)(C:Ctx)(N:Nat)(σ0:o8)(accP:List (Nat×AV))(F:List (Nat×AV)→j8→Prop):List (Nat×Oper×List (Nat×Nat))→List (Nat×AV)→j8→Prop
  | [],cacc,H=>F cacc H
  | (i,o,s)::rest,cacc,H =>
    match o.guard,F7 accP i with
    | none,none=>OpH P C N o (T6 σ0 (cacc++accP) s (J6 o)) H (fun r H'=>b1k P C N σ0 accP F rest ((i,r)::cacc) H')
    | none,some r0=>OpH P C N o (T6 σ0 (cacc++accP) s (J6 o)) H (fun r H'=>r=r0∧b1k P C N σ0 accP F rest ((i,r0)::cacc) H')
    | some (g, want), none => ∃ b, F7 accP g = some (.v b) ∧ (b = want → OpH P C N o (T6 σ0 (cacc ++ accP) s (J6 o)) H (fun r H' => b1k P C N σ0 accP F rest ((i, r) :: cacc) H')) ∧
        (b=(!want)→b1k P C N σ0 accP F rest ((i,.any)::cacc) H)
    | some (g, want), some r0 => ∃ b c, F7 accP g = some (.v b) ∧ r0 = .opt (b == want) c ∧ (b = want → OpH P C N o (T6 σ0 (cacc ++ accP) s (J6 o)) H (fun r H' => r = c ∧ b1k P C N σ0 accP F rest ((i, r0) :: cacc) H')) ∧
        (b=(!want)→b1k P C N σ0 accP F rest ((i,r0)::cacc) H)
def a2o (P:Program)(C:Ctx)(N:Nat)(σ0:o8){ι:Type 1}(HT:ι→j8)(accP:List (Nat×AV))(F:List (Nat×AV)→j8→Prop):List (Nat×Oper×List (Nat×Nat))→List (Nat×AV)→j8→Prop
  | [],cacc,H=>(∃ Hp,H=HT Hp)∧F cacc H
  | (i,o,s)::rest,cacc,H=>(∃ Hp,H=HT Hp) ∧
    match o.guard,F7 accP i with
    | none,none=>OpH P C N o (T6 σ0 (cacc++accP) s (J6 o)) H (fun r H'=>a2o P C N σ0 HT accP F rest ((i,r)::cacc) H')
    | none,some r0=>OpH P C N o (T6 σ0 (cacc++accP) s (J6 o)) H (fun r H'=>r=r0∧a2o P C N σ0 HT accP F rest ((i,r0)::cacc) H')
    | some (g, want), none => ∃ b, F7 accP g = some (.v b) ∧ (b = want → OpH P C N o (T6 σ0 (cacc ++ accP) s (J6 o)) H (fun r H' => a2o P C N σ0 HT accP F rest ((i, r) :: cacc) H')) ∧
        (b=(!want)→a2o P C N σ0 HT accP F rest ((i,.any)::cacc) H)
    | some (g, want), some r0 => ∃ b c, F7 accP g = some (.v b) ∧ r0 = .opt (b == want) c ∧ (b = want → OpH P C N o (T6 σ0 (cacc ++ accP) s (J6 o)) H (fun r H' => r = c ∧ a2o P C N σ0 HT accP F rest ((i, r0) :: cacc) H')) ∧
        (b=(!want)→a2o P C N σ0 HT accP F rest ((i,r0)::cacc) H)
theorem a2o.tail {P:Program}{C:Ctx}{N:Nat}{σ0:o8}{ι:Type 1}{HT:ι→j8}{accP:List (Nat×AV)}{F:List (Nat×AV)→j8→Prop}:∀ {l:List (Nat×Oper×List (Nat×Nat))} {cacc:List (Nat×AV)} {H:j8},a2o P C N σ0 HT accP F l cacc H→∃ Hp,H=HT Hp
 | [],_,_,h=>h.1
 | _::_,_,_,h=>h.1
theorem OpH.mono {P:Program}{C:Ctx}{N:Nat}{o:Oper}{σ:o8}{H:j8}{K K':AV→j8→Prop}(h:OpH P C N o σ H K)(hk:∀ r H',K r H'→K' r H'):OpH P C N o σ H K':=fun ρ I L hs a w ha hst =>
 (h ρ I L hs a w ha hst).mono fun v w' ⟨J,L',q1,q2,r,H',q3,q4,q5⟩=>⟨J,L',q1,q2,r,H',q3,q4,hk r H' q5⟩
theorem b1k.toK {P:Program}{C:Ctx}{N:Nat}{σ0:o8}{accP:List (Nat×AV)}{F:List (Nat×AV)→j8→Prop}:∀ {l:List (Nat×Oper×List (Nat×Nat))} {cacc:List (Nat×AV)} {H:j8},b1k P C N σ0 accP F l cacc H→a2o P C N σ0 (fun H=>H) accP F l cacc H
 | [],_,H,h=>⟨⟨H,rfl⟩,h⟩
 | (i,o,s)::rest,cacc,H,h=>by
  refine⟨⟨H,j0⟩,?_⟩
  unfold b1k at h
  cases hg:o.guard with
  | none =>
   cases hr:F7 accP i with
   | none=>simp only [hg,hr] at h ⊢;exact h.mono fun r H' k=>k.toK
   | some r0=>simp only [hg,hr] at h ⊢;exact h.mono fun r H' k=>⟨k.1,k.2.toK⟩
  | some gw =>
   obtain⟨g,want⟩:=gw
   cases hr:F7 accP i with
   | none =>
    simp only [hg,hr] at h ⊢
    obtain⟨b,h1,h2,h3⟩:=h
    exact⟨b,h1,fun e=>(h2 e).mono fun r H' k=>k.toK,fun e=>(h3 e).toK⟩
   | some r0 =>
    simp only [hg,hr] at h ⊢
    obtain⟨b,c,h1,h2,h3,h4⟩:=h
    exact⟨b,c,h1,h2,fun e=>(h3 e).mono fun r H' k=>⟨k.1,k.2.toK⟩,fun e=>(h4 e).toK⟩
def a4k (ops:Array Oper)(n:Nat)(ss:List (List (Nat×Nat)))(ci:List Nat):Bool :=
 (List.range ci.length).all (fun k=>match ci[k]? with
  | some i=>Nat.blt i n&&(match k with|0=>true|k'+1=>match ci[k']? with|some j=>Nat.blt j i&&Region.waitsFor .any ops i j|none=>false)
  | none=>false)
theorem a4l (a b:List (Nat×AV))(j:Nat):F7 (a++b) j=(match F7 a j with|some r=>some r|none=>F7 b j):=by
 induction a with
 | nil=>rfl
 | cons p a ih =>
  simp only [List.cons_append,F7]
  cases Nat.beq p.1 j with
  | true=>rfl
  | false=>simpa using ih
theorem V8 (i:Nat)(r:AV)(a:List (Nat×AV))(j:Nat):F7 ((i,r)::a) j=if i=j then some r else F7 a j:=by
 by_cases h:i=j
 ·subst h;simp [F7]
 ·simp [F7,h,a6l h]
theorem a4m {σ0:o8}{acc:List (Nat×AV)}{s:List (Nat×Nat)}:∀ {ts:List Nat} {t:Nat} {a:AV},F6 (T6 σ0 acc s ts) t=some a→t∈ts∧(match T1 s t with|none=>F6 σ0 t|some j=>F7 acc j)=some a
 | [],t,a,h=>by simp [T6,F6] at h
 | u::ts,t,a,h=>by
  simp only [T6] at h
  split at h
  ·rename_i b hb
   rw [G7] at h
   by_cases e:u=t
   ·subst e;simp at h;subst h;exact⟨List.mem_cons_self,hb⟩
   ·rw [if_neg e] at h
    have:=a4m h
    exact⟨List.mem_cons_of_mem _ this.1,this.2⟩
  ·have:=a4m h
   exact⟨List.mem_cons_of_mem _ this.1,this.2⟩
theorem a71 {σ0:o8}{acc:List (Nat×AV)}{s:List (Nat×Nat)}{t:Nat}{a:AV}(h:(match T1 s t with|none=>F6 σ0 t|some j=>F7 acc j)=some a):∀ {ts:List Nat},t∈ts→F6 (T6 σ0 acc s ts) t=some a
 | [],hm=>by cases hm
 | u::ts,hm=>by
  by_cases e:u=t
  ·subst e
   cases hs:T1 s u with
   | none=>simp only [hs] at h;simp only [T6,hs,h];rw [G7,if_pos rfl]
   | some j=>simp only [hs] at h;simp only [T6,hs,h];rw [G7,if_pos rfl]
  ·have hm':t∈ts:=by
    rcases List.mem_cons.1 hm with h1|h1
    ·exact absurd h1.symm e
    ·exact h1
   simp only [T6]
   split
   ·rw [G7,if_neg e];exact a71 h hm'
   ·exact a71 h hm'
def a4J (ops:Array Oper)(n:Nat)(ss:List (List (Nat×Nat)))(i:Nat):Bool :=
 match ops[i]?,ss[i]? with
 | some o,some s=>(J6 o).all (a2y ops n i s) &&
  (match o.guard with|none=>true|some (g,_)=>Nat.blt g n&&Region.waitsFor .any ops i g&&((ops[g]?).bind (·.dst)).isSome)
 | _,_=>false
def a61 (ops:Array Oper)(n:Nat):Bool:=(List.range n).all fun i=>(List.range i).all fun j=>match (ops[i]?).bind (·.dst) with|some d => !((ops[j]?).bind (·.dst) == some d)|none=>true
def a5g (ops:Array Oper)(n:Nat)(ss:List (List (Nat×Nat))):Bool :=
 Nat.ble n ops.size&&a0D ops&&(List.range n).all (a4J ops n ss)&&a61 ops n &&
 (n == ops.size||(Region.sinkB .any ops n&&Region.chainB .any ops n))&&Region.seqB .any ops (ops.size - n) n (R3 ops.size n)
theorem put_defers (a:Act)(d:Option Nat)(v:Value):(a.put d v).defers=a.defers:=by cases d<;>rfl
theorem b4h (a:Act)(d:Option Nat)(v:Value):(a.put d v).tmps.size=a.tmps.size:=by cases d<;>simp [Act.put]
theorem b2J (a:Act){d:Option Nat}{t:Nat}(v:Value)(h:d≠some t):(a.put d v).tmps[t]?=a.tmps[t]?:=by
 cases d with
 | none=>rfl
 | some d=>simp [Act.put,Array.getElem?_setIfInBounds_ne (show d≠t from fun e=>h (by rw [e]))]
theorem put_eq (a:Act){d:Nat}(v:Value)(h:d < a.tmps.size):(a.put (some d) v).tmps[d]?=some v:=by simp [Act.put,h]
def b1F (P:Program)(N:Nat)(C:Ctx)(σ0:o8){ι:Type 1}(HT:ι→j8)(accP:List (Nat×AV))(o:Oper)(s:List (Nat×Nat))(r:AV):Prop:=∀ Hp,a97 P N C σ0 (HT Hp) accP o s r
structure b9B (P:Program)(C:Ctx)(N n:Nat)(l:List Oper)(ci:List Nat)(cl:List (Nat×Oper×List (Nat×Nat)))(σ0:o8){ι:Type 1}(HT:ι→j8)(accP:List (Nat×AV))(F:List (Nat×AV)→j8→Prop)(ρ0:Env)(I:Im)
    (listed:Array Bool)(k:Nat)(cacc:List (Nat×AV))(H:j8)(J:Im)(L:Lh)(vs:Nat→Value)(a:Act)(w:World):Prop where
  head:HeadInv .any l.toArray n listed
  le:Le I J
  U9:Le C.I0 J
  st:St C J L w
  heap:T4 C.w0.heap.size J H L
  kle:k≤ci.length
  ch:∀ m i,ci[m]?=some i→(listed.getD i false=true↔m < k)
  pl:a2o P C N σ0 HT accP F (cl.drop k) cacc H
  keys:∀ j r,F7 cacc j=some r→j∈ci
  prom:∀ j r r0,F7 cacc j=some r→F7 accP j=some r0→r=r0
  c9A:∀ j,j∈ci→listed.getD j false=true→∃ r,F7 cacc j=some r
  val:∀ j,j < n→listed.getD j false=true→∃ r,F7 (cacc++accP) j=some r∧F9 J r (vs j)
  defers:a.defers = []
  size:a.tmps.size=N
  a42:∀ j d,j < n→listed.getD j false=true→(l.toArray[j]?).bind (·.dst)=some d→a.tmps[d]?=some (vs j)
  a7M:∀ t v,Fl.look ρ0 t=some v→(∀ j,j < n→listed.getD j false=true→(l.toArray[j]?).bind (·.dst)≠some t)→a.tmps[t]?=some v
section
variable {P:Program}{C:Ctx}{N n:Nat}{l:List Oper}{ci:List Nat}{cl:List (Nat×Oper×List (Nat×Nat))}{ss:List (List (Nat×Nat))}{σ0:o8}{ι:Type 1}{HT:ι→j8}{accP:List (Nat×AV)}{F:List (Nat×AV)→j8→Prop}{ρ0:Env}{I:Im}{L0:Lh}{H0:j8}
theorem b9B.step {listed:Array Bool}{k:Nat}{cacc:List (Nat×AV)}{H:j8}{J:Im}{L:Lh}{vs:Nat→Value}{a:Act}{w:World}{Q':Exit→Act→World→Prop}
    (h0:RSt C I L0 σ0 H0 ρ0)(hN:R7 N l=true)(hok:∀ i,i < n→a4J l.toArray n ss i=true)(hdst:a61 l.toArray n=true)(hch:a4k l.toArray n ss ci=true)
    (hcl:∀ (m i:Nat) (o:Oper) (s:List (Nat×Nat)),ci[m]?=some i→l[i]?=some o→ss[i]?=some s→cl[m]?=some (i,o,s))(hnd:ci.Nodup)
    (hp:∀ i o s,i < n→i∉ci→l[i]?=some o→ss[i]?=some s→∃ r,F7 accP i=some r∧b1F P N C σ0 HT accP o s r)
    (inv:b9B P C N n l ci cl σ0 HT accP F ρ0 I listed k cacc H J L vs a w){i:Nat}(hr:i∈Region.ready .any l.toArray listed)(hin:i < n)
    {K:Act→World→Prop}(hK:∀ k cacc H J L vs a' w,b9B P C N n l ci cl σ0 HT accP F ρ0 I (listed.setIfInBounds i true) k cacc H J L vs a' w→K a' w) :
    wpOpIn C.fen 0 P l.toArray Q' i K a w:=by
  obtain⟨hun,o,ho,hall⟩:=mem_ready.1 hr
  have hol:l[i]?=some o:=by simpa using ho
  have hok':=hok i hin
  unfold a4J at hok'
  simp only [ho] at hok'
  cases hs:ss[i]? with
  | none=>simp [hs] at hok'
  | some s =>
  simp only [hs,Bool.and_eq_true] at hok'
  obtain⟨hreads,hguard⟩:=hok'
  have hdN:∀ d,o.dst=some d→d < N:=fun d hod=>by
    have:=List.all_eq_true.1 hN o (List.mem_of_getElem? hol)
    rw [hod] at this
    simpa [Nat.blt_eq] using this
  have hlisted:∀ j,Region.waitsFor .any l.toArray i j=true→listed.getD j false=true:=fun j hw=>by
    obtain⟨e,he,hb,heq⟩:=a0E ho hw
    exact heq▸hall e he hb
  have hilt:i < listed.size:=by
    rcases Nat.lt_or_ge i listed.size with h'|h'
    · exact h'
    · simp [Array.getElem?_eq_none h'] at hun
  have hiun:listed.getD i false=false:=getD_both hun
  have hnot:∀ j,Region.waitsFor .any l.toArray j i=true→listed.getD j false=true→False:=fun j hw hl=>by
    obtain⟨oj,hoj,e,he,hb,heq⟩:=Region.waitsFor_spec hw
    have:=inv.head.closed j oj hoj hl e he hb
    rw [heq,hiun] at this
    cases this
  have hch1:=hch
  unfold a4k at hch1
  let g:Nat→Option Value:=fun t=>match T1 s t with|some j=>some (vs j)|none=>Fl.look ρ0 t
  have hsrcl:∀ t∈J6 o,∀ j,T1 s t=some j→j < n∧listed.getD j false=true∧(l.toArray[j]?).bind (·.dst)=some t:=fun t ht j hj=>by
    have hro:=List.all_eq_true.1 hreads t ht
    unfold a2y at hro
    simp only [hj,Bool.and_eq_true,beq_iff_eq] at hro
    exact⟨by simpa [Nat.blt_eq] using hro.1.1,hlisted j hro.2,hro.1.2⟩
  have hfits:Fits N (a1N g (J6 o)) a:=by
    refine⟨inv.defers,inv.size,fun t v hv => ?_⟩
    obtain⟨hmem,hg⟩:=a1S hv
    cases hsrc:T1 s t with
    | some j =>
      obtain⟨h1,h2,h3⟩:=hsrcl t hmem j hsrc
      have hgv:vs j=v:=by simpa [g,hsrc] using hg
      rw [←hgv]
      exact inv.a42 j t h1 h2 h3
    | none =>
      have hro:=List.all_eq_true.1 hreads t hmem
      unfold a2y at hro
      simp only [hsrc] at hro
      refine inv.a7M t v (by simpa [g,hsrc] using hg) fun j hj hl hdj => ?_
      have h1:=List.all_eq_true.1 hro j (List.mem_range.2 hj)
      simp only [hdj,beq_self_eq_true,Bool.not_true,Bool.false_or,Bool.or_eq_true,beq_iff_eq] at h1
      rcases h1 with h1|h1
      · subst h1;rw [hiun] at hl;cases hl
      · exact hnot j h1 hl
  have henv:∀ t b,F6 (T6 σ0 (cacc++accP) s (J6 o)) t=some b→∃ u,Fl.look (a1N g (J6 o)) t=some u∧F9 J b u:=fun t b hb=>by
    obtain⟨hmem,hb2⟩:=a4m hb
    cases hsrc:T1 s t with
    | some j =>
      simp only [hsrc] at hb2
      obtain⟨h1,h2,_⟩:=hsrcl t hmem j hsrc
      obtain⟨r,h3,h4⟩:=inv.val j h1 h2
      rw [hb2] at h3
      cases h3
      exact⟨vs j,by rw [T3 hmem];simp [g,hsrc],h4⟩
    | none =>
      simp only [hsrc] at hb2
      obtain⟨u,h1,h2⟩:=h0.env t b hb2
      exact⟨u,by rw [T3 hmem];simpa [g,hsrc] using h1,h2.mono inv.le⟩
  have hR:RSt C J L (T6 σ0 (cacc++accP) s (J6 o)) H (a1N g (J6 o)):=⟨henv,inv.heap,inv.U9⟩
  have hput:∀ j,j≠i→(listed.setIfInBounds i true).getD j false=listed.getD j false:=fun j hj=>getD_set_ne false (Ne.symm hj)
  have hdne:∀ j,j < n→j≠i→∀ d',(l.toArray[j]?).bind (·.dst)=some d'→o.dst≠some d':=by
    intro j hj hji d' hd' hod
    have hdi:(l.toArray[i]?).bind (·.dst)=some d':=by rw [ho];exact hod
    rcases Nat.lt_or_gt_of_ne hji with h1|h1
    · have:=List.all_eq_true.1 (List.all_eq_true.1 hdst i (List.mem_range.2 hin)) j (List.mem_range.2 h1)
      rw [hdi,hd'] at this
      simp at this
    · have:=List.all_eq_true.1 (List.all_eq_true.1 hdst j (List.mem_range.2 hj)) i (List.mem_range.2 h1)
      rw [hdi,hd'] at this
      simp at this
  -- what a finished operation does
  have fin : ∀ v J' L' H' k' cacc' w' r, Le J J' → St C J' L' w' → T4 C.w0.heap.size J' H' L' → F9 J' r v → F7 (cacc' ++ accP) i = some r → (∀ j, j ≠ i → F7 (cacc' ++ accP) j = F7 (cacc ++ accP) j) → k' ≤ ci.length →
      (∀ m i',ci[m]?=some i'→((listed.setIfInBounds i true).getD i' false=true↔m < k'))→a2o P C N σ0 HT accP F (cl.drop k') cacc' H'→(∀ j r,F7 cacc' j=some r→j∈ci)→(∀ j r r0,F7 cacc' j=some r→F7 accP j=some r0→r=r0)→(∀ j,j∈ci→(listed.setIfInBounds i true).getD j false=true→∃ r,F7 cacc' j=some r)→K (a.put o.dst v) w':=by
    intro v J' L' H' k' cacc' w' r hle hst hH hv hri hrj hk' hch' hpl hkeys hprom hproL
    refine hK k' cacc' H' J' L' (fun j=>if j=i then v else vs j) _ _ ⟨inv.head.set hr hin,inv.le.trans hle,inv.U9.trans hle,hst,hH,hk',hch',hpl,hkeys,hprom,hproL,fun j hj hl => ?_,?_,?_,fun j d' hj hl hd' => ?_,fun t u hu hno => ?_⟩
    · by_cases hji:j=i
      · subst hji
        exact⟨r,hri,by simpa using hv⟩
      · rw [hput j hji] at hl
        obtain⟨q,h1,h2⟩:=inv.val j hj hl
        exact⟨q,(hrj j hji).trans h1,by simpa [hji] using h2.mono hle⟩
    · rw [put_defers];exact inv.defers
    · rw [b4h];exact inv.size
    · by_cases hji:j=i
      · subst hji
        have hod:o.dst=some d':=by rw [ho] at hd';exact hd'
        rw [hod,put_eq _ _ (by rw [inv.size];exact hdN d' hod),if_pos rfl]
      · rw [hput j hji] at hl
        rw [b2J _ _ (hdne j hj hji d' hd'),if_neg hji]
        exact inv.a42 j d' hj hl hd'
    · rw [b2J _ _ (fun hod=>hno i hin (a0s hilt) (by rw [ho];exact hod))]
      refine inv.a7M t u hu fun j hj hl=>hno j hj ?_
      by_cases hji:j=i
      · subst hji;rw [hiun] at hl;cases hl
      · rw [hput j hji];exact hl
  -- the guard
  have hgrd:∀ gi want,o.guard=some (gi,want)→∀ b,F7 accP gi=some (.v b)→yielded l.toArray a.tmps gi=some b:=fun gi want hg b hb=>by
    rw [hg] at hguard
    simp only [Bool.and_eq_true] at hguard
    have hgn:gi < n:=by simpa [Nat.blt_eq] using hguard.1.1
    have hgl:=hlisted gi hguard.1.2
    obtain⟨r,h1,h2⟩:=inv.val gi hgn hgl
    have hr2:r = .v b:=by
      rw [a4l] at h1
      cases hc:F7 cacc gi with
      | some q =>
        rw [hc] at h1
        cases h1
        exact inv.prom gi _ _ hc hb
      | none =>
        rw [hc] at h1
        simp only at h1
        rw [hb] at h1
        exact(Option.some.inj h1).symm
    subst hr2
    obtain⟨cs,rfl,hvs⟩:=h2
    obtain⟨dg,hdg0⟩:=Option.isSome_iff_exists.1 hguard.2
    obtain⟨og,hog,hdg⟩:=Option.bind_eq_some_iff.1 hdg0
    have htg:=inv.a42 gi dg hgn hgl (by rw [hog];exact hdg)
    rw [hvs] at htg
    unfold yielded
    rw [hog]
    simp only [Option.bind_some,hdg,htg]
    rfl
  unfold wpOpIn
  simp only [ho]
  by_cases hic:i∈ci
  · obtain⟨m,hm⟩:=List.mem_iff_getElem?.1 hic
    have hmk:¬m < k:=fun h=>by
      have:=(inv.ch m i hm).2 h
      rw [hiun] at this;cases this
    have hml:m < ci.length:=(List.getElem?_eq_some_iff.1 hm).1
    have hkm:m≤k:=by
      cases m with
      | zero=>omega
      | succ mj =>
        have h1:=List.all_eq_true.1 hch1 (mj+1) (List.mem_range.2 hml)
        simp only [hm,Bool.and_eq_true] at h1
        cases hj:ci[mj]? with
        | none=>simp [hj] at h1
        | some j =>
          simp only [hj,Bool.and_eq_true] at h1
          have:=(inv.ch mj j hj).1 (hlisted j h1.2.2)
          omega
    have hmk':m=k:=by omega
    subst hmk'
    have hc:=hcl m i o s hm hol hs
    have hdrop:cl.drop m=(i,o,s)::cl.drop (m+1):=by
      have hlt:=(List.getElem?_eq_some_iff.1 hc).1
      rw [List.drop_eq_getElem_cons hlt]
      congr 1
      rw [List.getElem?_eq_getElem hlt] at hc
      exact Option.some.inj hc
    have hpl:=inv.pl
    rw [hdrop,a2o] at hpl
    replace hpl:=hpl.2
    have hch':∀ mj i',ci[mj]?=some i'→((listed.setIfInBounds i true).getD i' false=true↔mj < m+1):=fun mj i' hm'=>by
      by_cases e:i'=i
      · subst e
        have hlj:=(List.getElem?_eq_some_iff.1 hm').1
        have heq:ci[mj]'hlj=ci[m]'hml:=by rw [(List.getElem?_eq_some_iff.1 hm').2,(List.getElem?_eq_some_iff.1 hm).2]
        have:mj=m:=by
          rcases Nat.lt_trichotomy mj m with h|h|h
          · exact absurd heq ((List.pairwise_iff_getElem.1 hnd) mj m hlj hml h)
          · exact h
          · exact absurd heq.symm ((List.pairwise_iff_getElem.1 hnd) m mj hml hlj h)
        exact⟨fun _=>by omega,fun _=>a0s hilt⟩
      · rw [hput i' e,inv.ch mj i' hm']
        have:mj≠m:=by
          rintro rfl
          rw [hm] at hm';exact e (Option.some.inj hm').symm
        omega
    have hkeys:∀ r,∀ j q,F7 ((i,r)::cacc) j=some q→j∈ci:=fun r j q hq=>by
      rw [V8] at hq
      by_cases e:i=j
      · subst e;exact hic
      · rw [if_neg e] at hq;exact inv.keys j q hq
    have hself:∀ r,F7 ((i,r)::cacc++accP) i=some r:=fun r=>by rw [List.cons_append,V8,if_pos rfl]
    have hoth:∀ r j,j≠i→F7 ((i,r)::cacc++accP) j=F7 (cacc++accP) j:=fun r j hj=>by rw [List.cons_append,V8,if_neg (Ne.symm hj)]
    have hprom:∀ r,(∀ r0,F7 accP i=some r0→r=r0)→∀ j q r0,F7 ((i,r)::cacc) j=some q→F7 accP j=some r0→q=r0:=fun r hr0 j q r0 hq h0=>by
      rw [V8] at hq
      by_cases e:i=j
      · subst e;rw [if_pos rfl] at hq;cases hq;exact hr0 r0 h0
      · rw [if_neg e] at hq;exact inv.prom j q r0 hq h0
    have hproL:∀ r,∀ j,j∈ci→(listed.setIfInBounds i true).getD j false=true→∃ q,F7 ((i,r)::cacc) j=some q:=fun r j hj hl=>by
      by_cases e:i=j
      · subst e;exact⟨r,by rw [V8,if_pos rfl]⟩
      · rw [hput j (Ne.symm e)] at hl
        obtain⟨q,hq⟩:=inv.c9A j hj hl
        exact⟨q,by rw [V8,if_neg e];exact hq⟩
    have run : ∀ (R : AV → AV), (∀ r r0, F7 accP i = some r0 → R r = r0) → ∀ Z : AV → Prop, (∀ r, Z r → ∀ J' u, F9 J' r u → F9 J' (R r) u) →
        OpH P C N o (T6 σ0 (cacc++accP) s (J6 o)) H (fun r H'=>Z r∧a2o P C N σ0 HT accP F (cl.drop (m+1)) ((i,R r)::cacc) H')→o.wpIn C.fen 0 P a w K Q':=fun R hR0 Z hZ h=>by
      refine Yld.wp ((h _ J L hR a w hfits inv.st).mono ?_)
      rintro v w' ⟨J',L',hst,hle,r,H',h1,h2,h3,h4⟩
      exact fin v J' L' H' (m+1) ((i,R r)::cacc) w' (R r) hle hst h2 (hZ r h3 _ _ h1) (hself _) (hoth _) (by omega) hch' h4 (hkeys _) (hprom _ (hR0 r)) (hproL _)
    have skipd:∀ b want r,o.guard.isSome=true→(∀ r0,F7 accP i=some r0→r=r0)→F9 J r undef→a2o P C N σ0 HT accP F (cl.drop (m+1)) ((i,r)::cacc) H→(b:Bool) = !want→K (a.put o.dst undef) w:=fun b want r _ hr0 hu hp _ =>
      fin undef J L H (m+1) ((i,r)::cacc) w r (Le.refl J) inv.st inv.heap hu (hself r) (hoth r) (by omega) hch' hp (hkeys r) (hprom r hr0) (hproL r)
    cases hg:o.guard with
    | none =>
      rw [if_pos (by simp [Region.wanted,hg])]
      cases hpr:F7 accP i with
      | none =>
        rw [hg,hpr] at hpl
        exact run (fun r=>r) (fun r r0 h=>by rw [hpr] at h;cases h) (fun _=>True) (fun _ _ _ _ h=>h) (by
          intro ρ' I' L' hs' a' w' ha' hst'
          exact Yld.mono (hpl ρ' I' L' hs' a' w' ha' hst') (fun v w'' ⟨J',L'',q1,q2,r,H',q3,q4,q5⟩=>⟨J',L'',q1,q2,r,H',q3,q4,trivial,q5⟩))
      | some r0 =>
        rw [hg,hpr] at hpl
        exact run (fun _=>r0) (fun r q h=>by rw [hpr] at h;exact Option.some.inj h) (fun r=>r=r0) (fun r hr _ _ h=>hr▸h) hpl
    | some gw =>
      obtain⟨gi,want⟩:=gw
      cases hpr:F7 accP i with
      | none =>
        rw [hg,hpr] at hpl
        obtain⟨b,hb,h1,h2⟩:=hpl
        have hy:=hgrd gi want hg b hb
        by_cases hbw:b=want
        · rw [if_pos (by simp [Region.wanted,hg,hy,hbw])]
          exact run (fun r=>r) (fun r r0 h=>by rw [hpr] at h;cases h) (fun _=>True) (fun _ _ _ _ h=>h) (by
            intro ρ' I' L' hs' a' w' ha' hst'
            exact Yld.mono (h1 hbw ρ' I' L' hs' a' w' ha' hst') (fun v w'' ⟨J',L'',q1,q2,r,H',q3,q4,q5⟩=>⟨J',L'',q1,q2,r,H',q3,q4,trivial,q5⟩))
        · have hwf:¬Region.wanted o (yielded l.toArray a.tmps)=true:=by simpa [Region.wanted,hg,hy] using hbw
          rw [if_neg hwf]
          refine⟨fun _ _=>trivial,?_⟩
          have hbn:b = !want:=c18 hbw
          exact skipd b want .any (by simp [hg]) (fun r0 h=>by rw [hpr] at h;cases h) trivial (h2 hbn) hbn
      | some r0 =>
        rw [hg,hpr] at hpl
        obtain⟨b,c,hb,rfl,h1,h2⟩:=hpl
        have hy:=hgrd gi want hg b hb
        by_cases hbw:b=want
        · rw [if_pos (by simp [Region.wanted,hg,hy,hbw])]
          exact run (fun _ => .opt (b == want) c) (fun r q h=>by rw [hpr] at h;exact Option.some.inj h) (fun r=>r=c) (fun r hr J' u h _=>hr▸h) (h1 hbw)
        · have hwf:¬Region.wanted o (yielded l.toArray a.tmps)=true:=by simpa [Region.wanted,hg,hy] using hbw
          rw [if_neg hwf]
          refine⟨fun _ _=>trivial,?_⟩
          have hbn:b = !want:=c18 hbw
          exact skipd b want (.opt (b == want) c) (by simp [hg]) (fun q h=>by rw [hpr] at h;exact Option.some.inj h) (fun hc=>absurd (by simpa using hc) hbw) (h2 hbn) hbn
  · obtain⟨r,hri,hd⟩:=hp i o s hin hic hol hs
    have hcn:∀ j,j∉ci→F7 cacc j=none:=fun j hj=>by
      cases hc:F7 cacc j with
      | none=>rfl
      | some q=>exact absurd (inv.keys j q hc) hj
    have hself:F7 (cacc++accP) i=some r:=by rw [a4l,hcn i hic];exact hri
    have hRq:RSt C J L (T6 σ0 accP s (J6 o)) H (a1N g (J6 o)):=hR.sub fun t b hb=>by
      obtain⟨hmem,hb2⟩:=a4m hb
      refine a71 ?_ hmem
      cases hsrc:T1 s t with
      | none=>simp only [hsrc] at hb2 ⊢;exact hb2
      | some j =>
        simp only [hsrc] at hb2 ⊢
        rw [a4l]
        cases hc:F7 cacc j with
        | none=>exact hb2
        | some q=>exact congrArg some (inv.prom j q b hc hb2)
    have hproL:∀ j,j∈ci→(listed.setIfInBounds i true).getD j false=true→∃ q,F7 cacc j=some q:=fun j hj hl=>by
      have:j≠i:=by rintro rfl;exact hic hj
      rw [hput j this] at hl;exact inv.c9A j hj hl
    have hch':∀ mj i',ci[mj]?=some i'→((listed.setIfInBounds i true).getD i' false=true↔mj < k):=fun mj i' hm'=>by
      have:i'≠i:=by rintro rfl;exact hic (List.mem_of_getElem? hm')
      rw [hput i' this];exact inv.ch mj i' hm'
    obtain⟨Hp,hHp⟩:=inv.pl.tail
    have hdH:=hd Hp
    rw [←hHp] at hdH
    unfold a97 at hdH
    have run:∀ (c:AV),OpP P N C o (T6 σ0 accP s (J6 o)) H (fun r'=>r'=c)→(∀ J' u,F9 J' c u→F9 J' r u)→o.wpIn C.fen 0 P a w K Q':=fun c h hcr=>by
      refine Yld.wp ((h _ J L hRq a w hfits inv.st.mem).mono ?_)
      rintro v w' ⟨J',X,hc,hle,hn,hm,hX,rfl,r',h1,rfl⟩
      have hst:=(inv.st.step hc hle hn hm hX)
      rw [List.nil_append] at hst
      exact fin v J' L H k cacc w' r hle hst (inv.heap.mono hle) (hcr _ _ h1) hself (fun j hj=>rfl) inv.kle hch' inv.pl inv.keys inv.prom hproL
    cases hg:o.guard with
    | none =>
      rw [hg] at hdH
      rw [if_pos (by simp [Region.wanted,hg])]
      exact run r hdH (fun _ _ h=>h)
    | some gw =>
      obtain⟨gi,want⟩:=gw
      rw [hg] at hdH
      obtain⟨b,c,hb,rfl,h2⟩:=hdH
      have hy:=hgrd gi want hg b hb
      by_cases hbw:b=want
      · rw [if_pos (by simp [Region.wanted,hg,hy,hbw])]
        exact run c (h2 hbw) (fun _ _ h _=>h)
      · have hwf:¬Region.wanted o (yielded l.toArray a.tmps)=true:=by simpa [Region.wanted,hg,hy] using hbw
        rw [if_neg hwf]
        refine⟨fun _ _=>trivial,?_⟩
        exact fin undef J L H k cacc w (.opt (b == want) c) (Le.refl J) inv.st inv.heap (fun hc=>absurd (by simpa using hc) hbw) hself (fun j hj=>rfl) inv.kle hch' inv.pl inv.keys inv.prom hproL
theorem b8u {Q':Exit→Act→World→Prop}(h0:RSt C I L0 σ0 H0 ρ0)(hN:R7 N l=true)(hback:a0D l.toArray=true)(hok:∀ i,i < n→a4J l.toArray n ss i=true)(hdst:a61 l.toArray n=true)(hch:a4k l.toArray n ss ci=true)
    (hcl:∀ (m i:Nat) (o:Oper) (s:List (Nat×Nat)),ci[m]?=some i→l[i]?=some o→ss[i]?=some s→cl[m]?=some (i,o,s))(hnd:ci.Nodup)
    (hp:∀ i o s,i < n→i∉ci→l[i]?=some o→ss[i]?=some s→∃ r,F7 accP i=some r∧b1F P N C σ0 HT accP o s r)
    (hle:n≤l.length)(htail:n=l.length∨(Region.sinkB .any l.toArray n=true∧Region.chainB .any l.toArray n=true))(hseq:Region.seqB .any l.toArray (l.length - n) n (R3 l.length n)=true)
    (hfin:∀ listed k cacc H J L vs a w,b9B P C N n l ci cl σ0 HT accP F ρ0 I listed k cacc H J L vs a w→(∀ j,j < n→listed.getD j false=true)→wpListIn C.fen 0 P l.toArray Q' (l.drop n) a w) :
    ∀ (m:Nat) (listed:Array Bool) k cacc H J L vs a w,b9B P C N n l ci cl σ0 HT accP F ρ0 I listed k cacc H J L vs a w→unl listed n=m→wpAnyIn C.fen 0 P .any l.toArray Q' (m+(l.length - n)) listed a w
  | 0,listed,k,cacc,H,J,L,vs,a,w,inv,hm=>by
    have hsz:listed.size=l.length:=by simpa using inv.head.size
    have hall:∀ j,j < n→listed.getD j false=true:=fun j hj=>a4d (by omega) (a2k hm j hj)
    have heq:listed=R3 l.length n:=by
      refine Array.ext (by simp [R3,hsz]) fun j h1 h2 => ?_
      have e1:(R3 l.length n)[j]'h2=Nat.blt j n:=by simp [R3]
      rw [e1]
      by_cases hj:j < n
      · have:=hall j hj
        simp [h1] at this
        rw [this]
        exact(Nat.blt_eq▸hj:Nat.blt j n=true).symm
      · have:=inv.head.tail j (by omega) (by simp;omega)
        simp [h1] at this
        rw [this]
        cases hb:Nat.blt j n
        · rfl
        · exact absurd (Nat.blt_eq▸hb:j < n) hj
    have hw:=hfin listed k cacc H J L vs a w inv hall
    have h2:=a0t (md := .any) (Q':=Q') (l.drop n) n listed a w (fun j=>by simp [List.getElem?_drop]) (by rw [heq];simpa using hseq) hw
    simpa using h2
  | m+1,listed,k,cacc,H,J,L,vs,a,w,inv,hm=>by
    have hsz:listed.size=l.length:=by simpa using inv.head.size
    obtain⟨i,hin,hi,hlt⟩:=a6P hm
    have hr:=Y7 hback (by simpa using inv.head.size) hi hlt
    rw [show m+1+(l.length - n)=(m+(l.length - n))+1 by omega]
    refine⟨fun h0=>(by rw [h0] at hr;cases hr),fun j hj => ?_⟩
    have hjn:j < n:=by
      rcases Nat.lt_or_ge j n with h|h
      · exact h
      · rcases htail with ht|⟨hs,hc⟩
        · obtain⟨_,o,ho,_⟩:=mem_ready.1 hj
          have:=(Array.getElem?_eq_some_iff.1 ho).1
          simp at this
          omega
        · have hnl:n < l.toArray.size:=by
            obtain⟨_,o,ho,_⟩:=mem_ready.1 hj
            have:=(Array.getElem?_eq_some_iff.1 ho).1
            omega
          exact absurd hj (tail_waits hs hc hnl inv.head _ i rfl hin hi j h)
    refine inv.step h0 hN hok hdst hch hcl hnd hp hj hjn fun k' cacc' H' J' L' vs' a' w' inv' => ?_
    refine b8u h0 hN hback hok hdst hch hcl hnd hp hle htail hseq hfin m _ k' cacc' H' J' L' vs' a' w' inv' ?_
    have hu:=(mem_ready.1 hj).1
    have:=a5H hu hjn
    omega
end
def a3G (P:Program)(N:Nat)(C:Ctx)(σ0:o8){ι:Type 1}(HT:ι→j8)(ci:List Nat)(F:List (Nat×AV)→Prop):List Oper→List (List (Nat×Nat))→Nat→List (Nat×AV)→Prop
 | [],_,_,acc=>F acc
 | o::os,s::ss,k,acc=>bif ci.contains k then a3G P N C σ0 HT ci F os ss (k+1) acc∨∃ r,a3G P N C σ0 HT ci F os ss (k+1) ((k,r)::acc) else ∃ r,b1F P N C σ0 HT acc o s r∧a3G P N C σ0 HT ci F os ss (k+1) ((k,r)::acc)
 | _,[],_,_=>False
def a98 (l:List Oper)(ss:List (List (Nat×Nat))):List Nat→List (Nat×Oper×List (Nat×Nat))
 | [] => []
 | i::r=>match l[i]?,ss[i]? with
  | some o,some s=>(i,o,s)::a98 l ss r
  | _,_=>a98 l ss r
theorem b4i {l:List Oper}{ss:List (List (Nat×Nat))}:∀ (ci:List Nat),(∀ i∈ci,∃ o s,l[i]?=some o∧ss[i]?=some s)→∀ (m i:Nat) (o:Oper) (s:List (Nat×Nat)),ci[m]?=some i→l[i]?=some o→ss[i]?=some s→(a98 l ss ci)[m]?=some (i,o,s)
 | [],_,m,i,o,s,h,_,_=>by simp at h
 | j::r,h0,m,i,o,s,h,h1,h2=>by
  obtain⟨o',s',h3,h4⟩:=h0 j List.mem_cons_self
  simp only [a98,h3,h4]
  cases m with
  | zero =>
   simp only [List.getElem?_cons_zero,Option.some.injEq] at h ⊢
   subst h
   rw [h1] at h3;rw [h2] at h4
   cases h3;cases h4;rfl
  | succ m=>simpa using b4i r (fun i hi=>h0 i (List.mem_cons_of_mem _ hi)) m i o s (by simpa using h) h1 h2
theorem a5h {P:Program}{N:Nat}{C:Ctx}{σ0:o8}{ι:Type 1}{HT:ι→j8}{ci:List Nat}{F:List (Nat×AV)→Prop}:∀ (os:List Oper) (ss:List (List (Nat×Nat))) (k:Nat) (acc:List (Nat×AV)),(∀ j r,F7 acc j=some r→j < k)→a3G P N C σ0 HT ci F os ss k acc →
    ∃ full,F full∧(∀ j,j < k→F7 full j=F7 acc j) ∧
      ∀ i o s,os[i]?=some o→ss[i]?=some s→k+i∉ci→∃ r acc',F7 full (k+i)=some r∧b1F P N C σ0 HT acc' o s r∧∀ j,j < k+i→F7 acc' j=F7 full j
  | [],ss,k,acc,hacc,h=>⟨acc,by cases ss<;>exact h,fun _ _=>rfl,fun i o s ho=>by simp at ho⟩
  | o::os,[],k,acc,_,h=>h.elim
  | o::os,s::ss,k,acc,hacc,h=>by
    simp only [a3G] at h
    have hacc2:∀ r,∀ j q,F7 ((k,r)::acc) j=some q→j < k+1:=fun r j q hj=>by
      rw [V8] at hj
      by_cases e:k=j
      · omega
      · rw [if_neg e] at hj;have:=hacc j q hj;omega
    cases hc:ci.contains k with
    | true =>
      rw [hc] at h
      simp only [cond_true] at h
      have fin : ∀ acc2, (∀ j, j < k → F7 acc2 j = F7 acc j) → (∀ j r, F7 acc2 j = some r → j < k + 1) → a3G P N C σ0 HT ci F os ss (k + 1) acc2 → ∃ full, F full ∧ (∀ j, j < k → F7 full j = F7 acc j) ∧
          ∀ i o' s',(o::os)[i]?=some o'→(s::ss)[i]?=some s'→k+i∉ci→∃ r acc',F7 full (k+i)=some r∧b1F P N C σ0 HT acc' o' s' r∧∀ j,j < k+i→F7 acc' j=F7 full j:=fun acc2 ha hb h=>by
        obtain⟨full,hF,h1,h3⟩:=a5h os ss (k+1) acc2 hb h
        refine⟨full,hF,fun j hj=>(h1 j (by omega)).trans (ha j hj),fun i o' s' ho hs hni => ?_⟩
        cases i with
        | zero=>exact absurd (by simpa using hc) hni
        | succ i =>
          have e:k+(i+1)=k+1+i:=by omega
          rw [e]
          exact h3 i o' s' (by simpa using ho) (by simpa using hs) (by rw [←e];exact hni)
      rcases h with h|⟨r,h⟩
      · exact fin acc (fun _ _=>rfl) (fun j r hj=>Nat.lt_succ_of_lt (hacc j r hj)) h
      · exact fin ((k,r)::acc) (fun j hj=>by rw [V8,if_neg (by omega)]) (hacc2 r) h
    | false =>
      rw [hc] at h
      simp only [cond_false] at h
      obtain⟨r,hd,h⟩:=h
      obtain⟨full,hF,h1,h3⟩:=a5h os ss (k+1) ((k,r)::acc) (hacc2 r) h
      refine⟨full,hF,fun j hj=>by rw [h1 j (by omega),V8,if_neg (by omega)],fun i o' s' ho hs hni => ?_⟩
      cases i with
      | zero =>
        simp only [List.getElem?_cons_zero,Option.some.injEq] at ho hs
        subst ho;subst hs
        refine⟨r,acc,by rw [Nat.add_zero,h1 k (by omega),V8,if_pos rfl],hd,fun j hj => ?_⟩
        rw [Nat.add_zero] at hj
        rw [h1 j (by omega),V8,if_neg (by omega)]
      | succ i =>
        have e:k+(i+1)=k+1+i:=by omega
        rw [e]
        exact h3 i o' s' (by simpa using ho) (by simpa using hs) (by rw [←e];exact hni)
def a73 (vs:Nat→Value):List Oper→Nat→Env→Env
 | o::os,k,ρ=>match o.dst with
  | some d=>a73 vs os (k+1) ((d,vs k)::ρ)
  | none=>a73 vs os (k+1) ρ
 | [],_,ρ=>ρ
theorem b2K {C:Ctx}{J:Im}{L:Lh}{H:j8}{acc:List (Nat×AV)}{vs:Nat→Value}:∀ (os:List Oper) (k:Nat) (σ:o8) (ρ:Env),RSt C J L σ H ρ→(∀ i o,os[i]?=some o→∃ r,F7 acc (k+i)=some r∧F9 J r (vs (k+i))) →
    RSt C J L (a9i acc os k σ) H (a73 vs os k ρ)
  | [],k,σ,ρ,hs,_=>hs
  | o::os,k,σ,ρ,hs,hd=>by
    obtain⟨r,h1,h2⟩:=hd 0 o rfl
    simp only [Nat.add_zero] at h1 h2
    have hd':∀ i o',os[i]?=some o'→∃ r,F7 acc (k+1+i)=some r∧F9 J r (vs (k+1+i)):=fun i o' ho=>by
      have:=hd (i+1) o' (by simpa using ho)
      rwa [show k+(i+1)=k+1+i by omega] at this
    cases ho:o.dst with
    | none=>simp only [a9i,a73,ho];exact b2K os (k+1) σ ρ hs hd'
    | some d=>simp only [a9i,a73,ho,h1];exact b2K os (k+1) _ _ (hs.put (Le.refl J) h2 hs.heap) hd'
theorem a5M {N:Nat}{vs:Nat→Value}{a:Act}(hd:a.defers = [])(hsz:a.tmps.size=N):∀ (os:List Oper) (k:Nat) (ρ:Env),
    (∀ (i:Nat) (o:Oper) (d:Nat),os[i]?=some o→o.dst=some d→a.tmps[d]?=some (vs (k+i)))→(∀ t v,Fl.look ρ t=some v→(∀ (i:Nat) (o:Oper),os[i]?=some o→o.dst≠some t)→a.tmps[t]?=some v)→Fits N (a73 vs os k ρ) a
  | [],k,ρ,_,h=>⟨hd,hsz,fun t v hv=>h t v hv (fun i o ho=>by simp at ho)⟩
  | o::os,k,ρ,hI,hO=>by
    have hI':∀ (i:Nat) (o':Oper) (d:Nat),os[i]?=some o'→o'.dst=some d→a.tmps[d]?=some (vs (k+1+i)):=fun i o' d ho hdd=>by
      have:=hI (i+1) o' d (by simpa using ho) hdd
      rwa [show k+(i+1)=k+1+i by omega] at this
    cases ho:o.dst with
    | none =>
      simp only [a73,ho]
      refine a5M hd hsz os (k+1) ρ hI' fun t v hv hno=>hO t v hv fun i o' ho' => ?_
      cases i with
      | zero=>simp only [List.getElem?_cons_zero,Option.some.injEq] at ho';subst ho';rw [ho];exact fun h=>by cases h
      | succ i=>exact hno i o' (by simpa using ho')
    | some d =>
      simp only [a73,ho]
      refine a5M hd hsz os (k+1) _ hI' fun t v hv hno => ?_
      rw [Fl.R6] at hv
      by_cases e:d=t
      · subst e
        rw [if_pos rfl] at hv
        cases hv
        have:=hI 0 o d rfl ho
        simpa using this
      · rw [if_neg e] at hv
        refine hO t v hv fun i o' ho' => ?_
        cases i with
        | zero =>
          simp only [List.getElem?_cons_zero,Option.some.injEq] at ho'
          subst ho'
          rw [ho]
          exact fun h=>e (Option.some.inj h)
        | succ i=>exact hno i o' (by simpa using ho')
theorem wpA.c19 {P:Program}{C:Ctx}{N:Nat}{Q:Exit→o8→j8→Prop}{σ:o8}{H:j8}{id:Nat}{l:List Oper}{ι:Type 1}(HT:ι→j8)(hm:P.follows .mixedOrders=true)(n:Nat)(ss:List (List (Nat×Nat)))(ci:List Nat)
    (hN:R7 N l=true)(hB:a5g l.toArray n ss=true)(hss:Nat.ble n ss.length=true)(hC:a4k l.toArray n ss ci=true)(hnd:ci.Nodup)
    (h:a3G P N C σ HT ci (fun accP=>a2o P C N σ HT accP (fun cacc H'=>wpB P C N l.toArray Q (l.drop n) (a9i (cacc++accP) (l.take n) 0 σ) H') (a98 l ss ci) [] H) (l.take n) ss 0 []) :
    wpA P C N (.region id l.toArray true) Q σ H:=fun ρ I L hs a w ha hst=>by
  have hB0:=hB
  simp only [a5g,Bool.and_eq_true,Bool.or_eq_true] at hB
  obtain⟨⟨⟨⟨⟨hle,hback⟩,hok⟩,hdst⟩,htail⟩,hseq⟩:=hB
  have hle':n≤l.length:=by simpa using Nat.le_of_ble_eq_true hle
  have hok':∀ i,i < n→a4J l.toArray n ss i=true:=fun i hi=>List.all_eq_true.1 hok i (List.mem_range.2 hi)
  have hssl:=Nat.le_of_ble_eq_true hss
  obtain⟨full,hF,_,hd⟩:=a5h (l.take n) ss 0 [] (fun j r hj=>by simp [F7] at hj) h
  have hC':=hC
  unfold a4k at hC'
  have hcin:∀ i∈ci,i < n:=fun i hi=>by
    obtain⟨m,hm⟩:=List.mem_iff_getElem?.1 hi
    have h1:=List.all_eq_true.1 hC' m (List.mem_range.2 (List.getElem?_eq_some_iff.1 hm).1)
    simp only [hm,Bool.and_eq_true] at h1
    simpa [Nat.blt_eq] using h1.1
  have hcl:=b4i (l:=l) (ss:=ss) ci (fun i hi=>⟨_,_,List.getElem?_eq_getElem (Nat.lt_of_lt_of_le (hcin i hi) hle'),List.getElem?_eq_getElem (Nat.lt_of_lt_of_le (hcin i hi) hssl)⟩)
  have hp:∀ i o s,i < n→i∉ci→l[i]?=some o→ss[i]?=some s→∃ r,F7 full i=some r∧b1F P N C σ HT full o s r:=fun i o s hi hic ho hsi=>by
    obtain⟨r,acc',h1,h2,h3⟩:=hd i o s (by rw [List.getElem?_take,if_pos hi];exact ho) hsi (by simpa using hic)
    rw [Nat.zero_add] at h1 h3
    refine⟨r,h1,fun H' => ?_⟩
    have hoi:=hok' i hi
    unfold a4J at hoi
    have ho':l.toArray[i]?=some o:=by simpa using ho
    simp only [ho',hsi,Bool.and_eq_true] at hoi
    have hback':∀ j,Region.waitsFor .any l.toArray i j=true→j < i:=fun j hw=>by
      obtain⟨e,he,hb,heq⟩:=a0E ho' hw
      have hil:i < l.toArray.size:=(Array.getElem?_eq_some_iff.1 ho').1
      have h4:=List.all_eq_true.1 hback i (List.mem_range.2 hil)
      simp only [ho',Array.all_eq_true_iff_forall_mem] at h4
      have h5:=h4 e he
      rw [hb] at h5
      have:e.on < i:=by simpa [Nat.blt_eq] using h5
      omega
    -- sources that are no operand are looked at too
    have henv:∀ t∈J6 o,∀ j,T1 s t=some j→F7 acc' j=F7 full j:=fun t ht j hj=>by
      have h6:=List.all_eq_true.1 hoi.1 t ht
      unfold a2y at h6
      simp only [hj,Bool.and_eq_true] at h6
      exact h3 j (hback' j h6.2)
    have hdd:=h2 H'
    unfold a97 at hdd ⊢
    have he:∀ ts,(∀ t∈ts,t∈J6 o)→T6 σ acc' s ts=T6 σ full s ts:=by
      intro ts
      induction ts with
      | nil=>intro _;rfl
      | cons t ts ih =>
        intro hts
        simp only [T6]
        cases hsrc:T1 s t with
        | none=>simp only [ih (fun u hu=>hts u (List.mem_cons_of_mem _ hu))]
        | some j=>simp only [henv t (hts t List.mem_cons_self) j hsrc,ih (fun u hu=>hts u (List.mem_cons_of_mem _ hu))]
    rw [←he _ (fun t ht=>ht)]
    cases hg:o.guard with
    | none=>rw [hg] at hdd;exact hdd
    | some p =>
      obtain⟨g,want⟩:=p
      rw [hg] at hdd
      have h6:=hoi.2
      rw [hg] at h6
      simp only [Bool.and_eq_true] at h6
      simp only at hdd ⊢
      rw [←h3 g (hback' g h6.1.2)];exact hdd
  have hs':St C I L { w with drawn:=w.drawn+1 }:=⟨⟨hst.mem.im,hst.mem.loc,hst.mem.sep,hst.mem.nodup⟩,⟨hst.W4.os,hst.W4.tape,hst.W4.output,hst.W4.size,hst.W4.block⟩,hst.own,hst.U9,hst.new⟩
  refine wpIn_region_any hm ?_
  have inv0:b9B P C N n l ci (a98 l ss ci) σ HT full (fun cacc H'=>wpB P C N l.toArray Q (l.drop n) (a9i (cacc++full) (l.take n) 0 σ) H') ρ I (Array.replicate l.toArray.size false) 0 [] H I L (fun _=>undef) a { w with drawn:=w.drawn+1 }:=by
    have hnl:∀ j,(Array.replicate l.toArray.size false).getD j false=true→False:=fun j hl=>by rw [getD_replicate_false] at hl;cases hl
    refine⟨⟨by simp,fun j oj _ hl=>(hnl j hl).elim,fun t _ ht=>getD_in (by simpa using ht) (getD_replicate_false _ _)⟩,Le.refl _,hs.U9,hs',hs.heap,Nat.zero_le _,fun m i hm=>⟨fun hl=>(hnl i hl).elim,fun h=>by omega⟩,by rw [List.drop_zero];exact hF,fun j r hj=>by simp [F7] at hj,fun j r r0 hj=>by simp [F7] at hj,fun j _ hl=>(hnl j hl).elim,fun j _ hl=>(hnl j hl).elim,ha.defers,ha.size,fun j d _ hl=>(hnl j hl).elim,fun t v hv _=>ha.tmp t v hv⟩
  have hunl:unl (Array.replicate l.toArray.size false) n=n:=by
    have key:∀ k,k≤l.toArray.size→unl (Array.replicate l.toArray.size false) k=k:=by
      intro k
      induction k with
      | zero=>intro _;rfl
      | succ k ih =>
        intro hk
        rw [unl,ih (by omega),if_pos (getD_in (by simp at hk ⊢;omega) (getD_replicate_false _ _))]
    exact key n (by simpa using hle')
  have hmain:=b8u (Q':=a54 C N (qA C Q)) hs hN hback hok' hdst hC hcl hnd hp hle'
    (by
      rcases htail with h|h
      · exact .inl (by simpa using h)
      · exact .inr h) (by simpa using hseq)
    (fun listed k cacc H' J L' vs a' w' inv hall=>by
      have hk:k=ci.length:=by
        rcases Nat.lt_or_ge k ci.length with h|h
        · have:=(inv.ch k _ (List.getElem?_eq_getElem h)).1 (hall _ (hcin _ (List.getElem_mem h)))
          omega
        · have:=inv.kle;omega
      have hpl:=inv.pl
      have hlen:(a98 l ss ci).length≤ci.length:=by
        have:∀ c:List Nat,(a98 l ss c).length≤c.length:=by
          intro c
          induction c with
          | nil=>exact Nat.le_refl _
          | cons i c ih =>
            simp only [a98]
            split
            · simpa using ih
            · exact Nat.le_succ_of_le ih
        exact this ci
      rw [hk,List.drop_eq_nil_of_le hlen,a2o] at hpl
      replace hpl:=hpl.2
      have hNd:R7 N (l.drop n)=true:=by
        simp only [R7,List.all_eq_true] at hN ⊢
        exact fun o ho=>hN o (List.mem_of_mem_drop ho)
      have hR:RSt C J L' σ H' ρ:=⟨fun t b hb=>by obtain⟨u,h1,h2⟩:=hs.env t b hb;exact⟨u,h1,h2.mono inv.le⟩,inv.heap,inv.U9⟩
      have hget:∀ i o,(l.take n)[i]?=some o→i < n∧l[i]?=some o:=fun i o ho=>by
        have h1:=(List.getElem?_eq_some_iff.1 ho).1
        have hin:i < n:=by rw [List.length_take] at h1;omega
        rw [List.getElem?_take,if_pos hin] at ho
        exact⟨hin,ho⟩
      refine hpl (a73 vs (l.take n) 0 ρ) J L' (b2K (l.take n) 0 σ ρ hR fun i o ho => ?_) hNd a' w' (a5M inv.defers inv.size (l.take n) 0 ρ (fun i o d ho hdd => ?_) fun t v hv hno=>inv.a7M t v hv fun j hj _ hdj => ?_) inv.st
      · obtain⟨hin,_⟩:=hget i o ho
        rw [Nat.zero_add]
        exact inv.val i hin (hall i hin)
      · obtain⟨hin,ho2⟩:=hget i o ho
        rw [Nat.zero_add]
        exact inv.a42 i d hin (hall i hin) (by simp [ho2,hdd])
      · have hjl:j < l.length:=by omega
        have:(l.take n)[j]?=some l[j]:=by rw [List.getElem?_take,if_pos hj];exact List.getElem?_eq_getElem hjl
        refine hno j l[j] this ?_
        simpa [hjl] using hdj)
    n _ _ _ _ _ _ _ _ _ inv0 hunl
  rw [show n+(l.length - n)=l.toArray.size by simp;omega] at hmain
  exact hmain
theorem H9.app {Hp:j8}{H:j8}{B:Bool×C3}{F:Bool×C3→j8}(h:H9 H B F):H9 (Hp++H) B (fun X=>Hp++F X):=by
 induction Hp with
 | nil=>exact h
 | cons A Hp ih=>exact .s ih
def c2a:List Bool→j8→(Nat→Bool×C3)→Nat→j8
 | b::bs,B::H,q,k=>(bif b then q k else B)::c2a bs H q (k+1)
 | _,H,_,_=>H
theorem wpA.a0w {P:Program}{C:Ctx}{N:Nat}{Q:Exit→o8→j8→Prop}{σ:o8}{H:j8}{id:Nat}{l:List Oper}(bs:List Bool)(hm:P.follows .mixedOrders=true)(n:Nat)(ss:List (List (Nat×Nat)))(ci:List Nat)
    (hN:R7 N l=true)(hB:a5g l.toArray n ss=true)(hss:Nat.ble n ss.length=true)(hC:a4k l.toArray n ss ci=true)(hnd:ci.Nodup)
    (h:a3G P N C σ (fun q:j8×(Nat→Bool×C3)=>q.1++c2a bs H q.2 0) ci (fun accP=>a2o P C N σ (fun q:j8×(Nat→Bool×C3)=>q.1++c2a bs H q.2 0) accP (fun cacc H'=>wpB P C N l.toArray Q (l.drop n) (a9i (cacc++accP) (l.take n) 0 σ) H') (a98 l ss ci) [] H) (l.take n) ss 0 []) :
    wpA P C N (.region id l.toArray true) Q σ H := .c19 _ hm n ss ci hN hB hss hC hnd h
def a4n (P:Program)(N:Nat)(C:Ctx)(σ0:o8)(ci:List Nat)(F:List (Nat×AV)→Prop):List Oper→List (List (Nat×Nat))→Nat→List (Nat×AV)→Prop
 | [],_,_,acc=>F acc
 | o::os,s::ss,k,acc=>bif ci.contains k then a4n P N C σ0 ci F os ss (k+1) acc∨∃ r,a4n P N C σ0 ci F os ss (k+1) ((k,r)::acc) else ∃ r,(∀ H,a97 P N C σ0 H acc o s r)∧a4n P N C σ0 ci F os ss (k+1) ((k,r)::acc)
 | _::_,[],_,_=>False
theorem a4n.toK {P:Program}{N:Nat}{C:Ctx}{σ0:o8}{ci:List Nat}{F F':List (Nat×AV)→Prop}(hF:∀ acc,F acc→F' acc):∀ {os:List Oper} {ss:List (List (Nat×Nat))} {k:Nat} {acc:List (Nat×AV)},a4n P N C σ0 ci F os ss k acc→a3G P N C σ0 (fun H=>H) ci F' os ss k acc
 | [],_,_,_,h=>hF _ h
 | o::os,s::ss,k,acc,h=>by
  simp only [a4n] at h
  simp only [a3G]
  cases hb:ci.contains k with
  | true =>
   simp only [hb,cond_true] at h ⊢
   rcases h with h|⟨r,h⟩
   ·exact .inl (h.toK hF)
   ·exact .inr ⟨r,h.toK hF⟩
  | false =>
   simp only [hb,cond_false] at h ⊢
   obtain⟨r,h1,h2⟩:=h
   exact⟨r,fun Hp=>h1 _,h2.toK hF⟩
theorem wpA.c6C {P:Program}{C:Ctx}{N:Nat}{Q:Exit→o8→j8→Prop}{σ:o8}{H:j8}{id:Nat}{l:List Oper}(hm:P.follows .mixedOrders=true)(n:Nat)(ss:List (List (Nat×Nat)))(ci:List Nat)
    (hN:R7 N l=true)(hB:a5g l.toArray n ss=true)(hss:Nat.ble n ss.length=true)(hC:a4k l.toArray n ss ci=true)(hnd:ci.Nodup)
    (h:a4n P N C σ ci (fun accP=>b1k P C N σ accP (fun cacc H'=>wpB P C N l.toArray Q (l.drop n) (a9i (cacc++accP) (l.take n) 0 σ) H') (a98 l ss ci) [] H) (l.take n) ss 0 []) :
    wpA P C N (.region id l.toArray true) Q σ H:=(wpA.c19 (fun H=>H) hm n ss ci hN hB hss hC hnd (h.toK fun _ h=>h.toK))
end Go.Ab
namespace Go.Ab
open Go.Fl Go.RowKit
open u3 (rep)
variable {P:Program}{C:Ctx}{N:Nat}{σ:o8}{H:j8}{K:AV→Prop}{KH:AV→j8→Prop}{d:Option Nat}{ty:TypeId}{ps:String}{af:Array Edge}{g:Option (Nat×Bool)}
variable {x y z:Operand}{T T2 E S D U:TypeId}{o:Oper}
theorem OpH.ofP (h:OpP P N C o σ H (fun r=>KH r H)):OpH P C N o σ H KH:=fun ρ I L hs =>
 OpS.ofX (OpX.a4j (h ρ I L hs) fun v J X hle ⟨hX,r,h1,h2⟩=>by subst hX;exact⟨hle,r,H,h1,hs.heap.mono hle,h2⟩)
theorem OpH.Q7 (hC:Ctx.Ok C){E:TypeId}{α:Type}{r:u3 α}{w:Value}{l:List α}{F:Bool×C3→j8}(h:H9 H (true,.own E w l) F)(k:OpH P C N o σ (F (true,.fz w (.v l))) KH):OpH P C N o σ H KH:=fun ρ I L hs a w0 ha hst=>by
 obtain⟨i,X,h1,h2,h3⟩:=h.get hs.heap
 have hst2:=hst.freeze h1 (a3F hC h2)
 have hle:Le I (I.with X):=Im.a03 (fun p hp=>hst.mem.sep p (G3 h1 hp))
 have hp:∀ p∈X,I.with X p.1=some p.2:=fun p hp=>Im.a0U (a0r hst.mem.nodup h1) hp
 refine Yld.mono (k ρ _ _ ⟨(hs.mono hle).env,h3 _ _ [] hle ⟨⟨rfl,O9 h2.1 hle hp⟩,by simp⟩,hs.U9.trans hle⟩ a w0 ha hst2) ?_
 rintro v w' ⟨J,L',q1,q2,q3⟩
 exact⟨J,L',q1,hle.trans q2,q3⟩
theorem OpH.as (t:Nat){w:Value}{a:AV}{b:Bool}{F:Bool×C3→j8}(ht:F6 σ t=some (.raw w))(h:H9 H (b,.fz w a) F)(k:OpH P C N o ((t,a)::σ) H KH):OpH P C N o σ H KH :=
 fun ρ I L hs=>k ρ I L (hs.as t ht h)
theorem OpP.a2p {α:Type}{r:u3 α}{i0:Inhabited α}{n:Nat}{l:List α}{parts:Array (Nat×Operand)}(tE:K1 P E α)(hT:P.underlying T=some (.slice E))(hp:a8C C σ H 0 parts.toList l)(hn:l.length=n)(hb:n*u3.size α≤16777216)(k:K (.vc l)) :
    OpP P N C ⟨d,.buildSlice T n parts,ty,ps,af,g⟩ σ H K:=fun ρ I L hs=>by
  obtain⟨zs,hz1,hz2⟩:=tE.zero
  obtain⟨pv,vs,h1,h2,h3⟩:=hp.run hs
  subst hn
  have hl:=h3.len
  refine OpX.frz (.buildSlice hT tE.size hz1 (u3.len (hz2 I)) h1 h2 hl hb fun b J' hle hpp=>⟨rfl,.vc l,⟨⟨_,rfl⟩,vs,?_,h3.mono hle⟩,k⟩)
  refine(Own.made (e:=E) hl ?_).sl (fun p hp=>hpp p (by simpa using hp))
  have:1≤u3.size α:=Nat.one_le_iff_ne_zero.2 tE.pos
  have:=Nat.mul_le_mul_left l.length this
  unfold maxLen;omega
theorem wpB.drop {ops:Array Oper}{Q:Exit→o8→j8→Prop}{os:List Oper}{B:Bool×C3}(k:wpB P C N ops Q os σ H):wpB P C N ops Q os σ (B::H):=fun ρ I L hs=>by
 obtain⟨X,R,rfl,h1,h2⟩:=hs.heap
 exact wpL.forget (X := [X]) (k ρ I R ⟨hs.env,h2,hs.U9⟩)
theorem wpA.drop {Q:Exit→o8→j8→Prop}{c:Code}{B:Bool×C3}(k:wpA P C N c Q σ H):wpA P C N c Q σ (B::H):=fun ρ I L hs=>by
 obtain⟨X,R,rfl,h1,h2⟩:=hs.heap
 exact wpS.forget (X := [X]) (k ρ I R ⟨hs.env,h2,hs.U9⟩)
theorem OpP.E3 {α β:Type}{r:u3 α}{s:u3 β}{w:Value}{l:j9 α β}(hx:G5 C σ H x (.ln w l))(k:K (.ln w l)):OpP P N C ⟨d,.nilCheck x,ty,ps,af,g⟩ σ H K :=
 .vk k (fun ρ I L hs=>by
  obtain⟨u,h2,b,h3,rfl⟩:=hx ρ I L hs
  exact .mk ⟨b,h3,rfl⟩ fun a w ha hm=>by simp [execOp,ha.ev h2])
theorem OpP.b9C {β:Type}{s:u3 β}{a:β}(hx:G5 C σ H x (.p a))(k:K (.p a)):OpP P N C ⟨d,.nilCheck x,ty,ps,af,g⟩ σ H K :=
 .vk k (fun ρ I L hs=>by
  obtain⟨u,h2,b,o,cs,rfl,h3⟩:=hx ρ I L hs
  exact .mk ⟨b,o,cs,rfl,h3⟩ fun a w ha hm=>by simp [execOp,ha.ev h2])
section c9B
variable {s:Str}{i j:Int}(hT:P.underlying T=some .string)(hx:G5 C σ H x (.v s))
include hT hx
end c9B
def AV.a74 (c:Bool)(a:AV):AV := .pr (fun I u=>(c=true→F9 I a u)∧(c=false→u=undef)) (fun hle h=>⟨fun e=>(h.1 e).mono hle,h.2⟩)
theorem G5.ou {t:Nat}{a:AV}{c:Bool}(h:F6 σ t=some (.a74 c a))(hc:c=true):G5 C σ H (.tmp t) a:=fun ρ I L hs=>by
 obtain⟨u,h1,h2⟩:=hs.env t _ h
 exact⟨u,h1,h2.1 hc⟩
section nested
variable {P:Program}{C:Ctx}{N:Nat}{ops:Array Oper}{Q:Exit→o8→j8→Prop}{rest:List Oper}{σ:o8}{H:j8}
theorem wpB.goU {d:Nat}{op:Op}{ty:TypeId}{ps:String}{af:Array Edge}{j:Nat}{want:Bool}(dj:Nat)(hj:(ops[j]?).bind (·.dst)=some dj){b:Bool}(hb:G5 C σ H (.tmp dj) (.v b)){r:AV}
    (h:b=want→OpP P N C ⟨some d,op,ty,ps,af,none⟩ σ H (fun r'=>r'=r))(k:wpB P C N ops Q rest ((d,.a74 (b == want) r)::σ) H) :
    wpB P C N ops Q (⟨some d,op,ty,ps,af,some (j,want)⟩::rest) σ H:=fun ρ I L hs=>by
  have hbv:=hb.bool hs
  by_cases e:b=want
  · refine .gt dj hj (by rw [←e];exact hbv) (OpS.ofX (OpX.a4j (h e ρ I L hs) fun v J X hle ⟨hX,r',hr,hk⟩ => ?_))
    subst hX;subst hk
    exact k _ _ _ (hs.put hle (r := .a74 (b == want) r') ⟨fun _=>hr,fun hc=>absurd e (by simpa using hc)⟩ (hs.heap.mono hle))
  · have e':b = !want:=by cases b<;>cases want<;>simp_all
    exact .gf dj hj (by rw [←e'];exact hbv) (k _ _ _ (hs.put (Le.refl I) (r := .a74 (b == want) r) ⟨fun hc=>absurd (by simpa using hc) e,fun _=>j0⟩ hs.heap))
theorem c7v {ρ:Env}{I:Im}{L:Lh}{Q:Exit→Env→Im→Lh→Prop}{d:Nat}{op:Op}{ty:TypeId}{ps:String}{af:Array Edge}{j:Nat}{want:Bool}(dj:Nat)(hj:(ops[j]?).bind (·.dst)=some dj)(hb:Fl.look ρ dj=some undef)
    (h:wpL P C N ops Q rest ((d,undef)::ρ) I L):wpL P C N ops Q (⟨some d,op,ty,ps,af,some (j,want)⟩::rest) ρ I L:=fun hd a w ha hs=>by
  obtain⟨hlt,hd'⟩:=a9G hd
  refine wpListIn_step fun K hK => ?_
  have hy:yielded ops a.tmps j=none:=by unfold yielded;rw [hj];simp only [Option.bind_some,ha.tmp dj _ hb];rfl
  rw [if_neg (by simp [Region.wanted,hy])]
  exact⟨fun _ _=>trivial,hK _ _ (h hd' _ _ (ha.put hlt undef) hs)⟩
theorem wpB.gn {d:Nat}{op:Op}{ty:TypeId}{ps:String}{af:Array Edge}{j:Nat}{want:Bool}(dj:Nat)(hj:(ops[j]?).bind (·.dst)=some dj){b c:Bool}(hb:F6 σ dj=some (.a74 c (.v b))){r:AV}
    (h:c=true→b=want→OpP P N C ⟨some d,op,ty,ps,af,none⟩ σ H (fun r'=>r'=r))(k:wpB P C N ops Q rest ((d,.a74 (c&&(b == want)) r)::σ) H) :
    wpB P C N ops Q (⟨some d,op,ty,ps,af,some (j,want)⟩::rest) σ H:=fun ρ I L hs=>by
  obtain⟨u,hu1,hu2,hu3⟩:=hs.env dj _ hb
  cases c with
  | false =>
    obtain rfl:=hu3 rfl
    exact c7v dj hj hu1 (k _ _ _ (hs.put (Le.refl I) (r := .a74 (false&&(b == want)) r) ⟨fun hc=>by simp at hc,fun _=>rfl⟩ hs.heap))
  | true =>
    have hbv:Fl.look ρ dj=some (.bool b):=by
      obtain⟨cs,rfl,rfl⟩:=hu2 rfl
      exact hu1
    by_cases e:b=want
    · refine .gt dj hj (by rw [←e];exact hbv) (OpS.ofX (OpX.a4j (h j0 e ρ I L hs) fun v J X hle ⟨hX,r',hr,hk⟩ => ?_))
      subst hX;subst hk
      exact k _ _ _ (hs.put hle (r := .a74 (true&&(b == want)) r') ⟨fun _=>hr,fun hc=>absurd e (by simpa using hc)⟩ (hs.heap.mono hle))
    · have e':b = !want:=by cases b<;>cases want<;>simp_all
      exact .gf dj hj (by rw [←e'];exact hbv) (k _ _ _ (hs.put (Le.refl I) (r := .a74 (true&&(b == want)) r) ⟨fun hc=>absurd (by simpa using hc) e,fun _=>j0⟩ hs.heap))
end nested
end Go.Ab
namespace Go.Ab
open Go.Fl Go.RowKit
open u3 (rep)
variable {P:Program}{C:Ctx}{N:Nat}{σ:o8}{H:j8}{K:AV→Prop}{KH:AV→j8→Prop}{d:Option Nat}{ty:TypeId}{ps:String}{af:Array Edge}{g:Option (Nat×Bool)}
variable {x y z:Operand}{T T2 E S D U:TypeId}{o:Oper}
theorem OpP.bS1 {α γ1:Type}{r:u3 α}{i0:Inhabited α}{q1:u3 γ1}{offs:List (Nat×Nat)}{parts:Array (Nat×Operand)}{i1:Nat}{o1:Operand}{c1:γ1}(m1:j9 α γ1)(hg:u3.agg α=true)(tT:K1 P T α)(hT:E5 P T=some offs)(mk:γ1→α)(hm:∀ c1,(m1.set c1 (default:α))=mk c1)(hp:parts.toList = [(i1,o1)])(h1:offs[i1]?=some (m1.off,u3.size γ1))(e1:G5 C σ H o1 (.v c1))(k:K (.v (mk c1))) :
    OpP P N C ⟨d,.build T parts,ty,ps,af,g⟩ σ H K :=
  .a3A (mk c1) hg tT hT (by rw [hp];exact(.cons m1 c1 h1 e1 .nil)) (hm c1) k
theorem OpP.bS2 {α γ1 γ2:Type}{r:u3 α}{i0:Inhabited α}{q1:u3 γ1}{q2:u3 γ2}{offs:List (Nat×Nat)}{parts:Array (Nat×Operand)}{i1:Nat}{o1:Operand}{i2:Nat}{o2:Operand}{c1:γ1}{c2:γ2}(m1:j9 α γ1)(m2:j9 α γ2)(hg:u3.agg α=true)(tT:K1 P T α)(hT:E5 P T=some offs)(mk:γ1→γ2→α)(hm:∀ c1 c2,(m2.set c2 (m1.set c1 (default:α)))=mk c1 c2)(hp:parts.toList = [(i1,o1),(i2,o2)])(h1:offs[i1]?=some (m1.off,u3.size γ1))(h2:offs[i2]?=some (m2.off,u3.size γ2))(e1:G5 C σ H o1 (.v c1))(e2:G5 C σ H o2 (.v c2))(k:K (.v (mk c1 c2))) :
    OpP P N C ⟨d,.build T parts,ty,ps,af,g⟩ σ H K :=
  .a3A (mk c1 c2) hg tT hT (by rw [hp];exact(.cons m1 c1 h1 e1 (.cons m2 c2 h2 e2 .nil))) (hm c1 c2) k
theorem OpP.bS3 {α γ1 γ2 γ3:Type}{r:u3 α}{i0:Inhabited α}{q1:u3 γ1}{q2:u3 γ2}{q3:u3 γ3}{offs:List (Nat×Nat)}{parts:Array (Nat×Operand)}{i1:Nat}{o1:Operand}{i2:Nat}{o2:Operand}{i3:Nat}{o3:Operand}{c1:γ1}{c2:γ2}{c3:γ3}(m1:j9 α γ1)(m2:j9 α γ2)(m3:j9 α γ3)(hg:u3.agg α=true)(tT:K1 P T α)(hT:E5 P T=some offs)(mk:γ1→γ2→γ3→α)(hm:∀ c1 c2 c3,(m3.set c3 (m2.set c2 (m1.set c1 (default:α))))=mk c1 c2 c3)(hp:parts.toList = [(i1,o1),(i2,o2),(i3,o3)])(h1:offs[i1]?=some (m1.off,u3.size γ1))(h2:offs[i2]?=some (m2.off,u3.size γ2))(h3:offs[i3]?=some (m3.off,u3.size γ3))(e1:G5 C σ H o1 (.v c1))(e2:G5 C σ H o2 (.v c2))(e3:G5 C σ H o3 (.v c3))(k:K (.v (mk c1 c2 c3))) :
    OpP P N C ⟨d,.build T parts,ty,ps,af,g⟩ σ H K :=
  .a3A (mk c1 c2 c3) hg tT hT (by rw [hp];exact(.cons m1 c1 h1 e1 (.cons m2 c2 h2 e2 (.cons m3 c3 h3 e3 .nil)))) (hm c1 c2 c3) k
theorem OpP.bS4 {α γ1 γ2 γ3 γ4:Type}{r:u3 α}{i0:Inhabited α}{q1:u3 γ1}{q2:u3 γ2}{q3:u3 γ3}{q4:u3 γ4}{offs:List (Nat×Nat)}{parts:Array (Nat×Operand)}{i1:Nat}{o1:Operand}{i2:Nat}{o2:Operand}{i3:Nat}{o3:Operand}{i4:Nat}{o4:Operand}{c1:γ1}{c2:γ2}{c3:γ3}{c4:γ4}(m1:j9 α γ1)(m2:j9 α γ2)(m3:j9 α γ3)(m4:j9 α γ4)(hg:u3.agg α=true)(tT:K1 P T α)(hT:E5 P T=some offs)(mk:γ1→γ2→γ3→γ4→α)(hm:∀ c1 c2 c3 c4,(m4.set c4 (m3.set c3 (m2.set c2 (m1.set c1 (default:α)))))=mk c1 c2 c3 c4)(hp:parts.toList = [(i1,o1),(i2,o2),(i3,o3),(i4,o4)])(h1:offs[i1]?=some (m1.off,u3.size γ1))(h2:offs[i2]?=some (m2.off,u3.size γ2))(h3:offs[i3]?=some (m3.off,u3.size γ3))(h4:offs[i4]?=some (m4.off,u3.size γ4))(e1:G5 C σ H o1 (.v c1))(e2:G5 C σ H o2 (.v c2))(e3:G5 C σ H o3 (.v c3))(e4:G5 C σ H o4 (.v c4))(k:K (.v (mk c1 c2 c3 c4))) :
    OpP P N C ⟨d,.build T parts,ty,ps,af,g⟩ σ H K :=
  .a3A (mk c1 c2 c3 c4) hg tT hT (by rw [hp];exact(.cons m1 c1 h1 e1 (.cons m2 c2 h2 e2 (.cons m3 c3 h3 e3 (.cons m4 c4 h4 e4 .nil))))) (hm c1 c2 c3 c4) k
theorem OpP.bS0 {α:Type}{r:u3 α}{i0:Inhabited α}{offs:List (Nat×Nat)}(hg:u3.agg α=true)(tT:K1 P T α)(hT:E5 P T=some offs)(k:K (.v (default:α))):OpP P N C ⟨d,.build T #[],ty,ps,af,g⟩ σ H K := .a3A default hg tT hT .nil rfl k
theorem OpP.P5 {β γ:Type}{s:u3 β}{q:u3 γ}{i off sz:Nat}{ag:Bool}{w:Value}(m:j9 β γ)(hf:y4 P T i=some (off,sz+1,ag))(ho:off=m.off)(hx:G5 C σ H x (.ln w (j9.id (α:=β))))(k:K (.ln w m)) :
    OpP P N C ⟨d,.fieldAddr T x i,ty,ps,af,g⟩ σ H K :=
  .vk k (fun ρ I L hs=>by
    obtain⟨u,h2,b,h3,rfl⟩:=hx ρ I L hs
    subst ho
    exact .fieldAddr hf h2 ⟨b,h3,by simp [j9.id]⟩)
theorem OpP.c43 {β:Type}{s:u3 β}{n:Nat}{ag:Bool}{w:Value}{i:Int}(hf:O7 P T=some (n,u3.size β,ag))(hx:G5 C σ H x (.ln w (j9.id (α:=M4 n β))))(hy:G5 C σ H y (.v i))(h0:0≤i)(h1:i < n)
    (k:K (.ln w (j9.idx (α:=β) (n:=n) i.toNat (by omega)))):OpP P N C ⟨d,.indexAddr T x y,ty,ps,af,g⟩ σ H K :=
  .vk k (fun ρ I L hs=>by
    obtain⟨u,h2,b,h3,rfl⟩:=hx ρ I L hs
    exact .I7 hf h2 (hy.int hs).1 h0 h1 ⟨b,h3,by simp [j9.id,j9.idx]⟩)
theorem OpP.ldF {α β:Type}{r:u3 α}{s:u3 β}{i:Inhabited β}{w:Value}{l:j9 α β}{a:α}{bb:Bool}{F:Bool×C3→j8}(f:α→β)(tT:K1 P T β)(hx:G5 C σ H x (.ln w l))(hH:H9 H (bb,.ob w a) F)(hf:∀ x,l.get x=f x)(k:K (.v (f a))) :
    OpP P N C ⟨d,.load T x,ty,ps,af,g⟩ σ H K := .ldL tT hx hH (hf a▸k)
theorem OpH.stF {α β:Type}{r:u3 α}{s:u3 β}{i:Inhabited β}{w:Value}{l:j9 α β}{a:α}{c:β}{bb:Bool}{F:Bool×C3→j8}(f:β→α→α)(tT:K1 P T β)(hx:G5 C σ H x (.ln w l))(hy:G5 C σ H y (.v c))(hH:H9 H (bb,.ob w a) F)(hf:∀ y x,l.set y x=f y x)
    (k:KH .any (F (bb,.ob w (f c a)))):OpH P C N ⟨d,.store T x y,ty,ps,af,g⟩ σ H KH := .stL tT hx hy hH (hf c a▸k)
theorem OpP.c9C {α:Type}{r:u3 α}{i:Inhabited α}{w:Value}{ags:List α}{kk:Nat}{bb:Bool}{E':TypeId}{F:Bool×C3→j8}(tT:K1 P T α)(hx:G5 C σ H x (.el w kk (j9.id (α:=α))))(hH:H9 H (bb,.own E' w ags) F)(hk:kk < ags.length)
    (k:K (.v ags[kk])):OpP P N C ⟨d,.load T x,ty,ps,af,g⟩ σ H K := .ldE tT hx hH hk k
theorem OpH.c9D {α:Type}{r:u3 α}{i:Inhabited α}{w:Value}{ags:List α}{c:α}{kk:Nat}{bb:Bool}{E':TypeId}{F:Bool×C3→j8}(tT:K1 P T α)(hx:G5 C σ H x (.el w kk (j9.id (α:=α))))(hy:G5 C σ H y (.v c))
    (hH:H9 H (bb,.own E' w ags) F)(hk:kk < ags.length)(k:KH .any (F (bb,.own E' w (ags.set kk c)))):OpH P C N ⟨d,.store T x y,ty,ps,af,g⟩ σ H KH := .stE tT hx hy hH hk k
theorem OpP.a0Z {β γ:Type}{s:u3 β}{q:u3 γ}{i off sz:Nat}{ag:Bool}{a:β}(m:j9 β γ)(f:β→γ)(hf:y4 P T i=some (off,sz+1,ag))(ho:off=m.off)(hm:∀ x,m.get x=f x)(hx:G5 C σ H x (.p a))(k:K (.p (f a))) :
    OpP P N C ⟨d,.fieldAddr T x i,ty,ps,af,g⟩ σ H K := .d2d m hf ho hx (hm a▸k)
end Go.Ab
namespace Go.Ab
open Go.Fl Go.RowKit
open u3 (rep)
structure FnV where
 f:Option FuncId
instance:Inhabited FnV:=⟨⟨none⟩⟩
instance:u3 FnV where
 size:=1
 agg:=false
 rep _ x cs:=cs = [match x.f with|none => .nilFunc|some k => .func (.func k) #[] #[]]
 len h:=by simp [h]
 mono _ h:=h
 one _:=rfl
 flat {I x cs} h:=by cases x with|mk f=>cases f<;>simp [h,a0W,Value.oneCell']
instance:K4 FnV:=⟨[.nilFunc],fun _=>rfl⟩
end Go.Ab
namespace Go.Ab
open Go.Fl Go.RowKit
open u3 (rep)
structure IfV where
 v:Option (TypeId×Value)
instance:Inhabited IfV:=⟨⟨none⟩⟩
instance:u3 IfV where
 size:=1
 agg:=false
 rep _ x cs:=cs = [match x.v with|none => .nilIface|some p => .iface p.1 p.2]
 len h:=by simp [h]
 mono _ h:=h
 one _:=rfl
 flat {I x cs} h:=by
  cases x with
  | mk f=>cases f<;>simp [h,a0W,Value.oneCell']
instance:K4 IfV:=⟨[.nilIface],fun _=>rfl⟩
section
variable {C:Ctx}{σ:o8}{H:j8}{x:Operand}
theorem G5.ifV {t:TypeId}{v:Value}(h:G5 C σ H x (.v (IfV.mk (some (t,v))))):G5 C σ H x (.raw (.iface t v)):=fun ρ I L hs=>by
 obtain⟨u,h1,cs,h2,h3⟩:=h ρ I L hs
 have h2:cs = [.iface t v]:=h2
 subst h2
 exact⟨u,h1,h3⟩
end
end Go.Ab
namespace Go.Ab
open Go.Fl Go.RowKit
open u3 (rep)
def Clo (P:Program){ι:Type}(ags:ι→List AV)(r:ι→AV)(I:Im)(u:Value):Prop :=
 ∃ f fi ca,u = .func (.func f) fi ca∧∀ J,Le I J→∀ i vs,T5 J (ags i) vs→Fun P f (fi++vs.toArray++ca) J (fun v K=>F9 K (r i) v)
theorem Clo.mono {P:Program}{ι:Type}{ags:ι→List AV}{r:ι→AV}{I J:Im}{u:Value}(hle:Le I J)(h:Clo P ags r I u):Clo P ags r J u:=by
 obtain⟨f,fi,ca,h1,h2⟩:=h
 exact⟨f,fi,ca,h1,fun K hk=>h2 K (hle.trans hk)⟩
def AV.clo (P:Program){ι:Type}(ags:ι→List AV)(r:ι→AV):AV := .pr (Clo P ags r) Clo.mono
def AV.a62 (P:Program){α β:Type}[u3 α][u3 β](g:α→β):AV := .clo P (fun x:α => [.v x]) (fun x => .v (g x))
def AV.c2c (P:Program)(r:AV):AV := .clo P (fun _:Unit => []) (fun _=>r)
def AV.c2d (P:Program){α β γ:Type}[u3 α][u3 β][u3 γ](g:α→β→γ):AV := .clo P (fun x:α×β => [.v x.1,.v x.2]) (fun x => .v (g x.1 x.2))
theorem a3n {P:Program}{f:FuncId}{fi ca:Array Value}(ok:a4c P f){a:Act}{w:World}{o:Oper}{F:Operand}{args:Array Operand}{tys:Array TypeId}(ho:o.op = .call ⟨.value F,args,tys⟩)
    (hF:a.eval F = .func (.func f) fi ca){vs:List Value}(hv:args.toList.map a.eval=vs):(execOp a.eval o).run P w = .ok (.enter f (fi++vs.toArray++ca)) w:=by
  obtain⟨fn,h1,h2,h3⟩:=ok.ok
  subst hv
  have hargs:args.map a.eval=(args.toList.map a.eval).toArray:=by cases args;simp
  have h2':¬fn.name = "runtime.NumGoroutine" := by simpa using h2
  have h3':fn.body≠none:=by intro e;simp [e] at h3
  simp [execOp,ho,resolve,Deferred.ofValue,hF,invoke,callFunc,program,Sem.run,h1,h2',h3',←hargs]
theorem OpX.c9F {P:Program}{N:Nat}{ρ:Env}{I:Im}{L:Lh}{f:FuncId}{fi ca:Array Value}{d:Option Nat}{F:Operand}{args:Array Operand}{tys:Array TypeId}{ty:TypeId}{ps:String}{af:Array Edge}{g:Option (Nat×Bool)}{vs:List Value}
    {post:Value→Im→Prop}{K:Value→Im→Lh→Prop}(hF:ev ρ F=some (.func (.func f) fi ca))(hv:evL ρ args.toList=some vs)(h:Fun P f (fi++vs.toArray++ca) I post)
    (k:∀ v J,Le I J→post v J→K v J []):OpX P N ⟨d,.call ⟨.value F,args,tys⟩,ty,ps,af,g⟩ ρ I L K:=fun a w ha hm=>by
  rw [a3n h.ok rfl (ha.ev hF) (ha.evL hv)]
  refine(h.run w hm.drop).mono ?_
  rintro e w' ⟨v,J,rfl,hc,hle,hn,hm',hp⟩
  refine⟨v,rfl,J,[],hc,hle,hn,?_,by simp,k v J hle hp⟩
  have hlt:∀ p∈L.flatten,p.1 < w.heap.size:=fun p hp=>D7 (hm.loc p hp)
  refine⟨hm'.im,fun p hp=>(hc.block p.1 (hlt p hp) (by simp)).trans (hm.loc p hp),fun p hp => ?_,hm.nodup⟩
  cases hj:J p.1 with
  | none=>rfl
  | some o=>exact absurd (hn p.1 (hm.sep p hp) (by simp [hj])) (by have:=hlt p hp;omega)
section clo
variable {P:Program}{C:Ctx}{N:Nat}{σ:o8}{H:j8}{G:Gl}{f:FuncId}{d:Option Nat}{args:Array Operand}{tys:Array TypeId}{ty:TypeId}{ps:String}{af:Array Edge}{g:Option (Nat×Bool)}{K:AV→Prop}
theorem OpP.b2L {ι:Type}{ags:ι→List AV}{r:ι→AV}{t:Nat}(i:ι)(ht:F6 σ t=some (.clo P ags r))(hv:a0I C σ H args.toList (ags i))(k:K (r i)) :
    OpP P N C ⟨d,.call ⟨.value (.tmp t),args,tys⟩,ty,ps,af,g⟩ σ H K:=fun ρ I L hs=>by
  obtain⟨u,h1,f,fi,ca,rfl,h2⟩:=hs.env t _ ht
  obtain⟨vs,h3,h4⟩:=hv.get hs
  exact OpX.c9F (F := .tmp t) h1 h3 (h2 I (Le.refl I) i vs h4) fun v J hle h5=>⟨rfl,r i,h5,k⟩
theorem OpP.b0a {α β:Type}[u3 α][u3 β]{g1:α→β}{x:α}{t:Nat}{a:Operand}(ht:F6 σ t=some (.a62 P g1))(ha:G5 C σ H a (.v x))(k:K (.v (g1 x))) :
    OpP P N C ⟨d,.call ⟨.value (.tmp t),#[a],tys⟩,ty,ps,af,g⟩ σ H K := .b2L (ags:=fun x:α => [.v x]) (r:=fun x => .v (g1 x)) x ht (.cons ha .nil) k
theorem OpP.c2e {r:AV}{t:Nat}(ht:F6 σ t=some (.c2c P r))(k:K r) :
    OpP P N C ⟨d,.call ⟨.value (.tmp t),#[],tys⟩,ty,ps,af,g⟩ σ H K := .b2L (ι:=Unit) (ags:=fun _ => []) (r:=fun _=>r) () ht .nil k
theorem OpP.c2f {α β γ:Type}[u3 α][u3 β][u3 γ]{g2:α→β→γ}{x:α}{y:β}{t:Nat}{a b:Operand}(ht:F6 σ t=some (.c2d P g2))(ha:G5 C σ H a (.v x))(hb:G5 C σ H b (.v y))(k:K (.v (g2 x y))) :
    OpP P N C ⟨d,.call ⟨.value (.tmp t),#[a,b],tys⟩,ty,ps,af,g⟩ σ H K := .b2L (ags:=fun x:α×β => [.v x.1,.v x.2]) (r:=fun x => .v (g2 x.1 x.2)) (x,y) ht (.cons ha (.cons hb .nil)) k
theorem T5.append {I:Im}:∀ {ags bs:List AV} {vs ws:List Value},T5 I ags vs→T5 I bs ws→T5 I (ags++bs) (vs++ws)
 | [],_,_,_,h,k=>by simp [T5] at h;subst h;simpa using k
 | a::ags,_,_,_,h,k=>by obtain⟨v,r,rfl,h2,h3⟩:=h;exact⟨v,r++_,rfl,h2,h3.append k⟩
theorem OpP.c6D (hG : G.p C.I0){ι : Type}{ags : ι → List AV}{r : ι → AV}{caps : List AV}(h : ∀ i, C4 G P f (ags i ++ caps) (fun x => x = r i))(hv : a0I C σ H args.toList caps)(k : K (.clo P ags r)) :
    OpP P N C ⟨d,.makeFunc (.func f) #[] args,ty,ps,af,g⟩ σ H K := .M1 (.clo P ags r) (fun ρ I L hs=>fun a w ha hm=>by
      obtain⟨vs,h1,h2⟩:=hv.get hs
      have e:=ha.evL h1
      have hargs:args.map a.eval=vs.toArray:=by rw [←e];cases args;simp
      refine⟨.func (.func f) #[] vs.toArray,⟨f,#[],vs.toArray,rfl,fun J hle i ws hw => ?_⟩,by simp [execOp,Instr.makeFunc,hargs]⟩
      have h3:=h i J (ws++vs) (G.mono (hs.U9.trans hle) hG) (hw.append (h2.mono hle))
      simp only [List.append_toArray]
      exact h3.mono fun v K _ ⟨x,h4,h5⟩=>h5▸h4) k
theorem OpP.b6u (hG : G.p C.I0){α β : Type}[u3 α][u3 β]{g1 : α → β}{caps : List AV}(h : ∀ x, C4 G P f (.v x :: caps) (fun r => r = .v (g1 x)))(hv : a0I C σ H args.toList caps)(k : K (.a62 P g1)) :
    OpP P N C ⟨d,.makeFunc (.func f) #[] args,ty,ps,af,g⟩ σ H K := .c6D hG (ags:=fun x:α => [.v x]) (r:=fun x => .v (g1 x)) h hv k
theorem OpP.c7x (hG : G.p C.I0){r : AV}{caps : List AV}(h : C4 G P f caps (fun x => x = r))(hv : a0I C σ H args.toList caps)(k : K (.c2c P r)) :
    OpP P N C ⟨d,.makeFunc (.func f) #[] args,ty,ps,af,g⟩ σ H K := .c6D hG (ι:=Unit) (ags:=fun _ => []) (r:=fun _=>r) (fun _=>h) hv k
theorem G5.c9G (hG:G.p C.I0){ι:Type}{ags:ι→List AV}{r:ι→AV}(h:∀ i,C4 G P f (ags i) (fun x=>x=r i)):G5 C σ H (.func f) (.clo P ags r):=fun ρ I L hs =>
 ⟨_,rfl,f,#[],#[],rfl,fun J hle i ws hw=>by
  simp only [Array.empty_append,Array.append_empty]
  exact(h i J ws (G.mono (hs.U9.trans hle) hG) hw).mono fun v K _ ⟨x,h4,h5⟩=>h5▸h4⟩
end clo
end Go.Ab
namespace Go.Ab
open Go.Fl Go.RowKit
open u3 (rep)
section rules
variable {P:Program}{C:Ctx}{N:Nat}{σ:o8}{H:j8}{d:Option Nat}{ty:TypeId}{ps:String}{af:Array Edge}{g:Option (Nat×Bool)}{K:AV→Prop}{KH:AV→j8→Prop}{x y z:Operand}{T T2 E S D U:TypeId}
theorem a8D:∀ (l:List UInt8) (s:ByteArray),(l.map (fun c=>(c.toNat:Int))).foldl (fun r n=>r.push (UInt8.ofNat n.toNat)) s=⟨s.data++l.toArray⟩
 | [],s=>by simp
 | c::l,s=>by
  rw [List.map_cons,List.foldl_cons,a8D l]
  simp [ByteArray.push]
theorem OpP.b0b {l:List UInt8}(hS:P.underlying S=some (.slice E))(hE:P.underlying E=some (.int .u8))(hD:P.underlying D=some .string)(hx:G5 C σ H x (.v l))(k:K (.v (Str.mk l))) :
    OpP P N C ⟨d,.convert S D x,ty,ps,af,g⟩ σ H K :=
  .vk k (fun ρ I L hs => .mk ⟨[.string ⟨l.toArray⟩], ⟨⟨_, rfl, by simp⟩, by
      obtain⟨u,h1,xs,⟨a,c,rfl,h2,h3,h4,_⟩,_⟩:=hx.sl hs
      unfold maxLen at h4;show l.length≤_;omega⟩,rfl⟩ fun ac w ha hm=>by
    obtain⟨u,h1,xs,hsl,hl⟩:=hx.sl hs
    obtain rfl:=a06.1 hl
    obtain⟨a,c,rfl,h2,h3,h4,h5,h6⟩:=hsl
    have hrun:(convert S D (.slice a l.length c)).run P w = .ok (.string ⟨l.toArray⟩) w:=by
      rw [run_convert_bytes_string w S D E a l.length c hS hE hD]
      cases a with
      | none =>
        have hc:=h5 rfl
        have:l = []:=List.eq_nil_of_length_eq_zero (by omega)
        subst this
        simp [Conv.bytesToString];rfl
      | some ad =>
        have hload:(loadCells ad l.length).run P w = .ok ((l.map (fun c=>(c.toNat:Int))).map (Value.int .u8)).toArray w:=by
          have h7:=run_loadCells_list (P:=P) w ad (C5 l) (fun j v hj=>by
            have hne:C5 l ≠ []:=by intro e;simp [e] at hj
            obtain⟨b,o,hab,hcl⟩:=h6 hne
            cases hab
            have:=hcl.cell hm hj
            have hplain:(⟨b,o,none⟩:Addr).add j=⟨b,o+j,none⟩:=by unfold Addr.add;split<;>simp_all
            rw [hplain];exact this)
          have e1:(C5 l).length=l.length:=by simp [C5]
          have e2:(l.map (fun c=>(c.toNat:Int))).map (Value.int .u8)=C5 l:=by simp [C5,Fl.u8]
          rw [e1] at h7
          rw [e2];exact h7
        rw [run_bytesToString w ad l.length c _ hload,a8D]
        simp [ByteArray.empty,ByteArray.emptyWithCapacity]
        rfl
    simp [execOp,ha.ev h1,hrun,asV,u3.agg])
theorem OpP.b0c {α:Type}{r:u3 α}{l:List α}(hT:P.underlying T=some (.slice E))(hx:G5 C σ H x (.v l))(k:∀ c:Bool,(c=true→l = [])→K (.v c)) :
    OpP P N C ⟨d,.binOp .eql T x (.const (.slice none 0 0)) T2,ty,ps,af,g⟩ σ H K:=fun ρ I L hs=>by
  obtain⟨u,h1,xs,⟨a,c,rfl,h2,h3,h4,h5,h6⟩,hl⟩:=hx.sl hs
  refine .M1 (O3.b2t hT h1 j0 ⟨j0,.v a.isNone,⟨_,j0,j0⟩,k _ fun e => ?_⟩)
  have:=h5 (by simpa using e)
  exact List.eq_nil_of_length_eq_zero (by omega)
theorem OpP.b6v {α:Type}{r:u3 α}{i0:Inhabited α}{l:List α}(tE:K1 P E α)(hT:P.underlying T=some (.slice E))(hx:G5 C σ H x (.v l))(hy:G5 C σ H y (.v (l.length:Int)))(hz:G5 C σ H z (.v (l.length:Int)))
    (k:K (.vc l)):OpP P N C ⟨d,.slice T x none (some y) (some z),ty,ps,af,g⟩ σ H K:=fun ρ I L hs=>by
  obtain⟨u,h1,xs,⟨a,c,rfl,h2,h3,h4,h5,h6⟩,hl⟩:=hx.sl hs
  have hv:∀ a2:Option Addr,(a2=a∨(xs ≠ []∧a2=a))→F9 I (.vc l) (.slice a2 l.length l.length):=fun a2 ha2=>by
    obtain rfl:a2=a:=ha2.elim id (·.2)
    exact⟨⟨_,rfl⟩,xs,⟨a2,l.length,rfl,h2,Nat.le_refl _,by omega,fun hn=>by have:=h5 hn;omega,h6⟩,hl⟩
  have hadd:∀ sz:Nat,(if l.length=0 then a else a.map (·.add (0*sz)))=a:=fun sz=>by
    split
    · rfl
    · cases a with
      | none=>rfl
      | some ad=>cases ad;simp [Addr.add]
  refine .M1 (.mk (v := .slice a l.length l.length) ⟨j0,.vc l,hv a (.inl j0),k⟩ fun ac w ha hm => ?_)
  have e1:(l.length:Int)≤(c:Int):=by omega
  have hsb:(Instr.sliceBounds true l.length c none (some (i64 l.length)) (some (i64 l.length))).run P w = .ok (0,l.length,l.length) w:=by
    simp [Instr.sliceBounds,Instr.sliceBound,asIntOf,e1]
  have e2:=(hy.int hs).1
  have e3:=(hz.int hs).1
  have hrun:(Instr.sliceAt T (.slice a l.length c) none (some (i64 l.length)) (some (i64 l.length))).run P w = .ok (.slice a l.length l.length) w:=by
    simp only [Instr.sliceAt,Instr.slice,Sem.run_bind,run_underlying hT,Result.andThen_ok,hsb,tE.size.run,Sem.run_pure,Nat.sub_zero,hadd]
  simp [execOp,ha.ev h1,ha.ev e2,ha.ev e3,hrun]
def a0J {n:Nat}{α:Type}(a:M4 n α)(m:List α):M4 n α:=⟨m.take n++a.l.drop m.length,by simp;omega⟩
theorem OpH.c2g {α β:Type}{n:Nat}{r:u3 α}{s:u3 β}{i0:Inhabited β}{w:Value}{l:j9 α (M4 n β)}{a:α}{m:List β}{bb:Bool}{F:Bool×C3→j8}(tE:K1 P E β)(hT:P.underlying T=some (.slice E))(hx:G5 C σ H x (.sv w l))
    (hH:H9 H (bb,.ob w a) F)(hy:a5Y P C σ H y m)(hb:m.length≤9223372036854775807)(k:KH (.v ((min m.length n:Nat):Int)) (F (bb,.ob w (l.set (a0J (l.get a) m) a)))) :
    OpH P C N ⟨d,.call ⟨.builtin .copy,#[x,y],#[T,U]⟩,ty,ps,af,g⟩ σ H KH:=fun ρ I L hs=>by
  obtain⟨u,h1,b,h0,rfl⟩:=hx ρ I L hs
  obtain⟨v,news,h2,h3,h4⟩:=hy ρ I L hs
  obtain⟨j,X,h5,h6,h7⟩:=hH.get hs.heap
  obtain⟨b2,T',cs,rfl,rfl,h9⟩:=h6.1
  cases h0
  intro ac w0 ha hst
  have hmem:=hst.mem
  generalize hmn:min m.length n=q at k
  have hsz:=tE.size.run w0
  have hfc:=h3.cells w0 hmem q (by omega)
  have hl4:=h4.len
  have hget:=l.a5W h9
  have hfits:=l.fits
  have hfits2:l.off+n*u3.size β≤u3.size α:=hfits
  have hcl:=u3.len h9
  have hsegl:(K5 cs l.off (n*u3.size β)).length=n*u3.size β:=by
    simp only [K5,List.length_take,List.length_drop];omega
  have hal:(l.get a).l.length=n:=(l.get a).h
  have hlist:m.take n=m.take q:=by rw [←hmn,List.take_eq_take_iff];omega
  have hdrop:(l.get a).l.drop m.length=(l.get a).l.drop q:=by
    by_cases h:m.length≤n
    · rw [←hmn,Nat.min_eq_left h]
    · rw [List.drop_eq_nil_of_le (by omega),List.drop_eq_nil_of_le (by omega)]
  have hnl:(news.take (q*u3.size β)).length=q*u3.size β:=by
    rw [List.length_take,hl4];exact Nat.min_eq_left (Nat.mul_le_mul_right _ (by omega))
  have hqn:q*u3.size β≤n*u3.size β:=Nat.mul_le_mul_right _ (by omega)
  have hrep:P2 I (m.take n++(l.get a).l.drop m.length) (G1 (K5 cs l.off (n*u3.size β)) 0 (news.take (q*u3.size β))):=by
    rw [hlist,hdrop]
    have h10:=h4.cut 0 q (by omega)
    have h11:=P2.cut (show P2 I (l.get a).l _ from hget) q n (by omega)
    simp only [List.drop_zero,Nat.zero_mul] at h10 h11
    rw [List.take_of_length_le (show(l.get a).l.length≤n by omega)] at h11
    rw [List.take_of_length_le (show(K5 cs l.off (u3.size (M4 n β))).length≤n*u3.size β from Nat.le_of_eq hsegl)] at h11
    simp only [G1,List.take_zero,List.nil_append,Nat.zero_add]
    rw [hnl]
    exact h10.append h11
  have hbh:=hst.mem.loc (b,row cs T') (G3 h5 (by simp))
  have hall:∀ u∈news.take (q*u3.size β),u.oneCell'=true:=fun u hu=>List.all_eq_true.1 h4.flat u (List.mem_of_mem_take hu)
  have hfit:l.off+(news.take (q*u3.size β)).length≤cs.length:=by rw [hnl,hcl];omega
  have hst2:=W8 P b l.off T' (0,0) (news.take (q*u3.size β)) 0 cs.toArray w0 hbh (by simpa using hfit) hall (fun j hj=>by omega)
  have hr:(execOp ac.eval ⟨d,.call ⟨.builtin .copy,#[x,y],#[T,U]⟩,ty,ps,af,g⟩).run P w0 = .ok (.value (goInt q)) (w0.setRow b (G1 cs l.off (news.take (q*u3.size β))).toArray):=by
    simp [execOp,resolve,invoke,builtin,Builtin.copy_,run_underlying hT,h3.len w0,hsz,ha.ev h1,ha.ev h2,hmn,hfc]
    simp only [Nat.add_zero] at hst2
    simp [hst2,G1]
  rw [hr]
  have hset:rep I (l.set (a0J (l.get a) m) a) (G1 cs l.off (news.take (q*u3.size β))):=by
    have h12:=l.a7W (y:=a0J (l.get a) m) h9 (show rep I (a0J (l.get a) m) _ from hrep)
    rw [a3E (by rw [hnl,Nat.zero_add];exact hqn) (by rw [hcl];exact hfits2)] at h12
    exact h12
  refine⟨I,_,a9r hst h5 _,Le.refl I,.v ((q:Nat):Int),_,⟨_,⟨rfl,by omega,by omega⟩,rfl⟩,h7 I (bb,.ob (ptr b 0) (l.set (a0J (l.get a) m) a)) [(b,row _ T')] (Le.refl I) ⟨⟨b,T',_,rfl,rfl,hset⟩,fun hbb p hp => ?_⟩,k⟩
  have:=h6.2 hbb _ (List.mem_singleton.2 rfl)
  simp only [List.mem_singleton] at hp
  subst hp;exact this
end rules
end Go.Ab
namespace Go.Ab
open Go.Fl Go.RowKit
open u3 (rep)
section
variable {P:Program}{C:Ctx}{N n:Nat}{l:List Oper}{ci:List Nat}{ss:List (List (Nat×Nat))}{σ0:o8}{ι:Type 1}{HT:Nat→ι→j8}{accP:List (Nat×AV)}{Inv:Array Bool→List (Nat×AV)→j8→Prop}{ρ0:Env}{I:Im}{L0:Lh}{H0:j8}
end
end Go.Ab
namespace Go.Ab
open Go.Fl Go.RowKit
open u3 (rep)
structure AT where
 α:Type
 r:u3 α
 d:α
def AT.res (t:AT)(b:Nat):AV := @AV.ln t.α t.α t.r t.r (ptr b 0) (@j9.id t.α t.r)
def AT.blk (t:AT)(b:Nat):Bool×C3:=(true,@C3.ob t.α t.r (ptr b 0) t.d)
def a1n:Bool×C3:=(true,.fz undef .any)
def hA (listed:Nat→Bool)(ws:Nat→Nat)(al:List (Nat×AT)):j8:=al.map fun p=>bif listed p.1 then p.2.blk (ws p.1) else a1n
theorem wpA.c7y {P:Program}{C:Ctx}{N:Nat}{Q:Exit→o8→j8→Prop}{σ:o8}{H:j8}{c:Code}(k:wpA P C N c Q σ (a1n::H)):wpA P C N c Q σ H:=fun ρ I L hs =>
 wpS.pad (k ρ I ([]::L) ⟨hs.env,⟨[],L,rfl,⟨⟨rfl,trivial⟩,fun _ p hp=>by cases hp⟩,hs.heap⟩,hs.U9⟩)
theorem W9 {L:Lh}{i:Nat}(h:L[i]?=some [])(X:List (Nat×Obj)):(L.set i X).flatten.Perm (X++L.flatten):=by
 obtain⟨h1,h2⟩:=a1t L i [] h X
 rw [h1,h2,List.nil_append,←List.append_assoc,←List.append_assoc]
 exact List.Perm.append_right _ List.perm_append_comm
theorem a4o {C:Ctx}{I:Im}{L M:Lh}{w:World}(h:St C I L w)(hp:M.flatten.Perm L.flatten):St C I M w :=
 ⟨⟨h.mem.im,fun p hq=>h.mem.loc p (hp.mem_iff.1 hq),fun p hq=>h.mem.sep p (hp.mem_iff.1 hq),(hp.map Prod.fst).nodup_iff.2 h.mem.nodup⟩,h.W4,fun p hq=>h.own p (hp.mem_iff.1 hq),h.U9,h.new⟩
theorem OpH.c44 {P:Program}{C:Ctx}{N:Nat}{o:Oper}{σ:o8}{H:j8}{K:AV→j8→Prop}{F:Bool×C3→j8}(hh:H9 H a1n F)
    (h:OpH P C N o σ H (fun r H'=>∃ B,H'=B::H∧K r (F B))):OpH P C N o σ H K:=fun ρ I L hs a w ha hst=>by
  refine(h ρ I L hs a w ha hst).mono ?_
  rintro v w' ⟨J,L',q1,q2,r,H',q3,q4,B,rfl,q5⟩
  obtain⟨X,R,rfl,h1,h2⟩:=q4
  obtain⟨j,Y,h3,h4,h5⟩:=hh.get h2
  have hY:Y = []:=h4.1.1
  subst hY
  exact⟨J,R.set j X,a4o q1 (W9 h3 X),q2,r,F B,q3,h5 J B X (Le.refl J) h1,q5⟩
def rA (ws:Nat→Nat)(al:List (Nat×AT)):List (Nat×AV):=al.map fun p=>(p.1,p.2.res (ws p.1))
section
variable {P:Program}{C:Ctx}{N n:Nat}{ι:Type 1}{HT:ι→j8}{σ:o8}{full:List (Nat×AV)}{F:List (Nat×AV)→j8→Prop}{l:List Oper}{ss:List (List (Nat×Nat))}{al:List (Nat×AT)}{ci:List Nat}{H0:j8}{listed:Array Bool}{cacc:List (Nat×AV)}{H:j8}
end
theorem T4.c2h {n0:Nat}{I:Im}:∀ (m:Nat) {H:j8} {L:Lh},T4 n0 I H L→T4 n0 I (H.drop m) (L.drop m)
 | 0,_,_,h=>h
 | m+1,[],_,h=>by simp only [T4] at h;subst h;exact(show T4 n0 I [] [] from rfl)
 | m+1,B::H,_,h=>by obtain⟨X,R,rfl,h1,h2⟩:=h;exact T4.c2h m h2
theorem a77 {L:Lh}{m:Nat}{p:Nat×Obj}(h:p∈(L.drop m).flatten):p∈L.flatten:=by
 rw [←List.take_append_drop m L,List.flatten_append];exact List.mem_append_right _ h
theorem C6.c2i {G:Gl}{P:Program}{f:FuncId}{fn:Func}{c:Code}{ags:List AV}{Hs:List C3}{post:AV→List C3→Prop}(hf:P.funcs[f]?=some fn)(hb:fn.body=some c)(hn:(fn.name == "runtime.NumGoroutine")=false)
    (N:Nat)(hN:fn.ntmps=N)(hl:Nat.ble ags.length N=true)(σ:o8)(hσ:a95 ags 0=σ)(H0:j8)(hH:a6X Hs=H0)
    (h:∀ C:Ctx,Ctx.Ok C→G.p C.I0→wpA P C N c (a5X P fn C (fun r H=>∃ m:Nat,post r ((H.drop m).map Prod.snd))) σ H0):C6 G P f ags Hs post:=fun I L vs hG hvs hL =>
  ⟨⟨fn,hf,hn,by simp [hb]⟩,fun w hm=>a1R hf hb N hN (by rw [hvs.len];exact hl) hm (M:=L.flatten.map Prod.fst) (fun p hp=>List.mem_map_of_mem hp)
    ((h ⟨w, L.flatten.map Prod.fst, I, none⟩ (fun k hk => by
        obtain⟨p,hp,rfl⟩:=List.mem_map.1 hk
        exact D7 (hm.loc p hp)) hG (a1a vs 0) I L ⟨by rw [←hσ];exact hvs.env 0,by rw [←hH,a5e];exact hL.toH,Le.refl I⟩).mono fun e ρ J L hq=>a5X.q hq)
    fun v J L' w' hs hp=>by
      obtain⟨r,H,h1,h2,m,h3⟩:=hp
      refine⟨v,J,L'.drop m,j0,hs.W4,hs.U9,fun b h0 h1=>hs.new b h0 h1,⟨hs.mem.im,fun p hp=>hs.mem.loc p (a77 hp),fun p hp=>hs.mem.sep p (a77 hp),?_⟩,fun p hp=>hs.own p (a77 hp),r,_,h1,(h2.c2h m).toK,h3⟩
      have:=hs.mem.nodup
      rw [←List.take_append_drop m L',List.flatten_append,List.map_append,List.nodup_append] at this
      exact this.2.1⟩
theorem wpA.a78 {P:Program}{C:Ctx}{N:Nat}{Q:Exit→o8→j8→Prop}{σ:o8}{H:j8}{c:Code}(E:TypeId)(α:Type)[r:u3 α](k:wpA P C N c Q σ ((true,.own E (.slice none 0 0) ([]:List α))::H)):wpA P C N c Q σ H:=fun ρ I L hs =>
 wpS.pad (k ρ I ([]::L) ⟨hs.env,⟨[],L,rfl,⟨⟨[],a0Q.nil E _,rfl⟩,fun _ p hp=>by cases hp⟩,hs.heap⟩,hs.U9⟩)
theorem wpB.a78 {P:Program}{C:Ctx}{N:Nat}{ops:Array Oper}{Q:Exit→o8→j8→Prop}{os:List Oper}{σ:o8}{H:j8}(E:TypeId)(α:Type)[r:u3 α](k:wpB P C N ops Q os σ ((true,.own E (.slice none 0 0) ([]:List α))::H)):wpB P C N ops Q os σ H:=fun ρ I L hs =>
 wpL.pad (k ρ I ([]::L) ⟨hs.env,⟨[],L,rfl,⟨⟨[],a0Q.nil E _,rfl⟩,fun _ p hp=>by cases hp⟩,hs.heap⟩,hs.U9⟩)
theorem OpP.a45 {P:Program}{C:Ctx}{N:Nat}{σ:o8}{H:j8}{d:Option Nat}{ty:TypeId}{ps:String}{af:Array Edge}{g:Option (Nat×Bool)}{K:AV→Prop}{x:Operand}{S D:TypeId}{ds:TypeDesc}{m:UInt64}(hS:P.underlying S=some ds)(hD:P.underlying D=some (.int .u8))(hx:G5 C σ H x (.v m))(k:K (.v m.toUInt8)) :
    OpP P N C ⟨d,.convert S D x,ty,ps,af,g⟩ σ H K :=
  .vk k (fun ρ I L hs=>O3.a45 hS hD (hx.a4i hs) ⟨[Fl.u8 m.toUInt8],rfl,rfl⟩)
end Go.Ab
