/- Plain Lean over any program, and walks of this seat's functions: contracts, each proved once (part 1). -/
import Derived.Test.YtmmclghiidoldaaGreatDoorZ0
import Derived.Laws.CopyRow
import Derived.Laws.IdiomStrings
set_option maxRecDepth 1000000
set_option synthInstance.maxSize 1000000
set_option synthInstance.maxHeartbeats 10000000
set_option linter.unusedVariables false
set_option linter.unusedSimpArgs false
namespace Go.Proofs.YtmmclghiidoldaaGreatDoor
open Go.Proofs.Tryz
open Go.Fl Go.Sha
theorem b4T (I:Im):Fun prog 200 #[] I (fun v J=>v = .agg (iv.cells ++ [.slice none 0 0,i64 0]).toArray):=by
 refine Fun.intro (l := []) func200 rfl (by kernel_rfl) 3 rfl rfl [] rfl fun C hC=>(.seq (.region rfl (.x (.alloc b9U fun b => .nil (.seq (.region rfl (.v (.M8 P4 a8X rfl rfl rfl rfl (.v (.a4p c1g b9U rfl rfl (.n (.X9 0 10 b1k rfl rfl rfl rfl rfl rfl (.nil (.ret ⟨_,.r1 rfl (.a4o (cs:=iv.cells ++ [.slice none 0 0,i64 0]) 0 underlying251 rfl b1k rfl rfl),rfl⟩))))))))))))))
theorem a6J (I : Im) (x : H8) (sv : Value) (r : List UInt8) (len : Nat) (b : Value) (bs : List UInt8) (hr : Sl I 1 sv r.length (x5 r)) (hb : Sl I 1 b bs.length (x5 bs))
    (hlen:r.length+bs.length≤35184372088832) (hlen2:len+bs.length≤4611686018427387904) (hkk:Cells I 1 0 (kk.map u32)) :
    Fun prog 199 #[.agg (x.cells ++ [sv,i64 (len:Int)]).toArray,b] I (fun v J=>∃ sv',v = .agg ((a01 x (r++bs)).cells ++ [sv',i64 ((len+bs.length:Nat):Int)]).toArray∧Sl J 1 sv' (rest (r++bs)).length (x5 (rest (r++bs)))):=by
  generalize hl:r++bs=l
  have hll:l.length=r.length+bs.length:=by rw [←hl];simp
  obtain⟨a1,c1,rfl,_,_⟩:=id hr.shape
  obtain⟨a2,c2,rfl,_,_⟩:=id hb.shape
  generalize hsv:Value.slice a1 r.length c1=sv at *
  generalize hbv:Value.slice a2 bs.length c2=b at *
  refine Fun.intro (l := [.agg (x.cells ++ [sv,i64 (len:Int)]).toArray,b]) func199 rfl (by kernel_rfl) 32 rfl rfl [(0,.agg (x.cells ++ [sv,i64 (len:Int)]).toArray),(1,b)] rfl fun C hC=>(.seq (.region rfl (.x (.box (cs:=x.cells ++ [sv,i64 (len:Int)]) rfl rfl fun b2 => .x (.alloc b9U fun b4 => .nil (.seq (.region rfl (.v (.fieldAddr b4M rfl (.v (.J9 (v:=sv) 1 underlying86 rfl rfl rfl rfl (.v (.move rfl (.x (.buildSlice (n:=2) (zs := [.slice none 0 0]) (vs := [sv,b]) (pv := [(0,sv),(1,b)]) a9k.und a9k.size z86 rfl rfl (by rw [←hsv,←hbv];rfl) rfl (by decide) fun b9=>(.freeze 0 rfl (fun p _ hM=>by rw [hC] at hM;cases hM) fun I1 hI1 hp1=>(.x (.call rfl rfl (b3n I1 (slc b9 0 2 2) [(sv,r),(b,bs)] 2 rfl ?_ (Sl.a3o (Cells.b2S (hp1 (b9,row [sv,b] 86) (List.mem_singleton.2 rfl))) rfl (by decide) (by decide)) (by simp;omega)) fun v0 I2 hI2 hv0 => ?_))))))))))))))))))
  · intro p hp
    simp only [List.mem_cons,List.not_mem_nil,or_false] at hp
    rcases hp with rfl|rfl
    · exact hr.mono hI1
    · exact hb.mono hI1
  have hv0:Sl I2 1 v0 l.length (x5 l):=by simpa [hll,←hl] using hv0
  refine .v (.assign a8 ?_)
  refine .nil (.seq (.block (.loop (α:=Nat×Value) (fun x => [(5,x.2),(2,ptr b2 0),(4,ptr b4 0),(1,b)])
    (fun k => [[],[(b4,row (List.replicate 8 (u32 0) ++ [.slice none 0 0,i64 0]) 251)],[(b2,row ((feed x l k.1).cells ++ [sv,i64 (len:Int)]) 251)]])
    (fun k J=>64*k.1≤l.length∧Sl J 1 k.2 (l.length - 64*k.1) (x5 (l.drop (64*k.1)))) (fun k=>l.length - 64*k.1) (0,v0) ⟨by simp,by simpa using hv0⟩
    (.cons rfl (.cons rfl (.cons rfl (.cons rfl (.nil _))))) rfl fun x1 J1 hJ1 hF => ?_)))
  obtain⟨k,v⟩:=x1
  obtain⟨hk,hv⟩:=hF
  dsimp only at hk hv ⊢
  generalize hX:feed x l k=X
  obtain⟨a3,c3,rfl,_,hc3⟩:=id hv.shape
  generalize hvv:Value.slice a3 (l.length - 64*k) c3=v at *
  refine .seq (.seq (.region a8 (.v (.move a8 (.v (.len (a0:=a3) (n:=l.length - 64*k) (c:=c3) underlying86 (by rw [hvv];rfl) (.v (.geq a8 a8 (.nil (.K8 a8 (fun hge => .skip ?_) (fun hlt => .exit ?_)))))))))))
  · have h64:64≤l.length - 64*k:=by omega
    have cut6:∀ {J:Im} {v':Value},Sl J 1 v' (l.length - 64*k - 64) (((x5 (l.drop (64*k))).take ((l.length - 64*k)*1)).drop (64*1))→Sl J 1 v' (l.length - 64*(k+1)) (x5 (l.drop (64*(k+1)))):=fun h=>by
      have e1:l.length - 64*k - 64=l.length - 64*(k+1):=by omega
      have e2:((x5 (l.drop (64*k))).take ((l.length - 64*k)*1)).drop (64*1)=x5 (l.drop (64*(k+1))):=by
        rw [List.take_of_length_le (by simp [x5])]
        simp only [x5,←List.map_drop,List.drop_drop]
        congr 2
      rw [e1,e2] at h
      exact h
    refine .block (.b1g (by kernel_rfl) 8 [[],[(14,0)],[],[(16,2)],[(15,1),(17,3)],[],[(19,5)],[]] [5,6] a8 (by kernel_rfl) a8 ?_)
    refine⟨.is _,fun JJ hJJ ρ e2 => .C0 (.fieldAddr a7P e2 ⟨a8,a8⟩),?_⟩
    refine⟨.is _,fun JJ hJJ ρ e14 => .C0 (.b2T (vs:=X.cells) 2 underlying249 a8 a0t e14 a8 a8 ⟨a8,a8⟩),?_⟩
    refine⟨.is _,fun JJ hJJ ρ e5 => .C0 (.move e5 ⟨a8,a8⟩),?_⟩
    refine⟨.val (fun v J=>Sl J 1 v 64 (x5 ((l.drop (64*k)).take 64))) (fun _ _ _ h hle=>h.mono hle),fun JJ hJJ ρ e16 => .C0 (.slice (l:=0) (h:=64) M9.und M9.size e16 (hv.mono hJJ) (.inl ⟨rfl,rfl⟩) (.inr ⟨_,_,rfl,rfl⟩) (by omega) (by omega) fun v' hv'=>⟨rfl,by simpa [x5,List.map_take] using hv'⟩),?_⟩
    refine⟨.is _,fun JJ hJJ ρ e15 v17 e17 q17 => .M3 a8 (a7E e15 e17) (fun J hJ hL=>b3m J X _ (by simp;omega) v17 (q17.mono hJ) (hkk.mono (hI1.trans (hI2.trans (hJ1.trans (hJJ.trans hJ)))))) ⟨a8,a8⟩,?_⟩
    refine⟨.is _,fun JJ hJJ ρ e5 => .C0 (.move e5 ⟨a8,a8⟩),?_⟩
    refine⟨.val (fun v J=>Sl J 1 v (l.length - 64*(k+1)) (x5 (l.drop (64*(k+1))))) (fun _ _ _ h hle=>h.mono hle),fun JJ hJJ ρ e19 => .C0 (.slice (l:=64) (h:=l.length - 64*k) M9.und M9.size e19 (hv.mono (hJJ)) (.inr ⟨_,_,a8,a8⟩) (.inl ⟨a8,a8⟩) (by omega) (by omega) fun v' hv'=>⟨a8,cut6 hv'⟩),?_⟩
    refine⟨.is _,fun JJ hJJ ρ e2 => .C0 (.fieldAddr a7P e2 ⟨a8,a8⟩),?_⟩
    refine⟨a8,fun J2 hJ2 v17 q17 => ?_⟩
    refine .b7l 2 8 a0t a8 a8 a8 a8 a8 (by exact Nat.le_of_ble_eq_true rfl) ⟨Le.refl _,fun JJ hJJ ρ e5 => .C0 (.move e5 ⟨a8,a8⟩),fun JJ hJJ ρ e19 => .C0 (.slice (l:=64) (h:=l.length - 64*k) M9.und M9.size e19 (hv.mono (hJ2.trans hJJ)) (.inr ⟨_,_,a8,a8⟩) (.inl ⟨a8,a8⟩) (by omega) (by omega) fun v' hv'=>⟨a8,cut6 hv'⟩),fun J3 hJ3 v20 q20 => ?_⟩
    refine .v (.assign rfl (.nil ⟨(k+1,v20),.cons rfl (.cons rfl (.cons rfl (.cons rfl (.nil _)))),?_,⟨by dsimp only;omega,q20⟩,by dsimp only;omega,hJ1.trans (hJ2.trans hJ3)⟩))
    subst hX
    rfl
  · have hkk2:k=l.length/64:=by omega
    have hX2:X=a01 x l:=by rw [←hX,hkk2];rfl
    have hv2:Sl J1 1 v (l.length - 64*k) (x5 (rest l)):=by rw [rest,←hkk2];exact hv
    have hrl:(rest l).length=l.length - 64*k:=by rw [rest,←hkk2,List.length_drop]
    refine .seq (.draw (by kernel_rfl) 10 [[],[(22,0)],[],[(24,2)],[],[(26,4)],[],[(28,6)],[(27,5),(29,7)],[(23,1),(25,3),(30,8)]] a8 (by kernel_rfl) a8 ?_)
    refine⟨.is _,fun JJ hJJ ρ e2 => .C0 (.fieldAddr a7P e2 ⟨a8,a8⟩),?_⟩
    refine⟨.is _,fun JJ hJJ ρ e22 => .C0 (.b2T (vs:=X.cells) 2 underlying249 a8 a0t e22 a8 a8 ⟨a8,a8⟩),?_⟩
    refine⟨.is _,fun JJ hJJ ρ e5 => .C0 (.move e5 ⟨a8,a8⟩),?_⟩
    refine⟨.val (fun v J=>Sl J 1 v (l.length - 64*k) (x5 (rest l))) (fun _ _ _ h hle=>h.mono hle),fun JJ hJJ ρ e24 => .call a8 (c23 e24) (b5X JJ v (l.length - 64*k) (rest l) hrl (hv2.mono hJJ) (by omega)) fun v' J' hle hp=>⟨a8,hp⟩,?_⟩
    refine⟨.is _,fun JJ hJJ ρ e2 => .C0 (.fieldAddr b4N e2 ⟨a8,a8⟩),?_⟩
    refine⟨.is _,fun JJ hJJ ρ e26 => .C0 (.J9 (v:=i64 (len:Int)) 2 underlying3 a8 e26 a8 a8 ⟨a8,a8⟩),?_⟩
    refine⟨.is _,fun JJ hJJ ρ e1 => .C0 (.move e1 ⟨a8,a8⟩),?_⟩
    refine⟨.is _,fun JJ hJJ ρ e28 => .C0 (.len (a0:=a2) (n:=bs.length) (c:=c2) underlying86 (by rw [hbv];exact e28) ⟨a8,a8⟩),?_⟩
    refine⟨.is _,fun JJ hJJ ρ e27 e29 => .C0 (.add e27 e29 (by omega) (by omega) ⟨a8,a8⟩),?_⟩
    refine⟨.val (fun v J=>∃ sv',v = .agg (X.cells ++ [sv',i64 ((len+bs.length:Nat):Int)]).toArray∧Sl J 1 sv' (l.length - 64*k) (x5 (rest l))) (fun _ _ _ h hle=>by obtain⟨s,h1,h2⟩:=h;exact⟨s,h1,h2.mono hle⟩),fun JJ hJJ ρ e23 v25 e25 q25 e30 => .C0 (by obtain⟨a9,c9,hv9,_,_⟩:=id q25.shape;subst hv9;exact .a4p (pv := [(0,.agg X.cells.toArray),(1,.slice a9 (l.length - 64*k) c9),(2,i64 ((len:Int)+(bs.length:Int)))]) c1g b9U (a8b e23 (a8b e25 (a8b e30 b9I))) rfl ⟨rfl,_,(by rw [Int.natCast_add];rfl),q25⟩),?_⟩
    intro J2 hJ2 v25 q25 v31 q31
    obtain⟨sv',rfl,hsv'⟩:=q31
    obtain⟨a9,c9,rfl,_,_⟩:=id hsv'.shape
    refine .n (.X9 1 10 b1k a8 a8 a8 a8 a8 a8 (.nil (.ret ⟨_,.r1 a8 (.a4o (cs:=X.cells ++ [.slice a9 (l.length - 64*k) c9,i64 ((len+bs.length:Nat):Int)]) 1 underlying251 a8 b1k a8 a8),.slice a9 (l.length - 64*k) c9,?_,?_⟩)))
    · rw [hX2]
    · rw [hrl];exact hsv'
theorem b4U (I : Im) (x : H8) (sv : Value) (r : List UInt8) (len : Nat) (hr : Sl I 1 sv r.length (x5 r)) (hlen : r.length ≤ 17592186044416) (hlen2 : len ≤ 2305843009213693952) (hkk : Cells I 1 0 (kk.map u32)) :
    Fun prog 198 #[.agg (x.cells ++ [sv,i64 (len:Int)]).toArray] I (fun v J=>v = .agg (x5 (a2t x r len)).toArray):=by
  obtain⟨a1,c1,rfl,_,_⟩:=id hr.shape
  generalize hsv:Value.slice a1 r.length c1=sv at *
  refine Fun.intro (l := [.agg (x.cells ++ [sv,i64 (len:Int)]).toArray]) func198 rfl (by kernel_rfl) 72 rfl rfl [(0,.agg (x.cells ++ [sv,i64 (len:Int)]).toArray)] rfl fun C hC=>(.seq (.region rfl (.x (.box (cs:=x.cells ++ [sv,i64 (len:Int)]) rfl rfl fun b1 => .x (.alloc z26 fun b2 => .nil (.seq (.region rfl (.x (.buildSlice (n:=1) (zs := [u8 0]) (vs := [u8 128]) (pv := [(0,u8 128)]) M9.und M9.size z5 rfl rfl rfl rfl (by decide) fun b9=>(.v (.assign rfl ?_)))))))))))
  have hz:=b4R r.length
  have hzd:a2s r.length=(119 - r.length % 64) % 64:=rfl
  refine .nil (.seq (.block (.loop (α:=Nat×Value×List (Nat×Obj)) (fun x => [(3,x.2.1),(1,ptr b1 0),(2,ptr b2 0)])
    (fun k => [k.2.2,[(b2,row (List.replicate 32 (u8 0)) 26)],[(b1,row (x.cells ++ [sv,i64 (len:Int)]) 251)]])
    (fun k J=>k.1≤a2s r.length∧Own 5 1 k.2.1 (1+k.1) (x5 (128::List.replicate k.1 0)) k.2.2) (fun k=>a2s r.length - k.1) (0,slc b9 0 1 1,[(b9,row [u8 128] 5)]) ⟨by simp,Own.made rfl (by decide)⟩
    (.cons rfl (.cons rfl (.cons rfl (.nil _)))) rfl fun x1 J1 hJ1 hF => ?_)))
  obtain⟨k,v,X⟩:=x1
  obtain⟨hk,hown⟩:=hF
  dsimp only at hk hown ⊢
  obtain⟨a3,c3,rfl⟩:=id hown.shape
  generalize hvv:Value.slice a3 (1+k) c3=v at *
  refine .seq (.seq (.region a8 (.v (.fieldAddr b4M a8 (.v (.J9 (v:=sv) 2 underlying86 a8 a8 a8 a8 (.v (.len (a0:=a1) (n:=r.length) (c:=c1) underlying86 (by rw [hsv];rfl) (.v (.move a8 (.v (.len (a0:=a3) (n:=1+k) (c:=c3) underlying86 (by rw [hvv];rfl) (.v (.add a8 a8 (by omega) (by omega) (.v (.rem a8 a8 (by omega) (by omega) (.v (.a7D a8 a8 (.nil (.K8 a8 (fun hne => .skip ?_) (fun heq => .exit ?_)))))))))))))))))))))
  · have hk2:k < a2s r.length:=by
      rcases Nat.lt_or_ge k (a2s r.length) with h|h
      · exact h
      · exact absurd (show((r.length:Int)+((1+k:Nat):Int)) % 64=56 by omega) hne
    refine .block (.region a8 (.v (.move a8 (.x (.buildSlice (n:=1) (zs := [u8 0]) (vs := [u8 0]) (pv := [(0,u8 0)]) M9.und M9.size z5 a8 a8 a8 a8 (by decide) fun b19=>(.s (.append 1 M9 (by decide) (.inl ⟨_,underlying86⟩) a8 a8 a8 hown (.chunk 0 a8 a8) a8 (by unfold maxLen;omega) (by omega) fun v' X' hown'=>(.v (.assign a8 ?_)))))))))
    refine .forget (X := [_]) (.nil ⟨(k+1,v',X'),.cons rfl (.cons rfl (.cons rfl (.nil _))),rfl,⟨by dsimp only;omega,?_⟩,by dsimp only;omega,hJ1⟩)
    have e1:x5 (128::List.replicate k 0) ++ [u8 0]=x5 (128::List.replicate (k+1) 0):=by simp [x5,List.replicate_succ']
    rw [e1] at hown'
    exact hown'
  · have hk2:k=a2s r.length:=by
      have:((r.length:Int)+((1+k:Nat):Int)) % 64=56:=by
        by_cases h:((r.length:Int)+((1+k:Nat):Int)) % 64=56
        · exact h
        · exact absurd h heq
      omega
    subst hk2
    generalize hp0:(128::List.replicate (a2s r.length) 0:List UInt8)=p0 at hown
    have hp0l:p0.length=1+a2s r.length:=by rw [←hp0];simp;omega
    refine .seq (.region a8 (.v (.fieldAddr b4N a8 (.v (.J9 (v:=i64 (len:Int)) 2 underlying3 a8 a8 a8 a8 (.v (.a1r underlying3 underlying77 a8 (.v (.b1d (n:=8) a8 a8 (.v (.assign a8 ?_)))))))))))
    generalize hn:UInt64.ofInt (len:Int)*8=n
    refine .nil (.seq (.seq (.region a8 (.v (.assign a8 ?_)))))
    refine .nil (.block (.loop (α:=Nat×Value×List (Nat×Obj)) (fun x => [(5,i64 (56 - 8*(x.1:Int))),(3,x.2.1),(4,u64 n),(1,ptr b1 0),(2,ptr b2 0)])
      (fun k => [k.2.2,[(b2,row (List.replicate 32 (u8 0)) 26)],[(b1,row (x.cells ++ [sv,i64 (len:Int)]) 251)]])
      (fun k J=>k.1≤8∧Own 5 1 k.2.1 (1+a2s r.length+k.1) (x5 (p0++R9 n k.1)) k.2.2) (fun k=>8 - k.1) (0,v,X) ⟨by simp,by simpa [R9] using hown⟩
      (.cons rfl (.cons rfl (.cons rfl (.cons rfl (.cons rfl (.nil _)))))) rfl fun x2 J2 hJ2 hF => ?_))
    obtain⟨k,v2,X2⟩:=x2
    obtain⟨hk,hown2⟩:=hF
    dsimp only at hk hown2 ⊢
    refine .seq (.seq (.region a8 (.v (.move a8 (.v (.geq a8 a8 (.nil (.K8 a8 (fun hge => .skip ?_) (fun hlt => .exit ?_)))))))))
    · have hk8:k < 8:=by omega
      refine .seq (.block (.region a8 (.v (.move a8 (.v (.move a8 (.v (.move a8 (.v (.a52 (56 - 8*k) a8 a8 (by omega) (by omega) (.v (.a2p underlying77 underlying5 a8 ?_))))))))))))
      generalize hq:(n >>> UInt64.ofNat (56 - 8*k)).toUInt8=q
      refine .x (.buildSlice (n:=1) (zs := [u8 0]) (vs := [u8 q]) (pv := [(0,u8 q)]) M9.und M9.size z5 a8 a8 a8 a8 (by decide) fun b34=>(.s (.append 1 M9 (by decide) (.inl ⟨_,underlying86⟩) a8 a8 a8 hown2 (.chunk 0 a8 a8) a8 (by unfold maxLen;omega) (by omega) fun v' X' hown'=>(.v (.assign a8 (.forget (X := [_]) (.nil (.region a8 (.v (.move a8 (.v (.sub a8 a8 (by omega) (by omega) (.v (.assign a8 ?_))))))))))))))
      refine .nil ⟨(k+1,v',X'),.cons ?_ (.cons rfl (.cons rfl (.cons rfl (.cons rfl (.nil _))))),rfl,⟨by dsimp only;omega,?_⟩,by dsimp only;omega,hJ2⟩
      · exact congrArg (fun q=>some (i64 q)) (by dsimp only;omega)
      · have e1:x5 (p0++R9 n k) ++ [u8 q]=x5 (p0++R9 n (k+1)):=by rw [a1s,hq];simp [x5]
        rw [e1] at hown'
        exact hown'
    · have hk2:k=8:=by omega
      subst hk2
      have hpl:(pad r.length n).length=1+a2s r.length+8:=by rw [a8j];omega
      have hpad:p0++R9 n 8=pad r.length n:=by rw [←hp0];rfl
      refine .seq (.region rfl (.x (.alloc z26 fun b6 => .nil (.freeze 1 rfl (fun p _ hM=>by rw [hC] at hM;cases hM) fun J3 hJ3 hp3 => ?_))))
      have hps:Sl J3 1 v2 (pad r.length n).length (x5 (pad r.length n)):=by
        have:=hown2.sl hp3
        rw [hpad] at this
        rw [hpl];exact this
      have hI3:=hJ1.trans (hJ2.trans hJ3)
      refine .seq (.seq (.region a8 (.v (.a29 (cs:=x.cells ++ [sv,i64 (len:Int)]) 3 underlying251 a8 b1k a8 a8 (.v (.move a8 (.x (.call a8 a8 (a6J J3 x sv r len v2 (pad r.length n) (hr.mono hI3) hps (by omega) (by omega) (hkk.mono hI3)) fun v4 J4 hJ4 hp4 => ?_))))))))
      obtain⟨sv',rfl,_⟩:=hp4
      have hy:a2t x r len=(a01 x (r++pad r.length n)).l.flatMap a0S:=by rw [←hn];rfl
      generalize a01 x (r++pad r.length n)=y at hy
      refine .v (.c1K (vs:=y.cells) a7P a8 a8 (.v (.move a8 ?_)))
      refine .nil (.block (.loop (α:=Nat) (fun k => [(40,i64 k),(39,.agg y.cells.toArray),(6,ptr b6 0),(1,ptr b1 0),(2,ptr b2 0)])
        (fun k => [[(b6,row (a6H y k) 26)],[],[(b2,row (List.replicate 32 (u8 0)) 26)],[(b1,row (x.cells ++ [sv,i64 (len:Int)]) 251)]])
        (fun k _=>k≤8) (fun k=>8 - k) 0 (by omega)
        (.cons rfl (.cons rfl (.cons rfl (.cons rfl (.cons rfl (.nil _)))))) rfl fun k J5 hJ5 hk => ?_))
      refine .seq (.region a8 (.v (.lss a8 a8 (.nil (.seq (.K8 a8 (fun hlt => .skip ?_) (fun hge => .exit ?_)))))))
      · have hk8:k < 8:=by omega
        refine .seq (.block (.seq (.region a8 (.v (.move a8 (.v (.b7j P4 a8 a8 (by omega) (by omega) (a4V y k _ (by simp) hk8) (.v (.assign a8 (.v (.assign a8 (.nil (.region a8 (.v (.move a8 (.v (.mul a8 a8 (by omega) (by omega) (.v (.move a8 (.v (.mul a8 a8 (by omega) (by omega) (.v (.add a8 a8 (by omega) (by omega) (.v (.move a8 (.v (.mul a8 a8 (by omega) (by omega) (.v (.add a8 a8 (by omega) (by omega) (.v (.move a8 (.v (.mul a8 a8 (by omega) (by omega) (.v (.add a8 a8 (by omega) (by omega) (.v (.move a8 (.v (.a5c 24 a8 a8 a8 (by decide) (.v (.a4m underlying248 underlying5 a8 (.v (.move a8 (.v (.a5c 16 a8 a8 a8 (by decide) (.v (.a4m underlying248 underlying5 a8 (.v (.move a8 (.v (.a5c 8 a8 a8 a8 (by decide) (.v (.a4m underlying248 underlying5 a8 (.v (.move a8 (.v (.a4m underlying248 underlying5 a8 (.v (.x8 M6 a8 a8 (by omega) (by omega) ?_)))))))))))))))))))))))))))))))))))))))))))))))))))))))))))
        have hL:=a7b y k (by omega)
        refine .n (.a2q 0 sz5 a8 a8 a8 a8 a8 (by rw [hL];omega) (.v (.x8 M6 a8 a8 (by omega) (by omega) (.n (.a2q 0 sz5 a8 a8 a8 a8 a8 (by rw [F4 _ _ _ (by rw [hL];simp;omega),hL];omega) (.v (.x8 M6 a8 a8 (by omega) (by omega) (.n (.a2q 0 sz5 a8 a8 a8 a8 a8 (by rw [F4 _ _ _ (by rw [F4 _ _ _ (by rw [hL];simp;omega),hL];simp;omega),F4 _ _ _ (by rw [hL];simp;omega),hL];omega) (.v (.x8 M6 a8 a8 (by omega) (by omega) (.n (.a2q 0 sz5 a8 a8 a8 a8 a8 (by rw [F4 _ _ _ (by rw [F4 _ _ _ (by rw [F4 _ _ _ (by rw [hL];simp;omega),hL];simp;omega),F4 _ _ _ (by rw [hL];simp;omega),hL];simp;omega),F4 _ _ _ (by rw [F4 _ _ _ (by rw [hL];simp;omega),hL];simp;omega),F4 _ _ _ (by rw [hL];simp;omega),hL];omega) (.nil ?_))))))))))))))
        have hset:=b7D y k _ _ _ _ (show 0+(4*(k:Int)).toNat*1=4*k by omega) (show 0+(4*(k:Int)+1).toNat*1=4*k+1 by omega) (show 0+(4*(k:Int)+2).toNat*1=4*k+2 by omega) (show 0+(4*(k:Int)+3).toNat*1=4*k+3 by omega) hk8
        refine .region a8 (.v (.add a8 a8 (by omega) (by omega) (.v (.move a8 ?_))))
        refine .nil ⟨k+1,.cons rfl (.cons rfl (.cons rfl (.cons rfl (.cons rfl (.nil _))))),?_,by omega,by omega,hJ5⟩
        exact congrArg (fun c => [[(b6,row c 26)],[],[(b2,row (List.replicate 32 (u8 0)) 26)],[(b1,row (x.cells ++ [sv,i64 (len:Int)]) 251)]]) hset
      · have hk8:k=8:=by omega
        subst hk8
        have hL:=a7b y 8 (by omega)
        have ho8:a6H y 8=x5 (y.l.flatMap a0S):=by simp [a6H,H8.l]
        refine .seq (.region a8 (.v (.a29 (cs:=a6H y 8) 0 underlying26 a8 (by rw [hL];exact b1j) a8 a8 (.n (.X9 2 32 b1j a8 a8 hL (Y9 _ _ fun _=>a8) a8 a8 (.nil (.ret ⟨_,.r1 a8 (.a4o (cs:=a6H y 8) 2 underlying26 a8 (by rw [hL];exact b1j) a8 a8),?_⟩)))))))
        rw [ho8,hy]
theorem c1Y (I : Im) (b : Value) (bs : List UInt8) (hb : Sl I 1 b bs.length (x5 bs)) (hlen : bs.length ≤ 17592186044416) (hkk : Cells I 1 0 (kk.map u32)) :
    Fun prog 197 #[b] I (fun v J=>v = .agg (x5 (a3b bs)).toArray):=by
  refine Fun.intro (l := [b]) func197 rfl (by kernel_rfl) 7 rfl rfl [(0,b)] rfl fun C hC=>(.seq (.region rfl (.x (.alloc z26 fun b2 => .nil (.seq (.region rfl (.x (.M3 rfl rfl (fun J _ _=>b4T J) (.v (.move rfl (.x (.call rfl rfl (a6J I iv (.slice none 0 0) [] 0 b bs (Sl.nil _ _) hb (by simp;omega) (by omega) hkk) fun v J hJ hp => ?_))))))))))))
  simp only [List.nil_append,Nat.zero_add] at hp
  obtain⟨sv',rfl,hsv⟩:=hp
  have hrl:(rest bs).length≤bs.length:=by simp [rest]
  refine .x (.M3 a8 a8 (fun J2 hJ2 _=>b4U J2 (a01 iv bs) sv' (rest bs) bs.length (hsv.mono hJ2) (by omega) (by omega) (hkk.mono (hJ.trans hJ2))) ?_)
  have hdl:(x5 (a3b bs)).length=32:=by
    rw [a0u,a3b,a2t,a0N,H8.length]
  refine .n (.X9 0 32 b1j a8 a8 hdl (Y9 _ _ fun _=>a8) a8 a8 (.nil (.ret ⟨_,.r1 a8 (.a4o (cs:=x5 (a3b bs)) 0 underlying26 a8 (by rw [hdl];exact b1j) a8 a8),a8⟩)))
theorem c1Z (n:Nat) (h1:n < 32):(32:UInt64) - UInt64.ofNat n=UInt64.ofNat (32 - n):=by
 have:∀ n:Fin 32,(32:UInt64) - UInt64.ofNat n.val=UInt64.ofNat (32 - n.val):=by decide +kernel
 exact this ⟨n,h1⟩
theorem Q8 (I : Im) (x : UInt32) (n : Nat) (h0 : 0 < n) (h1 : n < 32) :
    Fun prog 225 #[u32 x,u64 (UInt64.ofNat n)] I (fun v J=>v=u32 (a56 x n)):=by
  refine Fun.intro (l := [u32 x,u64 (UInt64.ofNat n)]) func225 rfl (by kernel_rfl) 13 rfl rfl [(0,u32 x),(1,u64 (UInt64.ofNat n))] rfl fun C hC=>(.seq (.region rfl (.v (.assign rfl (.nil (.seq (.region rfl (.v (.move rfl (.v (.move rfl (.v (.a5c n rfl rfl (by rw [b4S n (by omega)]) h1 (.v (.move rfl (.v (.move rfl (.v (.b1e (m:=32) rfl rfl ?_)))))))))))))))))))
  rw [c1Z n h1]
  refine .v (.a67 (32 - n) a8 a8 (by rw [b4S _ (by omega)]) (by omega) (.v (.b1c a8 a8 (.v (.assign a8 ?_)))))
  exact .nil (.ret ⟨_,.r1 a8 (.tmp a8),a8⟩)
set_option maxRecDepth 10000 in
theorem a8Y (I:Im):Fun prog 226 #[] I (fun v J=>v = .agg (kk.map u32).toArray):=by
 refine Fun.intro (l := []) func226 rfl (by kernel_rfl) 2 rfl rfl [] rfl fun C hC=>(.seq (.region rfl (.x (.alloc b3k fun b => .nil (.seq (.region rfl (.v (.M8 (vs:=kk.map u32) a1R b3k rfl rfl rfl rfl ?_))))))))
 exact .n (.X9 0 64 a8g a8 a8 a8 (Y9 _ _ fun _=>a8) a8 a8 (.nil (.ret ⟨_,.r1 a8 (.a4o (cs:=kk.map u32) 0 underlying276 a8 a8g a8 a8),a8⟩)))
theorem b1p (I:Im):Fun prog 205 #[] I (fun v J=>v=iv.v):=by
 refine Fun.intro (l := []) func205 rfl (by kernel_rfl) 2 rfl rfl [] rfl fun C hC=>(.seq (.region rfl (.x (.alloc a8X fun b => .nil (.seq (.region rfl (.v (.M8 (vs:=iv.cells) P4 a8X rfl rfl rfl rfl ?_))))))))
 exact .n (.X9 0 8 a0t a8 a8 a8 a8 a8 a8 (.nil (.ret ⟨_,.r1 a8 (.a4o (cs:=iv.cells) 0 underlying249 a8 a0t a8 a8),a8⟩)))
theorem H8.add_comm (x y:H8):x.add y=y.add x:=by simp [H8.add,UInt32.add_comm]
theorem b5Y (I : Im) (x : H8) (l : List UInt8) (hl : l.length = 64) (s : Value) (hs : Sl I 1 s 64 (x5 l)) :
    Fun prog 206 #[x.v,s] I (fun v J=>v=(compress x l).v):=by
  obtain⟨bb,oo,cc,rfl,hc,h1,h2⟩:=hs.open (by intro e;have:=congrArg List.length e;simp [x5,hl] at this)
  refine Fun.intro (l := [x.v,slc bb oo 64 cc]) func206 rfl (by kernel_rfl) 202 rfl rfl [(0,x.v),(1,slc bb oo 64 cc)] rfl fun C hC=>(.seq (.region rfl (.x (.box (cs:=x.cells) rfl rfl fun b2 => .x (.alloc a8X fun b4 => .nil (.seq (.region rfl (.x (.alloc b3k fun b5 => .nil (.seq (.seq (.region rfl (.v (.assign rfl ?_))))))))))))))
  refine .nil (.block (.loop (α:=Nat) (fun k => [(6,i64 k),(1,slc bb oo 64 cc),(2,ptr b2 0),(4,ptr b4 0),(5,ptr b5 0)])
    (fun k => [[(b5,row (a00 l k) 276)],[(b4,row (List.replicate 8 (u32 0)) 249)],[(b2,row x.cells 249)]]) (fun k _=>k≤16) (fun k=>16 - k) 0 (by omega)
    (.cons rfl (.cons rfl (.cons rfl (.cons rfl (.cons rfl (.nil _)))))) (by rw [a7a];rfl) fun k J hJ hk => ?_))
  have hcJ:=hc.mono hJ
  refine .seq (.seq (.region a8 (.v (.move a8 (.v (.lss a8 a8 (.nil (.K8 a8 (fun hlt => .skip ?_) (fun hge => .exit ?_)))))))))
  · have hk16:k < 16:=by omega
    refine .seq (.block (.draw (by kernel_rfl) 35 [[],[],[],[(28,2)],[(27,1),(29,3)],[(30,4)],[(31,5)],[(32,6)],[],[],[(35,9)],[(36,10)],[(34,8),(37,11)],[(38,12)],[(39,13)],[(40,14)],[(33,7),(41,15)],[],[],[(44,18)],[(45,19)],[(43,17),(46,20)],[(47,21)],[(48,22)],[(49,23)],[(42,16),(50,24)],[],[],[(53,27)],[(54,28)],[(52,26),(55,29)],[(56,30)],[(57,31)],[(51,25),(58,32)],[(26,0)]] a8 (by kernel_rfl) a8 ?_))
    refine⟨.is _,fun JJ hJJ ρ e6 => .C0 (.move e6 ⟨a8,a8⟩),?_⟩
    refine⟨.is _,fun JJ hJJ ρ e1 => .C0 (.move e1 ⟨a8,a8⟩),?_⟩
    refine⟨.is _,fun JJ hJJ ρ e6 => .C0 (.move e6 ⟨a8,a8⟩),?_⟩
    refine⟨.is _,fun JJ hJJ ρ e28 => .C0 (.mul a8 e28 (by omega) (by omega) ⟨a8,a8⟩),?_⟩
    refine⟨.is _,fun JJ hJJ ρ e27 e29 => .C0 (.P7 M9.und M9.size e27 e29 (by omega) (by omega) ⟨a8,a8⟩),?_⟩
    refine⟨.is _,fun JJ hJJ ρ e30 => .C0 (.a4n underlying5 a8 e30 (hcJ.mono hJJ) a8 (b1m l (4*k) _ (by omega) (by omega)) ⟨a8,a8⟩),?_⟩
    refine⟨.is _,fun JJ hJJ ρ e31 => .C0 (.a1P underlying5 underlying248 e31 ⟨a8,a8⟩),?_⟩
    refine⟨.is _,fun JJ hJJ ρ e32 => .C0 (.a67 24 e32 a8 a8 (by decide) ⟨a8,a8⟩),?_⟩
    refine⟨.is _,fun JJ hJJ ρ e1 => .C0 (.move e1 ⟨a8,a8⟩),?_⟩
    refine⟨.is _,fun JJ hJJ ρ e6 => .C0 (.move e6 ⟨a8,a8⟩),?_⟩
    refine⟨.is _,fun JJ hJJ ρ e35 => .C0 (.mul a8 e35 (by omega) (by omega) ⟨a8,a8⟩),?_⟩
    refine⟨.is _,fun JJ hJJ ρ e36 => .C0 (.add e36 a8 (by omega) (by omega) ⟨a8,a8⟩),?_⟩
    refine⟨.is _,fun JJ hJJ ρ e34 e37 => .C0 (.P7 M9.und M9.size e34 e37 (by omega) (by omega) ⟨a8,a8⟩),?_⟩
    refine⟨.is _,fun JJ hJJ ρ e38 => .C0 (.a4n underlying5 a8 e38 (hcJ.mono hJJ) a8 (b1m l (4*k+1) _ (by omega) (by omega)) ⟨a8,a8⟩),?_⟩
    refine⟨.is _,fun JJ hJJ ρ e39 => .C0 (.a1P underlying5 underlying248 e39 ⟨a8,a8⟩),?_⟩
    refine⟨.is _,fun JJ hJJ ρ e40 => .C0 (.a67 16 e40 a8 a8 (by decide) ⟨a8,a8⟩),?_⟩
    refine⟨.is _,fun JJ hJJ ρ e33 e41 => .C0 (.b1c e33 e41 ⟨a8,a8⟩),?_⟩
    refine⟨.is _,fun JJ hJJ ρ e1 => .C0 (.move e1 ⟨a8,a8⟩),?_⟩
    refine⟨.is _,fun JJ hJJ ρ e6 => .C0 (.move e6 ⟨a8,a8⟩),?_⟩
    refine⟨.is _,fun JJ hJJ ρ e44 => .C0 (.mul a8 e44 (by omega) (by omega) ⟨a8,a8⟩),?_⟩
    refine⟨.is _,fun JJ hJJ ρ e45 => .C0 (.add e45 a8 (by omega) (by omega) ⟨a8,a8⟩),?_⟩
    refine⟨.is _,fun JJ hJJ ρ e43 e46 => .C0 (.P7 M9.und M9.size e43 e46 (by omega) (by omega) ⟨a8,a8⟩),?_⟩
    refine⟨.is _,fun JJ hJJ ρ e47 => .C0 (.a4n underlying5 a8 e47 (hcJ.mono hJJ) a8 (b1m l (4*k+2) _ (by omega) (by omega)) ⟨a8,a8⟩),?_⟩
    refine⟨.is _,fun JJ hJJ ρ e48 => .C0 (.a1P underlying5 underlying248 e48 ⟨a8,a8⟩),?_⟩
    refine⟨.is _,fun JJ hJJ ρ e49 => .C0 (.a67 8 e49 a8 a8 (by decide) ⟨a8,a8⟩),?_⟩
    refine⟨.is _,fun JJ hJJ ρ e42 e50 => .C0 (.b1c e42 e50 ⟨a8,a8⟩),?_⟩
    refine⟨.is _,fun JJ hJJ ρ e1 => .C0 (.move e1 ⟨a8,a8⟩),?_⟩
    refine⟨.is _,fun JJ hJJ ρ e6 => .C0 (.move e6 ⟨a8,a8⟩),?_⟩
    refine⟨.is _,fun JJ hJJ ρ e53 => .C0 (.mul a8 e53 (by omega) (by omega) ⟨a8,a8⟩),?_⟩
    refine⟨.is _,fun JJ hJJ ρ e54 => .C0 (.add e54 a8 (by omega) (by omega) ⟨a8,a8⟩),?_⟩
    refine⟨.is _,fun JJ hJJ ρ e52 e55 => .C0 (.P7 M9.und M9.size e52 e55 (by omega) (by omega) ⟨a8,a8⟩),?_⟩
    refine⟨.is _,fun JJ hJJ ρ e56 => .C0 (.a4n underlying5 a8 e56 (hcJ.mono hJJ) a8 (b1m l (4*k+3) _ (by omega) (by omega)) ⟨a8,a8⟩),?_⟩
    refine⟨.is _,fun JJ hJJ ρ e57 => .C0 (.a1P underlying5 underlying248 e57 ⟨a8,a8⟩),?_⟩
    refine⟨.is _,fun JJ hJJ ρ e51 e58 => .C0 (.b1c e51 e58 ⟨a8,a8⟩),?_⟩
    refine⟨.is _,fun JJ hJJ ρ e5 e26 => .C0 (.x8 a1R e5 e26 (by omega) (by omega) ⟨a8,a8⟩),?_⟩
    intro J2 hJ2 
    have hset:=a3N l k (0+(k:Int).toNat*1) (by simp) (by omega)
    refine .n (.a2q 0 a9l a8 a8 a8 a8 a8 (by rw [Q7 l k (by omega)];simp;omega) (.nil (.region a8 (.v (.move a8 (.v (.add a8 a8 (by omega) (by omega) (.v (.assign a8 ?_)))))))))
    refine .nil ⟨k+1,.cons rfl (.cons rfl (.cons rfl (.cons rfl (.cons rfl (.nil _))))),?_,by omega,by omega,hJ.trans hJ2⟩
    simp only [next,if_pos hk16,beW] at hset
    exact congrArg (fun c => [[(b5,row c 276)],[(b4,row (List.replicate 8 (u32 0)) 249)],[(b2,row x.cells 249)]]) hset
  have hk16:k=16:=by omega
  subst hk16
  refine .seq (.seq (.region a8 (.v (.assign a8 ?_))))
  refine .nil (.block (.loop (α:=Nat) (fun k => [(7,i64 k),(1,slc bb oo 64 cc),(2,ptr b2 0),(4,ptr b4 0),(5,ptr b5 0)])
    (fun k => [[(b5,row (a00 l k) 276)],[(b4,row (List.replicate 8 (u32 0)) 249)],[(b2,row x.cells 249)]]) (fun k _=>16≤k∧k≤64) (fun k=>64 - k) 16 (by omega)
    (.cons rfl (.cons rfl (.cons rfl (.cons rfl (.cons rfl (.nil _)))))) rfl fun k J1 hJ1 hk => ?_))
  refine .seq (.seq (.region a8 (.v (.move a8 (.v (.lss a8 a8 (.nil (.K8 a8 (fun hlt => .skip ?_) (fun hge => .exit ?_)))))))))
  · have hk64:k < 64:=by omega
    refine .seq (.block (.seq (.draw (by kernel_rfl) 10 [[],[(65,0)],[(66,1)],[(67,2)],[],[(69,4)],[(70,5)],[(71,6)],[(68,3)],[(72,7)]] a8 (by kernel_rfl) a8 ?_)))
    refine⟨.is _,fun JJ hJJ ρ e7 => .C0 (.move e7 ⟨a8,a8⟩),?_⟩
    refine⟨.is _,fun JJ hJJ ρ e65 => .C0 (.sub e65 a8 (by omega) (by omega) ⟨a8,a8⟩),?_⟩
    refine⟨.is _,fun JJ hJJ ρ e5 e66 => .C0 (.x8 a1R e5 e66 (by omega) (by omega) ⟨a8,a8⟩),?_⟩
    refine⟨.is _,fun JJ hJJ ρ e67 => .C0 (.J9 0 underlying248 a8 e67 a8 (Z1 l k (k - 2) _ (by omega) (by omega)) ⟨a8,a8⟩),?_⟩
    refine⟨.is _,fun JJ hJJ ρ e7 => .C0 (.move e7 ⟨a8,a8⟩),?_⟩
    refine⟨.is _,fun JJ hJJ ρ e69 => .C0 (.sub e69 a8 (by omega) (by omega) ⟨a8,a8⟩),?_⟩
    refine⟨.is _,fun JJ hJJ ρ e5 e70 => .C0 (.x8 a1R e5 e70 (by omega) (by omega) ⟨a8,a8⟩),?_⟩
    refine⟨.is _,fun JJ hJJ ρ e71 => .C0 (.J9 0 underlying248 a8 e71 a8 (Z1 l k (k - 15) _ (by omega) (by omega)) ⟨a8,a8⟩),?_⟩
    refine⟨.is _,fun JJ hJJ ρ e68 => .C0 (.assign e68 ⟨a8,a8⟩),?_⟩
    refine⟨.is _,fun JJ hJJ ρ e72 => .C0 (.assign e72 ⟨a8,a8⟩),?_⟩
    intro J2 hJ2 
    refine .nil (.draw (by kernel_rfl) 29 [[],[],[(74,1)],[],[(76,3)],[(75,2),(77,4)],[],[(79,6)],[(78,5),(80,7)],[],[(82,9)],[(83,10)],[(84,11)],[(81,8),(85,12)],[],[(87,14)],[],[(89,16)],[(88,15),(90,17)],[],[(92,19)],[(91,18),(93,20)],[(86,13),(94,21)],[],[(96,23)],[(97,24)],[(98,25)],[(95,22),(99,26)],[(73,0)]] a8 (by kernel_rfl) a8 ?_)
    refine⟨.is _,fun JJ hJJ ρ e7 => .C0 (.move e7 ⟨a8,a8⟩),?_⟩
    refine⟨.is _,fun JJ hJJ ρ e8 => .C0 (.move e8 ⟨a8,a8⟩),?_⟩
    refine⟨.is _,fun JJ hJJ ρ e74 => .M3 a8 (a7E e74 a8) (fun J hJ hL=>Q8 J _ 17 (by decide) (by decide)) ⟨a8,a8⟩,?_⟩
    refine⟨.is _,fun JJ hJJ ρ e8 => .C0 (.move e8 ⟨a8,a8⟩),?_⟩
    refine⟨.is _,fun JJ hJJ ρ e76 => .M3 a8 (a7E e76 a8) (fun J hJ hL=>Q8 J _ 19 (by decide) (by decide)) ⟨a8,a8⟩,?_⟩
    refine⟨.is _,fun JJ hJJ ρ e75 e77 => .C0 (.a0l e75 e77 ⟨a8,a8⟩),?_⟩
    refine⟨.is _,fun JJ hJJ ρ e8 => .C0 (.move e8 ⟨a8,a8⟩),?_⟩
    refine⟨.is _,fun JJ hJJ ρ e79 => .C0 (.a5c 10 e79 a8 a8 (by decide) ⟨a8,a8⟩),?_⟩
    refine⟨.is _,fun JJ hJJ ρ e78 e80 => .C0 (.a0l e78 e80 ⟨a8,a8⟩),?_⟩
    refine⟨.is _,fun JJ hJJ ρ e7 => .C0 (.move e7 ⟨a8,a8⟩),?_⟩
    refine⟨.is _,fun JJ hJJ ρ e82 => .C0 (.sub e82 a8 (by omega) (by omega) ⟨a8,a8⟩),?_⟩
    refine⟨.is _,fun JJ hJJ ρ e5 e83 => .C0 (.x8 a1R e5 e83 (by omega) (by omega) ⟨a8,a8⟩),?_⟩
    refine⟨.is _,fun JJ hJJ ρ e84 => .C0 (.J9 0 underlying248 a8 e84 a8 (Z1 l k (k - 7) _ (by omega) (by omega)) ⟨a8,a8⟩),?_⟩
    refine⟨.is _,fun JJ hJJ ρ e81 e85 => .C0 (.a0k e81 e85 ⟨a8,a8⟩),?_⟩
    refine⟨.is _,fun JJ hJJ ρ e9 => .C0 (.move e9 ⟨a8,a8⟩),?_⟩
    refine⟨.is _,fun JJ hJJ ρ e87 => .M3 a8 (a7E e87 a8) (fun J hJ hL=>Q8 J _ 7 (by decide) (by decide)) ⟨a8,a8⟩,?_⟩
    refine⟨.is _,fun JJ hJJ ρ e9 => .C0 (.move e9 ⟨a8,a8⟩),?_⟩
    refine⟨.is _,fun JJ hJJ ρ e89 => .M3 a8 (a7E e89 a8) (fun J hJ hL=>Q8 J _ 18 (by decide) (by decide)) ⟨a8,a8⟩,?_⟩
    refine⟨.is _,fun JJ hJJ ρ e88 e90 => .C0 (.a0l e88 e90 ⟨a8,a8⟩),?_⟩
    refine⟨.is _,fun JJ hJJ ρ e9 => .C0 (.move e9 ⟨a8,a8⟩),?_⟩
    refine⟨.is _,fun JJ hJJ ρ e92 => .C0 (.a5c 3 e92 a8 a8 (by decide) ⟨a8,a8⟩),?_⟩
    refine⟨.is _,fun JJ hJJ ρ e91 e93 => .C0 (.a0l e91 e93 ⟨a8,a8⟩),?_⟩
    refine⟨.is _,fun JJ hJJ ρ e86 e94 => .C0 (.a0k e86 e94 ⟨a8,a8⟩),?_⟩
    refine⟨.is _,fun JJ hJJ ρ e7 => .C0 (.move e7 ⟨a8,a8⟩),?_⟩
    refine⟨.is _,fun JJ hJJ ρ e96 => .C0 (.sub e96 a8 (by omega) (by omega) ⟨a8,a8⟩),?_⟩
    refine⟨.is _,fun JJ hJJ ρ e5 e97 => .C0 (.x8 a1R e5 e97 (by omega) (by omega) ⟨a8,a8⟩),?_⟩
    refine⟨.is _,fun JJ hJJ ρ e98 => .C0 (.J9 0 underlying248 a8 e98 a8 (Z1 l k (k - 16) _ (by omega) (by omega)) ⟨a8,a8⟩),?_⟩
    refine⟨.is _,fun JJ hJJ ρ e95 e99 => .C0 (.a0k e95 e99 ⟨a8,a8⟩),?_⟩
    refine⟨.is _,fun JJ hJJ ρ e5 e73 => .C0 (.x8 a1R e5 e73 (by omega) (by omega) ⟨a8,a8⟩),?_⟩
    intro J3 hJ3 
    have hset:=a3N l k (0+(k:Int).toNat*1) (by simp) hk64
    refine .n (.a2q 0 a9l a8 a8 a8 a8 a8 (by rw [Q7 l k (by omega)];simp;omega) (.nil (.region a8 (.v (.move a8 (.v (.add a8 a8 (by omega) (by omega) (.v (.assign a8 ?_)))))))))
    refine .nil ⟨k+1,.cons rfl (.cons rfl (.cons rfl (.cons rfl (.cons rfl (.nil _))))),?_,by omega,by omega,hJ1.trans (hJ2.trans hJ3)⟩
    simp only [next,if_neg (show ¬k < 16 by omega)] at hset
    exact congrArg (fun c => [[(b5,row c 276)],[(b4,row (List.replicate 8 (u32 0)) 249)],[(b2,row x.cells 249)]]) hset
  have hk64:k=64:=by omega
  subst hk64
  rw [a8h]
  unfold compress
  have hw:(wl l 64).length=64:=a2j l 64
  generalize wl l 64=ws at hw ⊢
  refine .seq (.region a8 (.x (.M3 a8 a8 (fun J _ _=>a8Y J) (.x (.alloc b3k fun b10=>(.n (.X9 0 64 a8g a8 a8 a8 (Y9 _ _ fun _=>a8) a8 a8 (.nil (.seq (.region a8 (.v (.a29 (cs:=x.cells) 3 underlying249 a8 a0t a8 a8 (.x (.alloc a8X fun b11=>(.n (.X9 0 8 a0t a8 a8 a8 a8 a8 a8 (.nil (.seq (.seq (.region a8 (.v (.assign a8 ?_))))))))))))))))))))))
  refine .nil (.block (.loop (α:=Nat) (fun k => [(12,i64 k),(2,ptr b2 0),(4,ptr b4 0),(5,ptr b5 0),(10,ptr b10 0),(11,ptr b11 0)])
    (fun k => [[(b11,row (rounds ws x k).cells 249)],[(b10,row (kk.map u32) 276)],[(b5,row (ws.map u32) 276)],[(b4,row (List.replicate 8 (u32 0)) 249)],[(b2,row x.cells 249)]])
    (fun k _=>k≤64) (fun k=>64 - k) 0 (by omega)
    (.cons rfl (.cons rfl (.cons rfl (.cons rfl (.cons rfl (.cons rfl (.nil _))))))) rfl fun k J2 hJ2 hk => ?_))
  refine .seq (.seq (.region a8 (.v (.move a8 (.v (.lss a8 a8 (.nil (.K8 a8 (fun hlt => .skip ?_) (fun hge => .exit ?_)))))))))
  · have hk64:k < 64:=by omega
    refine .seq (.block (.seq ?_))
    generalize hX:rounds ws x k=X
    refine .draw (by kernel_rfl) 18 [[],[(108,0)],[],[(110,2)],[],[(112,4)],[],[(114,6)],[],[(116,8)],[],[(118,10)],[(109,1)],[(111,3)],[(113,5)],[(115,7)],[(117,9)],[(119,11)]] a8 (by kernel_rfl) a8 ?_
    refine⟨.is _,fun JJ hJJ ρ e11 => .C0 (.x8 P4 e11 a8 (by omega) (by omega) ⟨a8,a8⟩),?_⟩
    refine⟨.is _,fun JJ hJJ ρ e108 => .C0 (.J9 0 underlying248 a8 e108 a8 (v:=u32 X.a) a8 ⟨a8,a8⟩),?_⟩
    refine⟨.is _,fun JJ hJJ ρ e11 => .C0 (.x8 P4 e11 a8 (by omega) (by omega) ⟨a8,a8⟩),?_⟩
    refine⟨.is _,fun JJ hJJ ρ e110 => .C0 (.J9 0 underlying248 a8 e110 a8 (v:=u32 X.b) a8 ⟨a8,a8⟩),?_⟩
    refine⟨.is _,fun JJ hJJ ρ e11 => .C0 (.x8 P4 e11 a8 (by omega) (by omega) ⟨a8,a8⟩),?_⟩
    refine⟨.is _,fun JJ hJJ ρ e112 => .C0 (.J9 0 underlying248 a8 e112 a8 (v:=u32 X.c) a8 ⟨a8,a8⟩),?_⟩
    refine⟨.is _,fun JJ hJJ ρ e11 => .C0 (.x8 P4 e11 a8 (by omega) (by omega) ⟨a8,a8⟩),?_⟩
    refine⟨.is _,fun JJ hJJ ρ e114 => .C0 (.J9 0 underlying248 a8 e114 a8 (v:=u32 X.e) a8 ⟨a8,a8⟩),?_⟩
    refine⟨.is _,fun JJ hJJ ρ e11 => .C0 (.x8 P4 e11 a8 (by omega) (by omega) ⟨a8,a8⟩),?_⟩
    refine⟨.is _,fun JJ hJJ ρ e116 => .C0 (.J9 0 underlying248 a8 e116 a8 (v:=u32 X.f) a8 ⟨a8,a8⟩),?_⟩
    refine⟨.is _,fun JJ hJJ ρ e11 => .C0 (.x8 P4 e11 a8 (by omega) (by omega) ⟨a8,a8⟩),?_⟩
    refine⟨.is _,fun JJ hJJ ρ e118 => .C0 (.J9 0 underlying248 a8 e118 a8 (v:=u32 X.g) a8 ⟨a8,a8⟩),?_⟩
    refine⟨.is _,fun JJ hJJ ρ e109 => .C0 (.assign e109 ⟨a8,a8⟩),?_⟩
    refine⟨.is _,fun JJ hJJ ρ e111 => .C0 (.assign e111 ⟨a8,a8⟩),?_⟩
    refine⟨.is _,fun JJ hJJ ρ e113 => .C0 (.assign e113 ⟨a8,a8⟩),?_⟩
    refine⟨.is _,fun JJ hJJ ρ e115 => .C0 (.assign e115 ⟨a8,a8⟩),?_⟩
    refine⟨.is _,fun JJ hJJ ρ e117 => .C0 (.assign e117 ⟨a8,a8⟩),?_⟩
    refine⟨.is _,fun JJ hJJ ρ e119 => .C0 (.assign e119 ⟨a8,a8⟩),?_⟩
    intro J3 hJ3 
    refine .nil (.seq (.draw (by kernel_rfl) 29 [[],[(120,0)],[],[(122,2)],[],[(124,4)],[(123,3),(125,5)],[],[(127,7)],[(126,6),(128,8)],[(121,1),(129,9)],[],[],[(131,11),(132,12)],[],[(134,14)],[],[(135,15),(136,16)],[(133,13),(137,17)],[(130,10),(138,18)],[],[(140,20)],[(141,21)],[(139,19),(142,22)],[],[(144,24)],[(145,25)],[(143,23),(146,26)],[(147,27)]] a8 (by kernel_rfl) a8 ?_))
    refine⟨.is _,fun JJ hJJ ρ e11 => .C0 (.x8 P4 e11 a8 (by omega) (by omega) ⟨a8,a8⟩),?_⟩
    refine⟨.is _,fun JJ hJJ ρ e120 => .C0 (.J9 0 underlying248 a8 e120 a8 (v:=u32 X.h) a8 ⟨a8,a8⟩),?_⟩
    refine⟨.is _,fun JJ hJJ ρ e16 => .C0 (.move e16 ⟨a8,a8⟩),?_⟩
    refine⟨.is _,fun JJ hJJ ρ e122 => .M3 a8 (a7E e122 a8) (fun J hJ hL=>Q8 J _ 6 (by decide) (by decide)) ⟨a8,a8⟩,?_⟩
    refine⟨.is _,fun JJ hJJ ρ e16 => .C0 (.move e16 ⟨a8,a8⟩),?_⟩
    refine⟨.is _,fun JJ hJJ ρ e124 => .M3 a8 (a7E e124 a8) (fun J hJ hL=>Q8 J _ 11 (by decide) (by decide)) ⟨a8,a8⟩,?_⟩
    refine⟨.is _,fun JJ hJJ ρ e123 e125 => .C0 (.a0l e123 e125 ⟨a8,a8⟩),?_⟩
    refine⟨.is _,fun JJ hJJ ρ e16 => .C0 (.move e16 ⟨a8,a8⟩),?_⟩
    refine⟨.is _,fun JJ hJJ ρ e127 => .M3 a8 (a7E e127 a8) (fun J hJ hL=>Q8 J _ 25 (by decide) (by decide)) ⟨a8,a8⟩,?_⟩
    refine⟨.is _,fun JJ hJJ ρ e126 e128 => .C0 (.a0l e126 e128 ⟨a8,a8⟩),?_⟩
    refine⟨.is _,fun JJ hJJ ρ e121 e129 => .C0 (.a0k e121 e129 ⟨a8,a8⟩),?_⟩
    refine⟨.is _,fun JJ hJJ ρ e16 => .C0 (.move e16 ⟨a8,a8⟩),?_⟩
    refine⟨.is _,fun JJ hJJ ρ e17 => .C0 (.move e17 ⟨a8,a8⟩),?_⟩
    refine⟨.is _,fun JJ hJJ ρ e131 e132 => .C0 (.a5b e131 e132 ⟨a8,a8⟩),?_⟩
    refine⟨.is _,fun JJ hJJ ρ e16 => .C0 (.move e16 ⟨a8,a8⟩),?_⟩
    refine⟨.is _,fun JJ hJJ ρ e134 => .C0 (.c09 e134 ⟨a8,a8⟩),?_⟩
    refine⟨.is _,fun JJ hJJ ρ e18 => .C0 (.move e18 ⟨a8,a8⟩),?_⟩
    refine⟨.is _,fun JJ hJJ ρ e135 e136 => .C0 (.a5b e135 e136 ⟨a8,a8⟩),?_⟩
    refine⟨.is _,fun JJ hJJ ρ e133 e137 => .C0 (.a0l e133 e137 ⟨a8,a8⟩),?_⟩
    refine⟨.is _,fun JJ hJJ ρ e130 e138 => .C0 (.a0k e130 e138 ⟨a8,a8⟩),?_⟩
    refine⟨.is _,fun JJ hJJ ρ e12 => .C0 (.move e12 ⟨a8,a8⟩),?_⟩
    refine⟨.is _,fun JJ hJJ ρ e10 e140 => .C0 (.x8 a1R e10 e140 (by omega) (by omega) ⟨a8,a8⟩),?_⟩
    refine⟨.is _,fun JJ hJJ ρ e141 => .C0 (.J9 1 underlying248 a8 e141 a8 (b4Q kk k _ (by simp) hk64) ⟨a8,a8⟩),?_⟩
    refine⟨.is _,fun JJ hJJ ρ e139 e142 => .C0 (.a0k e139 e142 ⟨a8,a8⟩),?_⟩
    refine⟨.is _,fun JJ hJJ ρ e12 => .C0 (.move e12 ⟨a8,a8⟩),?_⟩
    refine⟨.is _,fun JJ hJJ ρ e5 e144 => .C0 (.x8 a1R e5 e144 (by omega) (by omega) ⟨a8,a8⟩),?_⟩
    refine⟨.is _,fun JJ hJJ ρ e145 => .C0 (.J9 2 underlying248 a8 e145 a8 (b4Q ws k _ (by simp) (by omega)) ⟨a8,a8⟩),?_⟩
    refine⟨.is _,fun JJ hJJ ρ e143 e146 => .C0 (.a0k e143 e146 ⟨a8,a8⟩),?_⟩
    refine⟨.is _,fun JJ hJJ ρ e147 => .C0 (.assign e147 ⟨a8,a8⟩),?_⟩
    intro J4 hJ4 
    refine .nil (.seq (.region a8 (.v (.move a8 (.x (.M3 a8 a8 (fun J hJ hL=>Q8 J _ 2 (by decide) (by decide)) (.v (.move a8 (.x (.M3 a8 a8 (fun J hJ hL=>Q8 J _ 13 (by decide) (by decide)) (.v (.a0l a8 a8 (.v (.move a8 (.x (.M3 a8 a8 (fun J hJ hL=>Q8 J _ 22 (by decide) (by decide)) (.v (.a0l a8 a8 (.v (.move a8 (.v (.move a8 (.v (.a5b a8 a8 (.v (.move a8 (.v (.move a8 (.v (.a5b a8 a8 (.v (.a0l a8 a8 (.v (.move a8 (.v (.move a8 (.v (.a5b a8 a8 (.v (.a0l a8 a8 (.v (.a0k a8 a8 (.v (.assign a8 (.nil (.region a8 (.v (.move a8 (.v (.move a8 (.v (.a0k a8 a8 (.v (.x8 P4 a8 a8 (by omega) (by omega) (.v (.J9 0 underlying248 a8 a8 a8 (v:=u32 X.a) a8 (.v (.x8 P4 a8 a8 (by omega) (by omega) (.v (.J9 0 underlying248 a8 a8 a8 (v:=u32 X.b) a8 (.v (.x8 P4 a8 a8 (by omega) (by omega) (.v (.J9 0 underlying248 a8 a8 a8 (v:=u32 X.c) a8 (.v (.x8 P4 a8 a8 (by omega) (by omega) (.v (.J9 0 underlying248 a8 a8 a8 (v:=u32 X.d) a8 (.v (.move a8 (.v (.a0k a8 a8 (.v (.x8 P4 a8 a8 (by omega) (by omega) (.v (.J9 0 underlying248 a8 a8 a8 (v:=u32 X.e) a8 (.v (.x8 P4 a8 a8 (by omega) (by omega) (.v (.J9 0 underlying248 a8 a8 a8 (v:=u32 X.f) a8 (.v (.x8 P4 a8 a8 (by omega) (by omega) (.v (.J9 0 underlying248 a8 a8 a8 (v:=u32 X.g) a8 (.v (.M8 P4 a8X a8 a8 a8 a8 (.n (.X9 0 8 a0t a8 a8 a8 a8 a8 a8 (.nil (.region a8 (.v (.move a8 (.v (.add a8 a8 (by omega) (by omega) (.v (.assign a8 ?_))))))))))))))))))))))))))))))))))))))))))))))))))))))))))))))))))))))))))))))))))))))))))))))))
    refine .nil ⟨k+1,.cons rfl (.cons rfl (.cons rfl (.cons rfl (.cons rfl (.cons rfl (.nil _)))))),?_,by omega,by omega,hJ2.trans (hJ3.trans hJ4)⟩
    subst hX
    rfl
  have hk64:k=64:=by omega
  subst hk64
  generalize rounds ws x 64=v
  refine .seq (.seq (.region a8 (.v (.assign a8 ?_))))
  refine .nil (.block (.loop (α:=Nat) (fun k => [(21,i64 k),(2,ptr b2 0),(4,ptr b4 0),(11,ptr b11 0)])
    (fun k => [[(b11,row v.cells 249)],[(b10,row (kk.map u32) 276)],[(b5,row (ws.map u32) 276)],[(b4,row (List.replicate 8 (u32 0)) 249)],[(b2,row (x.mix v k) 249)]])
    (fun k _=>k≤8) (fun k=>8 - k) 0 (by omega)
    (.cons rfl (.cons rfl (.cons rfl (.cons rfl (.nil _))))) rfl fun k J3 hJ3 hk => ?_))
  refine .seq (.seq (.region a8 (.v (.move a8 (.v (.lss a8 a8 (.nil (.K8 a8 (fun hlt => .skip ?_) (fun hge => .exit ?_)))))))))
  · have hk8:k < 8:=by omega
    refine .seq (.block (.draw (by kernel_rfl) 9 [[],[],[(193,1)],[(194,2)],[],[(196,4)],[(197,5)],[(195,3),(198,6)],[(192,0)]] a8 (by kernel_rfl) a8 ?_))
    refine⟨.is _,fun JJ hJJ ρ e21 => .C0 (.move e21 ⟨a8,a8⟩),?_⟩
    refine⟨.is _,fun JJ hJJ ρ e21 => .C0 (.move e21 ⟨a8,a8⟩),?_⟩
    refine⟨.is _,fun JJ hJJ ρ e2 e193 => .C0 (.x8 P4 e2 e193 (by omega) (by omega) ⟨a8,a8⟩),?_⟩
    refine⟨.is _,fun JJ hJJ ρ e194 => .C0 (.J9 4 underlying248 a8 e194 a8 (b4O x v k _ (by simp) hk8) ⟨a8,a8⟩),?_⟩
    refine⟨.is _,fun JJ hJJ ρ e21 => .C0 (.move e21 ⟨a8,a8⟩),?_⟩
    refine⟨.is _,fun JJ hJJ ρ e11 e196 => .C0 (.x8 P4 e11 e196 (by omega) (by omega) ⟨a8,a8⟩),?_⟩
    refine⟨.is _,fun JJ hJJ ρ e197 => .C0 (.J9 0 underlying248 a8 e197 a8 (a4V v k _ (by simp) hk8) ⟨a8,a8⟩),?_⟩
    refine⟨.is _,fun JJ hJJ ρ e195 e198 => .C0 (.a0k e195 e198 ⟨a8,a8⟩),?_⟩
    refine⟨.is _,fun JJ hJJ ρ e2 e192 => .C0 (.x8 P4 e2 e192 (by omega) (by omega) ⟨a8,a8⟩),?_⟩
    intro J4 hJ4 
    have hset:=b4P x v k (0+(k:Int).toNat*1) (by simp) hk8
    refine .n (.a2q 4 a9l a8 a8 a8 a8 a8 (by rw [a8i x v k hk];simp;omega) (.nil (.region a8 (.v (.move a8 (.v (.add a8 a8 (by omega) (by omega) (.v (.assign a8 ?_)))))))))
    refine .nil ⟨k+1,.cons rfl (.cons rfl (.cons rfl (.cons rfl (.nil _)))),?_,by omega,by omega,hJ3.trans hJ4⟩
    exact congrArg (fun c => [[(b11,row v.cells 249)],[(b10,row (kk.map u32) 276)],[(b5,row (ws.map u32) 276)],[(b4,row (List.replicate 8 (u32 0)) 249)],[(b2,row c 249)]]) hset
  have hk8:k=8:=by omega
  subst hk8
  refine .seq (.region a8 (.v (.a29 (cs:=(x.add v).cells) 4 underlying249 a8 a0t a8 a8 (.n (.X9 3 8 a0t a8 a8 a8 a8 a8 a8 (.nil (.ret ⟨_,.r1 a8 (.a4o (cs:=(x.add v).cells) 3 underlying249 a8 a0t a8 a8),?_⟩)))))))
  rw [H8.add_comm v x]
  rfl
theorem a9n (I:Im) (n:UInt64):Fun prog 183 #[u64 n] I (fun v J=>Sl J 1 v 8 (x5 (R9 n 8))):=by
 refine Fun.intro (l := [u64 n]) func183 rfl (by kernel_rfl) 18 rfl rfl [(0,u64 n)] rfl fun C hC=>(.seq (.region rfl (.v (.assign rfl (.nil (.seq (.region rfl (.v (.assign rfl (.nil (.seq (.seq (.region rfl (.pad (.v (.assign rfl ?_))))))))))))))))
 refine .nil (.block (.loop (α:=Nat×Value×List (Nat×Obj)) (fun x => [(4,i64 (56 - 8*(x.1:Int))),(3,x.2.1),(0,u64 n)])
  (fun k => [k.2.2]) (fun k J=>k.1≤8∧Own 5 1 k.2.1 k.1 (x5 (R9 n k.1)) k.2.2) (fun k=>8 - k.1) (0,.slice none 0 0,[]) ⟨by simp,Own.nil _ _⟩
  (.cons rfl (.cons rfl (.cons rfl (.nil _)))) rfl fun x2 J2 hJ2 hF => ?_))
 obtain⟨k,v2,X2⟩:=x2
 obtain⟨hk,hown2⟩:=hF
 dsimp only at hk hown2 ⊢
 refine .seq (.seq (.region a8 (.v (.move a8 (.v (.geq a8 a8 (.nil (.K8 a8 (fun hge => .skip ?_) (fun hlt => .exit ?_)))))))))
 ·have hk8:k < 8:=by omega
  refine .seq (.block (.region a8 (.v (.move a8 (.v (.move a8 (.v (.move a8 (.v (.a1r underlying3 underlying213 a8 (.v (.a52 (56 - 8*k) a8 a8 (b0a k hk8) (by omega) (.v (.a2p underlying77 underlying5 a8 ?_))))))))))))))
  generalize hq:(n >>> UInt64.ofNat (56 - 8*k)).toUInt8=q
  refine .x (.buildSlice (n:=1) (zs := [u8 0]) (vs := [u8 q]) (pv := [(0,u8 q)]) M9.und M9.size z5 a8 a8 a8 a8 (by decide) fun b34=>(.s (.append 1 M9 (by decide) (.inl ⟨_,underlying86⟩) a8 a8 a8 hown2 (.chunk 0 a8 a8) a8 (by unfold maxLen;omega) (by omega) fun v' X' hown'=>(.v (.assign a8 (.forget (X := [_]) (.nil (.region a8 (.v (.move a8 (.v (.sub a8 a8 (by omega) (by omega) (.v (.assign a8 ?_))))))))))))))
  refine .nil ⟨(k+1,v',X'),.cons ?_ (.cons rfl (.cons rfl (.nil _))),rfl,⟨by dsimp only;omega,?_⟩,by dsimp only;omega,hJ2⟩
  ·exact congrArg (fun q=>some (i64 q)) (by dsimp only;omega)
  ·have e1:x5 (R9 n k) ++ [u8 q]=x5 (R9 n (k+1)):=by rw [a1s,hq];simp [x5]
   rw [e1] at hown'
   exact hown'
 ·have hk2:k=8:=by omega
  subst hk2
  refine .seq (.region a8 (.v (.move a8 (.v (.assign a8 ?_)))))
  exact .nil (.freeze 0 rfl (fun p _ hM=>by rw [hC] at hM;cases hM) fun J hJ hp => .ret ⟨_,.r1 rfl (.tmp rfl),hown2.sl hp⟩)
theorem c3e {J:Im} {v':Value} {m:List UInt8} {k:Nat} (h:Sl J 1 v' (64*k+64 - 64*k) (((x5 m).take ((64*k+64)*1)).drop (64*k*1))):Sl J 1 v' 64 (x5 ((m.drop (64*k)).take 64)):=by
 have e1:64*k+64 - 64*k=64:=by omega
 have e2:((x5 m).take ((64*k+64)*1)).drop (64*k*1)=x5 ((m.drop (64*k)).take 64):=by
  simp only [Nat.mul_one,x5,←List.map_take,←List.map_drop,List.drop_take]
  rw [e1]
 rw [e1,e2] at h
 exact h
theorem b9W (I : Im) (b : Value) (bs : List UInt8) (hb : Sl I 1 b bs.length (x5 bs)) (hlen : bs.length ≤ 17592186044416) :
    Fun prog 181 #[b] I (fun v J=>v = .agg (x5 (b3l bs)).toArray):=by
  obtain⟨a1,c1,rfl,_,_⟩:=id hb.shape
  generalize hbv:Value.slice a1 bs.length c1=b at *
  refine Fun.intro (l := [b]) func181 rfl (by kernel_rfl) 59 rfl rfl [(0,b)] rfl fun C hC=>(.seq (.region rfl (.x (.alloc z26 fun b2 => .nil (.seq (.region rfl (.x (.buildSlice (n:=0) (zs := [u8 0]) (vs := []) (pv := []) M9.und M9.size z5 rfl rfl rfl rfl (by decide) fun b8=>(.v (.move rfl ?_))))))))))
  have hown0:Own 5 1 (slc b8 0 0 0) 0 [] [(b8,row [] 5)]:=Own.made rfl (by decide)
  refine .s (.append 0 M9 (by decide) (.inl ⟨_,underlying86⟩) a8 a8 a8 hown0 (.sl hb) (Y9 _ _ fun _=>a8) (by unfold maxLen;omega) (by omega) fun v0 X0 hown0'=>(.x (.buildSlice (n:=1) (zs := [u8 0]) (vs := [u8 128]) (pv := [(0,u8 128)]) M9.und M9.size z5 a8 a8 a8 a8 (by decide) fun b11=>(.s (.append 1 M9 (by decide) (.inl ⟨_,underlying86⟩) a8 a8 a8 hown0' (.chunk 0 a8 a8) a8 (by unfold maxLen;omega) (by omega) fun v1 X1 hown1=>(.v (.assign a8 ?_)))))))
  have hz:=b4R bs.length
  have hzd:a2s bs.length=(119 - bs.length % 64) % 64:=rfl
  refine .forget (X := [_]) (.nil (.seq (.block (.loop (α:=Nat×Value×List (Nat×Obj)) (fun x => [(3,x.2.1),(0,b),(2,ptr b2 0)])
    (fun k => [k.2.2,[(b2,row (List.replicate 32 (u8 0)) 26)]])
    (fun k J=>k.1≤a2s bs.length∧Own 5 1 k.2.1 (bs.length+1+k.1) (x5 (bs++128::List.replicate k.1 0)) k.2.2) (fun k=>a2s bs.length - k.1) (0,v1,X1) ⟨by simp,by simpa [x5] using hown1⟩
    (.cons rfl (.cons rfl (.cons rfl (.nil _)))) rfl fun x1 J1 hJ1 hF => ?_))))
  obtain⟨k,v,X⟩:=x1
  obtain⟨hk,hown⟩:=hF
  dsimp only at hk hown ⊢
  obtain⟨a3,c3,rfl⟩:=id hown.shape
  generalize hvv:Value.slice a3 (bs.length+1+k) c3=v at *
  refine .seq (.seq (.region a8 (.v (.move a8 (.v (.len (a0:=a3) (n:=bs.length+1+k) (c:=c3) underlying86 (by rw [hvv];rfl) (.v (.rem a8 a8 (by omega) (by omega) (.v (.a7D a8 a8 (.nil (.K8 a8 (fun hne => .skip ?_) (fun heq => .exit ?_)))))))))))))
  · have hk2:k < a2s bs.length:=by
      rcases Nat.lt_or_ge k (a2s bs.length) with h|h
      · exact h
      · exact absurd (show((bs.length+1+k:Nat):Int) % 64=56 by omega) hne
    refine .block (.region a8 (.v (.move a8 (.x (.buildSlice (n:=1) (zs := [u8 0]) (vs := [u8 0]) (pv := [(0,u8 0)]) M9.und M9.size z5 a8 a8 a8 a8 (by decide) fun b19=>(.s (.append 1 M9 (by decide) (.inl ⟨_,underlying86⟩) a8 a8 a8 hown (.chunk 0 a8 a8) a8 (by unfold maxLen;omega) (by omega) fun v' X' hown'=>(.v (.assign a8 ?_)))))))))
    refine .forget (X := [_]) (.nil ⟨(k+1,v',X'),.cons rfl (.cons rfl (.cons rfl (.nil _))),rfl,⟨by dsimp only;omega,?_⟩,by dsimp only;omega,hJ1⟩)
    have e1:x5 (bs++128::List.replicate k 0) ++ [u8 0]=x5 (bs++128::List.replicate (k+1) 0):=by simp [x5,List.replicate_succ']
    rw [e1] at hown'
    exact hown'
  · have hk2:k=a2s bs.length:=by
      have:((bs.length+1+k:Nat):Int) % 64=56:=by
        by_cases h:((bs.length+1+k:Nat):Int) % 64=56
        · exact h
        · exact absurd h heq
      omega
    subst hk2
    refine .seq (.region a8 (.v (.move a8 (.v (.move a8 (.v (.len (a0:=a1) (n:=bs.length) (c:=c1) underlying86 (by rw [hbv];rfl) (.v (.a1r underlying3 underlying77 a8 (.v (.b1d (n:=8) a8 a8 ?_)))))))))))
    generalize hn:UInt64.ofInt (bs.length:Int)*8=n
    refine .x (.call a8 a8 (a9n J1 n) fun v5 J2 hJ2 h5=>(.s (.append 0 M9 (by decide) (.inl ⟨_,underlying86⟩) a8 a8 a8 hown (.sl h5) (Y9 _ _ fun _=>a8) (by unfold maxLen;omega) (by omega) fun v6 X6 hown6=>(.v (.assign a8 ?_)))))
    have hm0:x5 (bs++128::List.replicate (a2s bs.length) 0)++x5 (R9 n 8)=x5 (a99 bs):=by
      rw [a99,hn];simp [x5,pad]
    have hml:(a99 bs).length=bs.length+1+a2s bs.length+8:=by simp [a99,a8j];omega
    rw [hm0,←hml] at hown6
    have hsha:b3l bs=(feed iv (a99 bs) ((a99 bs).length/64)).l.flatMap a0S:=rfl
    generalize a99 bs=m at hown6 hml hsha
    refine .nil (.seq (.region rfl (.x (.M3 rfl rfl (fun J _ _=>b1p J) (.x (.alloc a8X fun b4=>(.n (.X9 0 8 a0t rfl rfl rfl rfl rfl rfl (.nil (.freeze 1 rfl (fun p _ hM=>by rw [hC] at hM;cases hM) fun J3 hJ3 hp3 => ?_))))))))))
    have hm:Sl J3 1 v6 m.length (x5 m):=hown6.sl hp3
    obtain⟨a6,c6,rfl,_,_⟩:=id hm.shape
    generalize hvv6:Value.slice a6 m.length c6=v6 at *
    refine .seq (.seq (.region a8 (.v (.assign a8 ?_))))
    refine .nil (.block (.loop (α:=Nat) (fun k => [(5,i64 (64*(k:Int))),(3,v6),(4,ptr b4 0),(2,ptr b2 0)])
      (fun k => [[(b4,row (feed iv m k).cells 249)],[],[(b2,row (List.replicate 32 (u8 0)) 26)]])
      (fun k _=>64*k≤m.length) (fun k=>m.length - 64*k) 0 (by omega)
      (.cons rfl (.cons rfl (.cons rfl (.cons rfl (.nil _))))) rfl fun k J4 hJ4 hk => ?_))
    refine .seq (.seq (.region a8 (.v (.move a8 (.v (.move a8 (.v (.len (a0:=a6) (n:=m.length) (c:=c6) underlying86 (by rw [hvv6];rfl) (.v (.lss a8 a8 (.nil (.K8 a8 (fun hlt => .skip ?_) (fun hge => .exit ?_)))))))))))))
    · have hk64:64*k+64≤m.length:=by omega
      generalize hX:feed iv m k=Y
      refine .seq (.block (.draw (by kernel_rfl) 7 [[],[],[],[],[(37,3)],[(35,1),(36,2),(38,4)],[(34,0),(39,5)]] a8 (by kernel_rfl) a8 ?_))
      refine⟨.is _,fun JJ hJJ ρ e4 => .C0 (.a29 (cs:=Y.cells) 0 underlying249 a8 a0t e4 a8 ⟨a8,a8⟩),?_⟩
      refine⟨.is _,fun JJ hJJ ρ e3 => .C0 (.move e3 ⟨a8,a8⟩),?_⟩
      refine⟨.is _,fun JJ hJJ ρ e5 => .C0 (.move e5 ⟨a8,a8⟩),?_⟩
      refine⟨.is _,fun JJ hJJ ρ e5 => .C0 (.move e5 ⟨a8,a8⟩),?_⟩
      refine⟨.is _,fun JJ hJJ ρ e37 => .C0 (.add e37 a8 (by omega) (by omega) ⟨a8,a8⟩),?_⟩
      refine⟨.val (fun v J=>Sl J 1 v 64 (x5 ((m.drop (64*k)).take 64))) (fun _ _ _ h hle=>h.mono hle),fun JJ hJJ ρ e35 e36 e38 => .C0 (.slice (l:=64*k) (h:=64*k+64) M9.und M9.size e35 (hm.mono (hJ4.trans hJJ)) (.inr ⟨_,_,a8,e36.trans (congrArg (fun q=>some (i64 q)) (by omega))⟩) (.inr ⟨_,_,a8,e38.trans (congrArg (fun q=>some (i64 q)) (by omega))⟩) (by omega) (by omega) fun v' hv'=>⟨a8,c3e hv'⟩),?_⟩
      refine⟨.is _,fun JJ hJJ ρ e34 v39 e39 q39 => .M3 a8 (a7E e34 e39) (fun J hJ hL=>b5Y J Y _ (by simp;omega) v39 (q39.mono hJ)) ⟨a8,a8⟩,?_⟩
      intro J5 hJ5 v39 q39
      refine .n (.X9 0 8 a0t a8 a8 a8 a8 a8 a8 (.nil (.region a8 (.v (.move a8 (.v (.add a8 a8 (by omega) (by omega) (.v (.assign a8 ?_)))))))))
      refine .nil ⟨k+1,.cons ?_ (.cons rfl (.cons rfl (.cons rfl (.nil _)))),?_,by omega,by omega,hJ4.trans hJ5⟩
      · exact congrArg (fun q=>some (i64 q)) (by omega)
      · subst hX
        rfl
    have hkm:m.length/64=k:=by omega
    rw [hkm] at hsha
    generalize hY:feed iv m k=Y at hsha ⊢
    have hDl:(Y.l.flatMap a0S).length=32:=by rw [a0N,H8.length]
    refine .seq (.region a8 (.x (.alloc z26 fun b6 => .nil (.seq (.seq (.region a8 (.v (.assign a8 ?_))))))))
    refine .nil (.block (.loop (α:=Nat) (fun k => [(7,i64 k),(6,ptr b6 0),(4,ptr b4 0),(2,ptr b2 0)])
      (fun k => [[(b6,row (a7G (Y.l.flatMap a0S) k) 26)],[(b4,row Y.cells 249)],[],[(b2,row (List.replicate 32 (u8 0)) 26)]])
      (fun k _=>k≤32) (fun k=>32 - k) 0 (by omega)
      (.cons rfl (.cons rfl (.cons rfl (.cons rfl (.nil _))))) rfl fun i J5 hJ5 hi => ?_))
    refine .seq (.seq (.region a8 (.v (.move a8 (.v (.lss a8 a8 (.nil (.K8 a8 (fun hlt => .skip ?_) (fun hge => .exit ?_)))))))))
    · have hi32:i < 32:=by omega
      refine .seq (.block (.region a8 (.v (.move a8 (.v (.move a8 (.v (.quo a8 a8 (by omega) (by omega) (by omega) (.v (.x8 P4 a8 a8 (by omega) (by omega) (.v (.J9 1 underlying248 a8 a8 a8 (a4V Y (i/4) _ (by omega) (by omega)) (.v (.move a8 (.v (.rem a8 a8 (by omega) (by omega) (.v (.mul a8 a8 (by omega) (by omega) (.v (.sub a8 a8 (by omega) (by omega) (.v (.a1r underlying3 underlying213 a8 (.v (.a5c (24 - 8*(i % 4)) a8 a8 (c3b i) (by omega) (.v (.a4m underlying248 underlying5 a8 (.v (.x8 M6 a8 a8 (by omega) (by omega) ?_))))))))))))))))))))))))))))
      have hset:=b7F (Y.l.flatMap a0S) i (0+(i:Int).toNat*1) _ (by simp) hi32 hDl (b9V Y i hi32)
      refine .n (.a2q 0 sz5 a8 a8 a8 a8 a8 (by rw [a7c _ i hDl hi];simp;omega) (.nil (.region a8 (.v (.move a8 (.v (.add a8 a8 (by omega) (by omega) (.v (.assign a8 ?_)))))))))
      refine .nil ⟨i+1,.cons rfl (.cons rfl (.cons rfl (.cons rfl (.nil _)))),?_,by omega,by omega,hJ5⟩
      exact congrArg (fun c => [[(b6,row c 26)],[(b4,row Y.cells 249)],[],[(b2,row (List.replicate 32 (u8 0)) 26)]]) hset
    have hi32:i=32:=by omega
    subst hi32
    have ho:a7G (Y.l.flatMap a0S) 32=x5 (Y.l.flatMap a0S):=by
      rw [a7G,List.take_of_length_le (by omega)];simp
    have hol:=a7c (Y.l.flatMap a0S) 32 hDl (Nat.le_refl _)
    refine .seq (.region a8 (.v (.a29 (cs:=a7G (Y.l.flatMap a0S) 32) 0 underlying26 a8 (by rw [hol];exact b1j) a8 a8 (.n (.X9 3 32 b1j a8 a8 hol (Y9 _ _ fun _=>a8) a8 a8 (.nil (.ret ⟨_,.r1 a8 (.a4o (cs:=a7G (Y.l.flatMap a0S) 32) 3 underlying26 a8 (by rw [hol];exact b1j) a8 a8),?_⟩)))))))
    rw [ho,hsha]
end Go.Proofs.YtmmclghiidoldaaGreatDoor
namespace Go.Sha
open Go.Fl
theorem a9o (x:H8) (l m:List UInt8):∀ k,64*k≤l.length→feed x (l++m) k=feed x l k
 | 0,_=>rfl
 | k+1,h=>by
  rw [feed,feed,a9o x l m k (by omega),List.drop_append_of_le_length (by omega),List.take_append_of_le_length (by simp;omega)]
theorem b1q (x:H8) (l:List UInt8) (a:Nat):∀ b,feed x l (a+b)=feed (feed x l a) (l.drop (64*a)) b
 | 0=>rfl
 | b+1=>by
  rw [←Nat.add_assoc,feed,feed,b1q x l a b,List.drop_drop,Nat.mul_add]
theorem a2L (l:List UInt8):(rest l).length=l.length % 64:=by
 rw [rest,List.length_drop];omega
theorem a5e (x:H8) (l m:List UInt8):a01 (a01 x l) (rest l++m)=a01 x (l++m):=by
 have h1:(l++m).length/64=l.length/64+(rest l++m).length/64:=by
  rw [List.length_append,List.length_append,a2L];omega
 unfold a01
 rw [h1,b1q,a9o x l m _ (by omega)]
 congr 1
 rw [rest,List.drop_append_of_le_length (by omega)]
theorem b1r (l m:List UInt8):rest (rest l++m)=rest (l++m):=by
 have h1:64*((l++m).length/64)=64*(l.length/64)+64*((rest l++m).length/64):=by
  rw [List.length_append,List.length_append,a2L];omega
 have h2:(l++m).drop (64*(l.length/64))=rest l++m:=by rw [rest,List.drop_append_of_le_length (by omega)]
 conv=>rhs;unfold rest
 rw [h1,←List.drop_drop,h2,rest]
theorem b9X (m k:Nat) (n:UInt64) (h:m % 64=k % 64):pad m n=pad k n:=by
 unfold pad a2s;rw [h]
theorem b5Z (l:List UInt8):b3l l=a3b l:=by
 unfold a3b a2t
 rw [a5e,b9X (rest l).length l.length _ (by rw [a2L];omega)]
 rfl
theorem a8Z (l:List UInt8):(a3b l).length=32:=by rw [a3b,a2t,a0N,H8.length]
end Go.Sha
namespace Go.Ab
open Go.Fl Go.RowKit
class o7 (α:Type) where
 size:Nat
 agg:Bool
 rep:Im→α→List Value→Prop
 len:∀ {I x cs},rep I x cs→cs.length=size
 mono:∀ {I J x cs},Le I J→rep I x cs→rep J x cs
 one:agg=false→size=1
 flat:∀ {I x cs},rep I x cs→a0Z cs=true
open o7 (rep)
def asV (ag:Bool) (cs:List Value):Value:=if ag then .agg cs.toArray else cs.headD undef
def K0 {α:Type} [o7 α] (I:Im):List α→List Value→Prop
 | [],cs=>cs = []
 | x::l,cs=>∃ c r,cs=c++r∧rep I x c∧K0 I l r
theorem K0.mono {α:Type} [o7 α] {I J:Im} (hle:Le I J):∀ {l:List α} {cs:List Value},K0 I l cs→K0 J l cs
 | [],_,h=>h
 | x::l,_,h=>by obtain⟨c,r,h1,h2,h3⟩:=h;exact⟨c,r,h1,o7.mono hle h2,K0.mono hle h3⟩
theorem K0.len {α:Type} [o7 α] {I:Im}:∀ {l:List α} {cs:List Value},K0 I l cs→cs.length=l.length*o7.size α
 | [],_,h=>by simp [K0] at h;simp [h]
 | x::l,_,h=>by
  obtain⟨c,r,rfl,h2,h3⟩:=h
  simp [o7.len h2,h3.len,Nat.succ_mul,Nat.add_comm]
theorem a7d {xs ys:List Value} (h:a0Z xs=true) (k:a0Z ys=true):a0Z (xs++ys)=true:=by
 simp only [a0Z,List.all_append,Bool.and_eq_true] at *;exact⟨h,k⟩
theorem K0.flat {α:Type} [o7 α] {I:Im}:∀ {l:List α} {cs:List Value},K0 I l cs→a0Z cs=true
 | [],_,h=>by simp [K0] at h;simp [h,a0Z]
 | x::l,_,h=>by
  obtain⟨c,r,rfl,h2,h3⟩:=h
  exact a7d (o7.flat h2) h3.flat
theorem K0.append {α:Type} [o7 α] {I:Im}:∀ {l m:List α} {cs ds:List Value},K0 I l cs→K0 I m ds→K0 I (l++m) (cs++ds)
 | [],_,_,_,h,k=>by simp [K0] at h;simpa [h] using k
 | x::l,_,_,_,h,k=>by
  obtain⟨c,r,rfl,h2,h3⟩:=h
  exact⟨c,r++_,by simp,h2,h3.append k⟩
theorem K0.one {α:Type} [o7 α] {I:Im} {x:α} {c:List Value} (h:rep I x c):K0 I [x] c:=⟨c,[],by simp,h,rfl⟩
theorem K0.split {α:Type} [o7 α] {I:Im}:∀ {l m:List α} {cs:List Value},K0 I (l++m) cs→K0 I l (cs.take (l.length*o7.size α))∧K0 I m (cs.drop (l.length*o7.size α))
 | [],_,_,h=>by simp [K0];simpa using h
 | x::l,m,_,h=>by
  obtain⟨c,r,rfl,h2,h3⟩:=h
  have hl:=o7.len h2
  obtain⟨h4,h5⟩:=h3.split
  have e:(x::l).length*o7.size α=c.length+l.length*o7.size α:=by simp [hl,Nat.succ_mul,Nat.add_comm]
  rw [e,List.take_length_add_append,List.drop_length_add_append]
  exact⟨⟨c,_,a8,h2,h4⟩,h5⟩
theorem K0.get {α:Type} [o7 α] {I:Im} {l:List α} {cs:List Value} (h:K0 I l cs) (k:Nat) (hk:k < l.length):rep I l[k] (H9 cs (k*o7.size α) (o7.size α)):=by
 have e:l=l.take k++(l[k]::l.drop (k+1)):=by simp
 rw [e] at h
 obtain⟨_,h2⟩:=h.split
 obtain⟨c,r,h3,h4,h5⟩:=h2
 have hl:(l.take k).length=k:=by simp;omega
 rw [hl] at h3
 have:H9 cs (k*o7.size α) (o7.size α)=c:=by rw [H9,h3,←o7.len h4];simp
 rw [this];exact h4
theorem K0.set {α:Type} [o7 α] {I:Im} {l:List α} {cs vs:List Value} {y:α} (h:K0 I l cs) (k:Nat) (hk:k < l.length) (hy:rep I y vs):K0 I (l.set k y) (C7 cs (k*o7.size α) vs):=by
 have e:l=l.take k++(l[k]::l.drop (k+1)):=by simp
 have e2:l.set k y=l.take k++(y::l.drop (k+1)):=List.set_eq_take_append_cons_drop .. |>.trans (by simp [hk])
 rw [e] at h
 obtain⟨h1,h2⟩:=h.split
 obtain⟨c,r,h3,h4,h5⟩:=h2
 have hl:(l.take k).length=k:=by simp;omega
 rw [hl] at h1 h3
 rw [e2,C7]
 have hd:cs.drop (k*o7.size α+vs.length)=r:=by
  rw [←List.drop_drop,h3,o7.len hy,←o7.len h4];simp
 rw [hd,List.append_assoc]
 exact h1.append ⟨vs,r,rfl,hy,h5⟩
structure I8 (n:Nat) (α:Type) where
 l:List α
 h:l.length=n
instance {n:Nat} {α:Type} [DecidableEq α]:DecidableEq (I8 n α):=fun a b =>
 if h:a.l=b.l then isTrue (by cases a;cases b;cases h;rfl) else isFalse (fun e=>h (by rw [e]))
@[simp] theorem I8.len {n:Nat} {α:Type} (a:I8 n α):a.l.length=n:=a.h
theorem I8.ext {n:Nat} {α:Type} {a b:I8 n α} (h:a.l=b.l):a=b:=by cases a;cases b;cases h;rfl
instance {n:Nat} {α:Type} [Inhabited α]:Inhabited (I8 n α):=⟨⟨List.replicate n default,by simp⟩⟩
instance {n:Nat} {α:Type} [o7 α]:o7 (I8 n α) where
 size:=n*o7.size α
 agg:=true
 rep I x cs:=K0 I x.l cs
 len {_ x _} h:=by rw [h.len,x.h]
 mono hle h:=h.mono hle
 one h:=by cases h
 flat h:=h.flat
structure j9 (α β:Type) [o7 α] [o7 β] where
 off:Nat
 get:α→β
 set:β→α→α
 fits:off+o7.size β≤o7.size α
 a5y:∀ {I x cs},rep I x cs→rep I (get x) (H9 cs off (o7.size β))
 a6K:∀ {I x cs y vs},rep I x cs→rep I y vs→rep I (set y x) (C7 cs off vs)
def SlA {α:Type} [o7 α] (I:Im) (v:Value) (l:List α):Prop:=∃ xs,Sl I (o7.size α) v l.length xs∧K0 I l xs
inductive AV:Type 1 where
 | v {α:Type} [r:o7 α] (x:α)
 | p {α:Type} [r:o7 α] (x:α)
 | raw (u:Value)
 | vc {α:Type} [r:o7 α] (l:List α)
 | ln {α β:Type} [r:o7 α] [s:o7 β] (w:Value) (l:j9 α β)
 | el {α β:Type} [r:o7 α] [s:o7 β] (w:Value) (k:Nat) (l:j9 α β)
 | sv {α β:Type} {n:Nat} [r:o7 α] [s:o7 β] (w:Value) (l:j9 α (I8 n β))
 | t2 (a b:AV)
 | t3 (a b c:AV)
 | t4 (a b c d:AV)
 | opt (c:Bool) (a:AV)
 | pr (p:Im→Value→Prop) (m:∀ {I J:Im} {u:Value},Le I J→p I u→p J u)
 | any
def b3o:Value→Option Nat
 | .pointer (some ⟨b,0,none⟩)=>some b
 | .slice (some ⟨b,0,none⟩) _ _=>some b
 | _=>none
def E1 (I:Im):AV→Value→Prop
 | @AV.v α r x,u=>∃ cs,@o7.rep α r I x cs∧u=asV (@o7.agg α r) cs
 | @AV.p α r x,u=>∃ b o cs,u=ptr b o ∧ @o7.rep α r I x cs∧Cells I b o cs
 | .raw w,u=>u=w
 | @AV.vc α r l,u=>(∃ a,u = .slice a l.length l.length) ∧ @SlA α r I u l
 | @AV.ln α β r s w l,u=>∃ b,b3o w=some b∧u=ptr b (@j9.off α β r s l)
 | @AV.el α β r s w k l,u=>∃ b,b3o w=some b∧u=ptr b (k * @o7.size α r + @j9.off α β r s l)
 | @AV.sv α β n r s w l,u=>∃ b,b3o w=some b∧u=slc b (@j9.off α (I8 n β) r _ l) n n
 | .t2 a b,u=>∃ x y,u = .tuple #[x,y]∧E1 I a x∧E1 I b y
 | .t3 a b c,u=>∃ x y z,u = .tuple #[x,y,z]∧E1 I a x∧E1 I b y∧E1 I c z
 | .t4 a b c d,u=>∃ x y z t,u = .tuple #[x,y,z,t]∧E1 I a x∧E1 I b y∧E1 I c z∧E1 I d t
 | .opt c a,u=>c=true→E1 I a u
 | .pr p _,u=>p I u
 | .any,_=>True
theorem E1.mono {I J:Im} (hle:Le I J):∀ {a:AV} {u:Value},E1 I a u→E1 J a u
 | @AV.v α r x,_,h=>by obtain⟨cs,h1,h2⟩:=h;exact⟨cs,@o7.mono α r _ _ _ _ hle h1,h2⟩
 | @AV.p α r x,_,h=>by obtain⟨b,o,cs,h1,h2,h3⟩:=h;exact⟨b,o,cs,h1,@o7.mono α r _ _ _ _ hle h2,h3.mono hle⟩
 | .raw w,_,h=>h
 | @AV.vc α r l,_,h=>⟨h.1,by obtain⟨_,xs,h1,h2⟩:=h;exact⟨xs,h1.mono hle,h2.mono hle⟩⟩
 | @AV.ln α β r s w l,_,h=>h
 | @AV.el α β r s w k l,_,h=>h
 | @AV.sv α β n r s w l,_,h=>h
 | .t2 a b,_,h=>by obtain⟨x,y,h1,h2,h3⟩:=h;exact⟨x,y,h1,h2.mono hle,h3.mono hle⟩
 | .t3 a b c,_,h=>by obtain⟨x,y,z,h1,h2,h3,h4⟩:=h;exact⟨x,y,z,h1,h2.mono hle,h3.mono hle,h4.mono hle⟩
 | .t4 a b c d,_,h=>by obtain⟨x,y,z,t,h1,h2,h3,h4,h5⟩:=h;exact⟨x,y,z,t,h1,h2.mono hle,h3.mono hle,h4.mono hle,h5.mono hle⟩
 | .opt c a,_,h=>fun hc=>(h hc).mono hle
 | .pr _ m,_,h=>m hle h
 | .any,_,h=>h
instance:o7 Int where
 size:=1
 agg:=false
 rep _ x cs:=cs = [i64 x] ∧ -9223372036854775808≤x∧x≤9223372036854775807
 len h:=by simp [h.1]
 mono _ h:=h
 one _:=rfl
 flat h:=by simp [h.1,a0Z,Value.oneCell']
instance:o7 UInt8 where
 size:=1
 agg:=false
 rep _ x cs:=cs = [u8 x]
 len h:=by simp [h]
 mono _ h:=h
 one _:=rfl
 flat h:=by simp [h,a0Z,u8,Value.oneCell']
instance:o7 UInt32 where
 size:=1
 agg:=false
 rep _ x cs:=cs = [u32 x]
 len h:=by simp [h]
 mono _ h:=h
 one _:=rfl
 flat h:=by simp [h,a0Z,u32,Value.oneCell']
instance:o7 UInt64 where
 size:=1
 agg:=false
 rep _ x cs:=cs = [u64 x]
 len h:=by simp [h]
 mono _ h:=h
 one _:=rfl
 flat h:=by simp [h,a0Z,u64,Value.oneCell']
instance:o7 Bool where
 size:=1
 agg:=false
 rep _ x cs:=cs = [.bool x]
 len h:=by simp [h]
 mono _ h:=h
 one _:=rfl
 flat h:=by simp [h,a0Z,Value.oneCell']
structure Y4 where
 l:List UInt8
instance:Inhabited Y4:=⟨⟨[]⟩⟩
instance:DecidableEq Y4:=fun a b=>if h:a.l=b.l then isTrue (by cases a;cases b;cases h;rfl) else isFalse (fun e=>h (by rw [e]))
instance:o7 Y4 where
 size:=1
 agg:=false
 rep _ x cs:=(∃ b:ByteArray,cs = [.string b]∧b.data.toList=x.l)∧x.l.length≤9223372036854775807
 len h:=by obtain⟨⟨b,h,_⟩,_⟩:=h;simp [h]
 mono _ h:=h
 one _:=rfl
 flat h:=by obtain⟨⟨b,h,_⟩,_⟩:=h;simp [h,a0Z,Value.oneCell']
instance {α:Type} [o7 α]:o7 (List α) where
 size:=1
 agg:=false
 rep I x cs:=∃ v,cs = [v]∧SlA I v x
 len h:=by obtain⟨v,h,_⟩:=h;simp [h]
 mono hle h:=by obtain⟨v,h,xs,h1,h2⟩:=h;exact⟨v,h,xs,h1.mono hle,h2.mono hle⟩
 one _:=rfl
 flat h:=by
  obtain⟨v,h,xs,h1,_⟩:=h
  obtain⟨a,c,rfl,_⟩:=h1
  simp [h,a0Z,Value.oneCell']
instance:o7 Unit where
 size:=0
 agg:=true
 rep _ _ cs:=cs = []
 len h:=by simp [h]
 mono _ h:=h
 one h:=by cases h
 flat h:=by simp [h,a0Z]
instance {α β:Type} [o7 α] [o7 β]:o7 (α×β) where
 size:=o7.size α+o7.size β
 agg:=true
 rep I x cs:=∃ c r,cs=c++r∧rep I x.1 c∧rep I x.2 r
 len h:=by obtain⟨c,r,rfl,h1,h2⟩:=h;simp [o7.len h1,o7.len h2]
 mono hle h:=by obtain⟨c,r,e,h1,h2⟩:=h;exact⟨c,r,e,o7.mono hle h1,o7.mono hle h2⟩
 one h:=by cases h
 flat h:=by obtain⟨c,r,rfl,h1,h2⟩:=h;exact a7d (o7.flat h1) (o7.flat h2)
@[reducible] def o7.via {S T:Type} [o7 T] (f:S→T):o7 S where
 size:=o7.size T
 agg:=true
 rep I x cs:=o7.rep I (f x) cs
 len h:=o7.len h
 mono hle h:=o7.mono hle h
 one h:=by cases h
 flat h:=o7.flat h
theorem b1s {cs:List Value} {n:Nat} (h:cs.length=n):H9 cs 0 n=cs:=by subst h;exact a7Z cs
def j9.id {α:Type} [o7 α]:j9 α α where
 off:=0
 get x:=x
 set y _:=y
 fits:=by simp
 a5y h:=by rw [b1s (o7.len h)];exact h
 a6K h k:=by rw [a71 _ _ (by rw [o7.len h,o7.len k])];exact k
def j9.fst {α β:Type} [o7 α] [o7 β]:j9 (α×β) α where
 off:=0
 get x:=x.1
 set y x:=(y,x.2)
 fits:=by simp [o7.size]
 a5y h:=by
  obtain⟨c,r,rfl,h1,h2⟩:=h
  have:H9 (c++r) 0 (o7.size α)=c:=by rw [H9,←o7.len h1];simp
  rw [this];exact h1
 a6K h k:=by
  obtain⟨c,r,rfl,h1,h2⟩:=h
  refine⟨_,r,?_,k,h2⟩
  rw [C7,Nat.zero_add,o7.len k,←o7.len h1];simp
def j9.snd {α β:Type} [o7 α] [o7 β]:j9 (α×β) β where
 off:=o7.size α
 get x:=x.2
 set y x:=(x.1,y)
 fits:=by simp [o7.size]
 a5y h:=by
  obtain⟨c,r,rfl,h1,h2⟩:=h
  have:H9 (c++r) (o7.size α) (o7.size β)=r:=by rw [H9,←o7.len h1,←o7.len h2];simp
  rw [this];exact h2
 a6K h k:=by
  obtain⟨c,r,rfl,h1,h2⟩:=h
  refine⟨c,_,?_,h1,k⟩
  rw [C7,o7.len k,←o7.len h1,←o7.len h2]
  simp
theorem a5f {cs:List Value} {o n p m:Nat} (h:p+m≤n):H9 (H9 cs o n) p m=H9 cs (o+p) m:=by
 simp only [H9,List.drop_take,List.take_take,List.drop_drop]
 congr 1;omega
theorem a3c {cs vs:List Value} {o n p:Nat} (h:p+vs.length≤n) (hn:o+n≤cs.length):C7 cs o (C7 (H9 cs o n) p vs)=C7 cs (o+p) vs:=by
 have hl:(H9 cs o n).length=n:=by simp [H9];omega
 have hll:(C7 (H9 cs o n) p vs).length=n:=by rw [F4 _ _ _ (by omega),hl]
 apply List.ext_getElem?
 intro i
 rw [Y8 (cs:=cs) (o:=o) (by omega),Y8 (cs:=cs) (o:=o+p) (by omega),hll]
 by_cases h1:i < o
 ·rw [if_pos h1,if_pos (by omega)]
 ·rw [if_neg h1]
  by_cases h2:i < o+n
  ·rw [if_pos h2,Y8 (by omega)]
   have hg:∀ j,j < n→(H9 cs o n)[j]?=cs[o+j]?:=fun j hj=>by simp [H9,hj]
   by_cases h3:i - o < p
   ·rw [if_pos h3,if_pos (by omega),hg _ (by omega)];congr 1;omega
   ·rw [if_neg h3,if_neg (show ¬i < o+p by omega)]
    by_cases h4:i - o < p+vs.length
    ·rw [if_pos h4,if_pos (by omega)];congr 1;omega
    ·rw [if_neg h4,if_neg (by omega),hg _ (by omega)];congr 1;omega
  ·rw [if_neg h2,if_neg (by omega),if_neg (by omega)]
def j9.comp {α β γ:Type} [o7 α] [o7 β] [o7 γ] (l:j9 α β) (m:j9 β γ):j9 α γ where
 off:=l.off+m.off
 get x:=m.get (l.get x)
 set y x:=l.set (m.set y (l.get x)) x
 fits:=by have:=l.fits;have:=m.fits;omega
 a5y h:=by
  have:=m.a5y (l.a5y h)
  rwa [a5f m.fits] at this
 a6K h k:=by
  have h1:=l.a5y h
  have h2:=l.a6K h (m.a6K h1 k)
  have hf:=l.fits
  have hm:=m.fits
  rw [a3c (by rw [o7.len k];exact m.fits) (by rw [o7.len h];exact hf)] at h2
  exact h2
def j9.idx {n:Nat} {α:Type} [o7 α] (k:Nat) (hk:k < n):j9 (I8 n α) α where
 off:=k*o7.size α
 get x:=x.l[k]'(by rw [x.h];exact hk)
 set y x:=⟨x.l.set k y,by simp [x.h]⟩
 fits:=by
  have:=Nat.mul_le_mul_right (o7.size α) (Nat.succ_le_of_lt hk)
  simp only [o7.size,Nat.succ_mul] at *;exact this
 a5y {_ x _} h:=K0.get h k (by rw [x.h];exact hk)
 a6K {_ x _ _ _} h y:=K0.set h k (by rw [x.h];exact hk) y
def j9.via {S T β:Type} [r:o7 T] [o7 β] (f:S→T) (m:j9 T β) (get:S→β) (set:β→S→S) (hg:∀ x,get x=m.get (f x)) (hs:∀ y x,f (set y x)=m.set y (f x)) : @j9 S β (o7.via f) _ :=
  letI:o7 S:=o7.via f
  { off := m.off, get := get, set := set, fits := m.fits, a5y := fun {_ x _} h => by rw [hg]; exact m.a5y h, a6K := fun {_ x _ y _} h k => by
      have:=m.a6K h k
      rw [←hs] at this;exact this }
end Go.Ab
namespace Go.Ab
open Go.Fl Go.RowKit
open o7 (rep)
def a1T (e:TypeId) (s:Nat) (v:Value) (n:Nat) (xs:List Value) (X:List (Nat×Obj)):Prop :=
 ((∃ a,v = .slice a 0 0)∧n=0∧xs = []∧X = []) ∨
 ∃ b c sp q,v=slc b 0 n c∧X = [(b,.cells (xs++sp).toArray e q)]∧xs.length=n*s∧(xs++sp).length=c*s∧n≤c∧c≤maxLen∧(q=(0,0)∨q=((xs++sp).length,(xs++sp).length+1))
theorem a1T.nil (e:TypeId) (s:Nat):a1T e s (.slice none 0 0) 0 [] [] := .inl ⟨⟨none,rfl⟩,rfl,rfl,rfl⟩
theorem a1T.empty (e:TypeId) (s:Nat) (a:Option Addr):a1T e s (.slice a 0 0) 0 [] [] := .inl ⟨⟨a,rfl⟩,rfl,rfl,rfl⟩
theorem Sl.empty (I:Im) (s:Nat) (a:Option Addr):Sl I s (.slice a 0 0) 0 []:=⟨a,0,rfl,by simp,Nat.le_refl _,by simp [maxLen],fun _=>rfl,fun h=>absurd rfl h⟩
theorem a1T.of {e:TypeId} {s n:Nat} {v:Value} {xs:List Value} {X:List (Nat×Obj)} (h:Own e s v n xs X):a1T e s v n xs X:=by
 rcases h with ⟨h1,h2⟩|⟨b,c,sp,h1,h2,h3,h4,h5,h6⟩
 ·exact .inl ⟨⟨none,h1⟩,h2⟩
 ·exact .inr ⟨b,c,sp,(0,0),h1,h2,h3,h4,h5,h6,.inl a8⟩
theorem a1T.shape {e:TypeId} {s n:Nat} {v:Value} {xs:List Value} {X:List (Nat×Obj)} (h:a1T e s v n xs X):∃ a c,v = .slice a n c:=by
 rcases h with ⟨⟨a,rfl⟩,rfl,_⟩|⟨b,c,sp,q,rfl,_⟩
 ·exact⟨_,_,a8⟩
 ·exact⟨_,_,a8⟩
theorem a1T.len {e:TypeId} {s n:Nat} {v:Value} {xs:List Value} {X:List (Nat×Obj)} (h:a1T e s v n xs X):xs.length=n*s:=by
 rcases h with ⟨_,rfl,rfl,_⟩|⟨b,c,sp,q,_,_,h,_⟩
 ·simp
 ·exact h
theorem a1T.le {e:TypeId} {s n:Nat} {v:Value} {xs:List Value} {X:List (Nat×Obj)} (h:a1T e s v n xs X):n≤9223372036854775807:=by
 rcases h with ⟨_,rfl,rfl,_⟩|⟨b,c,sp,q,_,_,_,_,h1,h2,_⟩
 ·simp
 ·unfold maxLen at h2;omega
theorem a1T.sl {e:TypeId} {s n:Nat} {v:Value} {xs:List Value} {X:List (Nat×Obj)} (h:a1T e s v n xs X) {J:Im} (hJ:∀ p∈X,J p.1=some p.2):Sl J s v n xs:=by
 rcases h with ⟨⟨a,rfl⟩,rfl,rfl,rfl⟩|⟨b,c,sp,q,rfl,rfl,h3,h4,h5,h6,_⟩
 ·exact Sl.empty J s a
 ·refine Sl.a3o ⟨_,_,_,hJ _ (List.mem_singleton.2 rfl),fun i v hv => ?_⟩ h3 h5 h6
  have hi:=(List.getElem?_eq_some_iff.1 hv).1
  simp only [Nat.zero_add,List.getElem?_toArray]
  rw [List.getElem?_append_left hi];exact hv
theorem T1 (P : Program) (g o : Nat) (t : TypeId) (q : Nat × Nat) : ∀ (vs : List Value) (i : Nat) (cur : Array Value) (w : World), w.heap[g]? = some (.cells cur t q) → o + i + vs.length ≤ cur.size → (∀ v ∈ vs, v.oneCell' = true) →
    (∀ j,j < cur.size→¬(q.1≤j∧j < q.2))→(storeCells ⟨g,o,none⟩ vs i).run P w = .ok () (w.setRow g (cur.toList.take (o+i)++vs++cur.toList.drop (o+i+vs.length)).toArray)
  | [],i,cur,w,hg,_,_,_=>by
    simp only [storeCells,List.append_nil,List.length_nil,Nat.add_zero,List.take_append_drop,Array.toArray_toList]
    rw [setRow_self w g cur t q hg]
    rfl
  | v::rest,i,cur,w,hg,hl,h1,hq=>by
    have hi:o+i < cur.size:=by simp at hl;omega
    have hadd:(⟨g,o,none⟩:Addr).add i=⟨g,o+i,none⟩:=by unfold Addr.add;split<;>simp_all
    have hcell:w.cell? ⟨g,o+i,none⟩=some cur[o+i]:=by simp [World.cell?,hg,hi]
    have hfro:w.frozen? ⟨g,o+i,none⟩=false:=by
      have:=hq (o+i) hi
      simp only [World.frozen?,hg]
      simp only [Bool.and_eq_false_iff,decide_eq_false_iff_not]
      omega
    have hst:(store ((⟨g,o,none⟩:Addr).add i) v).run P w = .ok () (w.setRow g (cur.setIfInBounds (o+i) v)):=by
      rw [hadd,run_store P w _ v _ (h1 v (by simp)),hcell]
      simp [hfro,setCell_eq_setRow w g (o+i) cur t q v hg]
    have ih:=T1 P g o t q rest (i+1) (cur.setIfInBounds (o+i) v) (w.setRow g (cur.setIfInBounds (o+i) v)) (setRow_heap w g cur _ t _ hg) (by simp at hl ⊢;omega) (fun x hx=>h1 x (by simp [hx])) (by simpa using hq)
    simp only [storeCells,Sem.run_bind,hst,Result.andThen_ok,ih,setRow_setRow]
    congr 3
    have e:=list_seg_step cur.toList (o+i) v rest (by simp at hl ⊢;omega)
    simpa [Array.toList_setIfInBounds,Nat.add_assoc] using e
theorem a7Q {C:Ctx} {I:Im} {L:Lh} {w:World} (hs:St C I L w) {i b:Nat} {cs:List Value} {e:TypeId} {q:Nat×Nat} (hL:L[i]?=some [(b,.cells cs.toArray e q)]) (cs':List Value):St C I (L.set i [(b,.cells cs'.toArray e q)]) (w.setRow b cs'.toArray):=by
 have hb:=hs.mem.loc (b,.cells cs.toArray e q) (D2 hL (by simp))
 exact hs.write hL (setRow_heap w b _ _ e q hb) (fun k hk=>setRow_other w b k _ hk) (by simp) rfl rfl rfl
section
variable {P:Program} {C:Ctx} {N:Nat} {ρ:Env} {I:Im} {L:Lh} {K:Value→Im→Lh→Prop} {d:Option Nat} {ty:TypeId} {ps:String} {af:Array Edge} {g:Option (Nat×Bool)}
variable {x y z:Operand} {T T2 E:TypeId}
theorem a7e {w:World} (hm:Mem I L w) {i b:Nat} {cs:List Value} {e:TypeId} {q:Nat×Nat} (hL:L[i]?=some [(b,.cells cs.toArray e q)]) (o:Nat):w.cell? ⟨b,o,none⟩=cs[o]?:=by
 have:=hm.loc (b,.cells cs.toArray e q) (D2 hL (by simp))
 rw [cell_of this]
 simp
theorem Src.c3f {s m:Nat} {v:Value} {news:List Value} {X:List (Nat×Obj)} {e:TypeId} (i:Nat) (hL:L[i]?=some X) (h:a1T e s v m news X):Src P I L s v m news:=by
 rcases h with ⟨⟨a,rfl⟩,rfl,rfl,rfl⟩|⟨b,c,sp,q,rfl,rfl,h1,h2,h3,h4,h5⟩
 ·exact Src.sl (Sl.empty I s a)
 ·refine⟨fun w=>by simp [Builtin.lenOf],fun w hm k hk => ?_,h1⟩
  have hle:k*s≤m*s:=Nat.mul_le_mul_right _ hk
  have htl:(news.take (k*s)).length=k*s:=by rw [List.length_take,h1];exact Nat.min_eq_left hle
  have:=run_loadCells_list (P:=P) w ⟨b,0,none⟩ (news.take (k*s)) (fun j u hj=>by
   rw [List.getElem?_take] at hj
   split at hj
   ·rw [Addr.add_plain,a7e hm hL,Nat.zero_add,List.getElem?_append_left (List.getElem?_eq_some_iff.1 hj).1];exact hj
   ·cases hj)
  rw [htl] at this
  simp only [Builtin.firstCells,this]
theorem OpS.b0d (i : Nat) {n m : Nat} {a0 : Option Addr} {c : Nat} {u : Value} {xs news : List Value} {X : List (Nat × Obj)} {U : TypeId} {inf : TypeInfo} {zv : Value} (hzs : zv.cells.size = inf.size) {a : Act} {w : World}
    (hxe:ev ρ x=some (.slice a0 n c)) (hye:ev ρ y=some u) (ha:Fits N ρ a) (hst:St C I L w) (hL:L[i]?=some X) (hown:a1T E inf.size (.slice a0 n c) n xs X) (hnl:news.length=m*inf.size) (h1:a0Z news=true)
    (hn63:n+m≤maxLen)
    (hboth:(n+m≤c→(Builtin.append_ #[T,U] ty #[.slice a0 n c,u]).run P w=((match a0 with|some ad=>storeCells (ad.add (n*inf.size)) news|none=>pure ()).run P w).andThen fun _ w' => .ok (.slice a0 (n+m) c) w') ∧
    (c < n+m→∀ olds,((Builtin.firstCells inf.size n (.slice a0 n c)).run P w.drew = .ok olds w.drew) →
      (Builtin.append_ #[T,U] ty #[.slice a0 n c,u]).run P w = .ok (.slice (some ⟨w.heap.size,0,none⟩) (n+m) (grownCap w (n+m) c E))
        (w.drew.alloc (.cells (olds++news.toArray++Builtin.zeroCells zv.cells (grownCap w (n+m) c E - (n+m))) E))))
    (k:∀ v' X',a1T E inf.size v' (n+m) (xs++news) X'→(∀ p∈X',p.1∈X.map Prod.fst∨C.w0.heap.size≤p.1)→K v' I (L.set i X')) :
    Yld P ((execOp a.eval ⟨d,.call ⟨.builtin .append,#[x,y],#[T,U]⟩,ty,ps,af,g⟩).run P w) fun v w'=>∃ J L',St C J L' w'∧K v J L':=by
  have hmem:∀ w',w'.heap=w.heap→Mem I L w':=fun w' hw=>⟨by rw [hw];exact hst.mem.im,by rw [hw];exact hst.mem.loc,hst.mem.sep,hst.mem.nodup⟩
  have hop:∀ r,(Builtin.append_ #[T,U] ty #[.slice a0 n c,u]).run P w=r→(execOp a.eval ⟨d,.call ⟨.builtin .append,#[x,y],#[T,U]⟩,ty,ps,af,g⟩).run P w=r.andThen fun v w' => .ok (.value v) w':=fun r hr=>by
    simp [execOp,resolve,invoke,builtin,ha.ev hxe,ha.ev hye,hr]
  have hxl:=hown.len
  by_cases hroom:n+m≤c
  · have hr:=hboth.1 hroom
    rcases hown with ⟨⟨a1,hv⟩,rfl,rfl,rfl⟩|⟨b,c',sp,q,hv,rfl,h2,h3,h4,h5,h6⟩
    · cases hv
      have hm0:m=0:=by omega
      subst hm0
      have hn0:news = []:=List.eq_nil_of_length_eq_zero (by simpa using hnl)
      subst hn0
      have hr2:(Builtin.append_ #[T,U] ty #[.slice a0 0 0,u]).run P w = .ok (.slice a0 0 0) w:=by
        rw [hr];cases a0<;>rfl
      rw [hop _ hr2]
      refine⟨I,L.set i [],?_,k _ _ (by simpa using a1T.empty E inf.size a0) (by simp)⟩
      exact hst.b2U i
    · cases hv
      rw [hop _ hr]
      have hbh:=hst.mem.loc (b,.cells (xs++sp).toArray E q) (D2 hL (by simp))
      have hfit:n*inf.size+news.length≤(xs++sp).length:=by rw [hnl,h3,←Nat.add_mul];exact Nat.mul_le_mul_right _ hroom
      have hall:∀ u∈news,u.oneCell'=true:=fun u hu=>List.all_eq_true.1 h1 u hu
      have hst2:=T1 P b (n*inf.size) E q news 0 (xs++sp).toArray w hbh (by simpa using hfit) hall (fun j hj=>by rcases h6 with rfl|rfl<;>simp at hj ⊢ <;> omega)
      simp only [Nat.add_zero] at hst2
      have hseg:List.take (n*inf.size) (xs++sp)++news++List.drop (n*inf.size+news.length) (xs++sp)=(xs++news)++sp.drop news.length:=by
        rw [←h2,List.take_left,List.drop_append]
        simp
      simp only [Addr.add_plain,Nat.zero_add,hst2,Result.andThen_ok]
      refine⟨I,L.set i [(b,.cells ((xs++news)++sp.drop news.length).toArray E q)],?_,k _ _ (.inr ⟨b,c,sp.drop news.length,q,a8,a8,?_,?_,hroom,h5,?_⟩) (by simp)⟩
      · rw [hseg];exact a7Q hst hL _
      · rw [List.length_append,h2,hnl,Nat.add_mul]
      · have:(xs++sp).length=n*inf.size+sp.length:=by rw [List.length_append,h2]
        simp only [List.length_append,List.length_drop]
        rw [h3] at this hfit
        omega
      · have hle:news.length≤sp.length:=by rw [List.length_append,h2] at hfit;omega
        have e:((xs++news)++sp.drop news.length).length=(xs++sp).length:=by simp;omega
        rw [e];exact h6
  · have hlt:c < n+m:=by omega
    have hold:(Builtin.firstCells inf.size n (.slice a0 n c)).run P w.drew = .ok xs.toArray w.drew:=by
      have:=(Src.c3f (P:=P) (I:=I) i hL hown).cells w.drew (hmem w.drew rfl) n (Nat.le_refl _)
      rwa [←hxl,List.take_length] at this
    have hr:=hboth.2 hlt _ hold
    rw [hop _ hr]
    have hge:=grownCap_ge w (n+m) c E
    have hcm:grownCap w (n+m) c E≤maxLen:=grownCap_le_maxLen w (n+m) c E hn63
    refine⟨I,_,hst.replace hL a8 a8 a8 a8,k _ _ (.inr ⟨w.heap.size,_,(Builtin.zeroCells zv.cells (grownCap w (n+m) c E - (n+m))).toList,(0,0),a8,?_,?_,?_,hge,hcm,.inl a8⟩) (fun p hp => .inr (by simp only [List.mem_singleton] at hp;subst hp;exact hst.S5.size))⟩
    · have hz2:xs.toArray++news.toArray++Builtin.zeroCells zv.cells (grownCap w (n+m) c E - (n+m))=(xs++news++(Builtin.zeroCells zv.cells (grownCap w (n+m) c E - (n+m))).toList).toArray:=by
        apply Array.ext'
        simp
      rw [hz2]
    · rw [List.length_append,hxl,hnl,Nat.add_mul]
    · simp only [List.length_append,Array.length_toList,size_zeroCells,hzs,hxl,hnl,←Nat.add_mul]
      congr 1
      omega
theorem OpS.b4V (i : Nat) {s by_ n m : Nat} {v u : Value} {xs news : List Value} {X : List (Nat × Obj)} {U : TypeId} (he : Elt P T E s by_) (hs0 : 0 < s) (hU : (∃ E2, P.underlying U = some (.slice E2)) ∨ P.underlying U = some .string)
    (hx:ev ρ x=some v) (hy:ev ρ y=some u) (hL:L[i]?=some X) (hown:a1T E s v n xs X) (hsrc:Src P I L s u m news) (h1:a0Z news=true)
    (hn63:n+m≤maxLen) (hb:(n+m)*by_≤140737488355328) (k:∀ v' X',a1T E s v' (n+m) (xs++news) X'→(∀ p∈X',p.1∈X.map Prod.fst∨C.w0.heap.size≤p.1)→K v' I (L.set i X')) :
    OpS P C N ⟨d,.call ⟨.builtin .append,#[x,y],#[T,U]⟩,ty,ps,af,g⟩ ρ I L K:=fun a w ha hst=>by
  obtain⟨inf,zv,hi,hz,rfl,rfl,hzs⟩:=he.info
  have hmem:∀ w',w'.heap=w.heap→Mem I L w':=fun w' hw=>⟨by rw [hw];exact hst.mem.im,by rw [hw];exact hst.mem.loc,hst.mem.sep,hst.mem.nodup⟩
  have hcells:∀ w',w'.heap=w.heap→(Builtin.firstCells inf.size m u).run P w' = .ok news.toArray w':=fun w' hw=>by
    have:=hsrc.cells w' (hmem w' hw) m (Nat.le_refl _)
    rwa [←hsrc.size,List.take_length] at this
  have h63:n+m≤9223372036854775807:=by unfold maxLen at hn63;omega
  obtain⟨a0,c,rfl⟩:=hown.shape
  have hboth:(n+m≤c→(Builtin.append_ #[T,U] ty #[.slice a0 n c,u]).run P w=((match a0 with|some ad=>storeCells (ad.add (n*inf.size)) news|none=>pure ()).run P w).andThen fun _ w' => .ok (.slice a0 (n+m) c) w') ∧
    (c < n+m→∀ olds,((Builtin.firstCells inf.size n (.slice a0 n c)).run P w.drew = .ok olds w.drew) →
      (Builtin.append_ #[T,U] ty #[.slice a0 n c,u]).run P w = .ok (.slice (some ⟨w.heap.size,0,none⟩) (n+m) (grownCap w (n+m) c E))
        (w.drew.alloc (.cells (olds++news.toArray++Builtin.zeroCells zv.cells (grownCap w (n+m) c E - (n+m))) E))):=by
    rcases hU with ⟨E2,hU⟩|hU
    · exact a3a he.und hi hz hU hsrc.len hcells h63 hb
    · exact a2r he.und hi hz hU hsrc.len hcells h63 hb
  exact b0d i hzs hx hy ha hst hL hown hsrc.size h1 hn63 hboth k
end
end Go.Ab
namespace Go.Ab
open Go.Fl Go.RowKit
open o7 (rep)
abbrev x7:=List (Nat×AV)
def E9:x7→Nat→Option AV
 | [],_=>none
 | (s,v)::r,t=>bif Nat.beq s t then some v else E9 r t
theorem I9 (s:Nat) (v:AV) (ρ:x7) (t:Nat):E9 ((s,v)::ρ) t=if s=t then some v else E9 ρ t:=by
 by_cases h:s=t
 ·subst h;simp [E9]
 ·simp [E9,h,a5q h]
class UB (α:Type) where
 ub:Im→Value→α→List (Nat×Obj)→Prop
 mono:∀ {I J w x X},Le I J→ub I w x X→ub J w x X
inductive D6:Type 1 where
 | ob {α:Type} [r:o7 α] (w:Value) (x:α)
 | own {α:Type} [r:o7 α] (E:TypeId) (w:Value) (l:List α)
 | fz (w:Value) (a:AV)
 | usr {α:Type} [r:UB α] (w:Value) (x:α)
 | none_
def D6.a4e (I:Im):D6→List (Nat×Obj)→Prop
 | @D6.ob α r w x,X=>∃ b T cs,w=ptr b 0∧X = [(b,row cs T)] ∧ @o7.rep α r I x cs
 | @D6.own α r E w l,X=>∃ xs,a1T E (@o7.size α r) w l.length xs X ∧ @K0 α r I l xs
 | .fz w a,X=>X = []∧E1 I a w
 | @D6.usr α r w x,X=>r.ub I w x X
 | .none_,_=>True
theorem D6.mono {I J:Im} (hle:Le I J):∀ {B:D6} {X:List (Nat×Obj)},B.a4e I X→B.a4e J X
 | @D6.ob α r w x,_,h=>by obtain⟨b,T,cs,h1,h2,h3⟩:=h;exact⟨b,T,cs,h1,h2,@o7.mono α r _ _ _ _ hle h3⟩
 | @D6.own α r E w l,_,h=>by obtain⟨xs,h1,h2⟩:=h;exact⟨xs,h1,h2.mono hle⟩
 | .fz w a,_,h=>⟨h.1,h.2.mono hle⟩
 | @D6.usr α r w x,_,h=>r.mono hle h
 | .none_,_,_=>trivial
abbrev j7:=List (Bool×D6)
def b3p (n0:Nat) (I:Im) (B:Bool×D6) (X:List (Nat×Obj)):Prop:=B.2.a4e I X∧(B.1=true→∀ p∈X,n0≤p.1)
def U0 (n0:Nat) (I:Im):j7→Lh→Prop
 | [],L=>L = []
 | B::H,L=>∃ X R,L=X::R∧b3p n0 I B X∧U0 n0 I H R
theorem b3p.mono {n0:Nat} {I J:Im} (hle:Le I J) {B:Bool×D6} {X:List (Nat×Obj)} (h:b3p n0 I B X):b3p n0 J B X:=⟨D6.mono hle h.1,h.2⟩
theorem U0.mono {n0:Nat} {I J:Im} (hle:Le I J):∀ {H:j7} {L:Lh},U0 n0 I H L→U0 n0 J H L
 | [],_,h=>h
 | B::H,_,h=>by obtain⟨X,R,h1,h2,h3⟩:=h;exact⟨X,R,h1,h2.mono hle,h3.mono hle⟩
theorem U0.append {n0:Nat} {I:Im}:∀ {H K:j7} {L M:Lh},U0 n0 I H L→U0 n0 I K M→U0 n0 I (H++K) (L++M)
 | [],_,_,_,h,k=>by simp [U0] at h;simpa [h] using k
 | B::H,_,_,_,h,k=>by obtain⟨X,R,rfl,h2,h3⟩:=h;exact⟨X,R++_,rfl,h2,h3.append k⟩
structure Z2 (C:Ctx) (I:Im) (L:Lh) (σ:x7) (H:j7) (ρ:Env):Prop where
 env:∀ t a,E9 σ t=some a→∃ u,Fl.look ρ t=some u∧E1 I a u
 heap:U0 C.w0.heap.size I H L
 U6:Le C.I0 I
theorem Z2.mono {C:Ctx} {I J:Im} {L:Lh} {σ:x7} {H:j7} {ρ:Env} (hle:Le I J) (h:Z2 C I L σ H ρ):Z2 C J L σ H ρ :=
 ⟨fun t a ht=>by obtain⟨u,h1,h2⟩:=h.env t a ht;exact⟨u,h1,h2.mono hle⟩,h.heap.mono hle,h.U6.trans hle⟩
theorem Z2.put {C : Ctx} {I J : Im} {L L' : Lh} {σ : x7} {H H' : j7} {ρ : Env} (hle : Le I J) (h : Z2 C I L σ H ρ) {d : Nat} {r : AV} {v : Value} (hv : E1 J r v) (hH : U0 C.w0.heap.size J H' L') :
    Z2 C J L' ((d,r)::σ) H' ((d,v)::ρ):=by
  refine⟨fun t a ht => ?_,hH,h.U6.trans hle⟩
  rw [I9] at ht
  rw [Fl.M0]
  by_cases e:d=t
  · rw [if_pos e] at ht ⊢;cases ht;exact⟨v,rfl,hv⟩
  · rw [if_neg e] at ht ⊢
    obtain⟨u,h1,h2⟩:=h.env t a ht
    exact⟨u,h1,h2.mono hle⟩
def a8l (σ' σ:x7):Prop:=∀ t a,E9 σ' t=some a→E9 σ t=some a
theorem a8l.nil (σ:x7):a8l [] σ:=fun _ _ h=>by simp [E9] at h
theorem a8l.cons {σ' σ:x7} {t:Nat} {a:AV} (h:E9 σ t=some a) (k:a8l σ' σ):a8l ((t,a)::σ') σ:=fun s b hb=>by
 rw [I9] at hb
 by_cases e:t=s
 ·subst e;simp at hb;subst hb;exact h
 ·rw [if_neg e] at hb;exact k s b hb
theorem Z2.sub {C:Ctx} {I:Im} {L:Lh} {σ σ':x7} {H:j7} {ρ:Env} (h:Z2 C I L σ H ρ) (k:a8l σ' σ):Z2 C I L σ' H ρ:=⟨fun t a ht=>h.env t a (k t a ht),h.heap,h.U6⟩
def qA (C:Ctx) (Q:Exit→x7→j7→Prop):Exit→Env→Im→Lh→Prop:=fun e ρ I L=>∃ σ H,Z2 C I L σ H ρ∧Q e σ H
def J0 (P:Program) (C:Ctx) (N:Nat) (c:Code) (Q:Exit→x7→j7→Prop) (σ:x7) (H:j7):Prop :=
 ∀ ρ I L,Z2 C I L σ H ρ→wpS P C N c (qA C Q) ρ I L
def D0 (P:Program) (C:Ctx) (N:Nat) (ops:Array Oper) (Q:Exit→x7→j7→Prop) (l:List Oper) (σ:x7) (H:j7):Prop :=
 ∀ ρ I L,Z2 C I L σ H ρ→wpL P C N ops (qA C Q) l ρ I L
def E6 (C:Ctx) (σ:x7) (H:j7) (x:Operand) (a:AV):Prop:=∀ ρ I L,Z2 C I L σ H ρ→∃ u,ev ρ x=some u∧E1 I a u
section evA
variable {C:Ctx} {σ:x7} {H:j7}
theorem E6.t {t:Nat} {a:AV} (h:E9 σ t=some a):E6 C σ H (.tmp t) a:=fun ρ I L hs=>hs.env t a h
theorem E6.i {n:Int} (h:(decide (-9223372036854775808≤n)&&decide (n≤9223372036854775807))=true):E6 C σ H (.const (.int .i64 n)) (.v n):=fun ρ I L hs=>by
 simp only [Bool.and_eq_true,decide_eq_true_eq] at h
 exact⟨_,a8,_,⟨a8,h.1,h.2⟩,a8⟩
theorem E6.u8 (x:UInt8) {m:Int} (h:m=(x.toNat:Int)):E6 C σ H (.const (.int .u8 m)) (.v x):=fun ρ I L hs=>⟨_,rfl,_,rfl,by rw [h];rfl⟩
theorem E6.u64 (x:UInt64) {m:Int} (h:m=(x.toNat:Int)):E6 C σ H (.const (.int .u64 m)) (.v x):=fun ρ I L hs=>⟨_,rfl,_,rfl,by rw [h];rfl⟩
theorem E6.b {x:Bool}:E6 C σ H (.const (.bool x)) (.v x):=fun ρ I L hs=>⟨_,rfl,_,rfl,rfl⟩
theorem E6.s {x:ByteArray} (l:List UInt8) (h:x.data.toList=l) (hl:l.length≤9223372036854775807):E6 C σ H (.const (.string x)) (.v (Y4.mk l)):=fun ρ I L hs=>⟨_,rfl,_,⟨⟨x,rfl,h⟩,hl⟩,rfl⟩
theorem E6.b3q {α:Type} [o7 α]:E6 C σ H (.const (.slice none 0 0)) (.v ([]:List α)):=fun ρ I L hs=>⟨_,rfl,_,⟨_,rfl,[],Sl.nil I _,rfl⟩,rfl⟩
theorem E6.raw {u:Value}:E6 C σ H (.const u) (.raw u):=fun ρ I L hs=>⟨_,rfl,rfl⟩
theorem E6.c {α:Type} {r:o7 α} {t:Nat} {l:List α} (h:E9 σ t=some (.vc l)):E6 C σ H (.tmp t) (.v l):=fun ρ I L hs=>by
 obtain⟨u,h1,h2,h3⟩:=hs.env t _ h
 exact⟨u,h1,[u],⟨u,a8,h3⟩,a8⟩
theorem E6.o {t:Nat} {a:AV} {c:Bool} (h:E9 σ t=some (.opt c a)) (hc:c=true):E6 C σ H (.tmp t) a:=fun ρ I L hs=>by
 obtain⟨u,h1,h2⟩:=hs.env t _ h
 exact⟨u,h1,h2 hc⟩
theorem E6.int {x:Operand} {n:Int} (h:E6 C σ H x (.v n)) {ρ:Env} {I:Im} {L:Lh} (hs:Z2 C I L σ H ρ):ev ρ x=some (i64 n) ∧ -9223372036854775808≤n∧n≤9223372036854775807:=by
 obtain⟨u,h1,cs,⟨rfl,h2⟩,rfl⟩:=h ρ I L hs
 exact⟨h1,h2⟩
theorem E6.bool {x:Operand} {b:Bool} (h:E6 C σ H x (.v b)) {ρ:Env} {I:Im} {L:Lh} (hs:Z2 C I L σ H ρ):ev ρ x=some (.bool b):=by
 obtain⟨u,h1,cs,rfl,rfl⟩:=h ρ I L hs
 exact h1
theorem E6.by8 {x:Operand} {n:UInt8} (h:E6 C σ H x (.v n)) {ρ:Env} {I:Im} {L:Lh} (hs:Z2 C I L σ H ρ):ev ρ x=some (Fl.u8 n):=by
 obtain⟨u,h1,cs,rfl,rfl⟩:=h ρ I L hs
 exact h1
theorem E6.a1j {x:Operand} {n:UInt64} (h:E6 C σ H x (.v n)) {ρ:Env} {I:Im} {L:Lh} (hs:Z2 C I L σ H ρ):ev ρ x=some (Fl.u64 n):=by
 obtain⟨u,h1,cs,rfl,rfl⟩:=h ρ I L hs
 exact h1
theorem E6.str {x:Operand} {s:Y4} (h:E6 C σ H x (.v s)) {ρ:Env} {I:Im} {L:Lh} (hs:Z2 C I L σ H ρ):∃ b,ev ρ x=some (.string b)∧b.data.toList=s.l:=by
 obtain⟨u,h1,cs,⟨⟨b,rfl,h2⟩,_⟩,rfl⟩:=h ρ I L hs
 exact⟨b,h1,h2⟩
theorem E6.a9p {x:Operand} {s:Y4} (h:E6 C σ H x (.v s)) {ρ:Env} {I:Im} {L:Lh} (hs:Z2 C I L σ H ρ):s.l.length≤9223372036854775807:=by
 obtain⟨u,h1,cs,⟨_,h2⟩,rfl⟩:=h ρ I L hs
 exact h2
theorem E6.sl {α:Type} {r:o7 α} {x:Operand} {l:List α} (h:E6 C σ H x (.v l)) {ρ:Env} {I:Im} {L:Lh} (hs:Z2 C I L σ H ρ):∃ u,ev ρ x=some u∧SlA I u l:=by
 obtain⟨u,h1,cs,⟨v,rfl,h2⟩,rfl⟩:=h ρ I L hs
 exact⟨_,h1,h2⟩
end evA
section control
variable {P:Program} {C:Ctx} {N:Nat} {Q:Exit→x7→j7→Prop} {σ:x7} {H:j7}
theorem J0.skip (h:Q .normal σ H):J0 P C N .skip Q σ H:=fun ρ I L hs => .skip ⟨σ,H,hs,h⟩
theorem J0.ret (h:Q .ret σ H):J0 P C N .ret Q σ H:=fun ρ I L hs => .ret ⟨σ,H,hs,h⟩
theorem J0.exit {id:Nat} (h:Q (.exit id) σ H):J0 P C N (.exit id) Q σ H:=fun ρ I L hs => .exit ⟨σ,H,hs,h⟩
@[reducible] def a58 (next:x7→j7→Prop) (Q:Exit→x7→j7→Prop):Exit→x7→j7→Prop
 | .normal,σ,H=>next σ H
 | e,σ,H=>Q e σ H
theorem J0.seq {x y:Code} (h:J0 P C N x (a58 (J0 P C N y Q) Q) σ H):J0 P C N (.seq x y) Q σ H:=fun ρ I L hs=>by
 refine .seq ((h ρ I L hs).mono fun e ρ I L ⟨σ,H,h1,h2⟩ => ?_)
 cases e with
 | normal=>exact h2 ρ I L h1
 | _=>exact⟨σ,H,h1,h2⟩
theorem J0.cond {c:Operand} {x y:Code} {b:Bool} (hc:E6 C σ H c (.v b)) (ht:b=true→J0 P C N x Q σ H) (hf:b=false→J0 P C N y Q σ H):J0 P C N (.cond c x y) Q σ H :=
 fun ρ I L hs => .cond (hc.bool hs) (fun e=>ht e ρ I L hs) (fun e=>hf e ρ I L hs)
theorem J0.K8 {c:Operand} {x y:Code} {p:Prop} {_:Decidable p} (hc:E6 C σ H c (.v (decide p))) (ht:p→J0 P C N x Q σ H) (hf:¬p→J0 P C N y Q σ H):J0 P C N (.cond c x y) Q σ H :=
 .cond hc (fun e=>ht (of_decide_eq_true e)) (fun e=>hf (of_decide_eq_false e))
@[reducible] def a3d (id:Nat) (Q:Exit→x7→j7→Prop):Exit→x7→j7→Prop
 | .exit i,σ,H=>bif Nat.beq i id then Q .normal σ H else Q (.exit i) σ H
 | e,σ,H=>Q e σ H
theorem J0.block {id:Nat} {c:Code} (h:J0 P C N c (a3d id Q) σ H):J0 P C N (.block id c) Q σ H:=fun ρ I L hs=>by
 refine .block ((h ρ I L hs).mono fun e ρ I L ⟨σ,H,h1,h2⟩ => ?_)
 cases e with
 | exit i =>
  simp only [a3J,a3d] at *
  cases hb:Nat.beq i id with
  | true=>simp only [hb,cond_true] at *;exact⟨σ,H,h1,h2⟩
  | false=>simp only [hb,cond_false] at *;exact⟨σ,H,h1,h2⟩
 | _=>exact⟨σ,H,h1,h2⟩
theorem wpS.c3g {Q : Exit → Env → Im → Lh → Prop} {ρ : Env} {I : Im} {L : Lh} {α : Type} (E : α → Env) (Lf : α → Lh) (F : α → Im → Prop) (μ : α → Nat) {c : Code}
    (x0:α) (h0:F x0 I) (hE:Sub (E x0) ρ) (hL:L=Lf x0)
    (round:∀ x J,F x J→wpS P C N c (a9f (fun ρ' J' L'=>∃ x',Sub (E x') ρ'∧L'=Lf x'∧F x' J'∧μ x' < μ x) Q) (E x) J (Lf x)) :
    wpS P C N (.loop c) Q ρ I L:=fun a w ha hw=>by
  intro b k cs hro hfn hroom
  have key : ∀ n x J a w, μ x = n → F x J → Fits N (E x) a → St C J (Lf x) w →
      ∃ e a' w',a5a C N Q e a' w'∧ArrivesIn (Machine.fenced P C.fen) P (lone (b.atR a (.code c :: .inLoop c::k)) cs w) b k cs e a' w':=by
    intro n
    induction n using Nat.strongRecOn with
    | _ n ih =>
      intro x J a w hn hF ha hw
      obtain⟨e,a1,w1,⟨ρ1,J1,L1,hf1,hs1,hq1⟩,harr⟩:=round x J hF a w ha hw b (.inLoop c::k) cs hro hfn hroom
      cases e with
      | normal =>
        obtain⟨x',hsub,rfl,hF',hlt⟩:=hq1
        obtain⟨e2,a2,w2,hq2,harr2⟩:=ih (μ x') (hn▸hlt) x' J1 a1 w1 rfl hF' (hf1.sub hsub) hs1
        exact⟨e2,a2,w2,hq2,.of_steps (StepsIn.trans harr (.one (fenced_calm hfn hroom a8) stepR_inLoop)) harr2⟩
      | exit id=>exact⟨_,a1,w1,⟨ρ1,J1,L1,hf1,hs1,hq1⟩,.pass (x := .inLoop c) rfl (fun _ _ => .inl (by simp)) harr⟩
      | goto l=>exact⟨_,a1,w1,⟨ρ1,J1,L1,hf1,hs1,hq1⟩,.pass (x := .inLoop c) rfl (fun _ _ => .inl (by simp)) harr⟩
      | ret=>exact⟨_,a1,w1,⟨ρ1,J1,L1,hf1,hs1,hq1⟩,.pass (x := .inLoop c) rfl (fun _ _ => .inl (by simp)) harr⟩
      | panic ch=>exact⟨_,a1,w1,⟨ρ1,J1,L1,hf1,hs1,hq1⟩,.pass (x := .inLoop c) rfl (fun _ _ => .inl (by simp)) harr⟩
      | outgrown=>exact⟨_,a1,w1,⟨ρ1,J1,L1,hf1,hs1,hq1⟩,.pass (x := .inLoop c) rfl (fun _ _ => .inl (by simp)) harr⟩
  subst hL
  obtain⟨e,a',w',hq,harr⟩:=key _ x0 I a w rfl h0 (ha.sub hE) hw
  exact⟨e,a',w',hq,.of_steps (.one (fenced_calm hfn hroom a8) stepR_loop) harr⟩
theorem J0.loop {α : Type} (E : α → x7) (Hf : α → j7) (F : α → Prop) (μ : α → Nat) {c : Code}
    (x0:α) (h0:F x0) (hE:a8l (E x0) σ) (hH:H=Hf x0)
    (round:∀ x,F x→J0 P C N c (a58 (fun σ' H'=>∃ x',a8l (E x') σ'∧H'=Hf x'∧F x'∧μ x' < μ x) Q) (E x) (Hf x)) :
    J0 P C N (.loop c) Q σ H:=fun ρ I L hs=>by
  refine wpS.c3g (α:=α×Env×Lh) (fun y=>y.2.1) (fun y=>y.2.2) (fun y J=>F y.1∧Z2 C J y.2.2 (E y.1) (Hf y.1) y.2.1) (fun y=>μ y.1) (x0,ρ,L) ⟨h0,hH▸hs.sub hE⟩ (Sub.refl _) rfl ?_
  rintro⟨x,ρ1,L1⟩ J ⟨hF,hR⟩
  refine(round x hF ρ1 J L1 hR).mono fun e ρ2 J2 L2 ⟨σ2,H2,h1,h2⟩ => ?_
  cases e with
  | normal =>
    obtain⟨x',k1,k2,k3,k4⟩:=h2
    subst k2
    exact⟨(x',ρ2,L2),Sub.refl _,a8,⟨k3,h1.sub k1⟩,k4⟩
  | _=>exact⟨σ2,H2,h1,h2⟩
theorem J0.D8 (R : x7) {α : Type} (V : α → x7 → x7) (Hf : α → j7) (F : α → Prop) (μ : α → Nat) {c : Code}
    (x0:α) (hR:a8l R σ) (h0:F x0) (hE:a8l (V x0 R) σ) (hH:H=Hf x0)
    (round:∀ x,F x→J0 P C N c (a58 (fun σ' H'=>∃ x',a8l (V x' R) σ'∧H'=Hf x'∧F x'∧μ x' < μ x) Q) (V x R) (Hf x)) :
    J0 P C N (.loop c) Q σ H := .loop (fun x=>V x R) Hf F μ x0 h0 hE hH round
end control
abbrev c8:Bool×D6:=(true,.none_)
abbrev j2 (l:List (Bool×D6)) (k:Nat):Bool×D6:=List.getD l k (true,.none_)
abbrev j0:Bool:=true
abbrev j1:Bool:=false
end Go.Ab
namespace Go.Ab
open Go.Fl Go.RowKit
open o7 (rep)
theorem OpX.a3P {P:Program} {N:Nat} {o:Oper} {ρ:Env} {I:Im} {L:Lh} {K K':Value→Im→Lh→Prop} (h:OpX P N o ρ I L K) (hk:∀ v J X,Le I J→K v J X→K' v J X):OpX P N o ρ I L K' :=
 fun a w ha hm=>(h a w ha hm).mono fun v w' ⟨J,X,a1,a2,a3,a4,a5,a6⟩=>⟨J,X,a1,a2,a3,a4,a5,hk v J X a2 a6⟩
theorem OpS.b1t {P:Program} {C:Ctx} {N:Nat} {o:Oper} {ρ:Env} {I:Im} {L:Lh} {K K':Value→Im→Lh→Prop} (h:OpS P C N o ρ I L K) (hk:∀ v J X,K v J X→K' v J X):OpS P C N o ρ I L K' :=
 fun a w ha hm=>(h a w ha hm).mono fun v w' ⟨J,X,a1,a2⟩=>⟨J,X,a1,hk v J X a2⟩
def j6 (P:Program) (N:Nat) (C:Ctx) (o:Oper) (σ:x7) (H:j7) (K:AV→Prop):Prop :=
 ∀ ρ I L,Z2 C I L σ H ρ→OpX P N o ρ I L (fun v J X=>X = []∧∃ r,E1 J r v∧K r)
def A0 (P:Program) (C:Ctx) (N:Nat) (o:Oper) (σ:x7) (H:j7) (K:AV→j7→Prop):Prop :=
 ∀ ρ I L,Z2 C I L σ H ρ→OpS P C N o ρ I L (fun v J L'=>Le I J∧∃ r H',E1 J r v∧U0 C.w0.heap.size J H' L'∧K r H')
theorem j6.C0 {P:Program} {N:Nat} {C:Ctx} {o:Oper} {σ:x7} {H:j7} {K:AV→Prop} (r:AV) (h:∀ ρ I L,Z2 C I L σ H ρ→H7 P N o ρ I L (fun v=>E1 I r v)) (k:K r):j6 P N C o σ H K :=
 fun ρ I L hs => .C0 fun a w ha hm=>by
  obtain⟨v,hv,hr⟩:=h ρ I L hs a w ha hm
  exact⟨v,⟨a8,r,hv,k⟩,hr⟩
section opers
variable {P:Program} {C:Ctx} {N:Nat} {ops:Array Oper} {Q:Exit→x7→j7→Prop} {rest:List Oper} {σ:x7} {H:j7}
theorem D0.nil (h:Q .normal σ H):D0 P C N ops Q [] σ H:=fun ρ I L hs => .nil ⟨σ,H,hs,h⟩
theorem D0.p {d : Nat} {op : Op} {ty : TypeId} {ps : String} {af : Array Edge}
    (h:j6 P N C ⟨some d,op,ty,ps,af,none⟩ σ H (fun r=>D0 P C N ops Q rest ((d,r)::σ) H)) :
    D0 P C N ops Q (⟨some d,op,ty,ps,af,none⟩::rest) σ H:=fun ρ I L hs =>
  .x (OpX.a3P (h ρ I L hs) fun v J X hle ⟨hX,r,hr,hk⟩=>by subst hX;exact hk _ _ _ (hs.put hle hr (hs.heap.mono hle)))
theorem D0.h {d : Nat} {op : Op} {ty : TypeId} {ps : String} {af : Array Edge}
    (h:A0 P C N ⟨some d,op,ty,ps,af,none⟩ σ H (fun r H'=>D0 P C N ops Q rest ((d,r)::σ) H')) :
    D0 P C N ops Q (⟨some d,op,ty,ps,af,none⟩::rest) σ H:=fun ρ I L hs =>
  .s (OpS.b1t (h ρ I L hs) fun v J L' ⟨hle,r,H',hr,hH,hk⟩=>hk _ _ _ (hs.put hle hr hH))
theorem D0.n {op : Op} {ty : TypeId} {ps : String} {af : Array Edge}
    (h:A0 P C N ⟨none,op,ty,ps,af,none⟩ σ H (fun _ H'=>D0 P C N ops Q rest σ H')) :
    D0 P C N ops Q (⟨none,op,ty,ps,af,none⟩::rest) σ H:=fun ρ I L hs =>
  .n (OpS.b1t (h ρ I L hs) fun v J L' ⟨hle,r,H',hr,hH,hk⟩=>hk _ _ _ ⟨(hs.mono hle).env,hH,hs.U6.trans hle⟩)
theorem D0.go {d : Nat} {op : Op} {ty : TypeId} {ps : String} {af : Array Edge} {j : Nat} {want : Bool} (dj : Nat) (hj : (ops[j]?).bind (·.dst) = some dj) {b : Bool} (hb : E6 C σ H (.tmp dj) (.v b)) {r : AV}
    (h:b=want→j6 P N C ⟨some d,op,ty,ps,af,none⟩ σ H (fun r'=>r'=r)) (k:D0 P C N ops Q rest ((d,.opt (b == want) r)::σ) H) :
    D0 P C N ops Q (⟨some d,op,ty,ps,af,some (j,want)⟩::rest) σ H:=fun ρ I L hs=>by
  have hbv:=hb.bool hs
  by_cases e:b=want
  · refine .gt dj hj (by rw [←e];exact hbv) (OpS.ofX (OpX.a3P (h e ρ I L hs) fun v J X hle ⟨hX,r',hr,hk⟩ => ?_))
    subst hX;subst hk
    exact k _ _ _ (hs.put hle (r := .opt (b == want) r') (fun _=>hr) (hs.heap.mono hle))
  · have e':b = !want:=by cases b<;>cases want<;>simp_all
    exact .gf dj hj (by rw [←e'];exact hbv) (k _ _ _ (hs.put (Le.refl I) (r := .opt (b == want) r) (fun hc=>absurd (by simpa using hc) e) hs.heap))
theorem J0.region {id:Nat} {l:List Oper} (hd:K2 N l=true) (h:D0 P C N l.toArray Q l σ H):J0 P C N (.region id l.toArray false) Q σ H:=fun ρ I L hs => .region hd (h ρ I L hs)
inductive u4:j7→Bool×D6→(Bool×D6→j7)→Prop
 | z {B:Bool×D6} {H:j7}:u4 (B::H) B (fun X=>X::H)
 | s {A B:Bool×D6} {H:j7} {F:Bool×D6→j7} (h:u4 H B F):u4 (A::H) B (fun X=>A::F X)
theorem u4.get {n0 : Nat} {I : Im} {H : j7} {B : Bool × D6} {F : Bool × D6 → j7} (h : u4 H B F) : ∀ {L : Lh}, U0 n0 I H L →
    ∃ i X,L[i]?=some X∧b3p n0 I B X∧∀ J B' X',Le I J→b3p n0 J B' X'→U0 n0 J (F B') (L.set i X'):=by
  induction h with
  | z =>
    rintro _ ⟨X,R,rfl,h1,h2⟩
    exact⟨0,X,a8,h1,fun J B' X' hle hb=>⟨X',R,a8,hb,h2.mono hle⟩⟩
  | s h ih =>
    rintro _ ⟨X,R,rfl,h1,h2⟩
    obtain⟨i,Y,h3,h4,h5⟩:=ih h2
    exact⟨i+1,Y,by simpa using h3,h4,fun J B' X' hle hb=>⟨X,R.set i X',by simp,h1.mono hle,h5 J B' X' hle hb⟩⟩
theorem W2 {I J:Im} {E:TypeId} {α:Type} {r:o7 α} {w:Value} {l:List α} {X:List (Nat×Obj)} (h:(D6.own E w l).a4e I X) (hle:Le I J) (hp:∀ p∈X,J p.1=some p.2):E1 J (.v l) w:=by
 obtain⟨xs,h1,h2⟩:=h
 obtain⟨a,c,rfl⟩:=h1.shape
 exact⟨_,⟨_,a8,xs,h1.sl hp,h2.mono hle⟩,a8⟩
theorem a9q {I J:Im} {α:Type} {r:o7 α} {w:Value} {x:α} {X:List (Nat×Obj)} (h:(D6.ob w x).a4e I X) (hle:Le I J) (hp:∀ p∈X,J p.1=some p.2):E1 J (.p x) w:=by
 obtain⟨b,T,cs,rfl,rfl,h3⟩:=h
 exact⟨b,0,cs,a8,o7.mono hle h3,Cells.b2S (hp (b,row cs T) (List.mem_singleton.2 a8))⟩
def Ctx.Ok (C:Ctx):Prop:=∀ k∈C.M,k < C.w0.heap.size
theorem a5z (hC:Ctx.Ok C) {B:D6} {I:Im} {X:List (Nat×Obj)} (h:b3p C.w0.heap.size I (true,B) X):∀ p∈X,p.1∈C.M→False:=fun p hp hm=>by
 have:=h.2 rfl p hp
 have:=hC _ hm
 omega
theorem D0.u0 (hC:Ctx.Ok C) {E:TypeId} {α:Type} {r:o7 α} {w:Value} {l:List α} {os:List Oper} {F:Bool×D6→j7} (h:u4 H (true,.own E w l) F) (k:D0 P C N ops Q os σ (F (true,.fz w (.v l)))):D0 P C N ops Q os σ H:=fun ρ I L hs=>by
 obtain⟨i,X,h1,h2,h3⟩:=h.get hs.heap
 refine .freeze i h1 (a5z hC h2) fun J hle hp=>k ρ J _ ⟨(hs.mono hle).env,h3 J _ [] hle ⟨⟨rfl,W2 h2.1 hle hp⟩,by simp⟩,hs.U6.trans hle⟩
theorem b1u {I J:Im} {E:TypeId} {α:Type} {r:o7 α} {b n:Nat} {l:List α} {X:List (Nat×Obj)} (h:(D6.own E (slc b 0 n n) l).a4e I X) (hn:l.length=n) (hle:Le I J) (hp:∀ p∈X,J p.1=some p.2):E1 J (.vc l) (slc b 0 n n):=by
 obtain⟨xs,h1,h2⟩:=h
 subst hn
 exact⟨⟨_,a8⟩,xs,h1.sl hp,h2.mono hle⟩
theorem J0.c4p (hC:Ctx.Ok C) {E:TypeId} {α:Type} {r:o7 α} {b n:Nat} {l:List α} {c:Code} {F:Bool×D6→j7} (h:u4 H (true,.own E (slc b 0 n n) l) F) (hn:l.length=n) (k:J0 P C N c Q σ (F (true,.fz (slc b 0 n n) (.vc l)))):J0 P C N c Q σ H:=fun ρ I L hs=>by
 obtain⟨i,X,h1,h2,h3⟩:=h.get hs.heap
 refine .freeze i h1 (a5z hC h2) fun J hle hp=>k ρ J _ ⟨(hs.mono hle).env,h3 J _ [] hle ⟨⟨rfl,b1u h2.1 hn hle hp⟩,by simp⟩,hs.U6.trans hle⟩
theorem D0.y6 (hC:Ctx.Ok C) {α:Type} {r:o7 α} {w:Value} {x:α} {os:List Oper} {F:Bool×D6→j7} (h:u4 H (true,.ob w x) F) (k:D0 P C N ops Q os σ (F (true,.fz w (.p x)))):D0 P C N ops Q os σ H:=fun ρ I L hs=>by
 obtain⟨i,X,h1,h2,h3⟩:=h.get hs.heap
 refine .freeze i h1 (a5z hC h2) fun J hle hp=>k ρ J _ ⟨(hs.mono hle).env,h3 J _ [] hle ⟨⟨rfl,a9q h2.1 hle hp⟩,by simp⟩,hs.U6.trans hle⟩
theorem J0.u0 (hC:Ctx.Ok C) {E:TypeId} {α:Type} {r:o7 α} {w:Value} {l:List α} {c:Code} {F:Bool×D6→j7} (h:u4 H (true,.own E w l) F) (k:J0 P C N c Q σ (F (true,.fz w (.v l)))):J0 P C N c Q σ H:=fun ρ I L hs=>by
 obtain⟨i,X,h1,h2,h3⟩:=h.get hs.heap
 refine .freeze i h1 (a5z hC h2) fun J hle hp=>k ρ J _ ⟨(hs.mono hle).env,h3 J _ [] hle ⟨⟨rfl,W2 h2.1 hle hp⟩,by simp⟩,hs.U6.trans hle⟩
theorem J0.y6 (hC:Ctx.Ok C) {α:Type} {r:o7 α} {w:Value} {x:α} {c:Code} {F:Bool×D6→j7} (h:u4 H (true,.ob w x) F) (k:J0 P C N c Q σ (F (true,.fz w (.p x)))):J0 P C N c Q σ H:=fun ρ I L hs=>by
 obtain⟨i,X,h1,h2,h3⟩:=h.get hs.heap
 refine .freeze i h1 (a5z hC h2) fun J hle hp=>k ρ J _ ⟨(hs.mono hle).env,h3 J _ [] hle ⟨⟨rfl,a9q h2.1 hle hp⟩,by simp⟩,hs.U6.trans hle⟩
theorem Z2.as {C:Ctx} {I:Im} {L:Lh} {ρ:Env} (t:Nat) {w:Value} {a:AV} {g:Bool} {F:Bool×D6→j7} (ht:E9 σ t=some (.raw w)) (h:u4 H (g,.fz w a) F) (hs:Z2 C I L σ H ρ):Z2 C I L ((t,a)::σ) H ρ :=
 ⟨fun s b hb=>by
  rw [I9] at hb
  by_cases e:t=s
  ·subst e;simp at hb;subst hb
   obtain⟨u,h1,rfl⟩:=hs.env t _ ht
   obtain⟨i,X,h2,h3,_⟩:=h.get hs.heap
   exact⟨_,h1,h3.1.2⟩
  ·rw [if_neg e] at hb;exact hs.env s b hb,hs.heap,hs.U6⟩
theorem D0.as (t:Nat) {w:Value} {a:AV} {g:Bool} {F:Bool×D6→j7} {os:List Oper} (ht:E9 σ t=some (.raw w)) (h:u4 H (g,.fz w a) F) (k:D0 P C N ops Q os ((t,a)::σ) H):D0 P C N ops Q os σ H :=
 fun ρ I L hs=>k ρ I L (hs.as t ht h)
theorem J0.as (t:Nat) {w:Value} {a:AV} {g:Bool} {F:Bool×D6→j7} {c:Code} (ht:E9 σ t=some (.raw w)) (h:u4 H (g,.fz w a) F) (k:J0 P C N c Q ((t,a)::σ) H):J0 P C N c Q σ H :=
 fun ρ I L hs=>k ρ I L (hs.as t ht h)
theorem Z2.L6 {C:Ctx} {I:Im} {L:Lh} {ρ:Env} (t:Nat) {α:Type} {r:o7 α} {b:Nat} {a:AV} {g:Bool} {F:Bool×D6→j7} (ht:E9 σ t=some (.ln (ptr b 0) (j9.id (α:=α)))) (h:u4 H (g,.fz (ptr b 0) a) F) (hs:Z2 C I L σ H ρ):Z2 C I L ((t,a)::σ) H ρ :=
 ⟨fun s c hb=>by
  rw [I9] at hb
  by_cases e:t=s
  ·subst e;simp at hb;subst hb
   obtain⟨u,h1,b',hb',rfl⟩:=hs.env t _ ht
   cases hb'
   obtain⟨i,X,h2,h3,_⟩:=h.get hs.heap
   exact⟨_,h1,h3.1.2⟩
  ·rw [if_neg e] at hb;exact hs.env s c hb,hs.heap,hs.U6⟩
theorem D0.L6 (t:Nat) {α:Type} {r:o7 α} {b:Nat} {a:AV} {g:Bool} {F:Bool×D6→j7} {os:List Oper} (ht:E9 σ t=some (.ln (ptr b 0) (j9.id (α:=α)))) (h:u4 H (g,.fz (ptr b 0) a) F) (k:D0 P C N ops Q os ((t,a)::σ) H):D0 P C N ops Q os σ H :=
 fun ρ I L hs=>k ρ I L (hs.L6 t ht h)
theorem J0.L6 (t:Nat) {α:Type} {r:o7 α} {b:Nat} {a:AV} {g:Bool} {F:Bool×D6→j7} {c:Code} (ht:E9 σ t=some (.ln (ptr b 0) (j9.id (α:=α)))) (h:u4 H (g,.fz (ptr b 0) a) F) (k:J0 P C N c Q ((t,a)::σ) H):J0 P C N c Q σ H :=
 fun ρ I L hs=>k ρ I L (hs.L6 t ht h)
theorem J0.T3 (t:Nat) {α:Type} {r:o7 α} {l:List α} {c:Code} (ht:E9 σ t=some (.v l)) (k:l.length≤9223372036854775807→J0 P C N c Q σ H):J0 P C N c Q σ H :=
 fun ρ I L hs=>by
  obtain⟨u,_,xs,⟨a,c,_,_,h1,h2,_⟩,_⟩:=E6.sl (.t ht) hs
  exact k (by unfold maxLen at h2;omega) ρ I L hs
theorem J0.a9p (t:Nat) {s:Y4} {c:Code} (ht:E9 σ t=some (.v s)) (k:s.l.length≤9223372036854775807→J0 P C N c Q σ H):J0 P C N c Q σ H :=
 fun ρ I L hs=>k (E6.a9p (.t ht) hs) ρ I L hs
end opers
structure Gl where
 p:Im→Prop
 mono:∀ {I J},Le I J→p I→p J
def S6 (I:Im):List AV→List Value→Prop
 | [],vs=>vs = []
 | a::ags,vs=>∃ v r,vs=v::r∧E1 I a v∧S6 I ags r
theorem S6.mono {I J:Im} (hle:Le I J):∀ {ags:List AV} {vs:List Value},S6 I ags vs→S6 J ags vs
 | [],_,h=>h
 | a::ags,_,h=>by obtain⟨v,r,h1,h2,h3⟩:=h;exact⟨v,r,h1,h2.mono hle,h3.mono hle⟩
theorem S6.len {I:Im}:∀ {ags:List AV} {vs:List Value},S6 I ags vs→vs.length=ags.length
 | [],_,h=>by simp [S6] at h;simp [h]
 | a::ags,_,h=>by obtain⟨v,r,rfl,_,h3⟩:=h;simp [h3.len]
@[reducible] def b0e:List AV→Nat→x7
 | [],_ => []
 | a::r,k=>(k,a)::b0e r (k+1)
theorem S6.env {I:Im}:∀ {ags:List AV} {vs:List Value} (k:Nat),S6 I ags vs→∀ t a,E9 (b0e ags k) t=some a→∃ u,Fl.look (a0D vs k) t=some u∧E1 I a u
 | [],_,k,h,t,a,ht=>by simp [b0e,E9] at ht
 | a::ags,_,k,h,t,b,ht=>by
  obtain⟨v,r,rfl,h2,h3⟩:=h
  rw [b0e,I9] at ht
  rw [a0D,Fl.M0]
  by_cases e:k=t
  ·rw [if_pos e] at ht ⊢;cases ht;exact⟨v,rfl,h2⟩
  ·rw [if_neg e] at ht ⊢;exact h3.env (k+1) t b ht
def p4 (G:Gl) (P:Program) (f:FuncId) (ags:List AV) (post:AV→Prop):Prop:=∀ I vs,G.p I→S6 I ags vs→Fun P f vs.toArray I (fun v J=>∃ r,E1 J r v∧post r)
def a2K (I:Im):List D6→Lh→Prop
 | [],L=>L = []
 | B::H,L=>∃ X R,L=X::R∧B.a4e I X∧a2K I H R
def E4 (G:Gl) (P:Program) (f:FuncId) (ags:List AV) (Hs:List D6) (post:AV→List D6→Prop):Prop :=
 ∀ I L vs,G.p I→S6 I ags vs→a2K I Hs L→a9U P f vs.toArray I L (fun v J L'=>∃ r Hs',E1 J r v∧a2K J Hs' L'∧post r Hs')
@[reducible] def a8m:List D6→j7
 | [] => []
 | B::r=>(false,B)::a8m r
theorem a4u:∀ Hs:List D6,a8m Hs=Hs.map (fun B=>(false,B))
 | []=>rfl
 | B::r=>by rw [a8m,a4u r];rfl
theorem a2K.toH {n0:Nat} {I:Im}:∀ {Hs:List D6} {L:Lh},a2K I Hs L→U0 n0 I (Hs.map (fun B=>(false,B))) L
 | [],_,h=>h
 | B::Hs,_,h=>by obtain⟨X,R,h1,h2,h3⟩:=h;exact⟨X,R,h1,⟨h2,fun e=>by cases e⟩,h3.toH⟩
theorem a2K.toT {n0:Nat} {I:Im}:∀ {Hs:List D6} {L:Lh},a2K I Hs L→(∀ p∈L.flatten,n0≤p.1)→U0 n0 I (Hs.map (fun B=>(true,B))) L
 | [],_,h,_=>h
 | B::Hs,_,h,hp=>by
  obtain⟨X,R,rfl,h2,h3⟩:=h
  exact⟨X,R,a8,⟨h2,fun _ p h=>hp p (by simp [h])⟩,h3.toT (fun p h=>hp p (by simp only [List.flatten_cons,List.mem_append];exact .inr h))⟩
theorem U0.toK {n0:Nat} {I:Im}:∀ {H:j7} {L:Lh},U0 n0 I H L→a2K I (H.map Prod.snd) L
 | [],_,h=>h
 | B::Hs,_,h=>by obtain⟨X,R,h1,h2,h3⟩:=h;exact⟨X,R,h1,h2.1,h3.toK⟩
def b0f (P:Program) (fn:Func) (C:Ctx) (σ:x7) (H:j7) (r:AV):Prop:=∀ ρ I L,Z2 C I L σ H ρ→∃ v,Fin P fn ρ I L v∧E1 I r v
def a7H (P:Program) (fn:Func) (C:Ctx) (post:AV→j7→Prop):Exit→x7→j7→Prop
 | .normal,σ,H | .ret,σ,H=>∃ r,b0f P fn C σ H r∧post r H
 | _,_,_=>False
theorem a7H.q {P : Program} {fn : Func} {C : Ctx} {post : AV → j7 → Prop} {e : Exit} {ρ : Env} {I : Im} {L : Lh} (h : qA C (a7H P fn C post) e ρ I L) :
    b5K P fn (fun v J L'=>∃ r H,E1 J r v∧U0 C.w0.heap.size J H L'∧post r H) e ρ I L:=by
  obtain⟨σ,H,h1,h2⟩:=h
  cases e with
  | normal|ret =>
    obtain⟨r,h3,h4⟩:=h2
    obtain⟨v,h5,h6⟩:=h3 ρ I L h1
    exact⟨v,h5,r,H,h6,h1.heap,h4⟩
  | _=>exact h2.elim
theorem p4.intro {G : Gl} {P : Program} {f : FuncId} {fn : Func} {c : Code} {ags : List AV} {post : AV → Prop} (hf : P.funcs[f]? = some fn) (hb : fn.body = some c) (hn : (fn.name == "runtime.NumGoroutine") = false)
    (N:Nat) (hN:fn.ntmps=N) (hl:Nat.ble ags.length N=true) (σ:x7) (hσ:b0e ags 0=σ)
    (h:∀ C:Ctx,Ctx.Ok C→G.p C.I0→J0 P C N c (a7H P fn C (fun r _=>post r)) σ []):p4 G P f ags post:=fun I vs hG hvs =>
  ⟨⟨fn,hf,hn,by simp [hb]⟩,fun w hm=>a1o hf hb N hN (by rw [hvs.len];exact hl) hm (M := []) (by simp)
    ((h ⟨w,[],I,none⟩ (fun k hk=>by cases hk) hG (a0D vs 0) I [] ⟨by rw [←hσ];exact hvs.env 0,rfl,Le.refl I⟩).mono fun e ρ J L hq=>a7H.q hq)
    fun v J L' w' hs hp=>by
      obtain⟨r,H,h1,h2,h3⟩:=hp
      exact⟨v,J,a8,hs.S5,hs.U6,fun b h0 h1=>hs.new b h0 h1,hs.mem.drop,r,h1,h3⟩⟩
theorem E4.intro {G : Gl} {P : Program} {f : FuncId} {fn : Func} {c : Code} {ags : List AV} {Hs : List D6} {post : AV → List D6 → Prop} (hf : P.funcs[f]? = some fn) (hb : fn.body = some c) (hn : (fn.name == "runtime.NumGoroutine") = false)
    (N:Nat) (hN:fn.ntmps=N) (hl:Nat.ble ags.length N=true) (σ:x7) (hσ:b0e ags 0=σ) (H0:j7) (hH:a8m Hs=H0)
    (h:∀ C:Ctx,Ctx.Ok C→G.p C.I0→J0 P C N c (a7H P fn C (fun r H=>post r (H.map Prod.snd))) σ H0):E4 G P f ags Hs post:=fun I L vs hG hvs hL =>
  ⟨⟨fn,hf,hn,by simp [hb]⟩,fun w hm=>a1o hf hb N hN (by rw [hvs.len];exact hl) hm (M:=L.flatten.map Prod.fst) (fun p hp=>List.mem_map_of_mem hp)
    ((h ⟨w, L.flatten.map Prod.fst, I, none⟩ (fun k hk => by
        obtain⟨p,hp,rfl⟩:=List.mem_map.1 hk
        exact y7 (hm.loc p hp)) hG (a0D vs 0) I L ⟨by rw [←hσ];exact hvs.env 0,by rw [←hH,a4u];exact hL.toH,Le.refl I⟩).mono fun e ρ J L hq=>a7H.q hq)
    fun v J L' w' hs hp=>by
      obtain⟨r,H,h1,h2,h3⟩:=hp
      exact⟨v,J,L',a8,hs.S5,hs.U6,fun b h0 h1=>hs.new b h0 h1,hs.mem,hs.own,r,_,h1,h2.toK,h3⟩⟩
theorem p4.mono {G:Gl} {P:Program} {f:FuncId} {ags:List AV} {post post':AV→Prop} (h:p4 G P f ags post) (hp:∀ r,post r→post' r):p4 G P f ags post':=fun I vs hG hvs =>
 (h I vs hG hvs).mono fun v J hle ⟨r,h1,h2⟩=>⟨r,h1,hp r h2⟩
theorem E6.c10 {C:Ctx} {G:Gl} {σ:x7} {H:j7} {g:Nat} {a:AV} (hG:G.p C.I0) (h:∀ I,G.p I→E1 I a (ptr g 0)):E6 C σ H (.global g) a:=fun ρ I L hs=>⟨_,rfl,h I (G.mono hs.U6 hG)⟩
def a19 (C:Ctx) (σ:x7) (H:j7):List Operand→List AV→Prop
 | [],ags=>ags = []
 | x::xs,ags=>∃ a r,ags=a::r∧E6 C σ H x a∧a19 C σ H xs r
theorem a19.nil {C:Ctx} {σ:x7} {H:j7}:a19 C σ H [] []:=rfl
theorem a19.cons {C:Ctx} {σ:x7} {H:j7} {x:Operand} {a:AV} {xs:List Operand} {ags:List AV} (h:E6 C σ H x a) (k:a19 C σ H xs ags):a19 C σ H (x::xs) (a::ags):=⟨a,ags,rfl,h,k⟩
theorem a19.get {C:Ctx} {σ:x7} {H:j7} {ρ:Env} {I:Im} {L:Lh} (hs:Z2 C I L σ H ρ):∀ {xs:List Operand} {ags:List AV},a19 C σ H xs ags→∃ vs,evL ρ xs=some vs∧S6 I ags vs
 | [],_,h=>by simp [a19] at h;subst h;exact⟨[],rfl,rfl⟩
 | x::xs,_,h=>by
  obtain⟨a,r,rfl,h1,h2⟩:=h
  obtain⟨u,h3,h4⟩:=h1 ρ I L hs
  obtain⟨vs,h5,h6⟩:=a19.get hs h2
  exact⟨u::vs,by simp [evL,h3,h5],u,vs,rfl,h4,h6⟩
def EvL (C:Ctx) (σ:x7) (H:j7) (x:Operand) (a:AV):Prop:=∀ ρ I L,Z2 C I L σ H ρ→∃ u,ev ρ x=some u∧∀ J,Le I J→(∀ p∈L.flatten,J p.1=some p.2)→E1 J a u
theorem EvL.e {C:Ctx} {σ:x7} {H:j7} {x:Operand} {a:AV} (h:E6 C σ H x a):EvL C σ H x a:=fun ρ I L hs=>by
 obtain⟨u,h1,h2⟩:=h ρ I L hs
 exact⟨u,h1,fun J hle _=>h2.mono hle⟩
theorem EvL.own {C:Ctx} {σ:x7} {H:j7} {t:Nat} {E:TypeId} {α:Type} {r:o7 α} {w:Value} {l:List α} {g:Bool} {F:Bool×D6→j7} (ht:E9 σ t=some (.raw w)) (h:u4 H (g,.own E w l) F):EvL C σ H (.tmp t) (.v l):=fun ρ I L hs=>by
 obtain⟨u,h1,rfl⟩:=hs.env t _ ht
 obtain⟨i,X,h2,h3,_⟩:=h.get hs.heap
 exact⟨_,h1,fun J hle hp=>W2 h3.1 hle (fun p hpx=>hp p (D2 h2 hpx))⟩
def a6L (C:Ctx) (σ:x7) (H:j7):List Operand→List AV→Prop
 | [],ags=>ags = []
 | x::xs,ags=>∃ a r,ags=a::r∧EvL C σ H x a∧a6L C σ H xs r
theorem a6L.nil {C:Ctx} {σ:x7} {H:j7}:a6L C σ H [] []:=rfl
theorem a6L.cons {C:Ctx} {σ:x7} {H:j7} {x:Operand} {a:AV} {xs:List Operand} {ags:List AV} (h:EvL C σ H x a) (k:a6L C σ H xs ags):a6L C σ H (x::xs) (a::ags):=⟨a,ags,rfl,h,k⟩
theorem a6L.get {C:Ctx} {σ:x7} {H:j7} {ρ:Env} {I:Im} {L:Lh} (hs:Z2 C I L σ H ρ):∀ {xs:List Operand} {ags:List AV},a6L C σ H xs ags→∃ vs,evL ρ xs=some vs∧∀ J,Le I J→(∀ p∈L.flatten,J p.1=some p.2)→S6 J ags vs
 | [],_,h=>by simp [a6L] at h;subst h;exact⟨[],rfl,fun _ _ _=>rfl⟩
 | x::xs,_,h=>by
  obtain⟨a,r,rfl,h1,h2⟩:=h
  obtain⟨u,h3,h4⟩:=h1 ρ I L hs
  obtain⟨vs,h5,h6⟩:=a6L.get hs h2
  exact⟨u::vs,by simp [evL,h3,h5],fun J hle hp=>⟨u,vs,rfl,h4 J hle hp,h6 J hle hp⟩⟩
def a8n (r:AV):Prop:=∀ I J u,E1 I r u→E1 J r u
class b0g (α:Type) [o7 α]:Prop where
 any:∀ {I J:Im} {x:α} {cs},rep I x cs→rep J x cs
instance:b0g Int:=⟨fun h=>h⟩
instance:b0g UInt8:=⟨fun h=>h⟩
theorem K0.any {α:Type} [o7 α] [b0g α] {I J:Im}:∀ {l:List α} {cs:List Value},K0 I l cs→K0 J l cs
 | [],_,h=>h
 | x::l,_,h=>by obtain⟨c,r,h1,h2,h3⟩:=h;exact⟨c,r,h1,b0g.any h2,K0.any h3⟩
instance {n:Nat} {α:Type} [o7 α] [b0g α]:b0g (I8 n α):=⟨fun h=>K0.any h⟩
theorem a8n.v {α:Type} [o7 α] [b0g α] {x:α}:a8n (.v x):=fun I J u h=>by obtain⟨cs,h1,h2⟩:=h;exact⟨cs,b0g.any h1,h2⟩
section calls
variable {P:Program} {C:Ctx} {N:Nat} {σ:x7} {H:j7} {G:Gl} (hG:G.p C.I0) {f:FuncId} {d:Option Nat} {args:Array Operand} {tys:Array TypeId} {ty:TypeId} {ps:String} {af:Array Edge} {g:Option (Nat×Bool)} {ags:List AV}
include hG
theorem j6.call {post:AV→Prop} {K:AV→Prop} (h:p4 G P f ags post) (hv:a19 C σ H args.toList ags) (k:∀ r,post r→K r):j6 P N C ⟨d,.call ⟨.value (.func f),args,tys⟩,ty,ps,af,g⟩ σ H K:=fun ρ I L hs=>by
 obtain⟨vs,h1,h2⟩:=hv.get hs
 exact .call a8 h1 (h I vs (G.mono hs.U6 hG) h2) fun v J hle ⟨r,h3,h4⟩=>⟨a8,r,h3,k r h4⟩
theorem j6.o8 {r:AV} {K:AV→Prop} (h:p4 G P f ags (fun x=>x=r)) (hv:a19 C σ H args.toList ags) (k:K r):j6 P N C ⟨d,.call ⟨.value (.func f),args,tys⟩,ty,ps,af,g⟩ σ H K :=
 .call hG h hv fun x e=>e▸k
theorem j6.b9E {post:AV→Prop} {K:AV→Prop} (h:p4 G P f ags post) (hv:a6L C σ H args.toList ags) (hf:∀ r,post r→a8n r) (k:∀ r,post r→K r):j6 P N C ⟨d,.call ⟨.value (.func f),args,tys⟩,ty,ps,af,g⟩ σ H K:=fun ρ I L hs=>by
 obtain⟨vs,h1,h2⟩:=hv.get hs
 exact .b9E (φ:=fun v=>∃ r,E1 I r v∧post r) a8 h1 (fun J hle hp=>(h J vs (G.mono (hs.U6.trans hle) hG) (h2 J hle hp)).mono fun v J' _ ⟨r,h3,h4⟩=>⟨r,hf r h4 _ _ _ h3,h4⟩) fun v ⟨r,h3,h4⟩=>⟨a8,r,h3,k r h4⟩
theorem j6.c1i {r:AV} {K:AV→Prop} (h:p4 G P f ags (fun x=>x=r)) (hv:a6L C σ H args.toList ags) (hf:a8n r) (k:K r):j6 P N C ⟨d,.call ⟨.value (.func f),args,tys⟩,ty,ps,af,g⟩ σ H K :=
 .b9E hG h hv (fun x e=>e▸hf) fun x e=>e▸k
omit hG in
theorem OpS.b7H {ρ : Env} {I : Im} {L : Lh} {F : Operand} {vs : List Value} {post : Value → Im → Lh → Prop} {K : Value → Im → Lh → Prop} (i : Nat) {c : List (Nat × Obj)} (hc : L[i]? = some c) (hF : ev ρ F = some (.func (.func f) #[] #[])) (hv : evL ρ args.toList = some vs)
    (h:a9U P f vs.toArray I [c] post) (k:∀ v J c' (w:World),Le I J→post v J [c']→(∀ p∈c',w.heap.size≤p.1∨p.1∈c.map Prod.fst)→C.w0.heap.size≤w.heap.size→K v J (L.set i c')) (hshape:∀ v J L',post v J L'→∃ c',L' = [c']) :
    OpS P C N ⟨d,.call ⟨.value F,args,tys⟩,ty,ps,af,g⟩ ρ I L K:=fun a w ha hs=>by
  have hm:=hs.mem
  have hsplit:=fun c'=>Y6 L i c hc c'
  have hmc:Mem I [c] w:=⟨hm.im,fun p hp=>hm.loc p (D2 hc (by simpa using hp)),fun p hp=>hm.sep p (D2 hc (by simpa using hp)),by simpa using a0M hm.nodup hc⟩
  rw [a1p h.ok rfl (ha.ev hF) (ha.evL hv)]
  refine(h.run w hmc).mono ?_
  rintro e w' ⟨v,J,L',rfl,hch,hle,hn,hm',hown,hp⟩
  obtain⟨c',rfl⟩:=hshape v J L' hp
  have hlt:∀ p∈L.flatten,p.1 < w.heap.size:=fun p hp=>y7 (hm.loc p hp)
  have hnd:=hm.nodup
  rw [(hsplit c').1] at hnd
  -- the blocks of the other chunks
  have hoth:∀ p,p∈(L.take i).flatten∨p∈(L.drop (i+1)).flatten→p∈L.flatten∧p.1∉c.map Prod.fst:=by
    intro p hp
    rw [(hsplit c').1]
    simp only [List.map_append,List.nodup_append] at hnd
    rcases hp with hp|hp
    · exact⟨by simp [hp],fun hx=>hnd.2.2 p.1 (List.mem_map_of_mem hp) p.1 (by simp only [List.mem_append];exact .inl hx) rfl⟩
    · exact⟨by simp [hp],fun hx=>hnd.2.1.2.2 p.1 hx p.1 (List.mem_map_of_mem hp) rfl⟩
  have hcas:∀ p∈(L.set i c').flatten,p∈c'∨(p∈(L.take i).flatten∨p∈(L.drop (i+1)).flatten):=by
    intro p hp
    rw [(hsplit c').2] at hp
    simp only [List.mem_append] at hp
    rcases hp with hp|hp|hp
    · exact .inr (.inl hp)
    · exact .inl hp
    · exact .inr (.inr hp)
  have hcM:∀ k∈([c]:Lh).flatten.map Prod.fst,k < C.w0.heap.size→k∈C.M:=by
    intro k hk hlt0
    simp only [List.flatten_cons,List.flatten_nil,List.append_nil,List.mem_map] at hk
    obtain⟨p,hp,rfl⟩:=hk
    rcases hs.own p (D2 hc hp) with h1|h1
    · omega
    · exact h1
  have hchg:Chg C.M C.w0 w':=by
    refine⟨hch.os.trans hs.S5.os,hch.tape.trans hs.S5.tape,hch.output.trans hs.S5.output,Nat.le_trans hs.S5.size hch.size,fun k hk hkm => ?_⟩
    rw [hch.block k (Nat.lt_of_lt_of_le hk hs.S5.size) (fun hx=>hkm (hcM k hx hk))]
    exact hs.S5.block k hk hkm
  refine⟨v,rfl,J,L.set i c',⟨⟨hm'.im,fun p hp => ?_,fun p hp => ?_,?_⟩,hchg,fun p hp => ?_,hs.U6.trans hle,fun b h0 h1 => ?_⟩,k v J c' w hle hp (fun p hp=>by simpa using hown p (by simpa using hp)) hs.S5.size⟩
  · rcases hcas p hp with h1|h1
    · exact hm'.loc p (by simpa using h1)
    · obtain⟨h2,h3⟩:=hoth p h1
      exact(hch.block p.1 (hlt p h2) (by simpa using h3)).trans (hm.loc p h2)
  · rcases hcas p hp with h1|h1
    · exact hm'.sep p (by simpa using h1)
    · obtain⟨h2,h3⟩:=hoth p h1
      cases hj:J p.1 with
      | none=>rfl
      | some o=>exact absurd (hn p.1 (hm.sep p h2) (by simp [hj])) (by have:=hlt p h2;omega)
  · rw [(hsplit c').2]
    have hc'nd:=hm'.nodup
    have hblk:∀ p∈c',w.heap.size≤p.1∨p.1∈c.map Prod.fst:=fun p hp=>by
      have:=hown p (by simpa using hp)
      simpa using this
    simp only [List.map_append,List.nodup_append] at hnd ⊢
    refine⟨hnd.1,⟨by simpa using hc'nd,hnd.2.1.2.1,?_⟩,?_⟩
    · rintro x hx y hy rfl
      obtain⟨p,hp,rfl⟩:=List.mem_map.1 hx
      obtain⟨q,hq,hqe⟩:=List.mem_map.1 hy
      obtain⟨h2,h3⟩:=hoth q (.inr hq)
      rcases hblk p hp with h4|h4
      · have:=hlt q h2;omega
      · exact h3 (hqe▸h4)
    · rintro x hx y hy rfl
      obtain⟨q,hq,rfl⟩:=List.mem_map.1 hx
      obtain⟨h2,h3⟩:=hoth q (.inl hq)
      simp only [List.mem_append] at hy
      rcases hy with hy|hy
      · obtain⟨p,hp,hpe⟩:=List.mem_map.1 hy
        rcases hblk p hp with h4|h4
        · have:=hlt q h2;omega
        · exact h3 (hpe▸h4)
      · exact hnd.2.2 q.1 hx q.1 (by simp only [List.mem_append];exact .inr hy) rfl
  · rcases hcas p hp with h1|h1
    · rcases hown p (by simpa using h1) with h2|h2
      · exact .inl (Nat.le_trans hs.S5.size h2)
      · obtain⟨q,hq,hqe⟩:=List.mem_map.1 h2
        rw [←hqe]
        exact hs.own q (D2 hc (by simpa using hq))
    · exact hs.own p (hoth p h1).1
  · cases hi:I b with
    | none=>exact Nat.le_trans hs.S5.size (hn b hi h1)
    | some o=>exact hs.new b h0 (by simp [hi])
theorem A0.a1m {post : AV → List D6 → Prop} {K : AV → j7 → Prop} {b : Bool} {B : D6} {F : Bool × D6 → j7} (h : E4 G P f ags [B] post) (hH : u4 H (b, B) F) (hv : a19 C σ H args.toList ags)
    (hshape:∀ r Hs,post r Hs→∃ B',Hs = [B']) (k:∀ r B',post r [B']→K r (F (b,B'))):A0 P C N ⟨d,.call ⟨.value (.func f),args,tys⟩,ty,ps,af,g⟩ σ H K:=fun ρ I L hs=>by
  obtain⟨vs,h1,h2⟩:=hv.get hs
  obtain⟨i,X,h3,h4,h5⟩:=hH.get hs.heap
  refine OpS.b7H (post:=fun v J L'=>∃ r Hs',E1 J r v∧a2K J Hs' L'∧post r Hs') i h3 rfl h1 (h I [X] vs (G.mono hs.U6 hG) h2 ⟨X,[],rfl,h4.1,rfl⟩) ?_ ?_
  · intro v J c' w hle ⟨r,Hs',q1,q2,q3⟩ q4 hsz
    obtain⟨B',rfl⟩:=hshape r Hs' q3
    obtain⟨X',R,e,q5,q6⟩:=q2
    simp [a2K] at q6
    subst q6
    cases e
    refine⟨hle,r,_,q1,h5 J (b,B') c' hle ⟨q5,fun hb p hp => ?_⟩,k r B' q3⟩
    rcases q4 p hp with h6|h6
    · exact Nat.le_trans hsz h6
    · obtain⟨q,hq,hqe⟩:=List.mem_map.1 h6
      rw [←hqe];exact h4.2 hb q hq
  · intro v J L' ⟨r,Hs',q1,q2,q3⟩
    obtain⟨B',rfl⟩:=hshape r Hs' q3
    obtain⟨X',R,e,q5,q6⟩:=q2
    exact⟨X',by rw [e,q6]⟩
theorem A0.a6a {post : AV → List D6 → Prop} {K : AV → j7 → Prop} (h : E4 G P f ags [] post) (hv : a19 C σ H args.toList ags) (k : ∀ r Hs, post r Hs → K r (Hs.map (fun B => (true, B)) ++ H)) :
    A0 P C N ⟨d,.call ⟨.value (.func f),args,tys⟩,ty,ps,af,g⟩ σ H K:=fun ρ I L hs=>by
  obtain⟨vs,h1,h2⟩:=hv.get hs
  have hM:=h I [] vs (G.mono hs.U6 hG) h2 rfl
  intro a w ha hst
  have hm:=hst.mem
  rw [a1p hM.ok rfl (ha.ev (x := .func f) rfl) (ha.evL h1)]
  refine(hM.run w hm.drop).mono ?_
  rintro e w' ⟨v,J,L',rfl,hc,hle,hn,hm',hown,r,Hs',q1,q2,q3⟩
  have hlt:∀ p∈L.flatten,p.1 < w.heap.size:=fun p hp=>y7 (hm.loc p hp)
  have hnew:∀ p∈L'.flatten,w.heap.size≤p.1:=fun p hp=>by simpa using hown p hp
  have hmem:Mem J (L'++L) w':=by
    refine⟨hm'.im,fun p hp => ?_,fun p hp => ?_,?_⟩
    · simp only [List.flatten_append,List.mem_append] at hp
      rcases hp with hp|hp
      · exact hm'.loc p hp
      · exact(hc.block p.1 (hlt p hp) (by simp)).trans (hm.loc p hp)
    · simp only [List.flatten_append,List.mem_append] at hp
      rcases hp with hp|hp
      · exact hm'.sep p hp
      · cases hj:J p.1 with
        | none=>rfl
        | some o=>exact absurd (hn p.1 (hm.sep p hp) (by simp [hj])) (by have:=hlt p hp;omega)
    · simp only [List.flatten_append,List.map_append]
      refine List.nodup_append.2 ⟨hm'.nodup,hm.nodup,?_⟩
      rintro x hx y hy rfl
      obtain⟨p,hp,rfl⟩:=List.mem_map.1 hx
      obtain⟨q,hq,hqe⟩:=List.mem_map.1 hy
      have:=hnew p hp
      have:=hlt q hq
      omega
  refine⟨v,a8,J,L'++L,hst.step (by simpa using hc) hle hn hmem hnew,hle,r,_,q1,?_,k r Hs' q3⟩
  exact(q2.toT (fun p hp=>Nat.le_trans hst.S5.size (hnew p hp))).append (hs.heap.mono hle)
end calls
end Go.Ab
namespace Go.Ab
open Go.Fl Go.RowKit
open o7 (rep)
def o9 (acc:List (Nat×AV)) (j:Nat):Option AV :=
 match acc with
 | []=>none
 | (i,S)::r=>bif Nat.beq i j then some S else o9 r j
def E3 (σ0:x7) (acc:List (Nat×AV)) (s:List (Nat×Nat)):List Nat→x7
 | [] => []
 | t::ts =>
  match (match J8 s t with|none=>E9 σ0 t|some j=>o9 acc j) with
  | some a=>(t,a)::E3 σ0 acc s ts
  | none=>E3 σ0 acc s ts
def a5g (P:Program) (N:Nat) (C:Ctx) (σ0:x7) (H:j7) (acc:List (Nat×AV)) (o:Oper) (s:List (Nat×Nat)) (r:AV):Prop :=
 match o.guard with
 | none=>j6 P N C o (E3 σ0 acc s (C6 o)) H (fun r'=>r'=r)
 | some (g,want)=>∃ b c,o9 acc g=some (.v b)∧r = .opt (b == want) c∧(b=want→j6 P N C o (E3 σ0 acc s (C6 o)) H (fun r'=>r'=c))
def b3r (P:Program) (N:Nat) (C:Ctx) (σ0:x7) (H:j7) (F:List (Nat×AV)→Prop):List Oper→List (List (Nat×Nat))→Nat→List (Nat×AV)→Prop
 | [],_,_,acc=>F acc
 | o::os,s::ss,k,acc=>∃ r,a5g P N C σ0 H acc o s r∧b3r P N C σ0 H F os ss (k+1) ((k,r)::acc)
 | _,[],_,_=>False
def a2a (acc:List (Nat×AV)):List Oper→Nat→x7→x7
 | o::os,k,σ =>
  match o.dst,o9 acc k with
  | some d,some r=>a2a acc os (k+1) ((d,r)::σ)
  | _,_=>a2a acc os (k+1) σ
 | [],_,σ=>σ
def a5A (r:AV):Fl.Spec := .val (fun v J=>E1 J r v) (fun v I J h hle=>h.mono hle)
def a7f (acc:List (Nat×AV)):List (Nat×Fl.Spec):=acc.map fun p=>(p.1,a5A p.2)
theorem a2M:∀ (acc:List (Nat×AV)) (j:Nat),R7 (a7f acc) j=(o9 acc j).map a5A
 | [],j=>rfl
 | (i,r)::acc,j=>by
  simp only [a7f,List.map_cons,R7,o9]
  cases Nat.beq i j with
  | true=>rfl
  | false=>simpa [a7f] using a2M acc j
theorem b0h {C : Ctx} {σ0 : x7} {H : j7} {acc : List (Nat × AV)} {s : List (Nat × Nat)} {ρ0 ρ : Env} {I J : Im} {L : Lh} (hs : Z2 C I L σ0 H ρ0) (hle : Le I J) (G : Prop) : ∀ (ts : List Nat),
    ((∀ t a,E9 (E3 σ0 acc s ts) t=some a→∃ u,Fl.look ρ t=some u∧E1 J a u)→G)→a0x (R7 (a7f acc)) s ρ0 ρ J ts G
  | [],h=>h (fun t a ht=>by simp [E3,E9] at ht)
  | t::ts,h=>by
    simp only [a0x]
    cases hsrc:J8 s t with
    | none =>
      intro hlk
      refine b0h hs hle G ts fun h2=>h fun t' a ht => ?_
      simp only [E3,hsrc] at ht
      cases h0:E9 σ0 t with
      | none=>simp only [h0] at ht;exact h2 t' a ht
      | some b =>
        simp only [h0] at ht
        rw [I9] at ht
        by_cases e:t=t'
        · subst e;simp at ht;subst ht
          obtain⟨u,h3,h4⟩:=hs.env t _ h0
          exact⟨u,hlk.trans h3,h4.mono hle⟩
        · rw [if_neg e] at ht;exact h2 t' a ht
    | some j =>
      simp only [a2M]
      cases hj:o9 acc j with
      | none=>simp
      | some r =>
        simp only [Option.map_some,a5A]
        intro v hv hr
        refine b0h hs hle G ts fun h2=>h fun t' a ht => ?_
        simp only [E3,hsrc,hj] at ht
        rw [I9] at ht
        by_cases e:t=t'
        · subst e;simp at ht;subst ht;exact⟨v,hv,hr⟩
        · rw [if_neg e] at ht;exact h2 t' a ht
theorem b9Y {P : Program} {N : Nat} {C : Ctx} {ops : Array Oper} {σ0 : x7} {H : j7} {acc : List (Nat × AV)} {ρ0 : Env} {I : Im} {L : Lh} {o : Oper} {s : List (Nat × Nat)} {r : AV} (hs : Z2 C I L σ0 H ρ0)
    (h:a5g P N C σ0 H acc o s r):a5Y P N ops (R7 (a7f acc)) ρ0 I L o s (a5A r):=by
  intro J hle ρ
  refine b0h hs hle _ _ fun henv => ?_
  have hR:Z2 C J L (E3 σ0 acc s (C6 o)) H ρ:=⟨henv,hs.heap.mono hle,hs.U6.trans hle⟩
  unfold a5g at h
  cases hg:o.guard with
  | none =>
    simp only [hg] at h
    exact OpX.a3P (h ρ J L hR) fun v J' X _ ⟨h1,r',h2,h3⟩=>⟨h1,h3▸h2⟩
  | some p =>
    obtain⟨g,want⟩:=p
    simp only [hg] at h
    obtain⟨b,c,h1,rfl,h2⟩:=h
    intro v hv
    rw [a2M,h1] at hv
    simp only [Option.map_some,a5A,Fl.Spec.holds] at hv
    obtain⟨cs,rfl,rfl⟩:=hv
    refine⟨fun e => ?_,fun hne=>⟨?_,fun o e=>by cases e⟩⟩
    · have e':b=want:=by simpa [asV,o7.agg] using e
      exact OpX.a3P (h2 e' ρ J L hR) fun v J' X _ ⟨h3,r',h4,h5⟩=>⟨h3,fun _=>h5▸h4⟩
    · have hb:b≠want:=hne b rfl
      exact fun hc=>absurd (by simpa using hc) hb
theorem b4W {C : Ctx} {H : j7} {acc : List (Nat × AV)} {J : Im} {G : Env → Lh → Prop} : ∀ (os : List Oper) (k : Nat) (σ : x7) (ρ : Env) (L : Lh), Z2 C J L σ H ρ →
    (∀ i o,os[i]?=some o→∃ d r,o.dst=some d∧o9 acc (k+i)=some r)→(∀ ρ',Z2 C J L (a2a acc os k σ) H ρ'→G ρ' L)→a7B J (R7 (a7f acc)) G os k ρ L
  | [],k,σ,ρ,L,hs,_,h=>h ρ hs
  | o::os,k,σ,ρ,L,hs,hd,h=>by
    obtain⟨d,r,h1,h2⟩:=hd 0 o rfl
    simp only [a7B,h1,a2M]
    simp only [Nat.add_zero] at h2
    rw [h2]
    simp only [Option.map_some,a5A]
    intro v hv
    refine b4W os (k+1) ((d,r)::σ) _ L (hs.put (Le.refl J) hv hs.heap) (fun i o' ho => ?_) (fun ρ' h'=>h ρ' ?_)
    · obtain⟨d',r',h3,h4⟩:=hd (i+1) o' (by simpa using ho)
      exact⟨d',r',h3,by rw [show k+1+i=k+(i+1) by omega];exact h4⟩
    · simpa only [a2a,h1,h2] using h'
theorem b1v {P : Program} {N : Nat} {C : Ctx} {ops : Array Oper} {σ0 : x7} {H : j7} {ρ0 : Env} {I : Im} {L : Lh} {F : List (Nat × AV) → Prop} {F' : List (Nat × Fl.Spec) → Prop} (hs : Z2 C I L σ0 H ρ0) :
    ∀ (os:List Oper) (ss:List (List (Nat×Nat))) (k:Nat) (acc:List (Nat×AV)),(∀ i,i < k→(o9 acc i).isSome)→b3r P N C σ0 H F os ss k acc →
      (∀ acc',(∀ i,i < k+os.length→(o9 acc' i).isSome)→F acc'→F' (a7f acc'))→chain P N ops ρ0 I L F' os ss k (a7f acc)
  | [],ss,k,acc,hk,h,hF=>by
    have hc:F acc:=by cases ss<;>exact h
    cases ss<;>exact hF acc (by simpa using hk) hc
  | o::os,[],k,acc,_,h,_=>h.elim
  | o::os,s::ss,k,acc,hk,h,hF=>by
    obtain⟨r,h1,h2⟩:=h
    refine⟨a5A r,b9Y hs h1,b1v hs os ss (k+1) ((k,r)::acc) (fun i hi => ?_) h2 (fun acc' h3=>hF acc' (fun i hi=>h3 i (by simp only [List.length_cons] at hi;omega)))⟩
    simp only [o9]
    by_cases e:k=i
    · subst e;simp
    · rw [a5q e];exact hk i (by omega)
theorem b6a {ops:Array Oper} {n:Nat} {ss:List (List (Nat×Nat))} (h:b1a ops n ss=true) {i:Nat} (hi:i < n):∃ o d,ops[i]?=some o∧o.dst=some d:=by
 simp only [b1a,Bool.and_eq_true] at h
 have h1:=h.1.1.1.2
 have h2:=List.all_eq_true.1 h1 i (List.mem_range.2 hi)
 unfold a7C at h2
 split at h2
 ·rename_i o s ho hss
  simp only [Bool.and_eq_true] at h2
  obtain⟨d,hd⟩:=Option.isSome_iff_exists.1 h2.1.1
  exact⟨o,d,ho,hd⟩
 ·cases h2
section
variable {P:Program} {C:Ctx} {N:Nat} {Q:Exit→x7→j7→Prop} {σ:x7} {H:j7}
theorem J0.draw {id : Nat} {l : List Oper} (hm : P.follows .mixedOrders = true) (n : Nat) (ss : List (List (Nat × Nat)))
    (hN:K2 N l=true) (hB:b1a l.toArray n ss=true) (hss:Nat.ble n ss.length=true)
    (hch:b3r P N C σ H (fun acc=>D0 P C N l.toArray Q (l.drop n) (a2a acc (l.take n) 0 σ) H) (l.take n) ss 0 []) :
    J0 P C N (.region id l.toArray true) Q σ H:=fun ρ I L hs=>by
  refine .draw hm n ss hN hB hss ?_
  refine b1v (acc := []) (F:=_) hs _ _ 0 (fun i hi=>by omega) hch fun acc hacc hF J hle => ?_
  refine b4W (l.take n) 0 σ ρ L (hs.mono hle) (fun i o ho => ?_) (fun ρ' h'=>hF ρ' J L h')
  have hi:i < n:=by
    have:=(List.getElem?_eq_some_iff.1 ho).1
    simp at this;omega
  obtain⟨o',d,h1,h2⟩:=b6a hB hi
  have:o'=o:=by
    rw [List.getElem?_take,if_pos hi] at ho
    have h1':l[i]?=some o':=by simpa using h1
    rw [h1'] at ho;exact Option.some.inj ho
  subst this
  have hlen:i < (l.take n).length:=(List.getElem?_eq_some_iff.1 ho).1
  obtain⟨r,hr⟩:=Option.isSome_iff_exists.1 (hacc i (by omega))
  exact⟨d,r,h2,by simpa using hr⟩
end
class H4 (α:Type) [o7 α] [Inhabited α] where
 zs:List Value
 zero:∀ I,rep I (default:α) zs
instance:H4 Int:=⟨[i64 0],fun _=>⟨rfl,by decide,by decide⟩⟩
instance:H4 UInt8:=⟨[Fl.u8 0],fun _=>rfl⟩
instance:H4 UInt64:=⟨[Fl.u64 0],fun _=>rfl⟩
instance:H4 Bool:=⟨[.bool false],fun _=>rfl⟩
instance:H4 Y4:=⟨[.string ⟨#[]⟩],fun _=>⟨⟨_,rfl,rfl⟩,by decide⟩⟩
instance:H4 Unit:=⟨[],fun _=>rfl⟩
instance {α:Type} [o7 α]:H4 (List α):=⟨[.slice none 0 0],fun I=>⟨_,rfl,[],Sl.nil I _,rfl⟩⟩
theorem a02 {α:Type} [o7 α] {I:Im} {x:α} {c:List Value} (h:rep I x c):∀ n,K0 I (List.replicate n x) (List.replicate n c).flatten
 | 0=>rfl
 | n+1=>by simp only [List.replicate_succ,List.flatten_cons];exact⟨c,_,rfl,h,a02 h n⟩
instance {n:Nat} {α:Type} [o7 α] [Inhabited α] [H4 α]:H4 (I8 n α):=⟨(List.replicate n (H4.zs α)).flatten,fun I=>a02 (H4.zero I) n⟩
instance {α β:Type} [o7 α] [o7 β] [Inhabited α] [Inhabited β] [H4 α] [H4 β]:H4 (α×β):=⟨H4.zs α++H4.zs β,fun I=>⟨_,_,rfl,H4.zero I,H4.zero I⟩⟩
@[reducible] def H4.via {S T:Type} [o7 T] [Inhabited S] [Inhabited T] [H4 T] (f:S→T) (h:f default=default) : @H4 S (o7.via f) _ :=
 letI:o7 S:=o7.via f
 ⟨H4.zs T,fun I=>by show rep I (f default) _;rw [h];exact H4.zero I⟩
structure G2 (P:Program) (T:TypeId) (α:Type) [o7 α] [Inhabited α]:Prop where
 size:D5 P T (o7.size α)
 kind:∃ dd,P.underlying T=some dd∧a0Y dd=o7.agg α
 zero:∃ zs,U7 P T=some zs∧∀ I,rep I (default:α) zs
 pos:o7.size α≠0
theorem G2.of {P:Program} {T:TypeId} {α:Type} [o7 α] [Inhabited α] [H4 α] (h1:(P.info? T).map (·.size)=some (o7.size α)) (h2:(P.underlying T).map a0Y=some (o7.agg α)) (h3:U7 P T=some (H4.zs α)) (h4:o7.size α≠0):G2 P T α :=
 ⟨.of h1,by
  cases h:P.underlying T with
  | none=>simp [h] at h2
  | some dd=>exact⟨dd,rfl,by simpa [h] using h2⟩,⟨_,h3,H4.zero⟩,h4⟩
def a5h (P:Program) (rv:ResultVar) (C:Ctx) (σ:x7) (H:j7) (a:AV):Prop:=∀ ρ I L,Z2 C I L σ H ρ→∃ v,a6E P rv ρ I L v∧E1 I a v
section
variable {P:Program} {C:Ctx} {σ:x7} {H:j7}
theorem a5h.tmp {t:Nat} {a:AV} (h:E9 σ t=some a):a5h P (.tmp t) C σ H a:=fun ρ I L hs=>by
 obtain⟨u,h1,h2⟩:=hs.env t a h
 exact⟨u,.tmp h1,h2⟩
theorem a7R {α:Type} [o7 α] {I:Im} {x:α} {cs:List Value} (h:rep I x cs) (hg:o7.agg α=false):∃ v,cs = [v]∧asV (o7.agg α) cs=v:=by
 have h1:=o7.len h
 rw [o7.one hg] at h1
 obtain⟨v,rfl⟩:=List.length_eq_one_iff.1 h1
 exact⟨v,rfl,by rw [hg];rfl⟩
theorem a5h.cell {t b : Nat} {T : TypeId} {α : Type} {r : o7 α} {i : Inhabited α} {x : α} {g : Bool} {F : Bool × D6 → j7} (ty : G2 P T α) (h : E9 σ t = some (.ln (ptr b 0) (j9.id (α := α)))) (hH : u4 H (g, .ob (ptr b 0) x) F) :
    a5h P (.cell t T) C σ H (.v x):=fun ρ I L hs=>by
  obtain⟨u,h1,b',hb,rfl⟩:=hs.env t _ h
  cases hb
  obtain⟨i,X,h2,h3,_⟩:=hH.get hs.heap
  obtain⟨b2,T2,cs,hb2,rfl,h5⟩:=h3.1
  cases hb2
  obtain⟨dd,hd1,hd2⟩:=ty.kind
  refine⟨asV (o7.agg α) cs,?_,cs,h5,a8⟩
  cases hag:o7.agg α with
  | true=>exact .a4o i hd1 (hd2.trans hag) (by rw [o7.len h5];exact ty.size) (by simpa [j9.id] using h1) h2
  | false =>
    obtain⟨v,rfl,hv⟩:=a7R h5 hag
    exact .c22 i hd1 (hd2.trans hag) (by simpa [j9.id] using h1) h2
variable {fn:Func} {q q2 q3:ResultVar} {a b c:AV}
theorem b0f.r0 (h:fn.results = #[]):b0f P fn C σ H (.raw (.tuple #[])):=fun ρ I L hs=>⟨_,.r0 h,rfl⟩
theorem b0f.r1 (h:fn.results = #[q]) (h1:a5h P q C σ H a):b0f P fn C σ H a:=fun ρ I L hs=>by
 obtain⟨v,k1,k2⟩:=h1 ρ I L hs
 exact⟨v,.r1 h k1,k2⟩
theorem b0f.r2 (h:fn.results = #[q,q2]) (h1:a5h P q C σ H a) (h2:a5h P q2 C σ H b):b0f P fn C σ H (.t2 a b):=fun ρ I L hs=>by
 obtain⟨v,k1,k2⟩:=h1 ρ I L hs
 obtain⟨v2,l1,l2⟩:=h2 ρ I L hs
 exact⟨_,.r2 h k1 l1,v,v2,a8,k2,l2⟩
theorem b0f.r3 (h:fn.results = #[q,q2,q3]) (h1:a5h P q C σ H a) (h2:a5h P q2 C σ H b) (h3:a5h P q3 C σ H c):b0f P fn C σ H (.t3 a b c):=fun ρ I L hs=>by
 obtain⟨v,k1,k2⟩:=h1 ρ I L hs
 obtain⟨v2,l1,l2⟩:=h2 ρ I L hs
 obtain⟨v3,m1,m2⟩:=h3 ρ I L hs
 exact⟨_,.r3 h k1 l1 m1,v,v2,v3,a8,k2,l2,m2⟩
end
end Go.Ab
namespace Go.Ab
open Go.Fl Go.RowKit
open o7 (rep)
variable {P:Program} {C:Ctx} {N:Nat} {σ:x7} {H:j7} {K:AV→Prop} {d:Option Nat} {ty:TypeId} {ps:String} {af:Array Edge} {g:Option (Nat×Bool)}
variable {x y z:Operand} {T T2 E S D:TypeId}
theorem j6.vk {o:Oper} {r:AV} (k:K r) (h:∀ ρ I L,Z2 C I L σ H ρ→H7 P N o ρ I L (fun v=>E1 I r v)):j6 P N C o σ H K := .C0 r h k
theorem j6.move {a:AV} (hx:E6 C σ H x a) (k:K a):j6 P N C ⟨d,.move x,ty,ps,af,g⟩ σ H K :=
 .C0 a (fun ρ I L hs=>by obtain⟨u,h1,h2⟩:=hx ρ I L hs;exact .move h1 h2) k
theorem j6.assign {a:AV} (hx:E6 C σ H x a) (k:K a):j6 P N C ⟨d,.assign x,ty,ps,af,g⟩ σ H K :=
 .C0 a (fun ρ I L hs=>by obtain⟨u,h1,h2⟩:=hx ρ I L hs;exact .assign h1 h2) k
theorem j6.T5 {b v:Bool} (hc:E6 C σ H x (.v b)) (hy:b=true→E6 C σ H y (.v v)) (k:K (.v (b&&v))):j6 P N C ⟨d,.pick x y (.const (.bool false)),ty,ps,af,g⟩ σ H K :=
 .C0 (.v (b&&v)) (fun ρ I L hs=>by
  cases b with
  | true=>obtain⟨w,h1,h2⟩:=hy rfl ρ I L hs;exact .c07 (hc.bool hs) h1 (by simpa using h2)
  | false=>exact .c08 (v := .bool false) (hc.bool hs) rfl ⟨_,rfl,rfl⟩) k
theorem j6.a3Q {b v:Bool} (hc:E6 C σ H x (.v b)) (hz:b=false→E6 C σ H z (.v v)) (k:K (.v (b||v))):j6 P N C ⟨d,.pick x (.const (.bool true)) z,ty,ps,af,g⟩ σ H K :=
 .C0 (.v (b||v)) (fun ρ I L hs=>by
  cases b with
  | true=>exact .c07 (v := .bool true) (hc.bool hs) rfl ⟨_,rfl,rfl⟩
  | false=>obtain⟨w,h1,h2⟩:=hz rfl ρ I L hs;exact .c08 (hc.bool hs) h1 (by simpa using h2)) k
theorem j6.a03 {a b:AV} (hx:E6 C σ H x (.t2 a b)) (k:K a):j6 P N C ⟨d,.extract x 0,ty,ps,af,g⟩ σ H K :=
 .C0 a (fun ρ I L hs=>by obtain⟨u,h1,v,w,rfl,h3,h4⟩:=hx ρ I L hs;exact .extract h1 rfl h3) k
theorem j6.a04 {a b:AV} (hx:E6 C σ H x (.t2 a b)) (k:K b):j6 P N C ⟨d,.extract x 1,ty,ps,af,g⟩ σ H K :=
 .C0 b (fun ρ I L hs=>by obtain⟨u,h1,v,w,rfl,h3,h4⟩:=hx ρ I L hs;exact .extract h1 rfl h4) k
theorem j6.O3 {a b c:AV} (hx:E6 C σ H x (.t3 a b c)) (k:K a):j6 P N C ⟨d,.extract x 0,ty,ps,af,g⟩ σ H K :=
 .C0 a (fun ρ I L hs=>by obtain⟨u,h1,v,w,t,rfl,h3,h4,h5⟩:=hx ρ I L hs;exact .extract h1 rfl h3) k
theorem j6.O4 {a b c:AV} (hx:E6 C σ H x (.t3 a b c)) (k:K b):j6 P N C ⟨d,.extract x 1,ty,ps,af,g⟩ σ H K :=
 .C0 b (fun ρ I L hs=>by obtain⟨u,h1,v,w,t,rfl,h3,h4,h5⟩:=hx ρ I L hs;exact .extract h1 rfl h4) k
theorem j6.O5 {a b c:AV} (hx:E6 C σ H x (.t3 a b c)) (k:K c):j6 P N C ⟨d,.extract x 2,ty,ps,af,g⟩ σ H K :=
 .C0 c (fun ρ I L hs=>by obtain⟨u,h1,v,w,t,rfl,h3,h4,h5⟩:=hx ρ I L hs;exact .extract h1 rfl h5) k
section int
variable {m n:Int} (hx:E6 C σ H x (.v m)) (hy:E6 C σ H y (.v n))
include hx hy
theorem j6.add (h1 : -9223372036854775808≤m+n) (h2:m+n≤9223372036854775807) (k:K (.v (m+n))):j6 P N C ⟨d,.binOp .add T x y T2,ty,ps,af,g⟩ σ H K :=
 .vk k (fun ρ I L hs => .add (hx.int hs).1 (hy.int hs).1 h1 h2 ⟨_,⟨rfl,h1,h2⟩,rfl⟩)
theorem j6.sub (h1 : -9223372036854775808≤m - n) (h2:m - n≤9223372036854775807) (k:K (.v (m - n))):j6 P N C ⟨d,.binOp .sub T x y T2,ty,ps,af,g⟩ σ H K :=
 .vk k (fun ρ I L hs => .sub (hx.int hs).1 (hy.int hs).1 h1 h2 ⟨_,⟨rfl,h1,h2⟩,rfl⟩)
theorem j6.mul (h1 : -9223372036854775808≤m*n) (h2:m*n≤9223372036854775807) (k:K (.v (m*n))):j6 P N C ⟨d,.binOp .mul T x y T2,ty,ps,af,g⟩ σ H K :=
 .vk k (fun ρ I L hs => .mul (hx.int hs).1 (hy.int hs).1 h1 h2 ⟨_,⟨rfl,h1,h2⟩,rfl⟩)
theorem j6.quo (h0:0≤m) (h2:0 < n) (k:K (.v (m/n))):j6 P N C ⟨d,.binOp .quo T x y T2,ty,ps,af,g⟩ σ H K :=
 .vk k (fun ρ I L hs => .quo (hx.int hs).1 (hy.int hs).1 h0 (hx.int hs).2.2 h2 ⟨_,⟨rfl,by have:=Int.ediv_nonneg h0 (Int.le_of_lt h2);omega,by have:=Int.ediv_le_self n h0;have:=(hx.int hs).2.2;omega⟩,rfl⟩)
theorem j6.rem (h0:0≤m) (h2:0 < n) (k:K (.v (m % n))):j6 P N C ⟨d,.binOp .rem T x y T2,ty,ps,af,g⟩ σ H K :=
 .vk k (fun ρ I L hs => .rem (hx.int hs).1 (hy.int hs).1 h0 h2 ⟨_,⟨rfl,by have:=Int.emod_nonneg m (show n≠0 by omega);omega,by have:=Int.emod_lt_of_pos m h2;have:=(hy.int hs).2.2;omega⟩,rfl⟩)
theorem j6.tmod (hn:n≠0) (k:K (.v (m.tmod n))):j6 P N C ⟨d,.binOp .rem T x y T2,ty,ps,af,g⟩ σ H K :=
  .vk k (fun ρ I L hs => .tmod (hx.int hs).1 (hy.int hs).1 hn ⟨_, ⟨rfl, by
      have h1:=(hx.int hs).2
      have h3:(m.tmod n).natAbs≤m.natAbs:=by rw [Int.natAbs_tmod];exact Nat.mod_le _ _
      by_cases hm:0≤m
      · have:=Int.tmod_nonneg n hm;omega
      · omega,by
      have h1:=(hx.int hs).2
      have h3:(m.tmod n).natAbs≤m.natAbs:=by rw [Int.natAbs_tmod];exact Nat.mod_le _ _
      by_cases hm:0≤m
      · omega
      · have e:m.tmod n = -((-m).tmod n):=by rw [Int.neg_tmod];omega
        have:=Int.tmod_nonneg n (show 0 ≤ -m by omega)
        omega⟩,rfl⟩)
theorem j6.lss (k:K (.v (decide (m < n)))):j6 P N C ⟨d,.binOp .lss T x y T2,ty,ps,af,g⟩ σ H K :=
 .vk k (fun ρ I L hs => .lss (hx.int hs).1 (hy.int hs).1 ⟨_,rfl,rfl⟩)
theorem j6.leq (k:K (.v (decide (m≤n)))):j6 P N C ⟨d,.binOp .leq T x y T2,ty,ps,af,g⟩ σ H K :=
 .vk k (fun ρ I L hs => .leq (hx.int hs).1 (hy.int hs).1 ⟨_,rfl,rfl⟩)
theorem j6.gtr (k:K (.v (decide (n < m)))):j6 P N C ⟨d,.binOp .gtr T x y T2,ty,ps,af,g⟩ σ H K :=
 .vk k (fun ρ I L hs => .gtr (hx.int hs).1 (hy.int hs).1 ⟨_,rfl,rfl⟩)
theorem j6.geq (k:K (.v (decide (n≤m)))):j6 P N C ⟨d,.binOp .geq T x y T2,ty,ps,af,g⟩ σ H K :=
 .vk k (fun ρ I L hs => .geq (hx.int hs).1 (hy.int hs).1 ⟨_,rfl,rfl⟩)
theorem j6.b2Q (k:K (.v (decide (m=n)))):j6 P N C ⟨d,.binOp .eql T x y T2,ty,ps,af,g⟩ σ H K :=
 .vk k (fun ρ I L hs => .b2Q (hx.int hs).1 (hy.int hs).1 ⟨_,rfl,rfl⟩)
theorem j6.a7D (k:K (.v (decide (m≠n)))):j6 P N C ⟨d,.binOp .neq T x y T2,ty,ps,af,g⟩ σ H K :=
 .vk k (fun ρ I L hs => .a7D (hx.int hs).1 (hy.int hs).1 ⟨_,rfl,rfl⟩)
theorem j6.a9V {ts:Array TypeId} (k:K (.v (min m n))):j6 P N C ⟨d,.call ⟨.builtin .min,#[x,y],ts⟩,ty,ps,af,g⟩ σ H K :=
 .vk k (fun ρ I L hs => .a9V (hx.int hs).1 (hy.int hs).1 ⟨_,⟨rfl,by have:=(hx.int hs).2;have:=(hy.int hs).2;omega,by have:=(hx.int hs).2;omega⟩,rfl⟩)
theorem j6.b5T {ts:Array TypeId} (k:K (.v (max m n))):j6 P N C ⟨d,.call ⟨.builtin .max,#[x,y],ts⟩,ty,ps,af,g⟩ σ H K :=
 .vk k (fun ρ I L hs => .b5T (hx.int hs).1 (hy.int hs).1 ⟨_,⟨rfl,by have:=(hx.int hs).2;omega,by have:=(hx.int hs).2;have:=(hy.int hs).2;omega⟩,rfl⟩)
end int
theorem j6.neg {m:Int} (hx:E6 C σ H x (.v m)) (h1 : -9223372036854775807≤m) (k:K (.v (-m))):j6 P N C ⟨d,.unOp .neg T x,ty,ps,af,g⟩ σ H K :=
 .vk k (fun ρ I L hs => .neg (hx.int hs).1 ⟨h1,(hx.int hs).2.2⟩ ⟨_,⟨rfl,by have:=(hx.int hs).2;omega,by omega⟩,rfl⟩)
theorem j6.not {b:Bool} (hx:E6 C σ H x (.v b)) (k:K (.v (!b))):j6 P N C ⟨d,.unOp .not T x,ty,ps,af,g⟩ σ H K :=
 .vk k (fun ρ I L hs => .not (hx.bool hs) ⟨_,rfl,rfl⟩)
theorem b4X (m n:UInt8):decide ((m.toNat:Int) < n.toNat)=decide (m < n):=by simp [UInt8.lt_iff_toNat_lt]
theorem b4Y (m n:UInt8):decide ((m.toNat:Int)=n.toNat)=decide (m=n):=by rw [decide_eq_decide,Int.ofNat_inj,UInt8.toNat_inj]
theorem b1w (m n:UInt64):decide ((m.toNat:Int)=n.toNat)=decide (m=n):=by rw [decide_eq_decide,Int.ofNat_inj,UInt64.toNat_inj]
theorem b7I (m n:UInt64):decide ((m.toNat:Int) < n.toNat)=decide (m < n):=by simp [UInt64.lt_iff_toNat_lt]
section by8
variable {m n:UInt8} (hx:E6 C σ H x (.v m)) (hy:E6 C σ H y (.v n))
include hx hy
theorem j6.c4q (k:K (.v (decide (m < n)))):j6 P N C ⟨d,.binOp .lss T x y T2,ty,ps,af,g⟩ σ H K :=
 .vk k (fun ρ I L hs => .lss (hx.by8 hs) (hy.by8 hs) ⟨_,rfl,by rw [b4X];rfl⟩)
theorem j6.c4r (k:K (.v (decide (n < m)))):j6 P N C ⟨d,.binOp .gtr T x y T2,ty,ps,af,g⟩ σ H K :=
 .vk k (fun ρ I L hs => .gtr (hx.by8 hs) (hy.by8 hs) ⟨_,rfl,by rw [b4X];rfl⟩)
theorem j6.c4s (k:K (.v (decide (m=n)))):j6 P N C ⟨d,.binOp .eql T x y T2,ty,ps,af,g⟩ σ H K :=
 .vk k (fun ρ I L hs => .b2Q (hx.by8 hs) (hy.by8 hs) ⟨_,rfl,by rw [b4Y];rfl⟩)
theorem j6.c4t (k:K (.v (decide (m≠n)))):j6 P N C ⟨d,.binOp .neq T x y T2,ty,ps,af,g⟩ σ H K :=
 .vk k (fun ρ I L hs => .a7D (hx.by8 hs) (hy.by8 hs) ⟨_,rfl,by simp only [ne_eq,decide_not,b4Y];rfl⟩)
theorem j6.b5L (k:K (.v (m ^^^ n))):j6 P N C ⟨d,.binOp .xor T x y T2,ty,ps,af,g⟩ σ H K :=
 .vk k (fun ρ I L hs => .b5L (hx.by8 hs) (hy.by8 hs) ⟨_,rfl,rfl⟩)
theorem j6.or8 (k:K (.v (m ||| n))):j6 P N C ⟨d,.binOp .or T x y T2,ty,ps,af,g⟩ σ H K :=
 .vk k (fun ρ I L hs => .or8 (hx.by8 hs) (hy.by8 hs) ⟨_,rfl,rfl⟩)
end by8
section a1j
variable {m n:UInt64} (hx:E6 C σ H x (.v m)) (hy:E6 C σ H y (.v n))
include hx hy
theorem j6.c1j (k:K (.v (decide (m=n)))):j6 P N C ⟨d,.binOp .eql T x y T2,ty,ps,af,g⟩ σ H K :=
 .vk k (fun ρ I L hs => .b2Q (hx.a1j hs) (hy.a1j hs) ⟨_,rfl,by rw [b1w];rfl⟩)
theorem j6.b4Z (k:K (.v (decide (m≠n)))):j6 P N C ⟨d,.binOp .neq T x y T2,ty,ps,af,g⟩ σ H K :=
 .vk k (fun ρ I L hs => .a7D (hx.a1j hs) (hy.a1j hs) ⟨_,rfl,by simp only [ne_eq,decide_not,b1w];rfl⟩)
theorem j6.c1I (k:K (.v (m ||| n))):j6 P N C ⟨d,.binOp .or T x y T2,ty,ps,af,g⟩ σ H K :=
 .vk k (fun ρ I L hs => .c1I (hx.a1j hs) (hy.a1j hs) ⟨_,rfl,rfl⟩)
theorem j6.b4B (k:K (.v (m &&& n))):j6 P N C ⟨d,.binOp .and T x y T2,ty,ps,af,g⟩ σ H K :=
 .vk k (fun ρ I L hs => .b4B (hx.a1j hs) (hy.a1j hs) ⟨_,rfl,rfl⟩)
theorem j6.b7h (k:K (.v (m+n))):j6 P N C ⟨d,.binOp .add T x y T2,ty,ps,af,g⟩ σ H K :=
 .vk k (fun ρ I L hs => .b7h (hx.a1j hs) (hy.a1j hs) ⟨_,rfl,rfl⟩)
theorem j6.b1e (k:K (.v (m - n))):j6 P N C ⟨d,.binOp .sub T x y T2,ty,ps,af,g⟩ σ H K :=
 .vk k (fun ρ I L hs => .b1e (hx.a1j hs) (hy.a1j hs) ⟨_,rfl,rfl⟩)
end a1j
section conv
variable {ds:TypeDesc}
theorem j6.c11 {n:UInt8} (hS:P.underlying S=some ds) (hD:P.underlying D=some (.int .i64)) (hx:E6 C σ H x (.v n)) (k:K (.v (n.toNat:Int))):j6 P N C ⟨d,.convert S D x,ty,ps,af,g⟩ σ H K :=
 .vk k (fun ρ I L hs => .c2Z hS hD (hx.by8 hs) (by have:=n.toNat_lt;omega) (by have:=n.toNat_lt;omega) ⟨_,⟨rfl,by have:=n.toNat_lt;omega,by have:=n.toNat_lt;omega⟩,rfl⟩)
theorem j6.b7i {n:Int} (hS:P.underlying S=some ds) (hD:P.underlying D=some (.int .u8)) (hx:E6 C σ H x (.v n)) (k:K (.v (UInt8.ofInt n))):j6 P N C ⟨d,.convert S D x,ty,ps,af,g⟩ σ H K :=
 .vk k (fun ρ I L hs => .b7i hS hD (hx.int hs).1 ⟨_,rfl,rfl⟩)
theorem j6.a1r {n:Int} (hS:P.underlying S=some ds) (hD:P.underlying D=some (.int .u64)) (hx:E6 C σ H x (.v n)) (k:K (.v (UInt64.ofInt n))):j6 P N C ⟨d,.convert S D x,ty,ps,af,g⟩ σ H K :=
 .vk k (fun ρ I L hs => .a1r hS hD (hx.int hs).1 ⟨_,rfl,rfl⟩)
end conv
theorem j6.len {α:Type} {r:o7 α} {l:List α} (hT:P.underlying T=some (.slice E)) (hx:E6 C σ H x (.v l)) (k:K (.v (l.length:Int))):j6 P N C ⟨d,.call ⟨.builtin .len,#[x],#[T]⟩,ty,ps,af,g⟩ σ H K :=
 .vk k (fun ρ I L hs=>by
  obtain⟨u,h1,xs,⟨a,c,rfl,_,h3,h4,_⟩,_⟩:=hx.sl hs
  exact .len hT h1 ⟨_,⟨rfl,by omega,by unfold maxLen at h4;omega⟩,rfl⟩)
theorem j6.a4v {α : Type} {r : o7 α} {t : Nat} {w : Value} {l : List α} {b : Bool} {F : Bool × D6 → j7} (hT : P.underlying T = some (.slice E)) (hx : E9 σ t = some (.raw w)) {E' : TypeId} (hH : u4 H (b, .own E' w l) F) (k : K (.v (l.length : Int))) :
    j6 P N C ⟨d,.call ⟨.builtin .len,#[.tmp t],#[T]⟩,ty,ps,af,g⟩ σ H K :=
  .vk k (fun ρ I L hs=>by
    obtain⟨u,h1,rfl⟩:=hs.env t _ hx
    obtain⟨i,X,h2,h3,_⟩:=hH.get hs.heap
    obtain⟨xs,ho,_⟩:=h3.1
    have hle:=ho.le
    obtain⟨a,c,rfl⟩:=ho.shape
    exact .len hT h1 ⟨_,⟨rfl,by omega,by omega⟩,rfl⟩)
theorem j6.c1J {s:Y4} (hT:P.underlying T=some .string) (hx:E6 C σ H x (.v s)) (k:K (.v (s.l.length:Int))):j6 P N C ⟨d,.call ⟨.builtin .len,#[x],#[T]⟩,ty,ps,af,g⟩ σ H K :=
 .vk k (fun ρ I L hs=>by
  obtain⟨b,h1,h2⟩:=hx.str hs
  have hb:=hx.a9p hs
  have e:(b.size:Int)=(s.l.length:Int):=by rw [←h2];rfl
  exact .c1J hT h1 ⟨_,⟨congrArg (fun q => [i64 q]) e,by omega,by omega⟩,rfl⟩)
theorem a1t {xs:List Value} {k s i:Nat} {v:Value} (h:(H9 xs k s)[i]?=some v):xs[k+i]?=some v:=by
 simp only [H9,List.getElem?_take,List.getElem?_drop] at h
 split at h
 ·exact h
 ·cases h
theorem j6.idx {α : Type} {r : o7 α} {i : Inhabited α} {l : List α} {n : Int} (tE : G2 P E α) (hT : P.underlying T = some (.slice E)) (hx : E6 C σ H x (.v l)) (hy : E6 C σ H y (.v n)) (h0 : 0 ≤ n) (h1 : n < l.length)
    (k:K (.p (l[n.toNat]'(by omega)))):j6 P N C ⟨d,.indexAddr T x y,ty,ps,af,g⟩ σ H K :=
  .vk k (fun ρ I L hs=>by
    obtain⟨u,hu,xs,hsl,hl⟩:=hx.sl hs
    have hk:n.toNat < l.length:=by omega
    have hg:=hl.get n.toNat hk
    obtain⟨a,c,rfl,hlen,h3,h4,h5,h6⟩:=hsl
    have hz:xs ≠ []:=by
      intro hz
      have:=hl.len
      rw [hz] at this
      simp only [List.length_nil] at this
      rcases Nat.mul_eq_zero.1 this.symm with h|h
      · omega
      · exact tE.pos h
    obtain⟨b,o,rfl,hc⟩:=h6 hz
    exact .P7 hT tE.size hu (hy.int hs).1 h0 h1 ⟨b,_,_,a8,hg,hc.sub (n.toNat*o7.size α) (fun i v hv=>a1t hv)⟩)
theorem b1x (T:TypeId) (m:Int) (kd:IntKind) (n:Nat) (h:n < 64):binOp .shr T (i64 m) (.int kd (n:Int))=pure (i64 (m >>> n)):=by
 show Op.shift .shr .i64 m kd n=_
 unfold Op.shift
 rw [if_neg (by omega)]
 have e:min ((n:Int).toNat) (IntKind.bits .i64)=n:=by simp [IntKind.bits];omega
 show(pure (Value.int .i64 (Int.fdiv m (2^(min ((n:Int).toNat) (IntKind.bits .i64))))):Sem Value)=_
 rw [e,Int.shiftRight_eq_div_pow,Int.fdiv_eq_ediv_of_nonneg _ (Int.pow_nonneg (by omega))]
 rfl
theorem j6.c4u {m n:Int} (hx:E6 C σ H x (.v m)) (hy:E6 C σ H y (.v n)) (h0:0≤n) (h1:n < 64) (k:K (.v (m >>> n.toNat))):j6 P N C ⟨d,.binOp .shr T x y T2,ty,ps,af,g⟩ σ H K :=
 .vk k (fun ρ I L hs=>by
  obtain⟨j,rfl⟩:=Int.eq_ofNat_of_zero_le h0
  have hm:=(hx.int hs).2
  refine .mk ⟨_,⟨rfl,?_,?_⟩,rfl⟩ fun a w ha hm=>by
   simp [execOp,ha.ev (hx.int hs).1,ha.ev (hy.int hs).1,eqGuard,b1x T m _ j (by omega),asV,o7.agg]
  ·rw [Int.toNat_natCast,Int.shiftRight_eq_div_pow]
   rcases Int.le_total 0 m with h|h
   ·have:=Int.ediv_nonneg h (Int.natCast_nonneg (2^j));omega
   ·have h2:(1:Int)≤((2^j:Nat):Int):=Int.natCast_pos.2 (Nat.two_pow_pos j)
    have:=Int.le_ediv_of_mul_le (a:=m) (b:=m) (c:=((2^j:Nat):Int)) (by omega) (by have:=Int.mul_le_mul_of_nonpos_left h h2;omega)
    omega
  ·rw [Int.toNat_natCast,Int.shiftRight_eq_div_pow]
   rcases Int.le_total 0 m with h|h
   ·have:=Int.ediv_le_self ((2^j:Nat):Int) h;omega
   ·have h2:(0:Int) < ((2^j:Nat):Int):=Int.natCast_pos.2 (Nat.two_pow_pos j)
    have:=Int.ediv_lt_of_lt_mul (a:=m) (b:=1) h2 (by omega);omega)
end Go.Ab
namespace Go.Ab
open Go.Fl Go.RowKit
open o7 (rep)
variable {P:Program} {C:Ctx} {N:Nat} {σ:x7} {H:j7} {K:AV→Prop} {KH:AV→j7→Prop} {d:Option Nat} {ty:TypeId} {ps:String} {af:Array Edge} {g:Option (Nat×Bool)}
variable {x y z:Operand} {T T2 E S D:TypeId}
theorem j6.c5q {α β : Type} {r : o7 α} {s : o7 β} {n : Nat} {ag : Bool} {w : Value} {l : j9 α (I8 n β)} {i : Int} (hf : L5 P T = some (n, o7.size β, ag)) (hx : E6 C σ H x (.ln w l)) (hy : E6 C σ H y (.v i)) (h0 : 0 ≤ i) (h1 : i < n)
    (k:K (.ln w (l.comp (j9.idx i.toNat (by omega))))):j6 P N C ⟨d,.indexAddr T x y,ty,ps,af,g⟩ σ H K :=
  .vk k (fun ρ I L hs=>by
    obtain⟨u,h2,b,h3,rfl⟩:=hx ρ I L hs
    exact .x8 hf h2 (hy.int hs).1 h0 h1 ⟨b,h3,a8⟩)
theorem j6.b9Z {β : Type} {s : o7 β} {n : Nat} {ag : Bool} {a : I8 n β} {i : Int} (hf : L5 P T = some (n, o7.size β, ag)) (hx : E6 C σ H x (.p a)) (hy : E6 C σ H y (.v i)) (h0 : 0 ≤ i) (h1 : i < n)
    (k:K (.p (a.l[i.toNat]'(by rw [a.h];omega)))):j6 P N C ⟨d,.indexAddr T x y,ty,ps,af,g⟩ σ H K :=
  .vk k (fun ρ I L hs=>by
    obtain⟨u,h2,b,o,cs,rfl,h3,h4⟩:=hx ρ I L hs
    exact .x8 hf h2 (hy.int hs).1 h0 h1 ⟨b,_,_,a8,K0.get h3 i.toNat (by rw [a.h];omega),h4.sub (i.toNat*o7.size β) (fun j v hv=>a1t hv)⟩)
theorem j6.V2 {β : Type} {s : o7 β} {ib : Inhabited β} {t : Nat} {w : Value} {l : List β} {i : Int} {bb : Bool} {E' : TypeId} {F : Bool × D6 → j7} (tE : G2 P E β) (hT : P.underlying T = some (.slice E)) (hx : E9 σ t = some (.raw w)) (hH : u4 H (bb, .own E' w l) F)
    (hy:E6 C σ H y (.v i)) (h0:0≤i) (h1:i < l.length) (k:K (.el w i.toNat (j9.id (α:=β)))):j6 P N C ⟨d,.indexAddr T (.tmp t) y,ty,ps,af,g⟩ σ H K :=
  .vk k (fun ρ I L hs=>by
    obtain⟨u,h2,rfl⟩:=hs.env t _ hx
    obtain⟨j,X,h3,h4,_⟩:=hH.get hs.heap
    obtain⟨xs,ho,hl⟩:=h4.1
    rcases ho with ⟨_,h,_⟩|⟨b,c,sp,q,rfl,_⟩
    · omega
    · refine .P7 hT tE.size h2 (hy.int hs).1 h0 h1 ⟨b,a8,?_⟩
      simp [j9.id])
theorem j6.c0a {α β γ : Type} {r : o7 α} {s : o7 β} {q : o7 γ} {i off sz : Nat} {ag : Bool} {w : Value} {l : j9 α β} (m : j9 β γ) (hf : p8 P T i = some (off, sz + 1, ag)) (ho : off = m.off) (hx : E6 C σ H x (.ln w l)) (k : K (.ln w (l.comp m))) :
    j6 P N C ⟨d,.fieldAddr T x i,ty,ps,af,g⟩ σ H K :=
  .vk k (fun ρ I L hs=>by
    obtain⟨u,h2,b,h3,rfl⟩:=hx ρ I L hs
    subst ho
    exact .fieldAddr hf h2 ⟨b,h3,a8⟩)
theorem j6.c12 {α β γ : Type} {r : o7 α} {s : o7 β} {q : o7 γ} {i off sz kk : Nat} {ag : Bool} {w : Value} {l : j9 α β} (m : j9 β γ) (hf : p8 P T i = some (off, sz + 1, ag)) (ho : off = m.off) (hx : E6 C σ H x (.el w kk l)) (k : K (.el w kk (l.comp m))) :
    j6 P N C ⟨d,.fieldAddr T x i,ty,ps,af,g⟩ σ H K :=
  .vk k (fun ρ I L hs=>by
    obtain⟨u,h2,b,h3,rfl⟩:=hx ρ I L hs
    subst ho
    exact .fieldAddr hf h2 ⟨b,h3,by simp [j9.comp,Nat.add_assoc]⟩)
theorem j6.c4v {β γ : Type} {s : o7 β} {q : o7 γ} {i off sz : Nat} {ag : Bool} {a : β} (m : j9 β γ) (hf : p8 P T i = some (off, sz + 1, ag)) (ho : off = m.off) (hx : E6 C σ H x (.p a)) (k : K (.p (m.get a))) :
    j6 P N C ⟨d,.fieldAddr T x i,ty,ps,af,g⟩ σ H K :=
  .vk k (fun ρ I L hs=>by
    obtain⟨u,h2,b,o,cs,rfl,h3,h4⟩:=hx ρ I L hs
    subst ho
    exact .fieldAddr hf h2 ⟨b,_,_,a8,m.a5y h3,h4.sub m.off (fun j v hv=>a1t hv)⟩)
theorem H7.b0i {ρ : Env} {I : Im} {L : Lh} {φ : Value → Prop} {α : Type} [o7 α] [Inhabited α] {I' : Im} {a : α} {vs : List Value} {b off : Nat} (tT : G2 P T α) (hx : ev ρ x = some (ptr b off)) (hr : rep I' a vs)
    (hc:∀ w,Mem I L w→∀ j v,vs[j]?=some v→w.cell? ⟨b,off+j,none⟩=some v) (k:φ (asV (o7.agg α) vs)):H7 P N ⟨d,.load T x,ty,ps,af,g⟩ ρ I L φ := .mk k fun ac w ha hm=>by
  obtain⟨dd,hd1,hd2⟩:=tT.kind
  cases hag:o7.agg α with
  | true =>
    have hs:D5 P T vs.length:=by rw [o7.len hr];exact tT.size
    simp [execOp,ha.ev hx,Fl.a6C hd1 (hd2.trans hag) hs (hc w hm),asV]
  | false =>
    obtain⟨v,rfl,hv⟩:=a7R hr hag
    simp [execOp,ha.ev hx,Fl.run_load hd1 (hd2.trans hag) (show w.cell? ⟨b,off,none⟩=some v by simpa using hc w hm 0 v rfl),asV]
theorem j6.G6 {α:Type} {r:o7 α} {i:Inhabited α} {a:α} (tT:G2 P T α) (hx:E6 C σ H x (.p a)) (k:K (.v a)):j6 P N C ⟨d,.load T x,ty,ps,af,g⟩ σ H K :=
 .vk k (fun ρ I L hs=>by
  obtain⟨u,h2,b,o,cs,rfl,h3,h4⟩:=hx ρ I L hs
  exact H7.b0i tT h2 h3 (fun w hm j v hv=>h4.cell hm hv) ⟨cs,h3,rfl⟩)
theorem j6.ldL {α β : Type} {r : o7 α} {s : o7 β} {i : Inhabited β} {w : Value} {l : j9 α β} {a : α} {bb : Bool} {F : Bool × D6 → j7} (tT : G2 P T β) (hx : E6 C σ H x (.ln w l)) (hH : u4 H (bb, .ob w a) F) (k : K (.v (l.get a))) :
    j6 P N C ⟨d,.load T x,ty,ps,af,g⟩ σ H K :=
  .vk k (fun ρ I L hs=>by
    obtain⟨u,h2,b,h3,rfl⟩:=hx ρ I L hs
    obtain⟨j,X,h4,h5,_⟩:=hH.get hs.heap
    obtain⟨b2,T',cs,rfl,rfl,h6⟩:=h5.1
    cases h3
    exact H7.b0i tT h2 (l.a5y h6) (fun w hm j v hv=>by rw [a0F hm h4];exact a1t hv) ⟨_,l.a5y h6,rfl⟩)
theorem j6.ldE {α β : Type} {r : o7 α} {s : o7 β} {i : Inhabited β} {w : Value} {l : j9 α β} {ags : List α} {kk : Nat} {bb : Bool} {E' : TypeId} {F : Bool × D6 → j7} (tT : G2 P T β) (hx : E6 C σ H x (.el w kk l)) (hH : u4 H (bb, .own E' w ags) F) (hk : kk < ags.length)
    (k:K (.v (l.get ags[kk]))):j6 P N C ⟨d,.load T x,ty,ps,af,g⟩ σ H K :=
  .vk k (fun ρ I L hs=>by
    obtain⟨u,h2,b,h3,rfl⟩:=hx ρ I L hs
    obtain⟨j,X,h4,h5,_⟩:=hH.get hs.heap
    obtain⟨xs,ho,h6⟩:=h5.1
    rcases ho with ⟨_,h,_⟩|⟨b2,c,sp,q,rfl,rfl,_⟩
    · omega
    · cases h3
      have hg:=l.a5y (h6.get kk hk)
      rw [a5f l.fits] at hg
      exact H7.b0i tT h2 hg (fun w hm j v hv=>by
        rw [a7e hm h4]
        have:=a1t hv
        rw [List.getElem?_append_left (List.getElem?_eq_some_iff.1 this).1];exact this) ⟨_,hg,rfl⟩)
theorem a3s {α:Type} [o7 α] {I:Im} {a:α} {vs:List Value} (h:rep I a vs):(asV (o7.agg α) vs).cells.toList=vs:=by
 cases hag:o7.agg α with
 | true=>simp [asV,Value.cells]
 | false =>
  obtain⟨v,rfl,hv⟩:=a7R h hag
  have h1:=o7.flat h
  simp only [a0Z,List.all_cons,List.all_nil,Bool.and_true] at h1
  simp only [asV,List.headD_cons]
  cases v<;>first|rfl|(simp [Value.oneCell'] at h1)
theorem A0.stL {α β : Type} {r : o7 α} {s : o7 β} {i : Inhabited β} {w : Value} {l : j9 α β} {a : α} {c : β} {bb : Bool} {F : Bool × D6 → j7} (tT : G2 P T β) (hx : E6 C σ H x (.ln w l)) (hy : E6 C σ H y (.v c)) (hH : u4 H (bb, .ob w a) F)
    (k:KH .any (F (bb,.ob w (l.set c a)))):A0 P C N ⟨d,.store T x y,ty,ps,af,g⟩ σ H KH:=fun ρ I L hs=>by
  obtain⟨u,h2,b,h3,rfl⟩:=hx ρ I L hs
  obtain⟨u,h7,vs,h8,rfl⟩:=hy ρ I L hs
  obtain⟨j,X,h4,h5,h6⟩:=hH.get hs.heap
  obtain⟨b2,T',cs,rfl,rfl,h9⟩:=h5.1
  cases h3
  refine .store j (by rw [o7.len h8];exact tT.size) h2 h7 (a3s h8) (o7.flat h8) h4 (by rw [o7.len h8,o7.len h9];exact l.fits) ⟨Le.refl I,.any,_,trivial,h6 I (bb,.ob (ptr b 0) (l.set c a)) [(b,row (C7 cs l.off vs) T')] (Le.refl I) ⟨⟨b,T',_,a8,a8,l.a6K h9 h8⟩,fun hb p hp => ?_⟩,k⟩
  have:=h5.2 hb (b,row cs T') (by simp)
  simp only [List.mem_singleton] at hp
  subst hp;exact this
theorem A0.R6 {α : Type} {r : o7 α} {i : Inhabited α} {w : Value} {a c : α} {bb : Bool} {F : Bool × D6 → j7} (tT : G2 P T α) (hx : E6 C σ H x (.ln w (j9.id (α := α)))) (hy : E6 C σ H y (.v c)) (hH : u4 H (bb, .ob w a) F)
    (k:KH .any (F (bb,.ob w c))):A0 P C N ⟨d,.store T x y,ty,ps,af,g⟩ σ H KH := .stL tT hx hy hH k
theorem j6.S4 {α : Type} {r : o7 α} {i : Inhabited α} {w : Value} {a : α} {bb : Bool} {F : Bool × D6 → j7} (tT : G2 P T α) (hx : E6 C σ H x (.ln w (j9.id (α := α)))) (hH : u4 H (bb, .ob w a) F) (k : K (.v a)) :
    j6 P N C ⟨d,.load T x,ty,ps,af,g⟩ σ H K := .ldL tT hx hH k
theorem OpS.c13 {ρ : Env} {I : Im} {L : Lh} {K : Value → Im → Lh → Prop} (i : Nat) {b off : Nat} {v : Value} {cs vs : List Value} {e : TypeId} {q : Nat × Nat} (hs : D5 P T vs.length) (hx : ev ρ x = some (ptr b off)) (hy : ev ρ y = some v) (hv : v.cells.toList = vs) (h1 : a0Z vs = true)
    (hL:L[i]?=some [(b,.cells cs.toArray e q)]) (hq:∀ j,j < cs.length→¬(q.1≤j∧j < q.2)) (hle:off+vs.length≤cs.length) (k:K undef I (L.set i [(b,.cells (C7 cs off vs).toArray e q)])) :
    OpS P C N ⟨d,.store T x y,ty,ps,af,g⟩ ρ I L K:=fun a w ha hst=>by
  have hb:=hst.mem.loc (b,.cells cs.toArray e q) (D2 hL (by simp))
  have hvs:v.cells.size=vs.length:=by rw [←hv];simp
  have hall:∀ u∈vs,u.oneCell'=true:=fun u hu=>List.all_eq_true.1 h1 u hu
  have hrun:=T1 P b off e q vs 0 cs.toArray w hb (by simpa using hle) hall (by simpa using hq)
  have hr:(execOp a.eval ⟨d,.store T x y,ty,ps,af,g⟩).run P w = .ok .skip (w.setRow b (C7 cs off vs).toArray):=by
    simp only [Nat.add_zero] at hrun
    simp [execOp,ha.ev hx,ha.ev hy,Instr.storeAt,Instr.sureAddr,storeVar,hs.run,hvs,hv,hrun,C7]
  rw [hr]
  exact⟨I,_,a7Q hst hL _,k⟩
theorem A0.stE {α β : Type} {r : o7 α} {s : o7 β} {i : Inhabited β} {w : Value} {l : j9 α β} {ags : List α} {c : β} {kk : Nat} {bb : Bool} {E' : TypeId} {F : Bool × D6 → j7} (tT : G2 P T β) (hx : E6 C σ H x (.el w kk l)) (hy : E6 C σ H y (.v c))
    (hH:u4 H (bb,.own E' w ags) F) (hk:kk < ags.length) (k:KH .any (F (bb,.own E' w (ags.set kk (l.set c ags[kk]))))):A0 P C N ⟨d,.store T x y,ty,ps,af,g⟩ σ H KH:=fun ρ I L hs=>by
  obtain⟨u,h2,b,h3,rfl⟩:=hx ρ I L hs
  obtain⟨u,h7,vs,h8,rfl⟩:=hy ρ I L hs
  obtain⟨j,X,h4,h5,h6⟩:=hH.get hs.heap
  obtain⟨xs,ho,h9⟩:=h5.1
  rcases ho with ⟨_,h,_⟩|⟨b2,cc,sp,q,rfl,rfl,e1,e2,e3,e4,e5⟩
  · omega
  · cases h3
    have hfit:kk*o7.size α+l.off+vs.length≤xs.length:=by
      rw [o7.len h8,h9.len]
      have:=l.fits
      have h10:=Nat.mul_le_mul_right (o7.size α) (Nat.succ_le_of_lt hk)
      rw [Nat.succ_mul] at h10
      omega
    have hset:K0 I (ags.set kk (l.set c ags[kk])) (C7 xs (kk*o7.size α+l.off) vs):=by
      have h10:=h9.set kk hk (l.a6K (h9.get kk hk) h8)
      rw [a3c (by rw [o7.len h8];exact l.fits) (by
        rw [h9.len]
        have h11:=Nat.mul_le_mul_right (o7.size α) (Nat.succ_le_of_lt hk)
        rw [Nat.succ_mul] at h11
        omega)] at h10
      exact h10
    refine OpS.c13 j (by rw [o7.len h8];exact tT.size) h2 h7 (a3s h8) (o7.flat h8) h4 (fun i hi=>by rcases e5 with rfl|rfl<;>simp at hi ⊢ <;> omega) (by rw [List.length_append];omega) ?_
    have hseg:C7 (xs++sp) (kk*o7.size α+l.off) vs=C7 xs (kk*o7.size α+l.off) vs++sp:=a5d xs sp _ vs hfit
    have hlen:(C7 xs (kk*o7.size α+l.off) vs).length=xs.length:=F4 _ _ _ hfit
    refine⟨Le.refl I,.any,_,trivial,h6 I (bb,.own E' _ (ags.set kk (l.set c ags[kk]))) _ (Le.refl I) ⟨⟨C7 xs (kk*o7.size α+l.off) vs,.inr ⟨b,cc,sp,q,?_,by rw [hseg],by rw [hlen,List.length_set];exact e1,by rw [List.length_append,hlen,←List.length_append];exact e2,by rw [List.length_set];exact e3,e4,?_⟩,hset⟩,fun hb p hp => ?_⟩,k⟩
    · rw [List.length_set]
    · rw [List.length_append,hlen,←List.length_append];exact e5
    · have:=h5.2 hb (b,.cells (xs++sp).toArray E' q) (by simp)
      simp only [List.mem_singleton] at hp
      subst hp;exact this
theorem A0.ofX {o:Oper} (h:∀ ρ I L,Z2 C I L σ H ρ→OpX P N o ρ I L (fun v J X=>∃ r B Xc,X = [Xc]∧E1 J r v∧D6.a4e J B Xc∧KH r ((true,B)::H))):A0 P C N o σ H KH:=fun ρ I L hs a w ha hst =>
 (h ρ I L hs a w ha hst.mem).mono fun v w' ⟨J,X,hc,hle,hn,hm,hX,r,B,Xc,e,h1,h2,h3⟩=>by
  subst e
  exact⟨J,[Xc]++L,hst.step hc hle hn hm hX,hle,r,(true,B)::H,h1,⟨Xc,L,a8,⟨h2,fun _ p hp=>Nat.le_trans hst.S5.size (hX p (by simpa using hp))⟩,hs.heap.mono hle⟩,h3⟩
theorem A0.alloc {α:Type} {r:o7 α} {i:Inhabited α} (tT:G2 P T α) (k:∀ b,KH (.ln (ptr b 0) (j9.id (α:=α))) ((true,.ob (ptr b 0) (default:α))::H)):A0 P C N ⟨d,.alloc T,ty,ps,af,g⟩ σ H KH :=
 .ofX fun ρ I L hs=>by
  obtain⟨zs,h1,h2⟩:=tT.zero
  exact .alloc h1 fun b=>⟨.ln (ptr b 0) (j9.id (α:=α)),.ob (ptr b 0) (default:α),_,a8,⟨b,a8,a8⟩,⟨b,T,zs,a8,a8,h2 I⟩,k b⟩
theorem A0.box {α:Type} {r:o7 α} {a:α} (hx:E6 C σ H x (.v a)) (k:∀ b,KH (.ln (ptr b 0) (j9.id (α:=α))) ((true,.ob (ptr b 0) a)::H)):A0 P C N ⟨d,.box T x,ty,ps,af,g⟩ σ H KH :=
 .ofX fun ρ I L hs=>by
  obtain⟨u,h1,cs,h2,rfl⟩:=hx ρ I L hs
  exact .box h1 (a3s h2) fun b=>⟨.ln (ptr b 0) (j9.id (α:=α)),.ob (ptr b 0) a,_,a8,⟨b,a8,a8⟩,⟨b,T,cs,a8,a8,h2⟩,k b⟩
theorem j6.ix {β : Type} {s : o7 β} {n : Nat} {a : I8 n β} {i : Int} (hf : L5 P T = some (n, o7.size β, false)) (hb : o7.agg β = false) (hx : E6 C σ H x (.v a)) (hy : E6 C σ H y (.v i)) (h0 : 0 ≤ i) (h1 : i < n)
    (k:K (.v (a.l[i.toNat]'(by rw [a.h];omega)))):j6 P N C ⟨d,.index T x y,ty,ps,af,g⟩ σ H K :=
  .vk k (fun ρ I L hs=>by
    obtain⟨u,h2,cs,h3,rfl⟩:=hx ρ I L hs
    have hgs:=K0.get h3 i.toNat (by rw [a.h];omega)
    obtain⟨v,hv,hv2⟩:=a7R hgs hb
    refine .b7j hf h2 (hy.int hs).1 h0 h1 (v:=v) ?_ ⟨_,hgs,hv2.symm⟩
    have:(H9 cs (i.toNat*o7.size β) (o7.size β))[0]?=some v:=by rw [hv];rfl
    simpa using a1t this)
theorem j6.b5a {s:Y4} {i:Int} (hT:P.underlying T=some .string) (hx:E6 C σ H x (.v s)) (hy:E6 C σ H y (.v i)) (h0:0≤i) (h1:i < s.l.length) (k:K (.v (s.l[i.toNat]'(by omega)))):j6 P N C ⟨d,.index T x y,ty,ps,af,g⟩ σ H K :=
 .vk k (fun ρ I L hs=>by
  obtain⟨b,h2,h3⟩:=hx.str hs
  obtain⟨h4,_⟩:=hy.int hs
  obtain⟨m,rfl⟩:=Int.eq_ofNat_of_zero_le h0
  refine .b7k hT h2 h4 (c:=s.l[m]'(by omega)) ?_ ⟨_,a8,a8⟩
  rw [h3]
  exact List.getElem?_eq_getElem _)
theorem K0.cut {α:Type} [o7 α] {I:Im} {l:List α} {xs:List Value} (h:K0 I l xs) (a b:Nat) (hb:b≤l.length):K0 I ((l.take b).drop a) ((xs.take (b*o7.size α)).drop (a*o7.size α)):=by
 have h1:K0 I (l.take b) (xs.take (b*o7.size α)):=by
  have h2:=h
  rw [←List.take_append_drop b l] at h2
  have:=h2.split.1
  rwa [List.length_take,Nat.min_eq_left hb] at this
 by_cases ha:a≤b
 ·have h2:=h1
  rw [←List.take_append_drop a (l.take b)] at h2
  have:=h2.split.2
  rwa [List.length_take,List.length_take,Nat.min_eq_left hb,Nat.min_eq_left ha] at this
 ·have e:(l.take b).drop a = []:=List.drop_eq_nil_of_le (by rw [List.length_take];omega)
  have e2:(xs.take (b*o7.size α)).drop (a*o7.size α) = []:=List.drop_eq_nil_of_le (by
   rw [List.length_take]
   exact Nat.le_trans (Nat.min_le_left _ _) (Nat.mul_le_mul_right _ (by omega)))
  rw [e,e2];rfl
theorem j6.sl {α : Type} {r : o7 α} {i0 : Inhabited α} {l : List α} {lo hi : Option Operand} (a b : Nat) (tE : G2 P E α) (hT : P.underlying T = some (.slice E)) (hx : E6 C σ H x (.v l))
    (hlo:(lo=none∧a=0)∨∃ o,lo=some o∧E6 C σ H o (.v (a:Int))) (hhi:(hi=none∧b=l.length)∨∃ o,hi=some o∧E6 C σ H o (.v (b:Int))) (h1:a≤b) (h2:b≤l.length)
    (k:K (.v ((l.take b).drop a))):j6 P N C ⟨d,.slice T x lo hi none,ty,ps,af,g⟩ σ H K :=
  .vk k (fun ρ I L hs=>by
    obtain⟨u,hu,xs,hsl,hl⟩:=hx.sl hs
    refine .slice hT tE.size hu hsl (l:=a) (h:=b) ?_ ?_ h1 h2 (fun v' hv' => ?_)
    · rcases hlo with ⟨rfl,rfl⟩|⟨o,rfl,ho⟩
      · exact .inl ⟨a8,a8⟩
      · exact .inr ⟨_,o,a8,(ho.int hs).1⟩
    · rcases hhi with ⟨rfl,rfl⟩|⟨o,rfl,ho⟩
      · exact .inl ⟨a8,a8⟩
      · exact .inr ⟨_,o,a8,(ho.int hs).1⟩
    · refine⟨_,⟨v',a8,_,?_,hl.cut a b h2⟩,a8⟩
      have e:((l.take b).drop a).length=b - a:=by simp [Nat.min_eq_left h2]
      rw [e];exact hv')
section sl
variable {α:Type} {r:o7 α} {i0:Inhabited α} {l:List α} {i j:Int} (tE:G2 P E α) (hT:P.underlying T=some (.slice E)) (hx:E6 C σ H x (.v l))
include tE hT hx
theorem j6.b7J (hy:E6 C σ H y (.v i)) (h0:0≤i) (h1:i≤l.length) (k:K (.v (l.drop i.toNat))):j6 P N C ⟨d,.slice T x (some y) none none,ty,ps,af,g⟩ σ H K :=
 .sl i.toNat l.length tE hT hx (.inr ⟨y,rfl,by rw [Int.toNat_of_nonneg h0];exact hy⟩) (.inl ⟨rfl,rfl⟩) (by omega) (Nat.le_refl _) (by rw [List.take_length];exact k)
theorem j6.b6b (hz:E6 C σ H z (.v j)) (h0:0≤j) (h1:j≤l.length) (k:K (.v (l.take j.toNat))):j6 P N C ⟨d,.slice T x none (some z) none,ty,ps,af,g⟩ σ H K :=
 .sl 0 j.toNat tE hT hx (.inl ⟨rfl,rfl⟩) (.inr ⟨z,rfl,by rw [Int.toNat_of_nonneg h0];exact hz⟩) (by omega) (by omega) (by rw [List.drop_zero];exact k)
theorem j6.c3h (hy:E6 C σ H y (.v i)) (hz:E6 C σ H z (.v j)) (h0:0≤i) (h1:i≤j) (h2:j≤l.length) (k:K (.v ((l.take j.toNat).drop i.toNat))):j6 P N C ⟨d,.slice T x (some y) (some z) none,ty,ps,af,g⟩ σ H K :=
 .sl i.toNat j.toNat tE hT hx (.inr ⟨y,rfl,by rw [Int.toNat_of_nonneg h0];exact hy⟩) (.inr ⟨z,rfl,by rw [Int.toNat_of_nonneg (by omega)];exact hz⟩) (by omega) (by omega) k
end sl
theorem j6.b7K {α β:Type} {n:Nat} {r:o7 α} {s:o7 β} {ag:Bool} {w:Value} {l:j9 α (I8 n β)} (hf:L5 P T=some (n,o7.size β,ag)) (hx:E6 C σ H x (.ln w l)) (k:K (.sv w l)):j6 P N C ⟨d,.slice T x none none none,ty,ps,af,g⟩ σ H K :=
 .vk k (fun ρ I L hs=>by
  obtain⟨u,h2,b,h3,rfl⟩:=hx ρ I L hs
  exact .a74 hf h2 ⟨b,h3,a8⟩)
theorem j6.O6 {β:Type} {n:Nat} {s:o7 β} {ag:Bool} {a:I8 n β} (hn:n≤9223372036854775807) (hf:L5 P T=some (n,o7.size β,ag)) (hx:E6 C σ H x (.p a)) (k:K (.v a.l)):j6 P N C ⟨d,.slice T x none none none,ty,ps,af,g⟩ σ H K :=
 .vk k (fun ρ I L hs=>by
  obtain⟨u,h2,b,o,cs,rfl,h3,h4⟩:=hx ρ I L hs
  refine .a74 hf h2 ⟨_,⟨_,a8,cs,?_,h3⟩,a8⟩
  have hl:=h3.len
  rw [a.h] at hl ⊢
  exact Sl.a3o h4 hl (Nat.le_refl _) (by unfold maxLen;omega))
end Go.Ab
namespace Go.Ab
open Go.Fl Go.RowKit
open o7 (rep)
variable {P:Program} {C:Ctx} {N:Nat} {σ:x7} {H:j7} {K:AV→Prop} {KH:AV→j7→Prop} {d:Option Nat} {ty:TypeId} {ps:String} {af:Array Edge} {g:Option (Nat×Bool)}
variable {x y z:Operand} {T T2 E S D U:TypeId}
inductive a8o {α:Type} [o7 α] (C:Ctx) (σ:x7) (H:j7) (place:Nat→Option (Nat×Nat)):List (Nat×Operand)→α→α→Prop
 | nil {x:α}:a8o C σ H place [] x x
 | cons {i:Nat} {o:Operand} {γ:Type} {q:o7 γ} {r:List (Nat×Operand)} {x y:α} (m:j9 α γ) (c:γ) (hi:place i=some (m.off,o7.size γ)) (ho:E6 C σ H o (.v c)) (t:a8o C σ H place r (m.set c x) y):a8o C σ H place ((i,o)::r) x y
theorem a8o.run {α : Type} [o7 α] {place : Nat → Option (Nat × Nat)} {ρ : Env} {I : Im} {L : Lh} (hs : Z2 C I L σ H ρ) {ps : List (Nat × Operand)} {x y : α} (h : a8o C σ H place ps x y) : ∀ {cells : Array Value}, rep I x cells.toList →
    ∃ pv out,evP ρ ps=some pv∧Instr.fill place cells pv=some out∧rep I y out.toList:=by
  induction h with
  | nil=>intro cells hc;exact⟨[],cells,rfl,rfl,hc⟩
  | @cons i o γ q r x y m c hi ho t ih =>
    intro cells hc
    obtain⟨u,h1,vs,h2,rfl⟩:=ho ρ I L hs
    have hcv:=a3s h2
    have hsz:(asV (o7.agg γ) vs).cells.size=o7.size γ:=by have:=congrArg List.length hcv;rw [o7.len h2] at this;simpa using this
    have hcl:cells.size=o7.size α:=by have:=o7.len hc;simpa using this
    have hfit:=m.fits
    have hseg:=a78 (cells:=cells) (vs:=(asV (o7.agg γ) vs).cells) (off:=m.off) (by rw [hsz,hcl];exact hfit)
    rw [hcv] at hseg
    obtain⟨pv,out,h3,h4,h5⟩:=ih (cells:=(asV (o7.agg γ) vs).cells.zipIdx.foldl (fun cs (c,j)=>cs.setIfInBounds (m.off+j) c) cells) (by rw [hseg];exact m.a6K hc h2)
    refine⟨(i,asV (o7.agg γ) vs)::pv,out,by simp [evP,h1,h3],?_,h5⟩
    simp only [Instr.fill,hi]
    rw [if_neg (by simp only [hsz,ne_eq,not_true,hcl,gt_iff_lt];simp;omega)]
    exact h4
theorem b7L {offs:List (Nat×Nat)} (hT:D4 P T=some offs) (w:World):∃ fs,P.underlying T=some (.struct fs)∧(fs.mapM fun f=>(do pure (f.offset,←sizeOf f.type):Sem (Nat×Nat))).run P w = .ok offs.toArray w:=by
  unfold D4 at hT
  split at hT
  · rename_i fs hu
    have hpl : ∀ (l : List Field) (o : List (Nat × Nat)), (l.mapM fun f => (P.info? f.type).map fun i => (f.offset, i.size)) = some o →
        (l.mapM fun f=>(do pure (f.offset,←sizeOf f.type):Sem (Nat×Nat))).run P w = .ok o w:=by
      intro l
      induction l with
      | nil=>intro o h;simp at h;subst h;simp
      | cons f r ih =>
        intro o h
        rw [List.mapM_cons] at h
        cases hq:P.info? f.type with
        | none=>simp [hq] at h
        | some inf =>
          cases hr:(r.mapM fun f=>(P.info? f.type).map fun i=>(f.offset,i.size)) with
          | none=>simp [hq,hr] at h
          | some o' =>
            simp [hq,hr] at h
            subst h
            have hsz:D5 P f.type inf.size:=by simp [D5,hq]
            rw [List.mapM_cons,Sem.run_bind,Sem.run_bind,hsz.run]
            simp only [Result.andThen_ok,Sem.run_pure,Sem.run_bind]
            rw [ih o' hr]
            simp
    refine⟨fs,hu,?_⟩
    rw [Array.mapM_eq_mapM_toList,map_eq_pure_bind,Sem.run_bind,hpl fs.toList offs hT]
    simp
  · cases hT
theorem j6.a4p {α : Type} {r : o7 α} {i0 : Inhabited α} {offs : List (Nat × Nat)} {parts : Array (Nat × Operand)} {a : α} (c : α) (hg : o7.agg α = true) (tT : G2 P T α) (hT : D4 P T = some offs) (hp : a8o C σ H (fun i => offs[i]?) parts.toList (default : α) a) (e : a = c) (k : K (.v c)) :
    j6 P N C ⟨d,.build T parts,ty,ps,af,g⟩ σ H K:=by
  subst e
  exact .vk k (fun ρ I L hs=>by
    obtain⟨zs,hz1,hz2⟩:=tT.zero
    intro ac w ha hm
    obtain⟨zv,h1,h2⟩:=a2i hz1 w
    obtain⟨pv,out,h3,h4,h5⟩:=hp.run hs (cells:=zv.cells) (by rw [h2];exact hz2 I)
    have hparts:(parts.map fun x=>(x.1,ac.eval x.2)).toList=pv:=by rw [Array.toList_map];exact ha.evP h3
    obtain⟨fs,hu,h6⟩:=b7L hT w
    refine⟨.agg out,⟨out.toList,h5,by rw [hg];rfl⟩,?_⟩
    have e1:(fun (i:Nat)=>offs.toArray[i]?)=fun (i:Nat)=>offs[i]?:=by funext i;simp
    simp only [execOp,Instr.build,Sem.run_bind,h1,Result.andThen_ok,run_underlying hu,h6,hparts,Sem.run_pure,e1,h4])
theorem j6.M8 {β : Type} {n : Nat} {r : o7 β} {i0 : Inhabited β} {ag : Bool} {parts : Array (Nat × Operand)} {a : I8 n β} (c : I8 n β) (tT : G2 P T (I8 n β)) (hT : L5 P T = some (n, o7.size β, ag)) (hp : a8o C σ H (fun i => some (i * o7.size β, o7.size β)) parts.toList (default : I8 n β) a) (e : a = c) (k : K (.v c)) :
    j6 P N C ⟨d,.build T parts,ty,ps,af,g⟩ σ H K:=by
  subst e
  exact .vk k (fun ρ I L hs=>by
    obtain⟨zs,hz1,hz2⟩:=tT.zero
    intro ac w ha hm
    obtain⟨zv,h1,h2⟩:=a2i hz1 w
    obtain⟨pv,out,h3,h4,h5⟩:=hp.run hs (cells:=zv.cells) (by rw [h2];exact hz2 I)
    have hparts:(parts.map fun x=>(x.1,ac.eval x.2)).toList=pv:=by rw [Array.toList_map];exact ha.evP h3
    unfold L5 at hT
    split at hT
    · rename_i m e hu
      split at hT
      · rename_i inf dd h6 h7
        simp only [Option.some.injEq,Prod.mk.injEq] at hT
        obtain⟨rfl,h8,_⟩:=hT
        have hsz:D5 P e (o7.size β):=by simp [D5,h6,h8]
        refine⟨.agg out,⟨out.toList,h5,a8⟩,?_⟩
        simp only [execOp,Instr.build,Sem.run_bind,h1,Result.andThen_ok,run_underlying hu,hsz.run,hparts,h4,Sem.run_pure]
      · cases hT
    · cases hT)
inductive a7g {α:Type} [o7 α] (C:Ctx) (σ:x7) (H:j7):Nat→List (Nat×Operand)→List α→Prop
 | nil {i:Nat}:a7g C σ H i [] []
 | cons {i:Nat} {o:Operand} {c:α} {r:List (Nat×Operand)} {l:List α} (ho:E6 C σ H o (.v c)) (t:a7g C σ H (i+1) r l):a7g C σ H i ((i,o)::r) (c::l)
theorem a7g.run {α:Type} [o7 α] {ρ:Env} {I:Im} {L:Lh} (hs:Z2 C I L σ H ρ) {i:Nat} {ps:List (Nat×Operand)} {l:List α} (h:a7g C σ H i ps l):∃ pv vs,evP ρ ps=some pv∧V9 (o7.size α) i pv=some vs∧K0 I l vs:=by
 induction h with
 | nil=>exact⟨[],[],rfl,rfl,rfl⟩
 | @cons i o c r l ho t ih =>
  obtain⟨u,h1,cs,h2,rfl⟩:=ho ρ I L hs
  obtain⟨pv,vs,h3,h4,h5⟩:=ih
  have hcv:=a3s h2
  have hsz:(asV (o7.agg α) cs).cells.size=o7.size α:=by have:=congrArg List.length hcv;rw [o7.len h2] at this;simpa using this
  refine⟨(i,asV (o7.agg α) cs)::pv,cs++vs,by simp [evP,h1,h3],?_,cs,vs,rfl,h2,h5⟩
  have b1:Nat.beq i i=true:=Nat.beq_refl i
  simp only [V9,hsz,b1,Nat.beq_refl,Bool.and_self,cond_true,h4,Option.map_some,hcv]
theorem A0.buildSlice {α : Type} {r : o7 α} {i0 : Inhabited α} {n : Nat} {l : List α} {parts : Array (Nat × Operand)} (tE : G2 P E α) (hT : P.underlying T = some (.slice E)) (hp : a7g C σ H 0 parts.toList l) (hn : l.length = n) (hb : n * o7.size α ≤ 16777216)
    (k:∀ b,KH (.raw (slc b 0 n n)) ((true,.own E (slc b 0 n n) l)::H)):A0 P C N ⟨d,.buildSlice T n parts,ty,ps,af,g⟩ σ H KH :=
  .ofX fun ρ I L hs=>by
    obtain⟨zs,hz1,hz2⟩:=tE.zero
    obtain⟨pv,vs,h1,h2,h3⟩:=hp.run hs
    subst hn
    have hl:=h3.len
    refine .buildSlice hT tE.size hz1 (o7.len (hz2 I)) h1 h2 hl hb fun b=>⟨.raw (slc b 0 l.length l.length),.own E (slc b 0 l.length l.length) l,_,a8,a8,⟨vs,.of (.made hl ?_),h3⟩,k b⟩
    have:1≤o7.size α:=Nat.one_le_iff_ne_zero.2 tE.pos
    have:=Nat.mul_le_mul_left l.length this
    unfold maxLen;omega
structure SlT (P:Program) (T E:TypeId) (α:Type) (by_:Nat) [o7 α] [Inhabited α]:Prop where
 elt:Elt P T E (o7.size α) by_
 ty:G2 P E α
theorem a80 {zs:List Value} {n:Nat} (h:zs.length≠0):madeCells zs.toArray (n*zs.length)=(List.replicate n zs).flatten.toArray:=by
 apply Array.ext'
 apply List.ext_getElem?
 intro i
 unfold madeCells
 simp only [Array.toList_map,Array.toList_range,List.getElem?_map,List.size_toArray]
 by_cases hi:i < n*zs.length
 ·rw [List.getElem?_range hi]
  have hm:i % zs.length < zs.length:=Nat.mod_lt _ (by omega)
  simp only [Option.map_some]
  have key:∀ (n i:Nat),i < n*zs.length→(List.replicate n zs).flatten[i]?=zs[i % zs.length]?:=by
   intro n
   induction n with
   | zero=>intro i hi;simp at hi
   | succ n ih =>
    intro i hi
    rw [List.replicate_succ,List.flatten_cons]
    by_cases h1:i < zs.length
    ·rw [List.getElem?_append_left h1,Nat.mod_eq_of_lt h1]
    ·rw [List.getElem?_append_right (by omega),ih (i - zs.length) (by rw [Nat.succ_mul] at hi;omega)]
     exact congrArg (fun q=>zs[q]?) (Nat.mod_eq_sub_mod (by omega)).symm
  rw [key n i hi]
  simp [hm]
 ·have hf:((List.replicate n zs).flatten).length=n*zs.length:=by simp
  rw [List.getElem?_eq_none (by simp;omega),List.getElem?_eq_none (by rw [hf];omega)]
  rfl
theorem A0.make {α : Type} {r : o7 α} {i0 : Inhabited α} {by_ : Nat} {i : Int} (st : SlT P T E α by_) (hx : E6 C σ H x (.v i)) (h0 : 0 ≤ i) (hb : (by_ : Int) * i ≤ 281474976710656) (hn : i ≤ 9223372036854775807)
    (k:∀ b,KH (.raw (slc b 0 i.toNat i.toNat)) ((true,.own E (slc b 0 i.toNat i.toNat) (List.replicate i.toNat (default:α)))::H)):A0 P C N ⟨d,.makeSlice T x x,ty,ps,af,g⟩ σ H KH :=
  .ofX fun ρ I L hs=>by
    obtain⟨inf,zv,h1,h2,h3,h4,h5⟩:=st.elt.info
    obtain⟨zs,hz1,hz2⟩:=st.ty.zero
    have hze:zs=zv.cells.toList:=by
      have:U7 P E=some zv.cells.toList:=by simp [U7,h1,h2]
      rw [this] at hz1;exact(Option.some.inj hz1).symm
    have hzl:zs.length=o7.size α:=o7.len (hz2 I)
    have hrep:K0 I (List.replicate i.toNat (default:α)) (List.replicate i.toNat zs).flatten:=a02 (hz2 I) i.toNat
    obtain⟨hxi,_⟩:=hx.int hs
    refine a7M (v:=fun b=>slc b 0 i.toNat i.toNat) (cs:=(List.replicate i.toNat zs).flatten) (e:=E) (fun a w ha hm => ?_)
      fun b=>⟨.raw (slc b 0 i.toNat i.toNat),.own E (slc b 0 i.toNat i.toNat) (List.replicate i.toNat (default:α)),_,rfl,rfl,⟨_,.of ?_,hrep⟩,k b⟩
    · have h:=run_make (P:=P) w T E inf zv st.elt.und h1 h2 .i64 .i64 i i h0 (Int.le_refl _) (by rw [h4];exact hb) hn
      simp only [execOp,Sem.run_bind,ha.ev hxi,h,Result.andThen_ok,Sem.run_pure]
      have e1:madeCells zv.cells (i.toNat*inf.size)=(List.replicate i.toNat zs).flatten.toArray:=by
        have:=a80 (zs:=zs) (n:=i.toNat) (by rw [hzl];exact st.ty.pos)
        rw [hze] at this ⊢
        rw [←this,h3,←hzl,hze]
      rw [e1]
    · have:=Own.made (e:=E) (s:=o7.size α) (b:=b) (n:=i.toNat) (xs:=(List.replicate i.toNat zs).flatten) (by simp [hzl]) (by unfold maxLen;omega)
      simpa using this
theorem SlT.pos {α:Type} [o7 α] [Inhabited α] {by_:Nat} (st:SlT P T E α by_):0 < o7.size α:=Nat.pos_of_ne_zero st.ty.pos
def a81 (P:Program) (C:Ctx) (σ:x7) (H:j7) (y:Operand) {α:Type} [o7 α] (m:List α):Prop:=∀ ρ I L,Z2 C I L σ H ρ→∃ u news,ev ρ y=some u∧Src P I L (o7.size α) u m.length news∧K0 I m news
theorem a81.v {α:Type} {r:o7 α} {m:List α} (h:E6 C σ H y (.v m)):a81 P C σ H y m:=fun ρ I L hs=>by
 obtain⟨u,h1,xs,h2,h3⟩:=h.sl hs
 exact⟨u,xs,h1,.sl h2,h3⟩
theorem a81.own {α:Type} {r:o7 α} {t:Nat} {w:Value} {m:List α} {bb:Bool} {E':TypeId} {F:Bool×D6→j7} (ht:E9 σ t=some (.raw w)) (hH:u4 H (bb,.own E' w m) F):a81 P C σ H (.tmp t) m:=fun ρ I L hs=>by
 obtain⟨u,h1,rfl⟩:=hs.env t _ ht
 obtain⟨j,X,h2,h3,_⟩:=hH.get hs.heap
 obtain⟨xs,h4,h5⟩:=h3.1
 exact⟨_,xs,h1,Ab.Src.c3f j h2 h4,h5⟩
theorem A0.append {α : Type} {r : o7 α} {i0 : Inhabited α} {by_ t : Nat} {w : Value} {l m : List α} {bb : Bool} {F : Bool × D6 → j7} (st : SlT P T E α by_) (hU : (∃ E2, P.underlying U = some (.slice E2)) ∨ P.underlying U = some .string) (hx : E9 σ t = some (.raw w))
    (hH:u4 H (bb,.own E w l) F) (hy:a81 P C σ H y m) (hb:(l.length+m.length)*by_≤140737488355328) (hn:l.length+m.length≤9223372036854775807) (k:∀ w',KH (.raw w') (F (true,.own E w' (l++m)))) (hbb:bb=true) :
    A0 P C N ⟨d,.call ⟨.builtin .append,#[.tmp t,y],#[T,U]⟩,ty,ps,af,g⟩ σ H KH:=fun ρ I L hs=>by
  obtain⟨u,h1,rfl⟩:=hs.env t _ hx
  obtain⟨v,news,h2,h3,h4⟩:=hy ρ I L hs
  obtain⟨j,X,h5,h6,h7⟩:=hH.get hs.heap
  obtain⟨xs,h8,h9⟩:=h6.1
  intro a w0 ha hst
  have hfr:=h6.2 hbb
  refine Yld.mono (OpS.b4V (K:=fun v' J L'=>∃ X',L'=L.set j X'∧J=I∧a1T E (o7.size α) v' (l.length+m.length) (xs++news) X'∧(∀ p∈X',p.1∈X.map Prod.fst∨C.w0.heap.size≤p.1)) j st.elt st.pos hU (x := .tmp t) h1 h2 h5 h8 h3 h4.flat (by unfold maxLen;omega) hb (fun v' X' ho hn=>⟨X',rfl,rfl,ho,hn⟩) a w0 ha hst) ?_
  rintro v' w' ⟨J,L',hst',X',rfl,rfl,ho,hnew⟩
  refine⟨J,_,hst',Le.refl J,.raw v',_,rfl,h7 J (true,.own E v' (l++m)) X' (Le.refl J) ⟨⟨xs++news,by rw [List.length_append];exact ho,h9.append h4⟩,fun _ p hp => ?_⟩,k v'⟩
  rcases hnew p hp with h|h
  · obtain⟨q,hq,hqe⟩:=List.mem_map.1 h
    rw [←hqe];exact hfr q hq
  · exact h
theorem OpX.push {ρ : Env} {I : Im} {L : Lh} {KX : Value → Im → Lh → Prop} {o : Oper} (h : ∀ a w, Fits N ρ a → Mem I L w → (∃ v, (execOp a.eval o).run P w = .ok (.value v) w ∧ KX v I []) ∨
    ∃ v w' ob,(execOp a.eval o).run P w = .ok (.value v) w'∧w'.heap=w.heap.push ob∧w'.os=w.os∧w'.tape=w.tape∧w'.output=w.output∧KX v I [[(w.heap.size,ob)]]):OpX P N o ρ I L KX:=fun a w ha hm=>by
  rcases h a w ha hm with ⟨v,hr,hk⟩|⟨v,w',ob,hr,hw,h1,h2,h3,hk⟩
  · rw [hr];exact⟨I,[],Chg.refl _ _,Le.refl _,fun b h0 h1=>absurd h0 h1,hm,by simp,hk⟩
  · rw [hr]
    have hnI:I w.heap.size=none:=by
      cases hi:I w.heap.size with
      | none=>rfl
      | some o=>have:=y7 (hm.im _ _ hi);omega
    have hnew:w'.heap[w.heap.size]?=some ob:=by rw [hw];simp
    have hold:∀ k,k < w.heap.size→w'.heap[k]?=w.heap[k]?:=fun k hk=>by
      rw [hw,Array.getElem?_push_lt hk,Array.getElem?_eq_getElem hk]
    refine⟨I,[[(w.heap.size,ob)]],⟨h1,h2,h3,by rw [hw];simp,fun k hk _=>hold k hk⟩,Le.refl I,fun b h0 h1=>absurd h0 h1,⟨fun b o hb => ?_,fun p hp => ?_,fun p hp => ?_,?_⟩,?_,hk⟩
    · exact(hold b (y7 (hm.im b o hb))).trans (hm.im b o hb)
    · simp only [List.cons_append,List.nil_append,List.flatten_cons,List.mem_cons] at hp
      rcases hp with rfl|hp
      · exact hnew
      · exact(hold _ (y7 (hm.loc p hp))).trans (hm.loc p hp)
    · simp only [List.cons_append,List.nil_append,List.flatten_cons,List.mem_cons] at hp
      rcases hp with rfl|hp
      · exact hnI
      · exact hm.sep p hp
    · simp only [List.cons_append,List.nil_append,List.flatten_cons,List.map_cons,List.nodup_cons,List.mem_map,not_exists,not_and]
      refine⟨fun p hp e => ?_,hm.nodup⟩
      have:=y7 (hm.loc p hp)
      omega
    · intro p hp;simp at hp;subst hp;exact Nat.le_refl _
theorem j6.a0z {α : Type} {r : o7 α} {i0 : Inhabited α} {by_ : Nat} {l m : List α} (st : SlT P T E α by_) (hU : (∃ E2, P.underlying U = some (.slice E2)) ∨ P.underlying U = some .string) (hx : E6 C σ H x (.vc l)) (hy : a81 P C σ H y m)
    (hb:(l.length+m.length)*by_≤140737488355328) (hn:l.length+m.length≤9223372036854775807) (k:K (.v (l++m))):j6 P N C ⟨d,.call ⟨.builtin .append,#[x,y],#[T,U]⟩,ty,ps,af,g⟩ σ H K:=fun ρ I L hs=>by
  obtain⟨u,h1,⟨a0,rfl⟩,xs,hsl,hrl⟩:=hx ρ I L hs
  obtain⟨v,news,h2,h3,h4⟩:=hy ρ I L hs
  obtain⟨inf,zv,e1,e2,e3,e4,e5⟩:=st.elt.info
  refine OpX.frz (OpX.push fun a w ha hm => ?_)
  have hcells:∀ w',w'.heap=w.heap→(Builtin.firstCells inf.size m.length v).run P w' = .ok news.toArray w':=fun w' hw=>by
    have hm':Mem I L w':=⟨by rw [hw];exact hm.im,by rw [hw];exact hm.loc,hm.sep,hm.nodup⟩
    have:=h3.cells w' hm' m.length (Nat.le_refl _)
    rw [←h3.size,List.take_length,←e3] at this;exact this
  have hboth:(l.length+m.length≤l.length→(Builtin.append_ #[T,U] ty #[.slice a0 l.length l.length,v]).run P w=((match a0 with|some ad=>storeCells (ad.add (l.length*inf.size)) news|none=>pure ()).run P w).andThen fun _ w' => .ok (.slice a0 (l.length+m.length) l.length) w') ∧
    (l.length < l.length+m.length→∀ olds,((Builtin.firstCells inf.size l.length (.slice a0 l.length l.length)).run P w.drew = .ok olds w.drew) →
      (Builtin.append_ #[T,U] ty #[.slice a0 l.length l.length,v]).run P w = .ok (.slice (some ⟨w.heap.size,0,none⟩) (l.length+m.length) (grownCap w (l.length+m.length) l.length E))
        (w.drew.alloc (.cells (olds++news.toArray++Builtin.zeroCells zv.cells (grownCap w (l.length+m.length) l.length E - (l.length+m.length))) E))):=by
    rcases hU with ⟨E2,hU⟩|hU
    · exact a3a st.elt.und e1 e2 hU h3.len hcells hn (by rw [e4];exact hb)
    · exact a2r st.elt.und e1 e2 hU h3.len hcells hn (by rw [e4];exact hb)
  have hop:∀ r,(Builtin.append_ #[T,U] ty #[.slice a0 l.length l.length,v]).run P w=r→(execOp a.eval ⟨d,.call ⟨.builtin .append,#[x,y],#[T,U]⟩,ty,ps,af,g⟩).run P w=r.andThen fun v w' => .ok (.value v) w':=fun r hr=>by
    simp [execOp,resolve,invoke,builtin,ha.ev h1,ha.ev h2,hr]
  by_cases h0:m.length=0
  · have hm0:m = []:=List.eq_nil_of_length_eq_zero h0
    subst hm0
    have hnw:news = []:=by simpa [K0] using h4
    subst hnw
    left
    refine⟨.slice a0 l.length l.length,?_,fun J' hle _=>⟨a8,.v (l ++ []),?_,k⟩⟩
    · rw [hop _ (hboth.1 (by simp))]
      cases a0<;>simp [storeCells]
    · rw [List.append_nil]
      exact⟨_,⟨_,a8,xs,hsl.mono hle,hrl.mono hle⟩,a8⟩
  · right
    have hold:(Builtin.firstCells inf.size l.length (.slice a0 l.length l.length)).run P w.drew = .ok xs.toArray w.drew:=by
      have hm':Mem I L w.drew:=⟨hm.im,hm.loc,hm.sep,hm.nodup⟩
      have:=(Src.sl (P:=P) (L:=L) hsl).cells w.drew hm' l.length (Nat.le_refl _)
      rw [←hsl.len,List.take_length,←e3] at this;exact this
    have hr:=hboth.2 (by omega) _ hold
    have hge:=grownCap_ge w (l.length+m.length) l.length E
    have hcm:grownCap w (l.length+m.length) l.length E≤maxLen:=grownCap_le_maxLen w _ _ E (by unfold maxLen;omega)
    refine⟨.slice (some ⟨w.heap.size,0,none⟩) (l.length+m.length) (grownCap w (l.length+m.length) l.length E),w.drew.alloc (.cells (xs.toArray++news.toArray++Builtin.zeroCells zv.cells (grownCap w (l.length+m.length) l.length E - (l.length+m.length))) E),
      .cells (xs.toArray++news.toArray++Builtin.zeroCells zv.cells (grownCap w (l.length+m.length) l.length E - (l.length+m.length))) E,by rw [hop _ hr];rfl,rfl,rfl,rfl,rfl,fun J' hle hp=>⟨rfl,.v (l++m),⟨_,⟨_,rfl,xs++news,?_,(hrl.append h4).mono hle⟩,rfl⟩,k⟩⟩
    have hob:=hp (w.heap.size,_) (List.mem_singleton.2 rfl)
    rw [List.length_append]
    refine Sl.a3o ⟨_,_,_,hob,fun i q hq => ?_⟩ ?_ hge hcm
    · have hi:=(List.getElem?_eq_some_iff.1 hq).1
      rw [Nat.zero_add]
      have:(xs.toArray++news.toArray++Builtin.zeroCells zv.cells (grownCap w (l.length+m.length) l.length E - (l.length+m.length)))=(xs++news++(Builtin.zeroCells zv.cells (grownCap w (l.length+m.length) l.length E - (l.length+m.length))).toList).toArray:=by
        apply Array.ext';simp
      rw [this,List.getElem?_toArray,List.getElem?_append_left hi];exact hq
    · rw [List.length_append,hsl.len,h3.size,Nat.add_mul]
end Go.Ab
namespace Go.Ab
open Go.Fl Go.RowKit
open o7 (rep)
variable {P:Program} {C:Ctx} {N:Nat} {σ:x7} {H:j7} {K:AV→Prop} {KH:AV→j7→Prop} {d:Option Nat} {ty:TypeId} {ps:String} {af:Array Edge} {g:Option (Nat×Bool)}
variable {x y z:Operand} {T T2 E S D U:TypeId}
theorem a2N {I:Im}:∀ {l:List UInt8} {cs:List Value},K0 I l cs↔cs=x5 l
 | [],cs=>by simp [K0,x5]
 | x::l,cs=>by
  constructor
  ·rintro⟨c,r,rfl,h1,h2⟩
   rw [a2N.1 h2,show c = [Fl.u8 x] from h1];rfl
  ·rintro rfl
   exact⟨[Fl.u8 x],x5 l,a8,a8,a2N.2 a8⟩
theorem a6b {I:Im}:∀ {l:List UInt32} {cs:List Value},K0 I l cs↔cs=l.map Fl.u32
 | [],cs=>by simp [K0]
 | x::l,cs=>by
  constructor
  ·rintro⟨c,r,rfl,h1,h2⟩
   rw [a6b.1 h2,show c = [Fl.u32 x] from h1];rfl
  ·rintro rfl
   exact⟨[Fl.u32 x],l.map Fl.u32,a8,a8,a6b.2 a8⟩
theorem E6.b1z {n:Nat} {a:I8 n UInt8} (h:E6 C σ H x (.v a)) {ρ:Env} {I:Im} {L:Lh} (hs:Z2 C I L σ H ρ):ev ρ x=some (.agg (x5 a.l).toArray):=by
 obtain⟨u,h1,cs,h2,rfl⟩:=h ρ I L hs
 rw [a2N.1 h2] at h1
 exact h1
theorem c0b {n:Nat} {α:Type} [DecidableEq α] (a b:I8 n α):decide (a.l=b.l)=decide (a=b):=by
 rw [decide_eq_decide]
 exact⟨I8.ext,fun h=>by rw [h]⟩
theorem j6.a8p {n : Nat} {a b : I8 n UInt8} (hT : P.underlying T = some (.array n E)) (hs : D5 P E 1) (hE : P.underlying E = some (.int .u8)) (hg : P.eqGuardType P.depth T = false) (hx : E6 C σ H x (.v a)) (hy : E6 C σ H y (.v b)) (k : K (.v (decide (a = b)))) :
    j6 P N C ⟨d,.binOp .eql T x y T2,ty,ps,af,g⟩ σ H K :=
  .vk k (fun ρ I L hst => .c4i hT hs hE hg a.h b.h (hx.b1z hst) (hy.b1z hst) ⟨_,rfl,by rw [c0b];rfl⟩)
theorem b7M {a b:ByteArray} {s t:Y4} (ha:a.data.toList=s.l) (hb:b.data.toList=t.l):(a.toList == b.toList)=decide (s=t):=by
 have h1:∀ q:ByteArray,q.toList=q.data.toList:=fun q=>ByteArray.toList_eq q
 rw [h1,h1,ha,hb]
 cases s;cases t
 exact Bool.eq_iff_iff.2 (by simp)
theorem j6.c4y {s t:Y4} (hx:E6 C σ H x (.v s)) (hy:E6 C σ H y (.v t)) (k:K (.v (decide (s=t)))):j6 P N C ⟨d,.binOp .eql T x y T2,ty,ps,af,g⟩ σ H K :=
 .vk k (fun ρ I L hst=>by
  obtain⟨a,h1,h2⟩:=hx.str hst
  obtain⟨b,h3,h4⟩:=hy.str hst
  exact .mk ⟨_,rfl,rfl⟩ fun ac w ha hm=>by simp [execOp,ha.ev h1,ha.ev h3,eqGuard,binOp_string_eql,b7M h2 h4,asV,o7.agg])
theorem A0.W9 {s : Y4} (hS : P.underlying S = some .string) (hD : P.underlying D = some (.slice E)) (hE : P.underlying E = some (.int .u8)) (hx : E6 C σ H x (.v s))
    (k:∀ w,KH (.raw w) ((true,.own E w s.l)::H)):A0 P C N ⟨d,.convert S D x,ty,ps,af,g⟩ σ H KH :=
  .ofX fun ρ I L hs a w ha hm=>by
    obtain⟨b,h1,h2⟩:=hx.str hs
    have hb:=hx.a9p hs
    have hsz:b.size=s.l.length:=by rw [←h2];rfl
    have hrun:=run_bytes_of_string (P:=P) w S D E b hS hD hE
    have hop:(execOp a.eval ⟨d,.convert S D x,ty,ps,af,g⟩).run P w=((convert S D (.string b)).run P w).andThen fun v w' => .ok (.value v) w':=by
      simp [execOp,ha.ev h1]
    rw [hop,hrun]
    generalize hC:bytesRow b (grownCap w b.size 0 E)=R
    have hcap:grownCap w b.size 0 E≥b.size:=grownCap_ge w b.size 0 E
    have hcapm:grownCap w b.size 0 E≤maxLen:=grownCap_le_maxLen w b.size 0 E (by rw [hsz];unfold maxLen;omega)
    generalize grownCap w b.size 0 E=c at *
    have hR:R.toList=x5 s.l++List.replicate (c - b.size) (Value.int .u8 0):=by
      rw [←hC,←h2]
      simp [bytesRow,x5,Fl.u8]
    have hnI:I w.heap.size=none:=by
      cases hi:I w.heap.size with
      | none=>rfl
      | some o=>have:=y7 (hm.im _ _ hi);omega
    have hnew:(w.drew.alloc (.cells R E (R.size,R.size+1))).heap[w.heap.size]?=some (.cells R E (R.size,R.size+1)):=by
      show(w.heap.push _)[w.heap.size]?=_
      simp
    have hold:∀ k,k < w.heap.size→(w.drew.alloc (.cells R E (R.size,R.size+1))).heap[k]?=w.heap[k]?:=fun k hk=>by
      show(w.heap.push _)[k]?=_
      rw [Array.getElem?_push_lt hk,Array.getElem?_eq_getElem hk]
    have hRl:R=(x5 s.l++List.replicate (c - b.size) (Value.int .u8 0)).toArray:=by rw [←hR]
    have hbl:(x5 s.l).length=s.l.length:=by simp [x5]
    refine⟨I,[[(w.heap.size,.cells R E (R.size,R.size+1))]],⟨rfl,rfl,rfl,by show _≤(w.heap.push _).size;simp,fun k hk _=>hold k hk⟩,Le.refl I,fun b h0 h1=>absurd h0 h1,⟨fun b o hb => ?_,fun p hp => ?_,fun p hp => ?_,?_⟩,?_,.raw (slc w.heap.size 0 b.size c),.own E (slc w.heap.size 0 b.size c) s.l,_,rfl,rfl,⟨x5 s.l,.inr ⟨w.heap.size,c,_,(R.size,R.size+1),by rw [hsz],by rw [hRl],by rw [hbl];exact(Nat.mul_one _).symm,?_,by omega,hcapm,.inr ?_⟩,a2N.2 rfl⟩,k _⟩
    · exact(hold b (y7 (hm.im b o hb))).trans (hm.im b o hb)
    · simp only [List.cons_append,List.nil_append,List.flatten_cons,List.mem_cons] at hp
      rcases hp with rfl|hp
      · exact hnew
      · exact(hold _ (y7 (hm.loc p hp))).trans (hm.loc p hp)
    · simp only [List.cons_append,List.nil_append,List.flatten_cons,List.mem_cons] at hp
      rcases hp with rfl|hp
      · exact hnI
      · exact hm.sep p hp
    · simp only [List.cons_append,List.nil_append,List.flatten_cons,List.map_cons,List.nodup_cons,List.mem_map,not_exists,not_and]
      refine⟨fun p hp e => ?_,hm.nodup⟩
      have:=y7 (hm.loc p hp)
      omega
    · intro p hp;simp at hp;subst hp;exact Nat.le_refl _
    · rw [List.length_append,hbl,List.length_replicate]
      show _=c*1
      omega
    · rw [hRl];simp
theorem A0.same {α : Type} {r : o7 α} {t : Nat} {w : Value} {l : List α} {bb : Bool} {F : Bool × D6 → j7} (hT : P.underlying T = some (.slice E)) (hE : P.underlying E = some (.int .u8)) (hx : E9 σ t = some (.raw w)) (hH : u4 H (bb, .own E w l) F) (hl : l ≠ [])
    (k:KH (.raw w) (F (bb,.own E w l))):A0 P C N ⟨d,.convert T T (.tmp t),ty,ps,af,g⟩ σ H KH:=fun ρ I L hs=>by
  obtain⟨u,h1,rfl⟩:=hs.env t _ hx
  obtain⟨j,X,h5,h6,h7⟩:=hH.get hs.heap
  obtain⟨xs,h8,h9⟩:=h6.1
  intro a w ha hst
  have hx2:a.eval (.tmp t)=_:=ha.ev (x := .tmp t) h1
  rcases h8 with ⟨⟨a1,rfl⟩,hn,rfl,rfl⟩|⟨b,c,sp,q,rfl,rfl,e1,e2,e3,e4,e5⟩
  · exact absurd (List.eq_nil_of_length_eq_zero hn) hl
  · have hb:=hst.mem.loc (b,.cells (xs++sp).toArray E q) (D2 h5 (by simp))
    have hsh:w.shape? b=some (E,(xs++sp).length):=by simp [World.shape?,hb]
    have hr:(execOp a.eval ⟨d,.convert T T (.tmp t),ty,ps,af,g⟩).run P w = .ok (.value (slc b 0 l.length c)) (w.freeze ⟨b,(xs++sp).length,none⟩ 1):=by
      simp only [execOp,hx2,convert,Sem.run_bind,run_underlying hT,run_underlying hE,Result.andThen_ok]
      simp [markStringish,hsh]
    rw [hr]
    refine⟨I,L.set j [(b,.cells (xs++sp).toArray E ((xs++sp).length,(xs++sp).length+1))],hst.write (w':=w.freeze ⟨b,(xs++sp).length,none⟩ 1) h5 ?_ ?_ ?_ a8 a8 a8,Le.refl I,.raw _,_,a8,h7 I (bb,.own E _ l) _ (Le.refl I) ⟨⟨xs,.inr ⟨b,c,sp,_,a8,a8,e1,e2,e3,e4,.inr a8⟩,h9⟩,fun hbb p hp => ?_⟩,k⟩
    · have hlt:=y7 hb
      simp only [World.freeze,Nat.one_ne_zero,if_false]
      rw [Array.getElem?_modify,if_pos rfl,hb]
      rcases e5 with rfl|rfl
      · simp
      · simp
    · intro q hq
      simp only [World.freeze,Nat.one_ne_zero,if_false]
      rw [Array.getElem?_modify,if_neg (Ne.symm hq)]
    · simp [World.freeze]
    · have:=h6.2 hbb _ (List.mem_singleton.2 rfl)
      simp only [List.mem_singleton] at hp
      subst hp;exact this
theorem A0.c0c {α : Type} {r : o7 α} {i0 : Inhabited α} {t : Nat} {w : Value} {l m : List α} {bb : Bool} {F : Bool × D6 → j7} (tE : G2 P E α) (hT : P.underlying T = some (.slice E)) (hx : E9 σ t = some (.raw w)) (hH : u4 H (bb, .own E w l) F) (hy : a81 P C σ H y m)
    (hb:m.length≤9223372036854775807) (k:KH (.v ((min m.length l.length:Nat):Int)) (F (bb,.own E w (m.take l.length++l.drop m.length)))):A0 P C N ⟨d,.call ⟨.builtin .copy,#[.tmp t,y],#[T,U]⟩,ty,ps,af,g⟩ σ H KH:=fun ρ I L hs=>by
  obtain⟨u,h1,rfl⟩:=hs.env t _ hx
  obtain⟨v,news,h2,h3,h4⟩:=hy ρ I L hs
  obtain⟨j,X,h5,h6,h7⟩:=hH.get hs.heap
  obtain⟨xs,h8,h9⟩:=h6.1
  intro a w ha hst
  have hmem:=hst.mem
  generalize hmn:min m.length l.length=n at k
  have hnm:Nat.min m.length l.length=n:=hmn
  have hsz:=tE.size.run w
  have hfc:=h3.cells w hmem n (by omega)
  have hl4:=h4.len
  have hpos:0 < o7.size α:=Nat.pos_of_ne_zero tE.pos
  have hlist:m.take l.length=m.take n:=by rw [←hmn,List.take_eq_take_iff];omega
  have hdrop:l.drop m.length=l.drop n:=by
    by_cases h:m.length≤l.length
    · rw [←hmn,Nat.min_eq_left h]
    · rw [List.drop_eq_nil_of_le (by omega),List.drop_eq_nil_of_le (by omega)]
  have hrep:K0 I (m.take l.length++l.drop m.length) (C7 xs 0 (news.take (n*o7.size α))):=by
    rw [hlist,hdrop]
    have h10:=h4.cut 0 n (by omega)
    have h11:=h9.cut n l.length (Nat.le_refl _)
    simp only [List.drop_zero,Nat.zero_mul,List.take_length] at h10 h11
    rw [←h9.len,List.take_length] at h11
    have hl:(news.take (n*o7.size α)).length=n*o7.size α:=by
      rw [List.length_take,hl4];exact Nat.min_eq_left (Nat.mul_le_mul_right _ (by omega))
    simp only [C7,List.take_zero,List.nil_append,Nat.zero_add]
    rw [hl]
    exact h10.append h11
  have hlen2:(m.take l.length++l.drop m.length).length=l.length:=by
    rw [hlist,hdrop];simp;omega
  rcases h8 with ⟨⟨a1,rfl⟩,hn0,rfl,rfl⟩|⟨b,c,sp,q,rfl,rfl,e1,e2,e3,e4,e5⟩
  · have hn00:n=0:=by omega
    have hr:(execOp a.eval ⟨d,.call ⟨.builtin .copy,#[.tmp t,y],#[T,U]⟩,ty,ps,af,g⟩).run P w = .ok (.value (goInt n)) w:=by
      simp only [execOp,resolve,invoke,builtin,Builtin.copy_,Sem.run_bind,run_underlying hT,Result.andThen_ok,ha.ev (x := .tmp t) h1,ha.ev h2,h3.len w,hsz,hn0] at hfc hnm ⊢
      simp [run_underlying hT,h3.len w,hsz,ha.ev (x := .tmp t) h1,ha.ev h2,hn0,hn00] at hfc hnm ⊢
      cases a1<;>simp [hnm,hfc,storeCells]
    rw [hr]
    refine⟨I,L.set j [],hst.b2U j,Le.refl I,.v ((n:Nat):Int),_,⟨_,⟨rfl,by omega,by omega⟩,rfl⟩,h7 I (bb,.own E _ (m.take l.length++l.drop m.length)) [] (Le.refl I) ⟨⟨_,.inl ⟨⟨a1,rfl⟩,by rw [hlen2];exact hn0,?_,rfl⟩,hrep⟩,by simp⟩,k⟩
    have:=hrep.len
    rw [hlen2,hn0,Nat.zero_mul] at this
    exact List.eq_nil_of_length_eq_zero this
  · have hbh:=hst.mem.loc (b,.cells (xs++sp).toArray E q) (D2 h5 (by simp))
    have hxl:xs.length=l.length*o7.size α:=h9.len
    have hnl:(news.take (n*o7.size α)).length=n*o7.size α:=by
      rw [List.length_take,hl4];exact Nat.min_eq_left (Nat.mul_le_mul_right _ (by omega))
    have hfit:0+(news.take (n*o7.size α)).length≤xs.length:=by rw [hnl,hxl,Nat.zero_add];exact Nat.mul_le_mul_right _ (by omega)
    have hall:∀ u∈news.take (n*o7.size α),u.oneCell'=true:=fun u hu=>List.all_eq_true.1 h4.flat u (List.mem_of_mem_take hu)
    have hst2:=T1 P b 0 E q (news.take (n*o7.size α)) 0 (xs++sp).toArray w hbh (by simp only [List.size_toArray,List.length_append];omega) hall (fun j hj=>by rcases e5 with rfl|rfl<;>simp at hj ⊢ <;> omega)
    have hr:(execOp a.eval ⟨d,.call ⟨.builtin .copy,#[.tmp t,y],#[T,U]⟩,ty,ps,af,g⟩).run P w = .ok (.value (goInt n)) (w.setRow b (C7 (xs++sp) 0 (news.take (n*o7.size α))).toArray):=by
      simp [execOp,resolve,invoke,builtin,Builtin.copy_,run_underlying hT,h3.len w,hsz,ha.ev (x := .tmp t) h1,ha.ev h2,hmn,hfc]
      simp only [Nat.add_zero] at hst2
      rw [show(⟨b,0,none⟩:Addr) = { block:=b,off:=0 } from rfl] at hst2
      simp [hst2,C7]
    rw [hr]
    have hseg:C7 (xs++sp) 0 (news.take (n*o7.size α))=C7 xs 0 (news.take (n*o7.size α))++sp:=a5d xs sp _ _ hfit
    have hlen:(C7 xs 0 (news.take (n*o7.size α))).length=xs.length:=F4 _ _ _ hfit
    refine⟨I,_,a7Q hst h5 _,Le.refl I,.v ((n:Nat):Int),_,⟨_,⟨rfl,by omega,by omega⟩,rfl⟩,h7 I (bb,.own E _ (m.take l.length++l.drop m.length)) _ (Le.refl I) ⟨⟨_,.inr ⟨b,c,sp,q,by rw [hlen2],by rw [hseg],by rw [hlen,hlen2];exact e1,by rw [List.length_append,hlen,←List.length_append];exact e2,by rw [hlen2];exact e3,e4,?_⟩,hrep⟩,fun hbb p hp => ?_⟩,k⟩
    · rw [List.length_append,hlen,←List.length_append];exact e5
    · have:=h6.2 hbb _ (List.mem_singleton.2 rfl)
      simp only [List.mem_singleton] at hp
      subst hp;exact this
end Go.Ab
namespace Go.Ab
open Go.Fl Go.RowKit
open o7 (rep)
theorem b7N {b w:Bool} (h:¬b=w):b = !w:=by cases b<;>cases w<;>simp_all
def a82 (P:Program) (C:Ctx) (N:Nat) (σ0:x7) (accP:List (Nat×AV)) (F:List (Nat×AV)→j7→Prop):List (Nat×Oper×List (Nat×Nat))→List (Nat×AV)→j7→Prop
  | [],cacc,H=>F cacc H
  | (i,o,s)::rest,cacc,H =>
    match o.guard,o9 accP i with
    | none,none=>A0 P C N o (E3 σ0 (cacc++accP) s (C6 o)) H (fun r H'=>a82 P C N σ0 accP F rest ((i,r)::cacc) H')
    | none,some r0=>A0 P C N o (E3 σ0 (cacc++accP) s (C6 o)) H (fun r H'=>r=r0∧a82 P C N σ0 accP F rest ((i,r0)::cacc) H')
    | some (g, want), none => ∃ b, o9 accP g = some (.v b) ∧ (b = want → A0 P C N o (E3 σ0 (cacc ++ accP) s (C6 o)) H (fun r H' => a82 P C N σ0 accP F rest ((i, r) :: cacc) H')) ∧
        (b=(!want)→a82 P C N σ0 accP F rest ((i,.any)::cacc) H)
    | some (g, want), some r0 => ∃ b c, o9 accP g = some (.v b) ∧ r0 = .opt (b == want) c ∧ (b = want → A0 P C N o (E3 σ0 (cacc ++ accP) s (C6 o)) H (fun r H' => r = c ∧ a82 P C N σ0 accP F rest ((i, r0) :: cacc) H')) ∧
        (b=(!want)→a82 P C N σ0 accP F rest ((i,r0)::cacc) H)
def V8 (P:Program) (C:Ctx) (N:Nat) (σ0:x7) {ι:Type 1} (HT:ι→j7) (accP:List (Nat×AV)) (F:List (Nat×AV)→j7→Prop):List (Nat×Oper×List (Nat×Nat))→List (Nat×AV)→j7→Prop
  | [],cacc,H=>(∃ Hp,H=HT Hp)∧F cacc H
  | (i,o,s)::rest,cacc,H=>(∃ Hp,H=HT Hp) ∧
    match o.guard,o9 accP i with
    | none,none=>A0 P C N o (E3 σ0 (cacc++accP) s (C6 o)) H (fun r H'=>V8 P C N σ0 HT accP F rest ((i,r)::cacc) H')
    | none,some r0=>A0 P C N o (E3 σ0 (cacc++accP) s (C6 o)) H (fun r H'=>r=r0∧V8 P C N σ0 HT accP F rest ((i,r0)::cacc) H')
    | some (g, want), none => ∃ b, o9 accP g = some (.v b) ∧ (b = want → A0 P C N o (E3 σ0 (cacc ++ accP) s (C6 o)) H (fun r H' => V8 P C N σ0 HT accP F rest ((i, r) :: cacc) H')) ∧
        (b=(!want)→V8 P C N σ0 HT accP F rest ((i,.any)::cacc) H)
    | some (g, want), some r0 => ∃ b c, o9 accP g = some (.v b) ∧ r0 = .opt (b == want) c ∧ (b = want → A0 P C N o (E3 σ0 (cacc ++ accP) s (C6 o)) H (fun r H' => r = c ∧ V8 P C N σ0 HT accP F rest ((i, r0) :: cacc) H')) ∧
        (b=(!want)→V8 P C N σ0 HT accP F rest ((i,r0)::cacc) H)
theorem V8.tail {P:Program} {C:Ctx} {N:Nat} {σ0:x7} {ι:Type 1} {HT:ι→j7} {accP:List (Nat×AV)} {F:List (Nat×AV)→j7→Prop}:∀ {l:List (Nat×Oper×List (Nat×Nat))} {cacc:List (Nat×AV)} {H:j7},V8 P C N σ0 HT accP F l cacc H→∃ Hp,H=HT Hp
 | [],_,_,h=>h.1
 | _::_,_,_,h=>h.1
theorem A0.mono {P:Program} {C:Ctx} {N:Nat} {o:Oper} {σ:x7} {H:j7} {K K':AV→j7→Prop} (h:A0 P C N o σ H K) (hk:∀ r H',K r H'→K' r H'):A0 P C N o σ H K':=fun ρ I L hs a w ha hst =>
 (h ρ I L hs a w ha hst).mono fun v w' ⟨J,L',q1,q2,r,H',q3,q4,q5⟩=>⟨J,L',q1,q2,r,H',q3,q4,hk r H' q5⟩
theorem a82.toK {P:Program} {C:Ctx} {N:Nat} {σ0:x7} {accP:List (Nat×AV)} {F:List (Nat×AV)→j7→Prop}:∀ {l:List (Nat×Oper×List (Nat×Nat))} {cacc:List (Nat×AV)} {H:j7},a82 P C N σ0 accP F l cacc H→V8 P C N σ0 (fun H=>H) accP F l cacc H
 | [],_,H,h=>⟨⟨H,rfl⟩,h⟩
 | (i,o,s)::rest,cacc,H,h=>by
  refine⟨⟨H,a8⟩,?_⟩
  unfold a82 at h
  cases hg:o.guard with
  | none =>
   cases hr:o9 accP i with
   | none=>simp only [hg,hr] at h ⊢;exact h.mono fun r H' k=>k.toK
   | some r0=>simp only [hg,hr] at h ⊢;exact h.mono fun r H' k=>⟨k.1,k.2.toK⟩
  | some gw =>
   obtain⟨g,want⟩:=gw
   cases hr:o9 accP i with
   | none =>
    simp only [hg,hr] at h ⊢
    obtain⟨b,h1,h2,h3⟩:=h
    exact⟨b,h1,fun e=>(h2 e).mono fun r H' k=>k.toK,fun e=>(h3 e).toK⟩
   | some r0 =>
    simp only [hg,hr] at h ⊢
    obtain⟨b,c,h1,h2,h3,h4⟩:=h
    exact⟨b,c,h1,h2,fun e=>(h3 e).mono fun r H' k=>⟨k.1,k.2.toK⟩,fun e=>(h4 e).toK⟩
def W3 (ops:Array Oper) (n:Nat) (ss:List (List (Nat×Nat))) (ci:List Nat):Bool :=
 (List.range ci.length).all (fun k=>match ci[k]? with
  | some i=>Nat.blt i n&&(match k with|0=>true|k'+1=>match ci[k']? with|some j=>Nat.blt j i&&Region.waitsFor .any ops i j|none=>false)
  | none=>false)
theorem B3 (a b:List (Nat×AV)) (j:Nat):o9 (a++b) j=(match o9 a j with|some r=>some r|none=>o9 b j):=by
 induction a with
 | nil=>rfl
 | cons p a ih =>
  simp only [List.cons_append,o9]
  cases Nat.beq p.1 j with
  | true=>rfl
  | false=>simpa using ih
theorem y2 (i:Nat) (r:AV) (a:List (Nat×AV)) (j:Nat):o9 ((i,r)::a) j=if i=j then some r else o9 a j:=by
 by_cases h:i=j
 ·subst h;simp [o9]
 ·simp [o9,h,a5q h]
theorem b6c {s:List (Nat×Nat)} {t j:Nat} (h:J8 s t=some j):(t,j)∈s:=by
 induction s with
 | nil=>simp [J8] at h
 | cons p s ih =>
  simp only [J8] at h
  cases hb:Nat.beq p.1 t with
  | true =>
   simp only [hb,cond_true,Option.some.injEq] at h
   have:=Nat.eq_of_beq_eq_true hb
   subst h;subst this;exact List.mem_cons_self
  | false=>simp only [hb,cond_false] at h;exact List.mem_cons_of_mem _ (ih h)
theorem a4w {σ0:x7} {a b:List (Nat×AV)} {s:List (Nat×Nat)} (h:∀ t j,J8 s t=some j→o9 a j=o9 b j):∀ ts,E3 σ0 a s ts=E3 σ0 b s ts
 | []=>rfl
 | t::ts=>by
  simp only [E3]
  cases hs:J8 s t with
  | none=>simp only [a4w h ts]
  | some j=>simp only [h t j hs,a4w h ts]
theorem a1u {σ0:x7} {acc:List (Nat×AV)} {s:List (Nat×Nat)}:∀ {ts:List Nat} {t:Nat} {a:AV},E9 (E3 σ0 acc s ts) t=some a→t∈ts∧(match J8 s t with|none=>E9 σ0 t|some j=>o9 acc j)=some a
 | [],t,a,h=>by simp [E3,E9] at h
 | u::ts,t,a,h=>by
  simp only [E3] at h
  split at h
  ·rename_i b hb
   rw [I9] at h
   by_cases e:u=t
   ·subst e;simp at h;subst h;exact⟨List.mem_cons_self,hb⟩
   ·rw [if_neg e] at h
    have:=a1u h
    exact⟨List.mem_cons_of_mem _ this.1,this.2⟩
  ·have:=a1u h
   exact⟨List.mem_cons_of_mem _ this.1,this.2⟩
theorem a4W {σ0:x7} {acc:List (Nat×AV)} {s:List (Nat×Nat)} {t:Nat} {a:AV} (h:(match J8 s t with|none=>E9 σ0 t|some j=>o9 acc j)=some a):∀ {ts:List Nat},t∈ts→E9 (E3 σ0 acc s ts) t=some a
 | [],hm=>by cases hm
 | u::ts,hm=>by
  by_cases e:u=t
  ·subst e
   cases hs:J8 s u with
   | none=>simp only [hs] at h;simp only [E3,hs,h];rw [I9,if_pos rfl]
   | some j=>simp only [hs] at h;simp only [E3,hs,h];rw [I9,if_pos rfl]
  ·have hm':t∈ts:=by
    rcases List.mem_cons.1 hm with h1|h1
    ·exact absurd h1.symm e
    ·exact h1
   simp only [E3]
   split
   ·rw [I9,if_neg e];exact a4W h hm'
   ·exact a4W h hm'
def a1n (ops:Array Oper) (n:Nat) (ss:List (List (Nat×Nat))) (i:Nat):Bool :=
 match ops[i]?,ss[i]? with
 | some o,some s=>(C6 o).all (a0V ops n i s) &&
  (match o.guard with|none=>true|some (g,_)=>Nat.blt g n&&Region.waitsFor .any ops i g&&((ops[g]?).bind (·.dst)).isSome)
 | _,_=>false
def a6c (ops:Array Oper) (n:Nat):Bool:=(List.range n).all fun i=>(List.range i).all fun j=>match (ops[i]?).bind (·.dst) with|some d => !((ops[j]?).bind (·.dst) == some d)|none=>true
def a2u (ops:Array Oper) (n:Nat) (ss:List (List (Nat×Nat))):Bool :=
 Nat.ble n ops.size&&a0c ops&&(List.range n).all (a1n ops n ss)&&a6c ops n &&
 (n == ops.size||(Region.sinkB .any ops n&&Region.chainB .any ops n))&&Region.seqB .any ops (ops.size - n) n (K9 ops.size n)
theorem put_defers (a:Act) (d:Option Nat) (v:Value):(a.put d v).defers=a.defers:=by cases d<;>rfl
theorem b1A (a:Act) (d:Option Nat) (v:Value):(a.put d v).tmps.size=a.tmps.size:=by cases d<;>simp [Act.put]
theorem b0j (a:Act) {d:Option Nat} {t:Nat} (v:Value) (h:d≠some t):(a.put d v).tmps[t]?=a.tmps[t]?:=by
 cases d with
 | none=>rfl
 | some d=>simp [Act.put,Array.getElem?_setIfInBounds_ne (show d≠t from fun e=>h (by rw [e]))]
theorem put_eq (a:Act) {d:Nat} (v:Value) (h:d < a.tmps.size):(a.put (some d) v).tmps[d]?=some v:=by simp [Act.put,h]
def a2v (P:Program) (N:Nat) (C:Ctx) (σ0:x7) {ι:Type 1} (HT:ι→j7) (accP:List (Nat×AV)) (o:Oper) (s:List (Nat×Nat)) (r:AV):Prop:=∀ Hp,a5g P N C σ0 (HT Hp) accP o s r
structure b6d (P : Program) (C : Ctx) (N n : Nat) (l : List Oper) (ci : List Nat) (cl : List (Nat × Oper × List (Nat × Nat))) (σ0 : x7) {ι : Type 1} (HT : ι → j7) (accP : List (Nat × AV)) (F : List (Nat × AV) → j7 → Prop) (ρ0 : Env) (I : Im)
    (listed:Array Bool) (k:Nat) (cacc:List (Nat×AV)) (H:j7) (J:Im) (L:Lh) (vs:Nat→Value) (a:Act) (w:World):Prop where
  head:HeadInv .any l.toArray n listed
  le:Le I J
  U6:Le C.I0 J
  st:St C J L w
  heap:U0 C.w0.heap.size J H L
  kle:k≤ci.length
  ch:∀ m i,ci[m]?=some i→(listed.getD i false=true↔m < k)
  pl:V8 P C N σ0 HT accP F (cl.drop k) cacc H
  keys:∀ j r,o9 cacc j=some r→j∈ci
  prom:∀ j r r0,o9 cacc j=some r→o9 accP j=some r0→r=r0
  b7O:∀ j,j∈ci→listed.getD j false=true→∃ r,o9 cacc j=some r
  val:∀ j,j < n→listed.getD j false=true→∃ r,o9 (cacc++accP) j=some r∧E1 J r (vs j)
  defers:a.defers = []
  size:a.tmps.size=N
  a4l:∀ j d,j < n→listed.getD j false=true→(l.toArray[j]?).bind (·.dst)=some d→a.tmps[d]?=some (vs j)
  a6A:∀ t v,Fl.look ρ0 t=some v→(∀ j,j < n→listed.getD j false=true→(l.toArray[j]?).bind (·.dst)≠some t)→a.tmps[t]?=some v
section
variable {P:Program} {C:Ctx} {N n:Nat} {l:List Oper} {ci:List Nat} {cl:List (Nat×Oper×List (Nat×Nat))} {ss:List (List (Nat×Nat))} {σ0:x7} {ι:Type 1} {HT:ι→j7} {accP:List (Nat×AV)} {F:List (Nat×AV)→j7→Prop} {ρ0:Env} {I:Im} {L0:Lh} {H0:j7}
theorem b6d.step {listed : Array Bool} {k : Nat} {cacc : List (Nat × AV)} {H : j7} {J : Im} {L : Lh} {vs : Nat → Value} {a : Act} {w : World} {Q' : Exit → Act → World → Prop}
    (h0:Z2 C I L0 σ0 H0 ρ0) (hN:K2 N l=true) (hok:∀ i,i < n→a1n l.toArray n ss i=true) (hdst:a6c l.toArray n=true) (hch:W3 l.toArray n ss ci=true)
    (hcl:∀ (m i:Nat) (o:Oper) (s:List (Nat×Nat)),ci[m]?=some i→l[i]?=some o→ss[i]?=some s→cl[m]?=some (i,o,s)) (hnd:ci.Nodup)
    (hp:∀ i o s,i < n→i∉ci→l[i]?=some o→ss[i]?=some s→∃ r,o9 accP i=some r∧a2v P N C σ0 HT accP o s r)
    (inv:b6d P C N n l ci cl σ0 HT accP F ρ0 I listed k cacc H J L vs a w) {i:Nat} (hr:i∈Region.ready .any l.toArray listed) (hin:i < n)
    {K:Act→World→Prop} (hK:∀ k cacc H J L vs a' w,b6d P C N n l ci cl σ0 HT accP F ρ0 I (listed.setIfInBounds i true) k cacc H J L vs a' w→K a' w) :
    wpOpIn C.fen 0 P l.toArray Q' i K a w:=by
  obtain⟨hun,o,ho,hall⟩:=mem_ready.1 hr
  have hol:l[i]?=some o:=by simpa using ho
  have hok':=hok i hin
  unfold a1n at hok'
  simp only [ho] at hok'
  cases hs:ss[i]? with
  | none=>simp [hs] at hok'
  | some s =>
  simp only [hs,Bool.and_eq_true] at hok'
  obtain⟨hreads,hguard⟩:=hok'
  have hdN:∀ d,o.dst=some d→d < N:=fun d hod=>by
    have:=List.all_eq_true.1 hN o (List.mem_of_getElem? hol)
    rw [hod] at this
    simpa [Nat.blt_eq] using this
  have hlisted:∀ j,Region.waitsFor .any l.toArray i j=true→listed.getD j false=true:=fun j hw=>by
    obtain⟨e,he,hb,heq⟩:=X8 ho hw
    exact heq▸hall e he hb
  have hilt:i < listed.size:=by
    rcases Nat.lt_or_ge i listed.size with h'|h'
    · exact h'
    · simp [Array.getElem?_eq_none h'] at hun
  have hiun:listed.getD i false=false:=getD_both hun
  have hnot:∀ j,Region.waitsFor .any l.toArray j i=true→listed.getD j false=true→False:=fun j hw hl=>by
    obtain⟨oj,hoj,e,he,hb,heq⟩:=Region.waitsFor_spec hw
    have:=inv.head.closed j oj hoj hl e he hb
    rw [heq,hiun] at this
    cases this
  have hch1:=hch
  unfold W3 at hch1
  let g:Nat→Option Value:=fun t=>match J8 s t with|some j=>some (vs j)|none=>Fl.look ρ0 t
  have hsrcl:∀ t∈C6 o,∀ j,J8 s t=some j→j < n∧listed.getD j false=true∧(l.toArray[j]?).bind (·.dst)=some t:=fun t ht j hj=>by
    have hro:=List.all_eq_true.1 hreads t ht
    unfold a0V at hro
    simp only [hj,Bool.and_eq_true,beq_iff_eq] at hro
    exact⟨by simpa [Nat.blt_eq] using hro.1.1,hlisted j hro.2,hro.1.2⟩
  have hfits:Fits N (a0W g (C6 o)) a:=by
    refine⟨inv.defers,inv.size,fun t v hv => ?_⟩
    obtain⟨hmem,hg⟩:=a1q hv
    cases hsrc:J8 s t with
    | some j =>
      obtain⟨h1,h2,h3⟩:=hsrcl t hmem j hsrc
      have hgv:vs j=v:=by simpa [g,hsrc] using hg
      rw [←hgv]
      exact inv.a4l j t h1 h2 h3
    | none =>
      have hro:=List.all_eq_true.1 hreads t hmem
      unfold a0V at hro
      simp only [hsrc] at hro
      refine inv.a6A t v (by simpa [g,hsrc] using hg) fun j hj hl hdj => ?_
      have h1:=List.all_eq_true.1 hro j (List.mem_range.2 hj)
      simp only [hdj,beq_self_eq_true,Bool.not_true,Bool.false_or,Bool.or_eq_true,beq_iff_eq] at h1
      rcases h1 with h1|h1
      · subst h1;rw [hiun] at hl;cases hl
      · exact hnot j h1 hl
  have henv:∀ t b,E9 (E3 σ0 (cacc++accP) s (C6 o)) t=some b→∃ u,Fl.look (a0W g (C6 o)) t=some u∧E1 J b u:=fun t b hb=>by
    obtain⟨hmem,hb2⟩:=a1u hb
    cases hsrc:J8 s t with
    | some j =>
      simp only [hsrc] at hb2
      obtain⟨h1,h2,_⟩:=hsrcl t hmem j hsrc
      obtain⟨r,h3,h4⟩:=inv.val j h1 h2
      rw [hb2] at h3
      cases h3
      exact⟨vs j,by rw [O2 hmem];simp [g,hsrc],h4⟩
    | none =>
      simp only [hsrc] at hb2
      obtain⟨u,h1,h2⟩:=h0.env t b hb2
      exact⟨u,by rw [O2 hmem];simpa [g,hsrc] using h1,h2.mono inv.le⟩
  have hR:Z2 C J L (E3 σ0 (cacc++accP) s (C6 o)) H (a0W g (C6 o)):=⟨henv,inv.heap,inv.U6⟩
  have hput:∀ j,j≠i→(listed.setIfInBounds i true).getD j false=listed.getD j false:=fun j hj=>getD_set_ne false (Ne.symm hj)
  have hdne:∀ j,j < n→j≠i→∀ d',(l.toArray[j]?).bind (·.dst)=some d'→o.dst≠some d':=by
    intro j hj hji d' hd' hod
    have hdi:(l.toArray[i]?).bind (·.dst)=some d':=by rw [ho];exact hod
    rcases Nat.lt_or_gt_of_ne hji with h1|h1
    · have:=List.all_eq_true.1 (List.all_eq_true.1 hdst i (List.mem_range.2 hin)) j (List.mem_range.2 h1)
      rw [hdi,hd'] at this
      simp at this
    · have:=List.all_eq_true.1 (List.all_eq_true.1 hdst j (List.mem_range.2 hj)) i (List.mem_range.2 h1)
      rw [hdi,hd'] at this
      simp at this
  -- what a finished operation does
  have fin : ∀ v J' L' H' k' cacc' w' r, Le J J' → St C J' L' w' → U0 C.w0.heap.size J' H' L' → E1 J' r v → o9 (cacc' ++ accP) i = some r → (∀ j, j ≠ i → o9 (cacc' ++ accP) j = o9 (cacc ++ accP) j) → k' ≤ ci.length →
      (∀ m i',ci[m]?=some i'→((listed.setIfInBounds i true).getD i' false=true↔m < k'))→V8 P C N σ0 HT accP F (cl.drop k') cacc' H'→(∀ j r,o9 cacc' j=some r→j∈ci)→(∀ j r r0,o9 cacc' j=some r→o9 accP j=some r0→r=r0)→(∀ j,j∈ci→(listed.setIfInBounds i true).getD j false=true→∃ r,o9 cacc' j=some r)→K (a.put o.dst v) w':=by
    intro v J' L' H' k' cacc' w' r hle hst hH hv hri hrj hk' hch' hpl hkeys hprom hproL
    refine hK k' cacc' H' J' L' (fun j=>if j=i then v else vs j) _ _ ⟨inv.head.set hr hin,inv.le.trans hle,inv.U6.trans hle,hst,hH,hk',hch',hpl,hkeys,hprom,hproL,fun j hj hl => ?_,?_,?_,fun j d' hj hl hd' => ?_,fun t u hu hno => ?_⟩
    · by_cases hji:j=i
      · subst hji
        exact⟨r,hri,by simpa using hv⟩
      · rw [hput j hji] at hl
        obtain⟨q,h1,h2⟩:=inv.val j hj hl
        exact⟨q,(hrj j hji).trans h1,by simpa [hji] using h2.mono hle⟩
    · rw [put_defers];exact inv.defers
    · rw [b1A];exact inv.size
    · by_cases hji:j=i
      · subst hji
        have hod:o.dst=some d':=by rw [ho] at hd';exact hd'
        rw [hod,put_eq _ _ (by rw [inv.size];exact hdN d' hod),if_pos rfl]
      · rw [hput j hji] at hl
        rw [b0j _ _ (hdne j hj hji d' hd'),if_neg hji]
        exact inv.a4l j d' hj hl hd'
    · rw [b0j _ _ (fun hod=>hno i hin (G3 hilt) (by rw [ho];exact hod))]
      refine inv.a6A t u hu fun j hj hl=>hno j hj ?_
      by_cases hji:j=i
      · subst hji;rw [hiun] at hl;cases hl
      · rw [hput j hji];exact hl
  -- the guard
  have hgrd:∀ gi want,o.guard=some (gi,want)→∀ b,o9 accP gi=some (.v b)→yielded l.toArray a.tmps gi=some b:=fun gi want hg b hb=>by
    rw [hg] at hguard
    simp only [Bool.and_eq_true] at hguard
    have hgn:gi < n:=by simpa [Nat.blt_eq] using hguard.1.1
    have hgl:=hlisted gi hguard.1.2
    obtain⟨r,h1,h2⟩:=inv.val gi hgn hgl
    have hr2:r = .v b:=by
      rw [B3] at h1
      cases hc:o9 cacc gi with
      | some q =>
        rw [hc] at h1
        cases h1
        exact inv.prom gi _ _ hc hb
      | none =>
        rw [hc] at h1
        simp only at h1
        rw [hb] at h1
        exact(Option.some.inj h1).symm
    subst hr2
    obtain⟨cs,rfl,hvs⟩:=h2
    obtain⟨dg,hdg0⟩:=Option.isSome_iff_exists.1 hguard.2
    obtain⟨og,hog,hdg⟩:=Option.bind_eq_some_iff.1 hdg0
    have htg:=inv.a4l gi dg hgn hgl (by rw [hog];exact hdg)
    rw [hvs] at htg
    unfold yielded
    rw [hog]
    simp only [Option.bind_some,hdg,htg]
    rfl
  unfold wpOpIn
  simp only [ho]
  by_cases hic:i∈ci
  · obtain⟨m,hm⟩:=List.mem_iff_getElem?.1 hic
    have hmk:¬m < k:=fun h=>by
      have:=(inv.ch m i hm).2 h
      rw [hiun] at this;cases this
    have hml:m < ci.length:=(List.getElem?_eq_some_iff.1 hm).1
    have hkm:m≤k:=by
      cases m with
      | zero=>omega
      | succ mj =>
        have h1:=List.all_eq_true.1 hch1 (mj+1) (List.mem_range.2 hml)
        simp only [hm,Bool.and_eq_true] at h1
        cases hj:ci[mj]? with
        | none=>simp [hj] at h1
        | some j =>
          simp only [hj,Bool.and_eq_true] at h1
          have:=(inv.ch mj j hj).1 (hlisted j h1.2.2)
          omega
    have hmk':m=k:=by omega
    subst hmk'
    have hc:=hcl m i o s hm hol hs
    have hdrop:cl.drop m=(i,o,s)::cl.drop (m+1):=by
      have hlt:=(List.getElem?_eq_some_iff.1 hc).1
      rw [List.drop_eq_getElem_cons hlt]
      congr 1
      rw [List.getElem?_eq_getElem hlt] at hc
      exact Option.some.inj hc
    have hpl:=inv.pl
    rw [hdrop,V8] at hpl
    replace hpl:=hpl.2
    have hch':∀ mj i',ci[mj]?=some i'→((listed.setIfInBounds i true).getD i' false=true↔mj < m+1):=fun mj i' hm'=>by
      by_cases e:i'=i
      · subst e
        have hlj:=(List.getElem?_eq_some_iff.1 hm').1
        have heq:ci[mj]'hlj=ci[m]'hml:=by rw [(List.getElem?_eq_some_iff.1 hm').2,(List.getElem?_eq_some_iff.1 hm).2]
        have:mj=m:=by
          rcases Nat.lt_trichotomy mj m with h|h|h
          · exact absurd heq ((List.pairwise_iff_getElem.1 hnd) mj m hlj hml h)
          · exact h
          · exact absurd heq.symm ((List.pairwise_iff_getElem.1 hnd) m mj hml hlj h)
        exact⟨fun _=>by omega,fun _=>G3 hilt⟩
      · rw [hput i' e,inv.ch mj i' hm']
        have:mj≠m:=by
          rintro rfl
          rw [hm] at hm';exact e (Option.some.inj hm').symm
        omega
    have hkeys:∀ r,∀ j q,o9 ((i,r)::cacc) j=some q→j∈ci:=fun r j q hq=>by
      rw [y2] at hq
      by_cases e:i=j
      · subst e;exact hic
      · rw [if_neg e] at hq;exact inv.keys j q hq
    have hself:∀ r,o9 ((i,r)::cacc++accP) i=some r:=fun r=>by rw [List.cons_append,y2,if_pos rfl]
    have hoth:∀ r j,j≠i→o9 ((i,r)::cacc++accP) j=o9 (cacc++accP) j:=fun r j hj=>by rw [List.cons_append,y2,if_neg (Ne.symm hj)]
    have hprom:∀ r,(∀ r0,o9 accP i=some r0→r=r0)→∀ j q r0,o9 ((i,r)::cacc) j=some q→o9 accP j=some r0→q=r0:=fun r hr0 j q r0 hq h0=>by
      rw [y2] at hq
      by_cases e:i=j
      · subst e;rw [if_pos rfl] at hq;cases hq;exact hr0 r0 h0
      · rw [if_neg e] at hq;exact inv.prom j q r0 hq h0
    have hproL:∀ r,∀ j,j∈ci→(listed.setIfInBounds i true).getD j false=true→∃ q,o9 ((i,r)::cacc) j=some q:=fun r j hj hl=>by
      by_cases e:i=j
      · subst e;exact⟨r,by rw [y2,if_pos rfl]⟩
      · rw [hput j (Ne.symm e)] at hl
        obtain⟨q,hq⟩:=inv.b7O j hj hl
        exact⟨q,by rw [y2,if_neg e];exact hq⟩
    have run : ∀ (R : AV → AV), (∀ r r0, o9 accP i = some r0 → R r = r0) → ∀ Z : AV → Prop, (∀ r, Z r → ∀ J' u, E1 J' r u → E1 J' (R r) u) →
        A0 P C N o (E3 σ0 (cacc++accP) s (C6 o)) H (fun r H'=>Z r∧V8 P C N σ0 HT accP F (cl.drop (m+1)) ((i,R r)::cacc) H')→o.wpIn C.fen 0 P a w K Q':=fun R hR0 Z hZ h=>by
      refine Yld.wp ((h _ J L hR a w hfits inv.st).mono ?_)
      rintro v w' ⟨J',L',hst,hle,r,H',h1,h2,h3,h4⟩
      exact fin v J' L' H' (m+1) ((i,R r)::cacc) w' (R r) hle hst h2 (hZ r h3 _ _ h1) (hself _) (hoth _) (by omega) hch' h4 (hkeys _) (hprom _ (hR0 r)) (hproL _)
    have skipd:∀ b want r,o.guard.isSome=true→(∀ r0,o9 accP i=some r0→r=r0)→E1 J r undef→V8 P C N σ0 HT accP F (cl.drop (m+1)) ((i,r)::cacc) H→(b:Bool) = !want→K (a.put o.dst undef) w:=fun b want r _ hr0 hu hp _ =>
      fin undef J L H (m+1) ((i,r)::cacc) w r (Le.refl J) inv.st inv.heap hu (hself r) (hoth r) (by omega) hch' hp (hkeys r) (hprom r hr0) (hproL r)
    cases hg:o.guard with
    | none =>
      rw [if_pos (by simp [Region.wanted,hg])]
      cases hpr:o9 accP i with
      | none =>
        rw [hg,hpr] at hpl
        exact run (fun r=>r) (fun r r0 h=>by rw [hpr] at h;cases h) (fun _=>True) (fun _ _ _ _ h=>h) (by
          intro ρ' I' L' hs' a' w' ha' hst'
          exact Yld.mono (hpl ρ' I' L' hs' a' w' ha' hst') (fun v w'' ⟨J',L'',q1,q2,r,H',q3,q4,q5⟩=>⟨J',L'',q1,q2,r,H',q3,q4,trivial,q5⟩))
      | some r0 =>
        rw [hg,hpr] at hpl
        exact run (fun _=>r0) (fun r q h=>by rw [hpr] at h;exact Option.some.inj h) (fun r=>r=r0) (fun r hr _ _ h=>hr▸h) hpl
    | some gw =>
      obtain⟨gi,want⟩:=gw
      cases hpr:o9 accP i with
      | none =>
        rw [hg,hpr] at hpl
        obtain⟨b,hb,h1,h2⟩:=hpl
        have hy:=hgrd gi want hg b hb
        by_cases hbw:b=want
        · rw [if_pos (by simp [Region.wanted,hg,hy,hbw])]
          exact run (fun r=>r) (fun r r0 h=>by rw [hpr] at h;cases h) (fun _=>True) (fun _ _ _ _ h=>h) (by
            intro ρ' I' L' hs' a' w' ha' hst'
            exact Yld.mono (h1 hbw ρ' I' L' hs' a' w' ha' hst') (fun v w'' ⟨J',L'',q1,q2,r,H',q3,q4,q5⟩=>⟨J',L'',q1,q2,r,H',q3,q4,trivial,q5⟩))
        · have hwf:¬Region.wanted o (yielded l.toArray a.tmps)=true:=by simpa [Region.wanted,hg,hy] using hbw
          rw [if_neg hwf]
          refine⟨fun _ _=>trivial,?_⟩
          have hbn:b = !want:=b7N hbw
          exact skipd b want .any (by simp [hg]) (fun r0 h=>by rw [hpr] at h;cases h) trivial (h2 hbn) hbn
      | some r0 =>
        rw [hg,hpr] at hpl
        obtain⟨b,c,hb,rfl,h1,h2⟩:=hpl
        have hy:=hgrd gi want hg b hb
        by_cases hbw:b=want
        · rw [if_pos (by simp [Region.wanted,hg,hy,hbw])]
          exact run (fun _ => .opt (b == want) c) (fun r q h=>by rw [hpr] at h;exact Option.some.inj h) (fun r=>r=c) (fun r hr J' u h _=>hr▸h) (h1 hbw)
        · have hwf:¬Region.wanted o (yielded l.toArray a.tmps)=true:=by simpa [Region.wanted,hg,hy] using hbw
          rw [if_neg hwf]
          refine⟨fun _ _=>trivial,?_⟩
          have hbn:b = !want:=b7N hbw
          exact skipd b want (.opt (b == want) c) (by simp [hg]) (fun q h=>by rw [hpr] at h;exact Option.some.inj h) (fun hc=>absurd (by simpa using hc) hbw) (h2 hbn) hbn
  · obtain⟨r,hri,hd⟩:=hp i o s hin hic hol hs
    have hcn:∀ j,j∉ci→o9 cacc j=none:=fun j hj=>by
      cases hc:o9 cacc j with
      | none=>rfl
      | some q=>exact absurd (inv.keys j q hc) hj
    have hself:o9 (cacc++accP) i=some r:=by rw [B3,hcn i hic];exact hri
    have hRq:Z2 C J L (E3 σ0 accP s (C6 o)) H (a0W g (C6 o)):=hR.sub fun t b hb=>by
      obtain⟨hmem,hb2⟩:=a1u hb
      refine a4W ?_ hmem
      cases hsrc:J8 s t with
      | none=>simp only [hsrc] at hb2 ⊢;exact hb2
      | some j =>
        simp only [hsrc] at hb2 ⊢
        rw [B3]
        cases hc:o9 cacc j with
        | none=>exact hb2
        | some q=>exact congrArg some (inv.prom j q b hc hb2)
    have hproL:∀ j,j∈ci→(listed.setIfInBounds i true).getD j false=true→∃ q,o9 cacc j=some q:=fun j hj hl=>by
      have:j≠i:=by rintro rfl;exact hic hj
      rw [hput j this] at hl;exact inv.b7O j hj hl
    have hch':∀ mj i',ci[mj]?=some i'→((listed.setIfInBounds i true).getD i' false=true↔mj < k):=fun mj i' hm'=>by
      have:i'≠i:=by rintro rfl;exact hic (List.mem_of_getElem? hm')
      rw [hput i' this];exact inv.ch mj i' hm'
    obtain⟨Hp,hHp⟩:=inv.pl.tail
    have hdH:=hd Hp
    rw [←hHp] at hdH
    unfold a5g at hdH
    have run:∀ (c:AV),j6 P N C o (E3 σ0 accP s (C6 o)) H (fun r'=>r'=c)→(∀ J' u,E1 J' c u→E1 J' r u)→o.wpIn C.fen 0 P a w K Q':=fun c h hcr=>by
      refine Yld.wp ((h _ J L hRq a w hfits inv.st.mem).mono ?_)
      rintro v w' ⟨J',X,hc,hle,hn,hm,hX,rfl,r',h1,rfl⟩
      have hst:=(inv.st.step hc hle hn hm hX)
      rw [List.nil_append] at hst
      exact fin v J' L H k cacc w' r hle hst (inv.heap.mono hle) (hcr _ _ h1) hself (fun j hj=>rfl) inv.kle hch' inv.pl inv.keys inv.prom hproL
    cases hg:o.guard with
    | none =>
      rw [hg] at hdH
      rw [if_pos (by simp [Region.wanted,hg])]
      exact run r hdH (fun _ _ h=>h)
    | some gw =>
      obtain⟨gi,want⟩:=gw
      rw [hg] at hdH
      obtain⟨b,c,hb,rfl,h2⟩:=hdH
      have hy:=hgrd gi want hg b hb
      by_cases hbw:b=want
      · rw [if_pos (by simp [Region.wanted,hg,hy,hbw])]
        exact run c (h2 hbw) (fun _ _ h _=>h)
      · have hwf:¬Region.wanted o (yielded l.toArray a.tmps)=true:=by simpa [Region.wanted,hg,hy] using hbw
        rw [if_neg hwf]
        refine⟨fun _ _=>trivial,?_⟩
        exact fin undef J L H k cacc w (.opt (b == want) c) (Le.refl J) inv.st inv.heap (fun hc=>absurd (by simpa using hc) hbw) hself (fun j hj=>rfl) inv.kle hch' inv.pl inv.keys inv.prom hproL
theorem b5b {Q' : Exit → Act → World → Prop} (h0 : Z2 C I L0 σ0 H0 ρ0) (hN : K2 N l = true) (hback : a0c l.toArray = true) (hok : ∀ i, i < n → a1n l.toArray n ss i = true) (hdst : a6c l.toArray n = true) (hch : W3 l.toArray n ss ci = true)
    (hcl:∀ (m i:Nat) (o:Oper) (s:List (Nat×Nat)),ci[m]?=some i→l[i]?=some o→ss[i]?=some s→cl[m]?=some (i,o,s)) (hnd:ci.Nodup)
    (hp:∀ i o s,i < n→i∉ci→l[i]?=some o→ss[i]?=some s→∃ r,o9 accP i=some r∧a2v P N C σ0 HT accP o s r)
    (hle:n≤l.length) (htail:n=l.length∨(Region.sinkB .any l.toArray n=true∧Region.chainB .any l.toArray n=true)) (hseq:Region.seqB .any l.toArray (l.length - n) n (K9 l.length n)=true)
    (hfin:∀ listed k cacc H J L vs a w,b6d P C N n l ci cl σ0 HT accP F ρ0 I listed k cacc H J L vs a w→(∀ j,j < n→listed.getD j false=true)→wpListIn C.fen 0 P l.toArray Q' (l.drop n) a w) :
    ∀ (m:Nat) (listed:Array Bool) k cacc H J L vs a w,b6d P C N n l ci cl σ0 HT accP F ρ0 I listed k cacc H J L vs a w→unl listed n=m→wpAnyIn C.fen 0 P .any l.toArray Q' (m+(l.length - n)) listed a w
  | 0,listed,k,cacc,H,J,L,vs,a,w,inv,hm=>by
    have hsz:listed.size=l.length:=by simpa using inv.head.size
    have hall:∀ j,j < n→listed.getD j false=true:=fun j hj=>a3K (by omega) (a1O hm j hj)
    have heq:listed=K9 l.length n:=by
      refine Array.ext (by simp [K9,hsz]) fun j h1 h2 => ?_
      have e1:(K9 l.length n)[j]'h2=Nat.blt j n:=by simp [K9]
      rw [e1]
      by_cases hj:j < n
      · have:=hall j hj
        simp [h1] at this
        rw [this]
        exact(Nat.blt_eq▸hj:Nat.blt j n=true).symm
      · have:=inv.head.tail j (by omega) (by simp;omega)
        simp [h1] at this
        rw [this]
        cases hb:Nat.blt j n
        · rfl
        · exact absurd (Nat.blt_eq▸hb:j < n) hj
    have hw:=hfin listed k cacc H J L vs a w inv hall
    have h2:=Y7 (md := .any) (Q':=Q') (l.drop n) n listed a w (fun j=>by simp [List.getElem?_drop]) (by rw [heq];simpa using hseq) hw
    simpa using h2
  | m+1,listed,k,cacc,H,J,L,vs,a,w,inv,hm=>by
    have hsz:listed.size=l.length:=by simpa using inv.head.size
    obtain⟨i,hin,hi,hlt⟩:=a5Z hm
    have hr:=V1 hback (by simpa using inv.head.size) hi hlt
    rw [show m+1+(l.length - n)=(m+(l.length - n))+1 by omega]
    refine⟨fun h0=>(by rw [h0] at hr;cases hr),fun j hj => ?_⟩
    have hjn:j < n:=by
      rcases Nat.lt_or_ge j n with h|h
      · exact h
      · rcases htail with ht|⟨hs,hc⟩
        · obtain⟨_,o,ho,_⟩:=mem_ready.1 hj
          have:=(Array.getElem?_eq_some_iff.1 ho).1
          simp at this
          omega
        · have hnl:n < l.toArray.size:=by
            obtain⟨_,o,ho,_⟩:=mem_ready.1 hj
            have:=(Array.getElem?_eq_some_iff.1 ho).1
            omega
          exact absurd hj (tail_waits hs hc hnl inv.head _ i rfl hin hi j h)
    refine inv.step h0 hN hok hdst hch hcl hnd hp hj hjn fun k' cacc' H' J' L' vs' a' w' inv' => ?_
    refine b5b h0 hN hback hok hdst hch hcl hnd hp hle htail hseq hfin m _ k' cacc' H' J' L' vs' a' w' inv' ?_
    have hu:=(mem_ready.1 hj).1
    have:=a4P hu hjn
    omega
end
def a2w (P:Program) (N:Nat) (C:Ctx) (σ0:x7) {ι:Type 1} (HT:ι→j7) (ci:List Nat) (F:List (Nat×AV)→Prop):List Oper→List (List (Nat×Nat))→Nat→List (Nat×AV)→Prop
 | [],_,_,acc=>F acc
 | o::os,s::ss,k,acc=>bif ci.contains k then a2w P N C σ0 HT ci F os ss (k+1) acc∨∃ r,a2w P N C σ0 HT ci F os ss (k+1) ((k,r)::acc) else ∃ r,a2v P N C σ0 HT acc o s r∧a2w P N C σ0 HT ci F os ss (k+1) ((k,r)::acc)
 | _,[],_,_=>False
def I7 (l:List Oper) (ss:List (List (Nat×Nat))):List Nat→List (Nat×Oper×List (Nat×Nat))
 | [] => []
 | i::r=>match l[i]?,ss[i]? with
  | some o,some s=>(i,o,s)::I7 l ss r
  | _,_=>I7 l ss r
theorem a4x {l:List Oper} {ss:List (List (Nat×Nat))}:∀ (ci:List Nat),(∀ i∈ci,∃ o s,l[i]?=some o∧ss[i]?=some s)→∀ (m i:Nat) (o:Oper) (s:List (Nat×Nat)),ci[m]?=some i→l[i]?=some o→ss[i]?=some s→(I7 l ss ci)[m]?=some (i,o,s)
 | [],_,m,i,o,s,h,_,_=>by simp at h
 | j::r,h0,m,i,o,s,h,h1,h2=>by
  obtain⟨o',s',h3,h4⟩:=h0 j List.mem_cons_self
  simp only [I7,h3,h4]
  cases m with
  | zero =>
   simp only [List.getElem?_cons_zero,Option.some.injEq] at h ⊢
   subst h
   rw [h1] at h3;rw [h2] at h4
   cases h3;cases h4;rfl
  | succ m=>simpa using a4x r (fun i hi=>h0 i (List.mem_cons_of_mem _ hi)) m i o s (by simpa using h) h1 h2
theorem a2O {P : Program} {N : Nat} {C : Ctx} {σ0 : x7} {ι : Type 1} {HT : ι → j7} {ci : List Nat} {F : List (Nat × AV) → Prop} : ∀ (os : List Oper) (ss : List (List (Nat × Nat))) (k : Nat) (acc : List (Nat × AV)), (∀ j r, o9 acc j = some r → j < k) → a2w P N C σ0 HT ci F os ss k acc →
    ∃ full,F full∧(∀ j,j < k→o9 full j=o9 acc j) ∧
      ∀ i o s,os[i]?=some o→ss[i]?=some s→k+i∉ci→∃ r acc',o9 full (k+i)=some r∧a2v P N C σ0 HT acc' o s r∧∀ j,j < k+i→o9 acc' j=o9 full j
  | [],ss,k,acc,hacc,h=>⟨acc,by cases ss<;>exact h,fun _ _=>rfl,fun i o s ho=>by simp at ho⟩
  | o::os,[],k,acc,_,h=>h.elim
  | o::os,s::ss,k,acc,hacc,h=>by
    simp only [a2w] at h
    have hacc2:∀ r,∀ j q,o9 ((k,r)::acc) j=some q→j < k+1:=fun r j q hj=>by
      rw [y2] at hj
      by_cases e:k=j
      · omega
      · rw [if_neg e] at hj;have:=hacc j q hj;omega
    cases hc:ci.contains k with
    | true =>
      rw [hc] at h
      simp only [cond_true] at h
      have fin : ∀ acc2, (∀ j, j < k → o9 acc2 j = o9 acc j) → (∀ j r, o9 acc2 j = some r → j < k + 1) → a2w P N C σ0 HT ci F os ss (k + 1) acc2 → ∃ full, F full ∧ (∀ j, j < k → o9 full j = o9 acc j) ∧
          ∀ i o' s',(o::os)[i]?=some o'→(s::ss)[i]?=some s'→k+i∉ci→∃ r acc',o9 full (k+i)=some r∧a2v P N C σ0 HT acc' o' s' r∧∀ j,j < k+i→o9 acc' j=o9 full j:=fun acc2 ha hb h=>by
        obtain⟨full,hF,h1,h3⟩:=a2O os ss (k+1) acc2 hb h
        refine⟨full,hF,fun j hj=>(h1 j (by omega)).trans (ha j hj),fun i o' s' ho hs hni => ?_⟩
        cases i with
        | zero=>exact absurd (by simpa using hc) hni
        | succ i =>
          have e:k+(i+1)=k+1+i:=by omega
          rw [e]
          exact h3 i o' s' (by simpa using ho) (by simpa using hs) (by rw [←e];exact hni)
      rcases h with h|⟨r,h⟩
      · exact fin acc (fun _ _=>rfl) (fun j r hj=>Nat.lt_succ_of_lt (hacc j r hj)) h
      · exact fin ((k,r)::acc) (fun j hj=>by rw [y2,if_neg (by omega)]) (hacc2 r) h
    | false =>
      rw [hc] at h
      simp only [cond_false] at h
      obtain⟨r,hd,h⟩:=h
      obtain⟨full,hF,h1,h3⟩:=a2O os ss (k+1) ((k,r)::acc) (hacc2 r) h
      refine⟨full,hF,fun j hj=>by rw [h1 j (by omega),y2,if_neg (by omega)],fun i o' s' ho hs hni => ?_⟩
      cases i with
      | zero =>
        simp only [List.getElem?_cons_zero,Option.some.injEq] at ho hs
        subst ho;subst hs
        refine⟨r,acc,by rw [Nat.add_zero,h1 k (by omega),y2,if_pos rfl],hd,fun j hj => ?_⟩
        rw [Nat.add_zero] at hj
        rw [h1 j (by omega),y2,if_neg (by omega)]
      | succ i =>
        have e:k+(i+1)=k+1+i:=by omega
        rw [e]
        exact h3 i o' s' (by simpa using ho) (by simpa using hs) (by rw [←e];exact hni)
def a83 (vs:Nat→Value):List Oper→Nat→Env→Env
 | o::os,k,ρ=>match o.dst with
  | some d=>a83 vs os (k+1) ((d,vs k)::ρ)
  | none=>a83 vs os (k+1) ρ
 | [],_,ρ=>ρ
theorem a7S {C : Ctx} {J : Im} {L : Lh} {H : j7} {acc : List (Nat × AV)} {vs : Nat → Value} : ∀ (os : List Oper) (k : Nat) (σ : x7) (ρ : Env), Z2 C J L σ H ρ → (∀ i o, os[i]? = some o → ∃ r, o9 acc (k + i) = some r ∧ E1 J r (vs (k + i))) →
    Z2 C J L (a2a acc os k σ) H (a83 vs os k ρ)
  | [],k,σ,ρ,hs,_=>hs
  | o::os,k,σ,ρ,hs,hd=>by
    obtain⟨r,h1,h2⟩:=hd 0 o rfl
    simp only [Nat.add_zero] at h1 h2
    have hd':∀ i o',os[i]?=some o'→∃ r,o9 acc (k+1+i)=some r∧E1 J r (vs (k+1+i)):=fun i o' ho=>by
      have:=hd (i+1) o' (by simpa using ho)
      rwa [show k+(i+1)=k+1+i by omega] at this
    cases ho:o.dst with
    | none=>simp only [a2a,a83,ho];exact a7S os (k+1) σ ρ hs hd'
    | some d=>simp only [a2a,a83,ho,h1];exact a7S os (k+1) _ _ (hs.put (Le.refl J) h2 hs.heap) hd'
theorem a4X {N : Nat} {vs : Nat → Value} {a : Act} (hd : a.defers = []) (hsz : a.tmps.size = N) : ∀ (os : List Oper) (k : Nat) (ρ : Env),
    (∀ (i:Nat) (o:Oper) (d:Nat),os[i]?=some o→o.dst=some d→a.tmps[d]?=some (vs (k+i)))→(∀ t v,Fl.look ρ t=some v→(∀ (i:Nat) (o:Oper),os[i]?=some o→o.dst≠some t)→a.tmps[t]?=some v)→Fits N (a83 vs os k ρ) a
  | [],k,ρ,_,h=>⟨hd,hsz,fun t v hv=>h t v hv (fun i o ho=>by simp at ho)⟩
  | o::os,k,ρ,hI,hO=>by
    have hI':∀ (i:Nat) (o':Oper) (d:Nat),os[i]?=some o'→o'.dst=some d→a.tmps[d]?=some (vs (k+1+i)):=fun i o' d ho hdd=>by
      have:=hI (i+1) o' d (by simpa using ho) hdd
      rwa [show k+(i+1)=k+1+i by omega] at this
    cases ho:o.dst with
    | none =>
      simp only [a83,ho]
      refine a4X hd hsz os (k+1) ρ hI' fun t v hv hno=>hO t v hv fun i o' ho' => ?_
      cases i with
      | zero=>simp only [List.getElem?_cons_zero,Option.some.injEq] at ho';subst ho';rw [ho];exact fun h=>by cases h
      | succ i=>exact hno i o' (by simpa using ho')
    | some d =>
      simp only [a83,ho]
      refine a4X hd hsz os (k+1) _ hI' fun t v hv hno => ?_
      rw [Fl.M0] at hv
      by_cases e:d=t
      · subst e
        rw [if_pos rfl] at hv
        cases hv
        have:=hI 0 o d rfl ho
        simpa using this
      · rw [if_neg e] at hv
        refine hO t v hv fun i o' ho' => ?_
        cases i with
        | zero =>
          simp only [List.getElem?_cons_zero,Option.some.injEq] at ho'
          subst ho'
          rw [ho]
          exact fun h=>e (Option.some.inj h)
        | succ i=>exact hno i o' (by simpa using ho')
theorem J0.b7P {P : Program} {C : Ctx} {N : Nat} {Q : Exit → x7 → j7 → Prop} {σ : x7} {H : j7} {id : Nat} {l : List Oper} {ι : Type 1} (HT : ι → j7) (hm : P.follows .mixedOrders = true) (n : Nat) (ss : List (List (Nat × Nat))) (ci : List Nat)
    (hN:K2 N l=true) (hB:a2u l.toArray n ss=true) (hss:Nat.ble n ss.length=true) (hC:W3 l.toArray n ss ci=true) (hnd:ci.Nodup)
    (h:a2w P N C σ HT ci (fun accP=>V8 P C N σ HT accP (fun cacc H'=>D0 P C N l.toArray Q (l.drop n) (a2a (cacc++accP) (l.take n) 0 σ) H') (I7 l ss ci) [] H) (l.take n) ss 0 []) :
    J0 P C N (.region id l.toArray true) Q σ H:=fun ρ I L hs a w ha hst=>by
  have hB0:=hB
  simp only [a2u,Bool.and_eq_true,Bool.or_eq_true] at hB
  obtain⟨⟨⟨⟨⟨hle,hback⟩,hok⟩,hdst⟩,htail⟩,hseq⟩:=hB
  have hle':n≤l.length:=by simpa using Nat.le_of_ble_eq_true hle
  have hok':∀ i,i < n→a1n l.toArray n ss i=true:=fun i hi=>List.all_eq_true.1 hok i (List.mem_range.2 hi)
  have hssl:=Nat.le_of_ble_eq_true hss
  obtain⟨full,hF,_,hd⟩:=a2O (l.take n) ss 0 [] (fun j r hj=>by simp [o9] at hj) h
  have hC':=hC
  unfold W3 at hC'
  have hcin:∀ i∈ci,i < n:=fun i hi=>by
    obtain⟨m,hm⟩:=List.mem_iff_getElem?.1 hi
    have h1:=List.all_eq_true.1 hC' m (List.mem_range.2 (List.getElem?_eq_some_iff.1 hm).1)
    simp only [hm,Bool.and_eq_true] at h1
    simpa [Nat.blt_eq] using h1.1
  have hcl:=a4x (l:=l) (ss:=ss) ci (fun i hi=>⟨_,_,List.getElem?_eq_getElem (Nat.lt_of_lt_of_le (hcin i hi) hle'),List.getElem?_eq_getElem (Nat.lt_of_lt_of_le (hcin i hi) hssl)⟩)
  have hp:∀ i o s,i < n→i∉ci→l[i]?=some o→ss[i]?=some s→∃ r,o9 full i=some r∧a2v P N C σ HT full o s r:=fun i o s hi hic ho hsi=>by
    obtain⟨r,acc',h1,h2,h3⟩:=hd i o s (by rw [List.getElem?_take,if_pos hi];exact ho) hsi (by simpa using hic)
    rw [Nat.zero_add] at h1 h3
    refine⟨r,h1,fun H' => ?_⟩
    have hoi:=hok' i hi
    unfold a1n at hoi
    have ho':l.toArray[i]?=some o:=by simpa using ho
    simp only [ho',hsi,Bool.and_eq_true] at hoi
    have hback':∀ j,Region.waitsFor .any l.toArray i j=true→j < i:=fun j hw=>by
      obtain⟨e,he,hb,heq⟩:=X8 ho' hw
      have hil:i < l.toArray.size:=(Array.getElem?_eq_some_iff.1 ho').1
      have h4:=List.all_eq_true.1 hback i (List.mem_range.2 hil)
      simp only [ho',Array.all_eq_true_iff_forall_mem] at h4
      have h5:=h4 e he
      rw [hb] at h5
      have:e.on < i:=by simpa [Nat.blt_eq] using h5
      omega
    -- sources that are no operand are looked at too
    have henv:∀ t∈C6 o,∀ j,J8 s t=some j→o9 acc' j=o9 full j:=fun t ht j hj=>by
      have h6:=List.all_eq_true.1 hoi.1 t ht
      unfold a0V at h6
      simp only [hj,Bool.and_eq_true] at h6
      exact h3 j (hback' j h6.2)
    have hdd:=h2 H'
    unfold a5g at hdd ⊢
    have he:∀ ts,(∀ t∈ts,t∈C6 o)→E3 σ acc' s ts=E3 σ full s ts:=by
      intro ts
      induction ts with
      | nil=>intro _;rfl
      | cons t ts ih =>
        intro hts
        simp only [E3]
        cases hsrc:J8 s t with
        | none=>simp only [ih (fun u hu=>hts u (List.mem_cons_of_mem _ hu))]
        | some j=>simp only [henv t (hts t List.mem_cons_self) j hsrc,ih (fun u hu=>hts u (List.mem_cons_of_mem _ hu))]
    rw [←he _ (fun t ht=>ht)]
    cases hg:o.guard with
    | none=>rw [hg] at hdd;exact hdd
    | some p =>
      obtain⟨g,want⟩:=p
      rw [hg] at hdd
      have h6:=hoi.2
      rw [hg] at h6
      simp only [Bool.and_eq_true] at h6
      simp only at hdd ⊢
      rw [←h3 g (hback' g h6.1.2)];exact hdd
  have hs':St C I L { w with drawn:=w.drawn+1 }:=⟨⟨hst.mem.im,hst.mem.loc,hst.mem.sep,hst.mem.nodup⟩,⟨hst.S5.os,hst.S5.tape,hst.S5.output,hst.S5.size,hst.S5.block⟩,hst.own,hst.U6,hst.new⟩
  refine wpIn_region_any hm ?_
  have inv0:b6d P C N n l ci (I7 l ss ci) σ HT full (fun cacc H'=>D0 P C N l.toArray Q (l.drop n) (a2a (cacc++full) (l.take n) 0 σ) H') ρ I (Array.replicate l.toArray.size false) 0 [] H I L (fun _=>undef) a { w with drawn:=w.drawn+1 }:=by
    have hnl:∀ j,(Array.replicate l.toArray.size false).getD j false=true→False:=fun j hl=>by rw [getD_replicate_false] at hl;cases hl
    refine⟨⟨by simp,fun j oj _ hl=>(hnl j hl).elim,fun t _ ht=>getD_in (by simpa using ht) (getD_replicate_false _ _)⟩,Le.refl _,hs.U6,hs',hs.heap,Nat.zero_le _,fun m i hm=>⟨fun hl=>(hnl i hl).elim,fun h=>by omega⟩,by rw [List.drop_zero];exact hF,fun j r hj=>by simp [o9] at hj,fun j r r0 hj=>by simp [o9] at hj,fun j _ hl=>(hnl j hl).elim,fun j _ hl=>(hnl j hl).elim,ha.defers,ha.size,fun j d _ hl=>(hnl j hl).elim,fun t v hv _=>ha.tmp t v hv⟩
  have hunl:unl (Array.replicate l.toArray.size false) n=n:=by
    have key:∀ k,k≤l.toArray.size→unl (Array.replicate l.toArray.size false) k=k:=by
      intro k
      induction k with
      | zero=>intro _;rfl
      | succ k ih =>
        intro hk
        rw [unl,ih (by omega),if_pos (getD_in (by simp at hk ⊢;omega) (getD_replicate_false _ _))]
    exact key n (by simpa using hle')
  have hmain:=b5b (Q':=a5a C N (qA C Q)) hs hN hback hok' hdst hC hcl hnd hp hle'
    (by rcases htail with h | h
        · exact .inl (by simpa using h)
        · exact .inr h) (by simpa using hseq)
    (fun listed k cacc H' J L' vs a' w' inv hall=>by
      have hk:k=ci.length:=by
        rcases Nat.lt_or_ge k ci.length with h|h
        · have:=(inv.ch k _ (List.getElem?_eq_getElem h)).1 (hall _ (hcin _ (List.getElem_mem h)))
          omega
        · have:=inv.kle;omega
      have hpl:=inv.pl
      have hlen:(I7 l ss ci).length≤ci.length:=by
        have:∀ c:List Nat,(I7 l ss c).length≤c.length:=by
          intro c
          induction c with
          | nil=>exact Nat.le_refl _
          | cons i c ih =>
            simp only [I7]
            split
            · simpa using ih
            · exact Nat.le_succ_of_le ih
        exact this ci
      rw [hk,List.drop_eq_nil_of_le hlen,V8] at hpl
      replace hpl:=hpl.2
      have hNd:K2 N (l.drop n)=true:=by
        simp only [K2,List.all_eq_true] at hN ⊢
        exact fun o ho=>hN o (List.mem_of_mem_drop ho)
      have hR:Z2 C J L' σ H' ρ:=⟨fun t b hb=>by obtain⟨u,h1,h2⟩:=hs.env t b hb;exact⟨u,h1,h2.mono inv.le⟩,inv.heap,inv.U6⟩
      have hget:∀ i o,(l.take n)[i]?=some o→i < n∧l[i]?=some o:=fun i o ho=>by
        have h1:=(List.getElem?_eq_some_iff.1 ho).1
        have hin:i < n:=by rw [List.length_take] at h1;omega
        rw [List.getElem?_take,if_pos hin] at ho
        exact⟨hin,ho⟩
      refine hpl (a83 vs (l.take n) 0 ρ) J L' (a7S (l.take n) 0 σ ρ hR fun i o ho => ?_) hNd a' w' (a4X inv.defers inv.size (l.take n) 0 ρ (fun i o d ho hdd => ?_) fun t v hv hno=>inv.a6A t v hv fun j hj _ hdj => ?_) inv.st
      · obtain⟨hin,_⟩:=hget i o ho
        rw [Nat.zero_add]
        exact inv.val i hin (hall i hin)
      · obtain⟨hin,ho2⟩:=hget i o ho
        rw [Nat.zero_add]
        exact inv.a4l i d hin (hall i hin) (by simp [ho2,hdd])
      · have hjl:j < l.length:=by omega
        have:(l.take n)[j]?=some l[j]:=by rw [List.getElem?_take,if_pos hj];exact List.getElem?_eq_getElem hjl
        refine hno j l[j] this ?_
        simpa [hjl] using hdj)
    n _ _ _ _ _ _ _ _ _ inv0 hunl
  rw [show n+(l.length - n)=l.toArray.size by simp;omega] at hmain
  exact hmain
theorem u4.app {Hp:j7} {H:j7} {B:Bool×D6} {F:Bool×D6→j7} (h:u4 H B F):u4 (Hp++H) B (fun X=>Hp++F X):=by
 induction Hp with
 | nil=>exact h
 | cons A Hp ih=>exact .s ih
def U1:List Bool→j7→(Nat→Bool×D6)→Nat→j7
 | b::bs,B::H,q,k=>(bif b then q k else B)::U1 bs H q (k+1)
 | _,H,_,_=>H
theorem J0.D7 {P : Program} {C : Ctx} {N : Nat} {Q : Exit → x7 → j7 → Prop} {σ : x7} {H : j7} {id : Nat} {l : List Oper} (bs : List Bool) (hm : P.follows .mixedOrders = true) (n : Nat) (ss : List (List (Nat × Nat))) (ci : List Nat)
    (hN:K2 N l=true) (hB:a2u l.toArray n ss=true) (hss:Nat.ble n ss.length=true) (hC:W3 l.toArray n ss ci=true) (hnd:ci.Nodup)
    (h:a2w P N C σ (fun q:j7×(Nat→Bool×D6)=>q.1++U1 bs H q.2 0) ci (fun accP=>V8 P C N σ (fun q:j7×(Nat→Bool×D6)=>q.1++U1 bs H q.2 0) accP (fun cacc H'=>D0 P C N l.toArray Q (l.drop n) (a2a (cacc++accP) (l.take n) 0 σ) H') (I7 l ss ci) [] H) (l.take n) ss 0 []) :
    J0 P C N (.region id l.toArray true) Q σ H := .b7P _ hm n ss ci hN hB hss hC hnd h
def a3R (P:Program) (N:Nat) (C:Ctx) (σ0:x7) (ci:List Nat) (F:List (Nat×AV)→Prop):List Oper→List (List (Nat×Nat))→Nat→List (Nat×AV)→Prop
 | [],_,_,acc=>F acc
 | o::os,s::ss,k,acc=>bif ci.contains k then a3R P N C σ0 ci F os ss (k+1) acc∨∃ r,a3R P N C σ0 ci F os ss (k+1) ((k,r)::acc) else ∃ r,(∀ H,a5g P N C σ0 H acc o s r)∧a3R P N C σ0 ci F os ss (k+1) ((k,r)::acc)
 | _::_,[],_,_=>False
theorem a3R.toK {P:Program} {N:Nat} {C:Ctx} {σ0:x7} {ci:List Nat} {F F':List (Nat×AV)→Prop} (hF:∀ acc,F acc→F' acc):∀ {os:List Oper} {ss:List (List (Nat×Nat))} {k:Nat} {acc:List (Nat×AV)},a3R P N C σ0 ci F os ss k acc→a2w P N C σ0 (fun H=>H) ci F' os ss k acc
 | [],_,_,_,h=>hF _ h
 | o::os,s::ss,k,acc,h=>by
  simp only [a3R] at h
  simp only [a2w]
  cases hb:ci.contains k with
  | true =>
   simp only [hb,cond_true] at h ⊢
   rcases h with h|⟨r,h⟩
   ·exact .inl (h.toK hF)
   ·exact .inr ⟨r,h.toK hF⟩
  | false =>
   simp only [hb,cond_false] at h ⊢
   obtain⟨r,h1,h2⟩:=h
   exact⟨r,fun Hp=>h1 _,h2.toK hF⟩
theorem J0.a7h {P : Program} {C : Ctx} {N : Nat} {Q : Exit → x7 → j7 → Prop} {σ : x7} {H : j7} {id : Nat} {l : List Oper} (hm : P.follows .mixedOrders = true) (n : Nat) (ss : List (List (Nat × Nat))) (ci : List Nat)
    (hN:K2 N l=true) (hB:a2u l.toArray n ss=true) (hss:Nat.ble n ss.length=true) (hC:W3 l.toArray n ss ci=true) (hnd:ci.Nodup)
    (h:a3R P N C σ ci (fun accP=>a82 P C N σ accP (fun cacc H'=>D0 P C N l.toArray Q (l.drop n) (a2a (cacc++accP) (l.take n) 0 σ) H') (I7 l ss ci) [] H) (l.take n) ss 0 []) :
    J0 P C N (.region id l.toArray true) Q σ H:=(J0.b7P (fun H=>H) hm n ss ci hN hB hss hC hnd (h.toK fun _ h=>h.toK))
end Go.Ab
