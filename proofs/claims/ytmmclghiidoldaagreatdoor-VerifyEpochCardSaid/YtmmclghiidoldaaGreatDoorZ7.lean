/- Plain Lean over any program, and walks of this seat's functions: contracts, each proved once (part 7). -/
import Derived.Test.YtmmclghiidoldaaGreatDoorZ6
import Derived.ProofKit
import Derived.OpenShut
import Derived.ShutString
import Derived.ChangeOld
import Derived.Below
import Derived.LaidLaws
import Derived.Handed
import Derived.DataReads
import Derived.LaidSub
import Derived.Test.YtmmclghiidoldaaGreatDoorRows
import Derived.Test.YtmmclghiidoldaaGreatDoorTie
import Derived.Test.YtmmclghiidoldaaGreatDoorCards
import Derived.SevenTiedAt
set_option maxRecDepth 1000000
set_option linter.unusedVariables false
set_option linter.unusedSimpArgs false
namespace Go.Proofs.YtmmclghiidoldaaGreatDoor
open Go.Fl Go.Ab Go.Mac Go.Sha
theorem c1A (e:Epo) (b:Y0):u1 gl Tryz.prog 37 [.v e,.p b] (fun r=>r = .v (decide (e.Number=b.C9))):=by
 refine u1.intro Tryz.func37 rfl (by kernel_rfl) 9 rfl rfl _ rfl fun C hC hG=>(.sr rfl (.h (.box (.t rfl) fun b2 => .p (.assign .b (.nil (.sr rfl (.p (.x4 p6.l0 a8j rfl (.t rfl) (.p (.K0 (fun x=>x.Number) D0 (.t rfl) .z (fun _=>rfl) (.p (.m0 m6.l1 (fun x=>x.C9) a5B rfl (fun _=>rfl) (.t rfl) (.p (.x3 D0 (.t rfl) (.p (.D4 (.t rfl) (.t rfl) (.ag rfl (.nil (.ret ?_)))))))))))))))))))
 refine⟨_,.r1 a8 (.tmp a8),?_⟩
 rfl
theorem b4f {c:Cav} (h:H7 c=true):c.j8.length≤1024:=by
 cases h3:c.M1 with
 | false=>rw [(a0O h h3).2.2.1];decide
 | true=>exact(a0N h h3).2.2.2.2.1
theorem c0f {p:Tag×Bool} {t:Tag} {e:Int} (h:(!(p.2&&decide (p.1=t))||decide (e≠0))=true):p≠(t,true)∨e≠0:=by
 rcases Bool.or_eq_true_iff.1 h with h|h
 ·exact Or.inl (b5c (b3W h))
 ·exact Or.inr (of_decide_eq_true h)
theorem b8E {p:Tag×Bool} {t:Tag} {e:Int} (h:(!(p.2&&decide (p.1=t))||decide (e≠0))=false):p=(t,true)∧e=0:=by
 obtain⟨h1,h2⟩:=Bool.or_eq_false_iff.1 h
 exact⟨b5b (b3X h1),by simpa using h2⟩
theorem b8F {a:C7} {b:Y0} {T:List Tag} {i:Nat} (h:i < b.l9.length) (h3:b.l9[i].M1=false):thE a b T i=0:=by
 unfold thE;rw [a38 h,if_neg (by rw [h3];decide)]
theorem b8G {a:C7} {b:Y0} {T:List Tag} {i:Nat} (h:i < b.l9.length) (hT:i < T.length) (h3:b.l9[i].M1=true):thE a b T i=Z9 a b b.l9[i] T[i] (T.getLastD default):=by
 unfold thE;rw [a38 h,a38 hT,if_pos h3]
theorem a8U (a:C7) (g:Ring) (b:Y0) (hpl:∀ x∈a.x7,x.Plain.length≤1000000) (hl:b.l9.length≤1000000):u1 gl Tryz.prog 13 [.v a,.v g,.v b] (fun r=>r = .t2 (.v (a5g a g b).1) (.v (a5g a g b).2)):=by
 refine u1.intro Tryz.func13 rfl (by kernel_rfl) 111 rfl rfl _ rfl fun C hC hG=>(.sr rfl (.h (.box (.t rfl) fun b3 => .h (.box (.t rfl) fun b4 => .h (.box (.t rfl) fun b5 => .h (.alloc a0w fun b6 => .p (.assign (.i rfl) (.nil (.seq (.seq (.B0 hC .z3 (.Q5 3 rfl .z3 (.B0 hC .z2 (.Q5 4 rfl .z2 (.B0 hC .z1 (.Q5 5 rfl .z1 (.del (.s .z) (.del (.s .z) ?_))))))))))))))))))
 refine .del (.s .z) (.region a8 (.p (.x3 a0d (.t a8) (.p (.m9 hG (b9O _ hl) (.cons (.t a8) .nil) (.ag a8 (.nil (.sr a8 (.mv a8 (.p (.W8 (.t a8) (.i a8) (.nil (.o8 (.t a8) (fun hc22 => ?_) (fun hc22 => ?_))))))))))))))
 ·refine .sr a8 (.p (.bS0 (α:=y4) a8 a0w b2R (.mv a8 (.n (.C8 a0w (.t a8) (.t a8) .z (.ag a8 (.nil (.ret ?_))))))))
  refine⟨_,.r2 a8 (.cell a0w a8 .z) (.tmp a8),?_⟩
  rw [c1r hc22]
 ·refine .skip (.seq ?_)
  have h0:M8 b=0:=Decidable.not_not.1 hc22
  have hb:=a5e h0
  refine .region a8 (.p (.m0 B3.l0 (fun x=>x.Live) a5D a8 (fun _=>a8) (.t a8) (.p (.x3 b3d (.t a8) (.p (.b0s hG (fun x=>c1A x _) (.cons (.t a8) .nil) (.p (.m9 hG (b3U _ _) (.cons (.t a8) (.cons (.t a8) .nil)) (.ag a8 (.nil (.seq (.sr a8 (.mv a8 (.p (.lss (.t a8) (.i a8) (.nil (.o8 (.t a8) (fun hc30 => ?_) (fun hc30 => ?_))))))))))))))))))
  ·refine .sr a8 (.p (.bS0 (α:=y4) a8 a0w b2R (.n (.C8 a0w (.t a8) (.t a8) .z (.p (.assign (.i a8) (.nil (.ret ?_))))))))
   refine⟨_,.r2 a8 (.cell a0w a8 .z) (.tmp a8),?_⟩
   rw [c0I h0 (b0B (show ¬0≤idx g.Live (fun e=>decide (e.Number=b.C9)) from fun hx=>absurd hc30 (Int.not_lt.2 hx)))]
  ·refine .skip (.seq ?_)
   have hi0:0≤idx g.Live (fun e=>decide (e.Number=b.C9)):=Int.not_lt.1 hc30
   have hi1:=b3m hi0
   have he:a1G g b.C9=some g.Live[(idx g.Live (fun e=>decide (e.Number=b.C9))).toNat]:=b0A hi0 (by omega)
   rw [b0O h0 he]
   refine .draw (by kernel_rfl) 16 [[],[],[(34,1)],[],[(35,2),(36,3)],[(37,4)],[],[(39,6)],[],[(41,8)],[(33,0),(38,5),(40,7),(42,9)],[(43,10)],[(32,11)],[(32,11)],[(44,12)],[(45,13)]] a8 (by kernel_rfl) a8 ?_
   refine⟨_,j6.x3 u7 (.t a8) a8,?_⟩
   refine⟨_,j6.m0 B3.l0 (fun x=>x.Live) a5D a8 (fun _=>a8) (.t a8) a8,?_⟩
   refine⟨_,j6.x3 b3d (.t a8) a8,?_⟩
   refine⟨_,j6.move (.t a8) a8,?_⟩
   refine⟨_,j6.idx a4z Tryz.underlying30 (.t a8) (.t a8) (by omega) (by omega) a8,?_⟩
   refine⟨_,j6.x3 a4z (.t a8) a8,?_⟩
   refine⟨_,j6.m0 m6.l2 (fun x=>x.y7) a5C a8 (fun _=>a8) (.t a8) a8,?_⟩
   refine⟨_,j6.x3 D0 (.t a8) a8,?_⟩
   refine⟨_,j6.m0 m6.l3 (fun x=>x.l9) a0m a8 (fun _=>a8) (.t a8) a8,?_⟩
   refine⟨_,j6.x3 a3f (.t a8) a8,?_⟩
   refine⟨_,j6.m9 hG (c1o _ _ _ _ (by have:=hb.a4M;omega)) (.cons (.t a8) (.cons (.t a8) (.cons (.t a8) (.cons (.t a8) .nil)))) a8,?_⟩
   refine⟨_,j6.move (.t a8) a8,?_⟩
   refine⟨_,j6.E5 (.t a8) a8,?_⟩
   refine⟨_,j6.E6 (.t a8) a8,?_⟩
   refine⟨_,j6.assign (.t a8) a8,?_⟩
   refine⟨_,j6.assign (.t a8) a8,?_⟩
   show F8 _ _ _ _ _ _ ((11,_)::(10,_)::(45,_)::(44,_)::(32,_)::(43,_)::(42,_)::(41,_)::(40,_)::(39,_)::(38,_)::(37,_)::(36,_)::(35,_)::(34,_)::(33,_)::_) _
   refine .nil (.seq (.sr a8 (.mv a8 (.p (.W8 (.t a8) (.i a8) (.nil (.o8 (.t a8) (fun hc47 => ?_) (fun hc47 => ?_))))))))
   ·refine .sr a8 (.p (.bS0 (α:=y4) a8 a0w b2R (.n (.C8 a0w (.t a8) (.t a8) .z (.p (.assign (.i a8) (.nil (.ret ?_))))))))
    refine⟨_,.r2 a8 (.cell a0w a8 .z) (.tmp a8),?_⟩
    rw [c2C hc47]
   ·refine .skip (.seq ?_)
    obtain⟨T,hw,hT,ht⟩:=a8N (Decidable.not_not.1 hc47)
    rw [b0P ht]
    rw [show X8 a g.Live[(idx g.Live (fun e=>decide (e.Number=b.C9))).toNat] b.y7 b.l9=(T,0) from ht]
    refine .region a8 (.mv a8 (.mv a8 (.p (.len Tryz.underlying54 (.t a8) (.p (.sub (.t a8) (.i a8) (by omega) (by simp;omega) (.p (.idx p3 Tryz.underlying54 (.t a8) (.t a8) (by simp;omega) (by omega) (.p (.x3 p3 (.t a8) (.h (.alloc p3 fun b12 => .n (.C8 p3 (.t a8) (.t a8) .z (.nil (.seq ?_)))))))))))))))
    rw [b1Z (s:=T) (by omega)]
    refine .region rfl (.p (.x3 u7 (.t rfl) (.p (.I4 p3 (.t rfl) .z (.p (.m0 m6.l0 (fun x=>x.Request) a3O rfl (fun _=>rfl) (.t rfl) (.p (.x3 a3V (.t rfl) (.p (.m9 hG (b5Y _ _ _) (.cons (.t rfl) (.cons (.t rfl) (.cons (.t rfl) .nil))) (.mv rfl (.p (.E5 (.t rfl) (.p (.E6 (.t rfl) (.h (.alloc p3 fun b13 => .n (.C8 p3 (.t rfl) (.t rfl) .z (.ag rfl (.nil (.sr rfl (.p (.x3 u7 (.t rfl) (.mv rfl (.p (.m9 hG (b9E _ _ (by show T.length≤_;have:=hb.a4M;omega)) (.cons (.t rfl) (.cons (.t rfl) .nil)) (.mv rfl (.p (.E5 (.t rfl) (.p (.E6 (.t rfl) (.ag rfl (.ag rfl (.nil (.seq (.seq (.B0 hC .z1 (.Q5 12 rfl .z1 (.B0 hC .z (.Q5 13 rfl .z ?_))))))))))))))))))))))))))))))))))))))))
    refine .del .z (.del .z (.region a8 (.p (.x3 p3 (.t a8) (.mv a8 (.p (.m0 m6.l4 (fun x=>x.Proof) a94 a8 (fun _=>a8) (.t a8) (.p (.x3 p3 (.t a8) (.p (.m9 hG (b5a _ _ _) (.cons (.t a8) (.cons (.t a8) (.cons (.t a8) .nil))) (.p (.not (.t a8) (.mv a8 (.go 75 a8 (.t a8) (fun hg76 => .move (.t a8) a8) (.go 75 a8 (.t a8) (fun hg77 => .W8 (.q a8 hg77) (.i a8) a8) (.p (.E0 (.t a8) (fun hp=>(.q a8 hp)) (.nil (.cond (.t a8) (fun hc78 => ?_) (fun hc78 => ?_)))))))))))))))))))))
    ·refine .sr a8 (.p (.bS0 (α:=y4) a8 a0w b2R (.n (.C8 a0w (.t a8) (.t a8) .z (.p (.assign (.i a8) (.nil (.ret ?_))))))))
     refine⟨_,.r2 a8 (.cell a0w a8 .z) (.tmp a8),?_⟩
     rw [if_pos (c0f (p:=a0g a (T.getLastD default) b.Request) hc78)]
    ·refine .skip (.seq (.seq ?_))
     obtain⟨hp,hn⟩:=b8E (p:=a0g a (T.getLastD default) b.Request) hc78
     rw [if_neg (by rintro (h|h);exact h hp;exact h hn)]
     refine .region a8 (.p (.m0 m6.l3 (fun x=>x.l9) a0m a8 (fun _=>a8) (.t a8) (.p (.x3 a3f (.t a8) (.p (.len Tryz.underlying24 (.t a8) (.p (.move (.i a8) (.nil (.block (.F4 (α:=Nat) [(3,_),(5,_),(6,_),(10,_),(12,_),(15,_),(81,_),(82,_)] (fun i R=>(83,.v (i:Int))::R) (Function.const _ _) (fun i=>i≤b.l9.length∧a1e (thE a b T) i=0) (fun i=>b.l9.length - i) (0) (.c2 a8 a8 (.c2 a8 a8 (.c2 a8 a8 (.c2 a8 a8 (.nil _))))) ?_ (.c2 a8 a8 (.c2 a8 a8 (.c2 a8 a8 (.c2 a8 a8 (.cons a8 (.nil _)))))) (a8) fun i hF => ?_)))))))))))
     ·exact⟨Nat.zero_le _,a8⟩
     obtain⟨h1,h2⟩:=hF
     refine .seq (.Y4 81 a8 fun hl81=>(.region a8 (.p (.lss (.t a8) (.t a8) (.nil (.seq (.o8 (.t a8) (fun hc84 => ?_) (fun hc84 => ?_))))))))
     ·refine .skip (.seq (.block (.sr a8 (.mv a8 (.p (.idx T7 Tryz.underlying24 (.t a8) (.t a8) (by omega) (by omega) (.p (.x3 T7 (.t a8) (.h (.alloc T7 fun b17 => .ag a8 (.n (.C8 T7 (.t a8) (.t a8) .z (.nil (.seq (.seq ?_)))))))))))))))
      have hi:i < b.l9.length:=by omega
      refine .B0 hC .z (.Q5 17 a8 .z (.del .z (.region a8 (.p (.m0 m7.l0 (fun x=>x.M1) a3Q a8 (fun _=>a8) (.t a8) (.p (.x3 ty4 (.t a8) (.p (.not (.t a8) (.nil (.cond (.t a8) (fun hc90 => ?_) (fun hc90 => ?_))))))))))))
      ·refine .exit ?_
       have hth:thE a b T i=0:=b8F hi (b3W hc90)
       refine .region a8 (.p (.add (.t a8) (.i a8) (by omega) (by omega) (.mv a8 (.nil ?_))))
       refine⟨i+1,.c2 rfl rfl (.c2 rfl rfl (.c2 rfl rfl (.c2 rfl rfl (.cons rfl (.nil _))))),rfl,?_,by omega⟩
       exact⟨by omega,by rw [a25,h2,if_neg (by decide),hth]⟩
      ·refine .skip (.seq ?_)
       have h3:b.l9[i].M1=true:=b3X hc90
       refine .draw (by kernel_rfl) 10 [[],[],[],[],[],[(94,3),(95,4)],[(96,5)],[],[(91,0),(92,1),(93,2),(97,6),(98,7)],[(99,8)]] a8 (by kernel_rfl) a8 ?_
       refine⟨_,j6.x3 u7 (.t a8) a8,?_⟩
       refine⟨_,j6.x3 a0d (.t a8) a8,?_⟩
       refine⟨_,j6.x3 T7 (.t a8) a8,?_⟩
       refine⟨_,j6.move (.t a8) a8,?_⟩
       refine⟨_,j6.move (.t a8) a8,?_⟩
       refine⟨_,j6.idx p3 Tryz.underlying54 (.t a8) (.t a8) (by omega) (by simp;omega) a8,?_⟩
       refine⟨_,j6.x3 p3 (.t a8) a8,?_⟩
       refine⟨_,j6.x3 p3 (.t a8) a8,?_⟩
       refine⟨_,j6.m9 hG (c1x _ _ _ _ _ hpl (b4f (hb.cav _ (List.getElem_mem _)))) (.cons (.t a8) (.cons (.t a8) (.cons (.t a8) (.cons (.t a8) (.cons (.t a8) .nil))))) a8,?_⟩
       refine⟨_,j6.assign (.t a8) a8,?_⟩
       show F8 _ _ _ _ _ _ ((18,_)::(99,_)::(98,_)::(97,_)::(96,_)::(95,_)::(94,_)::(93,_)::(92,_)::(91,_)::_) _
       refine .nil (.sr a8 (.mv a8 (.p (.W8 (.t a8) (.i a8) (.nil (.o8 (.t a8) (fun hc101 => ?_) (fun hc101 => ?_)))))))
       ·refine .sr a8 (.p (.bS0 (α:=y4) a8 a0w b2R (.mv a8 (.n (.C8 a0w (.t a8) (.t a8) .z (.ag a8 (.nil (.ret ?_))))))))
        refine⟨_,.r2 a8 (.cell a0w a8 .z) (.tmp a8),?_⟩
        have hth:thE a b T i=Z9 a b b.l9[i] T[i] (T.getLastD default):=b8G hi (by omega) h3
        have hne:thE a b T i≠0:=(by rw [hth];exact hc101)
        rw [b6e hi h2 hne,if_pos hne,hth];rfl
       ·refine .skip ?_
        have hth:thE a b T i=0:=(by rw [b8G hi (by omega) h3];exact Decidable.not_not.1 hc101)
        refine .region a8 (.p (.add (.t a8) (.i a8) (by omega) (by omega) (.mv a8 (.nil ?_))))
        refine⟨i+1,.c2 rfl rfl (.c2 rfl rfl (.c2 rfl rfl (.c2 rfl rfl (.cons rfl (.nil _))))),rfl,?_,by omega⟩
        exact⟨by omega,by rw [a25,h2,if_neg (by decide),hth]⟩
     ·refine .exit (.seq (.seq ?_))
      obtain rfl:i=b.l9.length:=by omega
      rw [if_neg (by rw [h2];decide)]
      refine .region a8 (.p (.x3 a0d (.t a8) (.p (.m9 hG (b9W _) (.cons (.t a8) .nil) (.nil (.cond (.t a8) (fun hc106 => ?_) (fun hc106 => ?_)))))))
      ·refine .sr a8 (.p (.bS0 (α:=y4) a8 a0w b2R (.n (.C8 a0w (.t a8) (.t a8) .z (.p (.assign (.i a8) (.nil (.ret ?_))))))))
       refine⟨_,.r2 a8 (.cell a0w a8 .z) (.tmp a8),?_⟩
       rw [if_pos hc106]
      ·refine .skip (.sr a8 (.mv a8 (.p (.x3 p3 (.t a8) (.p (.bS2 y4.l0 y4.l1 a8 a0w b2R (fun c0 c1=>(⟨c0,c1⟩:y4)) (fun _ _=>a8) a8 a8 a8 (.t a8) (.t a8) (.n (.C8 a0w (.t a8) (.t a8) .z (.p (.assign (.i a8) (.nil (.ret ?_))))))))))))
       refine⟨_,.r2 a8 (.cell a0w a8 .z) (.tmp a8),?_⟩
       rw [if_neg (by rw [hc106];decide)]
structure c1B (A:C7) (P:Pass) (G:List Dis) (r:Rq) (b:C7) (t:Tag) (B:C7):Prop where
 chk:M8 (b7O P G r)=0
 mac:H5 A P.Tag (a2J r)=(b,t,0)
 to:a6x P.Tag r b G
 alg:bA P.Tag r b G G.length=B
 dis:bY P.Tag r b G G.length=G.map (bnd B P.Tag r)
theorem a0i.c2J {A : C7} {root : Epo} {P : Pass} {G : List Dis} {T : List Tag} {n k : Nat} (h : a0i A root P G T n k) (hn : n < 1000) (hk : k ≤ 6) (hh : a3G A) {r : Rq} (hr : S9 r = true) :
    ∃ b t B,c1B A P G r b t B∧a67 B root P G T r t (n+7) k∧Q0 A B:=by
  have hg:=h.ngr
  obtain⟨b,t,s⟩:=h.ok.step (by omega) P.Tag (m:=a2J r) (by have:=b8v hr;omega)
  obtain⟨c,q⟩:=s.ok.binds P.Tag hr G (by omega)
  have hc:M8 (b7O P G r)=0:=b0X h hk hr default (fun d=>⟨d.j8,d.l8,default⟩) fun g=>⟨rfl,rfl⟩
  refine⟨b,t,c,⟨hc,s.eq,⟨fun i hi => ?_⟩,?_,?_⟩,⟨h.mac (s.le.trans q.le) (q.ok.le (by omega)) (q.boxes.trans s.boxes),hr,q.le.look s.look,q.looks,fun x hx => ?_⟩,s.le.trans q.le⟩
  · obtain⟨c',q'⟩:=s.ok.binds P.Tag hr (G.take i) (by rw [List.length_take];omega)
    rw [q'.eq]
  · unfold bA;rw [List.take_length,q.eq]
  · unfold bY;rw [List.take_length,q.eq]
  · rcases q.Z5 x hx with h'|h'
    · rcases s.Z5 x h' with h'|h'
      · exact Or.inl (hh x h')
      · exact Or.inr (Or.inl h')
    · exact Or.inr (Or.inr h')
theorem c1B.c {A:C7} {P:Pass} {G:List Dis} {r:Rq} {b:C7} {t:Tag} {B:C7} (h:c1B A P G r b t B) (hl:P.l9.length≤1000000) (hl2:G.length≤1000000) (hr:S9 r=true):u1 gl Tryz.prog 29 [.v A,.v P,.v G,.v r] (fun x=>x = .t3 (.v B) (.v (prB B P G r t)) (.v (0:Int))) :=
 (b6r A P G r hl hl2 h.chk h.mac h.to hr).mono fun x hx=>by rw [hx,h.alg,h.dis];rfl
structure c0g (s:Scn) (b:Y0):Prop where
 ex:∃ root T t n k,a67 s.A root s.Pass s.M7 T s.Request t n k∧n≤61∧k≤5∧root.Number=2∧s.Ring=W7 root 3∧b=prB s.A s.Pass s.M7 s.Request t
 c3r:s.Q6=b4e
abbrev scn (w:Value):AV := .ln w (m5.id (α:=Scn))
theorem b8H (w:Value) (s:Scn) (root:Epo) (k:Nat) (h:a7F s.A root s.Pass s.M7 k) (hk:k≤5) (h2:root.Number=2) (hg:s.Ring=W7 root 3) (hr:S9 s.Request=true) (hh:s.Q6=b4e):G5 gl Tryz.prog 31 [scn w] [.ob w s] (fun r Hs=>∃ s':Scn,∃ b,c0g s' b∧r = .v b∧Hs = [.ob w s']):=by
 obtain⟨T,n,hs,hn⟩:=h.ex
 obtain⟨b,t,B,hp,hB,hle⟩:=hs.c2J (by omega) (by omega) h.b5f hr
 have h5:=hs.a4M
 have h6:=hs.ngr
 refine G5.T9 Tryz.func31 rfl (by kernel_rfl) 32 rfl rfl _ rfl _ rfl fun C hC hG=>(.sr rfl (.h (.alloc a0d fun b2=>(.nil (.seq (.c2k [j1,j1] [(21,(⟨j7,inferInstance,default⟩:AT)),(22,(⟨m6,inferInstance,default⟩:AT))] (by kernel_rfl) 26 [[],[(7,0)],[(8,1)],[(9,2)],[],[(11,4)],[(12,5)],[(13,6)],[],[(15,8)],[(16,9)],[(17,10)],[],[(19,12)],[(20,13)],[(21,14)],[(10,3),(14,7),(18,11),(22,15)],[(23,16)],[(6,17)],[(6,17)],[(6,17)],[],[],[(3,21),(24,18)],[(4,22),(25,19)],[(26,20)]] [23,24] rfl (by kernel_rfl) rfl (by kernel_rfl) (by decide) (by simp) (List.forall_mem_cons.2 ⟨fun o ho=>by obtain rfl:=Option.some.inj (show some _=some o from ho);exact⟨rfl,fun _ _=>A6.alloc u7 fun b=>⟨b,rfl,rfl⟩⟩,(List.forall_mem_cons.2 ⟨fun o ho=>by obtain rfl:=Option.some.inj (show some _=some o from ho);exact⟨rfl,fun _ _=>A6.alloc a0d fun b=>⟨b,rfl,rfl⟩⟩,(fun p hp=>by cases hp)⟩)⟩) ?_))))))
 refine⟨_,fun H=>j6.move (.t a8) a8,?_⟩
 refine⟨_,fun H=>j6.D9 (.t a8) a8,?_⟩
 refine⟨_,fun H=>j6.x4 o7.l0 O8 a8 (.t a8) a8,?_⟩
 refine⟨_,fun H=>j6.K0 (fun x=>x.A) u7 (.t a8) (y3.app .z1) (fun _=>a8) a8,?_⟩
 refine⟨_,fun H=>j6.move (.t a8) a8,?_⟩
 refine⟨_,fun H=>j6.D9 (.t a8) a8,?_⟩
 refine⟨_,fun H=>j6.x4 o7.l3 a3P a8 (.t a8) a8,?_⟩
 refine⟨_,fun H=>j6.K0 (fun x=>x.Pass) P6 (.t a8) (y3.app .z1) (fun _=>a8) a8,?_⟩
 refine⟨_,fun H=>j6.move (.t a8) a8,?_⟩
 refine⟨_,fun H=>j6.D9 (.t a8) a8,?_⟩
 refine⟨_,fun H=>j6.x4 o7.l4 b2P a8 (.t a8) a8,?_⟩
 refine⟨_,fun H=>j6.K0 (fun x=>x.M7) c3b (.t a8) (y3.app .z1) (fun _=>a8) a8,?_⟩
 refine⟨_,fun H=>j6.move (.t a8) a8,?_⟩
 refine⟨_,fun H=>j6.D9 (.t a8) a8,?_⟩
 refine⟨_,fun H=>j6.x4 o7.l5 b6M a8 (.t a8) a8,?_⟩
 refine⟨_,fun H=>j6.K0 (fun x=>x.Request) a3V (.t a8) (y3.app .z1) (fun _=>a8) a8,?_⟩
 refine⟨_,fun H=>j6.m9 hG (hp.c (by omega) (by omega) hr) (.cons (.t a8) (.cons (.t a8) (.cons (.t a8) (.cons (.t a8) .nil)))) a8,?_⟩
 refine⟨_,fun H=>j6.move (.t a8) a8,?_⟩
 refine⟨_,fun H=>j6.K1 (.t a8) a8,?_⟩
 refine⟨_,fun H=>j6.K2 (.t a8) a8,?_⟩
 refine⟨_,fun H=>j6.K3 (.t a8) a8,?_⟩
 refine .inl (.inl (.inl (.inl ?_)))
 refine⟨_,fun H=>j6.assign (.t a8) a8,?_⟩
 refine⟨a8,fun ws1 => ?_⟩
 refine⟨⟨([_,_],j2 [c8,c8]),a8⟩,?_⟩
 refine A6.C8 u7 (.t rfl) (.t rfl) .z ?_
 refine⟨⟨([_,_],j2 [c8,c8]),a8⟩,?_⟩
 refine A6.C8 a0d (.t rfl) (.t rfl) .z1 ?_
 refine⟨⟨([_,_],j2 [c8,c8]),a8⟩,?_⟩
 show F8 _ _ _ _ _ _ ((5,_)::(4,_)::(3,_)::(26,_)::(25,_)::(24,_)::(6,_)::(23,_)::(22,_)::(21,_)::(20,_)::(19,_)::(18,_)::(17,_)::(16,_)::(15,_)::(14,_)::(13,_)::(12,_)::(11,_)::(10,_)::(9,_)::(8,_)::(7,_)::_) _
 refine .nil (.sr a8 (.mv a8 (.p (.I4 u7 (.t a8) .z (.p (.D9 (.t a8) (.p (.x4 o7.l0 O8 a8 (.t a8) (.n (.U0 (fun y x => { x with A:=y }) u7 (.t a8) (.t a8) .z3 (fun _ _=>a8) (.nil (.sr a8 (.p (.I4 a0d (.t a8) .z1 (.n (.C8 a0d (.t a8) (.t a8) .z2 (.nil (.ret ?_))))))))))))))))))
 refine⟨_,.r1 a8 (.cell a0d a8 .z2),?_⟩
 refine⟨_,.cons .z3 (.nil),?_⟩
 exact⟨⟨B,s.Ring,s.C,s.Pass,s.M7,s.Request,s.Q6,s.Minute⟩,_,⟨⟨root,T,t,n+7,k,hB,by omega,hk,h2,hg,rfl⟩,hh⟩,rfl,rfl⟩
theorem b8I (deck:List Int) (wide:Bool):G5 gl Tryz.prog 10 [.v deck,.v wide] [] (fun r Hs=>∃ s:Scn,∃ b,∃ p d,(c0g s b∧L5 d)∧r = .t3 (.v s) (.v b) (dk p)∧Hs = [.ob p d]):=by
 refine G5.T9 Tryz.func10 rfl (by kernel_rfl) 19 rfl rfl _ rfl _ rfl fun C hC hG=>(.sr rfl (.h (.alloc a6h fun b4 => .h (.alloc a0d fun b5 => .p (.assign .raw (.nil (.sr rfl (.mv rfl (.h (.a02 hG (b5J _) (.cons (.t rfl) .nil) fun r11 Hs11 hr11 => ?_))))))))))
 obtain⟨b11,rfl,rfl⟩:=hr11
 show F8 _ _ _ _ _ _ _ ((true,_)::_)
 refine .ag a8 (.nil (.sr a8 (.mv a8 (.mv a8 (.h (.D3 hG (b6q _ _ _ (by first|assumption|exact y8 _)) .z (.cons (.t a8) (.cons (.t a8) .nil)) (by rintro _ _ ⟨_,_,_,_,_,_,_,rfl⟩;exact⟨_,rfl⟩) fun r14 B14 hr14 => ?_))))))
 obtain⟨s14,root14,k14,⟨hs1,hs2,hs3,hs4,hs5,hs6⟩,d14,hd14,rfl,hB⟩:=hr14
 cases hB
 refine .h (.alloc a6h fun b8 => .n (.C8 a6h (.t a8) (.t a8) .z (.nil (.sr a8 (.h (.D3 hG (b8H _ _ _ _ hs1 hs2 hs3 hs4 hs5 hs6) .z (.cons (.t a8) .nil) (by rintro _ _ ⟨_,_,_,_,rfl⟩;exact⟨_,rfl⟩) fun r15 B15 hr15 => ?_))))))
 obtain⟨s15,b15',hm15,rfl,hB⟩:=hr15
 cases hB
 refine .h (.alloc a0d fun b9 => .n (.C8 a0d (.t a8) (.t a8) .z (.nil (.seq (.E7 [j1,j1,j1,j0,j0] (by kernel_rfl) 6 [[],[],[],[(16,0)],[(17,1)],[(18,2)]] [3,4] a8 (by kernel_rfl) a8 (by kernel_rfl) (by decide) ?_)))))
 refine⟨_,fun H=>j6.I4 a6h (.t a8) (y3.app .z1) a8,?_⟩
 refine⟨_,fun H=>j6.I4 a0d (.t a8) (y3.app .z) a8,?_⟩
 refine⟨_,fun H=>j6.move (.t a8) a8,?_⟩
 refine .inl (.inl ?_)
 refine⟨_,fun H=>j6.assign (.t a8) a8,?_⟩
 refine⟨⟨([],j2 [c8,c8,c8,_,_]),a8⟩,?_⟩
 refine A6.C8 a6h (.t rfl) (.t rfl) .z4 ?_
 refine⟨⟨([],j2 [c8,c8,c8,_,_]),a8⟩,?_⟩
 refine A6.C8 a0d (.t rfl) (.t rfl) .z3 ?_
 refine⟨⟨([],j2 [c8,c8,c8,_,_]),a8⟩,?_⟩
 show F8 _ _ _ _ _ _ ((6,_)::(18,_)::(17,_)::(16,_)::_) _
 refine .nil (.ret ?_)
 refine⟨_,.r3 a8 (.cell a6h a8 .z4) (.cell a0d a8 .z3) (.tmp a8),?_⟩
 refine⟨_,.cons .z2 (.nil),?_⟩
 exact⟨s15,b15',_,d14,⟨hm15,hd14⟩,a8,a8⟩
structure Tb (N:Nat) (b:Y0):Prop where
 cav:b.l9.length≤N
 dis:b.j4.length≤N
 con:∀ d∈b.j4,d.l8.length≤N
 G6:0≤b.Request.E3∧b.Request.E3≤281474976710656+N
abbrev c3s:Tag:=(m5.idx 0 (by decide)).set 7 default
abbrev c2K:Epo:=⟨1,c3s⟩
theorem a68 {a:C7} {g:Ring} {b:Y0} {v:y4} {e:Int} (hpl:∀ x∈a.x7,x.Plain.length≤1000000) (hl:b.l9.length≤1000000) (h:a5g a g b=(v,e)):u1 gl Tryz.prog 13 [.v a,.v g,.v b] (fun r=>r = .t2 (.v v) (.v e)) :=
 (a8U a g b hpl hl).mono fun r hr=>by rw [hr,h]
theorem a67.other {B : C7} {root : Epo} {P : Pass} {G : List Dis} {T : List Tag} {r : Rq} {t : Tag} {n k : Nat} (h : a67 B root P G T r t n k) (hk : k ≤ 6) (hf : B.J0 = true) (l : Int) {q : Rq} (hq : S9 q = true) (hne : q ≠ r) :
    a5g B (W7 root l) ⟨q,P.C9,P.y7,P.l9,t,G.map (bnd B P.Tag r)⟩=(default,19):=by
  have hc:=b0X h.sc hk hq t (bnd B P.Tag r) fun g=>⟨rfl,rfl⟩
  have hb:=a5e hc
  have he:a1G (W7 root l) P.C9=some root:=by rw [h.sc.a4e.1];exact b8x _ _
  rw [b0O (root:=root) hc he]
  have hn:=h.sc.a4e
  have hs:=h.sc.a4R
  have hr:K6 root.Number P.y7=true:=by unfold K6;simp;omega
  have ht:=b2m (a:=B) hr (List.all_eq_true.2 fun c hc=>(h.sc.cav c hc).1) h.sc.walk
  rw [b0P (b:=⟨q,P.C9,P.y7,P.l9,t,G.map (bnd B P.Tag r)⟩) ht,if_pos]
  refine Or.inl fun hp => ?_
  unfold a0g at hp
  dsimp only at hp
  rw [if_pos hq] at hp
  obtain⟨y,hy,hyk,hym⟩:=b2w hf hp
  rcases h.Z5 y hy with ⟨c,hc,hc1,hc2⟩|⟨h1,h2⟩|⟨g,_,_,h2⟩
  · rw [hym] at hc;exact absurd (Option.some.inj hc).symm hc1
  · exact hne (b6n hq h.rq (hym.symm.trans h2))
  · rw [hym] at h2;exact absurd (congrArg List.head? h2) (by simp [a2J,U4])
theorem a9X:u1 gl Tryz.prog 9 [] (fun r=>r = .v true):=by
 have h0:=a0i.start true default (root:=c2K) ⟨(by decide:(1:Int)≤1),(by decide:(1:Int)≤2)⟩ (A:=⟨true,default,0,[],[]⟩) (H6.new true default 2) rfl rfl (n:=1) (by decide) (by decide)
 obtain⟨A1,P,T,e1,hs,hh,hf,hser⟩:=h0
 have hp:=hs.c2J (by decide) (by decide) hh (r:=⟨1,1⟩) (by decide)
 obtain⟨b,t,B,hp,hB,hle⟩:=hp
 have hfree:B.J0=true:=hle.free.trans hf
 obtain⟨v,hv,hvn,hvl⟩:=hB.b4d (by decide) 1
 have hw:=hB.other (by decide) hfree 1 (q:=⟨1,2⟩) (by decide) (by decide)
 have hpl:=hB.sc.ok.b0K
 have hcv:=hB.sc.a4M
 have hc0:P.l9 = []:=List.length_eq_zero_iff.1 (by omega)
 refine u1.intro Tryz.func9 rfl (by kernel_rfl) 66 rfl rfl _ rfl fun C hC hG=>(.sr rfl (.p (.assign .b (.nil (.sr rfl (.p (.bS1 j7.l0 rfl u7 a1g (fun c0=>(⟨c0,default,0,[],[]⟩:j7)) (fun _=>rfl) rfl rfl .b (.p (.Q2 _ p3 O7 (.cons (m5.idx 0 (by decide)) _ rfl (.u8 7 rfl) .nil) rfl (.p (.bS2 p6.l0 p6.l1 rfl a4z b6Q (fun c0 c1=>(⟨c0,c1⟩:p6)) (fun _ _=>rfl) rfl rfl rfl (.i rfl) (.t rfl) (.p (.m9 hG (as3 (b7U _ _ _) e1) (.cons (.t rfl) (.cons (.t rfl) (.cons (.i rfl) .nil))) (.mv rfl (.p (.K1 (.t rfl) (.p (.K2 (.t rfl) (.p (.K3 (.t rfl) (.h (.alloc u7 fun b1 => .h (.alloc P6 fun b2 => .n (.C8 u7 (.t rfl) (.t rfl) .z1 (.n (.C8 P6 (.t rfl) (.t rfl) .z (.ag rfl (.nil (.sr rfl (.p (.I4 u7 (.t rfl) .z1 (.p (.I4 P6 (.t rfl) .z (.p (.bS2 p7.l0 p7.l1 rfl a3V c1N (fun c0 c1=>(⟨c0,c1⟩:p7)) (fun _ _=>rfl) rfl rfl rfl (.i rfl) (.i rfl) (.p (.m9 hG (hp.c (by omega) (by decide) (by decide)) (.cons (.t rfl) (.cons (.t rfl) (.cons .K4 (.cons (.t rfl) .nil)))) (.mv rfl (.p (.K1 (.t rfl) (.p (.K2 (.t rfl) (.p (.K3 (.t rfl) (.h (.alloc a0d fun b4 => .n (.C8 u7 (.t rfl) (.t rfl) .z2 (.n (.C8 a0d (.t rfl) (.t rfl) .z (.ag rfl ?_))))))))))))))))))))))))))))))))))))))))))))))))))
 refine .nil (.sr rfl (.p (.Q2 _ p3 O7 (.cons (m5.idx 0 (by decide)) _ rfl (.u8 7 rfl) .nil) rfl (.p (.bS2 p6.l0 p6.l1 rfl a4z b6Q (fun c0 c1=>(⟨c0,c1⟩:p6)) (fun _ _=>rfl) rfl rfl rfl (.i rfl) (.t rfl) (.h (.buildSlice (α:=p6) a4z Tryz.underlying30 (.cons (.t rfl) .nil) rfl (by decide) fun b29=>(.y0 hC .z (.as 29 rfl .z (.p (.bS2 B3.l0 B3.l1 rfl a6R c1O (fun c0 c1=>(⟨c0,c1⟩:B3)) (fun _ _=>rfl) rfl rfl rfl (.t rfl) (.i rfl) (.h (.alloc a6R fun b6 => .n (.C8 a6R (.t rfl) (.t rfl) .z (.nil (.sr rfl (.p (.I4 u7 (.t rfl) .z4 (.p (.I4 a6R (.t rfl) .z (.p (.I4 a0d (.t rfl) .z2 (.p (.m9 hG (a68 hpl (by show P.l9.length≤_;omega) hv) (.cons (.t rfl) (.cons (.t rfl) (.cons (.t rfl) .nil))) (.mv rfl (.p (.E5 (.t rfl) (.p (.E6 (.t rfl) (.h (.alloc a0w fun b7 => .n (.C8 a0w (.t rfl) (.t rfl) .z (.ag rfl (.nil (.sr rfl ?_)))))))))))))))))))))))))))))))))))
 refine .p (.x4 m6.l0 a3O rfl (.t rfl) (.p (.b5y p7.l1 a3N rfl (.t rfl) (.n (.U0 (fun y x => { x with Request.E3:=y }) D0 (.t rfl) (.i rfl) .z3 (fun _ _=>rfl) (.nil (.sr rfl (.p (.I4 u7 (.t rfl) .z5 (.p (.I4 a6R (.t rfl) .z1 (.p (.I4 a0d (.t rfl) .z3 (.p (.m9 hG (a68 hpl (by show P.l9.length≤_;omega) hw) (.cons (.t rfl) (.cons (.t rfl) (.cons (.t rfl) .nil))) (.mv rfl (.p (.E5 (.t rfl) (.p (.E6 (.t rfl) (.h (.alloc a0w fun b9 => .n (.C8 a0w (.t rfl) (.t rfl) .z (.ag rfl (.nil (.sr rfl (.mv rfl (.p (.D4 (.t rfl) (.i rfl) (.mv rfl (.go 49 rfl (.t rfl) (fun hg50 => .move (.t rfl) rfl) (.go 49 rfl (.t rfl) (fun hg51 => .D4 (.q rfl hg51) (.i rfl) rfl) (.p (.u0 (.t rfl) (fun hp=>(.q rfl hp)) (.mv rfl (.go 53 rfl (.t rfl) (fun hg54 => .x4 y4.l0 b6O rfl (.t rfl) rfl) (.go 53 rfl (.t rfl) (fun hg55 => .K0 (fun x=>x.a9z) c17 (.q rfl hg55) .z1 (fun _=>rfl) rfl) ?_)))))))))))))))))))))))))))))))))))))
 refine .go 53 a8 (.t a8) (fun hg56 => .len Tryz.underlying54 (.q a8 hg56) a8) (.go 53 a8 (.t a8) (fun hg57 => .D4 (.q a8 hg57) (.i a8) a8) (.p (.u0 (.t a8) (fun hp=>(.q a8 hp)) (.mv a8 (.go 59 a8 (.t a8) (fun hg60 => .x4 y4.l1 b6P a8 (.t a8) a8) (.go 59 a8 (.t a8) (fun hg61 => .K0 (fun x=>x.b5C) p3 (.q a8 hg61) .z1 (fun _=>a8) a8) (.go 59 a8 (.t a8) (fun hg62 => .x4 x6.l3 a5E a8 (.t a8) a8) (.go 59 a8 (.t a8) (fun hg63 => .K0 (fun x=>x.Tag) p3 (.q a8 hg63) .z5 (fun _=>a8) a8) (.go 59 a8 (.t a8) (fun hg64 => .a6e Tryz.underlying26 sz5 Tryz.underlying5 a92 (.q a8 hg64) (.q a8 hg64) a8) (.p (.u0 (.t a8) (fun hp=>(.q a8 hp)) (.ag a8 (.nil (.ret ?_))))))))))))))
 refine⟨_,.r1 a8 (.tmp a8),?_⟩
 simp [hvn,hvl,hc0]
theorem c0g.facts {s:Scn} {b:Y0} (h:c0g s b):(∀ x∈s.A.x7,x.Plain.length≤1000000)∧Tb 100 b:=by
 obtain⟨root,T,t,n,k,hp,hn,hk,h2,hg,rfl⟩:=h.ex
 have h1:=hp.sc.a4M
 have h3:=hp.sc.ngr
 have hr:=a1b hp.rq
 refine⟨hp.sc.ok.b0K,⟨by show s.Pass.l9.length≤_;omega,by show(s.M7.map _).length≤_;simp;omega,fun d hd => ?_,?_⟩⟩
 ·obtain⟨g,hg,rfl⟩:=List.mem_map.1 hd
  have:=(hp.sc.a3F g hg).a7P
  show g.l8.length≤100;omega
 ·show 0≤s.Request.E3∧s.Request.E3≤_;omega
theorem a8V (deck:List Int):u1 gl Tryz.prog 4 [.v deck] (fun r=>r = .v true):=by
 refine u1.intro Tryz.func4 rfl (by kernel_rfl) 46 rfl rfl _ rfl fun C hC hG=>(.sr rfl (.p (.assign .b (.nil (.sr rfl (.mv rfl (.h (.a02 hG (b8I _ _) (.cons (.t rfl) (.cons .b .nil)) fun r10 Hs10 hr10 => ?_))))))))
 obtain⟨s10,b10,p10,d10,⟨hm10,hd10⟩,rfl,rfl⟩:=hr10
 show F8 _ _ _ _ _ _ _ ((true,_)::_)
 refine .mv a8 (.p (.K1 (.t a8) (.p (.K2 (.t a8) (.p (.K3 (.t a8) (.h (.alloc a6h fun b3 => .h (.alloc a0d fun b4=>(.n (.C8 a6h (.t a8) (.t a8) .z1 (.n (.C8 a0d (.t a8) (.t a8) .z (.ag a8 (.nil (.seq ?_))))))))))))))))
 have hf:=hm10.facts
 obtain⟨hpl,htb⟩:=hf
 have hcc:=htb.cav
 have hex:=hm10.ex
 obtain⟨root,T,t,n,k,hp,hn,hk,h2,hg,hb⟩:=hex
 have hv0:=hp.b4d (by omega) 3
 obtain⟨v,hv,hvn,hvl⟩:=hv0
 rw [←hg,←hb] at hv
 refine .region a8 (.p (.x4 o7.l0 O8 a8 (.t a8) (.p (.K0 (fun x=>x.A) u7 (.t a8) .z1 (fun _=>a8) (.p (.x4 o7.l1 a6L a8 (.t a8) (.p (.K0 (fun x=>x.Ring) a6R (.t a8) .z1 (fun _=>a8) (.p (.I4 a0d (.t a8) .z (.p (.m9 hG (a68 hpl (Nat.le_trans htb.cav (by decide)) hv) (.cons (.t a8) (.cons (.t a8) (.cons (.t a8) .nil))) (.mv a8 (.p (.E5 (.t a8) (.p (.E6 (.t a8) (.h (.alloc a0w fun b6 => .n (.C8 a0w (.t a8) (.t a8) .z (.ag a8 (.nil (.sr a8 (.mv a8 (.p (.D4 (.t a8) (.i a8) (.mv a8 (.go 25 a8 (.t a8) (fun hg26 => .x4 y4.l0 b6O a8 (.t a8) a8) (.go 25 a8 (.t a8) (fun hg27 => .K0 (fun x=>x.a9z) c17 (.q a8 hg27) .z (fun _=>a8) a8) (.go 25 a8 (.t a8) (fun hg28 => .len Tryz.underlying54 (.q a8 hg28) a8) (.go 25 a8 (.t a8) (fun hg29 => .x4 m6.l3 a0m a8 (.t a8) a8) (.go 25 a8 (.t a8) (fun hg30 => .K0 (fun x=>x.l9) a3f (.q a8 hg30) .z1 (fun _=>a8) a8) (.go 25 a8 (.t a8) (fun hg31 => .len Tryz.underlying24 (.q a8 hg31) a8) (.go 25 a8 (.t a8) (fun hg32 => .add (.q a8 hg32) (.i a8) (by first|omega|(simp;omega)|(have:=hg32;simp at this;omega)) (by first|omega|(simp;omega)|(have:=hg32;simp at this;omega)) a8) (.go 25 a8 (.t a8) (fun hg33 => .D4 (.q a8 hg33) (.q a8 hg33) a8) ?_)))))))))))))))))))))))))))))))))))
 refine .p (.u0 (.t a8) (fun hp=>(.q a8 hp)) (.mv a8 (.go 35 a8 (.t a8) (fun hg36 => .x4 y4.l1 b6P a8 (.t a8) a8) (.go 35 a8 (.t a8) (fun hg37 => .K0 (fun x=>x.b5C) p3 (.q a8 hg37) .z (fun _=>a8) a8) (.go 35 a8 (.t a8) (fun hg38 => .x4 o7.l3 a3P a8 (.t a8) a8) (.go 35 a8 (.t a8) (fun hg39 => .b5y x6.l3 a5E a8 (.q a8 hg39) a8) (.go 35 a8 (.t a8) (fun hg40 => .K0 (fun x=>x.Pass.Tag) p3 (.q a8 hg40) .z2 (fun _=>a8) a8) (.go 35 a8 (.t a8) (fun hg41 => .a6e Tryz.underlying26 sz5 Tryz.underlying5 a92 (.q a8 hg41) (.q a8 hg41) a8) (.p (.u0 (.t a8) (fun hp=>(.q a8 hp)) (.mv a8 (.go 43 a8 (.t a8) (fun hg44 => .m9 hG (a9X) .nil a8) (.p (.u0 (.t a8) (fun hp=>(.q a8 hp)) (.ag a8 (.nil (.ret ?_)))))))))))))))))
 refine⟨_,.r1 a8 (.tmp a8),?_⟩
 simp [hvn,hvl,hb,prB]
theorem a9f (deck:List Int) (key:Tag) (number:UInt8):u1 gl Tryz.prog 6 [.v deck,.v key,.v number] (fun r=>r = .v true):=by
 refine u1.intro Tryz.func6 rfl (by kernel_rfl) 79 rfl rfl _ rfl fun C hC hG=>(.sr rfl (.h (.box (.t rfl) fun b4 => .p (.assign .b (.nil (.sr rfl (.mv rfl (.h (.a02 hG (b8I _ _) (.cons (.t rfl) (.cons .b .nil)) fun r17 Hs17 hr17 => ?_)))))))))
 obtain⟨s17,b17,p17,d17,⟨hm17,hd17⟩,rfl,rfl⟩:=hr17
 show F8 _ _ _ _ _ _ _ ((true,_)::_)
 refine .mv a8 (.p (.K1 (.t a8) (.p (.K2 (.t a8) (.p (.K3 (.t a8) (.h (.alloc a6h fun b7 => .h (.alloc a0d fun b8=>(.n (.C8 a6h (.t a8) (.t a8) .z1 (.n (.C8 a0d (.t a8) (.t a8) .z (.ag a8 (.nil (.seq ?_))))))))))))))))
 have hf:=hm17.facts
 obtain⟨hpl,htb⟩:=hf
 have hcc:=htb.cav
 have hex:=hm17.ex
 obtain⟨root,T,t,n,k,hp,hn,hk,h2,hg,hb⟩:=hex
 refine .region a8 (.p (.x4 o7.l1 a6L a8 (.t a8) (.p (.K0 (fun x=>x.Ring) a6R (.t a8) .z1 (fun _=>a8) (.h (.alloc a6R fun b10 => .n (.C8 a6R (.t a8) (.t a8) .z (.nil (.seq ?_)))))))))
 have hnb:number.toNat < 256:=number.toNat_lt
 have hll:s17.Ring.Live.length=1:=(by rw [hg];rfl)
 refine .region a8 (.mv a8 (.p (.b7a Tryz.underlying5 Tryz.underlying3 (.t a8) (.p (.add (.t a8) (.i a8) (by omega) (by omega) (.p (.x4 o7.l1 a6L a8 (.t a8) (.p (.b5y B3.l0 a5D a8 (.t a8) (.p (.K0 (fun x=>x.Ring.Live) b3d (.t a8) .z2 (fun _=>a8) (.p (.idx a4z Tryz.underlying30 (.t a8) (.i a8) (by omega) (by omega) (.p (.m0 p6.l1 (fun x=>x.Key) a96 a8 (fun _=>a8) (.t a8) (.p (.x3 p3 (.t a8) (.p (.bS2 p6.l0 p6.l1 a8 a4z b6Q (fun c0 c1=>(⟨c0,c1⟩:p6)) (fun _ _=>a8) a8 a8 a8 (.t a8) (.t a8) (.h (.buildSlice (α:=p6) a4z Tryz.underlying30 (.cons (.t a8) .nil) a8 (by decide) fun b33=>(.y0 hC .z (.as 33 a8 .z (.p (.x4 B3.l0 a5D a8 (.t a8) (.n (.U0 (fun y x => { x with Live:=y }) b3d (.t a8) (.t a8) .z1 (fun _ _=>a8) (.drop (.nil (.sr a8 (.p (.x4 o7.l0 O8 a8 (.t a8) (.p (.K0 (fun x=>x.A) u7 (.t a8) .z2 (fun _=>a8) (.p (.I4 a6R (.t a8) .z (.p (.I4 a0d (.t a8) .z1 (.p (.m9 hG (a8U _ _ _ hpl (by omega)) (.cons (.t a8) (.cons (.t a8) (.cons (.t a8) .nil))) (.mv a8 (.p (.E5 (.t a8) (.p (.E6 (.t a8) (.h (.alloc a0w fun b11 => .n (.C8 a0w (.t a8) (.t a8) .z (.ag a8 (.nil (.sr a8 ?_)))))))))))))))))))))))))))))))))))))))))))))))))))
 refine .p (.I4 p3 (.t a8) .z5 (.p (.bS2 p6.l0 p6.l1 a8 a4z b6Q (fun c0 c1=>(⟨c0,c1⟩:p6)) (fun _ _=>a8) a8 a8 a8 (.i a8) (.t a8) (.h (.buildSlice (α:=p6) a4z Tryz.underlying30 (.cons (.t a8) .nil) a8 (by decide) fun b45=>(.y0 hC .z (.as 45 a8 .z (.p (.x4 B3.l0 a5D a8 (.t a8) (.n (.U0 (fun y x => { x with Live:=y }) b3d (.t a8) (.t a8) .z2 (fun _ _=>a8) (.drop (.nil (.sr a8 (.p (.x4 o7.l0 O8 a8 (.t a8) (.p (.K0 (fun x=>x.A) u7 (.t a8) .z3 (fun _=>a8) (.p (.I4 a6R (.t a8) .z1 (.p (.I4 a0d (.t a8) .z2 (.p (.m9 hG (a8U _ _ _ hpl (by omega)) (.cons (.t a8) (.cons (.t a8) (.cons (.t a8) .nil))) (.mv a8 (.p (.E5 (.t a8) (.p (.E6 (.t a8) (.h (.alloc a0w fun b13 => .n (.C8 a0w (.t a8) (.t a8) .z (.ag a8 (.nil (.seq (.b7J (by kernel_rfl) 25 [[],[(55,0)],[(56,1)],[],[(58,3)],[(59,4)],[(60,5)],[(61,6)],[],[(63,8)],[],[],[(66,11)],[(67,12)],[(68,13)],[(69,14)],[(70,15)],[(65,10),(71,16)],[(64,9),(72,17)],[(62,7),(73,18)],[(57,2),(74,19)],[(75,20)],[],[(76,21),(77,22)],[(78,23)]] a8 (by kernel_rfl) a8 ?_))))))))))))))))))))))))))))))))))))
 refine⟨_,j6.move (.t a8) a8,?_⟩
 refine⟨_,j6.D4 (.t a8) (.i a8) a8,?_⟩
 refine⟨_,j6.move (.t a8) a8,?_⟩
 refine⟨_,.inl ⟨_,_,a8,a8,fun hg58=>j6.x4 o7.l0 O8 a8 (.t a8) a8⟩,?_⟩
 refine⟨_,.inl ⟨_,_,a8,a8,fun hg59=>j6.b5y j7.l0 a4r a8 (.ou a8 (beq_iff_eq.2 hg59)) a8⟩,?_⟩
 refine⟨_,.inl ⟨_,_,a8,a8,fun hg60=>j6.K0 (fun x=>x.A.J0) ty4 (.ou a8 (beq_iff_eq.2 hg60)) .z4 (fun _=>a8) a8⟩,?_⟩
 refine⟨_,.inl ⟨_,_,a8,a8,fun hg61=>j6.not (.ou a8 (beq_iff_eq.2 hg61)) a8⟩,?_⟩
 refine⟨_,.inl ⟨_,_,a8,a8,fun hg62=>j6.move (.ou a8 (beq_iff_eq.2 hg62)) a8⟩,?_⟩
 refine⟨_,.inr ⟨_,_,_,a8,a8,fun hc63 hg63=>j6.move (.t a8) a8⟩,?_⟩
 refine⟨_,.inr ⟨_,_,_,a8,a8,fun hc64 hg64=>j6.D4 (.ou a8 (Bool.and_eq_true_iff.2 ⟨hc64,beq_iff_eq.2 hg64⟩)) (.i a8) a8⟩,?_⟩
 refine⟨_,.inr ⟨_,_,_,a8,a8,fun hc65 hg65=>j6.I4 p3 (.t a8) .z6 a8⟩,?_⟩
 refine⟨_,.inr ⟨_,_,_,a8,a8,fun hc66 hg66=>j6.x4 o7.l1 a6L a8 (.t a8) a8⟩,?_⟩
 refine⟨_,.inr ⟨_,_,_,a8,a8,fun hc67 hg67=>j6.b5y B3.l0 a5D a8 (.ou a8 (Bool.and_eq_true_iff.2 ⟨hc67,beq_iff_eq.2 hg67⟩)) a8⟩,?_⟩
 refine⟨_,.inr ⟨_,_,_,a8,a8,fun hc68 hg68=>j6.K0 (fun x=>x.Ring.Live) b3d (.ou a8 (Bool.and_eq_true_iff.2 ⟨hc68,beq_iff_eq.2 hg68⟩)) .z4 (fun _=>a8) a8⟩,?_⟩
 refine⟨_,.inr ⟨_,_,_,a8,a8,fun hc69 hg69=>j6.idx a4z Tryz.underlying30 (.ou a8 (Bool.and_eq_true_iff.2 ⟨hc69,beq_iff_eq.2 hg69⟩)) (.i a8) (by first|omega|(simp;omega)|(have:=hg69;simp at this;omega)) (by first|omega|(simp;omega)|(have:=hg69;simp at this;omega)) a8⟩,?_⟩
 refine⟨_,.inr ⟨_,_,_,a8,a8,fun hc70 hg70=>j6.m0 p6.l1 (fun x=>x.Key) a96 a8 (fun _=>a8) (.ou a8 (Bool.and_eq_true_iff.2 ⟨hc70,beq_iff_eq.2 hg70⟩)) a8⟩,?_⟩
 refine⟨_,.inr ⟨_,_,_,a8,a8,fun hc71 hg71=>j6.x3 p3 (.ou a8 (Bool.and_eq_true_iff.2 ⟨hc71,beq_iff_eq.2 hg71⟩)) a8⟩,?_⟩
 refine⟨_,.inr ⟨_,_,_,a8,a8,fun hc72 hg72=>j6.a6e Tryz.underlying26 sz5 Tryz.underlying5 a92 (.ou a8 (Bool.and_eq_true_iff.2 ⟨hc72,beq_iff_eq.2 hg72⟩)) (.ou a8 (Bool.and_eq_true_iff.2 ⟨hc72,beq_iff_eq.2 hg72⟩)) a8⟩,?_⟩
 refine⟨_,.inr ⟨_,_,_,a8,a8,fun hc73 hg73=>j6.c14 Tryz.underlying4 (.ou a8 (Bool.and_eq_true_iff.2 ⟨hc73,beq_iff_eq.2 hg73⟩)) (.ou a8 (Bool.and_eq_true_iff.2 ⟨hc73,beq_iff_eq.2 hg73⟩)) a8⟩,?_⟩
 refine⟨_,.inl ⟨_,_,a8,a8,fun hg74=>j6.E0 (.ou a8 (beq_iff_eq.2 hg74)) (fun hp=>(.ou a8 (Bool.and_eq_true_iff.2 ⟨(beq_iff_eq.2 hg74),beq_iff_eq.2 hp⟩))) a8⟩,?_⟩
 refine⟨_,j6.u0 (.t a8) (fun hp=>(.ou a8 (beq_iff_eq.2 hp))) a8,?_⟩
 refine⟨_,j6.move (.t a8) a8,?_⟩
 refine⟨_,.inl ⟨_,_,a8,a8,fun hg77=>j6.m9 hG (a9X) .nil a8⟩,?_⟩
 refine⟨_,j6.u0 (.t a8) (fun hp=>(.ou a8 (beq_iff_eq.2 hp))) a8,?_⟩
 refine⟨_,j6.assign (.t a8) a8,?_⟩
 show F8 _ _ _ _ _ _ ((6,_)::(78,_)::(77,_)::(76,_)::(75,_)::(74,_)::(73,_)::(72,_)::(71,_)::(70,_)::(69,_)::(68,_)::(67,_)::(66,_)::(65,_)::(64,_)::(63,_)::(62,_)::(61,_)::(60,_)::(59,_)::(58,_)::(57,_)::(56,_)::(55,_)::_) _
 refine .nil (.ret ?_)
 refine⟨_,.r1 a8 (.tmp a8),?_⟩
 have h16:=hp.c0b (by omega) (e:=⟨number.toNat+3,(s17.Ring.Live[Int.toNat 0]'(by show 0 < s17.Ring.Live.length;omega)).Key⟩) (by rw [h2];show((number.toNat:Int)+3)≠2;omega) s17.Ring.b7k
 rw [←hb] at h16
 refine congrArg AV.v ?_
 rw [Bool.and_true,Bool.and_eq_true]
 refine⟨decide_eq_true h16,?_⟩
 cases hfr:s17.A.J0
 ·rfl
 ·show(decide _ == decide _)=true;rw [beq_iff_eq,decide_eq_decide];have hek:=hp.b8y (by omega) (by omega) hfr key s17.Ring.b7k;rw [h2,←hb] at hek;have hlk:(s17.Ring.Live[Int.toNat 0]'(by show 0 < s17.Ring.Live.length;omega))=root:=(by simp [hg,W7]);rw [hlk];exact hek
end Go.Proofs.YtmmclghiidoldaaGreatDoor
namespace Go.Fl
open Go.ChangeShapes Go.WideShapes Go.ChangeAt Go.RowKit
def a69 (W:World):Im:=fun b=>W.heap[b]?
theorem b8J (W:World):Mem (a69 W) [] W:=⟨fun b o h=>h,by simp,by simp,by simp⟩
theorem Fun.calls {P : Program} {f : FuncId} {args : Array Value} {W : World} {r : Value} (h : Fun P f args (a69 W) (fun v _ => v = r)) :
    Calls P f args W (fun e W'=>e = .returned r∧Below W.heap.size W W') :=
  (h.run W (b8J W)).mono fun e w' ⟨v,J,he,hc,_,_,_,hv⟩=>⟨by rw [he,hv],⟨hc.os,hc.tape,hc.output,hc.size,fun k hk=>hc.block k hk (by simp)⟩⟩
theorem a1H {W:World} {x:Addr} {v:Value} (h:W.cell? x=some v):x.spot=none∧∃ cs e fr,W.heap[x.block]?=some (.cells cs e fr)∧cs[x.off]?=some v:=by
 unfold World.cell? at h
 split at h
 ·rename_i c e fr heq
  split at h
  ·cases h
  ·rename_i hs
   exact⟨by simpa using hs,c,e,fr,heq,h⟩
 ·cases h
theorem b4g {P : Program} {W : World} {n : String} {d : DataW Unit} {l : List UInt32} {g : Nat} {T E : TypeId} (hg : P.globalNamed n = some g) (ht : (P.globals[g]?).map (·.type) = some T) (hT : P.underlying T = some (.array l.length E))
    (hE:P.underlying E=some (.int .u32)) (hone:P.cellsOf E=1) (hl:0 < l.length) (hd:d = .agg (l.map fun k => .lit (.int .u32 (k.toNat:Int)))) (h:laidMet P [(n,d)] W):Cells (a69 W) g 0 (l.map u32):=by
  obtain⟨ps,⟨g2,t,cs,fuel,p,q,hg2,ht2,hvar,htr,_,_⟩,_⟩:=h
  obtain rfl:=Option.some.inj (hg.symm.trans hg2)
  obtain rfl:=Option.some.inj (ht.symm.trans ht2)
  obtain⟨xs,m,_,hx,hlen,hxl,hel⟩:=DataW.trod_array hT htr
  have hxd:xs.map (·.1)=l.map fun k=>DataW.lit (.int .u32 (k.toNat:Int)):=by
    have:=(Prod.mk.inj hx).1
    rw [hd] at this
    injection this with h2
    exact h2.symm
  have hcell:∀ (i:Nat) (v:Value),(l.map u32)[i]?=some v→cs[i]?=some v:=by
    intro i v hv
    have hi:i < l.length:=by simpa using (List.getElem?_eq_some_iff.1 hv).1
    have h1:=hel i hi
    rw [hone] at h1
    have hxi:xs[i]?=some (xs[i]'(by omega)):=List.getElem?_eq_getElem (by omega)
    rw [hxi] at h1
    obtain⟨k,hk1,hk2,_⟩:=DataW.trod_int hE h1
    have hfst:(xs.map (·.1))[i]?=some (DataW.lit (.int .u32 k)):=by rw [List.getElem?_map,hxi,Option.map_some,hk2]
    rw [hxd,List.getElem?_map,List.getElem?_eq_getElem hi] at hfst
    simp at hfst
    have hci:cs.toList[i]?=some (.int .u32 k):=by
      have:((cs.toList.drop (i*1)).take 1)[0]?=some (.int .u32 k):=by rw [hk1];rfl
      simpa [List.getElem?_take,List.getElem?_drop] using this
    rw [List.getElem?_map,List.getElem?_eq_getElem hi,Option.map_some] at hv
    have hv:=Option.some.inj hv
    rw [←hv,u32,hfst]
    simpa using hci
  have h0:∃ v,(l.map u32)[0]?=some v:=⟨_,List.getElem?_eq_getElem (by simpa using hl)⟩
  obtain⟨v0,hv0⟩:=h0
  have hc0:=World.var?_cell hg hvar 0
  rw [hcell 0 v0 hv0] at hc0
  obtain⟨_,cs2,e,fr,hob,_⟩:=a1H hc0
  refine⟨cs2,e,fr,hob,fun i v hv => ?_⟩
  have h3:=World.var?_cell hg hvar i
  rw [hcell i v hv] at h3
  obtain⟨_,cs3,e3,fr3,hob3,hv3⟩:=a1H h3
  have:Obj.cells cs2 e fr=Obj.cells cs3 e3 fr3:=Option.some.inj (hob.symm.trans hob3)
  cases this
  simpa using hv3
end Go.Fl
namespace Go.Ab
open Go.Fl Go.RowKit Go.ChangeShapes Go.WideShapes Go.ChangeAt
open p9 (rep)
def a2c (P:Program) (T:TypeId) (α:Type) [p9 α]:Prop:=P.cellsOf T=p9.size α ∧
 ∀ (H:Type) (enc:TypeId×Value→H) (W:World) (base:Nat) (spare:Nat→Bool) (held:Bool) (fuel:Nat) (cs:List Value) (x:DataW H×List MemPlace),DataW.trod enc P W base spare held fuel T cs=some x→∃ a:α,rep (a69 W) a cs
variable {P:Program} {T E:TypeId}
theorem a2c.i64 (hT:P.underlying T=some (.int .i64)) (hc:P.cellsOf T=1):a2c P T Int:=⟨hc,fun H enc W base spare held fuel cs x h=>by
 obtain⟨n,rfl,_,hw⟩:=DataW.trod_int hT h
 simp [Lit.wf,IntKind.min,IntKind.max,IntKind.signed,IntKind.bits] at hw
 exact⟨n,rfl,by omega,by omega⟩⟩
theorem a2c.u8 (hT:P.underlying T=some (.int .u8)) (hc:P.cellsOf T=1):a2c P T UInt8:=⟨hc,fun H enc W base spare held fuel cs x h=>by
 obtain⟨n,rfl,_,hw⟩:=DataW.trod_int hT h
 simp [Lit.wf,IntKind.min,IntKind.max,IntKind.signed,IntKind.bits] at hw
 refine⟨UInt8.ofNat n.toNat,?_⟩
 show [Value.int .u8 n] = [Fl.u8 _]
 unfold Fl.u8
 congr 2;simp;omega⟩
theorem add_add (a:Addr) (i j:Nat):(a.add i).add j=a.add (i+j):=by
 unfold Addr.add
 rcases a with ⟨b,o,_|s⟩<;>by_cases hi:i=0<;>by_cases hj:j=0<;>simp [hi,hj,Nat.add_assoc]
theorem a2c.slice {α:Type} {r:p9 α} (hT:P.underlying T=some (.slice E)) (hc:P.cellsOf T=1) (hE:a2c P E α) (hp:0 < p9.size α):a2c P T (List α):=⟨hc,fun H enc W base spare held fuel cs x h=>by
 rcases DataW.trod_slice hT h with ⟨rfl,_⟩|⟨a,len,cap,elems,rest,n,_,rfl,_,hb,hl,hm,hel,hget,_⟩
 ·exact⟨[],_,a8,[],Sl.nil _ _,a8⟩
 ·have key:∀ k,k≤len→∃ (l:List α) (xs:List Value),l.length=k∧K9 (a69 W) l xs∧∀ i v,xs[i]?=some v→W.cell? (a.add i)=some v:=by
   intro k
   induction k with
   | zero=>exact fun _=>⟨[],[],rfl,rfl,fun i v hv=>by simp at hv⟩
   | succ k ih =>
    intro hk
    obtain⟨l,xs,h1,h2,h3⟩:=ih (by omega)
    have hg:=hget k (by omega)
    rw [List.getElem?_eq_getElem (by omega)] at hg
    obtain⟨c,hc1,hc2⟩:=Option.bind_eq_some_iff.1 hg
    obtain⟨_,hcl,hcell⟩:=World.cells?_some hc1
    obtain⟨y,hy⟩:=hE.2 H enc W base spare held n c _ hc2
    refine⟨l ++ [y],xs++c,by simp [h1],h2.append (.one hy),fun i v hv => ?_⟩
    have hxl:xs.length=k*p9.size α:=by rw [h2.len,h1]
    by_cases hi:i < xs.length
    ·rw [List.getElem?_append_left hi] at hv;exact h3 i v hv
    ·rw [List.getElem?_append_right (by omega)] at hv
     have hj:=(List.getElem?_eq_some_iff.1 hv).1
     have:=hcell (i - xs.length) (by omega)
     rw [hv,hE.1,add_add,←hxl,show xs.length+(i - xs.length)=i by omega] at this
     exact this
  obtain⟨l,xs,h1,h2,h3⟩:=key len (Nat.le_refl _)
  have hxl:=h2.len
  refine⟨l,_,rfl,xs,⟨_,_,by rw [h1],h2.len,by omega,hm,(fun h=>by cases h),fun hne => ?_⟩,h2⟩
  rcases a with ⟨ab,ao,ags⟩
  obtain⟨v0,hv0⟩:∃ v,xs[0]?=some v:=⟨_,List.getElem?_eq_getElem (List.length_pos_iff.2 hne)⟩
  have hc0:=h3 0 v0 hv0
  obtain⟨hsp,cs,e,fr,hob,_⟩:=a1H hc0
  have hsp2:ags=none:=by
   cases ags with
   | none=>rfl
   | some q =>
    unfold Addr.add at hsp
    simp at hsp
  subst hsp2
  rw [Addr.add_plain] at hob
  have hob:W.heap[ab]?=some (Obj.cells cs e fr):=hob
  refine⟨ab,ao,a8,cs,e,fr,hob,fun i v hv => ?_⟩
  have hcv:=h3 i v hv
  rw [Addr.add_plain] at hcv
  obtain⟨_,cs2,e2,fr2,hob2,hv2⟩:=a1H hcv
  have:Obj.cells cs e fr=Obj.cells cs2 e2 fr2:=Option.some.inj (hob.symm.trans hob2)
  cases this
  exact hv2⟩
theorem a2c.array {α:Type} {r:p9 α} {n:Nat} (hT:P.underlying T=some (.array n E)) (hc:P.cellsOf T=n*p9.size α) (hE:a2c P E α):a2c P T (J7 n α):=⟨hc,fun H enc W base spare held fuel cs x h=>by
 obtain⟨xs,m,_,_,hlen,hxl,hel⟩:=DataW.trod_array hT h
 have key:∀ k,k≤n→∃ l:List α,l.length=k∧K9 (a69 W) l (cs.take (k*p9.size α)):=by
  intro k
  induction k with
  | zero=>exact fun _=>⟨[],rfl,by simp [K9]⟩
  | succ k ih =>
   intro hk
   obtain⟨l,h1,h2⟩:=ih (by omega)
   have hg:=hel k (by omega)
   rw [List.getElem?_eq_getElem (by omega),hE.1] at hg
   obtain⟨y,hy⟩:=hE.2 H enc W base spare held m _ _ hg
   refine⟨l ++ [y],by simp [h1],?_⟩
   have e:cs.take ((k+1)*p9.size α)=cs.take (k*p9.size α)++(cs.drop (k*p9.size α)).take (p9.size α):=by
    rw [Nat.succ_mul,List.take_add]
   rw [e]
   exact h2.append (.one hy)
 obtain⟨l,h1,h2⟩:=key n (Nat.le_refl _)
 refine⟨⟨l,h1⟩,?_⟩
 show K9 (a69 W) l cs
 rwa [List.take_of_length_le (by rw [hlen,hc];exact Nat.le_refl _)] at h2⟩
theorem a2c.val {α : Type} {r : p9 α} (h : a2c P T α) {H : Type} {enc : TypeId × Value → H} {W : World} {base : Nat} {spare : Nat → Bool} {held : Bool} {v : Value} {d : DataW H} {p : List MemPlace} (ht : DataW.Trod enc P W base spare held T v d p)
    (hv:∀ cs:List Value,v.cells.toList=cs→v=asV (p9.agg α) cs):∃ a:α,H4 (a69 W) (.v a) v:=by
  obtain⟨fuel,hf⟩:=ht
  obtain⟨a,ha⟩:=h.2 H enc W base spare held fuel _ _ hf
  exact⟨a,_,ha,hv _ a8⟩
theorem u1.calls {G : Gl} {f : FuncId} {ags : List AV} {vs : List Value} {W : World} (h : u1 G P f ags (fun r => r = .v true)) (hG : G.p (a69 W)) (hv : S4 (a69 W) ags vs) :
    Calls P f vs.toArray W (fun e W'=>e = .returned (.bool true)∧Below W.heap.size W W') :=
  Fun.calls ((h (a69 W) vs hG hv).mono fun v J _ ⟨r,h1,h2⟩=>by
    subst h2
    obtain⟨cs,rfl,rfl⟩:=h1
    rfl)
theorem b4h {dd:TypeDesc} (hT:P.underlying T=some dd) (hr:a0X dd=true) {W:World} {r:Reach} {base:Nat} {v:Value} (h:Value.okWide P W r base T v):∃ cs,v = .agg cs:=by
 unfold Value.okWide at h
 rw [hT] at h
 cases dd<;>first|(simp [a0X] at hr;done)|(obtain⟨cs,h1,_⟩:=h;exact⟨cs,h1⟩)
theorem a8W {v:Value} (h:v.cells = #[v]):∀ cs:List Value,v.cells.toList=cs→v=asV false cs:=fun cs hc=>by
 rw [h] at hc;subst hc;rfl
theorem b8K {xs:Array Value}:∀ cs:List Value,(Value.agg xs).cells.toList=cs→Value.agg xs=asV true cs:=fun cs hc=>by
 subst hc;simp [asV,Value.cells]
end Go.Ab
namespace Go.Fl
open Go.RowKit
theorem b6s {P : Program} {W : World} {n : String} {d : DataW Unit} {l : List Int} {g : Nat} {T E : TypeId} (hg : P.globalNamed n = some g) (ht : (P.globals[g]?).map (·.type) = some T) (hT : P.underlying T = some (.array l.length E))
    (hE:P.underlying E=some (.int .i64)) (hone:P.cellsOf E=1) (hl:0 < l.length) (hd:d = .agg (l.map fun k => .lit (.int .i64 k))) (h:laidMet P [(n,d)] W):Cells (a69 W) g 0 (l.map i64):=by
  obtain⟨ps,⟨g2,t,cs,fuel,p,q,hg2,ht2,hvar,htr,_,_⟩,_⟩:=h
  obtain rfl:=Option.some.inj (hg.symm.trans hg2)
  obtain rfl:=Option.some.inj (ht.symm.trans ht2)
  obtain⟨xs,m,_,hx,hlen,hxl,hel⟩:=DataW.trod_array hT htr
  have hxd:xs.map (·.1)=l.map fun k=>DataW.lit (.int .i64 k):=by
    have:=(Prod.mk.inj hx).1
    rw [hd] at this
    injection this with h2
    exact h2.symm
  have hcell:∀ (i:Nat) (v:Value),(l.map i64)[i]?=some v→cs[i]?=some v:=by
    intro i v hv
    have hi:i < l.length:=by simpa using (List.getElem?_eq_some_iff.1 hv).1
    have h1:=hel i hi
    rw [hone] at h1
    have hxi:xs[i]?=some (xs[i]'(by omega)):=List.getElem?_eq_getElem (by omega)
    rw [hxi] at h1
    obtain⟨k,hk1,hk2,_⟩:=DataW.trod_int hE h1
    have hfst:(xs.map (·.1))[i]?=some (DataW.lit (.int .i64 k)):=by rw [List.getElem?_map,hxi,Option.map_some,hk2]
    rw [hxd,List.getElem?_map,List.getElem?_eq_getElem hi] at hfst
    simp at hfst
    have hci:cs.toList[i]?=some (.int .i64 k):=by
      have:((cs.toList.drop (i*1)).take 1)[0]?=some (.int .i64 k):=by rw [hk1];rfl
      simpa [List.getElem?_take,List.getElem?_drop] using this
    rw [List.getElem?_map,List.getElem?_eq_getElem hi,Option.map_some] at hv
    have hv:=Option.some.inj hv
    rw [←hv,i64,hfst]
    simpa using hci
  have h0:∃ v,(l.map i64)[0]?=some v:=⟨_,List.getElem?_eq_getElem (by simpa using hl)⟩
  obtain⟨v0,hv0⟩:=h0
  have hc0:=World.var?_cell hg hvar 0
  rw [hcell 0 v0 hv0] at hc0
  obtain⟨_,cs2,e,fr,hob,_⟩:=a1H hc0
  refine⟨cs2,e,fr,hob,fun i v hv => ?_⟩
  have h3:=World.var?_cell hg hvar i
  rw [hcell i v hv] at h3
  obtain⟨_,cs3,e3,fr3,hob3,hv3⟩:=a1H h3
  have:Obj.cells cs2 e fr=Obj.cells cs3 e3 fr3:=Option.some.inj (hob.symm.trans hob3)
  cases this
  simpa using hv3
end Go.Fl
namespace Go.Proofs.YtmmclghiidoldaaGreatDoor
open Go.Fl Go.Ab Go.Mac Go.Sha
open Go.ChangeShapes Go.WideShapes Go.ChangeAt Go.RowKit
theorem c2L:ownKnob Tryz.prog.godebug=none:=by kernel_rfl
theorem a6y:laidOutB Tryz.prog=true:=by kernel_rfl
noncomputable def b4i (os:Os):World :=
  let w0:=World.holding Tryz.prog os ⟨#[],#[],[]⟩
  { w0 with heap := (w0.heap.modify 1 fun
      | .cells _ t frozen => .cells (kk.map Fl.u32).toArray t frozen
      | o=>o).modify 0 fun
      | .cells _ t frozen => .cells (a6j.l.map i64).toArray t frozen
      | o=>o }
def b5i:List (String×DataW Unit) := [("macaroon/sha.k", Rows.laid_macaroon_sha_k),("macaroon/predicate.bits", Rows.laid_macaroon_predicate_bits)]
set_option maxRecDepth 100000 in
theorem c0N (os:Os) (args:Array Value):laidMet Tryz.prog b5i ((b4i os).forCall (fun _ _=>0) ⟨#[],args,[]⟩).memory :=
 laidMet_of_run' 8 (by kernel_rfl) (by kernel_rfl)
set_option maxRecDepth 100000 in
theorem c2M:b5i.filter (fun x=>x.1 == "macaroon/sha.k") = [("macaroon/sha.k", Rows.laid_macaroon_sha_k)]:=by kernel_rfl
set_option maxRecDepth 100000 in
theorem c2N:b5i.filter (fun x=>x.1 == "macaroon/predicate.bits") = [("macaroon/predicate.bits", Rows.laid_macaroon_predicate_bits)]:=by kernel_rfl
set_option maxRecDepth 100000 in
theorem b5j {W:World} (h:laidMet Tryz.prog b5i W):gl.p (a69 W):=by
 have h1:=h.filter fun x=>x.1 == "macaroon/sha.k"
 have h2:=h.filter fun x=>x.1 == "macaroon/predicate.bits"
 rw [c2M] at h1
 rw [c2N] at h2
 exact⟨b4g (l:=kk) (T:=276) (E:=248) (by kernel_rfl) (by kernel_rfl) Tryz.underlying276 Tryz.underlying248 (by kernel_rfl) (by decide) a8 h1,
  b6s (l:=a6j.l) (T:=190) (E:=3) (by kernel_rfl) (by kernel_rfl) Tryz.underlying190 Tryz.underlying3 (by kernel_rfl) (by decide) rfl h2⟩
theorem op3:a2c Tryz.prog 3 Int := .i64 Tryz.underlying3 (by kernel_rfl)
theorem op5:a2c Tryz.prog 5 UInt8 := .u8 Tryz.underlying5 (by kernel_rfl)
theorem c3t:a2c Tryz.prog 26 (J7 32 UInt8) := .array Tryz.underlying26 (by kernel_rfl) op5
theorem c2O:a2c Tryz.prog 33 (List Int) := .slice Tryz.underlying33 (by kernel_rfl) op3 (by decide)
end Go.Proofs.YtmmclghiidoldaaGreatDoor
