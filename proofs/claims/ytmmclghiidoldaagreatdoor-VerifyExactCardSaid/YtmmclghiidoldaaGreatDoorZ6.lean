/- Plain Lean over any program, and walks of this seat's functions: contracts, each proved once (part 6). -/
import Derived.Test.YtmmclghiidoldaaGreatDoorZ5
set_option maxRecDepth 1000000
set_option synthInstance.maxSize 1000000
set_option synthInstance.maxHeartbeats 10000000
set_option linter.unusedVariables false
set_option linter.unusedSimpArgs false
namespace Go.Proofs.YtmmclghiidoldaaGreatDoor
open Go.Proofs.Tryz
open Go.Fl Go.Ab Go.Mac Go.Sha
theorem b4y (l:List Epo) (p:Epo→Bool):u1 gl prog 36 [.v l,.a8w prog p] (fun r=>r = .v (idx l p)):=by
 refine u1.jn func36 (by kernel_rfl) 19 rfl fun C hC hG => ?_
 refine .q 6 hG ?_
 refine .T7 0 a8 fun hl0 => ?_
 refine .q 6 hG ?_
 refine .D9 (α:=Nat) [(0,_),(1,_),(7,_)] (fun k R=>(8,.v (k:Int))::R) (fun k => []) (fun k=>k≤l.length∧∀ j (hj:j < l.length),j < k→p l[j]=false) (fun k=>l.length - k) (0) (.c2 a8 a8 (.cons a8 (.nil _))) ?_ (.c2 a8 a8 (.c2 a8 a8 (.nil _))) (a8) fun k hF => ?_
 ·simp
 obtain⟨h1,h2⟩:=hF
 refine .q 6 hG ⟨fun hc9 => ?_,fun hc9 => ?_⟩
 ·refine .q 13 hG ?_
  refine .ix (by omega) (by omega) ?_
  refine .q 1 hG ?_
  refine .p (.a4z a8 (.t a8) ?_)
  refine .q 1 hG ?_
  refine .cond (.t a8) (fun hc16 => ?_) (fun hc16 => ?_)
  ·refine .q 6 hG ?_
   refine .e1 a8 a8 ?_
   rw [a8F (by omega) (by simpa using hc16) h2]
  ·refine .q 2 hG ?_
   refine .ad (by omega) (by omega) ?_
   refine .q 2 hG ?_
   refine⟨k+1,.c2 rfl rfl (.c2 rfl rfl (.nil _)),rfl,?_,by omega⟩
   refine⟨by omega,fun j hj hjk => ?_⟩;rcases Nat.lt_or_ge j k with h|h;exact h2 j hj h;(obtain rfl:j=k:=by omega);simpa using hc16
 ·refine .q 3 hG ?_
  refine .p (.assign (.i a8) ?_)
  refine .q 2 hG ?_
  refine .e1 a8 a8 ?_
  rw [a3D fun j hj=>h2 j hj (by omega)]
theorem b5I (f:Tag) (o:Bool) (t:Tag):u1 gl prog 41 [.v f,.v o,.v t] (fun r=>r = .v (o&&decide (f=t))):=by
 refine u1.jn func41 (by kernel_rfl) 13 rfl fun C hC hG => ?_
 refine .q 3 hG fun b3 => ?_
 refine .q 1 hG fun b5 => ?_
 refine .q 8 hG ?_
 refine .go 8 a8 (.t a8) (fun hg11 => .a7m underlying26 sz5 underlying5 a8k (.q a8 hg11) (.q a8 hg11) a8) ?_
 refine .q 4 hG ?_
 refine .e1 a8 a8 ?_
 rfl
theorem c0J (d:Bnd) (c:Y0):u1 gl prog 100 [.v d,.p c] (fun r=>r = .v (decide (d.j8=c.j8))):=by
 refine u1.jn func100 (by kernel_rfl) 9 rfl fun C hC hG => ?_
 refine .q 3 hG fun b2 => ?_
 refine .q 8 hG ?_
 refine .p (.o7 hG (a1h _ _) (.cons (.t a8) (.cons (.t a8) .nil)) ?_)
 refine .q 3 hG ?_
 refine .e1 a8 a8 ?_
 rfl
theorem b1h {l:List Bnd} {t:List UInt8} {d:Bnd} (h:a2g l t=some d):d.j8=t:=by
 have:=List.find?_some h;simpa using this
theorem b4z {l:List UInt8} (h:l.length=32):(⟨l,h⟩:Tag)=K6 default l:=I7.ext (a66 h).symm
theorem b1i {b:Bool} (h:(!b)=true):b=false:=by cases b<;>simp_all
theorem a52 {b:Bool} (h:(!b)=false):b=true:=by cases b<;>simp_all
theorem b5J {p:Tag×Bool} {t:Tag} (h:(p.2&&decide (p.1=t))=true):p=(t,true):=by
 simp only [Bool.and_eq_true,decide_eq_true_eq] at h;exact Prod.ext h.2 h.1
theorem b5K {p:Tag×Bool} {t:Tag} (h:(p.2&&decide (p.1=t))=false):p≠(t,true):=by
 rintro rfl;simp at h
theorem b2L {p:Tag×Bool} {t:Tag} (h:(!p.2||decide (p.1≠t))=true):p≠(t,true):=by
 rintro rfl;simp at h
theorem b2M {p:Tag×Bool} {t:Tag} (h:(!p.2||decide (p.1≠t))=false):p=(t,true):=by
 simp only [Bool.or_eq_false_iff,decide_eq_false_iff_not,Bool.not_eq_false',Decidable.not_not] at h;exact Prod.ext h.2 h.1
theorem b8Z {a:D0} {b:Q4} {c:Y0} {t leaf:Tag} (h:(l9 a t (A9 c.j8)).2=false∨(A5 a (l9 a t (A9 c.j8)).1 c.U4).2≠0∨(A5 a (l9 a t (A9 c.j8)).1 c.U4).1.length≠32):W2 a b c t leaf=14:=by
 unfold W2
 rcases h with h|h
 ·rw [if_pos h]
 ·by_cases h2:(l9 a t (A9 c.j8)).2=false
  ·rw [if_pos h2]
  ·rw [if_neg h2,if_pos h]
theorem b5L {a : D0} {b : Q4} {c : Y0} {t leaf : Tag} (h : ¬ (l9 a t (A9 c.j8)).2 = false) (h2 : ¬ ((A5 a (l9 a t (A9 c.j8)).1 c.U4).2 ≠ 0 ∨ (A5 a (l9 a t (A9 c.j8)).1 c.U4).1.length ≠ 32)) :
    W2 a b c t leaf=match a2g b.j4 c.j8 with
      | none=>17
      | some d =>
        if (a0t a (K6 default (A5 a (l9 a t (A9 c.j8)).1 c.U4).1) c.j8 d.l8).2=false then 20 else
        if M8 a (a0t a (K6 default (A5 a (l9 a t (A9 c.j8)).1 c.U4).1) c.j8 d.l8).1 leaf b.Request≠(d.Proof,true) then 20 else 0:=by
  unfold W2;rw [if_neg h,if_neg h2];rfl
theorem c2j (a:D0) (b:Q4) (c:Y0) (t leaf:Tag) (hpl:∀ x∈a.y2,x.Plain.length≤1000000) (hc:c.j8.length≤1024):u1 gl prog 42 [.v a,.v b,.v c,.v t,.v leaf] (fun r=>r = .v (W2 a b c t leaf)):=by
 refine u1.jn func42 (by kernel_rfl) 85 rfl fun C hC hG => ?_
 refine .q 3 hG fun b5 => ?_
 refine .q 1 hG fun b6 => ?_
 refine .q 1 hG fun b7 => ?_
 refine .q 1 hG fun b8 => ?_
 refine .q 1 hG fun b9 => ?_
 refine .q 3 hG ?_
 refine .A0 hC .z4 (.M1 5 a8 .z4 (.A0 hC .z3 (.M1 6 a8 .z3 (.A0 hC .z2 (.M1 7 a8 .z2 (.A0 hC .z1 (.M1 8 a8 .z1 (.A0 hC .z (.M1 9 a8 .z (.del .z (.del .z (.del .z (.del .z (.del .z ?_))))))))))))))
 refine .D7 [] (by kernel_rfl) 12 [[],[],[],[(22,2)],[(23,3)],[(20,0),(21,1),(24,4)],[(25,5)],[(19,6)],[(19,6)],[],[(11,9),(26,7)],[(27,8)]] [9,10] a8 (by kernel_rfl) a8 (by kernel_rfl) (by decide) ?_
 refine⟨_,fun H=>j6.G2 y7 (.t a8) a8,?_⟩
 refine⟨_,fun H=>j6.G2 y6 (.t a8) a8,?_⟩
 refine⟨_,fun H=>j6.A7 m9.l3 (fun x=>x.j8) a8n a8 (fun _=>a8) (.t a8) a8,?_⟩
 refine⟨_,fun H=>j6.G2 a2H (.t a8) a8,?_⟩
 refine⟨_,fun H=>j6.o7 hG (a92 _ _ (by decide) (by omega)) (.cons (.s [115,101,97,108] (by decide) (by decide)) (.cons (.t a8) .nil)) a8,?_⟩
 refine⟨_,fun H=>j6.o7 hG (a1C _ _ _) (.cons (.t a8) (.cons (.t a8) (.cons (.t a8) .nil))) a8,?_⟩
 refine⟨_,fun H=>j6.move (.t a8) a8,?_⟩
 refine⟨_,fun H=>j6.Z8 (.t a8) a8,?_⟩
 refine⟨_,fun H=>j6.Z9 (.t a8) a8,?_⟩
 refine .inl (.inl ?_)
 refine⟨_,fun H=>j6.assign (.t a8) a8,?_⟩
 refine⟨⟨([],j2 []),a8⟩,?_⟩
 refine A6.alloc y6 fun b11 => ?_
 refine⟨⟨([_],j2 []),a8⟩,?_⟩
 refine A6.O5 y6 (.t rfl) (.t rfl) .z ?_
 refine⟨⟨([_],j2 []),a8⟩,?_⟩
 show D5 _ _ _ _ _ [] ((12,_)::(11,_)::(27,_)::(26,_)::(19,_)::(25,_)::(24,_)::(23,_)::(22,_)::(21,_)::(20,_)::_) _
 refine .q 7 hG ?_
 refine .cond (.t a8) (fun hc29 => ?_) (fun hc29 => ?_)
 ·refine .q 5 hG ?_
  refine .e1 a8 a8 ?_
  rw [b8Z (Or.inl (by(have hx:(!(l9 a t (A9 c.j8)).2)=true:=hc29;simpa using hx)))]
 ·refine .q 2 hG ?_
  have h1:¬(l9 a t (A9 c.j8)).2=false:=by(have hx:(!(l9 a t (A9 c.j8)).2)=false:=hc29;simpa using hx)
  refine .q 5 hG ?_
  refine .p (.o7 hG (b6w _ _ _ hpl) (.cons (.t a8) (.cons (.t a8) (.cons (.t a8) .nil))) ?_)
  refine .q 17 hG ?_
  refine .cond (.t a8) (fun hc44 => ?_) (fun hc44 => ?_)
  ·refine .q 5 hG ?_
   refine .e1 a8 a8 ?_
   rw [b8Z (Or.inr (by(have hx:(decide ((A5 a (l9 a t (A9 c.j8)).1 c.U4).2≠0)||decide (((A5 a (l9 a t (A9 c.j8)).1 c.U4).1.length:Int)≠32))=true:=hc44);simp only [Bool.or_eq_true,decide_eq_true_eq] at hx;rcases hx with hx|hx;exact Or.inl hx;exact Or.inr (by omega)))]
  ·refine .q 2 hG ?_
   have h2:(A5 a (l9 a t (A9 c.j8)).1 c.U4).2=0∧(A5 a (l9 a t (A9 c.j8)).1 c.U4).1.length=32:=(by(have hx:(decide ((A5 a (l9 a t (A9 c.j8)).1 c.U4).2≠0)||decide (((A5 a (l9 a t (A9 c.j8)).1 c.U4).1.length:Int)≠32))=false:=hc44);simp only [Bool.or_eq_false_iff,decide_eq_false_iff_not,Decidable.not_not] at hx;exact⟨hx.1,by omega⟩)
   rw [b5L h1 (by rintro (h|h);exact h h2.1;exact h h2.2)]
   refine .q 3 hG ?_
   refine .p (.b0F hG (fun x=>c0J x _) (.cons (.t a8) .nil) (.p (.o7 hG (a81 _ _) (.cons (.t a8) (.cons (.t a8) .nil)) ?_)))
   refine .q 9 hG ⟨fun hc50 => ?_,fun hc50 => ?_⟩
   ·refine .q 5 hG ?_
    refine .e1 a8 a8 ?_
    unfold a2g
    rw [b0T (show ¬0≤idx b.j4 (fun d=>decide (d.j8=c.j8)) from fun hx=>absurd hc50 (Int.not_lt.2 hx))]
   ·refine .q 2 hG ?_
    have hi0:0≤idx b.j4 (fun d=>decide (d.j8=c.j8)):=Int.not_lt.1 hc50
    have hi1:=b4a hi0
    have hd:a2g b.j4 c.j8=some b.j4[(idx b.j4 (fun d=>decide (d.j8=c.j8))).toNat]:=b0S hi0 (by omega)
    have hdt:=b1h hd
    rw [hd]
    dsimp only
    refine .q 4 hG ?_
    refine .ix (by omega) (by omega) ?_
    refine .q 2 hG fun b16 => ?_
    refine .q 3 hG ?_
    refine .A0 hC .z (.M1 16 a8 .z ?_)
    have ed:a0t a (K6 default (A5 a (l9 a t (A9 c.j8)).1 c.U4).1) c.j8 b.j4[(idx b.j4 (fun d=>decide (d.j8=c.j8))).toNat].l8=a0t a ⟨(A5 a (l9 a t (A9 c.j8)).1 c.U4).1,h2.2⟩ b.j4[(idx b.j4 (fun d=>decide (d.j8=c.j8))).toNat].j8 b.j4[(idx b.j4 (fun d=>decide (d.j8=c.j8))).toNat].l8:=(by rw [hdt,b4z h2.2])
    rw [ed]
    refine .D7 [j1,j1] (by kernel_rfl) 15 [[],[],[(58,1)],[(59,2)],[],[(61,4)],[],[(63,6)],[(57,0),(60,3),(62,5),(64,7)],[(65,8)],[(56,9)],[(56,9)],[],[(17,12),(66,10)],[(67,11)]] [12,13] a8 (by kernel_rfl) a8 (by kernel_rfl) (by decide) ?_
    refine⟨_,fun H=>j6.G2 y7 (.t a8) a8,?_⟩
    refine⟨_,fun H=>j6.move (.t a8) a8,?_⟩
    refine⟨_,fun H=>j6.c0o underlying26 (by decide) (by decide) (.t a8) h2.2 a8,?_⟩
    refine⟨_,fun H=>j6.G2 y6 (.t a8) a8,?_⟩
    refine⟨_,fun H=>j6.A7 p8.l0 (fun x=>x.j8) a6N a8 (fun _=>a8) (.t a8) a8,?_⟩
    refine⟨_,fun H=>j6.G2 a2H (.t a8) a8,?_⟩
    refine⟨_,fun H=>j6.A7 p8.l1 (fun x=>x.l8) a5E a8 (fun _=>a8) (.t a8) a8,?_⟩
    refine⟨_,fun H=>j6.G2 a8B (.t a8) a8,?_⟩
    refine⟨_,fun H=>j6.o7 hG (b8D _ _ _ _ (by rw [hdt];omega)) (.cons (.t a8) (.cons (.t a8) (.cons (.t a8) (.cons (.t a8) .nil)))) a8,?_⟩
    refine⟨_,fun H=>j6.move (.t a8) a8,?_⟩
    refine⟨_,fun H=>j6.Z8 (.t a8) a8,?_⟩
    refine⟨_,fun H=>j6.Z9 (.t a8) a8,?_⟩
    refine .inl (.inl ?_)
    refine⟨_,fun H=>j6.assign (.t a8) a8,?_⟩
    refine⟨⟨([],j2 [c8,c8]),a8⟩,?_⟩
    refine A6.alloc y6 fun b17 => ?_
    refine⟨⟨([_],j2 [c8,c8]),a8⟩,?_⟩
    refine A6.O5 y6 (.t rfl) (.t rfl) .z ?_
    refine⟨⟨([_],j2 [c8,c8]),a8⟩,?_⟩
    show D5 _ _ _ _ _ [] ((12,_)::(17,_)::(67,_)::(66,_)::(56,_)::(65,_)::(64,_)::(63,_)::(62,_)::(61,_)::(60,_)::(59,_)::(58,_)::(57,_)::_) _
    refine .q 7 hG ?_
    refine .cond (.t a8) (fun hc69 => ?_) (fun hc69 => ?_)
    ·refine .q 5 hG ?_
     refine .e1 a8 a8 ?_
     have hx:(!(a0t a ⟨(A5 a (l9 a t (A9 c.j8)).1 c.U4).1,h2.2⟩ b.j4[(idx b.j4 (fun d=>decide (d.j8=c.j8))).toNat].j8 b.j4[(idx b.j4 (fun d=>decide (d.j8=c.j8))).toNat].l8).2)=true:=hc69
     rw [if_pos (by simpa using hx)]
    ·refine .q 2 hG ?_
     have hx69:(!(a0t a ⟨(A5 a (l9 a t (A9 c.j8)).1 c.U4).1,h2.2⟩ b.j4[(idx b.j4 (fun d=>decide (d.j8=c.j8))).toNat].j8 b.j4[(idx b.j4 (fun d=>decide (d.j8=c.j8))).toNat].l8).2)=false:=hc69
     rw [if_neg (by simpa using hx69)]
     refine .q 6 hG ?_
     refine .p (.o7 hG (b6C _ _ _ _) (.cons (.t a8) (.cons (.t a8) (.cons (.t a8) (.cons (.t a8) .nil)))) ?_)
     refine .q 4 hG fun b18 => ?_
     refine .q 10 hG ?_
     refine .p (.o7 hG (b5I _ _ _) (.cons (.t a8) (.cons (.t a8) (.cons (.t a8) .nil))) ?_)
     refine .q 2 hG ?_
     refine .cond (.t a8) (fun hc84 => ?_) (fun hc84 => ?_)
     ·refine .q 5 hG ?_
      refine .e1 a8 a8 ?_
      have hx:((M8 a (a0t a ⟨(A5 a (l9 a t (A9 c.j8)).1 c.U4).1,h2.2⟩ b.j4[(idx b.j4 (fun d=>decide (d.j8=c.j8))).toNat].j8 b.j4[(idx b.j4 (fun d=>decide (d.j8=c.j8))).toNat].l8).1 leaf b.Request).2&&decide ((M8 a (a0t a ⟨(A5 a (l9 a t (A9 c.j8)).1 c.U4).1,h2.2⟩ b.j4[(idx b.j4 (fun d=>decide (d.j8=c.j8))).toNat].j8 b.j4[(idx b.j4 (fun d=>decide (d.j8=c.j8))).toNat].l8).1 leaf b.Request).1=b.j4[(idx b.j4 (fun d=>decide (d.j8=c.j8))).toNat].Proof))=false:=b1i hc84
      rw [if_pos (b5K hx)]
     ·refine .q 6 hG ?_
      refine .e1 a8 a8 ?_
      have hx:((M8 a (a0t a ⟨(A5 a (l9 a t (A9 c.j8)).1 c.U4).1,h2.2⟩ b.j4[(idx b.j4 (fun d=>decide (d.j8=c.j8))).toNat].j8 b.j4[(idx b.j4 (fun d=>decide (d.j8=c.j8))).toNat].l8).1 leaf b.Request).2&&decide ((M8 a (a0t a ⟨(A5 a (l9 a t (A9 c.j8)).1 c.U4).1,h2.2⟩ b.j4[(idx b.j4 (fun d=>decide (d.j8=c.j8))).toNat].j8 b.j4[(idx b.j4 (fun d=>decide (d.j8=c.j8))).toNat].l8).1 leaf b.Request).1=b.j4[(idx b.j4 (fun d=>decide (d.j8=c.j8))).toNat].Proof))=true:=a52 hc84
      rw [if_neg (by rw [b5J hx];simp)]
theorem a54 {α:Type} {l:List α} {p:α→Bool} {k:Nat} (h:k < l.length) (h1:p l[k]=true) (h2:∀ j (hj:j < l.length),j < k→p l[j]=false):l.find? p=some l[k] :=
 List.find?_eq_some_iff_getElem.2 ⟨h1,k,h,rfl,fun j hj=>by rw [h2 j (by omega) hj];rfl⟩
theorem a55 {α:Type} {l:List α} {p:α→Bool} (h:∀ j (hj:j < l.length),p l[j]=false):l.find? p=none :=
 List.find?_eq_none.2 fun x hx=>by
  obtain⟨j,hj,rfl⟩:=List.getElem_of_mem hx
  rw [h j hj];decide
theorem b2N (g:Ring) (n:Int):u1 gl prog 45 [.v g,.v n] (fun r=>r = .t2 (.v ((a0T g n).getD default)) (.v (a0T g n).isSome)):=by
 refine u1.jn func45 (by kernel_rfl) 28 rfl fun C hC hG => ?_
 refine .q 3 hG fun b2 => ?_
 refine .q 1 hG fun b4 => ?_
 refine .q 4 hG ?_
 refine .A0 hC .z1 (.M1 2 a8 .z1 (.del (.s .z) ?_))
 refine .q 4 hG ?_
 refine .D9 (α:=Nat) [(1,_),(2,_),(4,_)] (fun k R=>(6,.v (k:Int))::R) (Function.const _ _) (fun k=>k≤g.Live.length∧∀ j (hj:j < g.Live.length),j < k→decide (g.Live[j].Number=n)=false) (fun k=>g.Live.length - k) (0) (.c2 a8 a8 (.cons a8 (.nil _))) ?_ (.c2 a8 a8 (.c2 a8 a8 (.nil _))) (a8) fun k hF => ?_
 ·simp
 obtain⟨h1,h2⟩:=hF
 refine .q 10 hG ⟨fun hc11 => ?_,fun hc11 => ?_⟩
 ·refine .q 8 hG ?_
  refine .ix (by omega) (by omega) ?_
  refine .q 6 hG ⟨fun hc21 => ?_,fun hc21 => ?_⟩
  ·refine .q 5 hG ?_
   refine .ix (by omega) (by omega) (.p (.G2 a6l (.t a8) (.n (.O5 a6l (.t a8) (.t a8) .z (.p (.assign .b ?_))))))
   refine .q 2 hG ?_
   refine⟨_,.r2 a8 (.cell a6l a8 .z) (.tmp a8),?_⟩
   have e:a0T g n=some g.Live[k]:=a54 (by omega) (decide_eq_true hc21) h2
   rw [e];rfl
  ·refine .q 1 hG ?_
   refine .T7 9 a8 fun hl9 => ?_
   refine .q 2 hG ?_
   refine .ad (by omega) (by omega) ?_
   refine .q 2 hG ?_
   refine⟨k+1,.c2 rfl rfl (.c2 rfl rfl (.nil _)),rfl,?_,by omega⟩
   refine⟨by omega,fun j hj hjk => ?_⟩;rcases Nat.lt_or_ge j k with h|h;exact h2 j hj h;(obtain rfl:j=k:=by omega);exact decide_eq_false hc21
 ·refine .q 3 hG ?_
  refine .p (.bS0 (α:=u4) a8 a6l b9J (.n (.O5 a6l (.t a8) (.t a8) .z (.p (.assign .b ?_)))))
  refine .q 2 hG ?_
  refine⟨_,.r2 a8 (.cell a6l a8 .z) (.tmp a8),?_⟩
  have e:a0T g n=none:=a55 fun j hj=>h2 j hj (by omega)
  rw [e];rfl
theorem b4A (b:Q4) (t:List UInt8):u1 gl prog 113 [.v b,.v t] (fun r=>r = .t2 (.v ((a2g b.j4 t).getD default)) (.v (a2g b.j4 t).isSome)):=by
 refine u1.jn func113 (by kernel_rfl) 28 rfl fun C hC hG => ?_
 refine .q 3 hG fun b2 => ?_
 refine .q 1 hG fun b4 => ?_
 refine .q 4 hG ?_
 refine .A0 hC .z1 (.M1 2 a8 .z1 (.del (.s .z) ?_))
 refine .q 4 hG ?_
 refine .D9 (α:=Nat) [(1,_),(2,_),(4,_)] (fun k R=>(6,.v (k:Int))::R) (Function.const _ _) (fun k=>k≤b.j4.length∧∀ j (hj:j < b.j4.length),j < k→decide (b.j4[j].j8=t)=false) (fun k=>b.j4.length - k) (0) (.c2 a8 a8 (.cons a8 (.nil _))) ?_ (.c2 a8 a8 (.c2 a8 a8 (.nil _))) (a8) fun k hF => ?_
 ·simp
 obtain⟨h1,h2⟩:=hF
 refine .q 10 hG ⟨fun hc11 => ?_,fun hc11 => ?_⟩
 ·refine .q 8 hG ?_
  refine .ix (by omega) (by omega) ?_
  refine .q 3 hG ?_
  refine .p (.o7 hG (a5L _ _) (.cons (.t a8) (.cons (.t a8) .nil)) ?_)
  refine .q 1 hG ?_
  refine .cond (.t a8) (fun hc21 => ?_) (fun hc21 => ?_)
  ·refine .q 5 hG ?_
   refine .ix (by omega) (by omega) (.p (.G2 a1f (.t a8) (.n (.O5 a1f (.t a8) (.t a8) .z (.p (.assign .b ?_))))))
   refine .q 2 hG ?_
   refine⟨_,.r2 a8 (.cell a1f a8 .z) (.tmp a8),?_⟩
   have e:a2g b.j4 t=some b.j4[k]:=a54 (by omega) hc21 h2
   rw [e];rfl
  ·refine .q 1 hG ?_
   refine .T7 9 a8 fun hl9 => ?_
   refine .q 2 hG ?_
   refine .ad (by omega) (by omega) ?_
   refine .q 2 hG ?_
   refine⟨k+1,.c2 rfl rfl (.c2 rfl rfl (.nil _)),rfl,?_,by omega⟩
   refine⟨by omega,fun j hj hjk => ?_⟩;rcases Nat.lt_or_ge j k with h|h;exact h2 j hj h;(obtain rfl:j=k:=by omega);exact hc21
 ·refine .q 3 hG ?_
  refine .p (.bS0 (α:=p8) a8 a1f b6d (.n (.O5 a1f (.t a8) (.t a8) .z (.p (.assign .b ?_)))))
  refine .q 2 hG ?_
  refine⟨_,.r2 a8 (.cell a1f a8 .z) (.tmp a8),?_⟩
  have e:a2g b.j4 t=none:=a55 fun j hj=>h2 j hj (by omega)
  rw [e];rfl
theorem c0K {a : D0} {c : Y0} {t : Tag} (h : (!(l9 a t (A9 c.j8)).2 || decide ((A5 a (l9 a t (A9 c.j8)).1 c.U4).2 ≠ 0) || decide (((A5 a (l9 a t (A9 c.j8)).1 c.U4).1.length : Int) ≠ 32)) = true) :
    (l9 a t (A9 c.j8)).2=false∨(A5 a (l9 a t (A9 c.j8)).1 c.U4).2≠0∨(A5 a (l9 a t (A9 c.j8)).1 c.U4).1.length≠32:=by
  simp only [Bool.or_eq_true,decide_eq_true_eq,Bool.not_eq_true'] at h
  rcases h with (h|h)|h
  · exact Or.inl h
  · exact Or.inr (Or.inl h)
  · exact Or.inr (Or.inr (by omega))
theorem b4B {a : D0} {c : Y0} {t : Tag} (h : (!(l9 a t (A9 c.j8)).2 || decide ((A5 a (l9 a t (A9 c.j8)).1 c.U4).2 ≠ 0) || decide (((A5 a (l9 a t (A9 c.j8)).1 c.U4).1.length : Int) ≠ 32)) = false) :
    ¬(l9 a t (A9 c.j8)).2=false∧(A5 a (l9 a t (A9 c.j8)).1 c.U4).2=0∧(A5 a (l9 a t (A9 c.j8)).1 c.U4).1.length=32:=by
  simp only [Bool.or_eq_false_iff,decide_eq_false_iff_not,Bool.not_eq_false',Decidable.not_not] at h
  exact⟨by rw [h.1.1];decide,h.1.2,by omega⟩
theorem c0L (a:D0) (b:Q4) (c:Y0) (t leaf:Tag) (hpl:∀ x∈a.y2,x.Plain.length≤1000000) (hc:c.j8.length≤1024):u1 gl prog 49 [.v a,.v b,.v c,.v t,.v leaf] (fun r=>r = .v (W2 a b c t leaf)):=by
 refine u1.jn func49 (by kernel_rfl) 88 rfl fun C hC hG => ?_
 refine .q 3 hG fun b5 => ?_
 refine .q 1 hG fun b6 => ?_
 refine .q 1 hG fun b7 => ?_
 refine .q 1 hG fun b8 => ?_
 refine .q 1 hG fun b9 => ?_
 refine .q 3 hG ?_
 refine .A0 hC .z4 (.M1 5 a8 .z4 (.A0 hC .z3 (.M1 6 a8 .z3 (.A0 hC .z2 (.M1 7 a8 .z2 (.A0 hC .z1 (.M1 8 a8 .z1 (.A0 hC .z (.M1 9 a8 .z (.del .z (.del .z (.del .z (.del .z (.del .z ?_))))))))))))))
 refine .D7 [] (by kernel_rfl) 12 [[],[],[],[(22,2)],[(23,3)],[(20,0),(21,1),(24,4)],[(25,5)],[(19,6)],[(19,6)],[],[(11,9),(26,7)],[(27,8)]] [9,10] a8 (by kernel_rfl) a8 (by kernel_rfl) (by decide) ?_
 refine⟨_,fun H=>j6.G2 y7 (.t a8) a8,?_⟩
 refine⟨_,fun H=>j6.G2 y6 (.t a8) a8,?_⟩
 refine⟨_,fun H=>j6.A7 m9.l3 (fun x=>x.j8) a8n a8 (fun _=>a8) (.t a8) a8,?_⟩
 refine⟨_,fun H=>j6.G2 a2H (.t a8) a8,?_⟩
 refine⟨_,fun H=>j6.o7 hG (a8R _ (by omega)) (.cons (.t a8) .nil) a8,?_⟩
 refine⟨_,fun H=>j6.o7 hG (a2X _ _ _) (.cons (.t a8) (.cons (.t a8) (.cons (.t a8) .nil))) a8,?_⟩
 refine⟨_,fun H=>j6.move (.t a8) a8,?_⟩
 refine⟨_,fun H=>j6.Z8 (.t a8) a8,?_⟩
 refine⟨_,fun H=>j6.Z9 (.t a8) a8,?_⟩
 refine .inl (.inl ?_)
 refine⟨_,fun H=>j6.assign (.t a8) a8,?_⟩
 refine⟨⟨([],j2 []),a8⟩,?_⟩
 refine A6.alloc y6 fun b11 => ?_
 refine⟨⟨([_],j2 []),a8⟩,?_⟩
 refine A6.O5 y6 (.t rfl) (.t rfl) .z ?_
 refine⟨⟨([_],j2 []),a8⟩,?_⟩
 show D5 _ _ _ _ _ [] ((12,_)::(11,_)::(27,_)::(26,_)::(19,_)::(25,_)::(24,_)::(23,_)::(22,_)::(21,_)::(20,_)::_) _
 refine .q 7 hG ?_
 refine .p (.o7 hG (b5y _ _ _ hpl) (.cons (.t a8) (.cons (.t a8) (.cons (.t a8) .nil))) ?_)
 refine .q 21 hG ?_
 refine .cond (.t a8) (fun hc46 => ?_) (fun hc46 => ?_)
 ·refine .q 5 hG ?_
  refine .e1 a8 a8 ?_
  rw [b8Z (c0K hc46)]
 ·refine .q 2 hG ?_
  obtain⟨h1,h21,h22⟩:=b4B hc46
  rw [b5L h1 (by rintro (h|h);exact h h21;exact h h22)]
  refine .q 4 hG ?_
  refine .p (.o7 hG (b4A _ _) (.cons (.t a8) (.cons (.t a8) .nil)) ?_)
  refine .q 4 hG fun b15 => ?_
  refine .q 9 hG ?_
  refine .cond (.t a8) (fun hc55 => ?_) (fun hc55 => ?_)
  ·refine .q 5 hG ?_
   refine .e1 a8 a8 ?_
   have hn:a2g b.j4 c.j8=none:=(by cases h:a2g b.j4 c.j8;rfl;(rw [h] at hc55;cases hc55))
   rw [hn]
  ·refine .q 2 hG ?_
   obtain⟨d,hd⟩:=Option.isSome_iff_exists.1 (a52 hc55)
   rw [hd]
   refine .q 2 hG fun b16 => ?_
   refine .q 3 hG ?_
   refine .p (.b3G M0 (.t a8) ?_)
   refine .q 1 hG ?_
   refine .h (.b3L ty5 underlying86 (.t a8) .z (.v (.t a8)) (by omega) ?_)
   refine .q 9 hG ?_
   refine .p (.o7 hG (b6D _ _ _ _ (by omega)) (.cons (.t a8) (.cons (.t a8) (.cons (.t a8) (.cons (.t a8) .nil)))) ?_)
   refine .q 4 hG fun b17 => ?_
   refine .q 9 hG ?_
   refine .cond (.t a8) (fun hc70 => ?_) (fun hc70 => ?_)
   ·refine .q 5 hG ?_
    refine .e1 a8 a8 ?_
    have hx:(!(a0t a (K6 default (A5 a (l9 a t (A9 c.j8)).1 c.U4).1) c.j8 d.l8).2)=true:=hc70
    dsimp only
    rw [if_pos (b1i hx)]
   ·refine .q 2 hG ?_
    have hx70:(!(a0t a (K6 default (A5 a (l9 a t (A9 c.j8)).1 c.U4).1) c.j8 d.l8).2)=false:=hc70
    refine .q 6 hG ?_
    refine .p (.o7 hG (b4r _ _ _ _) (.cons (.t a8) (.cons (.t a8) (.cons (.t a8) (.cons (.t a8) .nil)))) ?_)
    refine .q 4 hG fun b18 => ?_
    refine .q 12 hG ?_
    refine .go 82 a8 (.t a8) (fun hg86 => .b7P underlying26 sz5 underlying5 a8k (.q a8 hg86) (.q a8 hg86) a8) ?_
    refine .q 2 hG ?_
    refine .cond (.t a8) (fun hc87 => ?_) (fun hc87 => ?_)
    ·refine .q 5 hG ?_
     refine .e1 a8 a8 ?_
     have hx:(!(M8 a (a0t a (K6 default (A5 a (l9 a t (A9 c.j8)).1 c.U4).1) c.j8 d.l8).1 leaf b.Request).2||decide ((M8 a (a0t a (K6 default (A5 a (l9 a t (A9 c.j8)).1 c.U4).1) c.j8 d.l8).1 leaf b.Request).1≠d.Proof))=true:=hc87
     dsimp only
     rw [if_neg (by rw [a52 hx70];decide),if_pos (b2L hx)]
    ·refine .q 6 hG ?_
     refine .e1 a8 a8 ?_
     have hx:(!(M8 a (a0t a (K6 default (A5 a (l9 a t (A9 c.j8)).1 c.U4).1) c.j8 d.l8).1 leaf b.Request).2||decide ((M8 a (a0t a (K6 default (A5 a (l9 a t (A9 c.j8)).1 c.U4).1) c.j8 d.l8).1 leaf b.Request).1≠d.Proof))=false:=hc87
     dsimp only
     rw [if_neg (by rw [a52 hx70];decide),if_neg (by rw [b2M hx];simp)]
theorem c0M (b:Q4):u1 gl prog 43 [.v b] (fun r=>r = .v (a4Q b)):=by
 refine u1.jn func43 (by kernel_rfl) 32 rfl fun C hC hG => ?_
 refine .q 3 hG fun b1 => ?_
 refine .q 2 hG ?_
 refine .scope ?_
 refine .q 1 hG ?_
 refine .label ?_
 refine .q 2 hG ?_
 refine .A0 hC .z (.M1 1 a8 .z (.del .z ?_))
 refine .q 7 hG ?_
 refine .D9 (α:=Nat) [(1,_),(8,_),(9,_)] (fun i R=>(10,.v (i:Int))::R) (Function.const _ _) (fun i=>i≤b.j4.length∧(b.j4.take i).any (a2e b)=false) (fun i=>b.j4.length - i) (0) (.c2 a8 a8 (.cons a8 (.nil _))) ?_ (.c2 a8 a8 (.c2 a8 a8 (.nil _))) (a8) fun i hF => ?_
 ·exact⟨Nat.zero_le _,a8⟩
 obtain⟨h1,h2⟩:=hF
 refine .q 1 hG ?_
 refine .T7 8 a8 fun hl8 => ?_
 refine .q 5 hG ⟨fun hc11 => ?_,fun hc11 => ?_⟩
 ·refine .q 5 hG ?_
  refine .ix (by omega) (by omega) ?_
  refine .q 2 hG fun b4 => ?_
  refine .q 4 hG ?_
  refine .A0 hC .z (.M1 4 a8 .z (.del .z ?_))
  have hi:i < b.j4.length:=by omega
  refine .q 7 hG ?_
  refine .D9 (α:=Nat) [(1,_),(4,_),(8,_),(9,_),(10,_),(15,_),(16,_)] (fun k R=>(17,.v (k:Int))::R) (Function.const _ _) (fun k=>k≤b.j9.length∧(b.j9.take k).any (fun c:Y0=>c.Q2&&decide (c.j8=b.j4[i].j8))=false) (fun k=>b.j9.length - k) (0) (.c2 a8 a8 (.c2 a8 a8 (.c2 a8 a8 (.cons a8 (.nil _))))) ?_ (.c2 a8 a8 (.c2 a8 a8 (.c2 a8 a8 (.c2 a8 a8 (.nil _))))) (a8) fun k hF => ?_
  ·exact⟨Nat.zero_le _,a8⟩
  obtain⟨h3,h4⟩:=hF
  refine .q 1 hG ?_
  refine .T7 15 a8 fun hl15 => ?_
  refine .q 5 hG ⟨fun hc18 => ?_,fun hc18 => ?_⟩
  ·refine .q 5 hG ?_
   refine .ix (by omega) (by omega) ?_
   refine .q 2 hG fun b6 => ?_
   refine .q 3 hG ?_
   refine .A0 hC .z (.M1 6 a8 .z (.del .z ?_))
   have hk:k < b.j9.length:=by omega
   refine .q 8 hG ?_
   refine .go 23 a8 (.t a8) (fun hg28 => .o7 hG (a1h _ _) (.cons (.q a8 hg28) (.cons (.q a8 hg28) .nil)) a8) ?_
   refine .q 2 hG ?_
   refine .cond (.t a8) (fun hc29 => ?_) (fun hc29 => ?_)
   ·refine .q 1 hG ?_
    have hex:a2e b b.j4[i]=false:=(by unfold a2e;rw [List.any_eq_true.2 ⟨b.j9[k],List.getElem_mem hk,hc29⟩];rfl)
    refine .q 1 hG ?_
    refine .ad (by omega) (by omega) ?_
    refine .q 2 hG ?_
    refine⟨i+1,.c2 rfl rfl (.c2 rfl rfl (.nil _)),rfl,?_,by omega⟩
    exact⟨by omega,by rw [any_succ (a2e b) _ i hi,h2,hex];rfl⟩
   ·refine .q 2 hG ?_
    refine .ad (by omega) (by omega) ?_
    refine .q 2 hG ?_
    refine⟨k+1,.c2 rfl rfl (.c2 rfl rfl (.c2 rfl rfl (.c2 rfl rfl (.nil _)))),rfl,?_,by omega⟩
    exact⟨by omega,by rw [any_succ (fun c:Y0=>c.Q2&&decide (c.j8=b.j4[i].j8)) _ k hk,h4];exact hc29⟩
  ·refine .q 6 hG ?_
   refine .e1 a8 a8 ?_
   have hex:a2e b b.j4[i]=true:=(by rw [List.take_of_length_le (by omega)] at h4;unfold a2e;rw [h4];rfl)
   have e:a4Q b=true:=List.any_eq_true.2 ⟨_,List.getElem_mem hi,hex⟩
   rw [e]
 ·refine .q 6 hG ?_
  refine .e1 a8 a8 ?_
  rw [List.take_of_length_le (by omega)] at h2
  have e:a4Q b=false:=h2
  rw [e]
def a2N (b:List UInt8):Nat:=(b.take 7).findIdx fun c => !decide (127 < c)
def a6A:List UInt8→Nat
 | []=>0
 | c::l=>c.toNat % 128+128*a6A l
theorem b5M:∀ l:List UInt8,a6A l < 128^l.length
 | []=>by decide
 | c::l=>by
  have:=b5M l
  rw [List.length_cons,Nat.pow_succ];unfold a6A;omega
def a0g (b:List UInt8):Int×Int×Int :=
 if a2N b=7 then (0,0,5) else if a2N b=b.length then (0,0,3) else
 if (decide (0 < a2N b)&&decide (b.getD (a2N b) 0=0)) then (0,0,5) else
 if 281474976710656 < a6A (b.take (a2N b+1)) then (0,0,1) else ((a6A (b.take (a2N b+1)):Int),(a2N b:Int)+1,0)
theorem b9a (b:List UInt8):a2N b≤7∧a2N b≤b.length:=by
 have h:=List.findIdx_le_length (p:=fun c:UInt8 => !decide (127 < c)) (xs:=b.take 7)
 rw [List.length_take] at h
 unfold a2N;omega
theorem b9b {b:List UInt8} {k:Nat} (h1:k≤7) (h2:k≤b.length) (h3:∀ j (hj:j < b.length),j < k→decide (127 < b[j])=true) (h4:k=7∨k=b.length∨∃ h:k < b.length,decide (127 < b[k])=false):a2N b=k:=by
 unfold a2N
 by_cases e:k < (b.take 7).length
 ·rw [List.findIdx_eq e]
  rw [List.length_take] at e
  refine⟨?_,fun j hj => ?_⟩
  ·rcases h4 with h4|h4|⟨h4,h5⟩
   ·omega
   ·omega
   ·simp only [List.getElem_take];rw [h5];rfl
  ·simp only [List.getElem_take];rw [h3 j (by omega) hj];rfl
 ·rw [List.length_take] at e
  have:(b.take 7).length=k:=by rw [List.length_take];omega
  rw [←this]
  refine List.findIdx_eq_length.2 fun x hx => ?_
  obtain⟨j,hj,rfl⟩:=List.getElem_of_mem hx
  simp only [List.getElem_take]
  rw [List.length_take] at hj
  rw [h3 j (by omega) (by omega)];rfl
theorem b6M {b:List UInt8} {k j:Nat} (hk:k < b.length) (hj:j≤k) (hj2:j < b.length):a6A ((b.take (k+1)).drop j)=128*a6A ((b.take (k+1)).drop (j+1))+b[j].toNat % 128:=by
 have hl:j < (b.take (k+1)).length:=by rw [List.length_take];omega
 rw [List.drop_eq_getElem_cons hl]
 simp only [a6A,List.getElem_take];omega
theorem b5N {b:List UInt8} {k:Nat} (h:k < b.length):b.getD k default=b[k]:=by rw [List.getD_eq_getElem?_getD,List.getElem?_eq_getElem h];rfl
theorem a82 {b:List UInt8} {k j:Nat} (hk:k≤6):a6A ((b.take (k+1)).drop j) < 562949953421312:=by
 refine Nat.lt_of_lt_of_le (b5M _) ?_
 refine Nat.le_trans (Nat.pow_le_pow_right (by decide) (show((b.take (k+1)).drop j).length≤7 by simp;omega)) (by decide)
theorem c0N (b:List UInt8):u1 gl prog 208 [.v b] (fun r=>r = .t3 (.v (a0g b).1) (.v (a0g b).2.1) (.v (a0g b).2.2)):=by
 refine u1.jn func208 (by kernel_rfl) 59 rfl fun C hC hG => ?_
 refine .q 7 hG ?_
 refine .T7 0 a8 fun hl0 => ?_
 refine .q 5 hG ?_
 refine .D9 (α:=Nat) [(0,_)] (fun k R=>(5,.v (k:Int))::R) (fun k => []) (fun k=>k≤7∧k≤b.length∧∀ j (hj:j < b.length),j < k→decide (127 < b[j])=true) (fun k=>7 - k) (0) (.cons a8 (.nil _)) ?_ (.c2 a8 a8 (.nil _)) (a8) fun k hF => ?_
 ·simp
 obtain⟨h1,h2,h3⟩:=hF
 refine .q 14 hG ?_
 refine .go 16 a8 (.t a8) (fun hg19 => .c3l ty5 underlying86 (.q a8 hg19) (.q a8 hg19) (by first|omega|(simp;omega)|(have:=hg19;simp at this;omega)) (by first|omega|(simp;omega)|(have:=hg19;simp at this;omega)) a8) ?_
 refine .q 4 hG ?_
 refine .cond (.t a8) (fun hc22 => ?_) (fun hc22 => ?_)
 ·refine .q 2 hG ?_
  have hlt1:k < b.length:=by(simp only [Bool.and_eq_true,decide_eq_true_eq] at hc22;omega)
  have hlt2:k < 7:=by(simp only [Bool.and_eq_true,decide_eq_true_eq] at hc22;omega)
  have hlt3:decide (127 < b[k])=true:=(by rw [←b5N hlt1];simp only [Bool.and_eq_true] at hc22;exact hc22.2)
  refine .q 2 hG ?_
  refine .ad (by omega) (by omega) ?_
  refine .q 2 hG ?_
  refine⟨k+1,.c2 rfl rfl (.nil _),rfl,?_,by omega⟩
  refine⟨by omega,by omega,fun j hj hjk => ?_⟩;rcases Nat.lt_or_ge j k with h|h;exact h3 j hj h;(obtain rfl:j=k:=by omega);exact hlt3
 ·refine .q 3 hG ?_
  have hcl:a2N b=k:=b9b h1 h2 h3 (by rcases Nat.lt_or_ge k 7 with h|h;rcases Nat.lt_or_ge k b.length with h5|h5;right;right;refine⟨h5,?_⟩;(rw [decide_eq_true (show(k:Int) < (b.length:Int) by omega),decide_eq_true (show(k:Int) < 7 by omega)] at hc22;rw [←b5N h5];exact hc22);right;left;omega;left;omega)
  refine .q 5 hG ⟨fun hc26 => ?_,fun hc26 => ?_⟩
  ·refine .q 7 hG ?_
   refine⟨_,.r3 a8 (.tmp a8) (.tmp a8) (.tmp a8),?_⟩
   have e:a0g b=(0,0,5):=(by unfold a0g;rw [if_pos (by omega)])
   rw [e]
  ·refine .q 10 hG ⟨fun hc30 => ?_,fun hc30 => ?_⟩
   ·refine .q 7 hG ?_
    refine⟨_,.r3 a8 (.tmp a8) (.tmp a8) (.tmp a8),?_⟩
    have e:a0g b=(0,0,3):=(by unfold a0g;rw [if_neg (by omega),if_pos (by omega)])
    rw [e]
   ·refine .q 3 hG ?_
    have hkl:k < b.length:=by omega
    have hgd:b.getD k 0=b[k]:=by rw [List.getD_eq_getElem?_getD,List.getElem?_eq_getElem hkl];rfl
    refine .q 6 hG ?_
    refine .go 33 a8 (.t a8) (fun hg36 => .c3l ty5 underlying86 (.q a8 hg36) (.q a8 hg36) (by first|omega|(simp;omega)|(have:=hg36;simp at this;omega)) (by first|omega|(simp;omega)|(have:=hg36;simp at this;omega)) a8) ?_
    refine .q 4 hG ?_
    refine .cond (.t a8) (fun hc39 => ?_) (fun hc39 => ?_)
    ·refine .q 7 hG ?_
     refine⟨_,.r3 a8 (.tmp a8) (.tmp a8) (.tmp a8),?_⟩
     have e:a0g b=(0,0,5):=(by unfold a0g;rw [if_neg (by omega),if_neg (by omega),hcl,if_pos (by simp only [Bool.and_eq_true,decide_eq_true_eq] at hc39 ⊢;exact⟨by omega,hc39.2⟩)])
     rw [e]
    ·refine .q 2 hG ?_
     have hcz:(decide (0 < a2N b)&&decide (b.getD (a2N b) 0=0))=false:=(by rw [hcl,←hc39];congr 1;exact decide_eq_decide.2 (by omega))
     refine .q 10 hG ?_
     refine .D9 (α:=Nat) [(0,_),(5,_)] (fun j R=>(6,.v ((a6A ((b.take (k+1)).drop j):Nat):Int))::(7,.v ((j:Int) - 1))::R) (fun j => []) (fun j=>j≤k+1) (fun j=>j) (k+1) (.c2 a8 a8 (.nil _)) ?_ (.cons (congrArg (fun q=>some (AV.v q)) (by simp [a6A])) (.cons (congrArg (fun q=>some (AV.v q)) (by omega)) (.c2 a8 a8 (.nil _)))) (a8) fun j hF => ?_
     ·simp
     refine .q 7 hG ⟨fun hc42 => ?_,fun hc42 => ?_⟩
     ·refine .q 3 hG ?_
      have hj0:1≤j:=by omega
      have hvs:=a82 (b:=b) (k:=k) (j:=j) (by omega)
      refine .q 2 hG ?_
      refine .p (.mul (.i a8) (.t a8) (by omega) (by omega) ?_)
      refine .q 2 hG ?_
      refine .ix (by omega) (by omega) ?_
      refine .q 1 hG ?_
      refine .p (.c1J underlying5 underlying3 (.t a8) (.p (.rem (.t a8) (.i a8) (by omega) (by omega) ?_)))
      refine .ad (by omega) (by omega) ?_
      refine .q 2 hG ?_
      have hs:(128:Int)*((a6A ((b.take (k+1)).drop j):Nat):Int)+((b[((j:Int) - 1).toNat]'(by omega)).toNat:Int) % 128=((a6A ((b.take (k+1)).drop (j - 1)):Nat):Int):=(by have h5:=b6M (b:=b) (k:=k) (j:=j - 1) hkl (by omega) (by omega);rw [show j - 1+1=j by omega] at h5;rw [h5];simp only [show((j:Int) - 1).toNat=j - 1 by omega];omega)
      refine .q 2 hG ?_
      refine .sb (by omega) (by omega) ?_
      refine .q 2 hG ?_
      refine⟨j - 1,.cons (congrArg (fun q=>some (AV.v q)) hs) (.cons (congrArg (fun q=>some (AV.v q)) (by omega)) (.c2 rfl rfl (.nil _))),rfl,?_,by omega⟩
      omega
     ·refine .q 3 hG ?_
      obtain rfl:j=0:=by omega
      rw [List.drop_zero]
      have hvs:=a82 (b:=b) (k:=k) (j:=0) (by omega)
      rw [List.drop_zero] at hvs
      refine .q 5 hG ⟨fun hc55 => ?_,fun hc55 => ?_⟩
      ·refine .q 7 hG ?_
       refine⟨_,.r3 a8 (.tmp a8) (.tmp a8) (.tmp a8),?_⟩
       have e:a0g b=(0,0,1):=(by unfold a0g;rw [if_neg (by omega),if_neg (by omega),hcz,if_neg (by decide),hcl,if_pos (by omega)])
       rw [e]
      ·refine .q 5 hG ?_
       refine .ad (by omega) (by omega) ?_
       refine .q 5 hG ?_
       refine⟨_,.r3 a8 (.tmp a8) (.tmp a8) (.tmp a8),?_⟩
       have e:a0g b=((a6A (b.take (k+1)):Int),(k:Int)+1,0):=(by unfold a0g;rw [if_neg (by omega),if_neg (by omega),hcz,if_neg (by decide),hcl,if_neg (by omega)])
       rw [e]
theorem b4C (b:List UInt8):0≤(a0g b).2.1∧(a0g b).2.1≤b.length:=by
 have h:=b9a b
 unfold a0g
 split
 ·exact⟨Int.le_refl _,Int.natCast_nonneg _⟩
 ·split
  ·exact⟨Int.le_refl _,Int.natCast_nonneg _⟩
  ·split
   ·exact⟨Int.le_refl _,Int.natCast_nonneg _⟩
   ·split
    ·exact⟨Int.le_refl _,Int.natCast_nonneg _⟩
    ·dsimp only;omega
abbrev Rdr:=m7
abbrev rd (w:Value):AV := .ln w (m0.id (α:=Rdr))
def b4D (r:Rdr):Prop:=0≤r.Used∧r.Used≤r.B.length∧r.B.length≤1000000
def a39 (r:Rdr) (e:Int):Rdr:=if r.E=0 then ⟨r.B,r.Used,e⟩ else r
theorem b9c (r:Rdr) (e:Int):(a39 r e).B=r.B:=by unfold a39;split<;>rfl
theorem b2O (r:Rdr) (e:Int):(a39 r e).Used=r.Used:=by unfold a39;split<;>rfl
theorem c0O (w:Value) (r:Rdr) (e:Int):F5 gl prog 209 [rd w,.v e] [.ob w r] (fun x Hs=>Hs = [.ob w (a39 r e)]):=by
 refine F5.Q6 func209 rfl (by kernel_rfl) 13 rfl rfl _ rfl _ rfl fun C hC hG => ?_
 refine .q 2 hG ?_
 refine .mv a8 (.p (.F3 (.t a8) (.p (.B1 m7.l2 a4Y a8 (.t a8) (.p (.ldF (fun x=>x.E) b6m (.t a8) .z (fun _=>a8) (.p (.b3e (.t a8) (.i a8) ?_))))))))
 refine .q 1 hG ?_
 refine .M3 (.t a8) (fun hc8 => ?_) (fun hc8 => ?_)
 ·refine .q 1 hG ?_
  refine .mv a8 (.mv a8 (.p (.F3 (.t a8) (.p (.B1 m7.l2 a4Y a8 (.t a8) (.n (.stF (fun y x => { x with E:=y }) b6m (.t a8) (.t a8) .z (fun _ _=>a8) ?_)))))))
  refine .q 1 hG ?_
  refine⟨_,.r0 a8,?_⟩
  have e0:a39 r e=⟨r.B,r.Used,e⟩:=if_pos hc8
  refine⟨_,.cons .z (.nil),?_⟩
  rw [e0]
 ·refine .q 1 hG ?_
  refine⟨_,.r0 a8,?_⟩
  have e0:a39 r e=r:=if_neg hc8
  refine⟨_,.cons .z (.nil),?_⟩
  rw [e0]
def rdNum (r:Rdr):Int×Rdr :=
 if r.E≠0 then (0,r) else ((a0g (r.B.drop r.Used.toNat)).1,⟨r.B,r.Used+(a0g (r.B.drop r.Used.toNat)).2.1,(a39 r (a0g (r.B.drop r.Used.toNat)).2.2).E⟩)
theorem b6N (w:Value) (r:Rdr) (h:b4D r):F5 gl prog 185 [rd w] [.ob w r] (fun x Hs=>x = .v (rdNum r).1∧Hs = [.ob w (rdNum r).2]):=by
 obtain⟨h0,h1,h2⟩:=h
 have hu:=b4C (r.B.drop r.Used.toNat)
 have hdl:(r.B.drop r.Used.toNat).length=r.B.length - r.Used.toNat:=List.length_drop
 refine F5.Q6 func185 rfl (by kernel_rfl) 38 rfl rfl _ rfl _ rfl fun C hC hG => ?_
 refine .q 2 hG ?_
 refine .p (.assign (.i a8) ?_)
 refine .q 4 hG ?_
 refine .mv a8 (.p (.F3 (.t a8) (.p (.B1 m7.l2 a4Y a8 (.t a8) (.p (.ldF (fun x=>x.E) b6m (.t a8) .z (fun _=>a8) (.p (.b0g (.t a8) (.i a8) ?_))))))))
 refine .q 1 hG ?_
 refine .M3 (.t a8) (fun hc10 => ?_) (fun hc10 => ?_)
 ·refine .q 2 hG ?_
  refine .p (.assign (.i a8) ?_)
  refine .q 2 hG ?_
  refine .e1 a8 a8 ?_
  have e0:rdNum r=(0,r):=if_pos hc10
  refine⟨_,.cons .z (.nil),?_⟩
  rw [e0];exact⟨rfl,rfl⟩
 ·refine .q 2 hG ?_
  refine .draw (by kernel_rfl) 17 [[],[(12,0)],[(13,1)],[(14,2)],[],[(16,4)],[(17,5)],[(18,6)],[(15,3),(19,7)],[(20,8)],[(21,9)],[(11,10)],[(11,10)],[(11,10)],[(22,11)],[(23,12)],[(24,13)]] a8 (by kernel_rfl) a8 ?_
  refine⟨_,j6.move (.t a8) a8,?_⟩
  refine⟨_,j6.F3 (.t a8) a8,?_⟩
  refine⟨_,j6.B1 m7.l0 b0s a8 (.t a8) a8,?_⟩
  refine⟨_,j6.ldF (fun x=>x.B) a2H (.t a8) .z (fun _=>a8) a8,?_⟩
  refine⟨_,j6.move (.t a8) a8,?_⟩
  refine⟨_,j6.F3 (.t a8) a8,?_⟩
  refine⟨_,j6.B1 m7.l1 a3P a8 (.t a8) a8,?_⟩
  refine⟨_,j6.ldF (fun x=>x.Used) R6 (.t a8) .z (fun _=>a8) a8,?_⟩
  refine⟨_,j6.b7N ty5 underlying86 (.t a8) (.t a8) (by omega) (by omega) a8,?_⟩
  refine⟨_,j6.o7 hG (c0N _) (.cons (.t a8) .nil) a8,?_⟩
  refine⟨_,j6.move (.t a8) a8,?_⟩
  refine⟨_,j6.O7 (.t a8) a8,?_⟩
  refine⟨_,j6.O8 (.t a8) a8,?_⟩
  refine⟨_,j6.O9 (.t a8) a8,?_⟩
  refine⟨_,j6.assign (.t a8) a8,?_⟩
  refine⟨_,j6.assign (.t a8) a8,?_⟩
  refine⟨_,j6.assign (.t a8) a8,?_⟩
  show D5 _ _ _ _ _ [] ((5,_)::(4,_)::(3,_)::(24,_)::(23,_)::(22,_)::(11,_)::(21,_)::(20,_)::(19,_)::(18,_)::(17,_)::(16,_)::(15,_)::(14,_)::(13,_)::(12,_)::_) _
  refine .q 5 hG ?_
  refine .h (.C8 hG (c0O _ _ _) .z (.cons (.t a8) (.cons (.t a8) .nil)) (by rintro _ _ rfl;exact⟨_,rfl⟩) fun r27 B27 hr27 => ?_)
  cases hr27
  refine .q 2 hG ?_
  have hfu:=b2O r (a0g (r.B.drop r.Used.toNat)).2.2
  refine .q 7 hG ?_
  refine .ad (by omega) (by omega) ?_
  refine .q 10 hG ?_
  refine .e1 a8 a8 ?_
  have e0:rdNum r=((a0g (r.B.drop r.Used.toNat)).1,⟨r.B,r.Used+(a0g (r.B.drop r.Used.toNat)).2.1,(a39 r (a0g (r.B.drop r.Used.toNat)).2.2).E⟩):=if_neg hc10
  refine⟨_,.cons .z (.nil),?_⟩
  rw [e0];refine⟨rfl,?_⟩;rw [b9c,b2O]
theorem b9d (w:Value) (r:Rdr) (n:Int) (h:b4D r) (he:r.E=0) (hn0:0≤n) (hn:n≤r.B.length - r.Used):F5 gl prog 207 [rd w,.v n] [.ob w r] (fun x Hs=>x = .v ((r.B.take (r.Used+n).toNat).drop r.Used.toNat)∧Hs = [.ob w (⟨r.B,r.Used+n,r.E⟩:Rdr)]):=by
 obtain⟨h0,h1,h2⟩:=h
 refine F5.Q6 func207 rfl (by kernel_rfl) 58 rfl rfl _ rfl _ rfl fun C hC hG => ?_
 refine .q 6 hG ?_
 refine .draw (by kernel_rfl) 19 [[],[(5,0)],[(6,1)],[(7,2)],[(8,3)],[(9,4)],[],[(11,6)],[(12,7)],[(13,8)],[(14,9)],[],[(16,11)],[(17,12)],[(18,13)],[(15,10),(19,14)],[],[(20,15),(21,16)],[(10,5),(22,17)]] a8 (by kernel_rfl) a8 ?_
 refine⟨_,j6.move (.t a8) a8,?_⟩
 refine⟨_,j6.F3 (.t a8) a8,?_⟩
 refine⟨_,j6.B1 m7.l2 a4Y a8 (.t a8) a8,?_⟩
 refine⟨_,j6.ldF (fun x=>x.E) b6m (.t a8) .z (fun _=>a8) a8,?_⟩
 refine⟨_,j6.b3e (.t a8) (.i a8) a8,?_⟩
 refine⟨_,j6.move (.t a8) a8,?_⟩
 refine⟨_,⟨_,_,a8,a8,fun hg11=>j6.move (.t a8) a8⟩,?_⟩
 refine⟨_,⟨_,_,a8,a8,fun hg12=>j6.F3 (.q a8 hg12) a8⟩,?_⟩
 refine⟨_,⟨_,_,a8,a8,fun hg13=>j6.B1 m7.l0 b0s a8 (.q a8 hg13) a8⟩,?_⟩
 refine⟨_,⟨_,_,a8,a8,fun hg14=>j6.ldF (fun x=>x.B) a2H (.q a8 hg14) .z (fun _=>a8) a8⟩,?_⟩
 refine⟨_,⟨_,_,a8,a8,fun hg15=>j6.len underlying86 (.q a8 hg15) a8⟩,?_⟩
 refine⟨_,⟨_,_,a8,a8,fun hg16=>j6.move (.t a8) a8⟩,?_⟩
 refine⟨_,⟨_,_,a8,a8,fun hg17=>j6.F3 (.q a8 hg17) a8⟩,?_⟩
 refine⟨_,⟨_,_,a8,a8,fun hg18=>j6.B1 m7.l1 a3P a8 (.q a8 hg18) a8⟩,?_⟩
 refine⟨_,⟨_,_,a8,a8,fun hg19=>j6.ldF (fun x=>x.Used) R6 (.q a8 hg19) .z (fun _=>a8) a8⟩,?_⟩
 refine⟨_,⟨_,_,a8,a8,fun hg20=>j6.sub (.q a8 hg20) (.q a8 hg20) (by first|omega|(simp;omega)|(have:=hg20;simp at this;omega)) (by first|omega|(simp;omega)|(have:=hg20;simp at this;omega)) a8⟩,?_⟩
 refine⟨_,⟨_,_,a8,a8,fun hg21=>j6.move (.t a8) a8⟩,?_⟩
 refine⟨_,⟨_,_,a8,a8,fun hg22=>j6.lss (.q a8 hg22) (.q a8 hg22) a8⟩,?_⟩
 refine⟨_,j6.S3 (.t a8) (fun hp=>(.q a8 hp)) a8,?_⟩
 show D5 _ _ _ _ _ [] ((23,_)::(22,_)::(21,_)::(20,_)::(19,_)::(18,_)::(17,_)::(16,_)::(15,_)::(14,_)::(13,_)::(12,_)::(11,_)::(10,_)::(9,_)::(8,_)::(7,_)::(6,_)::(5,_)::_) _
 refine .q 1 hG ?_
 refine .cond (.t a8) (fun hc23=>(by exfalso;simp only [he,Bool.and_eq_true,decide_eq_true_eq] at hc23;omega)) (fun hc23 => ?_)
 refine .q 4 hG ?_
 refine .mv a8 (.p (.F3 (.t a8) (.p (.B1 m7.l2 a4Y a8 (.t a8) (.p (.ldF (fun x=>x.E) b6m (.t a8) .z (fun _=>a8) (.p (.b0g (.t a8) (.i a8) ?_))))))))
 refine .q 1 hG ?_
 refine .M3 (.t a8) (fun hc31=>(by exfalso;exact hc31 he)) (fun hc31 => ?_)
 refine .q 3 hG ?_
 refine .mv a8 (.mv a8 (.p (.F3 (.t a8) (.p (.B1 m7.l1 a3P a8 (.t a8) (.p (.ldF (fun x=>x.Used) R6 (.t a8) .z (fun _=>a8) (.mv a8 (.p (.add (.t a8) (.t a8) (by omega) (by omega) (.p (.F3 (.t a8) (.p (.B1 m7.l1 a3P a8 (.t a8) (.n (.stF (fun y x => { x with Used:=y }) R6 (.t a8) (.t a8) .z (fun _ _=>a8) ?_))))))))))))))))
 refine .q 2 hG ?_
 refine .draw (by kernel_rfl) 16 [[],[(43,0)],[(44,1)],[(45,2)],[],[(47,4)],[(48,5)],[(49,6)],[],[(50,7),(51,8)],[],[(53,10)],[(54,11)],[(55,12)],[(46,3),(52,9),(56,13)],[(57,14)]] a8 (by kernel_rfl) a8 ?_
 refine⟨_,j6.move (.t a8) a8,?_⟩
 refine⟨_,j6.F3 (.t a8) a8,?_⟩
 refine⟨_,j6.B1 m7.l0 b0s a8 (.t a8) a8,?_⟩
 refine⟨_,j6.ldF (fun x=>x.B) a2H (.t a8) .z (fun _=>a8) a8,?_⟩
 refine⟨_,j6.move (.t a8) a8,?_⟩
 refine⟨_,j6.F3 (.t a8) a8,?_⟩
 refine⟨_,j6.B1 m7.l1 a3P a8 (.t a8) a8,?_⟩
 refine⟨_,j6.ldF (fun x=>x.Used) R6 (.t a8) .z (fun _=>a8) a8,?_⟩
 refine⟨_,j6.move (.t a8) a8,?_⟩
 refine⟨_,j6.sub (.t a8) (.t a8) (by simp<;>omega) (by simp<;>omega) a8,?_⟩
 refine⟨_,j6.move (.t a8) a8,?_⟩
 refine⟨_,j6.F3 (.t a8) a8,?_⟩
 refine⟨_,j6.B1 m7.l1 a3P a8 (.t a8) a8,?_⟩
 refine⟨_,j6.ldF (fun x=>x.Used) R6 (.t a8) .z (fun _=>a8) a8,?_⟩
 refine⟨_,j6.c2Q ty5 underlying86 (.t a8) (.t a8) (.t a8) (by simp<;>omega) (by omega) (by simp<;>omega) a8,?_⟩
 refine⟨_,j6.assign (.t a8) a8,?_⟩
 show D5 _ _ _ _ _ [] ((4,_)::(57,_)::(56,_)::(55,_)::(54,_)::(53,_)::(52,_)::(51,_)::(50,_)::(49,_)::(48,_)::(47,_)::(46,_)::(45,_)::(44,_)::(43,_)::_) _
 refine .q 2 hG ?_
 refine .e1 a8 a8 ?_
 refine⟨_,.cons .z (.nil),?_⟩
 refine⟨congrArg AV.v ?_,a8⟩
 rw [show r.Used+n - n=r.Used by omega]
theorem c2k (w:Value) (r:Rdr) (h:b4D r) (he:r.E=0) (hn:32≤r.B.length - r.Used):F5 gl prog 184 [rd w] [.ob w r] (fun x Hs=>x = .v (K6 (default:Tag) ((r.B.take (r.Used+32).toNat).drop r.Used.toNat))∧Hs = [.ob w (⟨r.B,r.Used+32,r.E⟩:Rdr)]):=by
 have hok:=h
 obtain⟨h0,h1,h2⟩:=h
 refine F5.Q6 func184 rfl (by kernel_rfl) 9 rfl rfl _ rfl _ rfl fun C hC hG => ?_
 refine .q 3 hG fun b2 => ?_
 refine .q 4 hG fun b3 => ?_
 refine .q 2 hG ?_
 refine .D7 [j0,j1,j0] (by kernel_rfl) 4 [[],[],[(5,1)],[(4,0),(6,2)]] [2,3] a8 (by kernel_rfl) a8 (by kernel_rfl) (by decide) ?_
 refine⟨_,fun H=>j6.b3G M0 (.t a8) a8,?_⟩
 refine⟨_,fun H=>j6.move (.t a8) a8,?_⟩
 refine .inl (.inl ?_)
 refine⟨⟨([],j2 [_,c8,_]),a8⟩,?_⟩
 refine A6.C8 hG (b9d _ _ _ hok he (by decide) hn) .z2 (.cons (.t rfl) (.cons (.i rfl) .nil)) (by rintro _ _ ⟨_,rfl⟩;exact⟨_,rfl⟩) fun r6 B6 hr6 => ?_
 obtain⟨rfl,hB⟩:=hr6
 cases hB
 refine⟨⟨([],j2 [_,c8,_]),a8⟩,?_⟩
 refine A6.b3L ty5 underlying86 (.t rfl) .z (.v (.t rfl)) (by simp<;>omega) ?_
 refine⟨⟨([],j2 [_,c8,_]),a8⟩,?_⟩
 show D5 _ _ _ _ _ [] ((7,_)::(6,_)::(5,_)::(4,_)::_) _
 refine .q 7 hG ?_
 refine⟨_,.r1 a8 (.cell y6 a8 .z1),?_⟩
 refine⟨_,.cons .z2 (.nil),?_⟩
 exact⟨a8,a8⟩
theorem b0b {w:Value} {r r':Rdr} {v:Int} (h:b4D r) (e:rdNum r=(v,r')):F5 gl prog 185 [rd w] [.ob w r] (fun x Hs=>x = .v v∧Hs = [.ob w r']):=by
 have:=b6N w r h
 rw [e] at this;exact this
theorem b1j (a : D0) (c : b0Y) (t : List UInt8) (k : Tag) (hpl : ∀ x ∈ a.y2, x.Plain.length ≤ 1000000) (ho : A5 a c.Key t = (k.l ++ [0, 150, 1], 0)) :
    u1 gl prog 141 [.v a,.v c,.v t] (fun r=>r = .t3 (.v k) (.v (⟨0,150⟩:B2)) (.v (0:Int))):=by
  have hb:(k.l ++ [0,150,1]).length=35:=by rw [List.length_append,I7.len];rfl
  have ht:(k.l ++ [0,150,1]).take 32=k.l:=List.take_left' k.len
  have hd:(k.l ++ [0,150,1]).drop 32 = [0,150,1]:=List.drop_left' k.len
  have hd2:(k.l ++ [0,150,1]).drop 33 = [150,1]:=by
    rw [show 33=32+1 from rfl,←List.drop_drop,hd];rfl
  have hn1:rdNum ⟨k.l ++ [0,150,1],32,0⟩=(0,⟨k.l ++ [0,150,1],33,0⟩):=by
    unfold rdNum
    rw [if_neg (show ¬((0:Int)≠0) by decide)]
    dsimp only
    rw [show((32:Int).toNat)=32 from rfl,hd];rfl
  have hn2:rdNum ⟨k.l ++ [0,150,1],33,0⟩=(150,⟨k.l ++ [0,150,1],35,0⟩):=by
    unfold rdNum
    rw [if_neg (show ¬((0:Int)≠0) by decide)]
    dsimp only
    rw [show((33:Int).toNat)=33 from rfl,hd2];rfl
  have ok0:b4D ⟨k.l ++ [0,150,1],0,0⟩:=⟨Int.le_refl _,Int.natCast_nonneg _,by dsimp only;omega⟩
  have ok1:b4D ⟨k.l ++ [0,150,1],32,0⟩:=⟨show(0:Int)≤32 by decide,by dsimp only;omega,by dsimp only;omega⟩
  have ok2:b4D ⟨k.l ++ [0,150,1],33,0⟩:=⟨show(0:Int)≤33 by decide,by dsimp only;omega,by dsimp only;omega⟩
  refine u1.jn func141 (by kernel_rfl) 61 rfl fun C hC hG => ?_
  refine .q 3 hG fun b3 => ?_
  refine .q 1 hG fun b4 => ?_
  refine .q 1 hG fun b6 => ?_
  refine .q 1 hG fun b7 => ?_
  refine .q 3 hG ?_
  refine .A0 hC .z3 (.M1 3 a8 .z3 (.A0 hC .z2 (.M1 4 a8 .z2 ?_)))
  refine .q 5 hG ?_
  refine .p (.o7 hG (b5y _ _ _ hpl) (.cons (.t a8) (.cons (.t a8) (.cons (.t a8) .nil))) ?_)
  refine .q 8 hG ?_
  rw [ho]
  refine .q 4 hG ?_
  refine .M3 (.t a8) (fun hc23=>(by exfalso;exact hc23 rfl)) (fun hc23 => ?_)
  refine .q 4 hG ?_
  refine .p (.bS1 m7.l0 a8 c3f c2I (fun c0=>(⟨c0,0,0⟩:m7)) (fun _=>a8) a8 a8 (.t a8) ?_)
  refine .q 1 hG fun b29 => ?_
  refine .q 5 hG ?_
  refine .h (.C8 hG (c2k _ (⟨k.l ++ [0,150,1],0,0⟩:Rdr) ok0 a8 (by dsimp only;omega)) .z (.cons (.t a8) .nil) (by rintro _ _ ⟨_,rfl⟩;exact⟨_,rfl⟩) fun r31 B31 hr31 => ?_)
  obtain⟨rfl,hB⟩:=hr31
  cases hB
  refine .q 1 hG fun b12 => ?_
  refine .q 5 hG fun b13 => ?_
  refine .q 4 hG ?_
  refine .h (.C8 hG (b0b ok1 hn1) .z2 (.cons (.t a8) .nil) (by rintro _ _ ⟨_,rfl⟩;exact⟨_,rfl⟩) fun r33 B33 hr33 => ?_)
  obtain⟨rfl,hB⟩:=hr33
  cases hB
  refine .q 6 hG ?_
  refine .h (.C8 hG (b0b ok2 hn2) .z2 (.cons (.t a8) .nil) (by rintro _ _ ⟨_,rfl⟩;exact⟨_,rfl⟩) fun r36 B36 hr36 => ?_)
  obtain⟨rfl,hB⟩:=hr36
  cases hB
  refine .q 22 hG ?_
  refine .kg hG (a95 _) ?_
  refine .q 3 hG ?_
  refine .cond (.t a8) (fun hc56=>(by exfalso;simp [hb,a0L] at hc56)) (fun hc56 => ?_)
  refine .q 2 hG ?_
  refine .D7 [j1,j1,j1,j0,j0,j1,j1] (by kernel_rfl) 5 [[],[],[(59,0)],[(60,1)],[]] [2,3] a8 (by kernel_rfl) a8 (by kernel_rfl) (by decide) ?_
  refine⟨_,fun H=>j6.Q1 y6 (.t a8) (u7.app .z1) a8,?_⟩
  refine⟨_,fun H=>j6.Q1 b1T (.t a8) (u7.app .z) a8,?_⟩
  refine .inl (.inl ?_)
  refine⟨_,fun H=>j6.assign (.i a8) a8,?_⟩
  refine⟨⟨([],j2 [c8,c8,c8,_,_,c8,c8]),a8⟩,?_⟩
  refine A6.O5 y6 (.t rfl) (.t rfl) .z4 ?_
  refine⟨⟨([],j2 [c8,c8,c8,_,_,c8,c8]),a8⟩,?_⟩
  refine A6.O5 b1T (.t rfl) (.t rfl) .z3 ?_
  refine⟨⟨([],j2 [c8,c8,c8,_,_,c8,c8]),a8⟩,?_⟩
  show D5 _ _ _ _ _ [] ((8,_)::(60,_)::(59,_)::_) _
  refine .q 2 hG ?_
  refine⟨_,.r3 a8 (.cell y6 a8 .z4) (.cell b1T a8 .z3) (.tmp a8),?_⟩
  show AV.t3 (.v (K6 (default:Tag) (((k.l ++ [0,150,1]).take 32).drop 0))) (.v (⟨0,150⟩:B2)) (.v (0:Int))=_
  rw [List.drop_zero,ht,a6y]
abbrev b9e:=y9
def b2P (c:b0Y) (s:Str):Option b9e:=c.a1L.find? fun p=>decide (p.Name=s)
theorem b1k (c:b0Y) (s:Str):u1 gl prog 142 [.v c,.v s] (fun r=>r = .t2 (.v ((b2P c s).getD default)) (.v (b2P c s).isSome)):=by
 refine u1.jn func142 (by kernel_rfl) 28 rfl fun C hC hG => ?_
 refine .q 3 hG fun b2 => ?_
 refine .q 1 hG fun b4 => ?_
 refine .q 4 hG ?_
 refine .A0 hC .z1 (.M1 2 a8 .z1 (.del (.s .z) ?_))
 refine .q 4 hG ?_
 refine .D9 (α:=Nat) [(1,_),(2,_),(4,_)] (fun k R=>(6,.v (k:Int))::R) (Function.const _ _) (fun k=>k≤c.a1L.length∧∀ j (hj:j < c.a1L.length),j < k→decide (c.a1L[j].Name=s)=false) (fun k=>c.a1L.length - k) (0) (.c2 a8 a8 (.cons a8 (.nil _))) ?_ (.c2 a8 a8 (.c2 a8 a8 (.nil _))) (a8) fun k hF => ?_
 ·simp
 obtain⟨h1,h2⟩:=hF
 refine .q 10 hG ⟨fun hc11 => ?_,fun hc11 => ?_⟩
 ·refine .q 8 hG ?_
  refine .ix (by omega) (by omega) ?_
  refine .q 6 hG ⟨fun hc21 => ?_,fun hc21 => ?_⟩
  ·refine .q 5 hG ?_
   refine .ix (by omega) (by omega) (.p (.G2 a5q (.t a8) (.n (.O5 a5q (.t a8) (.t a8) .z (.p (.assign .b ?_))))))
   refine .q 2 hG ?_
   refine⟨_,.r2 a8 (.cell a5q a8 .z) (.tmp a8),?_⟩
   have e:b2P c s=some c.a1L[k]:=a54 (by omega) (decide_eq_true hc21) h2
   rw [e];rfl
  ·refine .q 1 hG ?_
   refine .T7 9 a8 fun hl9 => ?_
   refine .q 2 hG ?_
   refine .ad (by omega) (by omega) ?_
   refine .q 2 hG ?_
   refine⟨k+1,.c2 rfl rfl (.c2 rfl rfl (.nil _)),rfl,?_,by omega⟩
   refine⟨by omega,fun j hj hjk => ?_⟩;rcases Nat.lt_or_ge j k with h|h;exact h2 j hj h;(obtain rfl:j=k:=by omega);exact decide_eq_false hc21
 ·refine .q 3 hG ?_
  refine .p (.bS0 (α:=y9) a8 a5q b7D (.n (.O5 a5q (.t a8) (.t a8) .z (.p (.assign .b ?_)))))
  refine .q 2 hG ?_
  refine⟨_,.r2 a8 (.cell a5q a8 .z) (.tmp a8),?_⟩
  have e:b2P c s=none:=a55 fun j hj=>h2 j hj (by omega)
  rw [e];rfl
theorem c3r (p:b9e) (m:Int):u1 gl prog 143 [.v p,.v m] (fun r=>∃ n:Int,0≤n∧n≤150∧r = .v n):=by
 refine u1.jn func143 (by kernel_rfl) 33 rfl fun C hC hG => ?_
 refine .q 3 hG fun b2 => ?_
 refine .q 4 hG ?_
 refine .A0 hC .z (.M1 2 a8 .z ?_)
 refine .q 1 hG ?_
 refine .mv a8 (.p (.lss (.t a8) (.i a8) (.mv a8 (.go 7 a8 (.t a8) (fun hg8 => .move (.t a8) a8) (.go 7 a8 (.t a8) (fun hg9 => .gtr (.q a8 hg9) (.i a8) a8) (.p (.a4u (.t a8) (fun hp=>(.q a8 hp)) (.mv a8 (.go 11 a8 (.t a8) (fun hg12 => .A7 y9.l1 (fun x=>x.b3I) a7R a8 (fun _=>a8) (.t a8) a8) (.go 11 a8 (.t a8) (fun hg13 => .G2 R6 (.q a8 hg13) a8) (.go 11 a8 (.t a8) (fun hg14 => .lss (.q a8 hg14) (.i a8) a8) (.p (.a4u (.t a8) (fun hp=>(.q a8 hp)) (.mv a8 (.go 16 a8 (.t a8) (fun hg17 => .A7 y9.l1 (fun x=>x.b3I) a7R a8 (fun _=>a8) (.t a8) a8) (.go 16 a8 (.t a8) (fun hg18 => .G2 R6 (.q a8 hg18) a8) (.go 16 a8 (.t a8) (fun hg19 => .gtr (.q a8 hg19) (.i a8) a8) (.p (.a4u (.t a8) (fun hp=>(.q a8 hp)) (.mv a8 (.go 21 a8 (.t a8) (fun hg22 => .A7 y9.l1 (fun x=>x.b3I) a7R a8 (fun _=>a8) (.t a8) a8) (.go 21 a8 (.t a8) (fun hg23 => .G2 R6 (.q a8 hg23) a8) (.go 21 a8 (.t a8) (fun hg24 => .move (.t a8) a8) ?_)))))))))))))))))))))))
 refine .go 21 a8 (.t a8) (fun hg25 => .gtr (.q a8 hg25) (.q a8 hg25) a8) (.p (.a4u (.t a8) (fun hp=>(.q a8 hp)) ?_))
 refine .q 1 hG ?_
 refine .cond (.t a8) (fun hc26 => ?_) (fun hc26 => ?_)
 ·refine .q 5 hG ?_
  refine .e1 a8 a8 ?_
  exact⟨0,by decide,by decide,rfl⟩
 ·refine .q 2 hG ?_
  simp only [Bool.or_eq_false_iff,decide_eq_false_iff_not] at hc26
  refine .q 4 hG ?_
  refine .sb (by omega) (by omega) (.p (.quo (.t a8) (.i a8) (by omega) (by omega) (.p (.b0h (.t a8) (.i a8) ?_))))
  refine .q 3 hG ?_
  refine .e1 a8 a8 ?_
  exact⟨_,by omega,by omega,rfl⟩
theorem c0P (a : D0) (c : b0Y) (t : List UInt8) (s : Str) (m : Int) (k : Tag) (hpl : ∀ x ∈ a.y2, x.Plain.length ≤ 1000000) (ho : A5 a c.Key t = (k.l ++ [0, 150, 1], 0)) (hs : T8 s = true) (hm0 : 0 ≤ m) (hm1 : m ≤ 67108864) (hf : (b2P c s).isSome = true) (ht : t.length ≤ 1000000) :
    u1 gl prog 82 [.v a,.v c,.v t,.v s,.v m] (fun r=>r = .t3 (.v (a5W a k t s).1) (.v (a5W a k t s).2.1) (.v (a5W a k t s).2.2)):=by
  refine u1.jn func82 (by kernel_rfl) 97 rfl fun C hC hG => ?_
  refine .q 3 hG fun b5 => ?_
  refine .q 1 hG fun b6 => ?_
  refine .q 1 hG fun b10 => ?_
  refine .q 1 hG fun b11 => ?_
  refine .q 4 hG ?_
  refine .A0 hC .z2 (.M1 6 a8 .z2 ?_)
  refine .q 2 hG ?_
  refine .k hG (b3W _) ?_
  refine .q 2 hG ?_
  refine .cond (.t a8) (fun hc22=>(by exfalso;simp [hs] at hc22)) (fun hc22 => ?_)
  refine .q 11 hG ?_
  refine .cond (.t a8) (fun hc30=>(by exfalso;(simp at hc30;omega))) (fun hc30 => ?_)
  refine .q 6 hG ?_
  refine .p (.o7 hG (b1j _ _ _ _ hpl ho) (.cons (.t a8) (.cons (.t a8) (.cons (.t a8) .nil))) ?_)
  refine .q 5 hG fun b13 => ?_
  refine .q 1 hG fun b14 => ?_
  refine .q 10 hG ?_
  refine .M3 (.t a8) (fun hc42=>(by exfalso;exact hc42 rfl)) (fun hc42 => ?_)
  refine .q 5 hG ?_
  refine .p (.o7 hG (b1k _ _) (.cons (.t a8) (.cons (.t a8) .nil)) ?_)
  refine .q 4 hG fun b16 => ?_
  refine .q 9 hG ?_
  refine .cond (.t a8) (fun hc53=>(by exfalso;simp [hf] at hc53)) (fun hc53 => ?_)
  refine .q 6 hG ?_
  refine .p (.call hG (c3r _ _) (.cons (.t a8) (.cons (.t a8) .nil)) fun r58 hr58 => ?_)
  obtain⟨n,hn0,hn1,rfl⟩:=hr58
  refine .q 15 hG ?_
  refine .cond (.t a8) (fun hc68=>(by exfalso;(simp at hc68;omega))) (fun hc68 => ?_)
  refine .q 2 hG ?_
  refine .a0r [[j1,j1,j1,j1,j1,j1,j1],[j1,j1,j1,j1,j1,j1,j1],[j1,j1,j1,j1,j1,j1,j0],[j1,j1,j1,j1,j1,j1,j0]] [[j1,j1,j1,j1,j1,j1,j1],[j1,j1,j1,j1,j1,j1,j1],[j1,j1,j1,j1,j1,j1,j1],[j1,j1,j1,j1,j1,j1,j1],[j1,j1,j1,j1,j1,j1,j1],[j1,j1,j1,j1,j1,j1,j1],[j1,j1,j1,j1,j1,j1,j1],[j1,j1,j1,j1,j1,j1,j0],[j1,j1,j1,j1,j1,j1,j0],[],[],[],[j1,j1,j1,j1,j1,j1,j0]] [] [] 3 (by kernel_rfl) 13 [[],[],[],[(74,2)],[(72,0),(73,1),(75,3)],[(76,4)],[(71,5)],[(71,5)],[(71,5)],[],[(77,6)],[(19,9),(78,7)],[(79,8)]] [9,10,11] rfl (by kernel_rfl) rfl (by kernel_rfl) rfl (by decide) (by simp) (fun p hp=>by cases hp) (by kernel_rfl) rfl ?_
  refine⟨_,fun H=>j6.Q1 y7 (.t a8) (u7.app .z6) a8,?_⟩
  refine⟨_,fun H=>j6.Q1 y6 (.t a8) (u7.app .z2) a8,?_⟩
  refine⟨_,fun H=>j6.move (.t a8) a8,?_⟩
  refine⟨_,fun H=>j6.o7 hG (a7x _ ht) (.cons (.t a8) .nil) a8,?_⟩
  refine⟨_,fun H=>j6.o7 hG (a5N _ _ _) (.cons (.t a8) (.cons (.t a8) (.cons (.t a8) .nil))) a8,?_⟩
  refine⟨_,fun H=>j6.move (.t a8) a8,?_⟩
  refine⟨_,fun H=>j6.O7 (.t a8) a8,?_⟩
  refine⟨_,fun H=>j6.O8 (.t a8) a8,?_⟩
  refine⟨_,fun H=>j6.O9 (.t a8) a8,?_⟩
  refine .inl (.inl (.inl ?_))
  refine⟨_,fun H=>j6.assign (.t a8) a8,?_⟩
  refine⟨a8,?_⟩
  refine⟨⟨j2 [c8,c8,c8,c8,c8,c8,c8],a8⟩,fun Ys14 => ?_⟩
  refine A6.alloc y6 fun b19 => ?_
  refine⟨[_],_,a8,?_⟩
  refine⟨⟨j2 [c8,c8,c8,c8,c8,c8,c8],a8⟩,fun Ys14 => ?_⟩
  refine A6.O5 y7 (.t rfl) (.t rfl) (.s (u7.app (u7.app .z6))) ?_
  refine⟨[_],_,a8,?_⟩
  refine⟨⟨j2 [c8,c8,c8,c8,c8,c8,_],a8⟩,fun Ys14 => ?_⟩
  refine A6.O5 y6 (.t rfl) (.t rfl) .z ?_
  refine⟨[_],_,a8,?_⟩
  refine⟨⟨j2 [c8,c8,c8,c8,c8,c8,_],a8⟩,fun ws14 => ?_⟩
  refine⟨⟨j2 [c8,c8,c8,c8,c8,c8,_],a8⟩,fun _ => ?_⟩
  show D5 _ _ _ _ _ [] ((15,_)::(19,_)::(79,_)::(78,_)::(77,_)::(71,_)::(76,_)::(75,_)::(74,_)::(73,_)::(72,_)::_) _
  refine .q 8 hG ⟨fun hc81 => ?_,fun hc81 => ?_⟩
  · refine .q 2 hG ?_
    refine .p (.bS0 (α:=m5) a8 y7 a1r (.p (.bS0 (α:=p6) a8 S9 a9y (.mv a8 (.n (.O5 y7 (.t a8) (.t a8) .z5 (.n (.O5 S9 (.t a8) (.t a8) .z4 (.ag a8 ?_)))))))))
    refine .q 2 hG ?_
    refine⟨_,.r3 a8 (.cell y7 a8 .z5) (.cell S9 a8 .z4) (.tmp a8),?_⟩
    unfold a5W
    rw [Q3 hc81]
  · refine .q 2 hG ?_
    refine .draw (by kernel_rfl) 12 [[],[],[],[(86,1),(87,2)],[],[(88,3),(89,4)],[],[(91,6)],[(85,0),(90,5),(92,7)],[(93,8)],[(93,8)],[(93,8)]] a8 (by kernel_rfl) a8 ?_
    refine⟨_,j6.Q1 y7 (.t a8) .z7 a8,?_⟩
    refine⟨_,j6.F1 (α:=UInt8) ty5 underlying86 .nil a8 (by decide) a8,?_⟩
    refine⟨_,j6.move (.t a8) a8,?_⟩
    refine⟨_,j6.a0I P5 (.inl ⟨_,underlying86⟩) (.t a8) (.v (.t a8)) (by simp<;>omega) (by simp<;>omega) a8,?_⟩
    refine⟨_,j6.Q1 y6 (.t a8) .z a8,?_⟩
    refine⟨_,j6.bS2 p6.l0 p6.l2 a8 S9 a9y (fun c0 c2=>(⟨c0,[],c2⟩:p6)) (fun _ _=>a8) a8 a8 a8 (.t a8) (.t a8) a8,?_⟩
    refine⟨_,j6.move (.t a8) a8,?_⟩
    refine⟨_,j6.bS2 j3.l0 j3.l4 a8 T1 a7K (fun c0 c4=>(⟨c0,0,0,0,c4,0⟩:j3)) (fun _ _=>a8) a8 a8 a8 (.i a8) (.t a8) a8,?_⟩
    refine⟨_,j6.o7 hG (a5X _ _ _ (by simp)) (.cons (.t a8) (.cons (.t a8) (.cons (.t a8) .nil))) a8,?_⟩
    refine⟨_,j6.O7 (.t a8) a8,?_⟩
    refine⟨_,j6.O8 (.t a8) a8,?_⟩
    refine⟨_,j6.O9 (.t a8) a8,?_⟩
    show D5 _ _ _ _ _ [_,_,_] ((96,_)::(95,_)::(94,_)::(93,_)::(92,_)::(91,_)::(90,_)::(89,_)::(88,_)::(87,_)::(86,_)::(85,_)::_) _
    refine .n (.O5 y7 (.t a8) (.t a8) .z5 (.n (.O5 S9 (.t a8) (.t a8) .z4 (.ag a8 ?_))))
    refine .q 2 hG ?_
    refine⟨_,.r3 a8 (.cell y7 a8 .z5) (.cell S9 a8 .z4) (.tmp a8),?_⟩
    unfold a5W
    rw [F8 (Decidable.not_not.1 hc81)];rfl
theorem b9f {c:b0Y} {t:B2} (h:(!a0L t||decide (c.G6 < 0)||decide (7 < c.G6))=true):(a0L t&&decide (0≤c.G6)&&decide (c.G6≤7))=false:=by
 simp only [Bool.or_eq_true,Bool.not_eq_true',decide_eq_true_eq] at h
 rcases h with (h|h)|h
 ·rw [h];rfl
 ·rw [decide_eq_false (show ¬0≤c.G6 by omega),Bool.and_false];rfl
 ·rw [decide_eq_false (show ¬c.G6≤7 by omega),Bool.and_false]
theorem b6O {c:b0Y} {t:B2} (h:(!a0L t||decide (c.G6 < 0)||decide (7 < c.G6))=false):a0L t=true∧0≤c.G6∧c.G6≤7:=by
 simp only [Bool.or_eq_false_iff,Bool.not_eq_false',decide_eq_false_iff_not] at h;exact⟨h.1.1,by omega,by omega⟩
theorem b4E {t:B2} (h:a0L t=true):0≤t.a3y∧t.a3y≤t.a6T∧t.a6T≤150:=by
 unfold a0L at h;simp only [Bool.and_eq_true,decide_eq_true_eq] at h;omega
theorem b1l {a:D0} {x:o5} (h:x∈(Q7 a).1.y2):x∈a.y2:=by
 unfold Q7 at h;split at h
 ·cases h
 ·exact h
theorem c0Q (a:D0) (c:b0Y) (t:B2) (h0:0≤a.F9) (hb:∀ x∈a.y2,x.U4.length≤1000000):u1 gl prog 80 [.v a,.v c,.v t] (fun r=>r = .t3 (.v (a35 a c t).1) (.v (a35 a c t).2.1) (.v (a35 a c t).2.2)):=by
 have hb1:∀ x∈(Q7 a).1.y2,x.U4.length≤1000000:=fun x hx=>hb x (b1l hx)
 refine u1.jn func80 (by kernel_rfl) 70 rfl fun C hC hG => ?_
 refine .q 3 hG fun b3 => ?_
 refine .q 1 hG fun b4 => ?_
 refine .q 1 hG fun b5 => ?_
 refine .q 1 hG fun b6 => ?_
 refine .q 1 hG fun b7 => ?_
 refine .q 4 hG ?_
 refine .A0 hC .z3 (.M1 4 a8 .z3 (.A0 hC .z2 (.M1 5 a8 .z2 ?_)))
 refine .q 2 hG ?_
 refine .k hG (a95 _) ?_
 refine .q 12 hG ?_
 refine .cond (.t a8) (fun hc24 => ?_) (fun hc24 => ?_)
 ·refine .q 2 hG ?_
  refine .p (.bS0 (α:=m5) a8 y7 a1r (.p (.bS0 (α:=C5) a8 a3C b4P ?_)))
  refine .q 5 hG ?_
  refine⟨_,.r3 a8 (.cell y7 a8 .z1) (.cell a3C a8 .z) (.tmp a8),?_⟩
  unfold a35
  rw [if_pos (b9f hc24)]
 ·refine .q 2 hG ?_
  obtain⟨htk,hp0,hp7⟩:=b6O hc24
  have htt:=b4E htk
  have hn1:=B3 (n:=t.a3y.toNat) (by omega)
  have hn2:=B3 (n:=t.a6T.toNat) (by omega)
  refine .q 2 hG ?_
  refine .k hG (b3Y _ h0) ?_
  refine .q 5 hG fun b9 => ?_
  refine .q 6 hG ?_
  have hbf:(a0L t&&decide (0≤c.G6)&&decide (c.G6≤7))=true:=by rw [htk,decide_eq_true hp0,decide_eq_true hp7];rfl
  refine .q 5 hG ⟨fun hc34 => ?_,fun hc34 => ?_⟩
  ·refine .q 2 hG ?_
   refine .p (.bS0 (α:=m5) a8 y7 a1r (.p (.bS0 (α:=C5) a8 a3C b4P ?_)))
   refine .q 6 hG ?_
   refine⟨_,.r3 a8 (.cell y7 a8 .z2) (.cell a3C a8 .z1) (.tmp a8),?_⟩
   unfold a35
   rw [if_neg (by rw [hbf];decide),Q3 hc34]
  ·refine .q 2 hG ?_
   refine .A0 hC .z (.M1 9 rfl .z (.a0r [[j1,j1,j1,j1,j1,j1],[j1,j1,j1,j1,j1,j1],[j1,j1,j1,j1,j1,j1],[j1,j1,j1,j1,j1,j1],[j1,j1,j1,j1,j1,j1],[j1,j1,j1,j1,j1,j1],[j1,j1,j1,j1,j1,j0]] [[j1,j1,j1,j1,j1,j1],[j1,j1,j1,j1,j1,j1],[j1,j1,j1,j1,j1,j1],[j1,j1,j1,j1,j1,j1],[j1,j1,j1,j1,j1,j1],[],[j1,j1,j1,j1,j1,j1],[],[j1,j1,j1,j1,j1,j1],[j1,j1,j1,j1,j1,j1],[j1,j1,j1,j1,j1,j1],[],[j1,j1,j1,j1,j1,j1],[j1,j1,j1,j1,j1,j1],[j1,j1,j1,j1,j1,j1],[],[],[j1,j1,j1,j1,j1,j1],[j1,j1,j1,j1,j1,j1],[j1,j1,j1,j1,j1,j0],[j1,j1,j1,j1,j1,j0],[],[j1,j1,j1,j1,j1,j0],[j1,j1,j1,j1,j1,j0]] [[],[],[],[],[],[17,18,19,20,22,23],[]] [] 6 (by kernel_rfl) 24 [[],[],[(40,1)],[],[(42,3)],[],[],[(44,5),(45,6)],[],[(47,8)],[(48,9)],[(46,7),(49,10)],[],[(51,12)],[(52,13)],[(50,11),(53,14)],[(39,0),(41,2),(43,4),(54,15)],[(55,16)],[(38,17)],[(38,17)],[(38,17)],[(56,18)],[(57,19)],[(58,20)]] [5,7,11,15,16,21] rfl (by kernel_rfl) rfl (by kernel_rfl) rfl (by decide) (by simp) (fun p hp=>by cases hp) (by kernel_rfl) rfl ?_))
   refine⟨_,fun H=>j6.Q1 y7 (.t a8) (u7.app .z5) a8,?_⟩
   refine⟨_,fun H=>j6.A7 x7.l1 (fun x=>x.Key) b7v a8 (fun _=>a8) (.t a8) a8,?_⟩
   refine⟨_,fun H=>j6.G2 y6 (.t a8) a8,?_⟩
   refine⟨_,fun H=>j6.B1 m5.l2 b3s a8 (.t a8) a8,?_⟩
   refine⟨_,fun H=>j6.ldF (fun x=>x.F9) R6 (.t a8) (u7.app .z5) (fun _=>a8) a8,?_⟩
   refine .inl ?_
   refine⟨_,fun H=>j6.P0 (by decide) M0 (.t a8) a8,?_⟩
   refine .inl ?_
   refine⟨_,fun H=>j6.A7 B2.l0 (fun x=>x.a3y) b4Q a8 (fun _=>a8) (.t a8) a8,?_⟩
   refine⟨_,fun H=>j6.G2 R6 (.t a8) a8,?_⟩
   refine⟨_,fun H=>j6.o7 hG (F4 _ (by omega) (by omega)) (.cons (.t a8) .nil) a8,?_⟩
   refine .inl ?_
   refine⟨_,fun H=>j6.A7 B2.l1 (fun x=>x.a6T) b4R a8 (fun _=>a8) (.t a8) a8,?_⟩
   refine⟨_,fun H=>j6.G2 R6 (.t a8) a8,?_⟩
   refine⟨_,fun H=>j6.o7 hG (F4 _ (by omega) (by omega)) (.cons (.t a8) .nil) a8,?_⟩
   refine .inl (.inl (.inl (.inl (.inl (.inl (.inl (.inl (.inl ?_))))))))
   refine⟨a8,?_⟩
   refine⟨⟨j2 [c8,c8,c8,c8,c8,c8],a8⟩,fun Ys6 => ?_⟩
   refine A6.buildSlice (α:=UInt8) ty5 underlying86 .nil rfl (by decide) fun b44 => ?_
   refine⟨[_],_,a8,?_⟩
   refine⟨⟨j2 [c8,c8,c8,c8,c8,c8],a8⟩,fun Ys6 => ?_⟩
   refine A6.append P5 (.inl ⟨_,underlying86⟩) rfl .z (.v (.t rfl)) (by simp) (by simp) (fun w46 => ?_) rfl
   refine⟨[_],_,a8,?_⟩
   refine⟨⟨j2 [c8,c8,c8,c8,c8,c8],a8⟩,fun Ys6 => ?_⟩
   refine A6.append P5 (.inl ⟨_,underlying86⟩) rfl .z (.v (.t rfl)) (by simp<;>omega) (by simp<;>omega) (fun w50 => ?_) rfl
   refine⟨[_],_,a8,?_⟩
   refine⟨⟨j2 [c8,c8,c8,c8,c8,c8],a8⟩,fun Ys6 => ?_⟩
   refine A6.append P5 (.inl ⟨_,underlying86⟩) rfl .z (.v (.t rfl)) (by simp<;>omega) (by simp<;>omega) (fun w54 => ?_) rfl
   refine⟨[_],_,a8,?_⟩
   refine⟨⟨j2 [c8,c8,c8,c8,c8,c8],a8⟩,fun Ys6 => ?_⟩
   refine A6.u0 hC .z (A6.as 54 rfl .z (A6.ofP (j6.o7 hG (b5w _ _ _ _ hb1) (.cons (.t rfl) (.cons (.t rfl) (.cons (.t rfl) (.cons (.t rfl) .nil)))) ?_)))
   refine⟨[_],_,a8,?_⟩
   refine⟨_,fun H=>j6.move (.t a8) a8,?_⟩
   refine⟨_,fun H=>j6.O7 (.t a8) a8,?_⟩
   refine⟨_,fun H=>j6.O8 (.t a8) a8,?_⟩
   refine⟨_,fun H=>j6.O9 (.t a8) a8,?_⟩
   refine⟨_,fun H=>j6.assign (.t a8) a8,?_⟩
   refine⟨_,fun H=>j6.assign (.t a8) a8,?_⟩
   refine⟨⟨j2 [c8,c8,c8,c8,c8,c8],a8⟩,fun Ys6 => ?_⟩
   refine A6.O5 y7 (.t rfl) (.t rfl) (.s (u7.app (u7.app .z5))) ?_
   refine⟨[_],_,a8,?_⟩
   refine⟨⟨j2 [c8,c8,c8,c8,c8,_],a8⟩,fun ws6 => ?_⟩
   refine⟨⟨j2 [c8,c8,c8,c8,c8,_],a8⟩,fun _ => ?_⟩
   show D5 _ _ _ _ _ [] ((10,_)::(11,_)::(58,_)::(57,_)::(56,_)::(38,_)::(55,_)::(54,_)::(53,_)::(52,_)::(51,_)::(50,_)::(49,_)::(48,_)::(47,_)::(46,_)::(45,_)::(44,_)::(43,_)::(42,_)::(41,_)::(40,_)::(39,_)::_) _
   refine .q 8 hG ⟨fun hc60 => ?_,fun hc60 => ?_⟩
   ·refine .q 2 hG ?_
    refine .p (.bS0 (α:=m5) a8 y7 a1r (.p (.bS0 (α:=C5) a8 a3C b4P (.mv a8 (.n (.O5 y7 (.t a8) (.t a8) .z3 (.n (.O5 a3C (.t a8) (.t a8) .z2 (.ag a8 ?_)))))))))
    refine .q 2 hG ?_
    refine⟨_,.r3 a8 (.cell y7 a8 .z3) (.cell a3C a8 .z2) (.tmp a8),?_⟩
    unfold a35
    rw [if_neg (by rw [hbf];decide),F8 (Decidable.not_not.1 hc34),Q3 (r:=(Q8 (Q7 a).1 c.Key (Q7 a).1.F9 (a0f (Q7 a).2.1 t))) hc60];rfl
   ·refine .q 2 hG ?_
    refine .D7 [j1,j1,j0,j0,j1,j1,j1] (by kernel_rfl) 9 [[],[],[(65,1)],[],[],[(66,2),(67,3),(68,4)],[(64,0)],[(69,5)],[]] [6,7] a8 (by kernel_rfl) a8 (by kernel_rfl) (by decide) ?_
    refine⟨_,fun H=>j6.Q1 y7 (.t a8) (u7.app .z6) a8,?_⟩
    refine⟨_,fun H=>j6.A7 x7.l0 (fun x=>x.G6) b7u a8 (fun _=>a8) (.t a8) a8,?_⟩
    refine⟨_,fun H=>j6.G2 R6 (.t a8) a8,?_⟩
    refine⟨_,fun H=>j6.G2 y6 (.t a8) a8,?_⟩
    refine⟨_,fun H=>j6.move (.t a8) a8,?_⟩
    refine⟨_,fun H=>j6.bS3 C5.l0 C5.l1 C5.l2 a8 a3C b4P (fun c0 c1 c2=>(⟨c0,c1,c2⟩:C5)) (fun _ _ _=>a8) a8 a8 a8 a8 (.t a8) (.t a8) (.t a8) a8,?_⟩
    refine .inl (.inl ?_)
    refine⟨_,fun H=>j6.assign (.i a8) a8,?_⟩
    refine⟨⟨([],j2 [c8,c8,_,_,c8,c8,c8]),a8⟩,?_⟩
    refine A6.O5 y7 (.t rfl) (.t rfl) .z3 ?_
    refine⟨⟨([],j2 [c8,c8,_,_,c8,c8,c8]),a8⟩,?_⟩
    refine A6.O5 a3C (.t rfl) (.t rfl) .z2 ?_
    refine⟨⟨([],j2 [c8,c8,_,_,c8,c8,c8]),a8⟩,?_⟩
    show D5 _ _ _ _ _ [] ((8,_)::(69,_)::(68,_)::(67,_)::(66,_)::(65,_)::(64,_)::_) _
    refine .q 2 hG ?_
    refine⟨_,.r3 a8 (.cell y7 a8 .z3) (.cell a3C a8 .z2) (.tmp a8),?_⟩
    unfold a35
    rw [if_neg (by rw [hbf];decide),F8 (Decidable.not_not.1 hc34),F8 (r:=(Q8 (Q7 a).1 c.Key (Q7 a).1.F9 (a0f (Q7 a).2.1 t))) (Decidable.not_not.1 hc60)];rfl
theorem ofNat_inj {a b:Nat} (ha:a < 256) (hb:b < 256) (h:UInt8.ofNat a=UInt8.ofNat b):a=b:=by
 have:=congrArg UInt8.toNat h
 simp at this;omega
theorem b2Q:∀ (a b:Nat) (s t:List UInt8),J0 a++s=J0 b++t→a=b∧s=t:=by
 intro a
 induction a using Nat.strongRecOn with
 | _ a ih =>
  intro b s t h
  by_cases ha:a < 128
  ·by_cases hb:b < 128
   ·rw [a2k ha,a2k hb] at h
    simp only [List.cons_append,List.nil_append,List.cons.injEq] at h
    exact⟨ofNat_inj (by omega) (by omega) h.1,h.2⟩
   ·rw [a2k ha,a3Y hb] at h
    simp only [List.cons_append,List.nil_append,List.cons.injEq] at h
    have:=ofNat_inj (by omega) (by omega) h.1
    omega
  ·by_cases hb:b < 128
   ·rw [a3Y ha,a2k hb] at h
    simp only [List.cons_append,List.nil_append,List.cons.injEq] at h
    have:=ofNat_inj (by omega) (by omega) h.1
    omega
   ·rw [a3Y ha,a3Y hb] at h
    simp only [List.cons_append,List.cons.injEq] at h
    have h1:=ofNat_inj (by omega) (by omega) h.1
    obtain⟨h2,h3⟩:=ih (a/128) (by omega) (b/128) s t h.2
    exact⟨by omega,h3⟩
def bnd (B:D0) (leaf:Tag) (r:Rq) (g:Dis):Bnd:=⟨g.j8,g.l8,(l9 B g.Tag (X4 leaf r)).1⟩
theorem a83 {r:Rq} (h:S2 r=true):(a1m r).length≤14:=by
 have:=a1n h
 have l1:=B3 (n:=r.Gate.toNat) (by omega)
 have l2:=B3 (n:=r.E4.toNat) (by omega)
 unfold a1m;rw [List.length_append];omega
theorem b4F {leaf:Tag} {r:Rq} (h:S2 r=true):(X4 leaf r).length≤60:=by
 have:=a83 h
 unfold X4;rw [List.length_append,List.length_append,leaf.len];show 4+_≤_;omega
theorem b9h {r:Rq} (h:S2 r=true):(a27 r).length≤30:=by
 have:=a83 h
 unfold a27;rw [List.length_append];show 7+_≤_;omega
structure c3s (a:D0) (n:Nat) (leaf:Tag) (r:Rq) (l:List Dis) (c:D0):Prop where
 eq:a2M leaf r a l=(c,l.map (bnd c leaf r),0)
 ok:H5 c (n+l.length)
 le:P7 a c
 boxes:c.y2=a.y2
 looks:∀ g∈l,(l9 c g.Tag (X4 leaf r)).2=true
 a0s:∀ x∈c.G4,x∈a.G4∨∃ g∈l,x.Key=g.Tag∧x.Message=X4 leaf r
theorem H5.binds (leaf:Tag) {r:Rq} (hr:S2 r=true):∀ (l:List Dis) {a:D0} {n:Nat},H5 a n→n+l.length < 60000→∃ c,c3s a n leaf r l c
 | [],a,n,h,_=>⟨a,rfl,h,P7.refl a,rfl,fun g hg=>(by cases hg),fun x hx=>Or.inl hx⟩
 | d::l,a,n,h,hn=>by
  rw [List.length_cons] at hn
  obtain⟨b,t,s⟩:=h.step (by omega) d.Tag (m:=X4 leaf r) (by have:=b4F (leaf:=leaf) hr;omega)
  obtain⟨c,q⟩:=H5.binds leaf hr l s.ok (by omega)
  have hl:l9 c d.Tag (X4 leaf r)=(t,true):=q.le.look s.look
  have e1:a2L a d leaf r=(b,⟨d.j8,d.l8,t⟩,0):=by
   unfold a2L;rw [if_neg (by rw [hr];decide),s.eq,F8 rfl]
  refine⟨c,?_,?_,s.le.trans q.le,q.boxes.trans s.boxes,fun g hg => ?_,fun x hx => ?_⟩
  ·show a04 (a2L a d leaf r) _=_
   rw [e1,F8 rfl];dsimp only
   rw [q.eq,F8 rfl,List.map_cons]
   have:bnd c leaf r d=⟨d.j8,d.l8,t⟩:=by unfold bnd;rw [hl]
   rw [this]
  ·have:=q.ok;rw [List.length_cons];exact this.le (by omega)
  ·rcases List.mem_cons.1 hg with rfl|hg
   ·rw [hl]
   ·exact q.looks g hg
  ·rcases q.a0s x hx with h'|⟨g,hg,h'⟩
   ·rcases s.a0s x h' with h'|h'
    ·exact Or.inl h'
    ·exact Or.inr ⟨d,by simp,h'⟩
   ·exact Or.inr ⟨g,by simp [hg],h'⟩
theorem b4G (l:List Y0):0≤a1l l∧a1l l≤l.length:=by
 have:=a0Z l;unfold a1l;omega
theorem b2R (l:List Bnd):a3q l=false↔(l.map (·.j8)).Nodup:=by
 unfold a3q V1 List.Nodup
 rw [List.pairwise_map,List.pairwise_iff_getElem,List.any_eq_false]
 constructor
 ·intro h i j hi hj hij e
  have h1:=h j (List.mem_range.2 hj)
  rw [Bool.not_eq_true,List.any_eq_false] at h1
  have h2:=h1 l[i] (List.mem_take_iff_getElem.2 ⟨i,by omega,rfl⟩)
  rw [a5d hj] at h2
  simp [e] at h2
 ·intro h j hj
  rw [Bool.not_eq_true,List.any_eq_false]
  intro x hx
  obtain⟨i,hi,rfl⟩:=List.mem_take_iff_getElem.1 hx
  have hj':=List.mem_range.1 hj
  rw [a5d hj']
  have:=h i j (by omega) hj' (by omega)
  simpa using this
theorem b1m {A : D0} {root : Epo} {P : Pass} {G : List Dis} {T : List Tag} {n k : Nat} (h : a0n A root P G T n k) (hk : k ≤ 6) {r : Rq} (hr : S2 r = true) (t : Tag) (f : Dis → Bnd) (hf : ∀ g, (f g).j8 = g.j8 ∧ (f g).l8 = g.l8) :
    L7 ⟨r,P.D3,P.A8,P.j9,t,G.map f⟩=0:=by
  have hncav:=h.a34
  have hngr:=h.ngr
  have hser:=h.a5Y
  have hep:=h.a4P
  have hth:=b4G P.j9
  have hrq:=a1n hr
  have e1:P4 ⟨r,P.D3,P.A8,P.j9,t,G.map f⟩=true:=by
    unfold P4;simp [hr];omega
  have e2:S6 ⟨r,P.D3,P.A8,P.j9,t,G.map f⟩=false:=by
    unfold S6
    simp only [List.any_map,Bool.or_eq_false_iff,decide_eq_false_iff_not,List.any_eq_false,List.length_map]
    refine⟨⟨⟨by omega,by omega⟩,by omega⟩,fun g hg => ?_⟩
    have:=(h.a3H g hg).a7O
    simp only [Function.comp,a1N,(hf g).2]
    simpa using this
  have e3:((P.j9.any fun c => !I4 c)||(G.map f).any a3p)=false:=by
    simp only [List.any_map,Bool.or_eq_false_iff,List.any_eq_false]
    refine⟨fun c hc=>by rw [(h.cav c hc).1];decide,fun g hg => ?_⟩
    have h1:=h.a3H g hg
    have h2:(g.l8.any fun p => !B0 p)=false:=List.any_eq_false.2 fun p hp=>by rw [(h1.con p hp).1];decide
    have:=h1.tick
    simp only [Function.comp,a3p,(hf g).1,(hf g).2,h2]
    rw [decide_eq_false (show ¬g.j8.length < 1 by omega),decide_eq_false (show ¬1024 < g.j8.length by omega)];decide
  have e4:(G.map f).any a3G=false:=by
    simp only [List.any_map,List.any_eq_false]
    intro g hg
    have h2:(g.l8.any fun p=>decide (p.Kind=7))=false:=List.any_eq_false.2 fun p hp=>by simpa using ((h.a3H g hg).con p hp).2
    simp only [Function.comp,a3G,(hf g).2,h2];decide
  have e5:a3q (G.map f)=false:=by
    rw [b2R,List.map_map]
    have:((fun d:Bnd=>d.j8)∘f)=fun g:Dis=>g.j8:=funext fun g=>(hf g).1
    rw [this];exact h.nodup
  have e6:(a1o ⟨r,P.D3,P.A8,P.j9,t,G.map f⟩).length≤4096:=by
    have l1:=a1F [1,r.Gate,r.E4,P.D3,P.A8,(P.j9.length:Int)] (by simp<;>omega)
    have l2:=a16 E7 P.j9 200 fun c hc=>(h.cav c hc).2
    have l3:=B3 (n:=(G.map f).length) (by simp<;>omega)
    have l4:=a16 K3 (G.map f) 400 fun d hd=>by
      obtain⟨g,hg,rfl⟩:=List.mem_map.1 hd
      have h1:=h.a3H g hg
      have:=h1.tick
      have:=h1.a7O
      have m1:=B3 (n:=(f g).j8.length) (by rw [(hf g).1];omega)
      have m2:=B3 (n:=(f g).l8.length) (by rw [(hf g).2];omega)
      have m3:=a16 x5 g.l8 24 fun p hp=>H4 (O3 (h1.con p hp).1)
      unfold K3 a0R
      rw [(hf g).1] at m1 ⊢
      rw [(hf g).2] at m2 ⊢
      simp only [List.length_append,(f g).Proof.len];omega
    rw [List.length_map] at l3 l4
    simp only [List.length_cons,List.length_nil] at l1
    unfold a1o
    simp only [List.length_append,t.len,List.length_map];omega
  have e0:F7 ⟨r,P.D3,P.A8,P.j9,t,G.map f⟩=0:=by
    unfold F7;dsimp only;simp only [e1,e2,e3,e4,e5,Bool.false_eq_true,Bool.true_eq_false,if_false]
  unfold L7
  rw [e0,if_neg (by decide),if_neg (by omega)]
structure b1n (B:D0) (root:Epo) (P:Pass) (G:List Dis) (T:List Tag) (r:Rq) (t:Tag) (n k:Nat):Prop where
 sc:a0n B root P G T n k
 rq:S2 r=true
 proof:l9 B P.Tag (a27 r)=(t,true)
 binds:∀ g∈G,(l9 B g.Tag (X4 P.Tag r)).2=true
 a0s:∀ x∈B.G4,(∃ c,x.Message.head?=some c∧c≠114∧c≠98)∨(x.Key=P.Tag∧x.Message=a27 r)∨(∃ g∈G,x.Key=g.Tag∧x.Message=X4 P.Tag r)
def prB (B:D0) (P:Pass) (G:List Dis) (r:Rq) (t:Tag):Q4:=⟨r,P.D3,P.A8,P.j9,t,G.map (bnd B P.Tag r)⟩
theorem b2S:∀ {X:List Bnd} {d:Bnd},(X.map (·.j8)).Nodup→d∈X→a2g X d.j8=some d
 | [],g,_,h=>by cases h
 | e::X,d,hn,h=>by
  unfold a2g
  rw [List.map_cons,List.nodup_cons] at hn
  by_cases q:e.j8=d.j8
  ·rw [List.find?_cons_of_pos (by simpa using q)]
   rcases List.mem_cons.1 h with rfl|h
   ·rfl
   ·exact absurd (List.mem_map.2 ⟨d,h,q.symm⟩) hn.1
  ·rw [List.find?_cons_of_neg (by simpa using q)]
   rcases List.mem_cons.1 h with rfl|h
   ·exact absurd rfl q
   ·exact b2S hn.2 h
theorem b9i {f:Dis→Bnd} (hf:∀ g,(f g).j8=g.j8) (G:List Dis):(G.map f).map (·.j8)=G.map (·.j8):=by
 rw [List.map_map]
 have:((fun d:Bnd=>d.j8)∘f)=fun g:Dis=>g.j8:=funext hf
 rw [this]
theorem b6P {f:Dis→Bnd} (hf:∀ g,(f g).j8=g.j8) {G:List Dis} {g:Dis} (hn:(G.map (·.j8)).Nodup) (h:g∈G):a2g (G.map f) g.j8=some (f g):=by
 rw [←hf g]
 exact b2S (by rw [b9i hf];exact hn) (List.mem_map.2 ⟨g,h,rfl⟩)
theorem a0n.last {A:D0} {root:Epo} {P:Pass} {G:List Dis} {T:List Tag} {n k:Nat} (h:a0n A root P G T n k):T.getLastD default=P.Tag:=by
 have h1:=h.leaf
 rwa [getLastD_cons (by have:=h.a64;omega)] at h1
theorem b6G.ver {B:D0} {root:Epo} {P:Pass} {G:List Dis} {T:List Tag} {r:Rq} {t:Tag} {n k:Nat} (h:b1n B root P G T r t n k) {c:Y0} {s:Tag} (hc:b6G B G s c) {x:Q4} (hx:x.Request=r) (hd:∀ g∈G,a2g x.j4 g.j8=some (bnd B P.Tag r g)):b8O B x c s P.Tag:=by
 obtain⟨key,bk,g,h1,h2,h3,h4,h5⟩:=hc.th
 refine⟨key,bk,bnd B P.Tag r g,g.Tag,h2,h3,by rw [←h4];exact hd g h1,?_,?_⟩
 ·rw [←h4];exact h5
 ·rw [hx];exact Prod.ext rfl (h.binds g h1)
theorem b1n.ver {B:D0} {root:Epo} {P:Pass} {G:List Dis} {T:List Tag} {r:Rq} {t:Tag} {n k:Nat} (h:b1n B root P G T r t n k) (hk:k≤6):c1q B root.Key (prB B P G r t) T:=by
 refine⟨b1m h.sc hk h.rq t (bnd B P.Tag r) fun g=>⟨rfl,rfl⟩,h.sc.walk,h.sc.a64,h.sc.nodes,by rw [h.sc.last];exact h.proof,fun i hi h3 => ?_,?_⟩
 ·rw [h.sc.last]
  exact(h.sc.a7z i hi h3).ver h a8 fun g hg=>b6P (fun _=>a8) h.sc.nodup hg
 ·refine List.any_eq_false.2 fun d hd => ?_
  obtain⟨g,hg,rfl⟩:=List.mem_map.1 hd
  obtain⟨c,hc,h1,h2⟩:=(h.sc.a3H g hg).cav
  have:(P.j9.any fun c=>c.Q2&&decide (c.j8=g.j8))=true:=List.any_eq_true.2 ⟨c,hc,by rw [h1,h2];simp⟩
  show ¬(!(P.j9.any fun c=>c.Q2&&decide (c.j8=g.j8)))=true
  rw [this];decide
theorem b9j {B:D0} (hf:B.K2=true) {k t:Tag} {m:List UInt8} (h1:l9 B k m=(t,true)):∃ x∈B.G4,x.Key=k∧x.Message=m:=by
 rw [look_eq,if_pos hf] at h1
 obtain⟨x,hx,hx2⟩:=h1
 have ex:=(a9M k m x).1 (List.find?_some hx)
 exact⟨x,List.mem_of_find?_eq_some hx,ex.1,ex.2⟩
theorem b6Q {r q:Rq} (hr:S2 r=true) (hq:S2 q=true) (h:a27 r=a27 q):r=q:=by
 have h:=List.append_cancel_left h
 unfold a1m at h
 obtain⟨e1,h⟩:=b2Q _ _ _ _ h
 obtain⟨e2,_⟩:=b2Q r.E4.toNat q.E4.toNat [] [] (by rw [h])
 have:=a1n hr
 have:=a1n hq
 obtain⟨g,n⟩:=r
 obtain⟨g',n'⟩:=q
 dsimp only at *
 rw [show g=g' by omega,show n=n' by omega]
def a2n (e:Epo) (l:Int):Ring:=⟨[e],l⟩
theorem b9k (e:Epo) (l:Int):a0T (a2n e l) e.Number=some e:=by
 unfold a0T a2n;rw [List.find?_cons_of_pos (by simp)]
section
variable {B:D0} {root:Epo} {P:Pass} {G:List Dis} {T:List Tag} {r:Rq} {t:Tag} {n k:Nat}
theorem b1n.c2l (h:b1n B root P G T r t n k) (hk:k≤6) (l:Int):∃ v,a6x B (a2n root l) (prB B P G r t)=(v,0)∧v.a4y.length=P.j9.length+1∧v.a8v=P.Tag:=by
 refine⟨_,b8P (root:=root) (by rw [show(prB B P G r t).D3=root.Number from h.sc.a4P.1];exact b9k _ _) (h.ver hk),?_,h.sc.last⟩
 have:=b4u h.sc.nodes
 rw [h.sc.a64] at this;exact this
end
end Go.Proofs.YtmmclghiidoldaaGreatDoor
namespace Go.Ab
open Go.Fl Go.RowKit
open o8 (rep)
section a3r
variable {P:Program} {C:Ctx} {N:Nat} {σ:x9} {H:j7} {Q:Exit→x9→j7→Prop}
theorem u7.fz {w:Value} {a:AV} {b:Bool} {F:Bool×E3→j7} (hH:u7 H (b,.fz w a) F) {n0:Nat} {I:Im} {L:Lh} (hr:U2 n0 I H L):E6 I a w:=by
 obtain⟨i,X,h1,h2,h3⟩:=hH.get hr
 exact h2.1.2
theorem I9.a3r {α β:Type} {r:o8 α} {s:o8 β} {w:Value} {x:α} {y:β} {b:Bool} {c:Code} {F:Bool×E3→j7} (hH:u7 H (b,.ob w x) F) (h:∀ n0 I L,U2 n0 I H L→∀ cs,r.rep I x cs→s.rep I y cs) (k:I9 P C N c Q σ (F (b,.ob w y))):I9 P C N c Q σ H:=fun ρ I L hs=>by
 obtain⟨i,X,h2,h3,h4⟩:=hH.get hs.heap
 have hset:L.set i X=L:=by
  obtain⟨hi,e⟩:=List.getElem?_eq_some_iff.1 h2
  rw [←e,List.set_getElem_self]
 obtain⟨⟨bb,T,cs,e1,e2,e3⟩,h5⟩:=h3
 have:=h4 I (b,.ob w y) X (Le.refl I) ⟨⟨bb,T,cs,e1,e2,h _ I L hs.heap cs e3⟩,h5⟩
 rw [hset] at this
 exact k ρ I L ⟨hs.env,this,hs.V2⟩
end a3r
section rawOps
variable {P:Program} {C:Ctx} {N:Nat} {σ:x9} {H:j7}
theorem E8.vR {α:Type} {r:o8 α} {t:Nat} {w:Value} {l:List α} {b:Bool} {F:Bool×E3→j7} (ht:F0 σ t=some (.raw w)) (hH:u7 H (b,.fz w (.v l)) F):E8 C σ H (.tmp t) (.v (V5.mk w)):=fun ρ I L hs=>by
 obtain⟨u,h1,rfl⟩:=hs.env t _ ht
 have h:=u7.fz hH hs.heap
 obtain⟨cs,⟨v,e1,h4⟩,e2⟩:=h
 subst e1
 have e2:u=v:=e2
 have o4:u.oneCell'=true:=by rw [e2];obtain⟨xs,⟨a,c,rfl,_⟩,_⟩:=h4;rfl
 exact⟨_,h1,_,⟨a8,o4⟩,a8⟩
theorem EvL.st {α β γ:Type} {ra:o8 α} {rb:o8 β} {rc:o8 γ} {t:Nat} {x:α} {y:β} {E:TypeId} {w:Value} {l:List γ} {g:Bool} {F:Bool×E3→j7} (ht:F0 σ t=some (.v x)) (h:u7 H (g,.own E w l) F) (hc:∀ J n0 L v,U2 n0 J H L→E6 J (.v x) v→E6 J (.v l) w→E6 J (.v y) v):EvL C σ H (.tmp t) (.v y):=fun ρ I L hs=>by
 obtain⟨u,h1,h2⟩:=hs.env t _ ht
 obtain⟨i,X,h3,h4,_⟩:=h.get hs.heap
 exact⟨_,h1,fun J hle hp=>hc J _ L u (hs.heap.mono hle) (h2.mono hle) (W6 h4.1 hle (fun p hpx=>hp p (D4 h3 hpx)))⟩
theorem D5.name {ops:Array Oper} {Q:Exit→x9→j7→Prop} {os:List Oper} (t:Nat) {a:AV} (ht:F0 σ t=some a) (k:∀ w,D5 P C N ops Q os ((t,.raw w)::σ) ((true,.fz w a)::H)):D5 P C N ops Q os σ H:=fun ρ I L hs=>by
 obtain⟨u,h1,h2⟩:=hs.env t _ ht
 refine wpL.pad (k u ρ I ([]::L) ⟨fun s b hb => ?_,⟨[],L,rfl,⟨⟨rfl,h2⟩,fun _ p hp=>by cases hp⟩,hs.heap⟩,hs.V2⟩)
 rw [K1] at hb
 by_cases e:t=s
 ·subst e;simp at hb;subst hb;exact⟨u,h1,rfl⟩
 ·rw [if_neg e] at hb;exact hs.env s b hb
end rawOps
end Go.Ab
namespace Go.Proofs.YtmmclghiidoldaaGreatDoor
open Go.Proofs.Tryz
open Go.Fl Go.Ab Go.Mac Go.Sha
theorem a1q {l:List Pred} {p:Pred} (h:∀ q∈l,B0 q=true) (hp:B0 p=true):∀ q∈l ++ [p],B0 q=true:=fun q hq=>by
 rcases List.mem_append.1 hq with h'|h'
 ·exact h q h'
 ·rw [List.mem_singleton.1 h'];exact hp
theorem b2T (w:Value) (d:m6) (n:Int) (s:Str) (hd:G9 d) (h0:0≤n) (h1:n≤1000) (hs:T8 s=true):F5 gl prog 78 [dk w,.v n,.v s] [.ob w d] (fun r Hs=>∃ l:List Pred,(l.length:Int)≤n∧(∀ p∈l,B0 p=true)∧∃ d',G9 d'∧r = .v l∧Hs = [.ob w d']):=by
 refine F5.a5H func78 rfl (by kernel_rfl) 58 rfl rfl _ rfl _ rfl fun C hC hG => ?_
 refine .q 6 hG ?_
 refine .p (.assign .raw ?_)
 refine .q 3 hG ?_
 refine .a1e 97 Pred ?_
 refine .q 3 hG ?_
 refine .ad (by omega) (by omega) (.h (.C8 hG (G0 _ _ _ (by first|assumption|exact y1 _) (by omega) (by omega)) .z1 (.cons (.t a8) (.cons (.t a8) .nil)) (by rintro _ _ ⟨_,_,_,_,_,_,rfl⟩;exact⟨_,rfl⟩) fun r12 B12 hr12 => ?_))
 obtain⟨v12,d12,h012,h112,hd12,rfl,hB⟩:=hr12
 cases hB
 refine .q 3 hG ?_
 refine .D9 (α:=Nat×Value×List Pred×m6) [(0,_),(2,_)] (fun x R=>(7,.raw x.2.1)::(8,.v (x.1:Int))::R) (fun x => [(true,.own 97 x.2.1 x.2.2.1),(false,.ob w x.2.2.2)]) (fun x=>(x.1:Int)+x.2.2.1.length≤n∧G9 x.2.2.2∧∀ p∈x.2.2.1,B0 p=true) (fun x=>x.1) ((v12.toNat,.slice none 0 0,[],d12)) (.c2 a8 a8 (.nil _)) ?_ (.cons a8 (.cons (congrArg (fun q=>some (AV.v q)) (by dsimp only;omega)) (.c2 a8 a8 (.nil _)))) (a8) fun x hF => ?_
 ·exact⟨by dsimp only;simp;omega,by assumption,by simp⟩
 obtain⟨k,v,b,e⟩:=x
 obtain⟨h2,h3,h4⟩:=hF
 dsimp only at h2 h3 h4 ⊢
 refine .q 7 hG ⟨fun hc14 => ?_,fun hc14 => ?_⟩
 ·refine .q 6 hG ?_
  refine .h (.C8 hG (G0 _ _ _ (by first|assumption|exact y1 _) (by omega) (by omega)) .z1 (.cons (.t a8) (.cons (.i a8) .nil)) (by rintro _ _ ⟨_,_,_,_,_,_,rfl⟩;exact⟨_,rfl⟩) fun r18 B18 hr18 => ?_)
  obtain⟨v18,d18,h018,h118,hd18,rfl,hB⟩:=hr18
  cases hB
  refine .q 8 hG ⟨fun hc19 => ?_,fun hc19 => ?_⟩
  ·refine .q 2 hG ?_
   refine .p (.bS2 j3.l0 j3.l1 a8 T1 a7K (fun c0 c1=>(⟨c0,c1,0,0,⟨[]⟩,0⟩:j3)) (fun _ _=>a8) a8 a8 a8 (.i a8) (.u64 7 a8) ?_)
   refine .bs a8 (by decide) fun b23 => ?_
   refine .ap (by simp<;>omega) (by simp<;>omega) fun w24 => ?_
   refine .q 1 hG ?_
   refine .drop ?_
   refine .q 3 hG ?_
   refine .sb (by omega) (by omega) ?_
   refine .q 2 hG ?_
   refine⟨(k - 1,_,_,_),.cons rfl (.cons (congrArg (fun q=>some (AV.v q)) (by dsimp only;omega)) (.c2 rfl rfl (.nil _))),rfl,?_,by dsimp only;omega⟩
   first|(exfalso;omega)|(exfalso;simp_all;done)|(exfalso;simp at *;omega)|exact⟨by dsimp only;simp;omega,by assumption,a1q h4 (by first|assumption|exact Q9 hs|exact H7 (by omega) (by omega) (by omega)|exact L8 (by omega) (by omega)|exact E5 (Or.inl rfl) (by decide))⟩
  ·refine .q 6 hG ⟨fun hc25 => ?_,fun hc25 => ?_⟩
   ·refine .q 3 hG ?_
    refine .h (.C8 hG (G0 _ _ _ (by first|assumption|exact y1 _) (by omega) (by omega)) .z1 (.cons (.t a8) (.cons (.i a8) .nil)) (by rintro _ _ ⟨_,_,_,_,_,_,rfl⟩;exact⟨_,rfl⟩) fun r29 B29 hr29 => ?_)
    obtain⟨v29,d29,h029,h129,hd29,rfl,hB⟩:=hr29
    cases hB
    refine .ad (by omega) (by omega) (.p (.bS3 j3.l0 j3.l2 j3.l3 a8 T1 a7K (fun c0 c2 c3=>(⟨c0,0,c2,c3,⟨[]⟩,0⟩:j3)) (fun _ _ _=>a8) a8 a8 a8 a8 (.i a8) (.i a8) (.t a8) ?_))
    refine .bs a8 (by decide) fun b32 => ?_
    refine .ap (by simp<;>omega) (by simp<;>omega) fun w33 => ?_
    refine .q 1 hG ?_
    refine .drop ?_
    refine .q 3 hG ?_
    refine .sb (by omega) (by omega) ?_
    refine .q 2 hG ?_
    refine⟨(k - 1,_,_,_),.cons rfl (.cons (congrArg (fun q=>some (AV.v q)) (by dsimp only;omega)) (.c2 rfl rfl (.nil _))),rfl,?_,by dsimp only;omega⟩
    first|(exfalso;omega)|(exfalso;simp_all;done)|(exfalso;simp at *;omega)|exact⟨by dsimp only;simp;omega,by assumption,a1q h4 (by first|assumption|exact Q9 hs|exact H7 (by omega) (by omega) (by omega)|exact L8 (by omega) (by omega)|exact E5 (Or.inl rfl) (by decide))⟩
   ·refine .q 6 hG ⟨fun hc34 => ?_,fun hc34 => ?_⟩
    ·refine .q 3 hG ?_
     refine .p (.bS2 j3.l0 j3.l4 a8 T1 a7K (fun c0 c4=>(⟨c0,0,0,0,c4,0⟩:j3)) (fun _ _=>a8) a8 a8 a8 (.i a8) (.t a8) ?_)
     refine .bs a8 (by decide) fun b39 => ?_
     refine .ap (by simp<;>omega) (by simp<;>omega) fun w40 => ?_
     refine .q 1 hG ?_
     refine .drop ?_
     refine .q 3 hG ?_
     refine .sb (by omega) (by omega) ?_
     refine .q 2 hG ?_
     refine⟨(k - 1,_,_,_),.cons rfl (.cons (congrArg (fun q=>some (AV.v q)) (by dsimp only;omega)) (.c2 rfl rfl (.nil _))),rfl,?_,by dsimp only;omega⟩
     first|(exfalso;omega)|(exfalso;simp_all;done)|(exfalso;simp at *;omega)|exact⟨by dsimp only;simp;omega,by assumption,a1q h4 (by first|assumption|exact Q9 hs|exact H7 (by omega) (by omega) (by omega)|exact L8 (by omega) (by omega)|exact E5 (Or.inl rfl) (by decide))⟩
    ·refine .q 6 hG ?_
     refine .cond (.t a8) (fun hc41 => ?_) (fun hc41 => ?_)
     ·refine .q 1 hG ?_
      refine .cond (.t a8) (fun hc41 => ?_) (fun hc41 => ?_)
      ·refine .q 3 hG ?_
       refine .h (.C8 hG (G0 _ _ _ (by first|assumption|exact y1 _) (by omega) (by omega)) .z1 (.cons (.t a8) (.cons (.i a8) .nil)) (by rintro _ _ ⟨_,_,_,_,_,_,rfl⟩;exact⟨_,rfl⟩) fun r46 B46 hr46 => ?_)
       obtain⟨v46,d46,h046,h146,hd46,rfl,hB⟩:=hr46
       cases hB
       refine .p (.bS2 j3.l0 j3.l5 a8 T1 a7K (fun c0 c5=>(⟨c0,0,0,0,⟨[]⟩,c5⟩:j3)) (fun _ _=>a8) a8 a8 a8 (.i a8) (.t a8) ?_)
       refine .bs a8 (by decide) fun b48 => ?_
       refine .ap (by simp<;>omega) (by simp<;>omega) fun w49 => ?_
       refine .q 1 hG ?_
       refine .drop ?_
       refine .q 3 hG ?_
       refine .sb (by omega) (by omega) ?_
       refine .q 2 hG ?_
       refine⟨(k - 1,_,_,_),.cons rfl (.cons (congrArg (fun q=>some (AV.v q)) (by dsimp only;omega)) (.c2 rfl rfl (.nil _))),rfl,?_,by dsimp only;omega⟩
       first|(exfalso;omega)|(exfalso;simp_all;done)|(exfalso;simp at *;omega)|exact⟨by dsimp only;simp;omega,by assumption,a1q h4 (by first|assumption|exact Q9 hs|exact H7 (by omega) (by omega) (by omega)|exact L8 (by omega) (by omega)|exact E5 (Or.inl rfl) (by decide))⟩
      ·refine .q 6 hG ⟨fun hc50 => ?_,fun hc50 => ?_⟩
       ·refine .q 3 hG ?_
        refine .h (.C8 hG (S0 _ _ _ (by assumption)) .z1 (.cons (.t a8) (.cons .b .nil)) (by rintro _ _ ⟨_,_,_,_,_,_,rfl⟩;exact⟨_,rfl⟩) fun r54 B54 hr54 => ?_)
        obtain⟨p54,hp54,hk54,d54,hd54,rfl,hB⟩:=hr54
        cases hB
        refine .bs a8 (by decide) fun b55 => ?_
        refine .ap (by simp<;>omega) (by simp<;>omega) fun w56 => ?_
        refine .q 1 hG ?_
        refine .drop ?_
        refine .q 3 hG ?_
        refine .sb (by omega) (by omega) ?_
        refine .q 2 hG ?_
        refine⟨(k - 1,_,_,_),.cons rfl (.cons (congrArg (fun q=>some (AV.v q)) (by dsimp only;omega)) (.c2 rfl rfl (.nil _))),rfl,?_,by dsimp only;omega⟩
        first|(exfalso;omega)|(exfalso;simp_all;done)|(exfalso;simp at *;omega)|exact⟨by dsimp only;simp;omega,by assumption,a1q h4 (by first|assumption|exact Q9 hs|exact H7 (by omega) (by omega) (by omega)|exact L8 (by omega) (by omega)|exact E5 (Or.inl rfl) (by decide))⟩
       ·refine .q 3 hG ?_
        refine .sb (by omega) (by omega) ?_
        refine .q 2 hG ?_
        refine⟨(k - 1,_,_,_),.cons rfl (.cons (congrArg (fun q=>some (AV.v q)) (by dsimp only;omega)) (.c2 rfl rfl (.nil _))),rfl,?_,by dsimp only;omega⟩
        first|(exfalso;omega)|(exfalso;simp_all;done)|(exfalso;simp at *;omega)|exact⟨by dsimp only;simp;omega,by assumption,a1q h4 (by first|assumption|exact Q9 hs|exact H7 (by omega) (by omega) (by omega)|exact L8 (by omega) (by omega)|exact E5 (Or.inl rfl) (by decide))⟩
     ·refine .q 4 hG ?_
      refine .cond (.t a8) (fun hc41 => ?_) (fun hc41 => ?_)
      ·refine .q 3 hG ?_
       refine .h (.C8 hG (G0 _ _ _ (by first|assumption|exact y1 _) (by omega) (by omega)) .z1 (.cons (.t a8) (.cons (.i a8) .nil)) (by rintro _ _ ⟨_,_,_,_,_,_,rfl⟩;exact⟨_,rfl⟩) fun r46 B46 hr46 => ?_)
       obtain⟨v46,d46,h046,h146,hd46,rfl,hB⟩:=hr46
       cases hB
       refine .p (.bS2 j3.l0 j3.l5 a8 T1 a7K (fun c0 c5=>(⟨c0,0,0,0,⟨[]⟩,c5⟩:j3)) (fun _ _=>a8) a8 a8 a8 (.i a8) (.t a8) ?_)
       refine .bs a8 (by decide) fun b48 => ?_
       refine .ap (by simp<;>omega) (by simp<;>omega) fun w49 => ?_
       refine .q 1 hG ?_
       refine .drop ?_
       refine .q 3 hG ?_
       refine .sb (by omega) (by omega) ?_
       refine .q 2 hG ?_
       refine⟨(k - 1,_,_,_),.cons rfl (.cons (congrArg (fun q=>some (AV.v q)) (by dsimp only;omega)) (.c2 rfl rfl (.nil _))),rfl,?_,by dsimp only;omega⟩
       first|(exfalso;omega)|(exfalso;simp_all;done)|(exfalso;simp at *;omega)|exact⟨by dsimp only;simp;omega,by assumption,a1q h4 (by first|assumption|exact Q9 hs|exact H7 (by omega) (by omega) (by omega)|exact L8 (by omega) (by omega)|exact E5 (Or.inl rfl) (by decide))⟩
      ·refine .q 6 hG ⟨fun hc50 => ?_,fun hc50 => ?_⟩
       ·refine .q 3 hG ?_
        refine .h (.C8 hG (S0 _ _ _ (by assumption)) .z1 (.cons (.t a8) (.cons .b .nil)) (by rintro _ _ ⟨_,_,_,_,_,_,rfl⟩;exact⟨_,rfl⟩) fun r54 B54 hr54 => ?_)
        obtain⟨p54,hp54,hk54,d54,hd54,rfl,hB⟩:=hr54
        cases hB
        refine .bs a8 (by decide) fun b55 => ?_
        refine .ap (by simp<;>omega) (by simp<;>omega) fun w56 => ?_
        refine .q 1 hG ?_
        refine .drop ?_
        refine .q 3 hG ?_
        refine .sb (by omega) (by omega) ?_
        refine .q 2 hG ?_
        refine⟨(k - 1,_,_,_),.cons rfl (.cons (congrArg (fun q=>some (AV.v q)) (by dsimp only;omega)) (.c2 rfl rfl (.nil _))),rfl,?_,by dsimp only;omega⟩
        first|(exfalso;omega)|(exfalso;simp_all;done)|(exfalso;simp at *;omega)|exact⟨by dsimp only;simp;omega,by assumption,a1q h4 (by first|assumption|exact Q9 hs|exact H7 (by omega) (by omega) (by omega)|exact L8 (by omega) (by omega)|exact E5 (Or.inl rfl) (by decide))⟩
       ·refine .q 3 hG ?_
        refine .sb (by omega) (by omega) ?_
        refine .q 2 hG ?_
        refine⟨(k - 1,_,_,_),.cons rfl (.cons (congrArg (fun q=>some (AV.v q)) (by dsimp only;omega)) (.c2 rfl rfl (.nil _))),rfl,?_,by dsimp only;omega⟩
        first|(exfalso;omega)|(exfalso;simp_all;done)|(exfalso;simp at *;omega)|exact⟨by dsimp only;simp;omega,by assumption,a1q h4 (by first|assumption|exact Q9 hs|exact H7 (by omega) (by omega) (by omega)|exact L8 (by omega) (by omega)|exact E5 (Or.inl rfl) (by decide))⟩
 ·refine .q 2 hG ?_
  refine .u0 hC .z (.as 7 a8 .z ?_)
  refine .q 5 hG ?_
  refine .e1 a8 a8 ?_
  exact⟨1,_,by omega,h4,_,h3,rfl,rfl⟩
structure j5 where
 A:m5
 Ring:C4
 C:x7
 Pass:x8
 L6:V5
 Request:u6
 Q5:Str
 Minute:Int
def j5.f (x:j5):m5×C4×x7×x8×V5×u6×Str×Int×Unit:=(x.A,x.Ring,x.C,x.Pass,x.L6,x.Request,x.Q5,x.Minute,())
instance:Inhabited j5:=⟨⟨default,default,default,default,default,default,default,default⟩⟩
instance:o8 j5:=o8.via j5.f
instance:I5 j5:=I5.via j5.f rfl
def j5.l0:m0 j5 m5:=m0.via j5.f m0.fst (fun x=>x.A) (fun y x => { x with A:=y }) (fun _=>rfl) (fun _ _=>rfl)
def j5.l1:m0 j5 C4:=m0.via j5.f (m0.snd.comp m0.fst) (fun x=>x.Ring) (fun y x => { x with Ring:=y }) (fun _=>rfl) (fun _ _=>rfl)
def j5.l2:m0 j5 x7:=m0.via j5.f (m0.snd.comp (m0.snd.comp m0.fst)) (fun x=>x.C) (fun y x => { x with C:=y }) (fun _=>rfl) (fun _ _=>rfl)
def j5.l3:m0 j5 x8:=m0.via j5.f (m0.snd.comp (m0.snd.comp (m0.snd.comp m0.fst))) (fun x=>x.Pass) (fun y x => { x with Pass:=y }) (fun _=>rfl) (fun _ _=>rfl)
def j5.l4:m0 j5 V5:=m0.via j5.f (m0.snd.comp (m0.snd.comp (m0.snd.comp (m0.snd.comp m0.fst)))) (fun x=>x.L6) (fun y x => { x with L6:=y }) (fun _=>rfl) (fun _ _=>rfl)
def j5.l5:m0 j5 u6:=m0.via j5.f (m0.snd.comp (m0.snd.comp (m0.snd.comp (m0.snd.comp (m0.snd.comp m0.fst))))) (fun x=>x.Request) (fun y x => { x with Request:=y }) (fun _=>rfl) (fun _ _=>rfl)
def j5.l6:m0 j5 Str:=m0.via j5.f (m0.snd.comp (m0.snd.comp (m0.snd.comp (m0.snd.comp (m0.snd.comp (m0.snd.comp m0.fst)))))) (fun x=>x.Q5) (fun y x => { x with Q5:=y }) (fun _=>rfl) (fun _ _=>rfl)
def j5.l7:m0 j5 Int:=m0.via j5.f (m0.snd.comp (m0.snd.comp (m0.snd.comp (m0.snd.comp (m0.snd.comp (m0.snd.comp (m0.snd.comp m0.fst))))))) (fun x=>x.Minute) (fun y x => { x with Minute:=y }) (fun _=>rfl) (fun _ _=>rfl)
theorem c1s:G7 prog 44 V5 := .ok (by kernel_rfl)
theorem c3u:G7 prog 46 j5 := .ok (by kernel_rfl)
abbrev Scn:=p5
def b9l (s:Scn) (u:Value):j5:=⟨s.A,s.Ring,s.C,s.Pass,⟨u⟩,s.Request,s.Q5,s.Minute⟩
theorem b6S {s:Scn} {u:Value} {I:Im} {cs:List Value} (h:o8.rep I (b9l s u) cs) (hg:E6 I (.v s.L6) u):o8.rep I s cs:=by
 obtain⟨c1,r1,rfl,h1,c2,r2,rfl,h2,c3,r3,rfl,h3,c4,r4,rfl,h4,c5,r5,rfl,⟨rfl,_⟩,h6⟩:=h
 obtain⟨_,⟨v,rfl,h5⟩,rfl⟩:=hg
 exact⟨c1,_,a8,h1,c2,_,a8,h2,c3,_,a8,h3,c4,_,a8,h4,_,_,a8,⟨_,a8,h5⟩,h6⟩
theorem as3 {α:Type} [o8 α] {P:Program} {f:FuncId} {ag:List AV} {x:D0×α×Int} {b:D0} {y:α} {e:Int} (h:u1 gl P f ag (fun r=>r = .t3 (.v x.1) (.v x.2.1) (.v x.2.2))) (hx:x=(b,y,e)):u1 gl P f ag (fun r=>r = .t3 (.v b) (.v y) (.v e)):=by
 subst hx;exact h
abbrev b4H:Str:=⟨[97,110,110]⟩
structure a7F (A:D0) (root:Epo) (P:Pass) (G:List Dis) (k:Nat):Prop where
 ex:∃ T n,a0n A root P G T n k∧n≤4+10*k
 b5O:a3I A
theorem b0c {A:D0} {root:Epo} {P:Pass} {G:List Dis} {k:Nat} (h:a7F A root P G k) (hk:k < 6) {l:List Pred} (hl:l.length≤1) (hp:∀ p∈l,B0 p=true):∃ B Q,a1p A P l=(B,Q,0)∧a7F B root Q G (k+1):=by
 obtain⟨T,n,hs,hn⟩:=h.ex
 rcases l with _|⟨p,l⟩
 ·exact⟨A,P,rfl,⟨T,n,hs.wide (Nat.le_refl _) (Nat.le_succ _),by omega⟩,h.b5O⟩
 ·obtain rfl:l = []:=List.length_eq_zero_iff.1 (by simpa using hl)
  obtain⟨B,Q,U,e,h2,h3,_⟩:=hs.first (by omega) (by omega) (hp p (by simp)) h.b5O
  refine⟨B,Q,?_,⟨U,n+2,h2,by omega⟩,h3⟩
  unfold a1p;rw [e,F8 rfl];rfl
set_option maxHeartbeats 1000000 in
theorem b6T (w:Value) (d:m6) (wide:Bool) (hd:G9 d):F5 gl prog 30 [dk w,.v wide] [.ob w d] (fun r Hs=>∃ s:Scn,∃ root k,(a7F s.A root s.Pass s.L6 k∧k≤5∧root.Number=2∧s.Ring=a2n root 3∧S2 s.Request=true∧s.Q5=b4H)∧∃ d',G9 d'∧r = .v s∧Hs = [.ob w d']):=by
 refine F5.a5H func30 rfl (by kernel_rfl) 176 rfl rfl _ rfl _ rfl fun C hC hG => ?_
 refine .q 3 hG fun b4 => ?_
 refine .q 3 hG ?_
 refine .h (.alloc c3u fun b5 => ?_)
 refine .q 2 hG ?_
 refine .a1e 139 Dis ?_
 refine .q 2 hG ?_
 refine .h (.C8 hG (G0 _ _ _ (by first|assumption|exact y1 _) (by omega) (by omega)) .z3 (.cons (.t a8) (.cons (.i a8) .nil)) (by rintro _ _ ⟨_,_,_,_,_,_,rfl⟩;exact⟨_,rfl⟩) fun r15 B15 hr15 => ?_)
 obtain⟨v15,d15,h015,h115,hd15,rfl,hB⟩:=hr15
 cases hB
 refine .q 2 hG ?_
 refine .h (.C8 hG (b3Z _ _ (by first|assumption|exact y1 _)) .z3 (.cons (.t a8) .nil) (by rintro _ _ ⟨_,_,_,_,rfl⟩;exact⟨_,rfl⟩) fun r18 B18 hr18 => ?_)
 obtain⟨k18,d18,hd18,rfl,hB⟩:=hr18
 cases hB
 refine .p (.o7 hG (c13 _ _) (.cons (.t a8) (.cons (.t a8) .nil)) (.p (.B1 j5.l0 P9 a8 (.t a8) (.n (.stF (fun y x => { x with A:=y }) y7 (.t a8) (.t a8) .z1 (fun _ _=>a8) ?_)))))
 refine .q 3 hG ?_
 refine .h (.alloc y6 fun b6 => .h (.alloc y6 fun b7 => ?_))
 refine .q 3 hG ?_
 refine .p (.B1 j5.l0 P9 a8 (.t a8) (.p (.ldF (fun x=>x.A) y7 (.t a8) .z3 (fun _=>a8) (.p (.o7 hG (b3Y _ (Int.le_refl 0)) (.cons (.t a8) .nil) ?_)))))
 have hk0:=(H5.new (decide (v15=0)) k18 0).b1c (by decide)
 obtain⟨kb,kt,ks⟩:=hk0
 rw [ks.eq]
 dsimp only
 refine .mv a8 (.p (.O7 (.t a8) (.p (.O8 (.t a8) (.p (.O9 (.t a8) (.p (.B1 j5.l0 P9 a8 (.t a8) (.n (.stF (fun y x => { x with A:=y }) y7 (.t a8) (.t a8) .z3 (fun _ _=>a8) (.n (.O5 y6 (.t a8) (.t a8) .z1 ?_))))))))))))
 refine .q 3 hG ?_
 refine .p (.B1 j5.l0 P9 a8 (.t a8) (.p (.ldF (fun x=>x.A) y7 (.t a8) .z3 (fun _=>a8) (.p (.o7 hG (b3Y _ ks.ok.a5P) (.cons (.t a8) .nil) ?_)))))
 have hk0:=ks.ok.b1c (by decide)
 obtain⟨kb2,kt2,ks2⟩:=hk0
 rw [ks2.eq]
 dsimp only
 refine .mv a8 (.p (.O7 (.t a8) (.p (.O8 (.t a8) (.p (.O9 (.t a8) (.p (.B1 j5.l0 P9 a8 (.t a8) (.n (.stF (fun y x => { x with A:=y }) y7 (.t a8) (.t a8) .z3 (fun _ _=>a8) (.n (.O5 y6 (.t a8) (.t a8) .z ?_))))))))))))
 refine .q 3 hG ?_
 refine .p (.Q1 y6 (.t a8) .z (.p (.bS2 u4.l0 u4.l1 a8 a6l b9J (fun c0 c1=>(⟨c0,c1⟩:u4)) (fun _ _=>a8) a8 a8 a8 (.i a8) (.t a8) ?_)))
 refine .bs a8 (by decide) fun b39=>(.u0 hC .z (.as 39 a8 .z (.p (.bS2 C4.l0 C4.l1 a8 a9k c2F (fun c0 c1=>(⟨c0,c1⟩:C4)) (fun _ _=>a8) a8 a8 a8 (.t a8) (.i a8) (.p (.B1 j5.l1 b3t a8 (.t a8) (.n (.stF (fun y x => { x with Ring:=y }) a9k (.t a8) (.t a8) .z4 (fun _ _=>a8) (.drop ?_)))))))))
 refine .q 3 hG ?_
 refine .p (.B1 j5.l6 b3w a8 (.t a8) (.n (.stF (fun y x => { x with Q5:=y }) ty9 (.t a8) (.s [97,110,110] (by decide) (by decide)) .z3 (fun _ _=>a8) ?_)))
 refine .q 4 hG ?_
 refine .h (.C8 hG (G0 _ _ _ (by first|assumption|exact y1 _) (by omega) (by omega)) .z5 (.cons (.t a8) (.cons (.i a8) .nil)) (by rintro _ _ ⟨_,_,_,_,_,_,rfl⟩;exact⟨_,rfl⟩) fun r44 B44 hr44 => ?_)
 obtain⟨v44,d44,h044,h144,hd44,rfl,hB⟩:=hr44
 cases hB
 refine .p (.B1 j5.l7 b7x a8 (.t a8) (.n (.stF (fun y x => { x with Minute:=y }) R6 (.t a8) (.t a8) .z3 (fun _ _=>a8) ?_)))
 refine .q 2 hG ?_
 refine .D7 [j1,j1,j1,j1,j1,j0] (by kernel_rfl) 13 [[],[(46,0)],[],[],[(49,3)],[(50,4)],[(51,5)],[(52,6)],[(53,7)],[],[(54,8),(55,9)],[(47,1),(48,2),(56,10)],[]] [1,4,5,6,7,8,10,11] a8 (by kernel_rfl) a8 (by kernel_rfl) (by decide) ?_
 refine⟨_,fun H=>j6.move (.t a8) a8,?_⟩
 refine .inl ?_
 refine⟨_,fun H=>j6.Q1 y6 (.t a8) (u7.app .z1) a8,?_⟩
 refine⟨_,fun H=>j6.move (.t a8) a8,?_⟩
 refine .inl (.inl (.inl (.inl (.inl ?_))))
 refine⟨_,fun H=>j6.bS2 y9.l0 y9.l1 a8 a5q b7D (fun c0 c1=>(⟨c0,c1⟩:y9)) (fun _ _=>a8) a8 a8 a8 (.s [98,111,98] (by decide) (by decide)) (.i a8) a8,?_⟩
 refine .inl (.inl ?_)
 refine⟨_,fun H=>j6.B1 j5.l2 b3u a8 (.t a8) a8,?_⟩
 refine⟨⟨([],j2 [c8,c8,c8,c8,c8,_]),a8⟩,?_⟩
 refine A6.C8 hG (G0 _ _ _ (by first|assumption|exact y1 _) (by omega) (by omega)) .z5 (.cons (.t rfl) (.cons (.i rfl) .nil)) (by rintro _ _ ⟨_,_,_,_,_,_,rfl⟩;exact⟨_,rfl⟩) fun r47 B47 hr47 => ?_
 obtain⟨v47,d47,h047,h147,hd47,rfl,hB⟩:=hr47
 cases hB
 refine⟨⟨([],j2 [c8,c8,c8,c8,c8,_]),a8⟩,?_⟩
 refine A6.C8 hG (G0 _ _ _ (by first|assumption|exact y1 _) (by omega) (by omega)) .z5 (.cons (.t rfl) (.cons (.i rfl) .nil)) (by rintro _ _ ⟨_,_,_,_,_,_,rfl⟩;exact⟨_,rfl⟩) fun r50 B50 hr50 => ?_
 obtain⟨v50,d50,h050,h150,hd50,rfl,hB⟩:=hr50
 cases hB
 refine⟨⟨([],j2 [c8,c8,c8,c8,c8,_]),a8⟩,?_⟩
 refine A6.ofP (j6.neg (.t rfl) (by omega) ?_)
 refine⟨⟨([],j2 [c8,c8,c8,c8,c8,_]),a8⟩,?_⟩
 refine A6.ofP (j6.mul (.t rfl) (.i rfl) (by omega) (by omega) ?_)
 refine⟨⟨([],j2 [c8,c8,c8,c8,c8,_]),a8⟩,?_⟩
 refine A6.ofP (j6.mul (.t rfl) (.i rfl) (by omega) (by omega) ?_)
 refine⟨⟨([],j2 [c8,c8,c8,c8,c8,_]),a8⟩,?_⟩
 refine A6.ofP (j6.bS2 y9.l0 y9.l1 rfl a5q b7D (fun c0 c1=>(⟨c0,c1⟩:y9)) (fun _ _=>rfl) rfl rfl rfl (.s [97,110,110] (by decide) (by decide)) (.t rfl) ?_)
 refine⟨⟨([],j2 [c8,c8,c8,c8,c8,_]),a8⟩,?_⟩
 refine A6.ofP (j6.F1 (α:=y9) a5q underlying39 (.cons (.t rfl) (.cons (.t rfl) .nil)) rfl (by decide) ?_)
 refine⟨⟨([],j2 [c8,c8,c8,c8,c8,_]),a8⟩,?_⟩
 refine A6.ofP (j6.bS3 x7.l0 x7.l1 x7.l2 rfl b8e c3R (fun c0 c1 c2=>(⟨c0,c1,c2⟩:x7)) (fun _ _ _=>rfl) rfl rfl rfl rfl (.t rfl) (.t rfl) (.c rfl) ?_)
 refine⟨⟨([],j2 [c8,c8,c8,c8,c8,_]),a8⟩,?_⟩
 show D5 _ _ _ _ _ [_] ((58,_)::(57,_)::(56,_)::(55,_)::(54,_)::(53,_)::(52,_)::(51,_)::(50,_)::(49,_)::(48,_)::(47,_)::(46,_)::_) _
 refine .n (.stF (fun y x => { x with C:=y }) b8e (.t a8) (.t a8) .z3 (fun _ _=>a8) ?_)
 refine .q 3 hG ?_
 refine .mv a8 (.h (.C8 hG (G0 _ _ _ (by first|assumption|exact y1 _) (by omega) (by omega)) .z5 (.cons (.t a8) (.cons (.i a8) .nil)) (by rintro _ _ ⟨_,_,_,_,_,_,rfl⟩;exact⟨_,rfl⟩) fun r60 B60 hr60 => ?_))
 obtain⟨v60,d60,h060,h160,hd60,rfl,hB⟩:=hr60
 cases hB
 refine .q 1 hG ?_
 refine .h (.C8 hG (a6r _ _ _ _ (by first|assumption|exact y1 _) (by omega) (by omega) (by omega)) .z5 (.cons (.t a8) (.cons (.i a8) (.cons (.i a8) .nil))) (by rintro _ _ ⟨_,_,_,_,_,_,rfl⟩;exact⟨_,rfl⟩) fun r62 B62 hr62 => ?_)
 obtain⟨v62,d62,h062,h162,hd62,rfl,hB⟩:=hr62
 cases hB
 refine .p (.bS2 u6.l0 u6.l1 a8 a6W c2E (fun c0 c1=>(⟨c0,c1⟩:u6)) (fun _ _=>a8) a8 a8 a8 (.t a8) (.t a8) (.p (.B1 j5.l5 b7w a8 (.t a8) (.n (.stF (fun y x => { x with Request:=y }) a6W (.t a8) (.t a8) .z3 (fun _ _=>a8) ?_)))))
 refine .q 2 hG ?_
 refine .a0r [[j1,j1,j1,j1,j1,j1],[j1,j1,j1,j1,j1,j0],[j1,j1,j1,j0,j1,j0],[j1,j1,j1,j0,j1,j0]] [[j1,j1,j1,j1,j1,j0],[j1,j1,j1,j1,j1,j0],[j1,j1,j1,j1,j1,j0],[j1,j1,j1,j1,j1,j0],[j1,j1,j1,j1,j1,j0],[j1,j1,j1,j1,j1,j0],[j1,j1,j1,j1,j1,j0],[j1,j1,j1,j1,j1,j1],[],[j1,j1,j1,j1,j1,j0],[j1,j1,j1,j1,j1,j0],[j1,j1,j1,j1,j1,j0],[j1,j1,j1,j0,j1,j0],[j1,j1,j1,j0,j1,j0],[j1,j1,j1,j1,j1,j0],[],[j1,j1,j1,j0,j1,j0],[]] [[],[9,10,11,12,13],[],[]] [] 3 (by kernel_rfl) 18 [[],[(66,0)],[],[(68,2)],[(69,3)],[(70,4)],[(71,5)],[],[(73,7)],[(67,1),(72,6),(74,8)],[(75,9)],[(65,10)],[(65,10)],[(65,10)],[],[(79,14),(76,11)],[],[(80,16),(77,12)]] [8,15,17] rfl (by kernel_rfl) rfl (by kernel_rfl) rfl (by decide) (by simp) (fun p hp=>by cases hp) (by kernel_rfl) rfl ?_
 refine⟨_,fun H=>j6.B1 j5.l0 P9 a8 (.t a8) a8,?_⟩
 refine⟨_,fun H=>j6.ldF (fun x=>x.A) y7 (.t a8) (u7.app .z3) (fun _=>a8) a8,?_⟩
 refine⟨_,fun H=>j6.B1 j5.l1 b3t a8 (.t a8) a8,?_⟩
 refine⟨_,fun H=>j6.b9W C4.l0 b3r a8 (.t a8) a8,?_⟩
 refine⟨_,fun H=>j6.ldF (fun x=>x.Ring.Live) c1W (.t a8) (u7.app .z3) (fun _=>a8) a8,?_⟩
 refine⟨_,fun H=>j6.idx a6l underlying30 (.t a8) (.i a8) (by omega) (by simp) a8,?_⟩
 refine⟨_,fun H=>j6.G2 a6l (.t a8) a8,?_⟩
 refine⟨_,fun H=>j6.move (.t a8) a8,?_⟩
 refine .inl (.inl (.inl (.inl (.inl (.inl ?_)))))
 refine⟨_,fun H=>j6.B1 j5.l0 P9 a8 (.t a8) a8,?_⟩
 refine .inl ?_
 refine⟨_,fun H=>j6.B1 j5.l3 a4q a8 (.t a8) a8,?_⟩
 refine .inl ?_
 refine⟨a8,?_⟩
 refine⟨⟨j2 [c8,c8,c8,c8,c8,c8],a8⟩,fun Ys11 => ?_⟩
 refine A6.C8 hG (a6r _ _ _ _ (by first|assumption|exact y1 _) (by omega) (by omega) (by omega)) (u7.app (u7.app .z5)) (.cons (.t rfl) (.cons (.i rfl) (.cons (.i rfl) .nil))) (by rintro _ _ ⟨_,_,_,_,_,_,rfl⟩;exact⟨_,rfl⟩) fun r74 B74 hr74 => ?_
 obtain⟨v74,d74,h074,h174,hd74,rfl,hB⟩:=hr74
 cases hB
 have hst:=a0n.start (decide (v15=0)) k18 (root:=⟨2,kt2⟩) ⟨(by decide:(1:Int)≤2),(by decide:(2:Int)≤2)⟩ ks2.ok (by rw [ks2.a0s,ks.a0s]) (by rw [ks2.boxes,ks.boxes]) (n:=v74) (by omega) (by omega)
 obtain⟨mB,mP,mT,me,hS,hH,hF0,hser⟩:=hst
 refine⟨[],_,a8,?_⟩
 refine⟨_,fun H=>j6.o7 hG (as3 (b8G _ _ _) me) (.cons (.t a8) (.cons (.t a8) (.cons (.t a8) .nil))) a8,?_⟩
 refine⟨_,fun H=>j6.move (.t a8) a8,?_⟩
 refine⟨_,fun H=>j6.O7 (.t a8) a8,?_⟩
 refine⟨_,fun H=>j6.O8 (.t a8) a8,?_⟩
 refine⟨_,fun H=>j6.O9 (.t a8) a8,?_⟩
 refine⟨⟨j2 [c8,c8,c8,c8,c8,_],a8⟩,fun Ys11 => ?_⟩
 refine A6.stF (fun y x => { x with A:=y }) y7 (.t rfl) (.t rfl) (u7.app (u7.app .z3)) (fun _ _=>rfl) ?_
 refine⟨[],_,a8,?_⟩
 refine⟨⟨j2 [c8,c8,c8,_,c8,_],a8⟩,fun Ys11 => ?_⟩
 refine A6.stF (fun y x => { x with Pass:=y }) U6 (.t rfl) (.t rfl) (u7.app (u7.app .z3)) (fun _ _=>rfl) ?_
 refine⟨[],_,a8,?_⟩
 refine⟨⟨j2 [c8,c8,c8,_,c8,_],a8⟩,fun ws11 => ?_⟩
 refine⟨⟨j2 [c8,c8,c8,_,c8,_],a8⟩,fun _ => ?_⟩
 show D5 _ _ _ _ _ [] ((80,_)::(79,_)::(78,_)::(77,_)::(76,_)::(65,_)::(75,_)::(74,_)::(73,_)::(72,_)::(71,_)::(70,_)::(69,_)::(68,_)::(67,_)::(66,_)::_) _
 have hrq:S2 (⟨v60,v62⟩:Rq)=true:=(by unfold S2;simp;omega)
 refine .q 5 hG ?_
 refine .h (.C8 hG (G0 _ _ _ (by first|assumption|exact y1 _) (by omega) (by omega)) .z5 (.cons (.t a8) (.cons (.i a8) .nil)) (by rintro _ _ ⟨_,_,_,_,_,_,rfl⟩;exact⟨_,rfl⟩) fun r82 B82 hr82 => ?_)
 obtain⟨v82,d82,h082,h182,hd82,rfl,hB⟩:=hr82
 cases hB
 refine .q 3 hG ?_
 refine .D9 (α:=Nat×Scn×Value×m6) [(0,_),(1,_),(4,_),(5,_)] (fun x R=>(8,.v (x.1:Int))::R) (fun x => [(true,.ob (ptr b7 0) kt2),(true,.ob (ptr b6 0) kt),(true,.own 139 x.2.2.1 x.2.1.L6),(true,.ob (ptr b5 0) (b9l x.2.1 x.2.2.1)),(true,.ob (ptr b4 0) (default:Scn)),(false,.ob w x.2.2.2)]) (fun x=>x.1≤5∧G9 x.2.2.2∧a7F x.2.1.A ⟨2,kt2⟩ x.2.1.Pass x.2.1.L6 (5 - x.1)∧x.2.1.Ring=a2n ⟨2,kt2⟩ 3∧x.2.1.C=⟨v47,kt,[⟨b4H,-v50*365*1440⟩,⟨⟨[98,111,98]⟩,0⟩]⟩∧x.2.1.Request=⟨v60,v62⟩∧x.2.1.Q5=b4H∧x.2.1.Minute=v44) (fun x=>x.1) ((v82.toNat,⟨mB,⟨[⟨2,kt2⟩],3⟩,⟨v47,kt,[⟨b4H,-v50*365*1440⟩,⟨⟨[98,111,98]⟩,0⟩]⟩,mP,[],⟨v60,v62⟩,b4H,v44⟩,.slice none 0 0,d82)) (.c2 a8 a8 (.c2 a8 a8 (.nil _))) ?_ (.cons (congrArg (fun q=>some (AV.v q)) (by dsimp only;omega)) (.c2 a8 a8 (.c2 a8 a8 (.nil _)))) (a8) fun x hF => ?_
 ·exact⟨by dsimp only;omega,by assumption,⟨⟨mT,4,hS.wide (Nat.le_refl _) (Nat.zero_le _),by omega⟩,hH⟩,rfl,rfl,rfl,rfl,rfl⟩
 obtain⟨i,s,gu,e⟩:=x
 obtain⟨f1,f2,f3,f4,f5,f6,f7,f8⟩:=hF
 dsimp only at f1 f2 f3 f4 f5 f6 f7 f8 ⊢
 refine .q 2 hG ?_
 have hcv:s.Pass.j9.length≤5:=(by obtain⟨T,n,hs,hn⟩:=f3.ex;have:=hs.a34;omega)
 refine .q 5 hG ⟨fun hc84 => ?_,fun hc84 => ?_⟩
 ·refine .q 7 hG ?_
  refine .h (.C8 hG (G0 _ _ _ (by first|assumption|exact y1 _) (by omega) (by omega)) .z5 (.cons (.t a8) (.cons (.i a8) .nil)) (by rintro _ _ ⟨_,_,_,_,_,_,rfl⟩;exact⟨_,rfl⟩) fun r88 B88 hr88 => ?_)
  obtain⟨v88,d88,h088,h188,hd88,rfl,hB⟩:=hr88
  cases hB
  refine .q 3 hG ⟨fun hc89 => ?_,fun hc89 => ?_⟩
  ·refine .q 3 hG ?_
   refine .h (.C8 hG (S0 _ _ _ (by assumption)) .z5 (.cons (.t a8) (.cons .b .nil)) (by rintro _ _ ⟨_,_,_,_,_,_,rfl⟩;exact⟨_,rfl⟩) fun r91 B91 hr91 => ?_)
   obtain⟨p91,hp91,hk91,d91,hd91,rfl,hB⟩:=hr91
   cases hB
   refine .bs a8 (by decide) fun b92 => ?_
   refine .q 7 hG ?_
   refine .cond (.t a8) (fun hc93 => ?_) (fun hc93 => ?_)
   ·refine .q 1 hG ?_
    refine .mv a8 (.p (.B1 j5.l6 b3w a8 (.t a8) (.p (.ldF (fun x=>x.Q5) ty9 (.t a8) .z4 (fun _=>a8) (.h (.C8 hG (b2T _ _ _ s.Q5 (by assumption) (by decide) (by decide) (by rw [f7];decide)) .z6 (.cons (.t a8) (.cons (.i a8) (.cons (.t a8) .nil))) (by rintro _ _ ⟨_,_,_,_,_,_,rfl⟩;exact⟨_,rfl⟩) fun r97 B97 hr97 => ?_))))))
    obtain⟨l97,hl97,hp97,d97,hd97,rfl,hB⟩:=hr97
    cases hB
    refine .q 3 hG ?_
    refine .drop ?_
    have hna:=b0c f3 (by omega) (l:=l97) (by omega) hp97
    obtain⟨nB,nQ,ne,nS⟩:=hna
    refine .q 1 hG ?_
    refine .p (.B1 j5.l0 P9 a8 (.t a8) (.p (.ldF (fun x=>x.A) y7 (.t a8) .z3 (fun _=>a8) (.p (.B1 j5.l3 a4q a8 (.t a8) (.p (.ldF (fun x=>x.Pass) U6 (.t a8) .z3 (fun _=>a8) (.mv a8 (.p (.o7 hG (as3 (b2v _ _ _ (by(try simp);omega)) ne) (.cons (.t a8) (.cons (.t a8) (.cons (.t a8) .nil))) (.mv a8 (.p (.O7 (.t a8) (.p (.O8 (.t a8) (.p (.O9 (.t a8) (.p (.B1 j5.l0 P9 a8 (.t a8) (.n (.stF (fun y x => { x with A:=y }) y7 (.t a8) (.t a8) .z3 (fun _ _=>a8) (.p (.B1 j5.l3 a4q a8 (.t a8) (.n (.stF (fun y x => { x with Pass:=y }) U6 (.t a8) (.t a8) .z3 (fun _ _=>a8) ?_)))))))))))))))))))))))))
    have hsc:a7F nB ⟨2,kt2⟩ nQ s.L6 (5 - (i - 1)):=(by rw [show 5 - (i - 1)=5 - i+1 by omega];exact nS)
    refine .q 4 hG ?_
    refine .sb (by omega) (by omega) ?_
    refine .q 2 hG ?_
    refine⟨(i - 1,⟨nB,s.Ring,s.C,nQ,s.L6,s.Request,s.Q5,s.Minute⟩,gu,_),.cons (congrArg (fun q=>some (AV.v q)) (by dsimp only;omega)) (.c2 rfl rfl (.c2 rfl rfl (.nil _))),rfl,?_,by dsimp only;omega⟩
    exact⟨by dsimp only;omega,by assumption,hsc,f4,f5,f6,f7,f8⟩
   ·refine .q 2 hG ?_
    refine .u0 hC .z (.as 9 a8 .z (.drop ?_))
    have hna:=b0c f3 (by omega) (l := [p91]) (Nat.le_refl 1) (by simpa using hp91)
    obtain⟨nB,nQ,ne,nS⟩:=hna
    refine .q 1 hG ?_
    refine .p (.B1 j5.l0 P9 a8 (.t a8) (.p (.ldF (fun x=>x.A) y7 (.t a8) .z3 (fun _=>a8) (.p (.B1 j5.l3 a4q a8 (.t a8) (.p (.ldF (fun x=>x.Pass) U6 (.t a8) .z3 (fun _=>a8) (.mv a8 (.p (.o7 hG (as3 (b2v _ _ _ (by(try simp);omega)) ne) (.cons (.t a8) (.cons (.t a8) (.cons (.t a8) .nil))) (.mv a8 (.p (.O7 (.t a8) (.p (.O8 (.t a8) (.p (.O9 (.t a8) (.p (.B1 j5.l0 P9 a8 (.t a8) (.n (.stF (fun y x => { x with A:=y }) y7 (.t a8) (.t a8) .z3 (fun _ _=>a8) (.p (.B1 j5.l3 a4q a8 (.t a8) (.n (.stF (fun y x => { x with Pass:=y }) U6 (.t a8) (.t a8) .z3 (fun _ _=>a8) ?_)))))))))))))))))))))))))
    have hsc:a7F nB ⟨2,kt2⟩ nQ s.L6 (5 - (i - 1)):=(by rw [show 5 - (i - 1)=5 - i+1 by omega];exact nS)
    refine .q 4 hG ?_
    refine .sb (by omega) (by omega) ?_
    refine .q 2 hG ?_
    refine⟨(i - 1,⟨nB,s.Ring,s.C,nQ,s.L6,s.Request,s.Q5,s.Minute⟩,gu,_),.cons (congrArg (fun q=>some (AV.v q)) (by dsimp only;omega)) (.c2 rfl rfl (.c2 rfl rfl (.nil _))),rfl,?_,by dsimp only;omega⟩
    exact⟨by dsimp only;omega,by assumption,hsc,f4,f5,f6,f7,f8⟩
  ·refine .q 2 hG ?_
   obtain⟨T,n,hs,hn⟩:=f3.ex
   have hco:=hs.c4q (by omega) (by omega) f3.b5O (c:=s.C) (by rw [f5];exact h047) (by rw [f5];show v47≤7;omega) s.Q5 (by rw [f7];decide)
   obtain⟨A1,bl,e1,ok1,A2,P2,e2,ho,ok2,hbt,A3,g,U,e3,hs3,hh3,hfr3,hgc⟩:=hco
   refine .q 2 hG fun b10 => ?_
   refine .q 3 hG ?_
   refine .p (.B1 j5.l0 P9 a8 (.t a8) (.p (.ldF (fun x=>x.A) y7 (.t a8) .z4 (fun _=>a8) (.p (.B1 j5.l2 b3u a8 (.t a8) (.p (.ldF (fun x=>x.C) b8e (.t a8) .z4 (fun _=>a8) (.p (.bS1 B2.l1 a8 b1T c2H (fun c1=>(⟨0,c1⟩:B2)) (fun _=>a8) a8 a8 (.i a8) (.p (.o7 hG (as3 (c0Q _ _ _ hs.ok.a5P hs.ok.c1i) e1) (.cons (.t a8) (.cons (.t a8) (.cons (.t a8) .nil))) (.mv a8 (.p (.O7 (.t a8) (.p (.O8 (.t a8) (.p (.O9 (.t a8) (.p (.B1 j5.l0 P9 a8 (.t a8) (.n (.stF (fun y x => { x with A:=y }) y7 (.t a8) (.t a8) .z4 (fun _ _=>a8) (.n (.O5 a3C (.t a8) (.t a8) .z ?_))))))))))))))))))))))))
   refine .q 3 hG ?_
   refine .p (.B1 j5.l0 P9 a8 (.t a8) (.p (.ldF (fun x=>x.A) y7 (.t a8) .z4 (fun _=>a8) (.p (.B1 j5.l3 a4q a8 (.t a8) (.p (.ldF (fun x=>x.Pass) U6 (.t a8) .z4 (fun _=>a8) (.p (.Q1 a3C (.t a8) .z (.p (.o7 hG (as3 (c3p _ _ _ (by(try dsimp only);omega) ok1.c1i (by omega)) e2) (.cons (.t a8) (.cons (.t a8) (.cons (.t a8) .nil))) (.mv a8 (.p (.O7 (.t a8) (.p (.O8 (.t a8) (.p (.O9 (.t a8) (.p (.B1 j5.l0 P9 a8 (.t a8) (.n (.stF (fun y x => { x with A:=y }) y7 (.t a8) (.t a8) .z4 (fun _ _=>a8) (.p (.B1 j5.l3 a4q a8 (.t a8) (.n (.stF (fun y x => { x with Pass:=y }) U6 (.t a8) (.t a8) .z4 (fun _ _=>a8) ?_))))))))))))))))))))))))))
   refine .q 3 hG ?_
   refine .h (.alloc S9 fun b11 => ?_)
   refine .q 3 hG ?_
   refine .p (.B1 j5.l0 P9 a8 (.t a8) (.p (.ldF (fun x=>x.A) y7 (.t a8) .z5 (fun _=>a8) (.p (.B1 j5.l2 b3u a8 (.t a8) (.p (.ldF (fun x=>x.C) b8e (.t a8) .z5 (fun _=>a8) (.p (.B1 C5.l2 b0q a8 (.t a8) (.p (.ldF (fun x=>x.j8) a2H (.t a8) .z1 (fun _=>a8) (.p (.B1 j5.l6 b3w a8 (.t a8) (.p (.ldF (fun x=>x.Q5) ty9 (.t a8) .z5 (fun _=>a8) (.p (.B1 j5.l7 b7x a8 (.t a8) (.p (.ldF (fun x=>x.Minute) R6 (.t a8) .z5 (fun _=>a8) (.p (.o7 hG (as3 (c0P _ _ _ s.Q5 s.Minute bl.Key ok2.b1a ho (by rw [f7];decide) (by rw [f8];omega) (by rw [f8];omega) (by rw [f5,f7];rfl) (by omega)) e3) (.cons (.t a8) (.cons (.t a8) (.cons (.t a8) (.cons (.t a8) (.cons (.t a8) .nil))))) (.mv a8 (.p (.O7 (.t a8) (.p (.O8 (.t a8) (.p (.O9 (.t a8) (.p (.B1 j5.l0 P9 a8 (.t a8) (.n (.stF (fun y x => { x with A:=y }) y7 (.t a8) (.t a8) .z5 (fun _ _=>a8) (.n (.O5 S9 (.t a8) (.t a8) .z ?_))))))))))))))))))))))))))))))))))
   refine .q 4 hG ?_
   refine .mv a8 (.h (.C8 hG (G0 _ _ _ (by first|assumption|exact y1 _) (by omega) (by omega)) .z7 (.cons (.t a8) (.cons (.i a8) .nil)) (by rintro _ _ ⟨_,_,_,_,_,_,rfl⟩;exact⟨_,rfl⟩) fun r150 B150 hr150 => ?_))
   obtain⟨v150,d150,h0150,h1150,hd150,rfl,hB⟩:=hr150
   cases hB
   refine .q 3 hG ?_
   refine .D9 (α:=Nat×D0×Dis×m6) [(0,_),(1,_),(4,_),(5,_),(8,_),(11,_)] (fun y R=>(12,.v (y.1:Int))::R) (fun y => [(true,.ob (ptr b11 0) y.2.2.1),(true,.ob (ptr b10 0) bl),(true,.ob (ptr b7 0) kt2),(true,.ob (ptr b6 0) kt),(true,.own 139 gu s.L6),(true,.ob (ptr b5 0) (b9l ⟨y.2.1,s.Ring,s.C,P2,s.L6,s.Request,s.Q5,s.Minute⟩ gu)),(true,.ob (ptr b4 0) (default:Scn)),(false,.ob w y.2.2.2)]) (fun y=>y.1≤2∧G9 y.2.2.2∧(∃ T n,a0n y.2.1 ⟨2,kt2⟩ P2 (s.L6 ++ [y.2.2.1]) T n (5 - i+1)∧n+y.1≤4+10*(5 - i+1))∧a3I y.2.1∧y.2.2.1.l8.length+y.1≤3) (fun y=>y.1) ((v150.toNat,A3,g,d150)) (.c2 a8 a8 (.c2 a8 a8 (.c2 a8 a8 (.nil _)))) ?_ (.cons (congrArg (fun q=>some (AV.v q)) (by dsimp only;omega)) (.c2 a8 a8 (.c2 a8 a8 (.c2 a8 a8 (.nil _))))) (a8) fun y hF => ?_
   ·exact⟨by dsimp only;omega,by assumption,⟨U,n+8,hs3,by dsimp only;omega⟩,hh3,by dsimp only;omega⟩
   obtain⟨j,A4,g4,e4⟩:=y
   obtain⟨q1,q2,q3,q4,q5⟩:=hF
   dsimp only at q1 q2 q3 q4 q5 ⊢
   refine .q 7 hG ⟨fun hc152 => ?_,fun hc152 => ?_⟩
   ·refine .q 6 hG ?_
    refine .h (.C8 hG (S0 _ _ _ (by assumption)) .z7 (.cons (.t a8) (.cons .b .nil)) (by rintro _ _ ⟨_,_,_,_,_,_,rfl⟩;exact⟨_,rfl⟩) fun r156 B156 hr156 => ?_)
    obtain⟨p156,hp156,hk156,d156,hd156,rfl,hB⟩:=hr156
    cases hB
    refine .q 1 hG fun b13 => ?_
    refine .q 7 hG ?_
    refine .cond (.t a8) (fun hc157 => ?_) (fun hc157 => ?_)
    ·refine .q 1 hG ?_
     refine .p (.bS3 j3.l0 j3.l2 j3.l3 a8 T1 a7K (fun c0 c2 c3=>(⟨c0,0,c2,c3,⟨[]⟩,0⟩:j3)) (fun _ _ _=>a8) a8 a8 a8 a8 (.i a8) (.i a8) (.i a8) ?_)
     refine .q 2 hG ?_
     obtain⟨T4,n4,hs4,hn4⟩:=q3
     have hre:=hs4.restrict (by omega) q4 (p:=⟨4,0,0,3000,⟨[]⟩,0⟩) (by decide) (by decide) (by omega)
     obtain⟨rB,rd,re,rs,rh,rf,rc⟩:=hre
     refine .q 1 hG ?_
     refine .p (.B1 j5.l0 P9 a8 (.t a8) (.p (.ldF (fun x=>x.A) y7 (.t a8) .z6 (fun _=>a8) (.p (.Q1 S9 (.t a8) .z1 (.p (.Q1 T1 (.t a8) .z (.p (.o7 hG (as3 (a5X _ _ _ (by omega)) re) (.cons (.t a8) (.cons (.t a8) (.cons (.t a8) .nil))) (.mv a8 (.p (.O7 (.t a8) (.p (.O8 (.t a8) (.p (.O9 (.t a8) (.p (.B1 j5.l0 P9 a8 (.t a8) (.n (.stF (fun y x => { x with A:=y }) y7 (.t a8) (.t a8) .z6 (fun _ _=>a8) (.n (.O5 S9 (.t a8) (.t a8) .z1 (.drop ?_)))))))))))))))))))))))
     refine .q 3 hG ?_
     refine .sb (by omega) (by omega) ?_
     refine .q 2 hG ?_
     refine⟨(j - 1,rB,rd,_),.cons (congrArg (fun q=>some (AV.v q)) (by dsimp only;omega)) (.c2 rfl rfl (.c2 rfl rfl (.c2 rfl rfl (.nil _)))),rfl,?_,by dsimp only;omega⟩
     exact⟨by dsimp only;omega,by assumption,⟨T4,n4+1,rs,by dsimp only;omega⟩,rh,by dsimp only;omega⟩
    ·refine .q 1 hG ?_
     obtain⟨T4,n4,hs4,hn4⟩:=q3
     have hre:=hs4.restrict (by omega) q4 (p:=p156) hp156 (hk156 rfl) (by omega)
     obtain⟨rB,rd,re,rs,rh,rf,rc⟩:=hre
     refine .q 1 hG ?_
     refine .p (.B1 j5.l0 P9 a8 (.t a8) (.p (.ldF (fun x=>x.A) y7 (.t a8) .z6 (fun _=>a8) (.p (.Q1 S9 (.t a8) .z1 (.p (.Q1 T1 (.t a8) .z (.p (.o7 hG (as3 (a5X _ _ _ (by omega)) re) (.cons (.t a8) (.cons (.t a8) (.cons (.t a8) .nil))) (.mv a8 (.p (.O7 (.t a8) (.p (.O8 (.t a8) (.p (.O9 (.t a8) (.p (.B1 j5.l0 P9 a8 (.t a8) (.n (.stF (fun y x => { x with A:=y }) y7 (.t a8) (.t a8) .z6 (fun _ _=>a8) (.n (.O5 S9 (.t a8) (.t a8) .z1 (.drop ?_)))))))))))))))))))))))
     refine .q 3 hG ?_
     refine .sb (by omega) (by omega) ?_
     refine .q 2 hG ?_
     refine⟨(j - 1,rB,rd,_),.cons (congrArg (fun q=>some (AV.v q)) (by dsimp only;omega)) (.c2 rfl rfl (.c2 rfl rfl (.c2 rfl rfl (.nil _)))),rfl,?_,by dsimp only;omega⟩
     exact⟨by dsimp only;omega,by assumption,⟨T4,n4+1,rs,by dsimp only;omega⟩,rh,by dsimp only;omega⟩
   ·refine .q 1 hG ?_
    obtain⟨T4,n4,hs4,hn4⟩:=q3
    have hgl:s.L6.length≤6:=(by have:=hs4.ngr;rw [List.length_append] at this;omega)
    have hsc:a7F A4 ⟨2,kt2⟩ P2 (s.L6 ++ [g4]) (5 - (i - 1)):=(by rw [show 5 - (i - 1)=5 - i+1 by omega];exact⟨⟨T4,n4,hs4,by omega⟩,q4⟩)
    refine .q 1 hG ?_
    refine .p (.B1 j5.l4 b3v a8 (.t a8) (.p (.ldR (fun x=>x.L6) c1s (.t a8) .z5 (fun _=>a8) ?_)))
    refine .q 1 hG ?_
    refine .bs a8 (by decide) fun b172 => .h (.append c4k (.inl ⟨_,underlying44⟩) a8 .z5 (.own a8 .z) (by simp<;>omega) (by simp<;>omega) (fun w173 => .p (.B1 j5.l4 b3v a8 (.t a8) (.n (.stF (fun y x => { x with L6:=y }) c1s (.t a8) (.b3S a8 .z5) .z6 (fun _ _=>a8) ?_)))) a8)
    refine .drop (.drop (.drop ?_))
    refine .q 3 hG ?_
    refine .sb (by omega) (by omega) ?_
    refine .q 2 hG ?_
    refine⟨(i - 1,⟨A4,s.Ring,s.C,P2,s.L6 ++ [g4],s.Request,s.Q5,s.Minute⟩,w173,_),.cons (congrArg (fun q=>some (AV.v q)) (by dsimp only;omega)) (.c2 rfl rfl (.c2 rfl rfl (.nil _))),rfl,?_,by dsimp only;omega⟩
    exact⟨by dsimp only;omega,by assumption,hsc,f4,f5,f6,f7,f8⟩
 ·refine .q 2 hG ?_
  refine .u0 hC .z2 (.a3r .z3 (fun n0 I L hr cs hc=>b6S hc (u7.fz .z2 hr)) (.conv 5 (.ln (ptr b5 0) (m0.id (α:=Scn))) a8 (fun _ _ _ _ _ h=>h) ?_))
  refine .q 5 hG ?_
  refine⟨_,.r1 a8 (.cell b8f a8 .z4),?_⟩
  exact⟨5,s,⟨2,kt2⟩,5 - i,⟨f3,by omega,rfl,f4,by rw [f6];exact hrq,f7⟩,_,f2,rfl,rfl⟩
structure m8 where
 Request:u6
 D3:Int
 A8:Int
 j9:V5
 Proof:(I7 32 UInt8)
 j4:V5
def m8.f (x:m8):u6×Int×Int×V5×(I7 32 UInt8)×V5×Unit:=(x.Request,x.D3,x.A8,x.j9,x.Proof,x.j4,())
instance:Inhabited m8:=⟨⟨default,default,default,default,default,default⟩⟩
instance:o8 m8:=o8.via m8.f
instance:I5 m8:=I5.via m8.f rfl
def m8.l0:m0 m8 u6:=m0.via m8.f m0.fst (fun x=>x.Request) (fun y x => { x with Request:=y }) (fun _=>rfl) (fun _ _=>rfl)
def m8.l1:m0 m8 Int:=m0.via m8.f (m0.snd.comp m0.fst) (fun x=>x.D3) (fun y x => { x with D3:=y }) (fun _=>rfl) (fun _ _=>rfl)
def m8.l2:m0 m8 Int:=m0.via m8.f (m0.snd.comp (m0.snd.comp m0.fst)) (fun x=>x.A8) (fun y x => { x with A8:=y }) (fun _=>rfl) (fun _ _=>rfl)
def m8.l3:m0 m8 V5:=m0.via m8.f (m0.snd.comp (m0.snd.comp (m0.snd.comp m0.fst))) (fun x=>x.j9) (fun y x => { x with j9:=y }) (fun _=>rfl) (fun _ _=>rfl)
def m8.l4:m0 m8 (I7 32 UInt8):=m0.via m8.f (m0.snd.comp (m0.snd.comp (m0.snd.comp (m0.snd.comp m0.fst)))) (fun x=>x.Proof) (fun y x => { x with Proof:=y }) (fun _=>rfl) (fun _ _=>rfl)
def m8.l5:m0 m8 V5:=m0.via m8.f (m0.snd.comp (m0.snd.comp (m0.snd.comp (m0.snd.comp (m0.snd.comp m0.fst))))) (fun x=>x.j4) (fun y x => { x with j4:=y }) (fun _=>rfl) (fun _ _=>rfl)
theorem a4d:G7 prog 24 V5 := .ok (by kernel_rfl)
theorem a3K:G7 prog 27 V5 := .ok (by kernel_rfl)
theorem b5P:G7 prog 29 m8 := .ok (by kernel_rfl)
def Y9 (b:Q4) (uc ud:Value):m8:=⟨b.Request,b.D3,b.A8,⟨uc⟩,b.Proof,⟨ud⟩⟩
theorem a68 {b:Q4} {uc ud:Value} {I:Im} {cs:List Value} (h:o8.rep I (Y9 b uc ud) cs) (hc:E6 I (.v b.j9) uc) (hd:E6 I (.v b.j4) ud):o8.rep I b cs:=by
 obtain⟨c1,r1,rfl,h1,c2,r2,rfl,h2,c3,r3,rfl,h3,c4,r4,rfl,⟨rfl,_⟩,c5,r5,rfl,h5,c6,r6,rfl,⟨rfl,_⟩,h6⟩:=h
 obtain⟨_,⟨v,rfl,h7⟩,rfl⟩:=hc
 obtain⟨_,⟨v',rfl,h8⟩,rfl⟩:=hd
 exact⟨c1,_,a8,h1,c2,_,a8,h2,c3,_,a8,h3,_,_,a8,⟨_,a8,h7⟩,c5,_,a8,h5,_,_,a8,⟨_,a8,h8⟩,h6⟩
theorem c0R {b:Q4} {uc ud:Value} {I:Im} {u:Value} (h:E6 I (.v (Y9 b uc ud)) u) (hc:E6 I (.v b.j9) uc) (hd:E6 I (.v b.j4) ud):E6 I (.v b) u:=by
 obtain⟨cs,h1,h2⟩:=h
 exact⟨cs,a68 h1 hc hd,h2⟩
theorem a4a {α β γ:Type} [Inhabited β] [Inhabited γ] (r:D0×α×Int) (f:D0→α→D0×β×Int) (g:D0→β→D0×γ×Int):a04 (a04 r f) g=a04 r fun b x=>a04 (f b x) g:=by
 by_cases h:r.2.2=0
 ·rw [F8 h,F8 h]
 ·rw [Q3 h,Q3 h,Q3 (r:=(default,default,r.2.2)) h]
theorem a84 (leaf:Tag) (r:Rq) (d:Dis):∀ (l:List Dis) (a:D0),a2M leaf r a (l ++ [d])=a04 (a2M leaf r a l) fun b y=>a04 (a2L b d leaf r) fun c x=>(c,y ++ [x],0)
 | [],a=>by
  rw [show a2M leaf r a []=(a,[],0) from rfl,F8 (r:=(a,([]:List Bnd),(0:Int))) rfl];rfl
 | e::l,a=>by
  show a04 (a2L a e leaf r) (fun b x=>a04 (a2M leaf r b (l ++ [d])) fun c y=>(c,x::y,0))=a04 (a04 (a2L a e leaf r) fun b x=>a04 (a2M leaf r b l) fun c y=>(c,x::y,0)) _
  rw [a4a]
  refine congrArg _ (funext fun b=>funext fun x => ?_)
  rw [a84 leaf r d l,a4a,a4a]
  refine congrArg _ (funext fun c=>funext fun y => ?_)
  rw [F8 (r:=(c,x::y,(0:Int))) rfl,a4a];rfl
structure a6B (leaf:Tag) (r:Rq) (a:D0) (l:List Dis):Prop where
 ok:∀ i,i≤l.length→(a2M leaf r a (l.take i)).2.2=0
def bA (leaf:Tag) (r:Rq) (a:D0) (l:List Dis) (i:Nat):D0:=(a2M leaf r a (l.take i)).1
def bY (leaf:Tag) (r:Rq) (a:D0) (l:List Dis) (i:Nat):List Bnd:=(a2M leaf r a (l.take i)).2.1
theorem a6B.step {leaf:Tag} {r:Rq} {a:D0} {l:List Dis} (h:a6B leaf r a l) {i:Nat} (hi:i < l.length):∃ y,a2L (bA leaf r a l i) l[i] leaf r=(bA leaf r a l (i+1),y,0)∧bY leaf r a l (i+1)=bY leaf r a l i ++ [y]:=by
 have h1:=h.ok i (by omega)
 have h2:=h.ok (i+1) hi
 unfold bA bY
 rw [List.take_succ_eq_append_getElem hi,a84,F8 h1] at h2 ⊢
 by_cases h3:(a2L (a2M leaf r a (l.take i)).1 l[i] leaf r).2.2=0
 ·rw [F8 h3]
  exact⟨_,Prod.ext a8 (Prod.ext a8 h3),a8⟩
 ·rw [Q3 h3] at h2;exact absurd h2 h3
theorem b9n {leaf:Tag} {r:Rq} {a:D0} {l:List Dis} (h:a6B leaf r a l):∀ i,i≤l.length→(bY leaf r a l i).length=i
 | 0,_=>rfl
 | i+1,hi=>by
  obtain⟨y,_,e⟩:=h.step (show i < l.length by omega)
  rw [e,List.length_append,b9n h i (by omega)];rfl
abbrev bd0 (d:Dis):Bnd:=⟨d.j8,d.l8,default⟩
theorem c0S {α β:Type} (f:α→β) (l:List α) (k:Nat) (h:k < l.length):(l.take k).map f ++ [f l[k]]=(l.take (k+1)).map f:=by
 rw [List.take_succ_eq_append_getElem h,List.map_append];rfl
theorem b9o {Y:List Bnd} {l:List Dis} {i:Nat} (y:Bnd) (hY:Y.length=i) (h:i < l.length):(Y++(l.drop i).map bd0).set i y=(Y ++ [y])++(l.drop (i+1)).map bd0:=by
 rw [List.drop_eq_getElem_cons h,List.map_cons,List.set_append_right _ _ (by omega),show i - Y.length=0 by omega,List.set_cons_zero,List.append_assoc];rfl
theorem b6U (a : D0) (p : Pass) (l : List Dis) (r : Rq) (hl : p.j9.length ≤ 1000000) (hl2 : l.length ≤ 1000000) {b : D0} {t : Tag} (h0 : L7 (b8A p l r) = 0) (h1 : G8 a p.Tag (a27 r) = (b, t, 0)) (h2 : a6B p.Tag r b l) (hr : S2 r = true) :
    u1 gl prog 29 [.v a,.v p,.v l,.v r] (fun x=>x = .t3 (.v (bA p.Tag r b l l.length)) (.v (⟨r,p.D3,p.A8,p.j9,t,bY p.Tag r b l l.length⟩:Q4)) (.v (0:Int))):=by
  refine u1.jn func29 (by kernel_rfl) 101 rfl fun C hC hG => ?_
  refine .q 3 hG fun b4 => ?_
  refine .q 1 hG fun b5 => ?_
  refine .q 1 hG fun b7 => ?_
  refine .q 1 hG fun b8 => ?_
  refine .q 1 hG fun b9 => ?_
  refine .q 11 hG ?_
  refine .name 23 a8 fun w23=>(.p (.bS4 m8.l0 m8.l1 m8.l2 m8.l3 a8 b5P c3Q (fun c0 c1 c2 c3=>(⟨c0,c1,c2,c3,default,default⟩:m8)) (fun _ _ _ _=>a8) a8 a8 a8 a8 a8 (.t a8) (.t a8) (.t a8) (.vR a8 .z) (.h (.alloc b5P fun b11 => .n (.O5 b5P (.t a8) (.t a8) .z (.a1e 88 Bnd ?_))))))
  refine .q 3 hG ?_
  refine .T7 2 a8 fun hl2' => ?_
  refine .q 4 hG ?_
  refine .D9 (α:=Nat×Value) [(2,_),(4,_),(5,_),(7,_),(8,_),(9,_),(11,_)] (fun x R=>(12,.v (x.1:Int))::R) (fun x => [(true,.own 88 x.2 ((l.take x.1).map bd0)),(true,.ob (ptr b11 0) (Y9 ⟨r,p.D3,p.A8,p.j9,default,[]⟩ w23 x.2)),(true,.fz w23 (.v p.j9)),(true,.ob (ptr b9 0) (default:Q4)),(true,.ob (ptr b8 0) (default:D0)),(true,.ob (ptr b7 0) r),(true,.ob (ptr b5 0) p),(true,.ob (ptr b4 0) a)]) (fun x=>x.1≤l.length) (fun x=>l.length - x.1) ((0,.slice none 0 0)) (.c2 a8 a8 (.c2 a8 a8 (.c2 a8 a8 (.cons a8 (.nil _))))) ?_ (.c2 a8 a8 (.c2 a8 a8 (.c2 a8 a8 (.c2 a8 a8 (.nil _))))) (a8) fun x hF => ?_
  · simp
  obtain⟨i,gu⟩:=x
  dsimp only at hF ⊢
  refine .q 9 hG ⟨fun hc28 => ?_,fun hc28 => ?_⟩
  · refine .q 3 hG ?_
    refine .D7 [j0,j1,j1,j1,j1,j1,j1,j1] (by kernel_rfl) 16 [[],[(31,0)],[],[],[(33,2),(34,3)],[(35,4)],[(36,5)],[],[],[(38,7),(39,8)],[(40,9)],[(41,10)],[(37,6),(42,11)],[(43,12)],[(32,1),(44,13)],[]] [1,14] a8 (by kernel_rfl) a8 (by kernel_rfl) (by decide) ?_
    refine⟨_,fun H=>j6.B1 m8.l5 Z6 a8 (.t a8) a8,?_⟩
    refine .inl ?_
    refine⟨_,fun H=>j6.move (.t a8) a8,?_⟩
    refine⟨_,fun H=>j6.move (.t a8) a8,?_⟩
    refine⟨_,fun H=>j6.idx S9 underlying44 (.t a8) (.t a8) (by omega) (by omega) a8,?_⟩
    refine⟨_,fun H=>j6.A7 p6.l0 (fun x=>x.j8) b4O a8 (fun _=>a8) (.t a8) a8,?_⟩
    refine⟨_,fun H=>j6.G2 a2H (.t a8) a8,?_⟩
    refine⟨_,fun H=>j6.move (.t a8) a8,?_⟩
    refine⟨_,fun H=>j6.move (.t a8) a8,?_⟩
    refine⟨_,fun H=>j6.idx S9 underlying44 (.t a8) (.t a8) (by omega) (by omega) a8,?_⟩
    refine⟨_,fun H=>j6.A7 p6.l1 (fun x=>x.l8) a6d a8 (fun _=>a8) (.t a8) a8,?_⟩
    refine⟨_,fun H=>j6.G2 a8B (.t a8) a8,?_⟩
    refine⟨_,fun H=>j6.bS2 p8.l0 p8.l1 a8 a1f b6d (fun c0 c1=>(⟨c0,c1,default⟩:p8)) (fun _ _=>a8) a8 a8 a8 (.t a8) (.t a8) a8,?_⟩
    refine⟨_,fun H=>j6.F1 (α:=p8) a1f underlying27 (.cons (.t a8) .nil) a8 (by decide) a8,?_⟩
    refine .inl ?_
    refine⟨_,fun H=>j6.B1 m8.l5 Z6 a8 (.t a8) a8,?_⟩
    refine⟨⟨([],j2 [_,c8,c8,c8,c8,c8,c8,c8]),a8⟩,?_⟩
    refine A6.ofP (j6.ldR (fun x=>x.j4) a3K (.t rfl) .z1 (fun _=>rfl) ?_)
    refine⟨⟨([],j2 [_,c8,c8,c8,c8,c8,c8,c8]),a8⟩,?_⟩
    refine A6.append c1X (.inl ⟨_,underlying27⟩) rfl .z (.v (.c rfl)) (by simp<;>omega) (by simp<;>omega) (fun w45 => ?_) rfl
    refine⟨⟨([],j2 [_,c8,c8,c8,c8,c8,c8,c8]),a8⟩,?_⟩
    show D5 _ _ _ _ _ [_] ((46,_)::(45,_)::(44,_)::(43,_)::(42,_)::(41,_)::(40,_)::(39,_)::(38,_)::(37,_)::(36,_)::(35,_)::(34,_)::(33,_)::(32,_)::(31,_)::_) _
    refine .n (.stF (fun y x => { x with j4:=y }) a3K (.t a8) (.b3S a8 .z) .z1 (fun _ _=>a8) ?_)
    refine .q 3 hG ?_
    refine .ad (by omega) (by omega) ?_
    refine .q 2 hG ?_
    refine⟨(i+1,w45),.c2 rfl rfl (.c2 rfl rfl (.c2 rfl rfl (.c2 rfl rfl (.nil _)))),congrArg (fun q => [(true,E3.own _ _ q),_,_,_,_,_,_,_]) (c0S bd0 l i (by omega)),?_,by dsimp only;omega⟩
    dsimp only;omega
  · refine .q 3 hG ?_
    obtain rfl:i=l.length:=(by omega)
    rw [List.take_length]
    refine .q 1 hG ?_
    refine .p (.Q1 b5P (.t a8) .z1 (.p (.b7K hG (b2K (b8A p l r) hl) (.cons (.st a8 .z (fun J n0 L v hr hx hd=>c0R (b:=b8A p l r) hx (u7.fz .z2 hr) hd)) .nil) .v ?_)))
    refine .q 7 hG ?_
    refine .M3 (.t a8) (fun hc50=>(by exfalso;exact hc50 h0)) (fun hc50 => ?_)
    refine .q 2 hG ?_
    refine .a0r [[j1,j1,j1,j1,j1,j1,j1,j1],[j1,j1,j1,j1,j1,j1,j1,j1],[j1,j1,j1,j1,j1,j1,j1,j0],[j1,j1,j1,j1,j1,j1,j1,j0]] [[j1,j1,j1,j1,j1,j1,j1,j1],[j1,j1,j1,j1,j1,j1,j1,j1],[j1,j1,j1,j1,j1,j1,j1,j1],[j1,j1,j1,j1,j1,j1,j1,j1],[j1,j1,j1,j1,j1,j1,j1,j1],[j1,j1,j1,j1,j1,j1,j1,j1],[j1,j1,j1,j1,j1,j1,j1,j1],[j1,j1,j1,j1,j1,j1,j1,j1],[j1,j1,j1,j1,j1,j1,j1,j0],[j1,j1,j1,j1,j1,j1,j1,j0],[],[],[],[j1,j1,j1,j1,j1,j1,j1,j0]] [] [] 3 (by kernel_rfl) 14 [[],[],[(56,1)],[],[(58,3)],[(55,0),(57,2),(59,4)],[(60,5)],[(54,6)],[(54,6)],[(54,6)],[],[(61,7)],[(14,10),(62,8)],[(63,9)]] [10,11,12] rfl (by kernel_rfl) rfl (by kernel_rfl) rfl (by decide) (by simp) (fun p hp=>by cases hp) (by kernel_rfl) rfl ?_
    refine⟨_,fun H=>j6.Q1 y7 (.t a8) (u7.app .z7) a8,?_⟩
    refine⟨_,fun H=>j6.B1 x8.l3 a6M a8 (.t a8) a8,?_⟩
    refine⟨_,fun H=>j6.ldF (fun x=>x.Tag) y6 (.t a8) (u7.app .z6) (fun _=>a8) a8,?_⟩
    refine⟨_,fun H=>j6.Q1 a6W (.t a8) (u7.app .z5) a8,?_⟩
    refine⟨_,fun H=>j6.o7 hG (b2u _ hr) (.cons (.t a8) .nil) a8,?_⟩
    refine⟨_,fun H=>j6.o7 hG (as3 (a5N _ _ _) h1) (.cons (.t a8) (.cons (.t a8) (.cons (.t a8) .nil))) a8,?_⟩
    refine⟨_,fun H=>j6.move (.t a8) a8,?_⟩
    refine⟨_,fun H=>j6.O7 (.t a8) a8,?_⟩
    refine⟨_,fun H=>j6.O8 (.t a8) a8,?_⟩
    refine⟨_,fun H=>j6.O9 (.t a8) a8,?_⟩
    refine .inl (.inl (.inl ?_))
    refine⟨_,fun H=>j6.assign (.t a8) a8,?_⟩
    refine⟨a8,?_⟩
    refine⟨⟨j2 [c8,c8,c8,c8,c8,c8,c8,c8],a8⟩,fun Ys9 => ?_⟩
    refine A6.alloc y6 fun b14 => ?_
    refine⟨[_],_,a8,?_⟩
    refine⟨⟨j2 [c8,c8,c8,c8,c8,c8,c8,c8],a8⟩,fun Ys9 => ?_⟩
    refine A6.O5 y7 (.t rfl) (.t rfl) (.s (u7.app (u7.app .z7))) ?_
    refine⟨[_],_,a8,?_⟩
    refine⟨⟨j2 [c8,c8,c8,c8,c8,c8,c8,_],a8⟩,fun Ys9 => ?_⟩
    refine A6.O5 y6 (.t rfl) (.t rfl) .z ?_
    refine⟨[_],_,a8,?_⟩
    refine⟨⟨j2 [c8,c8,c8,c8,c8,c8,c8,_],a8⟩,fun ws9 => ?_⟩
    refine⟨⟨j2 [c8,c8,c8,c8,c8,c8,c8,_],a8⟩,fun _ => ?_⟩
    show D5 _ _ _ _ _ [] ((15,_)::(14,_)::(63,_)::(62,_)::(61,_)::(54,_)::(60,_)::(59,_)::(58,_)::(57,_)::(56,_)::(55,_)::_) _
    refine .q 7 hG ?_
    refine .M3 (.t a8) (fun hc65=>(by exfalso;exact hc65 rfl)) (fun hc65 => ?_)
    refine .q 3 hG ?_
    refine .p (.Q1 y6 (.t a8) .z (.p (.B1 m8.l4 a8l a8 (.t a8) (.n (.stF (fun y x => { x with Proof:=y }) y6 (.t a8) (.t a8) .z2 (fun _ _=>a8) ?_)))))
    refine .q 4 hG ?_
    refine .p (.assign (.i a8) ?_)
    refine .q 2 hG ?_
    refine .D9 (α:=Nat) [(2,_),(4,_),(5,_),(7,_),(8,_),(9,_),(11,_)] (fun k R=>(16,.v (k:Int))::R) (fun k => [(true,.ob (ptr b14 0) t),(true,.own 88 gu (bY p.Tag r b l k++(l.drop k).map bd0)),(true,.ob (ptr b11 0) (Y9 ⟨r,p.D3,p.A8,p.j9,t,[]⟩ w23 gu)),(true,.fz w23 (.v p.j9)),(true,.ob (ptr b9 0) (default:Q4)),(true,.ob (ptr b8 0) (default:D0)),(true,.ob (ptr b7 0) r),(true,.ob (ptr b5 0) p),(true,.ob (ptr b4 0) (bA p.Tag r b l k))]) (fun k=>k≤l.length) (fun k=>l.length - k) (0) (.c2 a8 a8 (.c2 a8 a8 (.c2 a8 a8 (.cons a8 (.nil _))))) ?_ (.c2 a8 a8 (.c2 a8 a8 (.c2 a8 a8 (.c2 a8 a8 (.nil _))))) (a8) fun k hF => ?_
    · simp
    refine .q 9 hG ⟨fun hc74 => ?_,fun hc74 => ?_⟩
    · refine .q 4 hG ?_
      have hYl:=b9n h2 k (by omega)
      have hst:=h2.step (i:=k) (by omega)
      obtain⟨y,hbe,hye⟩:=hst
      have hDl:(bY p.Tag r b l k++(l.drop k).map bd0).length=l.length:=(by rw [List.length_append,hYl,List.length_map,List.length_drop];omega)
      have hse:(bY p.Tag r b l k++(l.drop k).map bd0).set k y=bY p.Tag r b l (k+1)++(l.drop (k+1)).map bd0:=(by rw [b9o y hYl (by omega),hye])
      refine .a0r [[j1,j1,j1,j1,j1,j1,j1,j1,j1],[j1,j1,j1,j1,j1,j1,j1,j1,j0],[j1,j0,j1,j1,j1,j1,j1,j1,j0]] [[j1,j1,j1,j1,j1,j1,j1,j1,j0],[j1,j1,j1,j1,j1,j1,j1,j1,j0],[j1,j1,j1,j1,j1,j1,j1,j1,j0],[j1,j1,j1,j1,j1,j1,j1,j1,j1],[j1,j1,j1,j1,j1,j1,j1,j1,j1],[j1,j1,j1,j1,j1,j1,j1,j1,j1],[j1,j1,j1,j1,j1,j1,j1,j1,j1],[j1,j1,j1,j1,j1,j1,j1,j1,j1],[j1,j1,j1,j1,j1,j1,j1,j1,j1],[j1,j1,j1,j1,j1,j1,j1,j1,j1],[j1,j1,j1,j1,j1,j1,j1,j1,j1],[j1,j1,j1,j1,j1,j1,j1,j1,j1],[j1,j1,j1,j1,j1,j1,j1,j1,j1],[j1,j1,j1,j1,j1,j1,j1,j1,j1],[j1,j1,j1,j1,j1,j1,j1,j1,j0],[j1,j0,j1,j1,j1,j1,j1,j1,j0],[],[j1,j1,j1,j1,j1,j1,j1,j1,j0],[],[j1,j0,j1,j1,j1,j1,j1,j1,j0]] [] [] 2 (by kernel_rfl) 20 [[],[(78,0)],[],[],[],[],[(82,4),(83,5)],[(84,6)],[],[(86,8)],[],[(81,3),(85,7),(87,9),(88,10)],[(89,11)],[(77,12)],[(77,12)],[(77,12)],[(90,13)],[(79,1),(80,2)],[(93,17),(91,14)],[(92,15)]] [16,18] rfl (by kernel_rfl) rfl (by kernel_rfl) rfl (by decide) (by simp) (fun p hp=>by cases hp) (by kernel_rfl) rfl ?_
      refine⟨_,fun H=>j6.B1 m8.l5 Z6 a8 (.t a8) a8,?_⟩
      refine⟨_,fun H=>j6.ldR (fun x=>x.j4) a3K (.t a8) (u7.app .z2) (fun _=>a8) a8,?_⟩
      refine⟨_,fun H=>j6.move (.t a8) a8,?_⟩
      refine⟨_,fun H=>j6.Q1 y7 (.t a8) (u7.app .z8) a8,?_⟩
      refine⟨_,fun H=>j6.move (.t a8) a8,?_⟩
      refine⟨_,fun H=>j6.move (.t a8) a8,?_⟩
      refine⟨_,fun H=>j6.idx S9 underlying44 (.t a8) (.t a8) (by omega) (by omega) a8,?_⟩
      refine⟨_,fun H=>j6.G2 S9 (.t a8) a8,?_⟩
      refine⟨_,fun H=>j6.B1 x8.l3 a6M a8 (.t a8) a8,?_⟩
      refine⟨_,fun H=>j6.ldF (fun x=>x.Tag) y6 (.t a8) (u7.app .z7) (fun _=>a8) a8,?_⟩
      refine⟨_,fun H=>j6.Q1 a6W (.t a8) (u7.app .z6) a8,?_⟩
      refine⟨_,fun H=>j6.o7 hG (as3 (c2c _ _ _ _) hbe) (.cons (.t a8) (.cons (.t a8) (.cons (.t a8) (.cons (.t a8) .nil)))) a8,?_⟩
      refine⟨_,fun H=>j6.move (.t a8) a8,?_⟩
      refine⟨_,fun H=>j6.O7 (.t a8) a8,?_⟩
      refine⟨_,fun H=>j6.O8 (.t a8) a8,?_⟩
      refine⟨_,fun H=>j6.O9 (.t a8) a8,?_⟩
      refine .inl ?_
      refine⟨_,fun H=>j6.W7 a1f underlying27 a8 (u7.app .z1) (.t a8) (by omega) (by omega) a8,?_⟩
      refine .inl ?_
      refine⟨_,fun H=>j6.assign (.t a8) a8,?_⟩
      refine⟨a8,?_⟩
      refine⟨⟨j2 [c8,c8,c8,c8,c8,c8,c8,c8,c8],a8⟩,fun Ys16 => ?_⟩
      refine A6.O5 y7 (.t rfl) (.t rfl) (u7.app (u7.app .z8)) ?_
      refine⟨[],_,a8,?_⟩
      refine⟨⟨j2 [c8,c8,c8,c8,c8,c8,c8,c8,_],a8⟩,fun Ys16 => ?_⟩
      refine A6.b0E a1f (.t rfl) (.t rfl) (u7.app (u7.app .z1)) (by omega) ?_
      refine⟨[],_,a8,?_⟩
      refine⟨⟨j2 [c8,_,c8,c8,c8,c8,c8,c8,_],a8⟩,fun ws16 => ?_⟩
      refine⟨⟨j2 [c8,_,c8,c8,c8,c8,c8,c8,_],a8⟩,fun _ => ?_⟩
      show D5 _ _ _ _ _ [] ((15,_)::(93,_)::(92,_)::(91,_)::(90,_)::(77,_)::(89,_)::(88,_)::(87,_)::(86,_)::(85,_)::(84,_)::(83,_)::(82,_)::(81,_)::(80,_)::(79,_)::(78,_)::_) _
      refine .q 6 hG ?_
      refine .M3 (.t a8) (fun hc95=>(by exfalso;exact hc95 rfl)) (fun hc95 => ?_)
      refine .q 3 hG ?_
      refine .ad (by omega) (by omega) ?_
      refine .q 2 hG ?_
      refine⟨k+1,.c2 rfl rfl (.c2 rfl rfl (.c2 rfl rfl (.c2 rfl rfl (.nil _)))),congrArg (fun q => [_,(true,E3.own _ _ q),_,_,_,_,_,_,_]) hse,?_,by omega⟩
      omega
    · refine .q 2 hG ?_
      obtain rfl:k=l.length:=(by omega)
      rw [List.drop_length,List.map_nil,List.append_nil]
      refine .u0 hC .z1 (.a3r .z2 (fun n0 I L hr cs hc=>a68 (b:=⟨r,p.D3,p.A8,p.j9,t,bY p.Tag r b l l.length⟩) hc (u7.fz .z3 hr) (u7.fz .z1 hr)) (.conv 11 (.ln (ptr b11 0) (m0.id (α:=Q4))) a8 (fun _ _ _ _ _ h=>h) (.D7 [j1,j1,j1,j1,j0,j0,j1,j1,j1] (by kernel_rfl) 5 [[],[],[(99,0)],[(100,1)],[]] [2,3] a8 (by kernel_rfl) a8 (by kernel_rfl) (by decide) ?_)))
      refine⟨_,fun H=>j6.Q1 y7 (.t a8) (u7.app .z8) a8,?_⟩
      refine⟨_,fun H=>j6.Q1 V6 (.t a8) (u7.app .z2) a8,?_⟩
      refine .inl (.inl ?_)
      refine⟨_,fun H=>j6.assign (.i a8) a8,?_⟩
      refine⟨⟨([],j2 [c8,c8,c8,c8,_,_,c8,c8,c8]),a8⟩,?_⟩
      refine A6.O5 y7 (.t rfl) (.t rfl) .z5 ?_
      refine⟨⟨([],j2 [c8,c8,c8,c8,_,_,c8,c8,c8]),a8⟩,?_⟩
      refine A6.O5 V6 (.t rfl) (.t rfl) .z4 ?_
      refine⟨⟨([],j2 [c8,c8,c8,c8,_,_,c8,c8,c8]),a8⟩,?_⟩
      show D5 _ _ _ _ _ [] ((10,_)::(100,_)::(99,_)::_) _
      refine .q 2 hG ?_
      refine⟨_,.r3 a8 (.cell y7 a8 .z5) (.cell V6 a8 .z4) (.tmp a8),?_⟩
      rfl
theorem c2m (e:Epo) (b:Q4):u1 gl prog 37 [.v e,.p b] (fun r=>r = .v (decide (e.Number=b.D3))):=by
 refine u1.jn func37 (by kernel_rfl) 9 rfl fun C hC hG => ?_
 refine .q 3 hG fun b2 => ?_
 refine .q 12 hG ?_
 refine .e1 a8 a8 ?_
 rfl
theorem a86 {c:Y0} (h:I4 c=true):c.j8.length≤1024:=by
 cases h3:c.Q2 with
 | false=>rw [(a25 h h3).2.2.1];decide
 | true=>exact(a23 h h3).2.2.2.2.1
theorem c0T {p:Tag×Bool} {t:Tag} {e:Int} (h:(!(p.2&&decide (p.1=t))||decide (e≠0))=true):p≠(t,true)∨e≠0:=by
 rcases Bool.or_eq_true_iff.1 h with h|h
 ·exact Or.inl (b5K (b1i h))
 ·exact Or.inr (of_decide_eq_true h)
theorem b9p {p:Tag×Bool} {t:Tag} {e:Int} (h:(!(p.2&&decide (p.1=t))||decide (e≠0))=false):p=(t,true)∧e=0:=by
 obtain⟨h1,h2⟩:=Bool.or_eq_false_iff.1 h
 exact⟨b5J (a52 h1),by simpa using h2⟩
theorem b2U {a:D0} {b:Q4} {T:List Tag} {i:Nat} (h:i < b.j9.length) (h3:b.j9[i].Q2=false):thE a b T i=0:=by
 unfold thE;rw [a5d h,if_neg (by rw [h3];decide)]
theorem b1o {a:D0} {b:Q4} {T:List Tag} {i:Nat} (h:i < b.j9.length) (hT:i < T.length) (h3:b.j9[i].Q2=true):thE a b T i=W2 a b b.j9[i] T[i] (T.getLastD default):=by
 unfold thE;rw [a5d h,a5d hT,if_pos h3]
theorem b2V (a:D0) (g:Ring) (b:Q4) (hpl:∀ x∈a.y2,x.Plain.length≤1000000) (hl:b.j9.length≤1000000):u1 gl prog 13 [.v a,.v g,.v b] (fun r=>r = .t2 (.v (a6x a g b).1) (.v (a6x a g b).2)):=by
 refine u1.jn func13 (by kernel_rfl) 111 rfl fun C hC hG => ?_
 refine .q 3 hG fun b3 => ?_
 refine .q 1 hG fun b4 => ?_
 refine .q 1 hG fun b5 => ?_
 refine .q 1 hG fun b6 => ?_
 refine .q 4 hG ?_
 refine .A0 hC .z3 (.M1 3 a8 .z3 (.A0 hC .z2 (.M1 4 a8 .z2 (.A0 hC .z1 (.M1 5 a8 .z1 (.del (.s .z) (.del (.s .z) (.del (.s .z) ?_))))))))
 refine .q 2 hG ?_
 refine .k hG (c0D _ hl) ?_
 refine .q 8 hG ⟨fun hc22 => ?_,fun hc22 => ?_⟩
 ·refine .q 2 hG ?_
  refine .p (.bS0 (α:=u3) a8 Z0 a6c ?_)
  refine .q 5 hG ?_
  refine⟨_,.r2 a8 (.cell Z0 a8 .z) (.tmp a8),?_⟩
  rw [b8N hc22]
 ·refine .q 2 hG ?_
  have h0:L7 b=0:=Decidable.not_not.1 hc22
  have hb:=a5c h0
  refine .q 3 hG ?_
  refine .p (.b0F hG (fun x=>c2m x _) (.cons (.t a8) .nil) (.p (.o7 hG (b4y _ _) (.cons (.t a8) (.cons (.t a8) .nil)) ?_)))
  refine .q 9 hG ⟨fun hc30 => ?_,fun hc30 => ?_⟩
  ·refine .q 2 hG ?_
   refine .p (.bS0 (α:=u3) a8 Z0 a6c ?_)
   refine .q 4 hG ?_
   refine⟨_,.r2 a8 (.cell Z0 a8 .z) (.tmp a8),?_⟩
   rw [c1o h0 (b0T (show ¬0≤idx g.Live (fun e=>decide (e.Number=b.D3)) from fun hx=>absurd hc30 (Int.not_lt.2 hx)))]
  ·refine .q 2 hG ?_
   have hi0:0≤idx g.Live (fun e=>decide (e.Number=b.D3)):=Int.not_lt.1 hc30
   have hi1:=b4a hi0
   have he:a0T g b.D3=some g.Live[(idx g.Live (fun e=>decide (e.Number=b.D3))).toNat]:=b0S hi0 (by omega)
   rw [a7Z h0 he]
   refine .draw (by kernel_rfl) 16 [[],[],[(34,1)],[],[(35,2),(36,3)],[(37,4)],[],[(39,6)],[],[(41,8)],[(33,0),(38,5),(40,7),(42,9)],[(43,10)],[(32,11)],[(32,11)],[(44,12)],[(45,13)]] a8 (by kernel_rfl) a8 ?_
   refine⟨_,j6.G2 y7 (.t a8) a8,?_⟩
   refine⟨_,j6.A7 C4.l0 (fun x=>x.Live) b3r a8 (fun _=>a8) (.t a8) a8,?_⟩
   refine⟨_,j6.G2 c1W (.t a8) a8,?_⟩
   refine⟨_,j6.move (.t a8) a8,?_⟩
   refine⟨_,j6.idx a6l underlying30 (.t a8) (.t a8) (by omega) (by omega) a8,?_⟩
   refine⟨_,j6.G2 a6l (.t a8) a8,?_⟩
   refine⟨_,j6.A7 p9.l2 (fun x=>x.A8) b3q a8 (fun _=>a8) (.t a8) a8,?_⟩
   refine⟨_,j6.G2 R6 (.t a8) a8,?_⟩
   refine⟨_,j6.A7 p9.l3 (fun x=>x.j9) V4 a8 (fun _=>a8) (.t a8) a8,?_⟩
   refine⟨_,j6.G2 a8A (.t a8) a8,?_⟩
   refine⟨_,j6.o7 hG (c2b _ _ _ _ (by have:=hb.a34;omega)) (.cons (.t a8) (.cons (.t a8) (.cons (.t a8) (.cons (.t a8) .nil)))) a8,?_⟩
   refine⟨_,j6.move (.t a8) a8,?_⟩
   refine⟨_,j6.Z8 (.t a8) a8,?_⟩
   refine⟨_,j6.Z9 (.t a8) a8,?_⟩
   refine⟨_,j6.assign (.t a8) a8,?_⟩
   refine⟨_,j6.assign (.t a8) a8,?_⟩
   show D5 _ _ _ _ _ [] ((11,_)::(10,_)::(45,_)::(44,_)::(32,_)::(43,_)::(42,_)::(41,_)::(40,_)::(39,_)::(38,_)::(37,_)::(36,_)::(35,_)::(34,_)::(33,_)::_) _
   refine .q 8 hG ⟨fun hc47 => ?_,fun hc47 => ?_⟩
   ·refine .q 2 hG ?_
    refine .p (.bS0 (α:=u3) a8 Z0 a6c ?_)
    refine .q 4 hG ?_
    refine⟨_,.r2 a8 (.cell Z0 a8 .z) (.tmp a8),?_⟩
    rw [c1p hc47]
   ·refine .q 2 hG ?_
    obtain⟨T,hw,hT,ht⟩:=a80 (Decidable.not_not.1 hc47)
    rw [a71 ht]
    rw [show U7 a g.Live[(idx g.Live (fun e=>decide (e.Number=b.D3))).toNat] b.A8 b.j9=(T,0) from ht]
    refine .q 4 hG ?_
    refine .sb (by omega) (by simp<;>omega) ?_
    refine .ix (by simp<;>omega) (by omega) ?_
    refine .q 2 hG fun b12 => ?_
    refine .q 3 hG ?_
    rw [a8L (s:=T) (by omega)]
    refine .q 5 hG ?_
    refine .p (.o7 hG (b6B _ _ _) (.cons (.t a8) (.cons (.t a8) (.cons (.t a8) .nil))) ?_)
    refine .q 4 hG fun b13 => ?_
    refine .q 7 hG ?_
    refine .p (.o7 hG (c0t _ _ (by show T.length≤_;have:=hb.a34;omega)) (.cons (.t rfl) (.cons (.t rfl) .nil)) ?_)
    refine .q 8 hG ?_
    refine .A0 hC .z1 (.M1 12 a8 .z1 (.A0 hC .z (.M1 13 a8 .z (.del .z (.del .z ?_)))))
    refine .q 5 hG ?_
    refine .p (.o7 hG (b5I _ _ _) (.cons (.t a8) (.cons (.t a8) (.cons (.t a8) .nil))) ?_)
    refine .q 6 hG ?_
    refine .cond (.t a8) (fun hc78 => ?_) (fun hc78 => ?_)
    ·refine .q 2 hG ?_
     refine .p (.bS0 (α:=u3) a8 Z0 a6c ?_)
     refine .q 4 hG ?_
     refine⟨_,.r2 a8 (.cell Z0 a8 .z) (.tmp a8),?_⟩
     rw [if_pos (c0T (p:=V0 a (T.getLastD default) b.Request) hc78)]
    ·refine .q 3 hG ?_
     obtain⟨hp,hn⟩:=b9p (p:=V0 a (T.getLastD default) b.Request) hc78
     rw [if_neg (by rintro (h|h);exact h hp;exact h hn)]
     refine .q 7 hG ?_
     refine .D9 (α:=Nat) [(3,_),(5,_),(6,_),(10,_),(12,_),(15,_),(81,_),(82,_)] (fun i R=>(83,.v (i:Int))::R) (Function.const _ _) (fun i=>i≤b.j9.length∧a0U (thE a b T) i=0) (fun i=>b.j9.length - i) (0) (.c2 a8 a8 (.c2 a8 a8 (.c2 a8 a8 (.c2 a8 a8 (.nil _))))) ?_ (.c2 a8 a8 (.c2 a8 a8 (.c2 a8 a8 (.c2 a8 a8 (.cons a8 (.nil _)))))) (a8) fun i hF => ?_
     ·exact⟨Nat.zero_le _,a8⟩
     obtain⟨h1,h2⟩:=hF
     refine .q 1 hG ?_
     refine .T7 81 a8 fun hl81 => ?_
     refine .q 5 hG ⟨fun hc84 => ?_,fun hc84 => ?_⟩
     ·refine .q 6 hG ?_
      refine .ix (by omega) (by omega) ?_
      refine .q 2 hG fun b17 => ?_
      refine .q 5 hG ?_
      have hi:i < b.j9.length:=by omega
      refine .A0 hC .z (.M1 17 a8 .z (.del .z ?_))
      refine .q 5 hG ?_
      refine .cond (.t a8) (fun hc90 => ?_) (fun hc90 => ?_)
      ·refine .q 1 hG ?_
       have hth:thE a b T i=0:=b2U hi (b1i hc90)
       refine .q 1 hG ?_
       refine .ad (by omega) (by omega) ?_
       refine .q 2 hG ?_
       refine⟨i+1,.c2 rfl rfl (.c2 rfl rfl (.c2 rfl rfl (.c2 rfl rfl (.cons rfl (.nil _))))),rfl,?_,by omega⟩
       exact⟨by omega,by rw [a00,h2,if_neg (by decide),hth]⟩
      ·refine .q 2 hG ?_
       have h3:b.j9[i].Q2=true:=a52 hc90
       refine .draw (by kernel_rfl) 10 [[],[],[],[],[],[(94,3),(95,4)],[(96,5)],[],[(91,0),(92,1),(93,2),(97,6),(98,7)],[(99,8)]] a8 (by kernel_rfl) a8 ?_
       refine⟨_,j6.G2 y7 (.t a8) a8,?_⟩
       refine⟨_,j6.G2 V6 (.t a8) a8,?_⟩
       refine⟨_,j6.G2 a0C (.t a8) a8,?_⟩
       refine⟨_,j6.move (.t a8) a8,?_⟩
       refine⟨_,j6.move (.t a8) a8,?_⟩
       refine⟨_,j6.idx y6 underlying54 (.t a8) (.t a8) (by omega) (by simp<;>omega) a8,?_⟩
       refine⟨_,j6.G2 y6 (.t a8) a8,?_⟩
       refine⟨_,j6.G2 y6 (.t a8) a8,?_⟩
       refine⟨_,j6.o7 hG (c2j _ _ _ _ _ hpl (a86 (hb.cav _ (List.getElem_mem _)))) (.cons (.t a8) (.cons (.t a8) (.cons (.t a8) (.cons (.t a8) (.cons (.t a8) .nil))))) a8,?_⟩
       refine⟨_,j6.assign (.t a8) a8,?_⟩
       show D5 _ _ _ _ _ [] ((18,_)::(99,_)::(98,_)::(97,_)::(96,_)::(95,_)::(94,_)::(93,_)::(92,_)::(91,_)::_) _
       refine .q 7 hG ⟨fun hc101 => ?_,fun hc101 => ?_⟩
       ·refine .q 2 hG ?_
        refine .p (.bS0 (α:=u3) a8 Z0 a6c (.mv a8 (.n (.O5 Z0 (.t a8) (.t a8) .z (.ag a8 ?_)))))
        refine .q 2 hG ?_
        refine⟨_,.r2 a8 (.cell Z0 a8 .z) (.tmp a8),?_⟩
        have hth:thE a b T i=W2 a b b.j9[i] T[i] (T.getLastD default):=b1o hi (by omega) h3
        have hne:thE a b T i≠0:=(by rw [hth];exact hc101)
        rw [a99 hi h2 hne,if_pos hne,hth];rfl
       ·refine .q 1 hG ?_
        have hth:thE a b T i=0:=(by rw [b1o hi (by omega) h3];exact Decidable.not_not.1 hc101)
        refine .q 1 hG ?_
        refine .ad (by omega) (by omega) ?_
        refine .q 2 hG ?_
        refine⟨i+1,.c2 rfl rfl (.c2 rfl rfl (.c2 rfl rfl (.c2 rfl rfl (.cons rfl (.nil _))))),rfl,?_,by omega⟩
        exact⟨by omega,by rw [a00,h2,if_neg (by decide),hth]⟩
     ·refine .q 3 hG ?_
      obtain rfl:i=b.j9.length:=by omega
      rw [if_neg (by rw [h2];decide)]
      refine .q 2 hG ?_
      refine .k hG (c0M _) ?_
      refine .q 1 hG ?_
      refine .cond (.t a8) (fun hc106 => ?_) (fun hc106 => ?_)
      ·refine .q 2 hG ?_
       refine .p (.bS0 (α:=u3) a8 Z0 a6c (.n (.O5 Z0 (.t a8) (.t a8) .z (.p (.assign (.i a8) ?_)))))
       refine .q 2 hG ?_
       refine⟨_,.r2 a8 (.cell Z0 a8 .z) (.tmp a8),?_⟩
       rw [if_pos hc106]
      ·refine .q 5 hG ?_
       refine .p (.bS2 u3.l0 u3.l1 a8 Z0 a6c (fun c0 c1=>(⟨c0,c1⟩:u3)) (fun _ _=>a8) a8 a8 a8 (.t a8) (.t a8) (.n (.O5 Z0 (.t a8) (.t a8) .z (.p (.assign (.i a8) ?_)))))
       refine .q 2 hG ?_
       refine⟨_,.r2 a8 (.cell Z0 a8 .z) (.tmp a8),?_⟩
       rw [if_neg (by rw [hc106];decide)]
theorem b9q {p:Tag×Bool} {t:Tag} {e:Int} (h:(!p.2||decide (p.1≠t)||decide (e≠0))=true):p≠(t,true)∨e≠0:=by
 rcases Bool.or_eq_true_iff.1 h with h|h
 ·exact Or.inl (b2L h)
 ·exact Or.inr (of_decide_eq_true h)
theorem b6V {p:Tag×Bool} {t:Tag} {e:Int} (h:(!p.2||decide (p.1≠t)||decide (e≠0))=false):p=(t,true)∧e=0:=by
 obtain⟨h1,h2⟩:=Bool.or_eq_false_iff.1 h
 exact⟨b2M h1,by simpa using h2⟩
theorem b6W (a:D0) (g:Ring) (b:Q4) (hpl:∀ x∈a.y2,x.Plain.length≤1000000) (hl:b.j9.length≤1000000):u1 gl prog 14 [.v a,.v g,.v b] (fun r=>r = .t2 (.v (a6x a g b).1) (.v (a6x a g b).2)):=by
 refine u1.jn func14 (by kernel_rfl) 157 rfl fun C hC hG => ?_
 refine .q 3 hG fun b3 => ?_
 refine .q 1 hG fun b4 => ?_
 refine .q 1 hG fun b5 => ?_
 refine .q 1 hG fun b6 => ?_
 refine .q 4 hG ?_
 refine .A0 hC .z3 (.M1 3 a8 .z3 (.A0 hC .z2 (.M1 4 a8 .z2 (.A0 hC .z1 (.M1 5 a8 .z1 (.del (.s .z) (.del (.s .z) (.del (.s .z) ?_))))))))
 refine .q 2 hG ?_
 refine .k hG (b2K _ hl) ?_
 refine .q 8 hG ⟨fun hc24 => ?_,fun hc24 => ?_⟩
 ·refine .q 2 hG ?_
  refine .p (.bS0 (α:=u3) a8 Z0 a6c ?_)
  refine .q 5 hG ?_
  refine⟨_,.r2 a8 (.cell Z0 a8 .z) (.tmp a8),?_⟩
  rw [b8N hc24]
 ·refine .q 2 hG ?_
  have h0:L7 b=0:=Decidable.not_not.1 hc24
  have hb:=a5c h0
  refine .q 4 hG ?_
  refine .p (.o7 hG (b2N _ _) (.cons (.t a8) (.cons (.t a8) .nil)) ?_)
  refine .q 4 hG fun b9 => ?_
  refine .q 9 hG ?_
  refine .cond (.t a8) (fun hc35 => ?_) (fun hc35 => ?_)
  ·refine .q 2 hG ?_
   refine .p (.bS0 (α:=u3) a8 Z0 a6c ?_)
   refine .q 4 hG ?_
   refine⟨_,.r2 a8 (.cell Z0 a8 .z1) (.tmp a8),?_⟩
   have hn:a0T g b.D3=none:=(by cases h:a0T g b.D3;rfl;(rw [h] at hc35;cases hc35))
   rw [c1o h0 hn]
  ·refine .q 2 hG ?_
   obtain⟨root,he⟩:=Option.isSome_iff_exists.1 (a52 hc35)
   rw [a7Z h0 he]
   rw [he]
   refine .q 7 hG ?_
   refine .p (.o7 hG (c0s _ _ _ _ (by have:=hb.a34;omega)) (.cons (.t a8) (.cons (.t a8) (.cons (.t a8) (.cons (.t a8) .nil)))) ?_)
   refine .q 13 hG ⟨fun hc48 => ?_,fun hc48 => ?_⟩
   ·refine .q 2 hG ?_
    refine .p (.bS0 (α:=u3) a8 Z0 a6c ?_)
    refine .q 4 hG ?_
    refine⟨_,.r2 a8 (.cell Z0 a8 .z1) (.tmp a8),?_⟩
    rw [c1p (root:=root) hc48]
   ·refine .q 2 hG ?_
    obtain⟨T,hw,hT,ht⟩:=a80 (root:=root) (Decidable.not_not.1 hc48)
    rw [a71 (root:=root) ht]
    rw [show U7 a ((some root).getD default) b.A8 b.j9=(T,0) from ht]
    refine .q 4 hG ?_
    refine .sb (by omega) (by simp<;>omega) ?_
    refine .ix (by simp<;>omega) (by omega) ?_
    refine .q 2 hG fun b13 => ?_
    refine .q 3 hG ?_
    rw [a8L (s:=T) (by omega)]
    refine .q 5 hG ?_
    refine .p (.o7 hG (b4q _ _ _) (.cons (.t a8) (.cons (.t a8) (.cons (.t a8) .nil))) ?_)
    refine .q 4 hG fun b14 => ?_
    refine .q 7 hG ?_
    refine .p (.o7 hG (b8E _ _ (by show T.length≤_;have:=hb.a34;omega)) (.cons (.t rfl) (.cons (.t rfl) .nil)) ?_)
    refine .q 15 hG ?_
    refine .go 72 a8 (.t a8) (fun hg76 => .b7P underlying26 sz5 underlying5 a8k (.q a8 hg76) (.q a8 hg76) a8) ?_
    refine .q 6 hG ?_
    refine .cond (.t a8) (fun hc81 => ?_) (fun hc81 => ?_)
    ·refine .q 2 hG ?_
     refine .p (.bS0 (α:=u3) a8 Z0 a6c ?_)
     refine .q 4 hG ?_
     refine⟨_,.r2 a8 (.cell Z0 a8 .z3) (.tmp a8),?_⟩
     rw [if_pos (b9q (p:=V0 a (T.getLastD default) b.Request) hc81)]
    ·refine .q 3 hG ?_
     obtain⟨hp,hn⟩:=b6V (p:=V0 a (T.getLastD default) b.Request) hc81
     rw [if_neg (by rintro (h|h);exact h hp;exact h hn)]
     refine .A0 hC .z1 (.M1 13 a8 .z1 (.A0 hC .z (.M1 14 a8 .z (.A0 hC .z2 (.M1 9 a8 .z2 (.del .z (.del .z (.del .z ?_))))))))
     refine .q 4 hG ?_
     refine .D9 (α:=Nat) [(3,_),(5,_),(6,_),(11,_),(13,_),(15,_)] (fun i R=>(16,.v (i:Int))::R) (Function.const _ _) (fun i=>i≤b.j9.length∧a0U (thE a b T) i=0) (fun i=>b.j9.length - i) (0) (.c2 a8 a8 (.c2 a8 a8 (.c2 a8 a8 (.nil _)))) ?_ (.c2 a8 a8 (.c2 a8 a8 (.c2 a8 a8 (.cons a8 (.nil _))))) (a8) fun i hF => ?_
     ·exact⟨Nat.zero_le _,a8⟩
     obtain⟨h1,h2⟩:=hF
     refine .q 10 hG ⟨fun hc87 => ?_,fun hc87 => ?_⟩
     ·refine .q 4 hG ?_
      have hi:i < b.j9.length:=by omega
      refine .q 4 hG ?_
      refine .ix (by omega) (by omega) ?_
      refine .q 3 hG ?_
      refine .cond (.t a8) (fun hc95 => ?_) (fun hc95 => ?_)
      ·refine .q 1 hG ?_
       have h3:b.j9[i].Q2=true:=hc95
       refine .draw (by kernel_rfl) 14 [[],[],[],[(98,2)],[],[(99,3),(100,4)],[(101,5)],[],[],[(103,7),(104,8)],[(105,9)],[],[(96,0),(97,1),(102,6),(106,10),(107,11)],[(108,12)]] a8 (by kernel_rfl) a8 ?_
       refine⟨_,j6.G2 y7 (.t a8) a8,?_⟩
       refine⟨_,j6.G2 V6 (.t a8) a8,?_⟩
       refine⟨_,j6.A7 p9.l3 (fun x=>x.j9) V4 a8 (fun _=>a8) (.t a8) a8,?_⟩
       refine⟨_,j6.G2 a8A (.t a8) a8,?_⟩
       refine⟨_,j6.move (.t a8) a8,?_⟩
       refine⟨_,j6.idx a0C underlying24 (.t a8) (.t a8) (by omega) (by omega) a8,?_⟩
       refine⟨_,j6.G2 a0C (.t a8) a8,?_⟩
       refine⟨_,j6.move (.t a8) a8,?_⟩
       refine⟨_,j6.move (.t a8) a8,?_⟩
       refine⟨_,j6.idx y6 underlying54 (.t a8) (.t a8) (by omega) (by simp<;>omega) a8,?_⟩
       refine⟨_,j6.G2 y6 (.t a8) a8,?_⟩
       refine⟨_,j6.G2 y6 (.t a8) a8,?_⟩
       refine⟨_,j6.o7 hG (c0L _ _ _ _ _ hpl (a86 (hb.cav _ (List.getElem_mem _)))) (.cons (.t a8) (.cons (.t a8) (.cons (.t a8) (.cons (.t a8) (.cons (.t a8) .nil))))) a8,?_⟩
       refine⟨_,j6.assign (.t a8) a8,?_⟩
       show D5 _ _ _ _ _ [] ((17,_)::(108,_)::(107,_)::(106,_)::(105,_)::(104,_)::(103,_)::(102,_)::(101,_)::(100,_)::(99,_)::(98,_)::(97,_)::(96,_)::_) _
       refine .q 7 hG ⟨fun hc110 => ?_,fun hc110 => ?_⟩
       ·refine .q 2 hG ?_
        refine .p (.bS0 (α:=u3) a8 Z0 a6c (.mv a8 (.n (.O5 Z0 (.t a8) (.t a8) .z (.ag a8 ?_)))))
        refine .q 2 hG ?_
        refine⟨_,.r2 a8 (.cell Z0 a8 .z) (.tmp a8),?_⟩
        have hth:thE a b T i=W2 a b b.j9[i] T[i] (T.getLastD default):=b1o hi (by omega) h3
        have hne:thE a b T i≠0:=(by rw [hth];exact hc110)
        rw [a99 hi h2 hne,if_pos hne,hth];rfl
       ·refine .q 1 hG ?_
        have hth:thE a b T i=0:=(by rw [b1o hi (by omega) h3];exact Decidable.not_not.1 hc110)
        refine .q 2 hG ?_
        refine .ad (by omega) (by omega) ?_
        refine .q 2 hG ?_
        refine⟨i+1,.c2 rfl rfl (.c2 rfl rfl (.c2 rfl rfl (.cons rfl (.nil _)))),rfl,?_,by omega⟩
        exact⟨by omega,by rw [a00,h2,if_neg (by decide),hth]⟩
      ·refine .q 1 hG ?_
       have hth:thE a b T i=0:=b2U hi hc95
       refine .q 2 hG ?_
       refine .ad (by omega) (by omega) ?_
       refine .q 2 hG ?_
       refine⟨i+1,.c2 rfl rfl (.c2 rfl rfl (.c2 rfl rfl (.cons rfl (.nil _)))),rfl,?_,by omega⟩
       exact⟨by omega,by rw [a00,h2,if_neg (by decide),hth]⟩
     ·refine .q 3 hG ?_
      obtain rfl:i=b.j9.length:=by omega
      rw [if_neg (by rw [h2];decide)]
      refine .q 4 hG ?_
      refine .D9 (α:=Nat) [(5,_),(6,_),(13,_),(15,_)] (fun j R=>(18,.v (j:Int))::R) (Function.const _ _) (fun j=>j≤b.j4.length∧(b.j4.take j).any (a2e b)=false) (fun j=>b.j4.length - j) (0) (.c2 a8 a8 (.c2 a8 a8 (.nil _))) ?_ (.c2 a8 a8 (.c2 a8 a8 (.cons a8 (.nil _)))) (a8) fun j hF => ?_
      ·exact⟨Nat.zero_le _,a8⟩
      obtain⟨h5,h6⟩:=hF
      refine .q 10 hG ⟨fun hc117 => ?_,fun hc117 => ?_⟩
      ·refine .q 4 hG ?_
       have hj:j < b.j4.length:=by omega
       have hd8:=hb.c18
       refine .q 9 hG ?_
       refine .D9 (α:=Nat) [(5,_),(6,_),(13,_),(15,_),(18,_)] (fun k R=>(19,.v ((b.j9.take k).any (fun c:Y0=>c.Q2&&decide (c.j8=b.j4[j].j8))))::(20,.v (k:Int))::R) (Function.const _ _) (fun k=>k≤b.j9.length) (fun k=>b.j9.length - k) (0) (.c2 a8 a8 (.c2 a8 a8 (.cons a8 (.nil _)))) ?_ (.c2 a8 a8 (.c2 a8 a8 (.c2 a8 a8 (.cons a8 (.nil _))))) (a8) fun k hF => ?_
       ·simp
       refine .q 10 hG ⟨fun hc124 => ?_,fun hc124 => ?_⟩
       ·refine .q 3 hG ?_
        have hk:k < b.j9.length:=by omega
        refine .b8w (by kernel_rfl) 25 [[],[(127,0)],[],[(129,2)],[],[(130,3),(131,4)],[(132,5)],[(133,6)],[(134,7)],[],[(136,9)],[],[(137,10),(138,11)],[(139,12)],[(140,13)],[],[(142,15)],[],[(143,16),(144,17)],[(145,18)],[(146,19)],[(141,14),(147,20)],[(135,8),(148,21)],[(128,1),(149,22)],[(150,23)]] a8 (by kernel_rfl) a8 ?_
        refine⟨_,j6.move (.t a8) a8,?_⟩
        refine⟨_,j6.move (.t a8) a8,?_⟩
        refine⟨_,.inl ⟨_,_,a8,a8,fun hg129=>j6.A7 p9.l3 (fun x=>x.j9) V4 a8 (fun _=>a8) (.t a8) a8⟩,?_⟩
        refine⟨_,.inl ⟨_,_,a8,a8,fun hg130=>j6.G2 a8A (.ou a8 (beq_iff_eq.2 hg130)) a8⟩,?_⟩
        refine⟨_,.inl ⟨_,_,a8,a8,fun hg131=>j6.move (.t a8) a8⟩,?_⟩
        refine⟨_,.inl ⟨_,_,a8,a8,fun hg132=>j6.idx a0C underlying24 (.ou a8 (beq_iff_eq.2 hg132)) (.ou a8 (beq_iff_eq.2 hg132)) (by first|omega|(simp;omega)|(have:=hg132;simp at this;omega)) (by first|omega|(simp;omega)|(have:=hg132;simp at this;omega)) a8⟩,?_⟩
        refine⟨_,.inl ⟨_,_,a8,a8,fun hg133=>j6.A7 m9.l0 (fun x=>x.Q2) b7A a8 (fun _=>a8) (.ou a8 (beq_iff_eq.2 hg133)) a8⟩,?_⟩
        refine⟨_,.inl ⟨_,_,a8,a8,fun hg134=>j6.G2 ty4 (.ou a8 (beq_iff_eq.2 hg134)) a8⟩,?_⟩
        refine⟨_,.inl ⟨_,_,a8,a8,fun hg135=>j6.move (.ou a8 (beq_iff_eq.2 hg135)) a8⟩,?_⟩
        refine⟨_,.inr ⟨_,_,_,a8,a8,fun hc136 hg136=>j6.A7 p9.l3 (fun x=>x.j9) V4 a8 (fun _=>a8) (.t a8) a8⟩,?_⟩
        refine⟨_,.inr ⟨_,_,_,a8,a8,fun hc137 hg137=>j6.G2 a8A (.ou a8 (Bool.and_eq_true_iff.2 ⟨hc137,beq_iff_eq.2 hg137⟩)) a8⟩,?_⟩
        refine⟨_,.inr ⟨_,_,_,a8,a8,fun hc138 hg138=>j6.move (.t a8) a8⟩,?_⟩
        refine⟨_,.inr ⟨_,_,_,a8,a8,fun hc139 hg139=>j6.idx a0C underlying24 (.ou a8 (Bool.and_eq_true_iff.2 ⟨hc139,beq_iff_eq.2 hg139⟩)) (.ou a8 (Bool.and_eq_true_iff.2 ⟨hc139,beq_iff_eq.2 hg139⟩)) (by first|omega|(simp;omega)|(have:=hg139;simp at this;omega)) (by first|omega|(simp;omega)|(have:=hg139;simp at this;omega)) a8⟩,?_⟩
        refine⟨_,.inr ⟨_,_,_,a8,a8,fun hc140 hg140=>j6.A7 m9.l3 (fun x=>x.j8) a8n a8 (fun _=>a8) (.ou a8 (Bool.and_eq_true_iff.2 ⟨hc140,beq_iff_eq.2 hg140⟩)) a8⟩,?_⟩
        refine⟨_,.inr ⟨_,_,_,a8,a8,fun hc141 hg141=>j6.G2 a2H (.ou a8 (Bool.and_eq_true_iff.2 ⟨hc141,beq_iff_eq.2 hg141⟩)) a8⟩,?_⟩
        refine⟨_,.inr ⟨_,_,_,a8,a8,fun hc142 hg142=>j6.A7 p9.l5 (fun x=>x.j4) Z6 a8 (fun _=>a8) (.t a8) a8⟩,?_⟩
        refine⟨_,.inr ⟨_,_,_,a8,a8,fun hc143 hg143=>j6.G2 c0f (.ou a8 (Bool.and_eq_true_iff.2 ⟨hc143,beq_iff_eq.2 hg143⟩)) a8⟩,?_⟩
        refine⟨_,.inr ⟨_,_,_,a8,a8,fun hc144 hg144=>j6.move (.t a8) a8⟩,?_⟩
        refine⟨_,.inr ⟨_,_,_,a8,a8,fun hc145 hg145=>j6.idx a1f underlying27 (.ou a8 (Bool.and_eq_true_iff.2 ⟨hc145,beq_iff_eq.2 hg145⟩)) (.ou a8 (Bool.and_eq_true_iff.2 ⟨hc145,beq_iff_eq.2 hg145⟩)) (by first|omega|(simp;omega)|(have:=hg145;simp at this;omega)) (by first|omega|(simp;omega)|(have:=hg145;simp at this;omega)) a8⟩,?_⟩
        refine⟨_,.inr ⟨_,_,_,a8,a8,fun hc146 hg146=>j6.A7 p8.l0 (fun x=>x.j8) a6N a8 (fun _=>a8) (.ou a8 (Bool.and_eq_true_iff.2 ⟨hc146,beq_iff_eq.2 hg146⟩)) a8⟩,?_⟩
        refine⟨_,.inr ⟨_,_,_,a8,a8,fun hc147 hg147=>j6.G2 a2H (.ou a8 (Bool.and_eq_true_iff.2 ⟨hc147,beq_iff_eq.2 hg147⟩)) a8⟩,?_⟩
        refine⟨_,.inr ⟨_,_,_,a8,a8,fun hc148 hg148=>j6.o7 hG (a5L _ _) (.cons (.ou a8 (Bool.and_eq_true_iff.2 ⟨hc148,beq_iff_eq.2 hg148⟩)) (.cons (.ou a8 (Bool.and_eq_true_iff.2 ⟨hc148,beq_iff_eq.2 hg148⟩)) .nil)) a8⟩,?_⟩
        refine⟨_,.inl ⟨_,_,a8,a8,fun hg149=>j6.S3 (.ou a8 (beq_iff_eq.2 hg149)) (fun hp=>(.ou a8 (Bool.and_eq_true_iff.2 ⟨(beq_iff_eq.2 hg149),beq_iff_eq.2 hp⟩))) a8⟩,?_⟩
        refine⟨_,j6.a4u (.t a8) (fun hp=>(.ou a8 (beq_iff_eq.2 hp))) a8,?_⟩
        refine⟨_,j6.assign (.t a8) a8,?_⟩
        show D5 _ _ _ _ _ [] ((19,_)::(150,_)::(149,_)::(148,_)::(147,_)::(146,_)::(145,_)::(144,_)::(143,_)::(142,_)::(141,_)::(140,_)::(139,_)::(138,_)::(137,_)::(136,_)::(135,_)::(134,_)::(133,_)::(132,_)::(131,_)::(130,_)::(129,_)::(128,_)::(127,_)::_) _
        refine .q 1 hG ?_
        have hf:=(any_succ (fun c:Y0=>c.Q2&&decide (c.j8=b.j4[j].j8)) b.j9 k hk).symm
        refine .q 2 hG ?_
        refine .ad (by omega) (by omega) ?_
        refine .q 2 hG ?_
        refine⟨k+1,.cons (congrArg (fun q=>some (AV.v q)) hf) (.c2 rfl rfl (.c2 rfl rfl (.c2 rfl rfl (.nil _)))),rfl,?_,by omega⟩
        omega
       ·refine .q 2 hG ?_
        rw [List.take_of_length_le (show b.j9.length≤k by omega)]
        refine .q 4 hG ?_
        refine .cond (.t a8) (fun hc152 => ?_) (fun hc152 => ?_)
        ·refine .q 2 hG ?_
         refine .p (.bS0 (α:=u3) a8 Z0 a6c (.n (.O5 Z0 (.t a8) (.t a8) .z (.p (.assign (.i a8) ?_)))))
         refine .q 2 hG ?_
         refine⟨_,.r2 a8 (.cell Z0 a8 .z) (.tmp a8),?_⟩
         have hex:a2e b b.j4[j]=true:=hc152
         have e:a4Q b=true:=List.any_eq_true.2 ⟨_,List.getElem_mem hj,hex⟩
         rw [if_pos e]
        ·refine .q 1 hG ?_
         have hex:a2e b b.j4[j]=false:=(by unfold a2e;exact hc152)
         refine .q 2 hG ?_
         refine .ad (by omega) (by omega) ?_
         refine .q 2 hG ?_
         refine⟨j+1,.c2 rfl rfl (.c2 rfl rfl (.cons rfl (.nil _))),rfl,?_,by omega⟩
         exact⟨by omega,by rw [any_succ (a2e b) _ j hj,h6,hex];rfl⟩
      ·refine .q 5 hG ?_
       refine .p (.bS2 u3.l0 u3.l1 a8 Z0 a6c (fun c0 c1=>(⟨c0,c1⟩:u3)) (fun _ _=>a8) a8 a8 a8 (.t a8) (.t a8) (.n (.O5 Z0 (.t a8) (.t a8) .z (.p (.assign (.i a8) ?_)))))
       refine .q 2 hG ?_
       refine⟨_,.r2 a8 (.cell Z0 a8 .z) (.tmp a8),?_⟩
       rw [List.take_of_length_le (by omega)] at h6
       have e:a4Q b=false:=h6
       rw [if_neg (by rw [e];decide)]
structure c2n (A:D0) (P:Pass) (G:List Dis) (r:Rq) (b:D0) (t:Tag) (B:D0):Prop where
 chk:L7 (b8A P G r)=0
 mac:G8 A P.Tag (a27 r)=(b,t,0)
 to:a6B P.Tag r b G
 alg:bA P.Tag r b G G.length=B
 dis:bY P.Tag r b G G.length=G.map (bnd B P.Tag r)
theorem a0n.c3v {A : D0} {root : Epo} {P : Pass} {G : List Dis} {T : List Tag} {n k : Nat} (h : a0n A root P G T n k) (hn : n < 1000) (hk : k ≤ 6) (hh : a3I A) {r : Rq} (hr : S2 r = true) :
    ∃ b t B,c2n A P G r b t B∧b1n B root P G T r t (n+7) k∧P7 A B:=by
  have hg:=h.ngr
  obtain⟨b,t,s⟩:=h.ok.step (by omega) P.Tag (m:=a27 r) (by have:=b9h hr;omega)
  obtain⟨c,q⟩:=s.ok.binds P.Tag hr G (by omega)
  have hc:L7 (b8A P G r)=0:=b1m h hk hr default (fun d=>⟨d.j8,d.l8,default⟩) fun g=>⟨rfl,rfl⟩
  refine⟨b,t,c,⟨hc,s.eq,⟨fun i hi => ?_⟩,?_,?_⟩,⟨h.mac (s.le.trans q.le) (q.ok.le (by omega)) (q.boxes.trans s.boxes),hr,q.le.look s.look,q.looks,fun x hx => ?_⟩,s.le.trans q.le⟩
  · obtain⟨c',q'⟩:=s.ok.binds P.Tag hr (G.take i) (by rw [List.length_take];omega)
    rw [q'.eq]
  · unfold bA;rw [List.take_length,q.eq]
  · unfold bY;rw [List.take_length,q.eq]
  · rcases q.a0s x hx with h'|h'
    · rcases s.a0s x h' with h'|h'
      · exact Or.inl (hh x h')
      · exact Or.inr (Or.inl h')
    · exact Or.inr (Or.inr h')
theorem c2n.c {A:D0} {P:Pass} {G:List Dis} {r:Rq} {b:D0} {t:Tag} {B:D0} (h:c2n A P G r b t B) (hl:P.j9.length≤1000000) (hl2:G.length≤1000000) (hr:S2 r=true):u1 gl prog 29 [.v A,.v P,.v G,.v r] (fun x=>x = .t3 (.v B) (.v (prB B P G r t)) (.v (0:Int))) :=
 (b6U A P G r hl hl2 h.chk h.mac h.to hr).mono fun x hx=>by rw [hx,h.alg,h.dis];rfl
structure c0U (s:Scn) (b:Q4):Prop where
 ex:∃ root T t n k,b1n s.A root s.Pass s.L6 T s.Request t n k∧n≤61∧k≤5∧root.Number=2∧s.Ring=a2n root 3∧b=prB s.A s.Pass s.L6 s.Request t
 c4s:s.Q5=b4H
abbrev scn (w:Value):AV := .ln w (m0.id (α:=Scn))
theorem b9r (w:Value) (s:Scn) (root:Epo) (k:Nat) (h:a7F s.A root s.Pass s.L6 k) (hk:k≤5) (h2:root.Number=2) (hg:s.Ring=a2n root 3) (hr:S2 s.Request=true) (hh:s.Q5=b4H):F5 gl prog 31 [scn w] [.ob w s] (fun r Hs=>∃ s':Scn,∃ b,c0U s' b∧r = .v b∧Hs = [.ob w s']):=by
 obtain⟨T,n,hs,hn⟩:=h.ex
 obtain⟨b,t,B,hp,hB,hle⟩:=hs.c3v (by omega) (by omega) h.b5O hr
 have h5:=hs.a34
 have h6:=hs.ngr
 refine F5.Q6 func31 rfl (by kernel_rfl) 32 rfl rfl _ rfl _ rfl fun C hC hG => ?_
 refine .q 3 hG fun b2 => ?_
 refine .q 2 hG ?_
 refine .c2X [j1,j1] [(21,(⟨m5,inferInstance,default⟩:AT)),(22,(⟨p9,inferInstance,default⟩:AT))] (by kernel_rfl) 26 [[],[(7,0)],[(8,1)],[(9,2)],[],[(11,4)],[(12,5)],[(13,6)],[],[(15,8)],[(16,9)],[(17,10)],[],[(19,12)],[(20,13)],[(21,14)],[(10,3),(14,7),(18,11),(22,15)],[(23,16)],[(6,17)],[(6,17)],[(6,17)],[],[],[(3,21),(24,18)],[(4,22),(25,19)],[(26,20)]] [23,24] rfl (by kernel_rfl) rfl (by kernel_rfl) (by decide) (by simp) (List.forall_mem_cons.2 ⟨fun o ho=>by obtain rfl:=Option.some.inj (show some _=some o from ho);exact⟨rfl,fun _ _=>A6.alloc y7 fun b=>⟨b,rfl,rfl⟩⟩,(List.forall_mem_cons.2 ⟨fun o ho=>by obtain rfl:=Option.some.inj (show some _=some o from ho);exact⟨rfl,fun _ _=>A6.alloc V6 fun b=>⟨b,rfl,rfl⟩⟩,(fun p hp=>by cases hp)⟩)⟩) ?_
 refine⟨_,fun H=>j6.move (.t a8) a8,?_⟩
 refine⟨_,fun H=>j6.F3 (.t a8) a8,?_⟩
 refine⟨_,fun H=>j6.B1 p5.l0 P9 a8 (.t a8) a8,?_⟩
 refine⟨_,fun H=>j6.ldF (fun x=>x.A) y7 (.t a8) (u7.app .z1) (fun _=>a8) a8,?_⟩
 refine⟨_,fun H=>j6.move (.t a8) a8,?_⟩
 refine⟨_,fun H=>j6.F3 (.t a8) a8,?_⟩
 refine⟨_,fun H=>j6.B1 p5.l3 a4q a8 (.t a8) a8,?_⟩
 refine⟨_,fun H=>j6.ldF (fun x=>x.Pass) U6 (.t a8) (u7.app .z1) (fun _=>a8) a8,?_⟩
 refine⟨_,fun H=>j6.move (.t a8) a8,?_⟩
 refine⟨_,fun H=>j6.F3 (.t a8) a8,?_⟩
 refine⟨_,fun H=>j6.B1 p5.l4 b3v a8 (.t a8) a8,?_⟩
 refine⟨_,fun H=>j6.ldF (fun x=>x.L6) c4i (.t a8) (u7.app .z1) (fun _=>a8) a8,?_⟩
 refine⟨_,fun H=>j6.move (.t a8) a8,?_⟩
 refine⟨_,fun H=>j6.F3 (.t a8) a8,?_⟩
 refine⟨_,fun H=>j6.B1 p5.l5 b7w a8 (.t a8) a8,?_⟩
 refine⟨_,fun H=>j6.ldF (fun x=>x.Request) a6W (.t a8) (u7.app .z1) (fun _=>a8) a8,?_⟩
 refine⟨_,fun H=>j6.o7 hG (hp.c (by omega) (by omega) hr) (.cons (.t a8) (.cons (.t a8) (.cons (.t a8) (.cons (.t a8) .nil)))) a8,?_⟩
 refine⟨_,fun H=>j6.move (.t a8) a8,?_⟩
 refine⟨_,fun H=>j6.O7 (.t a8) a8,?_⟩
 refine⟨_,fun H=>j6.O8 (.t a8) a8,?_⟩
 refine⟨_,fun H=>j6.O9 (.t a8) a8,?_⟩
 refine .inl (.inl (.inl (.inl ?_)))
 refine⟨_,fun H=>j6.assign (.t a8) a8,?_⟩
 refine⟨a8,fun ws1 => ?_⟩
 refine⟨⟨([_,_],j2 [c8,c8]),a8⟩,?_⟩
 refine A6.O5 y7 (.t rfl) (.t rfl) .z ?_
 refine⟨⟨([_,_],j2 [c8,c8]),a8⟩,?_⟩
 refine A6.O5 V6 (.t rfl) (.t rfl) .z1 ?_
 refine⟨⟨([_,_],j2 [c8,c8]),a8⟩,?_⟩
 show D5 _ _ _ _ _ [] ((5,_)::(4,_)::(3,_)::(26,_)::(25,_)::(24,_)::(6,_)::(23,_)::(22,_)::(21,_)::(20,_)::(19,_)::(18,_)::(17,_)::(16,_)::(15,_)::(14,_)::(13,_)::(12,_)::(11,_)::(10,_)::(9,_)::(8,_)::(7,_)::_) _
 refine .q 3 hG ?_
 refine .mv a8 (.p (.Q1 y7 (.t a8) .z (.p (.F3 (.t a8) (.p (.B1 p5.l0 P9 a8 (.t a8) (.n (.stF (fun y x => { x with A:=y }) y7 (.t a8) (.t a8) .z3 (fun _ _=>a8) ?_))))))))
 refine .q 3 hG ?_
 refine .p (.Q1 V6 (.t a8) .z1 (.n (.O5 V6 (.t a8) (.t a8) .z2 ?_)))
 refine .q 2 hG ?_
 refine⟨_,.r1 a8 (.cell V6 a8 .z2),?_⟩
 refine⟨_,.cons .z3 (.nil),?_⟩
 exact⟨⟨B,s.Ring,s.C,s.Pass,s.L6,s.Request,s.Q5,s.Minute⟩,_,⟨⟨root,T,t,n+7,k,hB,by omega,hk,h2,hg,rfl⟩,hh⟩,rfl,rfl⟩
theorem c2o (deck:List Int) (wide:Bool):F5 gl prog 10 [.v deck,.v wide] [] (fun r Hs=>∃ s:Scn,∃ b,∃ p d,(c0U s b∧G9 d)∧r = .t3 (.v s) (.v b) (dk p)∧Hs = [.ob p d]):=by
 refine F5.Q6 func10 rfl (by kernel_rfl) 19 rfl rfl _ rfl _ rfl fun C hC hG => ?_
 refine .q 3 hG fun b4 => ?_
 refine .q 1 hG fun b5 => ?_
 refine .p (.assign .raw ?_)
 refine .q 4 hG ?_
 refine .h (.a1c hG (a9J _) (.cons (.t a8) .nil) fun r11 Hs11 hr11 => ?_)
 obtain⟨b11,rfl,rfl⟩:=hr11
 show D5 _ _ _ _ _ _ _ ((true,_)::_)
 refine .q 6 hG ?_
 refine .h (.C8 hG (b6T _ _ _ (by first|assumption|exact y1 _)) .z (.cons (.t a8) (.cons (.t a8) .nil)) (by rintro _ _ ⟨_,_,_,_,_,_,_,rfl⟩;exact⟨_,rfl⟩) fun r14 B14 hr14 => ?_)
 obtain⟨s14,root14,k14,⟨hs1,hs2,hs3,hs4,hs5,hs6⟩,d14,hd14,rfl,hB⟩:=hr14
 cases hB
 refine .q 1 hG fun b8 => ?_
 refine .q 4 hG ?_
 refine .h (.C8 hG (b9r _ _ _ _ hs1 hs2 hs3 hs4 hs5 hs6) .z (.cons (.t a8) .nil) (by rintro _ _ ⟨_,_,_,_,rfl⟩;exact⟨_,rfl⟩) fun r15 B15 hr15 => ?_)
 obtain⟨s15,b15',hm15,rfl,hB⟩:=hr15
 cases hB
 refine .q 1 hG fun b9 => ?_
 refine .q 3 hG ?_
 refine .D7 [j1,j1,j1,j0,j0] (by kernel_rfl) 6 [[],[],[],[(16,0)],[(17,1)],[(18,2)]] [3,4] a8 (by kernel_rfl) a8 (by kernel_rfl) (by decide) ?_
 refine⟨_,fun H=>j6.Q1 b8f (.t a8) (u7.app .z1) a8,?_⟩
 refine⟨_,fun H=>j6.Q1 V6 (.t a8) (u7.app .z) a8,?_⟩
 refine⟨_,fun H=>j6.move (.t a8) a8,?_⟩
 refine .inl (.inl ?_)
 refine⟨_,fun H=>j6.assign (.t a8) a8,?_⟩
 refine⟨⟨([],j2 [c8,c8,c8,_,_]),a8⟩,?_⟩
 refine A6.O5 b8f (.t rfl) (.t rfl) .z4 ?_
 refine⟨⟨([],j2 [c8,c8,c8,_,_]),a8⟩,?_⟩
 refine A6.O5 V6 (.t rfl) (.t rfl) .z3 ?_
 refine⟨⟨([],j2 [c8,c8,c8,_,_]),a8⟩,?_⟩
 show D5 _ _ _ _ _ [] ((6,_)::(18,_)::(17,_)::(16,_)::_) _
 refine .q 2 hG ?_
 refine⟨_,.r3 a8 (.cell b8f a8 .z4) (.cell V6 a8 .z3) (.tmp a8),?_⟩
 refine⟨_,.cons .z2 (.nil),?_⟩
 exact⟨s15,b15',_,d14,⟨hm15,hd14⟩,a8,a8⟩
theorem b1p {α:Type} {a b:List α} {k:Nat} (ha:k < a.length) (hb:k < b.length) (h:a.take k=b.take k) (e:a[k]=b[k]):a.take (k+1)=b.take (k+1):=by
 rw [List.take_succ_eq_append_getElem ha,List.take_succ_eq_append_getElem hb,h,e]
theorem c0V {α:Type} {a b:List α} {k:Nat} (ha:k < a.length) (hb:k < b.length) (e:a[k]≠b[k]):¬a=b:=fun h=>e (by subst h;rfl)
theorem b9s {α:Type} {a b:List α} {k:Nat} (h:a.take k=b.take k) (hk:a.length≤k) (hl:a.length=b.length):a=b:=by
 rw [List.take_of_length_le hk,List.take_of_length_le (by omega)] at h;exact h
theorem b4I (a b:List Tag):u1 gl prog 51 [.v a,.v b] (fun r=>r = .v (decide (a=b))):=by
 refine u1.jn func51 (by kernel_rfl) 26 rfl fun C hC hG => ?_
 refine .q 6 hG ?_
 refine .T7 0 a8 fun hl0=>(.T7 1 a8 fun hl1 => ?_)
 refine .q 8 hG ⟨fun hc10 => ?_,fun hc10 => ?_⟩
 ·refine .q 5 hG ?_
  refine .e1 a8 a8 ?_
  rw [decide_eq_false (fun e=>hc10 (by rw [e]))]
 ·refine .q 3 hG ?_
  have hll:a.length=b.length:=by omega
  refine .q 4 hG ?_
  refine .D9 (α:=Nat) [(0,_),(1,_)] (fun k R=>(5,.v (k:Int))::R) (fun k => []) (fun k=>k≤a.length∧a.take k=b.take k) (fun k=>a.length - k) (0) (.c2 a8 a8 (.nil _)) ?_ (.c2 a8 a8 (.cons a8 (.nil _))) (a8) fun k hF => ?_
  ·simp
  obtain⟨h1,h2⟩:=hF
  refine .q 9 hG ⟨fun hc14 => ?_,fun hc14 => ?_⟩
  ·refine .q 4 hG ?_
   refine .draw (by kernel_rfl) 9 [[],[],[(17,0),(18,1)],[(19,2)],[],[],[(21,4),(22,5)],[(23,6)],[(20,3),(24,7)]] a8 (by kernel_rfl) a8 ?_
   refine⟨_,j6.move (.t a8) a8,?_⟩
   refine⟨_,j6.move (.t a8) a8,?_⟩
   refine⟨_,j6.idx y6 underlying54 (.t a8) (.t a8) (by omega) (by omega) a8,?_⟩
   refine⟨_,j6.G2 y6 (.t a8) a8,?_⟩
   refine⟨_,j6.move (.t a8) a8,?_⟩
   refine⟨_,j6.move (.t a8) a8,?_⟩
   refine⟨_,j6.idx y6 underlying54 (.t a8) (.t a8) (by omega) (by omega) a8,?_⟩
   refine⟨_,j6.G2 y6 (.t a8) a8,?_⟩
   refine⟨_,j6.b7P underlying26 sz5 underlying5 a8k (.t a8) (.t a8) a8,?_⟩
   show D5 _ _ _ _ _ [] ((25,_)::(24,_)::(23,_)::(22,_)::(21,_)::(20,_)::(19,_)::(18,_)::(17,_)::_) _
   refine .q 2 hG ⟨fun hc25 => ?_,fun hc25 => ?_⟩
   ·refine .q 5 hG ?_
    refine .e1 a8 a8 ?_
    rw [decide_eq_false (c0V (k:=k) (by omega) (by omega) hc25)]
   ·refine .q 3 hG ?_
    refine .ad (by omega) (by omega) ?_
    refine .q 2 hG ?_
    refine⟨k+1,.c2 rfl rfl (.cons rfl (.nil _)),rfl,?_,by omega⟩
    exact⟨by omega,b1p (by omega) (by omega) h2 (Decidable.not_not.1 hc25)⟩
  ·refine .q 6 hG ?_
   refine .e1 a8 a8 ?_
   rw [decide_eq_true (b9s h2 (by omega) hll)]
theorem c2p (x y:u3):(decide (x.a8v=y.a8v)&&decide (x.a4y=y.a4y))=decide (x=y):=by
 cases x;cases y
 rw [Bool.eq_iff_iff]
 simp only [Bool.and_eq_true,decide_eq_true_eq,u3.mk.injEq]
 exact And.comm
theorem b6X (x y:u3):u1 gl prog 15 [.v x,.v y] (fun r=>r = .v (decide (x=y))):=by
 refine u1.jn func15 (by kernel_rfl) 17 rfl fun C hC hG => ?_
 refine .q 3 hG fun b2 => ?_
 refine .q 1 hG fun b3 => ?_
 refine .q 3 hG ?_
 refine .A0 hC .z1 (.M1 2 a8 .z1 (.A0 hC .z (.M1 3 a8 .z ?_)))
 refine .q 5 hG ?_
 refine .p (.a7m underlying26 sz5 underlying5 a8k (.t a8) (.t a8) ?_)
 refine .q 5 hG ?_
 refine .go 10 a8 (.t a8) (fun hg15 => .o7 hG (b4I _ _) (.cons (.q a8 hg15) (.cons (.q a8 hg15) .nil)) a8) ?_
 refine .q 4 hG ?_
 refine .e1 a8 a8 ?_
 rw [←c2p]
end Go.Proofs.YtmmclghiidoldaaGreatDoor
