/- Plain Lean over any program, and walks of this seat's functions: contracts, each proved once (part 6). -/
import Derived.Test.YtfkbejimghamkaaGreatDoorZ5
import Derived.ProofKit
import Derived.OpenShut
import Derived.ShutString
import Derived.ChangeOld
import Derived.Below
import Derived.LaidLaws
import Derived.Handed
import Derived.DataReads
import Derived.LaidSub
import Derived.Stop.LaidErr
import Derived.Lib.LaidTab
import Derived.Shelf.Vars
import Derived.SizedLaws
import Derived.Test.YtfkbejimghamkaaGreatDoorRows
import Derived.Test.YtfkbejimghamkaaGreatDoorTie
import Derived.Test.YtfkbejimghamkaaGreatDoorCards
import Derived.SevenTiedAt
set_option maxRecDepth 1000000
set_option synthInstance.maxSize 1000000
set_option synthInstance.maxHeartbeats 10000000
set_option linter.unusedVariables false
set_option linter.unusedSimpArgs false
namespace Go.Proofs.YtfkbejimghamkaaGreatDoor
open Go.Proofs.Tryz
open Go.Fl Go.Ab Go.Mac Go.Sha Go.Lib
def inR (n:Int):Prop := -281474976710656≤n∧n≤281474976710656
theorem a2h {n:Int} (h:inR n):M9 n=false:=by
 unfold M9
 rw [decide_eq_false (by unfold inR at h;omega),decide_eq_false (by unfold inR at h;omega)];rfl
theorem a2H {s:Step} (hA:inR s.A) (hB:inR s.B) (hN:inR s.N) (h1:inR s.T5.a1R) (h2:inR s.T5.a4G) (h3:inR s.Context.a4H) (h4:inR s.Context.a4I):∀ n∈p9 s,M9 n=false:=by
 intro n hn
 obtain⟨f,_,rfl⟩:=List.mem_map.1 hn
 cases f
 ·exact a2h hA
 ·exact a2h hB
 ·exact a2h hN
 ·exact a2h h3
 ·exact a2h h4
 ·exact a2h h1
 ·exact a2h h2
theorem a2I {s:Step} (hk:1≤s.Kind∧s.Kind < 23) (h:a2a s):(D0 s).2=0:=by
 have hc:o8 s=0:=by
  unfold o8
  rw [if_neg (by rw [h.full];decide),if_neg,if_neg,if_neg]
  ·intro e
   simp only [Bool.and_eq_true,Bool.not_eq_true'] at e
   rw [h.name e.1] at e;cases e.2
  ·intro e
   obtain⟨p,hp,hq⟩:=List.any_eq_true.1 e
   rw [h.pred p hp] at hq;cases hq
  ·intro e
   obtain⟨f,hf,hq⟩:=List.any_eq_true.1 e
   rw [h.num _ (List.mem_map_of_mem hf)] at hq;cases hq
 unfold D0
 rw [if_neg (by omega),if_neg (by rw [hc];decide)]
structure U5 (s:Step):Prop where
 line:(D0 s).2=0
 b1c:s.l9.length≤2
theorem zR:inR 0:=⟨by decide,by decide⟩
theorem y9 {s : Step} {w : Value} {d' : j9} (hk : 1 ≤ s.Kind ∧ s.Kind < 23) (hd : C7 d') (hf : B2 s = false) (hA : inR s.A) (hB : inR s.B) (hN : inR s.N) (h1 : inR s.T5.a1R) (h2 : inR s.T5.a4G) (h3 : inR s.Context.a4H) (h4 : inR s.Context.a4I) (hp : ∀ p ∈ s.l9, p8 p = true) (hl : (s.l9.length : Int) ≤ 2) (hn : khl s.Kind = true → u7 ((G4 s).get s) = true) :
    ∃ s',U5 s'∧∃ d'',C7 d''∧AV.v s=AV.v s' ∧ [C5.ob w d'] = [C5.ob w d'']:=⟨s,⟨a2I hk ⟨hf,a2H hA hB hN h1 h2 h3 h4,hp,hn⟩,by omega⟩,d',hd,rfl,rfl⟩
set_option maxHeartbeats 4000000 in
theorem a7b (w:Value) (d:j9) (c:p7) (hd:C7 d) (hc:b1b c):E1 gl prog 31 [dk w,.v c] [.ob w d] (fun r Hs=>∃ s:Step,U5 s∧∃ d',C7 d'∧r = .v s∧Hs = [.ob w d']):=by
 obtain⟨⟨cg0,cg1⟩,⟨cw0,cw1⟩⟩:=hc
 refine E1.M7 func31 rfl (by kernel_rfl) 202 rfl rfl _ rfl _ rfl fun C hC hG => ?_
 refine .q 3 hG fun b3 => ?_
 refine .q 1 hG fun b4 => ?_
 refine .q 4 hG ?_
 refine .km hG (K8 _ _ _ _ (by first|assumption|exact l8 _) (by first|omega|(simp;done)|(simp;omega)|(simp at *;omega)) (by first|omega|(simp;done)|(simp;omega)|(simp at *;omega)) (by first|omega|(simp;done)|(simp;omega)|(simp at *;omega))) .z2 (by rintro _ _ ⟨_,_,_,_,_,_,rfl⟩;exact⟨_,rfl⟩) fun r10 B10 hr10 => ?_
 obtain⟨v10,d10,h010,h110,hd10,rfl,hB⟩:=hr10
 cases hB
 refine .p (.bS1 j4.l0 a8 q9 a1a (fun c0=>(⟨c0,0,0,0,[],default,⟨[]⟩,default⟩:j4)) (fun _=>a8) a8 a8 (.t a8) ?_)
 refine .q 1 hG fun b5 => ?_
 refine .q 6 hG ?_
 refine .km hG (x5 _ _ _ (by first|assumption|exact l8 _) (by first|omega|(simp;done)|(simp;omega)|(simp at *;omega)) (by first|omega|(simp;done)|(simp;omega)|(simp at *;omega))) .z3 (by rintro _ _ ⟨_,_,_,_,_,_,rfl⟩;exact⟨_,rfl⟩) fun r13 B13 hr13 => ?_
 obtain⟨v13,d13,h013,h113,hd13,rfl,hB⟩:=hr13
 cases hB
 refine .q 3 hG ⟨fun hc14 => ?_,fun hc14 => ?_⟩
 ·refine .q 1 hG ?_
  refine .bs a8 (by decide) fun b15 => ?_
  refine .q 1 hG ?_
  refine .km hG (x5 _ _ _ (by first|assumption|exact l8 _) (by first|omega|(simp;done)|(simp;omega)|(simp at *;omega)) (by first|omega|(simp;done)|(simp;omega)|(simp at *;omega))) .z4 (by rintro _ _ ⟨_,_,_,_,_,_,rfl⟩;exact⟨_,rfl⟩) fun r17 B17 hr17 => ?_
  obtain⟨v17,d17,h017,h117,hd17,rfl,hB⟩:=hr17
  cases hB
  refine .p (.J4 A3 underlying23 a8 .z (.t a8) (by first|omega|(simp;done)|(simp;omega)|(simp at *;omega)) (by first|omega|(simp;done)|(simp;omega)|(simp at *;omega)) (.p (.a2q A3 (.t a8) .z (by first|omega|(simp;done)|(simp;omega)|(simp at *;omega)) ?_)))
  refine .q 2 hG ?_
  have hkm:=(by decide:∀ x∈([11,10,12,5,3]:List Int),1≤x∧x < 23) ([11,10,12,5,3][v17.toNat]'(show _ < 5 by omega)) (List.getElem_mem _)
  generalize ([11,10,12,5,3]:List Int)[v17.toNat]'(show _ < 5 by omega)=kk at hkm ⊢
  refine .q 4 hG ?_
  refine .km hG (x5 _ _ _ (by first|assumption|exact l8 _) (by first|omega|(simp;done)|(simp;omega)|(simp at *;omega)) (by first|omega|(simp;done)|(simp;omega)|(simp at *;omega))) .z4 (by rintro _ _ ⟨_,_,_,_,_,_,rfl⟩;exact⟨_,rfl⟩) fun r22 B22 hr22 => ?_
  obtain⟨v22,d22,h022,h122,hd22,rfl,hB⟩:=hr22
  cases hB
  refine .q 1 hG ?_
  refine .km hG (x5 _ _ _ (by first|assumption|exact l8 _) (by first|omega|(simp;done)|(simp;omega)|(simp at *;omega)) (by first|omega|(simp;done)|(simp;omega)|(simp at *;omega))) .z4 (by rintro _ _ ⟨_,_,_,_,_,_,rfl⟩;exact⟨_,rfl⟩) fun r24 B24 hr24 => ?_
  obtain⟨v24,d24,h024,h124,hd24,rfl,hB⟩:=hr24
  cases hB
  refine .p (.bS3 j8.l0 j8.l1 j8.l3 a8 W8 a5z (fun c0 c1 c3=>(⟨c0,c1,0,c3⟩:j8)) (fun _ _ _=>a8) a8 a8 a8 a8 (.t a8) (.t a8) (.s [97,110,110] (by decide) (by decide)) ?_)
  refine .q 1 hG fun b6 => ?_
  refine .q 3 hG ?_
  refine .D7 [j1,j1,j1,j1,j1,j0] (by kernel_rfl) 10 [[],[],[(27,1)],[(26,0),(28,2)],[],[],[(31,5)],[(30,4),(32,6)],[(29,3)],[(33,7)]] [3,7,8,9] a8 (by kernel_rfl) a8 (by kernel_rfl) (by decide) ?_
  refine⟨_,fun H=>j7.move (.t a8) a8,?_⟩
  refine⟨_,fun H=>j7.y7 p7.l2 a7A a8 (.t a8) a8,?_⟩
  refine⟨_,fun H=>j7.ldF (fun x=>x.a1S) A3 (.t a8) (C1.app .z4) (fun _=>a8) a8,?_⟩
  refine .inl ?_
  refine⟨_,fun H=>j7.move (.t a8) a8,?_⟩
  refine⟨_,fun H=>j7.y7 p7.l3 a5D a8 (.t a8) a8,?_⟩
  refine⟨_,fun H=>j7.ldF (fun x=>x.X2) A3 (.t a8) (C1.app .z4) (fun _=>a8) a8,?_⟩
  refine .inl (.inl (.inl ?_))
  refine⟨⟨([],j2 [c8,c8,c8,c8,c8,_]),a8⟩,?_⟩
  refine A9.H9 hG (x5 _ _ _ (by first|assumption|exact l8 _) (by first|omega|(simp;done)|(simp;omega)|(simp at *;omega)) (by first|omega|(simp;done)|(simp;omega)|(simp at *;omega))) .z5 (.cons (.t rfl) (.cons (.t rfl) .nil)) (by rintro _ _ ⟨_,_,_,_,_,_,rfl⟩;exact⟨_,rfl⟩) fun r29 B29 hr29 => ?_
  obtain⟨v29,d29,h029,h129,hd29,rfl,hB⟩:=hr29
  cases hB
  refine⟨⟨([],j2 [c8,c8,c8,c8,c8,_]),a8⟩,?_⟩
  refine A9.H9 hG (x5 _ _ _ (by first|assumption|exact l8 _) (by first|omega|(simp;done)|(simp;omega)|(simp at *;omega)) (by first|omega|(simp;done)|(simp;omega)|(simp at *;omega))) .z5 (.cons (.t rfl) (.cons (.t rfl) .nil)) (by rintro _ _ ⟨_,_,_,_,_,_,rfl⟩;exact⟨_,rfl⟩) fun r33 B33 hr33 => ?_
  obtain⟨v33,d33,h033,h133,hd33,rfl,hB⟩:=hr33
  cases hB
  refine⟨⟨([],j2 [c8,c8,c8,c8,c8,_]),a8⟩,?_⟩
  refine A9.ofP (j7.assign (.t rfl) ?_)
  refine⟨⟨([],j2 [c8,c8,c8,c8,c8,_]),a8⟩,?_⟩
  refine A9.ofP (j7.assign (.t rfl) ?_)
  refine⟨⟨([],j2 [c8,c8,c8,c8,c8,_]),a8⟩,?_⟩
  show C4 _ _ _ _ _ [] ((8,_)::(7,_)::(33,_)::(32,_)::(31,_)::(30,_)::(29,_)::(28,_)::(27,_)::(26,_)::_) _
  refine .q 14 hG ⟨fun hc36 => ?_,fun hc36 => ?_⟩
  ·refine .q 2 hG ?_
   refine .km hG (K8 _ _ _ _ (by first|assumption|exact l8 _) (by first|omega|(simp;done)|(simp;omega)|(simp at *;omega)) (by first|omega|(simp;done)|(simp;omega)|(simp at *;omega)) (by first|omega|(simp;done)|(simp;omega)|(simp at *;omega))) .z5 (by rintro _ _ ⟨_,_,_,_,_,_,rfl⟩;exact⟨_,rfl⟩) fun r39 B39 hr39 => ?_
   obtain⟨v39,d39,h039,h139,hd39,rfl,hB⟩:=hr39
   cases hB
   refine .q 5 hG ?_
   refine .p (.Q4 q9 (.t a8) .z2 (.n (.W1 q9 (.t a8) (.t a8) .z3 ?_)))
   refine .q 2 hG ?_
   refine⟨_,.r1 a8 (.cell q9 a8 .z3),?_⟩
   refine⟨_,.cons .z5 (.nil),?_⟩
   dsimp only at *
   first|(have hh:kk=2:=(by omega);subst hh)|(have hh:kk=3:=(by omega);subst hh)|(have hh:kk=4:=(by omega);subst hh)|(have hh:kk=5:=(by omega);subst hh)|(have hh:kk=6:=(by omega);subst hh)|(have hh:kk=7:=(by omega);subst hh)|(have hh:kk=8:=(by omega);subst hh)|(have hh:kk=9:=(by omega);subst hh)|(have hh:kk=10:=(by omega);subst hh)|(have hh:kk=11:=(by omega);subst hh)|(have hh:kk=12:=(by omega);subst hh)|(have hh:kk=13:=(by omega);subst hh)|(have hh:kk=14:=(by omega);subst hh)|(have hh:kk=15:=(by omega);subst hh)|(have hh:kk=16:=(by omega);subst hh)|(have hh:kk=17:=(by omega);subst hh)|(have hh:kk=18:=(by omega);subst hh)|(have hh:kk=19:=(by omega);subst hh)|(have hh:kk=20:=(by omega);subst hh)|(have hh:kk=21:=(by omega);subst hh)|(have hh:kk=22:=(by omega);subst hh)|(have hh:kk=1:=(by omega);subst hh)|(exfalso;omega)
   exact y9 ⟨by dsimp only;omega,by dsimp only;omega⟩ (by assumption) rfl (by first|exact zR|exact⟨by dsimp only;omega,by dsimp only;omega⟩) (by first|exact zR|exact⟨by dsimp only;omega,by dsimp only;omega⟩) (by first|exact zR|exact⟨by dsimp only;omega,by dsimp only;omega⟩) (by first|exact zR|exact⟨by dsimp only;omega,by dsimp only;omega⟩) (by first|exact zR|exact⟨by dsimp only;omega,by dsimp only;omega⟩) (by first|exact zR|exact⟨by dsimp only;omega,by dsimp only;omega⟩) (by first|exact zR|exact⟨by dsimp only;omega,by dsimp only;omega⟩) (by first|assumption|(intro p hp;cases hp)) (by first|assumption|(dsimp only;omega)|(show((0:Nat):Int)≤2;decide)) (fun h=>by first|exact Bool.noConfusion (show false=true from h)|rfl|exact(by decide:∀ x∈([⟨[97,110,110]⟩,⟨[98,111,98]⟩,⟨[100,97,110]⟩]:List u0),u7 x=true) _ (List.getElem_mem _))
  ·refine .q 6 hG ⟨fun hc41 => ?_,fun hc41 => ?_⟩
   ·refine .q 3 hG ?_
    refine .km hG (P1 _ _ _ _ (by assumption) (by decide) (by decide) (by decide)) .z5 (by rintro _ _ ⟨_,_,_,_,_,_,rfl⟩;exact⟨_,rfl⟩) fun r45 B45 hr45 => ?_
    obtain⟨l45,hl45,hp45,d45,hd45,rfl,hB⟩:=hr45
    cases hB
    refine .q 7 hG ?_
    refine .p (.Q4 q9 (.t a8) .z2 (.n (.W1 q9 (.t a8) (.t a8) .z3 ?_)))
    refine .q 2 hG ?_
    refine⟨_,.r1 a8 (.cell q9 a8 .z3),?_⟩
    refine⟨_,.cons .z5 (.nil),?_⟩
    dsimp only at *
    first|(have hh:kk=2:=(by omega);subst hh)|(have hh:kk=3:=(by omega);subst hh)|(have hh:kk=4:=(by omega);subst hh)|(have hh:kk=5:=(by omega);subst hh)|(have hh:kk=6:=(by omega);subst hh)|(have hh:kk=7:=(by omega);subst hh)|(have hh:kk=8:=(by omega);subst hh)|(have hh:kk=9:=(by omega);subst hh)|(have hh:kk=10:=(by omega);subst hh)|(have hh:kk=11:=(by omega);subst hh)|(have hh:kk=12:=(by omega);subst hh)|(have hh:kk=13:=(by omega);subst hh)|(have hh:kk=14:=(by omega);subst hh)|(have hh:kk=15:=(by omega);subst hh)|(have hh:kk=16:=(by omega);subst hh)|(have hh:kk=17:=(by omega);subst hh)|(have hh:kk=18:=(by omega);subst hh)|(have hh:kk=19:=(by omega);subst hh)|(have hh:kk=20:=(by omega);subst hh)|(have hh:kk=21:=(by omega);subst hh)|(have hh:kk=22:=(by omega);subst hh)|(have hh:kk=1:=(by omega);subst hh)|(exfalso;omega)
    exact y9 ⟨by dsimp only;omega,by dsimp only;omega⟩ (by assumption) rfl (by first|exact zR|exact⟨by dsimp only;omega,by dsimp only;omega⟩) (by first|exact zR|exact⟨by dsimp only;omega,by dsimp only;omega⟩) (by first|exact zR|exact⟨by dsimp only;omega,by dsimp only;omega⟩) (by first|exact zR|exact⟨by dsimp only;omega,by dsimp only;omega⟩) (by first|exact zR|exact⟨by dsimp only;omega,by dsimp only;omega⟩) (by first|exact zR|exact⟨by dsimp only;omega,by dsimp only;omega⟩) (by first|exact zR|exact⟨by dsimp only;omega,by dsimp only;omega⟩) (by first|assumption|(intro p hp;cases hp)) (by first|assumption|(dsimp only;omega)|(show((0:Nat):Int)≤2;decide)) (fun h=>by first|exact Bool.noConfusion (show false=true from h)|rfl|exact(by decide:∀ x∈([⟨[97,110,110]⟩,⟨[98,111,98]⟩,⟨[100,97,110]⟩]:List u0),u7 x=true) _ (List.getElem_mem _))
   ·refine .q 6 hG ⟨fun hc48 => ?_,fun hc48 => ?_⟩
    ·refine .q 3 hG ?_
     refine .km hG (x5 _ _ _ (by first|assumption|exact l8 _) (by first|omega|(simp;done)|(simp;omega)|(simp at *;omega)) (by first|omega|(simp;done)|(simp;omega)|(simp at *;omega))) .z5 (by rintro _ _ ⟨_,_,_,_,_,_,rfl⟩;exact⟨_,rfl⟩) fun r52 B52 hr52 => ?_
     obtain⟨v52,d52,h052,h152,hd52,rfl,hB⟩:=hr52
     cases hB
     refine .q 1 hG ?_
     refine .km hG (x5 _ _ _ (by first|assumption|exact l8 _) (by first|omega|(simp;done)|(simp;omega)|(simp at *;omega)) (by first|omega|(simp;done)|(simp;omega)|(simp at *;omega))) .z5 (by rintro _ _ ⟨_,_,_,_,_,_,rfl⟩;exact⟨_,rfl⟩) fun r54 B54 hr54 => ?_
     obtain⟨v54,d54,h054,h154,hd54,rfl,hB⟩:=hr54
     cases hB
     refine .q 9 hG ?_
     refine .p (.Q4 q9 (.t a8) .z2 (.n (.W1 q9 (.t a8) (.t a8) .z3 ?_)))
     refine .q 2 hG ?_
     refine⟨_,.r1 a8 (.cell q9 a8 .z3),?_⟩
     refine⟨_,.cons .z5 (.nil),?_⟩
     dsimp only at *
     first|(have hh:kk=2:=(by omega);subst hh)|(have hh:kk=3:=(by omega);subst hh)|(have hh:kk=4:=(by omega);subst hh)|(have hh:kk=5:=(by omega);subst hh)|(have hh:kk=6:=(by omega);subst hh)|(have hh:kk=7:=(by omega);subst hh)|(have hh:kk=8:=(by omega);subst hh)|(have hh:kk=9:=(by omega);subst hh)|(have hh:kk=10:=(by omega);subst hh)|(have hh:kk=11:=(by omega);subst hh)|(have hh:kk=12:=(by omega);subst hh)|(have hh:kk=13:=(by omega);subst hh)|(have hh:kk=14:=(by omega);subst hh)|(have hh:kk=15:=(by omega);subst hh)|(have hh:kk=16:=(by omega);subst hh)|(have hh:kk=17:=(by omega);subst hh)|(have hh:kk=18:=(by omega);subst hh)|(have hh:kk=19:=(by omega);subst hh)|(have hh:kk=20:=(by omega);subst hh)|(have hh:kk=21:=(by omega);subst hh)|(have hh:kk=22:=(by omega);subst hh)|(have hh:kk=1:=(by omega);subst hh)|(exfalso;omega)
     exact y9 ⟨by dsimp only;omega,by dsimp only;omega⟩ (by assumption) rfl (by first|exact zR|exact⟨by dsimp only;omega,by dsimp only;omega⟩) (by first|exact zR|exact⟨by dsimp only;omega,by dsimp only;omega⟩) (by first|exact zR|exact⟨by dsimp only;omega,by dsimp only;omega⟩) (by first|exact zR|exact⟨by dsimp only;omega,by dsimp only;omega⟩) (by first|exact zR|exact⟨by dsimp only;omega,by dsimp only;omega⟩) (by first|exact zR|exact⟨by dsimp only;omega,by dsimp only;omega⟩) (by first|exact zR|exact⟨by dsimp only;omega,by dsimp only;omega⟩) (by first|assumption|(intro p hp;cases hp)) (by first|assumption|(dsimp only;omega)|(show((0:Nat):Int)≤2;decide)) (fun h=>by first|exact Bool.noConfusion (show false=true from h)|rfl|exact(by decide:∀ x∈([⟨[97,110,110]⟩,⟨[98,111,98]⟩,⟨[100,97,110]⟩]:List u0),u7 x=true) _ (List.getElem_mem _))
    ·refine .q 6 hG ⟨fun hc58 => ?_,fun hc58 => ?_⟩
     ·refine .q 3 hG ?_
      refine .km hG (K8 _ _ _ _ (by first|assumption|exact l8 _) (by first|omega|(simp;done)|(simp;omega)|(simp at *;omega)) (by first|omega|(simp;done)|(simp;omega)|(simp at *;omega)) (by first|omega|(simp;done)|(simp;omega)|(simp at *;omega))) .z5 (by rintro _ _ ⟨_,_,_,_,_,_,rfl⟩;exact⟨_,rfl⟩) fun r62 B62 hr62 => ?_
      obtain⟨v62,d62,h062,h162,hd62,rfl,hB⟩:=hr62
      cases hB
      refine .q 7 hG ?_
      refine .p (.Q4 q9 (.t a8) .z2 (.n (.W1 q9 (.t a8) (.t a8) .z3 ?_)))
      refine .q 2 hG ?_
      refine⟨_,.r1 a8 (.cell q9 a8 .z3),?_⟩
      refine⟨_,.cons .z5 (.nil),?_⟩
      dsimp only at *
      first|(have hh:kk=2:=(by omega);subst hh)|(have hh:kk=3:=(by omega);subst hh)|(have hh:kk=4:=(by omega);subst hh)|(have hh:kk=5:=(by omega);subst hh)|(have hh:kk=6:=(by omega);subst hh)|(have hh:kk=7:=(by omega);subst hh)|(have hh:kk=8:=(by omega);subst hh)|(have hh:kk=9:=(by omega);subst hh)|(have hh:kk=10:=(by omega);subst hh)|(have hh:kk=11:=(by omega);subst hh)|(have hh:kk=12:=(by omega);subst hh)|(have hh:kk=13:=(by omega);subst hh)|(have hh:kk=14:=(by omega);subst hh)|(have hh:kk=15:=(by omega);subst hh)|(have hh:kk=16:=(by omega);subst hh)|(have hh:kk=17:=(by omega);subst hh)|(have hh:kk=18:=(by omega);subst hh)|(have hh:kk=19:=(by omega);subst hh)|(have hh:kk=20:=(by omega);subst hh)|(have hh:kk=21:=(by omega);subst hh)|(have hh:kk=22:=(by omega);subst hh)|(have hh:kk=1:=(by omega);subst hh)|(exfalso;omega)
      exact y9 ⟨by dsimp only;omega,by dsimp only;omega⟩ (by assumption) rfl (by first|exact zR|exact⟨by dsimp only;omega,by dsimp only;omega⟩) (by first|exact zR|exact⟨by dsimp only;omega,by dsimp only;omega⟩) (by first|exact zR|exact⟨by dsimp only;omega,by dsimp only;omega⟩) (by first|exact zR|exact⟨by dsimp only;omega,by dsimp only;omega⟩) (by first|exact zR|exact⟨by dsimp only;omega,by dsimp only;omega⟩) (by first|exact zR|exact⟨by dsimp only;omega,by dsimp only;omega⟩) (by first|exact zR|exact⟨by dsimp only;omega,by dsimp only;omega⟩) (by first|assumption|(intro p hp;cases hp)) (by first|assumption|(dsimp only;omega)|(show((0:Nat):Int)≤2;decide)) (fun h=>by first|exact Bool.noConfusion (show false=true from h)|rfl|exact(by decide:∀ x∈([⟨[97,110,110]⟩,⟨[98,111,98]⟩,⟨[100,97,110]⟩]:List u0),u7 x=true) _ (List.getElem_mem _))
     ·refine .q 6 hG ⟨fun hc65 => ?_,fun hc65 => ?_⟩
      ·refine .q 3 hG ?_
       refine .km hG (x5 _ _ _ (by first|assumption|exact l8 _) (by first|omega|(simp;done)|(simp;omega)|(simp at *;omega)) (by first|omega|(simp;done)|(simp;omega)|(simp at *;omega))) .z5 (by rintro _ _ ⟨_,_,_,_,_,_,rfl⟩;exact⟨_,rfl⟩) fun r69 B69 hr69 => ?_
       obtain⟨v69,d69,h069,h169,hd69,rfl,hB⟩:=hr69
       cases hB
       refine .q 1 hG ?_
       refine .km hG (P1 _ _ _ _ (by assumption) (by decide) (by decide) (by decide)) .z5 (by rintro _ _ ⟨_,_,_,_,_,_,rfl⟩;exact⟨_,rfl⟩) fun r71 B71 hr71 => ?_
       obtain⟨l71,hl71,hp71,d71,hd71,rfl,hB⟩:=hr71
       cases hB
       refine .q 9 hG ?_
       refine .p (.Q4 q9 (.t a8) .z2 (.n (.W1 q9 (.t a8) (.t a8) .z3 ?_)))
       refine .q 2 hG ?_
       refine⟨_,.r1 a8 (.cell q9 a8 .z3),?_⟩
       refine⟨_,.cons .z5 (.nil),?_⟩
       dsimp only at *
       first|(have hh:kk=2:=(by omega);subst hh)|(have hh:kk=3:=(by omega);subst hh)|(have hh:kk=4:=(by omega);subst hh)|(have hh:kk=5:=(by omega);subst hh)|(have hh:kk=6:=(by omega);subst hh)|(have hh:kk=7:=(by omega);subst hh)|(have hh:kk=8:=(by omega);subst hh)|(have hh:kk=9:=(by omega);subst hh)|(have hh:kk=10:=(by omega);subst hh)|(have hh:kk=11:=(by omega);subst hh)|(have hh:kk=12:=(by omega);subst hh)|(have hh:kk=13:=(by omega);subst hh)|(have hh:kk=14:=(by omega);subst hh)|(have hh:kk=15:=(by omega);subst hh)|(have hh:kk=16:=(by omega);subst hh)|(have hh:kk=17:=(by omega);subst hh)|(have hh:kk=18:=(by omega);subst hh)|(have hh:kk=19:=(by omega);subst hh)|(have hh:kk=20:=(by omega);subst hh)|(have hh:kk=21:=(by omega);subst hh)|(have hh:kk=22:=(by omega);subst hh)|(have hh:kk=1:=(by omega);subst hh)|(exfalso;omega)
       exact y9 ⟨by dsimp only;omega,by dsimp only;omega⟩ (by assumption) rfl (by first|exact zR|exact⟨by dsimp only;omega,by dsimp only;omega⟩) (by first|exact zR|exact⟨by dsimp only;omega,by dsimp only;omega⟩) (by first|exact zR|exact⟨by dsimp only;omega,by dsimp only;omega⟩) (by first|exact zR|exact⟨by dsimp only;omega,by dsimp only;omega⟩) (by first|exact zR|exact⟨by dsimp only;omega,by dsimp only;omega⟩) (by first|exact zR|exact⟨by dsimp only;omega,by dsimp only;omega⟩) (by first|exact zR|exact⟨by dsimp only;omega,by dsimp only;omega⟩) (by first|assumption|(intro p hp;cases hp)) (by first|assumption|(dsimp only;omega)|(show((0:Nat):Int)≤2;decide)) (fun h=>by first|exact Bool.noConfusion (show false=true from h)|rfl|exact(by decide:∀ x∈([⟨[97,110,110]⟩,⟨[98,111,98]⟩,⟨[100,97,110]⟩]:List u0),u7 x=true) _ (List.getElem_mem _))
      ·refine .q 6 hG ⟨fun hc75 => ?_,fun hc75 => ?_⟩
       ·refine .q 3 hG ?_
        refine .km hG (x5 _ _ _ (by first|assumption|exact l8 _) (by first|omega|(simp;done)|(simp;omega)|(simp at *;omega)) (by first|omega|(simp;done)|(simp;omega)|(simp at *;omega))) .z5 (by rintro _ _ ⟨_,_,_,_,_,_,rfl⟩;exact⟨_,rfl⟩) fun r79 B79 hr79 => ?_
        obtain⟨v79,d79,h079,h179,hd79,rfl,hB⟩:=hr79
        cases hB
        refine .q 1 hG ?_
        refine .km hG (x5 _ _ _ (by first|assumption|exact l8 _) (by first|omega|(simp;done)|(simp;omega)|(simp at *;omega)) (by first|omega|(simp;done)|(simp;omega)|(simp at *;omega))) .z5 (by rintro _ _ ⟨_,_,_,_,_,_,rfl⟩;exact⟨_,rfl⟩) fun r81 B81 hr81 => ?_
        obtain⟨v81,d81,h081,h181,hd81,rfl,hB⟩:=hr81
        cases hB
        refine .q 1 hG ?_
        refine .km hG (x5 _ _ _ (by first|assumption|exact l8 _) (by first|omega|(simp;done)|(simp;omega)|(simp at *;omega)) (by first|omega|(simp;done)|(simp;omega)|(simp at *;omega))) .z5 (by rintro _ _ ⟨_,_,_,_,_,_,rfl⟩;exact⟨_,rfl⟩) fun r83 B83 hr83 => ?_
        obtain⟨v83,d83,h083,h183,hd83,rfl,hB⟩:=hr83
        cases hB
        refine .q 1 hG ?_
        refine .km hG (K8 _ _ _ _ (by first|assumption|exact l8 _) (by first|omega|(simp;done)|(simp;omega)|(simp at *;omega)) (by first|omega|(simp;done)|(simp;omega)|(simp at *;omega)) (by first|omega|(simp;done)|(simp;omega)|(simp at *;omega))) .z5 (by rintro _ _ ⟨_,_,_,_,_,_,rfl⟩;exact⟨_,rfl⟩) fun r85 B85 hr85 => ?_
        obtain⟨v85,d85,h085,h185,hd85,rfl,hB⟩:=hr85
        cases hB
        refine .p (.bS2 o9.l0 o9.l1 a8 a5X a7w (fun c0 c1=>(⟨c0,c1⟩:o9)) (fun _ _=>a8) a8 a8 a8 (.t a8) (.t a8) ?_)
        refine .q 11 hG ?_
        refine .p (.Q4 q9 (.t a8) .z2 (.n (.W1 q9 (.t a8) (.t a8) .z3 ?_)))
        refine .q 2 hG ?_
        refine⟨_,.r1 a8 (.cell q9 a8 .z3),?_⟩
        refine⟨_,.cons .z5 (.nil),?_⟩
        dsimp only at *
        first|(have hh:kk=2:=(by omega);subst hh)|(have hh:kk=3:=(by omega);subst hh)|(have hh:kk=4:=(by omega);subst hh)|(have hh:kk=5:=(by omega);subst hh)|(have hh:kk=6:=(by omega);subst hh)|(have hh:kk=7:=(by omega);subst hh)|(have hh:kk=8:=(by omega);subst hh)|(have hh:kk=9:=(by omega);subst hh)|(have hh:kk=10:=(by omega);subst hh)|(have hh:kk=11:=(by omega);subst hh)|(have hh:kk=12:=(by omega);subst hh)|(have hh:kk=13:=(by omega);subst hh)|(have hh:kk=14:=(by omega);subst hh)|(have hh:kk=15:=(by omega);subst hh)|(have hh:kk=16:=(by omega);subst hh)|(have hh:kk=17:=(by omega);subst hh)|(have hh:kk=18:=(by omega);subst hh)|(have hh:kk=19:=(by omega);subst hh)|(have hh:kk=20:=(by omega);subst hh)|(have hh:kk=21:=(by omega);subst hh)|(have hh:kk=22:=(by omega);subst hh)|(have hh:kk=1:=(by omega);subst hh)|(exfalso;omega)
        exact y9 ⟨by dsimp only;omega,by dsimp only;omega⟩ (by assumption) rfl (by first|exact zR|exact⟨by dsimp only;omega,by dsimp only;omega⟩) (by first|exact zR|exact⟨by dsimp only;omega,by dsimp only;omega⟩) (by first|exact zR|exact⟨by dsimp only;omega,by dsimp only;omega⟩) (by first|exact zR|exact⟨by dsimp only;omega,by dsimp only;omega⟩) (by first|exact zR|exact⟨by dsimp only;omega,by dsimp only;omega⟩) (by first|exact zR|exact⟨by dsimp only;omega,by dsimp only;omega⟩) (by first|exact zR|exact⟨by dsimp only;omega,by dsimp only;omega⟩) (by first|assumption|(intro p hp;cases hp)) (by first|assumption|(dsimp only;omega)|(show((0:Nat):Int)≤2;decide)) (fun h=>by first|exact Bool.noConfusion (show false=true from h)|rfl|exact(by decide:∀ x∈([⟨[97,110,110]⟩,⟨[98,111,98]⟩,⟨[100,97,110]⟩]:List u0),u7 x=true) _ (List.getElem_mem _))
       ·refine .q 6 hG ⟨fun hc91 => ?_,fun hc91 => ?_⟩
        ·refine .b2p [[j1,j1,j1,j1,j1,j1],[j1,j1,j1,j1,j1,j0],[j1,j1,j1,j1,j1,j0],[j1,j1,j0,j1,j1,j0],[j1,j1,j0,j1,j1,j0],[j1,j1,j0,j1,j1,j0]] [[j1,j1,j1,j1,j1,j0],[j1,j1,j1,j1,j1,j1],[],[j1,j1,j0,j1,j1,j0],[j1,j1,j1,j1,j1,j0],[],[j1,j1,j0,j1,j1,j0],[j1,j1,j0,j1,j1,j0],[j1,j1,j1,j1,j1,j0],[],[j1,j1,j0,j1,j1,j0],[],[j1,j1,j0,j1,j1,j0],[]] [[],[],[6,7],[],[],[]] [] 5 (by kernel_rfl) 14 [[],[],[(94,1)],[],[],[(97,4)],[(96,3),(98,5)],[(99,6)],[],[(101,8),(93,0)],[],[(102,10),(95,2)],[],[(103,12),(100,7)]] [2,5,9,11,13] rfl (by kernel_rfl) rfl (by kernel_rfl) rfl (by decide) (by simp) (fun p hp=>by cases hp) (by kernel_rfl) rfl ?_
         refine⟨_,fun H=>j7.move (.t a8) a8,?_⟩
         refine⟨_,fun H=>j7.move (.t a8) a8,?_⟩
         refine .inl ?_
         refine⟨_,fun H=>j7.L5 (α:=u0) ty9 underlying36 (.cons (.s [97,110,110] (by decide) (by decide)) (.cons (.s [98,111,98] (by decide) (by decide)) (.cons (.s [100,97,110] (by decide) (by decide)) .nil))) a8 (by decide) a8,?_⟩
         refine⟨_,fun H=>j7.move (.t a8) a8,?_⟩
         refine .inl (.inl (.inl ?_))
         refine⟨_,fun H=>j7.y7 j4.l1 F5 a8 (.t a8) a8,?_⟩
         refine .inl ?_
         refine⟨_,fun H=>j7.y7 j4.l2 I8 a8 (.t a8) a8,?_⟩
         refine .inl ?_
         refine⟨_,fun H=>j7.y7 j4.l6 a2N a8 (.t a8) a8,?_⟩
         refine .inl ?_
         refine⟨a8,?_⟩
         refine⟨⟨j2 [c8,c8,c8,c8,c8,c8],a8⟩,fun Ys20 => ?_⟩
         refine A9.H9 hG (x5 _ _ _ (by first|assumption|exact l8 _) (by first|omega|(simp;done)|(simp;omega)|(simp at *;omega)) (by first|omega|(simp;done)|(simp;omega)|(simp at *;omega))) (C1.app (C1.app .z5)) (.cons (.t rfl) (.cons (.i rfl) .nil)) (by rintro _ _ ⟨_,_,_,_,_,_,rfl⟩;exact⟨_,rfl⟩) fun r95 B95 hr95 => ?_
         obtain⟨v95,d95,h095,h195,hd95,rfl,hB⟩:=hr95
         cases hB
         refine⟨[],_,a8,?_⟩
         refine⟨⟨j2 [c8,c8,c8,c8,c8,_],a8⟩,fun Ys20 => ?_⟩
         refine A9.H9 hG (x5 _ _ _ (by first|assumption|exact l8 _) (by first|omega|(simp;done)|(simp;omega)|(simp at *;omega)) (by first|omega|(simp;done)|(simp;omega)|(simp at *;omega))) (C1.app (C1.app .z5)) (.cons (.t rfl) (.cons (.i rfl) .nil)) (by rintro _ _ ⟨_,_,_,_,_,_,rfl⟩;exact⟨_,rfl⟩) fun r98 B98 hr98 => ?_
         obtain⟨v98,d98,h098,h198,hd98,rfl,hB⟩:=hr98
         cases hB
         refine⟨[],_,a8,?_⟩
         refine⟨_,fun H=>j7.idx ty9 underlying36 (.c a8) (.t a8) (by first|omega|(simp;done)|(simp;omega)|(simp at *;omega)) (by first|omega|(simp;done)|(simp;omega)|(simp at *;omega)) a8,?_⟩
         refine⟨_,fun H=>j7.F1 ty9 (.t a8) a8,?_⟩
         refine⟨⟨j2 [c8,c8,c8,c8,c8,_],a8⟩,fun Ys20 => ?_⟩
         refine A9.K3 (fun y x => { x with A:=y }) A3 (.t rfl) (.t rfl) (C1.app (C1.app .z2)) (fun _ _=>rfl) ?_
         refine⟨[],_,a8,?_⟩
         refine⟨⟨j2 [c8,c8,_,c8,c8,_],a8⟩,fun Ys20 => ?_⟩
         refine A9.K3 (fun y x => { x with B:=y }) A3 (.t rfl) (.t rfl) (C1.app (C1.app .z2)) (fun _ _=>rfl) ?_
         refine⟨[],_,a8,?_⟩
         refine⟨⟨j2 [c8,c8,_,c8,c8,_],a8⟩,fun Ys20 => ?_⟩
         refine A9.K3 (fun y x => { x with F6:=y }) ty9 (.t rfl) (.t rfl) (C1.app (C1.app .z2)) (fun _ _=>rfl) ?_
         refine⟨[],_,a8,?_⟩
         refine⟨⟨j2 [c8,c8,_,c8,c8,_],a8⟩,fun ws20 => ?_⟩
         refine⟨⟨j2 [c8,c8,_,c8,c8,_],a8⟩,fun _ => ?_⟩
         show C4 _ _ _ _ _ [] ((103,_)::(102,_)::(101,_)::(100,_)::(99,_)::(98,_)::(97,_)::(96,_)::(95,_)::(94,_)::(93,_)::_) _
         refine .q 3 hG ?_
         refine .p (.Q4 q9 (.t a8) .z2 (.n (.W1 q9 (.t a8) (.t a8) .z3 ?_)))
         refine .q 2 hG ?_
         refine⟨_,.r1 a8 (.cell q9 a8 .z3),?_⟩
         refine⟨_,.cons .z5 (.nil),?_⟩
         dsimp only at *
         first|(have hh:kk=2:=(by omega);subst hh)|(have hh:kk=3:=(by omega);subst hh)|(have hh:kk=4:=(by omega);subst hh)|(have hh:kk=5:=(by omega);subst hh)|(have hh:kk=6:=(by omega);subst hh)|(have hh:kk=7:=(by omega);subst hh)|(have hh:kk=8:=(by omega);subst hh)|(have hh:kk=9:=(by omega);subst hh)|(have hh:kk=10:=(by omega);subst hh)|(have hh:kk=11:=(by omega);subst hh)|(have hh:kk=12:=(by omega);subst hh)|(have hh:kk=13:=(by omega);subst hh)|(have hh:kk=14:=(by omega);subst hh)|(have hh:kk=15:=(by omega);subst hh)|(have hh:kk=16:=(by omega);subst hh)|(have hh:kk=17:=(by omega);subst hh)|(have hh:kk=18:=(by omega);subst hh)|(have hh:kk=19:=(by omega);subst hh)|(have hh:kk=20:=(by omega);subst hh)|(have hh:kk=21:=(by omega);subst hh)|(have hh:kk=22:=(by omega);subst hh)|(have hh:kk=1:=(by omega);subst hh)|(exfalso;omega)
         exact y9 ⟨by dsimp only;omega,by dsimp only;omega⟩ (by assumption) rfl (by first|exact zR|exact⟨by dsimp only;omega,by dsimp only;omega⟩) (by first|exact zR|exact⟨by dsimp only;omega,by dsimp only;omega⟩) (by first|exact zR|exact⟨by dsimp only;omega,by dsimp only;omega⟩) (by first|exact zR|exact⟨by dsimp only;omega,by dsimp only;omega⟩) (by first|exact zR|exact⟨by dsimp only;omega,by dsimp only;omega⟩) (by first|exact zR|exact⟨by dsimp only;omega,by dsimp only;omega⟩) (by first|exact zR|exact⟨by dsimp only;omega,by dsimp only;omega⟩) (by first|assumption|(intro p hp;cases hp)) (by first|assumption|(dsimp only;omega)|(show((0:Nat):Int)≤2;decide)) (fun h=>by first|exact Bool.noConfusion (show false=true from h)|rfl|exact(by decide:∀ x∈([⟨[97,110,110]⟩,⟨[98,111,98]⟩,⟨[100,97,110]⟩]:List u0),u7 x=true) _ (List.getElem_mem _))
        ·refine .q 6 hG ⟨fun hc104 => ?_,fun hc104 => ?_⟩
         ·refine .D7 [j1,j1,j1,j1,j1,j0] (by kernel_rfl) 8 [[],[],[(107,1)],[],[],[(110,4)],[(109,3),(111,5)],[]] [2,6] a8 (by kernel_rfl) a8 (by kernel_rfl) (by decide) ?_
          refine⟨_,fun H=>j7.move (.t a8) a8,?_⟩
          refine⟨_,fun H=>j7.move (.t a8) a8,?_⟩
          refine .inl ?_
          refine⟨_,fun H=>j7.move (.t a8) a8,?_⟩
          refine⟨_,fun H=>j7.y7 p7.l3 a5D a8 (.t a8) a8,?_⟩
          refine⟨_,fun H=>j7.ldF (fun x=>x.X2) A3 (.t a8) (C1.app .z4) (fun _=>a8) a8,?_⟩
          refine .inl ?_
          refine⟨_,fun H=>j7.y7 j4.l1 F5 a8 (.t a8) a8,?_⟩
          refine⟨⟨([],j2 [c8,c8,c8,c8,c8,_]),a8⟩,?_⟩
          refine A9.H9 hG (x5 _ _ _ (by first|assumption|exact l8 _) (by first|omega|(simp;done)|(simp;omega)|(simp at *;omega)) (by first|omega|(simp;done)|(simp;omega)|(simp at *;omega))) .z5 (.cons (.t rfl) (.cons (.i rfl) .nil)) (by rintro _ _ ⟨_,_,_,_,_,_,rfl⟩;exact⟨_,rfl⟩) fun r108 B108 hr108 => ?_
          obtain⟨v108,d108,h0108,h1108,hd108,rfl,hB⟩:=hr108
          cases hB
          refine⟨⟨([],j2 [c8,c8,c8,c8,c8,_]),a8⟩,?_⟩
          refine A9.H9 hG (x5 _ _ _ (by first|assumption|exact l8 _) (by first|omega|(simp;done)|(simp;omega)|(simp at *;omega)) (by first|omega|(simp;done)|(simp;omega)|(simp at *;omega))) .z5 (.cons (.t rfl) (.cons (.t rfl) .nil)) (by rintro _ _ ⟨_,_,_,_,_,_,rfl⟩;exact⟨_,rfl⟩) fun r112 B112 hr112 => ?_
          obtain⟨v112,d112,h0112,h1112,hd112,rfl,hB⟩:=hr112
          cases hB
          refine⟨⟨([],j2 [c8,c8,c8,c8,c8,_]),a8⟩,?_⟩
          show C4 _ _ _ _ _ [_,_,_,_,_] ((113,_)::(112,_)::(111,_)::(110,_)::(109,_)::(108,_)::(107,_)::(106,_)::_) _
          refine .q 8 hG ?_
          refine .p (.Q4 q9 (.t a8) .z2 (.n (.W1 q9 (.t a8) (.t a8) .z3 ?_)))
          refine .q 2 hG ?_
          refine⟨_,.r1 a8 (.cell q9 a8 .z3),?_⟩
          refine⟨_,.cons .z5 (.nil),?_⟩
          dsimp only at *
          first|(have hh:kk=2:=(by omega);subst hh)|(have hh:kk=3:=(by omega);subst hh)|(have hh:kk=4:=(by omega);subst hh)|(have hh:kk=5:=(by omega);subst hh)|(have hh:kk=6:=(by omega);subst hh)|(have hh:kk=7:=(by omega);subst hh)|(have hh:kk=8:=(by omega);subst hh)|(have hh:kk=9:=(by omega);subst hh)|(have hh:kk=10:=(by omega);subst hh)|(have hh:kk=11:=(by omega);subst hh)|(have hh:kk=12:=(by omega);subst hh)|(have hh:kk=13:=(by omega);subst hh)|(have hh:kk=14:=(by omega);subst hh)|(have hh:kk=15:=(by omega);subst hh)|(have hh:kk=16:=(by omega);subst hh)|(have hh:kk=17:=(by omega);subst hh)|(have hh:kk=18:=(by omega);subst hh)|(have hh:kk=19:=(by omega);subst hh)|(have hh:kk=20:=(by omega);subst hh)|(have hh:kk=21:=(by omega);subst hh)|(have hh:kk=22:=(by omega);subst hh)|(have hh:kk=1:=(by omega);subst hh)|(exfalso;omega)
          exact y9 ⟨by dsimp only;omega,by dsimp only;omega⟩ (by assumption) rfl (by first|exact zR|exact⟨by dsimp only;omega,by dsimp only;omega⟩) (by first|exact zR|exact⟨by dsimp only;omega,by dsimp only;omega⟩) (by first|exact zR|exact⟨by dsimp only;omega,by dsimp only;omega⟩) (by first|exact zR|exact⟨by dsimp only;omega,by dsimp only;omega⟩) (by first|exact zR|exact⟨by dsimp only;omega,by dsimp only;omega⟩) (by first|exact zR|exact⟨by dsimp only;omega,by dsimp only;omega⟩) (by first|exact zR|exact⟨by dsimp only;omega,by dsimp only;omega⟩) (by first|assumption|(intro p hp;cases hp)) (by first|assumption|(dsimp only;omega)|(show((0:Nat):Int)≤2;decide)) (fun h=>by first|exact Bool.noConfusion (show false=true from h)|rfl|exact(by decide:∀ x∈([⟨[97,110,110]⟩,⟨[98,111,98]⟩,⟨[100,97,110]⟩]:List u0),u7 x=true) _ (List.getElem_mem _))
         ·refine .q 6 hG ⟨fun hc116 => ?_,fun hc116 => ?_⟩
          ·refine .q 7 hG ?_
           refine .p (.Q4 q9 (.t a8) .z2 (.n (.W1 q9 (.t a8) (.t a8) .z3 ?_)))
           refine .q 2 hG ?_
           refine⟨_,.r1 a8 (.cell q9 a8 .z3),?_⟩
           refine⟨_,.cons .z5 (.nil),?_⟩
           dsimp only at *
           first|(have hh:kk=2:=(by omega);subst hh)|(have hh:kk=3:=(by omega);subst hh)|(have hh:kk=4:=(by omega);subst hh)|(have hh:kk=5:=(by omega);subst hh)|(have hh:kk=6:=(by omega);subst hh)|(have hh:kk=7:=(by omega);subst hh)|(have hh:kk=8:=(by omega);subst hh)|(have hh:kk=9:=(by omega);subst hh)|(have hh:kk=10:=(by omega);subst hh)|(have hh:kk=11:=(by omega);subst hh)|(have hh:kk=12:=(by omega);subst hh)|(have hh:kk=13:=(by omega);subst hh)|(have hh:kk=14:=(by omega);subst hh)|(have hh:kk=15:=(by omega);subst hh)|(have hh:kk=16:=(by omega);subst hh)|(have hh:kk=17:=(by omega);subst hh)|(have hh:kk=18:=(by omega);subst hh)|(have hh:kk=19:=(by omega);subst hh)|(have hh:kk=20:=(by omega);subst hh)|(have hh:kk=21:=(by omega);subst hh)|(have hh:kk=22:=(by omega);subst hh)|(have hh:kk=1:=(by omega);subst hh)|(exfalso;omega)
           exact y9 ⟨by dsimp only;omega,by dsimp only;omega⟩ (by assumption) rfl (by first|exact zR|exact⟨by dsimp only;omega,by dsimp only;omega⟩) (by first|exact zR|exact⟨by dsimp only;omega,by dsimp only;omega⟩) (by first|exact zR|exact⟨by dsimp only;omega,by dsimp only;omega⟩) (by first|exact zR|exact⟨by dsimp only;omega,by dsimp only;omega⟩) (by first|exact zR|exact⟨by dsimp only;omega,by dsimp only;omega⟩) (by first|exact zR|exact⟨by dsimp only;omega,by dsimp only;omega⟩) (by first|exact zR|exact⟨by dsimp only;omega,by dsimp only;omega⟩) (by first|assumption|(intro p hp;cases hp)) (by first|assumption|(dsimp only;omega)|(show((0:Nat):Int)≤2;decide)) (fun h=>by first|exact Bool.noConfusion (show false=true from h)|rfl|exact(by decide:∀ x∈([⟨[97,110,110]⟩,⟨[98,111,98]⟩,⟨[100,97,110]⟩]:List u0),u7 x=true) _ (List.getElem_mem _))
          ·refine .q 7 hG ⟨fun hc120 => ?_,fun hc120 => ?_⟩
           ·refine .q 2 hG ⟨fun hc120y => ?_,fun y=>absurd hc120 y⟩
            refine .q 4 hG ?_
            refine .sb (by first|omega|(simp;done)|(simp;omega)|(simp at *;omega)) (by first|omega|(simp;done)|(simp;omega)|(simp at *;omega)) (.h (.H9 hG (K8 _ _ _ _ (by first|assumption|exact l8 _) (by first|omega|(simp;done)|(simp;omega)|(simp at *;omega)) (by first|omega|(simp;done)|(simp;omega)|(simp at *;omega)) (by first|omega|(simp;done)|(simp;omega)|(simp at *;omega))) .z5 (.cons (.t a8) (.cons (.i a8) (.cons (.t a8) .nil))) (by rintro _ _ ⟨_,_,_,_,_,_,rfl⟩;exact⟨_,rfl⟩) fun r127 B127 hr127 => ?_))
            obtain⟨v127,d127,h0127,h1127,hd127,rfl,hB⟩:=hr127
            cases hB
            refine .q 5 hG ?_
            refine .p (.Q4 q9 (.t a8) .z2 (.n (.W1 q9 (.t a8) (.t a8) .z3 ?_)))
            refine .q 2 hG ?_
            refine⟨_,.r1 a8 (.cell q9 a8 .z3),?_⟩
            refine⟨_,.cons .z5 (.nil),?_⟩
            dsimp only at *
            first|(have hh:kk=2:=(by omega);subst hh)|(have hh:kk=3:=(by omega);subst hh)|(have hh:kk=4:=(by omega);subst hh)|(have hh:kk=5:=(by omega);subst hh)|(have hh:kk=6:=(by omega);subst hh)|(have hh:kk=7:=(by omega);subst hh)|(have hh:kk=8:=(by omega);subst hh)|(have hh:kk=9:=(by omega);subst hh)|(have hh:kk=10:=(by omega);subst hh)|(have hh:kk=11:=(by omega);subst hh)|(have hh:kk=12:=(by omega);subst hh)|(have hh:kk=13:=(by omega);subst hh)|(have hh:kk=14:=(by omega);subst hh)|(have hh:kk=15:=(by omega);subst hh)|(have hh:kk=16:=(by omega);subst hh)|(have hh:kk=17:=(by omega);subst hh)|(have hh:kk=18:=(by omega);subst hh)|(have hh:kk=19:=(by omega);subst hh)|(have hh:kk=20:=(by omega);subst hh)|(have hh:kk=21:=(by omega);subst hh)|(have hh:kk=22:=(by omega);subst hh)|(have hh:kk=1:=(by omega);subst hh)|(exfalso;omega)
            exact y9 ⟨by dsimp only;omega,by dsimp only;omega⟩ (by assumption) rfl (by first|exact zR|exact⟨by dsimp only;omega,by dsimp only;omega⟩) (by first|exact zR|exact⟨by dsimp only;omega,by dsimp only;omega⟩) (by first|exact zR|exact⟨by dsimp only;omega,by dsimp only;omega⟩) (by first|exact zR|exact⟨by dsimp only;omega,by dsimp only;omega⟩) (by first|exact zR|exact⟨by dsimp only;omega,by dsimp only;omega⟩) (by first|exact zR|exact⟨by dsimp only;omega,by dsimp only;omega⟩) (by first|exact zR|exact⟨by dsimp only;omega,by dsimp only;omega⟩) (by first|assumption|(intro p hp;cases hp)) (by first|assumption|(dsimp only;omega)|(show((0:Nat):Int)≤2;decide)) (fun h=>by first|exact Bool.noConfusion (show false=true from h)|rfl|exact(by decide:∀ x∈([⟨[97,110,110]⟩,⟨[98,111,98]⟩,⟨[100,97,110]⟩]:List u0),u7 x=true) _ (List.getElem_mem _))
           ·refine .q 5 hG ⟨fun hc120 => ?_,fun hc120 => ?_⟩
            ·refine .q 4 hG ?_
             refine .sb (by first|omega|(simp;done)|(simp;omega)|(simp at *;omega)) (by first|omega|(simp;done)|(simp;omega)|(simp at *;omega)) (.h (.H9 hG (K8 _ _ _ _ (by first|assumption|exact l8 _) (by first|omega|(simp;done)|(simp;omega)|(simp at *;omega)) (by first|omega|(simp;done)|(simp;omega)|(simp at *;omega)) (by first|omega|(simp;done)|(simp;omega)|(simp at *;omega))) .z5 (.cons (.t a8) (.cons (.i a8) (.cons (.t a8) .nil))) (by rintro _ _ ⟨_,_,_,_,_,_,rfl⟩;exact⟨_,rfl⟩) fun r127 B127 hr127 => ?_))
             obtain⟨v127,d127,h0127,h1127,hd127,rfl,hB⟩:=hr127
             cases hB
             refine .q 5 hG ?_
             refine .p (.Q4 q9 (.t a8) .z2 (.n (.W1 q9 (.t a8) (.t a8) .z3 ?_)))
             refine .q 2 hG ?_
             refine⟨_,.r1 a8 (.cell q9 a8 .z3),?_⟩
             refine⟨_,.cons .z5 (.nil),?_⟩
             dsimp only at *
             first|(have hh:kk=2:=(by omega);subst hh)|(have hh:kk=3:=(by omega);subst hh)|(have hh:kk=4:=(by omega);subst hh)|(have hh:kk=5:=(by omega);subst hh)|(have hh:kk=6:=(by omega);subst hh)|(have hh:kk=7:=(by omega);subst hh)|(have hh:kk=8:=(by omega);subst hh)|(have hh:kk=9:=(by omega);subst hh)|(have hh:kk=10:=(by omega);subst hh)|(have hh:kk=11:=(by omega);subst hh)|(have hh:kk=12:=(by omega);subst hh)|(have hh:kk=13:=(by omega);subst hh)|(have hh:kk=14:=(by omega);subst hh)|(have hh:kk=15:=(by omega);subst hh)|(have hh:kk=16:=(by omega);subst hh)|(have hh:kk=17:=(by omega);subst hh)|(have hh:kk=18:=(by omega);subst hh)|(have hh:kk=19:=(by omega);subst hh)|(have hh:kk=20:=(by omega);subst hh)|(have hh:kk=21:=(by omega);subst hh)|(have hh:kk=22:=(by omega);subst hh)|(have hh:kk=1:=(by omega);subst hh)|(exfalso;omega)
             exact y9 ⟨by dsimp only;omega,by dsimp only;omega⟩ (by assumption) rfl (by first|exact zR|exact⟨by dsimp only;omega,by dsimp only;omega⟩) (by first|exact zR|exact⟨by dsimp only;omega,by dsimp only;omega⟩) (by first|exact zR|exact⟨by dsimp only;omega,by dsimp only;omega⟩) (by first|exact zR|exact⟨by dsimp only;omega,by dsimp only;omega⟩) (by first|exact zR|exact⟨by dsimp only;omega,by dsimp only;omega⟩) (by first|exact zR|exact⟨by dsimp only;omega,by dsimp only;omega⟩) (by first|exact zR|exact⟨by dsimp only;omega,by dsimp only;omega⟩) (by first|assumption|(intro p hp;cases hp)) (by first|assumption|(dsimp only;omega)|(show((0:Nat):Int)≤2;decide)) (fun h=>by first|exact Bool.noConfusion (show false=true from h)|rfl|exact(by decide:∀ x∈([⟨[97,110,110]⟩,⟨[98,111,98]⟩,⟨[100,97,110]⟩]:List u0),u7 x=true) _ (List.getElem_mem _))
            ·refine .q 6 hG ⟨fun hc129 => ?_,fun hc129 => ?_⟩
             ·refine .D7 [j1,j1,j0,j1,j1,j0] (by kernel_rfl) 13 [[],[],[(132,1)],[],[],[],[(136,5),(131,0)],[],[(137,7),(133,2)],[],[(138,9),(134,3)],[],[(139,11),(135,4)]] [2,6,8,10,12] a8 (by kernel_rfl) a8 (by kernel_rfl) (by decide) ?_
              refine⟨_,fun H=>j7.move (.t a8) a8,?_⟩
              refine⟨_,fun H=>j7.move (.t a8) a8,?_⟩
              refine .inl ?_
              refine⟨_,fun H=>j7.move (.t a8) a8,?_⟩
              refine⟨_,fun H=>j7.Q4 W8 (.t a8) (C1.app .z) a8,?_⟩
              refine⟨_,fun H=>j7.y7 j4.l1 F5 a8 (.t a8) a8,?_⟩
              refine .inl ?_
              refine⟨_,fun H=>j7.y7 j4.l2 I8 a8 (.t a8) a8,?_⟩
              refine .inl ?_
              refine⟨_,fun H=>j7.y7 j4.l3 R1 a8 (.t a8) a8,?_⟩
              refine .inl ?_
              refine⟨_,fun H=>j7.y7 j4.l7 P6 a8 (.t a8) a8,?_⟩
              refine .inl ?_
              refine⟨⟨([],j2 [c8,c8,_,c8,c8,_]),a8⟩,?_⟩
              refine A9.H9 hG (x5 _ _ _ (by first|assumption|exact l8 _) (by first|omega|(simp;done)|(simp;omega)|(simp at *;omega)) (by first|omega|(simp;done)|(simp;omega)|(simp at *;omega))) .z5 (.cons (.t rfl) (.cons (.i rfl) .nil)) (by rintro _ _ ⟨_,_,_,_,_,_,rfl⟩;exact⟨_,rfl⟩) fun r133 B133 hr133 => ?_
              obtain⟨v133,d133,h0133,h1133,hd133,rfl,hB⟩:=hr133
              cases hB
              refine⟨⟨([],j2 [c8,c8,_,c8,c8,_]),a8⟩,?_⟩
              refine A9.K3 (fun y x => { x with A:=y }) A3 (.t rfl) (.t rfl) .z2 (fun _ _=>rfl) ?_
              refine⟨⟨([],j2 [c8,c8,_,c8,c8,_]),a8⟩,?_⟩
              refine A9.K3 (fun y x => { x with B:=y }) A3 (.t rfl) (.t rfl) .z2 (fun _ _=>rfl) ?_
              refine⟨⟨([],j2 [c8,c8,_,c8,c8,_]),a8⟩,?_⟩
              refine A9.K3 (fun y x => { x with N:=y }) A3 (.t rfl) (.t rfl) .z2 (fun _ _=>rfl) ?_
              refine⟨⟨([],j2 [c8,c8,_,c8,c8,_]),a8⟩,?_⟩
              refine A9.K3 (fun y x => { x with Context:=y }) W8 (.t rfl) (.t rfl) .z2 (fun _ _=>rfl) ?_
              refine⟨⟨([],j2 [c8,c8,_,c8,c8,_]),a8⟩,?_⟩
              show C4 _ _ _ _ _ [] ((139,_)::(138,_)::(137,_)::(136,_)::(135,_)::(134,_)::(133,_)::(132,_)::(131,_)::_) _
              refine .q 3 hG ?_
              refine .p (.Q4 q9 (.t a8) .z2 (.n (.W1 q9 (.t a8) (.t a8) .z3 ?_)))
              refine .q 2 hG ?_
              refine⟨_,.r1 a8 (.cell q9 a8 .z3),?_⟩
              refine⟨_,.cons .z5 (.nil),?_⟩
              dsimp only at *
              first|(have hh:kk=2:=(by omega);subst hh)|(have hh:kk=3:=(by omega);subst hh)|(have hh:kk=4:=(by omega);subst hh)|(have hh:kk=5:=(by omega);subst hh)|(have hh:kk=6:=(by omega);subst hh)|(have hh:kk=7:=(by omega);subst hh)|(have hh:kk=8:=(by omega);subst hh)|(have hh:kk=9:=(by omega);subst hh)|(have hh:kk=10:=(by omega);subst hh)|(have hh:kk=11:=(by omega);subst hh)|(have hh:kk=12:=(by omega);subst hh)|(have hh:kk=13:=(by omega);subst hh)|(have hh:kk=14:=(by omega);subst hh)|(have hh:kk=15:=(by omega);subst hh)|(have hh:kk=16:=(by omega);subst hh)|(have hh:kk=17:=(by omega);subst hh)|(have hh:kk=18:=(by omega);subst hh)|(have hh:kk=19:=(by omega);subst hh)|(have hh:kk=20:=(by omega);subst hh)|(have hh:kk=21:=(by omega);subst hh)|(have hh:kk=22:=(by omega);subst hh)|(have hh:kk=1:=(by omega);subst hh)|(exfalso;omega)
              exact y9 ⟨by dsimp only;omega,by dsimp only;omega⟩ (by assumption) rfl (by first|exact zR|exact⟨by dsimp only;omega,by dsimp only;omega⟩) (by first|exact zR|exact⟨by dsimp only;omega,by dsimp only;omega⟩) (by first|exact zR|exact⟨by dsimp only;omega,by dsimp only;omega⟩) (by first|exact zR|exact⟨by dsimp only;omega,by dsimp only;omega⟩) (by first|exact zR|exact⟨by dsimp only;omega,by dsimp only;omega⟩) (by first|exact zR|exact⟨by dsimp only;omega,by dsimp only;omega⟩) (by first|exact zR|exact⟨by dsimp only;omega,by dsimp only;omega⟩) (by first|assumption|(intro p hp;cases hp)) (by first|assumption|(dsimp only;omega)|(show((0:Nat):Int)≤2;decide)) (fun h=>by first|exact Bool.noConfusion (show false=true from h)|rfl|exact(by decide:∀ x∈([⟨[97,110,110]⟩,⟨[98,111,98]⟩,⟨[100,97,110]⟩]:List u0),u7 x=true) _ (List.getElem_mem _))
             ·refine .q 7 hG ⟨fun hc140 => ?_,fun hc140 => ?_⟩
              ·refine .q 2 hG ⟨fun hc140y => ?_,fun y=>absurd hc140 y⟩
               refine .q 2 hG ?_
               refine .km hG (x5 _ _ _ (by first|assumption|exact l8 _) (by first|omega|(simp;done)|(simp;omega)|(simp at *;omega)) (by first|omega|(simp;done)|(simp;omega)|(simp at *;omega))) .z5 (by rintro _ _ ⟨_,_,_,_,_,_,rfl⟩;exact⟨_,rfl⟩) fun r145 B145 hr145 => ?_
               obtain⟨v145,d145,h0145,h1145,hd145,rfl,hB⟩:=hr145
               cases hB
               refine .q 5 hG ?_
               refine .p (.Q4 q9 (.t a8) .z2 (.n (.W1 q9 (.t a8) (.t a8) .z3 ?_)))
               refine .q 2 hG ?_
               refine⟨_,.r1 a8 (.cell q9 a8 .z3),?_⟩
               refine⟨_,.cons .z5 (.nil),?_⟩
               dsimp only at *
               first|(have hh:kk=2:=(by omega);subst hh)|(have hh:kk=3:=(by omega);subst hh)|(have hh:kk=4:=(by omega);subst hh)|(have hh:kk=5:=(by omega);subst hh)|(have hh:kk=6:=(by omega);subst hh)|(have hh:kk=7:=(by omega);subst hh)|(have hh:kk=8:=(by omega);subst hh)|(have hh:kk=9:=(by omega);subst hh)|(have hh:kk=10:=(by omega);subst hh)|(have hh:kk=11:=(by omega);subst hh)|(have hh:kk=12:=(by omega);subst hh)|(have hh:kk=13:=(by omega);subst hh)|(have hh:kk=14:=(by omega);subst hh)|(have hh:kk=15:=(by omega);subst hh)|(have hh:kk=16:=(by omega);subst hh)|(have hh:kk=17:=(by omega);subst hh)|(have hh:kk=18:=(by omega);subst hh)|(have hh:kk=19:=(by omega);subst hh)|(have hh:kk=20:=(by omega);subst hh)|(have hh:kk=21:=(by omega);subst hh)|(have hh:kk=22:=(by omega);subst hh)|(have hh:kk=1:=(by omega);subst hh)|(exfalso;omega)
               exact y9 ⟨by dsimp only;omega,by dsimp only;omega⟩ (by assumption) rfl (by first|exact zR|exact⟨by dsimp only;omega,by dsimp only;omega⟩) (by first|exact zR|exact⟨by dsimp only;omega,by dsimp only;omega⟩) (by first|exact zR|exact⟨by dsimp only;omega,by dsimp only;omega⟩) (by first|exact zR|exact⟨by dsimp only;omega,by dsimp only;omega⟩) (by first|exact zR|exact⟨by dsimp only;omega,by dsimp only;omega⟩) (by first|exact zR|exact⟨by dsimp only;omega,by dsimp only;omega⟩) (by first|exact zR|exact⟨by dsimp only;omega,by dsimp only;omega⟩) (by first|assumption|(intro p hp;cases hp)) (by first|assumption|(dsimp only;omega)|(show((0:Nat):Int)≤2;decide)) (fun h=>by first|exact Bool.noConfusion (show false=true from h)|rfl|exact(by decide:∀ x∈([⟨[97,110,110]⟩,⟨[98,111,98]⟩,⟨[100,97,110]⟩]:List u0),u7 x=true) _ (List.getElem_mem _))
              ·refine .q 6 hG ⟨fun hc140 => ?_,fun hc140 => ?_⟩
               ·refine .q 2 hG ⟨fun hc140y => ?_,fun y=>absurd hc140 y⟩
                refine .q 2 hG ?_
                refine .km hG (x5 _ _ _ (by first|assumption|exact l8 _) (by first|omega|(simp;done)|(simp;omega)|(simp at *;omega)) (by first|omega|(simp;done)|(simp;omega)|(simp at *;omega))) .z5 (by rintro _ _ ⟨_,_,_,_,_,_,rfl⟩;exact⟨_,rfl⟩) fun r145 B145 hr145 => ?_
                obtain⟨v145,d145,h0145,h1145,hd145,rfl,hB⟩:=hr145
                cases hB
                refine .q 5 hG ?_
                refine .p (.Q4 q9 (.t a8) .z2 (.n (.W1 q9 (.t a8) (.t a8) .z3 ?_)))
                refine .q 2 hG ?_
                refine⟨_,.r1 a8 (.cell q9 a8 .z3),?_⟩
                refine⟨_,.cons .z5 (.nil),?_⟩
                dsimp only at *
                first|(have hh:kk=2:=(by omega);subst hh)|(have hh:kk=3:=(by omega);subst hh)|(have hh:kk=4:=(by omega);subst hh)|(have hh:kk=5:=(by omega);subst hh)|(have hh:kk=6:=(by omega);subst hh)|(have hh:kk=7:=(by omega);subst hh)|(have hh:kk=8:=(by omega);subst hh)|(have hh:kk=9:=(by omega);subst hh)|(have hh:kk=10:=(by omega);subst hh)|(have hh:kk=11:=(by omega);subst hh)|(have hh:kk=12:=(by omega);subst hh)|(have hh:kk=13:=(by omega);subst hh)|(have hh:kk=14:=(by omega);subst hh)|(have hh:kk=15:=(by omega);subst hh)|(have hh:kk=16:=(by omega);subst hh)|(have hh:kk=17:=(by omega);subst hh)|(have hh:kk=18:=(by omega);subst hh)|(have hh:kk=19:=(by omega);subst hh)|(have hh:kk=20:=(by omega);subst hh)|(have hh:kk=21:=(by omega);subst hh)|(have hh:kk=22:=(by omega);subst hh)|(have hh:kk=1:=(by omega);subst hh)|(exfalso;omega)
                exact y9 ⟨by dsimp only;omega,by dsimp only;omega⟩ (by assumption) rfl (by first|exact zR|exact⟨by dsimp only;omega,by dsimp only;omega⟩) (by first|exact zR|exact⟨by dsimp only;omega,by dsimp only;omega⟩) (by first|exact zR|exact⟨by dsimp only;omega,by dsimp only;omega⟩) (by first|exact zR|exact⟨by dsimp only;omega,by dsimp only;omega⟩) (by first|exact zR|exact⟨by dsimp only;omega,by dsimp only;omega⟩) (by first|exact zR|exact⟨by dsimp only;omega,by dsimp only;omega⟩) (by first|exact zR|exact⟨by dsimp only;omega,by dsimp only;omega⟩) (by first|assumption|(intro p hp;cases hp)) (by first|assumption|(dsimp only;omega)|(show((0:Nat):Int)≤2;decide)) (fun h=>by first|exact Bool.noConfusion (show false=true from h)|rfl|exact(by decide:∀ x∈([⟨[97,110,110]⟩,⟨[98,111,98]⟩,⟨[100,97,110]⟩]:List u0),u7 x=true) _ (List.getElem_mem _))
               ·refine .q 5 hG ⟨fun hc140 => ?_,fun hc140 => ?_⟩
                ·refine .q 2 hG ?_
                 refine .km hG (x5 _ _ _ (by first|assumption|exact l8 _) (by first|omega|(simp;done)|(simp;omega)|(simp at *;omega)) (by first|omega|(simp;done)|(simp;omega)|(simp at *;omega))) .z5 (by rintro _ _ ⟨_,_,_,_,_,_,rfl⟩;exact⟨_,rfl⟩) fun r145 B145 hr145 => ?_
                 obtain⟨v145,d145,h0145,h1145,hd145,rfl,hB⟩:=hr145
                 cases hB
                 refine .q 5 hG ?_
                 refine .p (.Q4 q9 (.t a8) .z2 (.n (.W1 q9 (.t a8) (.t a8) .z3 ?_)))
                 refine .q 2 hG ?_
                 refine⟨_,.r1 a8 (.cell q9 a8 .z3),?_⟩
                 refine⟨_,.cons .z5 (.nil),?_⟩
                 dsimp only at *
                 first|(have hh:kk=2:=(by omega);subst hh)|(have hh:kk=3:=(by omega);subst hh)|(have hh:kk=4:=(by omega);subst hh)|(have hh:kk=5:=(by omega);subst hh)|(have hh:kk=6:=(by omega);subst hh)|(have hh:kk=7:=(by omega);subst hh)|(have hh:kk=8:=(by omega);subst hh)|(have hh:kk=9:=(by omega);subst hh)|(have hh:kk=10:=(by omega);subst hh)|(have hh:kk=11:=(by omega);subst hh)|(have hh:kk=12:=(by omega);subst hh)|(have hh:kk=13:=(by omega);subst hh)|(have hh:kk=14:=(by omega);subst hh)|(have hh:kk=15:=(by omega);subst hh)|(have hh:kk=16:=(by omega);subst hh)|(have hh:kk=17:=(by omega);subst hh)|(have hh:kk=18:=(by omega);subst hh)|(have hh:kk=19:=(by omega);subst hh)|(have hh:kk=20:=(by omega);subst hh)|(have hh:kk=21:=(by omega);subst hh)|(have hh:kk=22:=(by omega);subst hh)|(have hh:kk=1:=(by omega);subst hh)|(exfalso;omega)
                 exact y9 ⟨by dsimp only;omega,by dsimp only;omega⟩ (by assumption) rfl (by first|exact zR|exact⟨by dsimp only;omega,by dsimp only;omega⟩) (by first|exact zR|exact⟨by dsimp only;omega,by dsimp only;omega⟩) (by first|exact zR|exact⟨by dsimp only;omega,by dsimp only;omega⟩) (by first|exact zR|exact⟨by dsimp only;omega,by dsimp only;omega⟩) (by first|exact zR|exact⟨by dsimp only;omega,by dsimp only;omega⟩) (by first|exact zR|exact⟨by dsimp only;omega,by dsimp only;omega⟩) (by first|exact zR|exact⟨by dsimp only;omega,by dsimp only;omega⟩) (by first|assumption|(intro p hp;cases hp)) (by first|assumption|(dsimp only;omega)|(show((0:Nat):Int)≤2;decide)) (fun h=>by first|exact Bool.noConfusion (show false=true from h)|rfl|exact(by decide:∀ x∈([⟨[97,110,110]⟩,⟨[98,111,98]⟩,⟨[100,97,110]⟩]:List u0),u7 x=true) _ (List.getElem_mem _))
                ·refine .q 6 hG ⟨fun hc147 => ?_,fun hc147 => ?_⟩
                 ·refine .q 2 hG ?_
                  refine .km hG (x5 _ _ _ (by first|assumption|exact l8 _) (by first|omega|(simp;done)|(simp;omega)|(simp at *;omega)) (by first|omega|(simp;done)|(simp;omega)|(simp at *;omega))) .z5 (by rintro _ _ ⟨_,_,_,_,_,_,rfl⟩;exact⟨_,rfl⟩) fun r150 B150 hr150 => ?_
                  obtain⟨v150,d150,h0150,h1150,hd150,rfl,hB⟩:=hr150
                  cases hB
                  refine .q 5 hG ?_
                  refine .p (.Q4 q9 (.t a8) .z2 (.n (.W1 q9 (.t a8) (.t a8) .z3 ?_)))
                  refine .q 2 hG ?_
                  refine⟨_,.r1 a8 (.cell q9 a8 .z3),?_⟩
                  refine⟨_,.cons .z5 (.nil),?_⟩
                  dsimp only at *
                  first|(have hh:kk=2:=(by omega);subst hh)|(have hh:kk=3:=(by omega);subst hh)|(have hh:kk=4:=(by omega);subst hh)|(have hh:kk=5:=(by omega);subst hh)|(have hh:kk=6:=(by omega);subst hh)|(have hh:kk=7:=(by omega);subst hh)|(have hh:kk=8:=(by omega);subst hh)|(have hh:kk=9:=(by omega);subst hh)|(have hh:kk=10:=(by omega);subst hh)|(have hh:kk=11:=(by omega);subst hh)|(have hh:kk=12:=(by omega);subst hh)|(have hh:kk=13:=(by omega);subst hh)|(have hh:kk=14:=(by omega);subst hh)|(have hh:kk=15:=(by omega);subst hh)|(have hh:kk=16:=(by omega);subst hh)|(have hh:kk=17:=(by omega);subst hh)|(have hh:kk=18:=(by omega);subst hh)|(have hh:kk=19:=(by omega);subst hh)|(have hh:kk=20:=(by omega);subst hh)|(have hh:kk=21:=(by omega);subst hh)|(have hh:kk=22:=(by omega);subst hh)|(have hh:kk=1:=(by omega);subst hh)|(exfalso;omega)
                  exact y9 ⟨by dsimp only;omega,by dsimp only;omega⟩ (by assumption) rfl (by first|exact zR|exact⟨by dsimp only;omega,by dsimp only;omega⟩) (by first|exact zR|exact⟨by dsimp only;omega,by dsimp only;omega⟩) (by first|exact zR|exact⟨by dsimp only;omega,by dsimp only;omega⟩) (by first|exact zR|exact⟨by dsimp only;omega,by dsimp only;omega⟩) (by first|exact zR|exact⟨by dsimp only;omega,by dsimp only;omega⟩) (by first|exact zR|exact⟨by dsimp only;omega,by dsimp only;omega⟩) (by first|exact zR|exact⟨by dsimp only;omega,by dsimp only;omega⟩) (by first|assumption|(intro p hp;cases hp)) (by first|assumption|(dsimp only;omega)|(show((0:Nat):Int)≤2;decide)) (fun h=>by first|exact Bool.noConfusion (show false=true from h)|rfl|exact(by decide:∀ x∈([⟨[97,110,110]⟩,⟨[98,111,98]⟩,⟨[100,97,110]⟩]:List u0),u7 x=true) _ (List.getElem_mem _))
                 ·refine .q 6 hG ⟨fun hc152 => ?_,fun hc152 => ?_⟩
                  ·refine .q 4 hG ?_
                   refine .sb (by first|omega|(simp;done)|(simp;omega)|(simp at *;omega)) (by first|omega|(simp;done)|(simp;omega)|(simp at *;omega)) (.h (.H9 hG (K8 _ _ _ _ (by first|assumption|exact l8 _) (by first|omega|(simp;done)|(simp;omega)|(simp at *;omega)) (by first|omega|(simp;done)|(simp;omega)|(simp at *;omega)) (by first|omega|(simp;done)|(simp;omega)|(simp at *;omega))) .z5 (.cons (.t a8) (.cons (.i a8) (.cons (.t a8) .nil))) (by rintro _ _ ⟨_,_,_,_,_,_,rfl⟩;exact⟨_,rfl⟩) fun r158 B158 hr158 => ?_))
                   obtain⟨v158,d158,h0158,h1158,hd158,rfl,hB⟩:=hr158
                   cases hB
                   refine .q 1 hG ?_
                   refine .km hG (x5 _ _ _ (by first|assumption|exact l8 _) (by first|omega|(simp;done)|(simp;omega)|(simp at *;omega)) (by first|omega|(simp;done)|(simp;omega)|(simp at *;omega))) .z5 (by rintro _ _ ⟨_,_,_,_,_,_,rfl⟩;exact⟨_,rfl⟩) fun r160 B160 hr160 => ?_
                   obtain⟨v160,d160,h0160,h1160,hd160,rfl,hB⟩:=hr160
                   cases hB
                   refine .q 7 hG ?_
                   refine .p (.Q4 q9 (.t a8) .z2 (.n (.W1 q9 (.t a8) (.t a8) .z3 ?_)))
                   refine .q 2 hG ?_
                   refine⟨_,.r1 a8 (.cell q9 a8 .z3),?_⟩
                   refine⟨_,.cons .z5 (.nil),?_⟩
                   dsimp only at *
                   first|(have hh:kk=2:=(by omega);subst hh)|(have hh:kk=3:=(by omega);subst hh)|(have hh:kk=4:=(by omega);subst hh)|(have hh:kk=5:=(by omega);subst hh)|(have hh:kk=6:=(by omega);subst hh)|(have hh:kk=7:=(by omega);subst hh)|(have hh:kk=8:=(by omega);subst hh)|(have hh:kk=9:=(by omega);subst hh)|(have hh:kk=10:=(by omega);subst hh)|(have hh:kk=11:=(by omega);subst hh)|(have hh:kk=12:=(by omega);subst hh)|(have hh:kk=13:=(by omega);subst hh)|(have hh:kk=14:=(by omega);subst hh)|(have hh:kk=15:=(by omega);subst hh)|(have hh:kk=16:=(by omega);subst hh)|(have hh:kk=17:=(by omega);subst hh)|(have hh:kk=18:=(by omega);subst hh)|(have hh:kk=19:=(by omega);subst hh)|(have hh:kk=20:=(by omega);subst hh)|(have hh:kk=21:=(by omega);subst hh)|(have hh:kk=22:=(by omega);subst hh)|(have hh:kk=1:=(by omega);subst hh)|(exfalso;omega)
                   exact y9 ⟨by dsimp only;omega,by dsimp only;omega⟩ (by assumption) rfl (by first|exact zR|exact⟨by dsimp only;omega,by dsimp only;omega⟩) (by first|exact zR|exact⟨by dsimp only;omega,by dsimp only;omega⟩) (by first|exact zR|exact⟨by dsimp only;omega,by dsimp only;omega⟩) (by first|exact zR|exact⟨by dsimp only;omega,by dsimp only;omega⟩) (by first|exact zR|exact⟨by dsimp only;omega,by dsimp only;omega⟩) (by first|exact zR|exact⟨by dsimp only;omega,by dsimp only;omega⟩) (by first|exact zR|exact⟨by dsimp only;omega,by dsimp only;omega⟩) (by first|assumption|(intro p hp;cases hp)) (by first|assumption|(dsimp only;omega)|(show((0:Nat):Int)≤2;decide)) (fun h=>by first|exact Bool.noConfusion (show false=true from h)|rfl|exact(by decide:∀ x∈([⟨[97,110,110]⟩,⟨[98,111,98]⟩,⟨[100,97,110]⟩]:List u0),u7 x=true) _ (List.getElem_mem _))
                  ·refine .q 6 hG ⟨fun hc163 => ?_,fun hc163 => ?_⟩
                   ·refine .q 3 hG ?_
                    refine .km hG (x5 _ _ _ (by first|assumption|exact l8 _) (by first|omega|(simp;done)|(simp;omega)|(simp at *;omega)) (by first|omega|(simp;done)|(simp;omega)|(simp at *;omega))) .z5 (by rintro _ _ ⟨_,_,_,_,_,_,rfl⟩;exact⟨_,rfl⟩) fun r167 B167 hr167 => ?_
                    obtain⟨v167,d167,h0167,h1167,hd167,rfl,hB⟩:=hr167
                    cases hB
                    refine .q 7 hG ?_
                    refine .p (.Q4 q9 (.t a8) .z2 (.n (.W1 q9 (.t a8) (.t a8) .z3 ?_)))
                    refine .q 2 hG ?_
                    refine⟨_,.r1 a8 (.cell q9 a8 .z3),?_⟩
                    refine⟨_,.cons .z5 (.nil),?_⟩
                    dsimp only at *
                    first|(have hh:kk=2:=(by omega);subst hh)|(have hh:kk=3:=(by omega);subst hh)|(have hh:kk=4:=(by omega);subst hh)|(have hh:kk=5:=(by omega);subst hh)|(have hh:kk=6:=(by omega);subst hh)|(have hh:kk=7:=(by omega);subst hh)|(have hh:kk=8:=(by omega);subst hh)|(have hh:kk=9:=(by omega);subst hh)|(have hh:kk=10:=(by omega);subst hh)|(have hh:kk=11:=(by omega);subst hh)|(have hh:kk=12:=(by omega);subst hh)|(have hh:kk=13:=(by omega);subst hh)|(have hh:kk=14:=(by omega);subst hh)|(have hh:kk=15:=(by omega);subst hh)|(have hh:kk=16:=(by omega);subst hh)|(have hh:kk=17:=(by omega);subst hh)|(have hh:kk=18:=(by omega);subst hh)|(have hh:kk=19:=(by omega);subst hh)|(have hh:kk=20:=(by omega);subst hh)|(have hh:kk=21:=(by omega);subst hh)|(have hh:kk=22:=(by omega);subst hh)|(have hh:kk=1:=(by omega);subst hh)|(exfalso;omega)
                    exact y9 ⟨by dsimp only;omega,by dsimp only;omega⟩ (by assumption) rfl (by first|exact zR|exact⟨by dsimp only;omega,by dsimp only;omega⟩) (by first|exact zR|exact⟨by dsimp only;omega,by dsimp only;omega⟩) (by first|exact zR|exact⟨by dsimp only;omega,by dsimp only;omega⟩) (by first|exact zR|exact⟨by dsimp only;omega,by dsimp only;omega⟩) (by first|exact zR|exact⟨by dsimp only;omega,by dsimp only;omega⟩) (by first|exact zR|exact⟨by dsimp only;omega,by dsimp only;omega⟩) (by first|exact zR|exact⟨by dsimp only;omega,by dsimp only;omega⟩) (by first|assumption|(intro p hp;cases hp)) (by first|assumption|(dsimp only;omega)|(show((0:Nat):Int)≤2;decide)) (fun h=>by first|exact Bool.noConfusion (show false=true from h)|rfl|exact(by decide:∀ x∈([⟨[97,110,110]⟩,⟨[98,111,98]⟩,⟨[100,97,110]⟩]:List u0),u7 x=true) _ (List.getElem_mem _))
                   ·refine .q 6 hG ⟨fun hc170 => ?_,fun hc170 => ?_⟩
                    ·refine .D7 [j1,j1,j0,j1,j1,j0] (by kernel_rfl) 14 [[],[],[(173,1)],[],[(175,3)],[],[],[(178,6),(172,0)],[],[(179,8),(174,2)],[],[(180,10),(176,4)],[],[(181,12),(177,5)]] [2,4,7,9,11,13] a8 (by kernel_rfl) a8 (by kernel_rfl) (by decide) ?_
                     refine⟨_,fun H=>j7.move (.t a8) a8,?_⟩
                     refine⟨_,fun H=>j7.move (.t a8) a8,?_⟩
                     refine .inl ?_
                     refine⟨_,fun H=>j7.move (.t a8) a8,?_⟩
                     refine .inl ?_
                     refine⟨_,fun H=>j7.Q4 W8 (.t a8) (C1.app .z) a8,?_⟩
                     refine⟨_,fun H=>j7.y7 j4.l1 F5 a8 (.t a8) a8,?_⟩
                     refine .inl ?_
                     refine⟨_,fun H=>j7.y7 j4.l2 I8 a8 (.t a8) a8,?_⟩
                     refine .inl ?_
                     refine⟨_,fun H=>j7.y7 j4.l4 a13 a8 (.t a8) a8,?_⟩
                     refine .inl ?_
                     refine⟨_,fun H=>j7.y7 j4.l7 P6 a8 (.t a8) a8,?_⟩
                     refine .inl ?_
                     refine⟨⟨([],j2 [c8,c8,_,c8,c8,_]),a8⟩,?_⟩
                     refine A9.H9 hG (x5 _ _ _ (by first|assumption|exact l8 _) (by first|omega|(simp;done)|(simp;omega)|(simp at *;omega)) (by first|omega|(simp;done)|(simp;omega)|(simp at *;omega))) .z5 (.cons (.t rfl) (.cons (.i rfl) .nil)) (by rintro _ _ ⟨_,_,_,_,_,_,rfl⟩;exact⟨_,rfl⟩) fun r174 B174 hr174 => ?_
                     obtain⟨v174,d174,h0174,h1174,hd174,rfl,hB⟩:=hr174
                     cases hB
                     refine⟨⟨([],j2 [c8,c8,_,c8,c8,_]),a8⟩,?_⟩
                     refine A9.H9 hG (P1 _ _ _ _ (by assumption) (by decide) (by decide) (by decide)) .z5 (.cons (.t rfl) (.cons (.i rfl) (.cons (.s [97,110,110] (by decide) (by decide)) .nil))) (by rintro _ _ ⟨_,_,_,_,_,_,rfl⟩;exact⟨_,rfl⟩) fun r176 B176 hr176 => ?_
                     obtain⟨l176,hl176,hp176,d176,hd176,rfl,hB⟩:=hr176
                     cases hB
                     refine⟨⟨([],j2 [c8,c8,_,c8,c8,_]),a8⟩,?_⟩
                     refine A9.K3 (fun y x => { x with A:=y }) A3 (.t rfl) (.t rfl) .z2 (fun _ _=>rfl) ?_
                     refine⟨⟨([],j2 [c8,c8,_,c8,c8,_]),a8⟩,?_⟩
                     refine A9.K3 (fun y x => { x with B:=y }) A3 (.t rfl) (.t rfl) .z2 (fun _ _=>rfl) ?_
                     refine⟨⟨([],j2 [c8,c8,_,c8,c8,_]),a8⟩,?_⟩
                     refine A9.K3 (fun y x => { x with l9:=y }) b1D (.t rfl) (.t rfl) .z2 (fun _ _=>rfl) ?_
                     refine⟨⟨([],j2 [c8,c8,_,c8,c8,_]),a8⟩,?_⟩
                     refine A9.K3 (fun y x => { x with Context:=y }) W8 (.t rfl) (.t rfl) .z2 (fun _ _=>rfl) ?_
                     refine⟨⟨([],j2 [c8,c8,_,c8,c8,_]),a8⟩,?_⟩
                     show C4 _ _ _ _ _ [] ((181,_)::(180,_)::(179,_)::(178,_)::(177,_)::(176,_)::(175,_)::(174,_)::(173,_)::(172,_)::_) _
                     refine .q 3 hG ?_
                     refine .p (.Q4 q9 (.t a8) .z2 (.n (.W1 q9 (.t a8) (.t a8) .z3 ?_)))
                     refine .q 2 hG ?_
                     refine⟨_,.r1 a8 (.cell q9 a8 .z3),?_⟩
                     refine⟨_,.cons .z5 (.nil),?_⟩
                     dsimp only at *
                     first|(have hh:kk=2:=(by omega);subst hh)|(have hh:kk=3:=(by omega);subst hh)|(have hh:kk=4:=(by omega);subst hh)|(have hh:kk=5:=(by omega);subst hh)|(have hh:kk=6:=(by omega);subst hh)|(have hh:kk=7:=(by omega);subst hh)|(have hh:kk=8:=(by omega);subst hh)|(have hh:kk=9:=(by omega);subst hh)|(have hh:kk=10:=(by omega);subst hh)|(have hh:kk=11:=(by omega);subst hh)|(have hh:kk=12:=(by omega);subst hh)|(have hh:kk=13:=(by omega);subst hh)|(have hh:kk=14:=(by omega);subst hh)|(have hh:kk=15:=(by omega);subst hh)|(have hh:kk=16:=(by omega);subst hh)|(have hh:kk=17:=(by omega);subst hh)|(have hh:kk=18:=(by omega);subst hh)|(have hh:kk=19:=(by omega);subst hh)|(have hh:kk=20:=(by omega);subst hh)|(have hh:kk=21:=(by omega);subst hh)|(have hh:kk=22:=(by omega);subst hh)|(have hh:kk=1:=(by omega);subst hh)|(exfalso;omega)
                     exact y9 ⟨by dsimp only;omega,by dsimp only;omega⟩ (by assumption) rfl (by first|exact zR|exact⟨by dsimp only;omega,by dsimp only;omega⟩) (by first|exact zR|exact⟨by dsimp only;omega,by dsimp only;omega⟩) (by first|exact zR|exact⟨by dsimp only;omega,by dsimp only;omega⟩) (by first|exact zR|exact⟨by dsimp only;omega,by dsimp only;omega⟩) (by first|exact zR|exact⟨by dsimp only;omega,by dsimp only;omega⟩) (by first|exact zR|exact⟨by dsimp only;omega,by dsimp only;omega⟩) (by first|exact zR|exact⟨by dsimp only;omega,by dsimp only;omega⟩) (by first|assumption|(intro p hp;cases hp)) (by first|assumption|(dsimp only;omega)|(show((0:Nat):Int)≤2;decide)) (fun h=>by first|exact Bool.noConfusion (show false=true from h)|rfl|exact(by decide:∀ x∈([⟨[97,110,110]⟩,⟨[98,111,98]⟩,⟨[100,97,110]⟩]:List u0),u7 x=true) _ (List.getElem_mem _))
                    ·refine .q 6 hG ⟨fun hc182 => ?_,fun hc182 => ?_⟩
                     ·refine .D7 [j1,j1,j0,j1,j1,j0] (by kernel_rfl) 10 [[],[],[(185,1)],[],[],[(188,4),(184,0)],[],[(189,6),(186,2)],[],[(190,8),(187,3)]] [2,5,7,9] a8 (by kernel_rfl) a8 (by kernel_rfl) (by decide) ?_
                      refine⟨_,fun H=>j7.move (.t a8) a8,?_⟩
                      refine⟨_,fun H=>j7.move (.t a8) a8,?_⟩
                      refine .inl ?_
                      refine⟨_,fun H=>j7.Q4 W8 (.t a8) (C1.app .z) a8,?_⟩
                      refine⟨_,fun H=>j7.y7 j4.l1 F5 a8 (.t a8) a8,?_⟩
                      refine .inl ?_
                      refine⟨_,fun H=>j7.y7 j4.l2 I8 a8 (.t a8) a8,?_⟩
                      refine .inl ?_
                      refine⟨_,fun H=>j7.y7 j4.l7 P6 a8 (.t a8) a8,?_⟩
                      refine .inl ?_
                      refine⟨⟨([],j2 [c8,c8,_,c8,c8,_]),a8⟩,?_⟩
                      refine A9.H9 hG (x5 _ _ _ (by first|assumption|exact l8 _) (by first|omega|(simp;done)|(simp;omega)|(simp at *;omega)) (by first|omega|(simp;done)|(simp;omega)|(simp at *;omega))) .z5 (.cons (.t rfl) (.cons (.i rfl) .nil)) (by rintro _ _ ⟨_,_,_,_,_,_,rfl⟩;exact⟨_,rfl⟩) fun r186 B186 hr186 => ?_
                      obtain⟨v186,d186,h0186,h1186,hd186,rfl,hB⟩:=hr186
                      cases hB
                      refine⟨⟨([],j2 [c8,c8,_,c8,c8,_]),a8⟩,?_⟩
                      refine A9.K3 (fun y x => { x with A:=y }) A3 (.t rfl) (.t rfl) .z2 (fun _ _=>rfl) ?_
                      refine⟨⟨([],j2 [c8,c8,_,c8,c8,_]),a8⟩,?_⟩
                      refine A9.K3 (fun y x => { x with B:=y }) A3 (.t rfl) (.t rfl) .z2 (fun _ _=>rfl) ?_
                      refine⟨⟨([],j2 [c8,c8,_,c8,c8,_]),a8⟩,?_⟩
                      refine A9.K3 (fun y x => { x with Context:=y }) W8 (.t rfl) (.t rfl) .z2 (fun _ _=>rfl) ?_
                      refine⟨⟨([],j2 [c8,c8,_,c8,c8,_]),a8⟩,?_⟩
                      show C4 _ _ _ _ _ [] ((190,_)::(189,_)::(188,_)::(187,_)::(186,_)::(185,_)::(184,_)::_) _
                      refine .q 3 hG ?_
                      refine .p (.Q4 q9 (.t a8) .z2 (.n (.W1 q9 (.t a8) (.t a8) .z3 ?_)))
                      refine .q 2 hG ?_
                      refine⟨_,.r1 a8 (.cell q9 a8 .z3),?_⟩
                      refine⟨_,.cons .z5 (.nil),?_⟩
                      dsimp only at *
                      first|(have hh:kk=2:=(by omega);subst hh)|(have hh:kk=3:=(by omega);subst hh)|(have hh:kk=4:=(by omega);subst hh)|(have hh:kk=5:=(by omega);subst hh)|(have hh:kk=6:=(by omega);subst hh)|(have hh:kk=7:=(by omega);subst hh)|(have hh:kk=8:=(by omega);subst hh)|(have hh:kk=9:=(by omega);subst hh)|(have hh:kk=10:=(by omega);subst hh)|(have hh:kk=11:=(by omega);subst hh)|(have hh:kk=12:=(by omega);subst hh)|(have hh:kk=13:=(by omega);subst hh)|(have hh:kk=14:=(by omega);subst hh)|(have hh:kk=15:=(by omega);subst hh)|(have hh:kk=16:=(by omega);subst hh)|(have hh:kk=17:=(by omega);subst hh)|(have hh:kk=18:=(by omega);subst hh)|(have hh:kk=19:=(by omega);subst hh)|(have hh:kk=20:=(by omega);subst hh)|(have hh:kk=21:=(by omega);subst hh)|(have hh:kk=22:=(by omega);subst hh)|(have hh:kk=1:=(by omega);subst hh)|(exfalso;omega)
                      exact y9 ⟨by dsimp only;omega,by dsimp only;omega⟩ (by assumption) rfl (by first|exact zR|exact⟨by dsimp only;omega,by dsimp only;omega⟩) (by first|exact zR|exact⟨by dsimp only;omega,by dsimp only;omega⟩) (by first|exact zR|exact⟨by dsimp only;omega,by dsimp only;omega⟩) (by first|exact zR|exact⟨by dsimp only;omega,by dsimp only;omega⟩) (by first|exact zR|exact⟨by dsimp only;omega,by dsimp only;omega⟩) (by first|exact zR|exact⟨by dsimp only;omega,by dsimp only;omega⟩) (by first|exact zR|exact⟨by dsimp only;omega,by dsimp only;omega⟩) (by first|assumption|(intro p hp;cases hp)) (by first|assumption|(dsimp only;omega)|(show((0:Nat):Int)≤2;decide)) (fun h=>by first|exact Bool.noConfusion (show false=true from h)|rfl|exact(by decide:∀ x∈([⟨[97,110,110]⟩,⟨[98,111,98]⟩,⟨[100,97,110]⟩]:List u0),u7 x=true) _ (List.getElem_mem _))
                     ·refine .q 6 hG ⟨fun hc191 => ?_,fun hc191 => ?_⟩
                      ·refine .q 3 hG ?_
                       refine .km hG (x5 _ _ _ (by first|assumption|exact l8 _) (by first|omega|(simp;done)|(simp;omega)|(simp at *;omega)) (by first|omega|(simp;done)|(simp;omega)|(simp at *;omega))) .z5 (by rintro _ _ ⟨_,_,_,_,_,_,rfl⟩;exact⟨_,rfl⟩) fun r195 B195 hr195 => ?_
                       obtain⟨v195,d195,h0195,h1195,hd195,rfl,hB⟩:=hr195
                       cases hB
                       refine .q 1 hG ?_
                       refine .km hG (x5 _ _ _ (by first|assumption|exact l8 _) (by first|omega|(simp;done)|(simp;omega)|(simp at *;omega)) (by first|omega|(simp;done)|(simp;omega)|(simp at *;omega))) .z5 (by rintro _ _ ⟨_,_,_,_,_,_,rfl⟩;exact⟨_,rfl⟩) fun r197 B197 hr197 => ?_
                       obtain⟨v197,d197,h0197,h1197,hd197,rfl,hB⟩:=hr197
                       cases hB
                       refine .q 9 hG ?_
                       refine .p (.Q4 q9 (.t a8) .z2 (.n (.W1 q9 (.t a8) (.t a8) .z3 ?_)))
                       refine .q 2 hG ?_
                       refine⟨_,.r1 a8 (.cell q9 a8 .z3),?_⟩
                       refine⟨_,.cons .z5 (.nil),?_⟩
                       dsimp only at *
                       first|(have hh:kk=2:=(by omega);subst hh)|(have hh:kk=3:=(by omega);subst hh)|(have hh:kk=4:=(by omega);subst hh)|(have hh:kk=5:=(by omega);subst hh)|(have hh:kk=6:=(by omega);subst hh)|(have hh:kk=7:=(by omega);subst hh)|(have hh:kk=8:=(by omega);subst hh)|(have hh:kk=9:=(by omega);subst hh)|(have hh:kk=10:=(by omega);subst hh)|(have hh:kk=11:=(by omega);subst hh)|(have hh:kk=12:=(by omega);subst hh)|(have hh:kk=13:=(by omega);subst hh)|(have hh:kk=14:=(by omega);subst hh)|(have hh:kk=15:=(by omega);subst hh)|(have hh:kk=16:=(by omega);subst hh)|(have hh:kk=17:=(by omega);subst hh)|(have hh:kk=18:=(by omega);subst hh)|(have hh:kk=19:=(by omega);subst hh)|(have hh:kk=20:=(by omega);subst hh)|(have hh:kk=21:=(by omega);subst hh)|(have hh:kk=22:=(by omega);subst hh)|(have hh:kk=1:=(by omega);subst hh)|(exfalso;omega)
                       exact y9 ⟨by dsimp only;omega,by dsimp only;omega⟩ (by assumption) rfl (by first|exact zR|exact⟨by dsimp only;omega,by dsimp only;omega⟩) (by first|exact zR|exact⟨by dsimp only;omega,by dsimp only;omega⟩) (by first|exact zR|exact⟨by dsimp only;omega,by dsimp only;omega⟩) (by first|exact zR|exact⟨by dsimp only;omega,by dsimp only;omega⟩) (by first|exact zR|exact⟨by dsimp only;omega,by dsimp only;omega⟩) (by first|exact zR|exact⟨by dsimp only;omega,by dsimp only;omega⟩) (by first|exact zR|exact⟨by dsimp only;omega,by dsimp only;omega⟩) (by first|assumption|(intro p hp;cases hp)) (by first|assumption|(dsimp only;omega)|(show((0:Nat):Int)≤2;decide)) (fun h=>by first|exact Bool.noConfusion (show false=true from h)|rfl|exact(by decide:∀ x∈([⟨[97,110,110]⟩,⟨[98,111,98]⟩,⟨[100,97,110]⟩]:List u0),u7 x=true) _ (List.getElem_mem _))
                      ·refine .q 3 hG ?_
                       refine .p (.Q4 q9 (.t a8) .z2 (.n (.W1 q9 (.t a8) (.t a8) .z3 ?_)))
                       refine .q 2 hG ?_
                       refine⟨_,.r1 a8 (.cell q9 a8 .z3),?_⟩
                       refine⟨_,.cons .z5 (.nil),?_⟩
                       dsimp only at *
                       first|(have hh:kk=2:=(by omega);subst hh)|(have hh:kk=3:=(by omega);subst hh)|(have hh:kk=4:=(by omega);subst hh)|(have hh:kk=5:=(by omega);subst hh)|(have hh:kk=6:=(by omega);subst hh)|(have hh:kk=7:=(by omega);subst hh)|(have hh:kk=8:=(by omega);subst hh)|(have hh:kk=9:=(by omega);subst hh)|(have hh:kk=10:=(by omega);subst hh)|(have hh:kk=11:=(by omega);subst hh)|(have hh:kk=12:=(by omega);subst hh)|(have hh:kk=13:=(by omega);subst hh)|(have hh:kk=14:=(by omega);subst hh)|(have hh:kk=15:=(by omega);subst hh)|(have hh:kk=16:=(by omega);subst hh)|(have hh:kk=17:=(by omega);subst hh)|(have hh:kk=18:=(by omega);subst hh)|(have hh:kk=19:=(by omega);subst hh)|(have hh:kk=20:=(by omega);subst hh)|(have hh:kk=21:=(by omega);subst hh)|(have hh:kk=22:=(by omega);subst hh)|(have hh:kk=1:=(by omega);subst hh)|(exfalso;omega)
                       exact y9 ⟨by dsimp only;omega,by dsimp only;omega⟩ (by assumption) rfl (by first|exact zR|exact⟨by dsimp only;omega,by dsimp only;omega⟩) (by first|exact zR|exact⟨by dsimp only;omega,by dsimp only;omega⟩) (by first|exact zR|exact⟨by dsimp only;omega,by dsimp only;omega⟩) (by first|exact zR|exact⟨by dsimp only;omega,by dsimp only;omega⟩) (by first|exact zR|exact⟨by dsimp only;omega,by dsimp only;omega⟩) (by first|exact zR|exact⟨by dsimp only;omega,by dsimp only;omega⟩) (by first|exact zR|exact⟨by dsimp only;omega,by dsimp only;omega⟩) (by first|assumption|(intro p hp;cases hp)) (by first|assumption|(dsimp only;omega)|(show((0:Nat):Int)≤2;decide)) (fun h=>by first|exact Bool.noConfusion (show false=true from h)|rfl|exact(by decide:∀ x∈([⟨[97,110,110]⟩,⟨[98,111,98]⟩,⟨[100,97,110]⟩]:List u0),u7 x=true) _ (List.getElem_mem _))
 ·refine .q 2 hG ?_
  obtain⟨kk,rfl⟩:∃ k,k=v10:=⟨_,rfl⟩
  refine .q 2 hG ?_
  refine .km hG (x5 _ _ _ (by first|assumption|exact l8 _) (by first|omega|(simp;done)|(simp;omega)|(simp at *;omega)) (by first|omega|(simp;done)|(simp;omega)|(simp at *;omega))) .z3 (by rintro _ _ ⟨_,_,_,_,_,_,rfl⟩;exact⟨_,rfl⟩) fun r22 B22 hr22 => ?_
  obtain⟨v22,d22,h022,h122,hd22,rfl,hB⟩:=hr22
  cases hB
  refine .q 1 hG ?_
  refine .km hG (x5 _ _ _ (by first|assumption|exact l8 _) (by first|omega|(simp;done)|(simp;omega)|(simp at *;omega)) (by first|omega|(simp;done)|(simp;omega)|(simp at *;omega))) .z3 (by rintro _ _ ⟨_,_,_,_,_,_,rfl⟩;exact⟨_,rfl⟩) fun r24 B24 hr24 => ?_
  obtain⟨v24,d24,h024,h124,hd24,rfl,hB⟩:=hr24
  cases hB
  refine .p (.bS3 j8.l0 j8.l1 j8.l3 a8 W8 a5z (fun c0 c1 c3=>(⟨c0,c1,0,c3⟩:j8)) (fun _ _ _=>a8) a8 a8 a8 a8 (.t a8) (.t a8) (.s [97,110,110] (by decide) (by decide)) ?_)
  refine .q 1 hG fun b6 => ?_
  refine .q 3 hG ?_
  refine .D7 [j1,j1,j1,j1,j0] (by kernel_rfl) 10 [[],[],[(27,1)],[(26,0),(28,2)],[],[],[(31,5)],[(30,4),(32,6)],[(29,3)],[(33,7)]] [3,7,8,9] a8 (by kernel_rfl) a8 (by kernel_rfl) (by decide) ?_
  refine⟨_,fun H=>j7.move (.t a8) a8,?_⟩
  refine⟨_,fun H=>j7.y7 p7.l2 a7A a8 (.t a8) a8,?_⟩
  refine⟨_,fun H=>j7.ldF (fun x=>x.a1S) A3 (.t a8) (C1.app .z3) (fun _=>a8) a8,?_⟩
  refine .inl ?_
  refine⟨_,fun H=>j7.move (.t a8) a8,?_⟩
  refine⟨_,fun H=>j7.y7 p7.l3 a5D a8 (.t a8) a8,?_⟩
  refine⟨_,fun H=>j7.ldF (fun x=>x.X2) A3 (.t a8) (C1.app .z3) (fun _=>a8) a8,?_⟩
  refine .inl (.inl (.inl ?_))
  refine⟨⟨([],j2 [c8,c8,c8,c8,_]),a8⟩,?_⟩
  refine A9.H9 hG (x5 _ _ _ (by first|assumption|exact l8 _) (by first|omega|(simp;done)|(simp;omega)|(simp at *;omega)) (by first|omega|(simp;done)|(simp;omega)|(simp at *;omega))) .z4 (.cons (.t rfl) (.cons (.t rfl) .nil)) (by rintro _ _ ⟨_,_,_,_,_,_,rfl⟩;exact⟨_,rfl⟩) fun r29 B29 hr29 => ?_
  obtain⟨v29,d29,h029,h129,hd29,rfl,hB⟩:=hr29
  cases hB
  refine⟨⟨([],j2 [c8,c8,c8,c8,_]),a8⟩,?_⟩
  refine A9.H9 hG (x5 _ _ _ (by first|assumption|exact l8 _) (by first|omega|(simp;done)|(simp;omega)|(simp at *;omega)) (by first|omega|(simp;done)|(simp;omega)|(simp at *;omega))) .z4 (.cons (.t rfl) (.cons (.t rfl) .nil)) (by rintro _ _ ⟨_,_,_,_,_,_,rfl⟩;exact⟨_,rfl⟩) fun r33 B33 hr33 => ?_
  obtain⟨v33,d33,h033,h133,hd33,rfl,hB⟩:=hr33
  cases hB
  refine⟨⟨([],j2 [c8,c8,c8,c8,_]),a8⟩,?_⟩
  refine A9.ofP (j7.assign (.t rfl) ?_)
  refine⟨⟨([],j2 [c8,c8,c8,c8,_]),a8⟩,?_⟩
  refine A9.ofP (j7.assign (.t rfl) ?_)
  refine⟨⟨([],j2 [c8,c8,c8,c8,_]),a8⟩,?_⟩
  show C4 _ _ _ _ _ [] ((8,_)::(7,_)::(33,_)::(32,_)::(31,_)::(30,_)::(29,_)::(28,_)::(27,_)::(26,_)::_) _
  refine .q 14 hG ⟨fun hc36 => ?_,fun hc36 => ?_⟩
  ·refine .q 2 hG ?_
   refine .km hG (K8 _ _ _ _ (by first|assumption|exact l8 _) (by first|omega|(simp;done)|(simp;omega)|(simp at *;omega)) (by first|omega|(simp;done)|(simp;omega)|(simp at *;omega)) (by first|omega|(simp;done)|(simp;omega)|(simp at *;omega))) .z4 (by rintro _ _ ⟨_,_,_,_,_,_,rfl⟩;exact⟨_,rfl⟩) fun r39 B39 hr39 => ?_
   obtain⟨v39,d39,h039,h139,hd39,rfl,hB⟩:=hr39
   cases hB
   refine .q 5 hG ?_
   refine .p (.Q4 q9 (.t a8) .z1 (.n (.W1 q9 (.t a8) (.t a8) .z2 ?_)))
   refine .q 2 hG ?_
   refine⟨_,.r1 a8 (.cell q9 a8 .z2),?_⟩
   refine⟨_,.cons .z4 (.nil),?_⟩
   dsimp only at *
   first|(have hh:kk=2:=(by omega);subst hh)|(have hh:kk=3:=(by omega);subst hh)|(have hh:kk=4:=(by omega);subst hh)|(have hh:kk=5:=(by omega);subst hh)|(have hh:kk=6:=(by omega);subst hh)|(have hh:kk=7:=(by omega);subst hh)|(have hh:kk=8:=(by omega);subst hh)|(have hh:kk=9:=(by omega);subst hh)|(have hh:kk=10:=(by omega);subst hh)|(have hh:kk=11:=(by omega);subst hh)|(have hh:kk=12:=(by omega);subst hh)|(have hh:kk=13:=(by omega);subst hh)|(have hh:kk=14:=(by omega);subst hh)|(have hh:kk=15:=(by omega);subst hh)|(have hh:kk=16:=(by omega);subst hh)|(have hh:kk=17:=(by omega);subst hh)|(have hh:kk=18:=(by omega);subst hh)|(have hh:kk=19:=(by omega);subst hh)|(have hh:kk=20:=(by omega);subst hh)|(have hh:kk=21:=(by omega);subst hh)|(have hh:kk=22:=(by omega);subst hh)|(have hh:kk=1:=(by omega);subst hh)|(exfalso;omega)
   exact y9 ⟨by dsimp only;omega,by dsimp only;omega⟩ (by assumption) rfl (by first|exact zR|exact⟨by dsimp only;omega,by dsimp only;omega⟩) (by first|exact zR|exact⟨by dsimp only;omega,by dsimp only;omega⟩) (by first|exact zR|exact⟨by dsimp only;omega,by dsimp only;omega⟩) (by first|exact zR|exact⟨by dsimp only;omega,by dsimp only;omega⟩) (by first|exact zR|exact⟨by dsimp only;omega,by dsimp only;omega⟩) (by first|exact zR|exact⟨by dsimp only;omega,by dsimp only;omega⟩) (by first|exact zR|exact⟨by dsimp only;omega,by dsimp only;omega⟩) (by first|assumption|(intro p hp;cases hp)) (by first|assumption|(dsimp only;omega)|(show((0:Nat):Int)≤2;decide)) (fun h=>by first|exact Bool.noConfusion (show false=true from h)|rfl|exact(by decide:∀ x∈([⟨[97,110,110]⟩,⟨[98,111,98]⟩,⟨[100,97,110]⟩]:List u0),u7 x=true) _ (List.getElem_mem _))
  ·refine .q 6 hG ⟨fun hc41 => ?_,fun hc41 => ?_⟩
   ·refine .q 3 hG ?_
    refine .km hG (P1 _ _ _ _ (by assumption) (by decide) (by decide) (by decide)) .z4 (by rintro _ _ ⟨_,_,_,_,_,_,rfl⟩;exact⟨_,rfl⟩) fun r45 B45 hr45 => ?_
    obtain⟨l45,hl45,hp45,d45,hd45,rfl,hB⟩:=hr45
    cases hB
    refine .q 7 hG ?_
    refine .p (.Q4 q9 (.t a8) .z1 (.n (.W1 q9 (.t a8) (.t a8) .z2 ?_)))
    refine .q 2 hG ?_
    refine⟨_,.r1 a8 (.cell q9 a8 .z2),?_⟩
    refine⟨_,.cons .z4 (.nil),?_⟩
    dsimp only at *
    first|(have hh:kk=2:=(by omega);subst hh)|(have hh:kk=3:=(by omega);subst hh)|(have hh:kk=4:=(by omega);subst hh)|(have hh:kk=5:=(by omega);subst hh)|(have hh:kk=6:=(by omega);subst hh)|(have hh:kk=7:=(by omega);subst hh)|(have hh:kk=8:=(by omega);subst hh)|(have hh:kk=9:=(by omega);subst hh)|(have hh:kk=10:=(by omega);subst hh)|(have hh:kk=11:=(by omega);subst hh)|(have hh:kk=12:=(by omega);subst hh)|(have hh:kk=13:=(by omega);subst hh)|(have hh:kk=14:=(by omega);subst hh)|(have hh:kk=15:=(by omega);subst hh)|(have hh:kk=16:=(by omega);subst hh)|(have hh:kk=17:=(by omega);subst hh)|(have hh:kk=18:=(by omega);subst hh)|(have hh:kk=19:=(by omega);subst hh)|(have hh:kk=20:=(by omega);subst hh)|(have hh:kk=21:=(by omega);subst hh)|(have hh:kk=22:=(by omega);subst hh)|(have hh:kk=1:=(by omega);subst hh)|(exfalso;omega)
    exact y9 ⟨by dsimp only;omega,by dsimp only;omega⟩ (by assumption) rfl (by first|exact zR|exact⟨by dsimp only;omega,by dsimp only;omega⟩) (by first|exact zR|exact⟨by dsimp only;omega,by dsimp only;omega⟩) (by first|exact zR|exact⟨by dsimp only;omega,by dsimp only;omega⟩) (by first|exact zR|exact⟨by dsimp only;omega,by dsimp only;omega⟩) (by first|exact zR|exact⟨by dsimp only;omega,by dsimp only;omega⟩) (by first|exact zR|exact⟨by dsimp only;omega,by dsimp only;omega⟩) (by first|exact zR|exact⟨by dsimp only;omega,by dsimp only;omega⟩) (by first|assumption|(intro p hp;cases hp)) (by first|assumption|(dsimp only;omega)|(show((0:Nat):Int)≤2;decide)) (fun h=>by first|exact Bool.noConfusion (show false=true from h)|rfl|exact(by decide:∀ x∈([⟨[97,110,110]⟩,⟨[98,111,98]⟩,⟨[100,97,110]⟩]:List u0),u7 x=true) _ (List.getElem_mem _))
   ·refine .q 6 hG ⟨fun hc48 => ?_,fun hc48 => ?_⟩
    ·refine .q 3 hG ?_
     refine .km hG (x5 _ _ _ (by first|assumption|exact l8 _) (by first|omega|(simp;done)|(simp;omega)|(simp at *;omega)) (by first|omega|(simp;done)|(simp;omega)|(simp at *;omega))) .z4 (by rintro _ _ ⟨_,_,_,_,_,_,rfl⟩;exact⟨_,rfl⟩) fun r52 B52 hr52 => ?_
     obtain⟨v52,d52,h052,h152,hd52,rfl,hB⟩:=hr52
     cases hB
     refine .q 1 hG ?_
     refine .km hG (x5 _ _ _ (by first|assumption|exact l8 _) (by first|omega|(simp;done)|(simp;omega)|(simp at *;omega)) (by first|omega|(simp;done)|(simp;omega)|(simp at *;omega))) .z4 (by rintro _ _ ⟨_,_,_,_,_,_,rfl⟩;exact⟨_,rfl⟩) fun r54 B54 hr54 => ?_
     obtain⟨v54,d54,h054,h154,hd54,rfl,hB⟩:=hr54
     cases hB
     refine .q 9 hG ?_
     refine .p (.Q4 q9 (.t a8) .z1 (.n (.W1 q9 (.t a8) (.t a8) .z2 ?_)))
     refine .q 2 hG ?_
     refine⟨_,.r1 a8 (.cell q9 a8 .z2),?_⟩
     refine⟨_,.cons .z4 (.nil),?_⟩
     dsimp only at *
     first|(have hh:kk=2:=(by omega);subst hh)|(have hh:kk=3:=(by omega);subst hh)|(have hh:kk=4:=(by omega);subst hh)|(have hh:kk=5:=(by omega);subst hh)|(have hh:kk=6:=(by omega);subst hh)|(have hh:kk=7:=(by omega);subst hh)|(have hh:kk=8:=(by omega);subst hh)|(have hh:kk=9:=(by omega);subst hh)|(have hh:kk=10:=(by omega);subst hh)|(have hh:kk=11:=(by omega);subst hh)|(have hh:kk=12:=(by omega);subst hh)|(have hh:kk=13:=(by omega);subst hh)|(have hh:kk=14:=(by omega);subst hh)|(have hh:kk=15:=(by omega);subst hh)|(have hh:kk=16:=(by omega);subst hh)|(have hh:kk=17:=(by omega);subst hh)|(have hh:kk=18:=(by omega);subst hh)|(have hh:kk=19:=(by omega);subst hh)|(have hh:kk=20:=(by omega);subst hh)|(have hh:kk=21:=(by omega);subst hh)|(have hh:kk=22:=(by omega);subst hh)|(have hh:kk=1:=(by omega);subst hh)|(exfalso;omega)
     exact y9 ⟨by dsimp only;omega,by dsimp only;omega⟩ (by assumption) rfl (by first|exact zR|exact⟨by dsimp only;omega,by dsimp only;omega⟩) (by first|exact zR|exact⟨by dsimp only;omega,by dsimp only;omega⟩) (by first|exact zR|exact⟨by dsimp only;omega,by dsimp only;omega⟩) (by first|exact zR|exact⟨by dsimp only;omega,by dsimp only;omega⟩) (by first|exact zR|exact⟨by dsimp only;omega,by dsimp only;omega⟩) (by first|exact zR|exact⟨by dsimp only;omega,by dsimp only;omega⟩) (by first|exact zR|exact⟨by dsimp only;omega,by dsimp only;omega⟩) (by first|assumption|(intro p hp;cases hp)) (by first|assumption|(dsimp only;omega)|(show((0:Nat):Int)≤2;decide)) (fun h=>by first|exact Bool.noConfusion (show false=true from h)|rfl|exact(by decide:∀ x∈([⟨[97,110,110]⟩,⟨[98,111,98]⟩,⟨[100,97,110]⟩]:List u0),u7 x=true) _ (List.getElem_mem _))
    ·refine .q 6 hG ⟨fun hc58 => ?_,fun hc58 => ?_⟩
     ·refine .q 3 hG ?_
      refine .km hG (K8 _ _ _ _ (by first|assumption|exact l8 _) (by first|omega|(simp;done)|(simp;omega)|(simp at *;omega)) (by first|omega|(simp;done)|(simp;omega)|(simp at *;omega)) (by first|omega|(simp;done)|(simp;omega)|(simp at *;omega))) .z4 (by rintro _ _ ⟨_,_,_,_,_,_,rfl⟩;exact⟨_,rfl⟩) fun r62 B62 hr62 => ?_
      obtain⟨v62,d62,h062,h162,hd62,rfl,hB⟩:=hr62
      cases hB
      refine .q 7 hG ?_
      refine .p (.Q4 q9 (.t a8) .z1 (.n (.W1 q9 (.t a8) (.t a8) .z2 ?_)))
      refine .q 2 hG ?_
      refine⟨_,.r1 a8 (.cell q9 a8 .z2),?_⟩
      refine⟨_,.cons .z4 (.nil),?_⟩
      dsimp only at *
      first|(have hh:kk=2:=(by omega);subst hh)|(have hh:kk=3:=(by omega);subst hh)|(have hh:kk=4:=(by omega);subst hh)|(have hh:kk=5:=(by omega);subst hh)|(have hh:kk=6:=(by omega);subst hh)|(have hh:kk=7:=(by omega);subst hh)|(have hh:kk=8:=(by omega);subst hh)|(have hh:kk=9:=(by omega);subst hh)|(have hh:kk=10:=(by omega);subst hh)|(have hh:kk=11:=(by omega);subst hh)|(have hh:kk=12:=(by omega);subst hh)|(have hh:kk=13:=(by omega);subst hh)|(have hh:kk=14:=(by omega);subst hh)|(have hh:kk=15:=(by omega);subst hh)|(have hh:kk=16:=(by omega);subst hh)|(have hh:kk=17:=(by omega);subst hh)|(have hh:kk=18:=(by omega);subst hh)|(have hh:kk=19:=(by omega);subst hh)|(have hh:kk=20:=(by omega);subst hh)|(have hh:kk=21:=(by omega);subst hh)|(have hh:kk=22:=(by omega);subst hh)|(have hh:kk=1:=(by omega);subst hh)|(exfalso;omega)
      exact y9 ⟨by dsimp only;omega,by dsimp only;omega⟩ (by assumption) rfl (by first|exact zR|exact⟨by dsimp only;omega,by dsimp only;omega⟩) (by first|exact zR|exact⟨by dsimp only;omega,by dsimp only;omega⟩) (by first|exact zR|exact⟨by dsimp only;omega,by dsimp only;omega⟩) (by first|exact zR|exact⟨by dsimp only;omega,by dsimp only;omega⟩) (by first|exact zR|exact⟨by dsimp only;omega,by dsimp only;omega⟩) (by first|exact zR|exact⟨by dsimp only;omega,by dsimp only;omega⟩) (by first|exact zR|exact⟨by dsimp only;omega,by dsimp only;omega⟩) (by first|assumption|(intro p hp;cases hp)) (by first|assumption|(dsimp only;omega)|(show((0:Nat):Int)≤2;decide)) (fun h=>by first|exact Bool.noConfusion (show false=true from h)|rfl|exact(by decide:∀ x∈([⟨[97,110,110]⟩,⟨[98,111,98]⟩,⟨[100,97,110]⟩]:List u0),u7 x=true) _ (List.getElem_mem _))
     ·refine .q 6 hG ⟨fun hc65 => ?_,fun hc65 => ?_⟩
      ·refine .q 3 hG ?_
       refine .km hG (x5 _ _ _ (by first|assumption|exact l8 _) (by first|omega|(simp;done)|(simp;omega)|(simp at *;omega)) (by first|omega|(simp;done)|(simp;omega)|(simp at *;omega))) .z4 (by rintro _ _ ⟨_,_,_,_,_,_,rfl⟩;exact⟨_,rfl⟩) fun r69 B69 hr69 => ?_
       obtain⟨v69,d69,h069,h169,hd69,rfl,hB⟩:=hr69
       cases hB
       refine .q 1 hG ?_
       refine .km hG (P1 _ _ _ _ (by assumption) (by decide) (by decide) (by decide)) .z4 (by rintro _ _ ⟨_,_,_,_,_,_,rfl⟩;exact⟨_,rfl⟩) fun r71 B71 hr71 => ?_
       obtain⟨l71,hl71,hp71,d71,hd71,rfl,hB⟩:=hr71
       cases hB
       refine .q 9 hG ?_
       refine .p (.Q4 q9 (.t a8) .z1 (.n (.W1 q9 (.t a8) (.t a8) .z2 ?_)))
       refine .q 2 hG ?_
       refine⟨_,.r1 a8 (.cell q9 a8 .z2),?_⟩
       refine⟨_,.cons .z4 (.nil),?_⟩
       dsimp only at *
       first|(have hh:kk=2:=(by omega);subst hh)|(have hh:kk=3:=(by omega);subst hh)|(have hh:kk=4:=(by omega);subst hh)|(have hh:kk=5:=(by omega);subst hh)|(have hh:kk=6:=(by omega);subst hh)|(have hh:kk=7:=(by omega);subst hh)|(have hh:kk=8:=(by omega);subst hh)|(have hh:kk=9:=(by omega);subst hh)|(have hh:kk=10:=(by omega);subst hh)|(have hh:kk=11:=(by omega);subst hh)|(have hh:kk=12:=(by omega);subst hh)|(have hh:kk=13:=(by omega);subst hh)|(have hh:kk=14:=(by omega);subst hh)|(have hh:kk=15:=(by omega);subst hh)|(have hh:kk=16:=(by omega);subst hh)|(have hh:kk=17:=(by omega);subst hh)|(have hh:kk=18:=(by omega);subst hh)|(have hh:kk=19:=(by omega);subst hh)|(have hh:kk=20:=(by omega);subst hh)|(have hh:kk=21:=(by omega);subst hh)|(have hh:kk=22:=(by omega);subst hh)|(have hh:kk=1:=(by omega);subst hh)|(exfalso;omega)
       exact y9 ⟨by dsimp only;omega,by dsimp only;omega⟩ (by assumption) rfl (by first|exact zR|exact⟨by dsimp only;omega,by dsimp only;omega⟩) (by first|exact zR|exact⟨by dsimp only;omega,by dsimp only;omega⟩) (by first|exact zR|exact⟨by dsimp only;omega,by dsimp only;omega⟩) (by first|exact zR|exact⟨by dsimp only;omega,by dsimp only;omega⟩) (by first|exact zR|exact⟨by dsimp only;omega,by dsimp only;omega⟩) (by first|exact zR|exact⟨by dsimp only;omega,by dsimp only;omega⟩) (by first|exact zR|exact⟨by dsimp only;omega,by dsimp only;omega⟩) (by first|assumption|(intro p hp;cases hp)) (by first|assumption|(dsimp only;omega)|(show((0:Nat):Int)≤2;decide)) (fun h=>by first|exact Bool.noConfusion (show false=true from h)|rfl|exact(by decide:∀ x∈([⟨[97,110,110]⟩,⟨[98,111,98]⟩,⟨[100,97,110]⟩]:List u0),u7 x=true) _ (List.getElem_mem _))
      ·refine .q 6 hG ⟨fun hc75 => ?_,fun hc75 => ?_⟩
       ·refine .q 3 hG ?_
        refine .km hG (x5 _ _ _ (by first|assumption|exact l8 _) (by first|omega|(simp;done)|(simp;omega)|(simp at *;omega)) (by first|omega|(simp;done)|(simp;omega)|(simp at *;omega))) .z4 (by rintro _ _ ⟨_,_,_,_,_,_,rfl⟩;exact⟨_,rfl⟩) fun r79 B79 hr79 => ?_
        obtain⟨v79,d79,h079,h179,hd79,rfl,hB⟩:=hr79
        cases hB
        refine .q 1 hG ?_
        refine .km hG (x5 _ _ _ (by first|assumption|exact l8 _) (by first|omega|(simp;done)|(simp;omega)|(simp at *;omega)) (by first|omega|(simp;done)|(simp;omega)|(simp at *;omega))) .z4 (by rintro _ _ ⟨_,_,_,_,_,_,rfl⟩;exact⟨_,rfl⟩) fun r81 B81 hr81 => ?_
        obtain⟨v81,d81,h081,h181,hd81,rfl,hB⟩:=hr81
        cases hB
        refine .q 1 hG ?_
        refine .km hG (x5 _ _ _ (by first|assumption|exact l8 _) (by first|omega|(simp;done)|(simp;omega)|(simp at *;omega)) (by first|omega|(simp;done)|(simp;omega)|(simp at *;omega))) .z4 (by rintro _ _ ⟨_,_,_,_,_,_,rfl⟩;exact⟨_,rfl⟩) fun r83 B83 hr83 => ?_
        obtain⟨v83,d83,h083,h183,hd83,rfl,hB⟩:=hr83
        cases hB
        refine .q 1 hG ?_
        refine .km hG (K8 _ _ _ _ (by first|assumption|exact l8 _) (by first|omega|(simp;done)|(simp;omega)|(simp at *;omega)) (by first|omega|(simp;done)|(simp;omega)|(simp at *;omega)) (by first|omega|(simp;done)|(simp;omega)|(simp at *;omega))) .z4 (by rintro _ _ ⟨_,_,_,_,_,_,rfl⟩;exact⟨_,rfl⟩) fun r85 B85 hr85 => ?_
        obtain⟨v85,d85,h085,h185,hd85,rfl,hB⟩:=hr85
        cases hB
        refine .p (.bS2 o9.l0 o9.l1 a8 a5X a7w (fun c0 c1=>(⟨c0,c1⟩:o9)) (fun _ _=>a8) a8 a8 a8 (.t a8) (.t a8) ?_)
        refine .q 11 hG ?_
        refine .p (.Q4 q9 (.t a8) .z1 (.n (.W1 q9 (.t a8) (.t a8) .z2 ?_)))
        refine .q 2 hG ?_
        refine⟨_,.r1 a8 (.cell q9 a8 .z2),?_⟩
        refine⟨_,.cons .z4 (.nil),?_⟩
        dsimp only at *
        first|(have hh:kk=2:=(by omega);subst hh)|(have hh:kk=3:=(by omega);subst hh)|(have hh:kk=4:=(by omega);subst hh)|(have hh:kk=5:=(by omega);subst hh)|(have hh:kk=6:=(by omega);subst hh)|(have hh:kk=7:=(by omega);subst hh)|(have hh:kk=8:=(by omega);subst hh)|(have hh:kk=9:=(by omega);subst hh)|(have hh:kk=10:=(by omega);subst hh)|(have hh:kk=11:=(by omega);subst hh)|(have hh:kk=12:=(by omega);subst hh)|(have hh:kk=13:=(by omega);subst hh)|(have hh:kk=14:=(by omega);subst hh)|(have hh:kk=15:=(by omega);subst hh)|(have hh:kk=16:=(by omega);subst hh)|(have hh:kk=17:=(by omega);subst hh)|(have hh:kk=18:=(by omega);subst hh)|(have hh:kk=19:=(by omega);subst hh)|(have hh:kk=20:=(by omega);subst hh)|(have hh:kk=21:=(by omega);subst hh)|(have hh:kk=22:=(by omega);subst hh)|(have hh:kk=1:=(by omega);subst hh)|(exfalso;omega)
        exact y9 ⟨by dsimp only;omega,by dsimp only;omega⟩ (by assumption) rfl (by first|exact zR|exact⟨by dsimp only;omega,by dsimp only;omega⟩) (by first|exact zR|exact⟨by dsimp only;omega,by dsimp only;omega⟩) (by first|exact zR|exact⟨by dsimp only;omega,by dsimp only;omega⟩) (by first|exact zR|exact⟨by dsimp only;omega,by dsimp only;omega⟩) (by first|exact zR|exact⟨by dsimp only;omega,by dsimp only;omega⟩) (by first|exact zR|exact⟨by dsimp only;omega,by dsimp only;omega⟩) (by first|exact zR|exact⟨by dsimp only;omega,by dsimp only;omega⟩) (by first|assumption|(intro p hp;cases hp)) (by first|assumption|(dsimp only;omega)|(show((0:Nat):Int)≤2;decide)) (fun h=>by first|exact Bool.noConfusion (show false=true from h)|rfl|exact(by decide:∀ x∈([⟨[97,110,110]⟩,⟨[98,111,98]⟩,⟨[100,97,110]⟩]:List u0),u7 x=true) _ (List.getElem_mem _))
       ·refine .q 6 hG ⟨fun hc91 => ?_,fun hc91 => ?_⟩
        ·refine .b2p [[j1,j1,j1,j1,j1],[j1,j1,j1,j1,j0],[j1,j1,j1,j1,j0],[j1,j0,j1,j1,j0],[j1,j0,j1,j1,j0],[j1,j0,j1,j1,j0]] [[j1,j1,j1,j1,j0],[j1,j1,j1,j1,j1],[],[j1,j0,j1,j1,j0],[j1,j1,j1,j1,j0],[],[j1,j0,j1,j1,j0],[j1,j0,j1,j1,j0],[j1,j1,j1,j1,j0],[],[j1,j0,j1,j1,j0],[],[j1,j0,j1,j1,j0],[]] [[],[],[6,7],[],[],[]] [] 5 (by kernel_rfl) 14 [[],[],[(94,1)],[],[],[(97,4)],[(96,3),(98,5)],[(99,6)],[],[(101,8),(93,0)],[],[(102,10),(95,2)],[],[(103,12),(100,7)]] [2,5,9,11,13] rfl (by kernel_rfl) rfl (by kernel_rfl) rfl (by decide) (by simp) (fun p hp=>by cases hp) (by kernel_rfl) rfl ?_
         refine⟨_,fun H=>j7.move (.t a8) a8,?_⟩
         refine⟨_,fun H=>j7.move (.t a8) a8,?_⟩
         refine .inl ?_
         refine⟨_,fun H=>j7.L5 (α:=u0) ty9 underlying36 (.cons (.s [97,110,110] (by decide) (by decide)) (.cons (.s [98,111,98] (by decide) (by decide)) (.cons (.s [100,97,110] (by decide) (by decide)) .nil))) a8 (by decide) a8,?_⟩
         refine⟨_,fun H=>j7.move (.t a8) a8,?_⟩
         refine .inl (.inl (.inl ?_))
         refine⟨_,fun H=>j7.y7 j4.l1 F5 a8 (.t a8) a8,?_⟩
         refine .inl ?_
         refine⟨_,fun H=>j7.y7 j4.l2 I8 a8 (.t a8) a8,?_⟩
         refine .inl ?_
         refine⟨_,fun H=>j7.y7 j4.l6 a2N a8 (.t a8) a8,?_⟩
         refine .inl ?_
         refine⟨a8,?_⟩
         refine⟨⟨j2 [c8,c8,c8,c8,c8],a8⟩,fun Ys20 => ?_⟩
         refine A9.H9 hG (x5 _ _ _ (by first|assumption|exact l8 _) (by first|omega|(simp;done)|(simp;omega)|(simp at *;omega)) (by first|omega|(simp;done)|(simp;omega)|(simp at *;omega))) (C1.app (C1.app .z4)) (.cons (.t rfl) (.cons (.i rfl) .nil)) (by rintro _ _ ⟨_,_,_,_,_,_,rfl⟩;exact⟨_,rfl⟩) fun r95 B95 hr95 => ?_
         obtain⟨v95,d95,h095,h195,hd95,rfl,hB⟩:=hr95
         cases hB
         refine⟨[],_,a8,?_⟩
         refine⟨⟨j2 [c8,c8,c8,c8,_],a8⟩,fun Ys20 => ?_⟩
         refine A9.H9 hG (x5 _ _ _ (by first|assumption|exact l8 _) (by first|omega|(simp;done)|(simp;omega)|(simp at *;omega)) (by first|omega|(simp;done)|(simp;omega)|(simp at *;omega))) (C1.app (C1.app .z4)) (.cons (.t rfl) (.cons (.i rfl) .nil)) (by rintro _ _ ⟨_,_,_,_,_,_,rfl⟩;exact⟨_,rfl⟩) fun r98 B98 hr98 => ?_
         obtain⟨v98,d98,h098,h198,hd98,rfl,hB⟩:=hr98
         cases hB
         refine⟨[],_,a8,?_⟩
         refine⟨_,fun H=>j7.idx ty9 underlying36 (.c a8) (.t a8) (by first|omega|(simp;done)|(simp;omega)|(simp at *;omega)) (by first|omega|(simp;done)|(simp;omega)|(simp at *;omega)) a8,?_⟩
         refine⟨_,fun H=>j7.F1 ty9 (.t a8) a8,?_⟩
         refine⟨⟨j2 [c8,c8,c8,c8,_],a8⟩,fun Ys20 => ?_⟩
         refine A9.K3 (fun y x => { x with A:=y }) A3 (.t rfl) (.t rfl) (C1.app (C1.app .z1)) (fun _ _=>rfl) ?_
         refine⟨[],_,a8,?_⟩
         refine⟨⟨j2 [c8,_,c8,c8,_],a8⟩,fun Ys20 => ?_⟩
         refine A9.K3 (fun y x => { x with B:=y }) A3 (.t rfl) (.t rfl) (C1.app (C1.app .z1)) (fun _ _=>rfl) ?_
         refine⟨[],_,a8,?_⟩
         refine⟨⟨j2 [c8,_,c8,c8,_],a8⟩,fun Ys20 => ?_⟩
         refine A9.K3 (fun y x => { x with F6:=y }) ty9 (.t rfl) (.t rfl) (C1.app (C1.app .z1)) (fun _ _=>rfl) ?_
         refine⟨[],_,a8,?_⟩
         refine⟨⟨j2 [c8,_,c8,c8,_],a8⟩,fun ws20 => ?_⟩
         refine⟨⟨j2 [c8,_,c8,c8,_],a8⟩,fun _ => ?_⟩
         show C4 _ _ _ _ _ [] ((103,_)::(102,_)::(101,_)::(100,_)::(99,_)::(98,_)::(97,_)::(96,_)::(95,_)::(94,_)::(93,_)::_) _
         refine .q 3 hG ?_
         refine .p (.Q4 q9 (.t a8) .z1 (.n (.W1 q9 (.t a8) (.t a8) .z2 ?_)))
         refine .q 2 hG ?_
         refine⟨_,.r1 a8 (.cell q9 a8 .z2),?_⟩
         refine⟨_,.cons .z4 (.nil),?_⟩
         dsimp only at *
         first|(have hh:kk=2:=(by omega);subst hh)|(have hh:kk=3:=(by omega);subst hh)|(have hh:kk=4:=(by omega);subst hh)|(have hh:kk=5:=(by omega);subst hh)|(have hh:kk=6:=(by omega);subst hh)|(have hh:kk=7:=(by omega);subst hh)|(have hh:kk=8:=(by omega);subst hh)|(have hh:kk=9:=(by omega);subst hh)|(have hh:kk=10:=(by omega);subst hh)|(have hh:kk=11:=(by omega);subst hh)|(have hh:kk=12:=(by omega);subst hh)|(have hh:kk=13:=(by omega);subst hh)|(have hh:kk=14:=(by omega);subst hh)|(have hh:kk=15:=(by omega);subst hh)|(have hh:kk=16:=(by omega);subst hh)|(have hh:kk=17:=(by omega);subst hh)|(have hh:kk=18:=(by omega);subst hh)|(have hh:kk=19:=(by omega);subst hh)|(have hh:kk=20:=(by omega);subst hh)|(have hh:kk=21:=(by omega);subst hh)|(have hh:kk=22:=(by omega);subst hh)|(have hh:kk=1:=(by omega);subst hh)|(exfalso;omega)
         exact y9 ⟨by dsimp only;omega,by dsimp only;omega⟩ (by assumption) rfl (by first|exact zR|exact⟨by dsimp only;omega,by dsimp only;omega⟩) (by first|exact zR|exact⟨by dsimp only;omega,by dsimp only;omega⟩) (by first|exact zR|exact⟨by dsimp only;omega,by dsimp only;omega⟩) (by first|exact zR|exact⟨by dsimp only;omega,by dsimp only;omega⟩) (by first|exact zR|exact⟨by dsimp only;omega,by dsimp only;omega⟩) (by first|exact zR|exact⟨by dsimp only;omega,by dsimp only;omega⟩) (by first|exact zR|exact⟨by dsimp only;omega,by dsimp only;omega⟩) (by first|assumption|(intro p hp;cases hp)) (by first|assumption|(dsimp only;omega)|(show((0:Nat):Int)≤2;decide)) (fun h=>by first|exact Bool.noConfusion (show false=true from h)|rfl|exact(by decide:∀ x∈([⟨[97,110,110]⟩,⟨[98,111,98]⟩,⟨[100,97,110]⟩]:List u0),u7 x=true) _ (List.getElem_mem _))
        ·refine .q 6 hG ⟨fun hc104 => ?_,fun hc104 => ?_⟩
         ·refine .D7 [j1,j1,j1,j1,j0] (by kernel_rfl) 8 [[],[],[(107,1)],[],[],[(110,4)],[(109,3),(111,5)],[]] [2,6] a8 (by kernel_rfl) a8 (by kernel_rfl) (by decide) ?_
          refine⟨_,fun H=>j7.move (.t a8) a8,?_⟩
          refine⟨_,fun H=>j7.move (.t a8) a8,?_⟩
          refine .inl ?_
          refine⟨_,fun H=>j7.move (.t a8) a8,?_⟩
          refine⟨_,fun H=>j7.y7 p7.l3 a5D a8 (.t a8) a8,?_⟩
          refine⟨_,fun H=>j7.ldF (fun x=>x.X2) A3 (.t a8) (C1.app .z3) (fun _=>a8) a8,?_⟩
          refine .inl ?_
          refine⟨_,fun H=>j7.y7 j4.l1 F5 a8 (.t a8) a8,?_⟩
          refine⟨⟨([],j2 [c8,c8,c8,c8,_]),a8⟩,?_⟩
          refine A9.H9 hG (x5 _ _ _ (by first|assumption|exact l8 _) (by first|omega|(simp;done)|(simp;omega)|(simp at *;omega)) (by first|omega|(simp;done)|(simp;omega)|(simp at *;omega))) .z4 (.cons (.t rfl) (.cons (.i rfl) .nil)) (by rintro _ _ ⟨_,_,_,_,_,_,rfl⟩;exact⟨_,rfl⟩) fun r108 B108 hr108 => ?_
          obtain⟨v108,d108,h0108,h1108,hd108,rfl,hB⟩:=hr108
          cases hB
          refine⟨⟨([],j2 [c8,c8,c8,c8,_]),a8⟩,?_⟩
          refine A9.H9 hG (x5 _ _ _ (by first|assumption|exact l8 _) (by first|omega|(simp;done)|(simp;omega)|(simp at *;omega)) (by first|omega|(simp;done)|(simp;omega)|(simp at *;omega))) .z4 (.cons (.t rfl) (.cons (.t rfl) .nil)) (by rintro _ _ ⟨_,_,_,_,_,_,rfl⟩;exact⟨_,rfl⟩) fun r112 B112 hr112 => ?_
          obtain⟨v112,d112,h0112,h1112,hd112,rfl,hB⟩:=hr112
          cases hB
          refine⟨⟨([],j2 [c8,c8,c8,c8,_]),a8⟩,?_⟩
          show C4 _ _ _ _ _ [_,_,_,_,_] ((113,_)::(112,_)::(111,_)::(110,_)::(109,_)::(108,_)::(107,_)::(106,_)::_) _
          refine .q 8 hG ?_
          refine .p (.Q4 q9 (.t a8) .z1 (.n (.W1 q9 (.t a8) (.t a8) .z2 ?_)))
          refine .q 2 hG ?_
          refine⟨_,.r1 a8 (.cell q9 a8 .z2),?_⟩
          refine⟨_,.cons .z4 (.nil),?_⟩
          dsimp only at *
          first|(have hh:kk=2:=(by omega);subst hh)|(have hh:kk=3:=(by omega);subst hh)|(have hh:kk=4:=(by omega);subst hh)|(have hh:kk=5:=(by omega);subst hh)|(have hh:kk=6:=(by omega);subst hh)|(have hh:kk=7:=(by omega);subst hh)|(have hh:kk=8:=(by omega);subst hh)|(have hh:kk=9:=(by omega);subst hh)|(have hh:kk=10:=(by omega);subst hh)|(have hh:kk=11:=(by omega);subst hh)|(have hh:kk=12:=(by omega);subst hh)|(have hh:kk=13:=(by omega);subst hh)|(have hh:kk=14:=(by omega);subst hh)|(have hh:kk=15:=(by omega);subst hh)|(have hh:kk=16:=(by omega);subst hh)|(have hh:kk=17:=(by omega);subst hh)|(have hh:kk=18:=(by omega);subst hh)|(have hh:kk=19:=(by omega);subst hh)|(have hh:kk=20:=(by omega);subst hh)|(have hh:kk=21:=(by omega);subst hh)|(have hh:kk=22:=(by omega);subst hh)|(have hh:kk=1:=(by omega);subst hh)|(exfalso;omega)
          exact y9 ⟨by dsimp only;omega,by dsimp only;omega⟩ (by assumption) rfl (by first|exact zR|exact⟨by dsimp only;omega,by dsimp only;omega⟩) (by first|exact zR|exact⟨by dsimp only;omega,by dsimp only;omega⟩) (by first|exact zR|exact⟨by dsimp only;omega,by dsimp only;omega⟩) (by first|exact zR|exact⟨by dsimp only;omega,by dsimp only;omega⟩) (by first|exact zR|exact⟨by dsimp only;omega,by dsimp only;omega⟩) (by first|exact zR|exact⟨by dsimp only;omega,by dsimp only;omega⟩) (by first|exact zR|exact⟨by dsimp only;omega,by dsimp only;omega⟩) (by first|assumption|(intro p hp;cases hp)) (by first|assumption|(dsimp only;omega)|(show((0:Nat):Int)≤2;decide)) (fun h=>by first|exact Bool.noConfusion (show false=true from h)|rfl|exact(by decide:∀ x∈([⟨[97,110,110]⟩,⟨[98,111,98]⟩,⟨[100,97,110]⟩]:List u0),u7 x=true) _ (List.getElem_mem _))
         ·refine .q 6 hG ⟨fun hc116 => ?_,fun hc116 => ?_⟩
          ·refine .q 7 hG ?_
           refine .p (.Q4 q9 (.t a8) .z1 (.n (.W1 q9 (.t a8) (.t a8) .z2 ?_)))
           refine .q 2 hG ?_
           refine⟨_,.r1 a8 (.cell q9 a8 .z2),?_⟩
           refine⟨_,.cons .z4 (.nil),?_⟩
           dsimp only at *
           first|(have hh:kk=2:=(by omega);subst hh)|(have hh:kk=3:=(by omega);subst hh)|(have hh:kk=4:=(by omega);subst hh)|(have hh:kk=5:=(by omega);subst hh)|(have hh:kk=6:=(by omega);subst hh)|(have hh:kk=7:=(by omega);subst hh)|(have hh:kk=8:=(by omega);subst hh)|(have hh:kk=9:=(by omega);subst hh)|(have hh:kk=10:=(by omega);subst hh)|(have hh:kk=11:=(by omega);subst hh)|(have hh:kk=12:=(by omega);subst hh)|(have hh:kk=13:=(by omega);subst hh)|(have hh:kk=14:=(by omega);subst hh)|(have hh:kk=15:=(by omega);subst hh)|(have hh:kk=16:=(by omega);subst hh)|(have hh:kk=17:=(by omega);subst hh)|(have hh:kk=18:=(by omega);subst hh)|(have hh:kk=19:=(by omega);subst hh)|(have hh:kk=20:=(by omega);subst hh)|(have hh:kk=21:=(by omega);subst hh)|(have hh:kk=22:=(by omega);subst hh)|(have hh:kk=1:=(by omega);subst hh)|(exfalso;omega)
           exact y9 ⟨by dsimp only;omega,by dsimp only;omega⟩ (by assumption) rfl (by first|exact zR|exact⟨by dsimp only;omega,by dsimp only;omega⟩) (by first|exact zR|exact⟨by dsimp only;omega,by dsimp only;omega⟩) (by first|exact zR|exact⟨by dsimp only;omega,by dsimp only;omega⟩) (by first|exact zR|exact⟨by dsimp only;omega,by dsimp only;omega⟩) (by first|exact zR|exact⟨by dsimp only;omega,by dsimp only;omega⟩) (by first|exact zR|exact⟨by dsimp only;omega,by dsimp only;omega⟩) (by first|exact zR|exact⟨by dsimp only;omega,by dsimp only;omega⟩) (by first|assumption|(intro p hp;cases hp)) (by first|assumption|(dsimp only;omega)|(show((0:Nat):Int)≤2;decide)) (fun h=>by first|exact Bool.noConfusion (show false=true from h)|rfl|exact(by decide:∀ x∈([⟨[97,110,110]⟩,⟨[98,111,98]⟩,⟨[100,97,110]⟩]:List u0),u7 x=true) _ (List.getElem_mem _))
          ·refine .q 7 hG ⟨fun hc120 => ?_,fun hc120 => ?_⟩
           ·refine .q 2 hG ⟨fun hc120y => ?_,fun y=>absurd hc120 y⟩
            refine .q 4 hG ?_
            refine .sb (by first|omega|(simp;done)|(simp;omega)|(simp at *;omega)) (by first|omega|(simp;done)|(simp;omega)|(simp at *;omega)) (.h (.H9 hG (K8 _ _ _ _ (by first|assumption|exact l8 _) (by first|omega|(simp;done)|(simp;omega)|(simp at *;omega)) (by first|omega|(simp;done)|(simp;omega)|(simp at *;omega)) (by first|omega|(simp;done)|(simp;omega)|(simp at *;omega))) .z4 (.cons (.t a8) (.cons (.i a8) (.cons (.t a8) .nil))) (by rintro _ _ ⟨_,_,_,_,_,_,rfl⟩;exact⟨_,rfl⟩) fun r127 B127 hr127 => ?_))
            obtain⟨v127,d127,h0127,h1127,hd127,rfl,hB⟩:=hr127
            cases hB
            refine .q 5 hG ?_
            refine .p (.Q4 q9 (.t a8) .z1 (.n (.W1 q9 (.t a8) (.t a8) .z2 ?_)))
            refine .q 2 hG ?_
            refine⟨_,.r1 a8 (.cell q9 a8 .z2),?_⟩
            refine⟨_,.cons .z4 (.nil),?_⟩
            dsimp only at *
            first|(have hh:kk=2:=(by omega);subst hh)|(have hh:kk=3:=(by omega);subst hh)|(have hh:kk=4:=(by omega);subst hh)|(have hh:kk=5:=(by omega);subst hh)|(have hh:kk=6:=(by omega);subst hh)|(have hh:kk=7:=(by omega);subst hh)|(have hh:kk=8:=(by omega);subst hh)|(have hh:kk=9:=(by omega);subst hh)|(have hh:kk=10:=(by omega);subst hh)|(have hh:kk=11:=(by omega);subst hh)|(have hh:kk=12:=(by omega);subst hh)|(have hh:kk=13:=(by omega);subst hh)|(have hh:kk=14:=(by omega);subst hh)|(have hh:kk=15:=(by omega);subst hh)|(have hh:kk=16:=(by omega);subst hh)|(have hh:kk=17:=(by omega);subst hh)|(have hh:kk=18:=(by omega);subst hh)|(have hh:kk=19:=(by omega);subst hh)|(have hh:kk=20:=(by omega);subst hh)|(have hh:kk=21:=(by omega);subst hh)|(have hh:kk=22:=(by omega);subst hh)|(have hh:kk=1:=(by omega);subst hh)|(exfalso;omega)
            exact y9 ⟨by dsimp only;omega,by dsimp only;omega⟩ (by assumption) rfl (by first|exact zR|exact⟨by dsimp only;omega,by dsimp only;omega⟩) (by first|exact zR|exact⟨by dsimp only;omega,by dsimp only;omega⟩) (by first|exact zR|exact⟨by dsimp only;omega,by dsimp only;omega⟩) (by first|exact zR|exact⟨by dsimp only;omega,by dsimp only;omega⟩) (by first|exact zR|exact⟨by dsimp only;omega,by dsimp only;omega⟩) (by first|exact zR|exact⟨by dsimp only;omega,by dsimp only;omega⟩) (by first|exact zR|exact⟨by dsimp only;omega,by dsimp only;omega⟩) (by first|assumption|(intro p hp;cases hp)) (by first|assumption|(dsimp only;omega)|(show((0:Nat):Int)≤2;decide)) (fun h=>by first|exact Bool.noConfusion (show false=true from h)|rfl|exact(by decide:∀ x∈([⟨[97,110,110]⟩,⟨[98,111,98]⟩,⟨[100,97,110]⟩]:List u0),u7 x=true) _ (List.getElem_mem _))
           ·refine .q 5 hG ⟨fun hc120 => ?_,fun hc120 => ?_⟩
            ·refine .q 4 hG ?_
             refine .sb (by first|omega|(simp;done)|(simp;omega)|(simp at *;omega)) (by first|omega|(simp;done)|(simp;omega)|(simp at *;omega)) (.h (.H9 hG (K8 _ _ _ _ (by first|assumption|exact l8 _) (by first|omega|(simp;done)|(simp;omega)|(simp at *;omega)) (by first|omega|(simp;done)|(simp;omega)|(simp at *;omega)) (by first|omega|(simp;done)|(simp;omega)|(simp at *;omega))) .z4 (.cons (.t a8) (.cons (.i a8) (.cons (.t a8) .nil))) (by rintro _ _ ⟨_,_,_,_,_,_,rfl⟩;exact⟨_,rfl⟩) fun r127 B127 hr127 => ?_))
             obtain⟨v127,d127,h0127,h1127,hd127,rfl,hB⟩:=hr127
             cases hB
             refine .q 5 hG ?_
             refine .p (.Q4 q9 (.t a8) .z1 (.n (.W1 q9 (.t a8) (.t a8) .z2 ?_)))
             refine .q 2 hG ?_
             refine⟨_,.r1 a8 (.cell q9 a8 .z2),?_⟩
             refine⟨_,.cons .z4 (.nil),?_⟩
             dsimp only at *
             first|(have hh:kk=2:=(by omega);subst hh)|(have hh:kk=3:=(by omega);subst hh)|(have hh:kk=4:=(by omega);subst hh)|(have hh:kk=5:=(by omega);subst hh)|(have hh:kk=6:=(by omega);subst hh)|(have hh:kk=7:=(by omega);subst hh)|(have hh:kk=8:=(by omega);subst hh)|(have hh:kk=9:=(by omega);subst hh)|(have hh:kk=10:=(by omega);subst hh)|(have hh:kk=11:=(by omega);subst hh)|(have hh:kk=12:=(by omega);subst hh)|(have hh:kk=13:=(by omega);subst hh)|(have hh:kk=14:=(by omega);subst hh)|(have hh:kk=15:=(by omega);subst hh)|(have hh:kk=16:=(by omega);subst hh)|(have hh:kk=17:=(by omega);subst hh)|(have hh:kk=18:=(by omega);subst hh)|(have hh:kk=19:=(by omega);subst hh)|(have hh:kk=20:=(by omega);subst hh)|(have hh:kk=21:=(by omega);subst hh)|(have hh:kk=22:=(by omega);subst hh)|(have hh:kk=1:=(by omega);subst hh)|(exfalso;omega)
             exact y9 ⟨by dsimp only;omega,by dsimp only;omega⟩ (by assumption) rfl (by first|exact zR|exact⟨by dsimp only;omega,by dsimp only;omega⟩) (by first|exact zR|exact⟨by dsimp only;omega,by dsimp only;omega⟩) (by first|exact zR|exact⟨by dsimp only;omega,by dsimp only;omega⟩) (by first|exact zR|exact⟨by dsimp only;omega,by dsimp only;omega⟩) (by first|exact zR|exact⟨by dsimp only;omega,by dsimp only;omega⟩) (by first|exact zR|exact⟨by dsimp only;omega,by dsimp only;omega⟩) (by first|exact zR|exact⟨by dsimp only;omega,by dsimp only;omega⟩) (by first|assumption|(intro p hp;cases hp)) (by first|assumption|(dsimp only;omega)|(show((0:Nat):Int)≤2;decide)) (fun h=>by first|exact Bool.noConfusion (show false=true from h)|rfl|exact(by decide:∀ x∈([⟨[97,110,110]⟩,⟨[98,111,98]⟩,⟨[100,97,110]⟩]:List u0),u7 x=true) _ (List.getElem_mem _))
            ·refine .q 6 hG ⟨fun hc129 => ?_,fun hc129 => ?_⟩
             ·refine .D7 [j1,j0,j1,j1,j0] (by kernel_rfl) 13 [[],[],[(132,1)],[],[],[],[(136,5),(131,0)],[],[(137,7),(133,2)],[],[(138,9),(134,3)],[],[(139,11),(135,4)]] [2,6,8,10,12] a8 (by kernel_rfl) a8 (by kernel_rfl) (by decide) ?_
              refine⟨_,fun H=>j7.move (.t a8) a8,?_⟩
              refine⟨_,fun H=>j7.move (.t a8) a8,?_⟩
              refine .inl ?_
              refine⟨_,fun H=>j7.move (.t a8) a8,?_⟩
              refine⟨_,fun H=>j7.Q4 W8 (.t a8) (C1.app .z) a8,?_⟩
              refine⟨_,fun H=>j7.y7 j4.l1 F5 a8 (.t a8) a8,?_⟩
              refine .inl ?_
              refine⟨_,fun H=>j7.y7 j4.l2 I8 a8 (.t a8) a8,?_⟩
              refine .inl ?_
              refine⟨_,fun H=>j7.y7 j4.l3 R1 a8 (.t a8) a8,?_⟩
              refine .inl ?_
              refine⟨_,fun H=>j7.y7 j4.l7 P6 a8 (.t a8) a8,?_⟩
              refine .inl ?_
              refine⟨⟨([],j2 [c8,_,c8,c8,_]),a8⟩,?_⟩
              refine A9.H9 hG (x5 _ _ _ (by first|assumption|exact l8 _) (by first|omega|(simp;done)|(simp;omega)|(simp at *;omega)) (by first|omega|(simp;done)|(simp;omega)|(simp at *;omega))) .z4 (.cons (.t rfl) (.cons (.i rfl) .nil)) (by rintro _ _ ⟨_,_,_,_,_,_,rfl⟩;exact⟨_,rfl⟩) fun r133 B133 hr133 => ?_
              obtain⟨v133,d133,h0133,h1133,hd133,rfl,hB⟩:=hr133
              cases hB
              refine⟨⟨([],j2 [c8,_,c8,c8,_]),a8⟩,?_⟩
              refine A9.K3 (fun y x => { x with A:=y }) A3 (.t rfl) (.t rfl) .z1 (fun _ _=>rfl) ?_
              refine⟨⟨([],j2 [c8,_,c8,c8,_]),a8⟩,?_⟩
              refine A9.K3 (fun y x => { x with B:=y }) A3 (.t rfl) (.t rfl) .z1 (fun _ _=>rfl) ?_
              refine⟨⟨([],j2 [c8,_,c8,c8,_]),a8⟩,?_⟩
              refine A9.K3 (fun y x => { x with N:=y }) A3 (.t rfl) (.t rfl) .z1 (fun _ _=>rfl) ?_
              refine⟨⟨([],j2 [c8,_,c8,c8,_]),a8⟩,?_⟩
              refine A9.K3 (fun y x => { x with Context:=y }) W8 (.t rfl) (.t rfl) .z1 (fun _ _=>rfl) ?_
              refine⟨⟨([],j2 [c8,_,c8,c8,_]),a8⟩,?_⟩
              show C4 _ _ _ _ _ [] ((139,_)::(138,_)::(137,_)::(136,_)::(135,_)::(134,_)::(133,_)::(132,_)::(131,_)::_) _
              refine .q 3 hG ?_
              refine .p (.Q4 q9 (.t a8) .z1 (.n (.W1 q9 (.t a8) (.t a8) .z2 ?_)))
              refine .q 2 hG ?_
              refine⟨_,.r1 a8 (.cell q9 a8 .z2),?_⟩
              refine⟨_,.cons .z4 (.nil),?_⟩
              dsimp only at *
              first|(have hh:kk=2:=(by omega);subst hh)|(have hh:kk=3:=(by omega);subst hh)|(have hh:kk=4:=(by omega);subst hh)|(have hh:kk=5:=(by omega);subst hh)|(have hh:kk=6:=(by omega);subst hh)|(have hh:kk=7:=(by omega);subst hh)|(have hh:kk=8:=(by omega);subst hh)|(have hh:kk=9:=(by omega);subst hh)|(have hh:kk=10:=(by omega);subst hh)|(have hh:kk=11:=(by omega);subst hh)|(have hh:kk=12:=(by omega);subst hh)|(have hh:kk=13:=(by omega);subst hh)|(have hh:kk=14:=(by omega);subst hh)|(have hh:kk=15:=(by omega);subst hh)|(have hh:kk=16:=(by omega);subst hh)|(have hh:kk=17:=(by omega);subst hh)|(have hh:kk=18:=(by omega);subst hh)|(have hh:kk=19:=(by omega);subst hh)|(have hh:kk=20:=(by omega);subst hh)|(have hh:kk=21:=(by omega);subst hh)|(have hh:kk=22:=(by omega);subst hh)|(have hh:kk=1:=(by omega);subst hh)|(exfalso;omega)
              exact y9 ⟨by dsimp only;omega,by dsimp only;omega⟩ (by assumption) rfl (by first|exact zR|exact⟨by dsimp only;omega,by dsimp only;omega⟩) (by first|exact zR|exact⟨by dsimp only;omega,by dsimp only;omega⟩) (by first|exact zR|exact⟨by dsimp only;omega,by dsimp only;omega⟩) (by first|exact zR|exact⟨by dsimp only;omega,by dsimp only;omega⟩) (by first|exact zR|exact⟨by dsimp only;omega,by dsimp only;omega⟩) (by first|exact zR|exact⟨by dsimp only;omega,by dsimp only;omega⟩) (by first|exact zR|exact⟨by dsimp only;omega,by dsimp only;omega⟩) (by first|assumption|(intro p hp;cases hp)) (by first|assumption|(dsimp only;omega)|(show((0:Nat):Int)≤2;decide)) (fun h=>by first|exact Bool.noConfusion (show false=true from h)|rfl|exact(by decide:∀ x∈([⟨[97,110,110]⟩,⟨[98,111,98]⟩,⟨[100,97,110]⟩]:List u0),u7 x=true) _ (List.getElem_mem _))
             ·refine .q 7 hG ⟨fun hc140 => ?_,fun hc140 => ?_⟩
              ·refine .q 2 hG ⟨fun hc140y => ?_,fun y=>absurd hc140 y⟩
               refine .q 2 hG ?_
               refine .km hG (x5 _ _ _ (by first|assumption|exact l8 _) (by first|omega|(simp;done)|(simp;omega)|(simp at *;omega)) (by first|omega|(simp;done)|(simp;omega)|(simp at *;omega))) .z4 (by rintro _ _ ⟨_,_,_,_,_,_,rfl⟩;exact⟨_,rfl⟩) fun r145 B145 hr145 => ?_
               obtain⟨v145,d145,h0145,h1145,hd145,rfl,hB⟩:=hr145
               cases hB
               refine .q 5 hG ?_
               refine .p (.Q4 q9 (.t a8) .z1 (.n (.W1 q9 (.t a8) (.t a8) .z2 ?_)))
               refine .q 2 hG ?_
               refine⟨_,.r1 a8 (.cell q9 a8 .z2),?_⟩
               refine⟨_,.cons .z4 (.nil),?_⟩
               dsimp only at *
               first|(have hh:kk=2:=(by omega);subst hh)|(have hh:kk=3:=(by omega);subst hh)|(have hh:kk=4:=(by omega);subst hh)|(have hh:kk=5:=(by omega);subst hh)|(have hh:kk=6:=(by omega);subst hh)|(have hh:kk=7:=(by omega);subst hh)|(have hh:kk=8:=(by omega);subst hh)|(have hh:kk=9:=(by omega);subst hh)|(have hh:kk=10:=(by omega);subst hh)|(have hh:kk=11:=(by omega);subst hh)|(have hh:kk=12:=(by omega);subst hh)|(have hh:kk=13:=(by omega);subst hh)|(have hh:kk=14:=(by omega);subst hh)|(have hh:kk=15:=(by omega);subst hh)|(have hh:kk=16:=(by omega);subst hh)|(have hh:kk=17:=(by omega);subst hh)|(have hh:kk=18:=(by omega);subst hh)|(have hh:kk=19:=(by omega);subst hh)|(have hh:kk=20:=(by omega);subst hh)|(have hh:kk=21:=(by omega);subst hh)|(have hh:kk=22:=(by omega);subst hh)|(have hh:kk=1:=(by omega);subst hh)|(exfalso;omega)
               exact y9 ⟨by dsimp only;omega,by dsimp only;omega⟩ (by assumption) rfl (by first|exact zR|exact⟨by dsimp only;omega,by dsimp only;omega⟩) (by first|exact zR|exact⟨by dsimp only;omega,by dsimp only;omega⟩) (by first|exact zR|exact⟨by dsimp only;omega,by dsimp only;omega⟩) (by first|exact zR|exact⟨by dsimp only;omega,by dsimp only;omega⟩) (by first|exact zR|exact⟨by dsimp only;omega,by dsimp only;omega⟩) (by first|exact zR|exact⟨by dsimp only;omega,by dsimp only;omega⟩) (by first|exact zR|exact⟨by dsimp only;omega,by dsimp only;omega⟩) (by first|assumption|(intro p hp;cases hp)) (by first|assumption|(dsimp only;omega)|(show((0:Nat):Int)≤2;decide)) (fun h=>by first|exact Bool.noConfusion (show false=true from h)|rfl|exact(by decide:∀ x∈([⟨[97,110,110]⟩,⟨[98,111,98]⟩,⟨[100,97,110]⟩]:List u0),u7 x=true) _ (List.getElem_mem _))
              ·refine .q 6 hG ⟨fun hc140 => ?_,fun hc140 => ?_⟩
               ·refine .q 2 hG ⟨fun hc140y => ?_,fun y=>absurd hc140 y⟩
                refine .q 2 hG ?_
                refine .km hG (x5 _ _ _ (by first|assumption|exact l8 _) (by first|omega|(simp;done)|(simp;omega)|(simp at *;omega)) (by first|omega|(simp;done)|(simp;omega)|(simp at *;omega))) .z4 (by rintro _ _ ⟨_,_,_,_,_,_,rfl⟩;exact⟨_,rfl⟩) fun r145 B145 hr145 => ?_
                obtain⟨v145,d145,h0145,h1145,hd145,rfl,hB⟩:=hr145
                cases hB
                refine .q 5 hG ?_
                refine .p (.Q4 q9 (.t a8) .z1 (.n (.W1 q9 (.t a8) (.t a8) .z2 ?_)))
                refine .q 2 hG ?_
                refine⟨_,.r1 a8 (.cell q9 a8 .z2),?_⟩
                refine⟨_,.cons .z4 (.nil),?_⟩
                dsimp only at *
                first|(have hh:kk=2:=(by omega);subst hh)|(have hh:kk=3:=(by omega);subst hh)|(have hh:kk=4:=(by omega);subst hh)|(have hh:kk=5:=(by omega);subst hh)|(have hh:kk=6:=(by omega);subst hh)|(have hh:kk=7:=(by omega);subst hh)|(have hh:kk=8:=(by omega);subst hh)|(have hh:kk=9:=(by omega);subst hh)|(have hh:kk=10:=(by omega);subst hh)|(have hh:kk=11:=(by omega);subst hh)|(have hh:kk=12:=(by omega);subst hh)|(have hh:kk=13:=(by omega);subst hh)|(have hh:kk=14:=(by omega);subst hh)|(have hh:kk=15:=(by omega);subst hh)|(have hh:kk=16:=(by omega);subst hh)|(have hh:kk=17:=(by omega);subst hh)|(have hh:kk=18:=(by omega);subst hh)|(have hh:kk=19:=(by omega);subst hh)|(have hh:kk=20:=(by omega);subst hh)|(have hh:kk=21:=(by omega);subst hh)|(have hh:kk=22:=(by omega);subst hh)|(have hh:kk=1:=(by omega);subst hh)|(exfalso;omega)
                exact y9 ⟨by dsimp only;omega,by dsimp only;omega⟩ (by assumption) rfl (by first|exact zR|exact⟨by dsimp only;omega,by dsimp only;omega⟩) (by first|exact zR|exact⟨by dsimp only;omega,by dsimp only;omega⟩) (by first|exact zR|exact⟨by dsimp only;omega,by dsimp only;omega⟩) (by first|exact zR|exact⟨by dsimp only;omega,by dsimp only;omega⟩) (by first|exact zR|exact⟨by dsimp only;omega,by dsimp only;omega⟩) (by first|exact zR|exact⟨by dsimp only;omega,by dsimp only;omega⟩) (by first|exact zR|exact⟨by dsimp only;omega,by dsimp only;omega⟩) (by first|assumption|(intro p hp;cases hp)) (by first|assumption|(dsimp only;omega)|(show((0:Nat):Int)≤2;decide)) (fun h=>by first|exact Bool.noConfusion (show false=true from h)|rfl|exact(by decide:∀ x∈([⟨[97,110,110]⟩,⟨[98,111,98]⟩,⟨[100,97,110]⟩]:List u0),u7 x=true) _ (List.getElem_mem _))
               ·refine .q 5 hG ⟨fun hc140 => ?_,fun hc140 => ?_⟩
                ·refine .q 2 hG ?_
                 refine .km hG (x5 _ _ _ (by first|assumption|exact l8 _) (by first|omega|(simp;done)|(simp;omega)|(simp at *;omega)) (by first|omega|(simp;done)|(simp;omega)|(simp at *;omega))) .z4 (by rintro _ _ ⟨_,_,_,_,_,_,rfl⟩;exact⟨_,rfl⟩) fun r145 B145 hr145 => ?_
                 obtain⟨v145,d145,h0145,h1145,hd145,rfl,hB⟩:=hr145
                 cases hB
                 refine .q 5 hG ?_
                 refine .p (.Q4 q9 (.t a8) .z1 (.n (.W1 q9 (.t a8) (.t a8) .z2 ?_)))
                 refine .q 2 hG ?_
                 refine⟨_,.r1 a8 (.cell q9 a8 .z2),?_⟩
                 refine⟨_,.cons .z4 (.nil),?_⟩
                 dsimp only at *
                 first|(have hh:kk=2:=(by omega);subst hh)|(have hh:kk=3:=(by omega);subst hh)|(have hh:kk=4:=(by omega);subst hh)|(have hh:kk=5:=(by omega);subst hh)|(have hh:kk=6:=(by omega);subst hh)|(have hh:kk=7:=(by omega);subst hh)|(have hh:kk=8:=(by omega);subst hh)|(have hh:kk=9:=(by omega);subst hh)|(have hh:kk=10:=(by omega);subst hh)|(have hh:kk=11:=(by omega);subst hh)|(have hh:kk=12:=(by omega);subst hh)|(have hh:kk=13:=(by omega);subst hh)|(have hh:kk=14:=(by omega);subst hh)|(have hh:kk=15:=(by omega);subst hh)|(have hh:kk=16:=(by omega);subst hh)|(have hh:kk=17:=(by omega);subst hh)|(have hh:kk=18:=(by omega);subst hh)|(have hh:kk=19:=(by omega);subst hh)|(have hh:kk=20:=(by omega);subst hh)|(have hh:kk=21:=(by omega);subst hh)|(have hh:kk=22:=(by omega);subst hh)|(have hh:kk=1:=(by omega);subst hh)|(exfalso;omega)
                 exact y9 ⟨by dsimp only;omega,by dsimp only;omega⟩ (by assumption) rfl (by first|exact zR|exact⟨by dsimp only;omega,by dsimp only;omega⟩) (by first|exact zR|exact⟨by dsimp only;omega,by dsimp only;omega⟩) (by first|exact zR|exact⟨by dsimp only;omega,by dsimp only;omega⟩) (by first|exact zR|exact⟨by dsimp only;omega,by dsimp only;omega⟩) (by first|exact zR|exact⟨by dsimp only;omega,by dsimp only;omega⟩) (by first|exact zR|exact⟨by dsimp only;omega,by dsimp only;omega⟩) (by first|exact zR|exact⟨by dsimp only;omega,by dsimp only;omega⟩) (by first|assumption|(intro p hp;cases hp)) (by first|assumption|(dsimp only;omega)|(show((0:Nat):Int)≤2;decide)) (fun h=>by first|exact Bool.noConfusion (show false=true from h)|rfl|exact(by decide:∀ x∈([⟨[97,110,110]⟩,⟨[98,111,98]⟩,⟨[100,97,110]⟩]:List u0),u7 x=true) _ (List.getElem_mem _))
                ·refine .q 6 hG ⟨fun hc147 => ?_,fun hc147 => ?_⟩
                 ·refine .q 2 hG ?_
                  refine .km hG (x5 _ _ _ (by first|assumption|exact l8 _) (by first|omega|(simp;done)|(simp;omega)|(simp at *;omega)) (by first|omega|(simp;done)|(simp;omega)|(simp at *;omega))) .z4 (by rintro _ _ ⟨_,_,_,_,_,_,rfl⟩;exact⟨_,rfl⟩) fun r150 B150 hr150 => ?_
                  obtain⟨v150,d150,h0150,h1150,hd150,rfl,hB⟩:=hr150
                  cases hB
                  refine .q 5 hG ?_
                  refine .p (.Q4 q9 (.t a8) .z1 (.n (.W1 q9 (.t a8) (.t a8) .z2 ?_)))
                  refine .q 2 hG ?_
                  refine⟨_,.r1 a8 (.cell q9 a8 .z2),?_⟩
                  refine⟨_,.cons .z4 (.nil),?_⟩
                  dsimp only at *
                  first|(have hh:kk=2:=(by omega);subst hh)|(have hh:kk=3:=(by omega);subst hh)|(have hh:kk=4:=(by omega);subst hh)|(have hh:kk=5:=(by omega);subst hh)|(have hh:kk=6:=(by omega);subst hh)|(have hh:kk=7:=(by omega);subst hh)|(have hh:kk=8:=(by omega);subst hh)|(have hh:kk=9:=(by omega);subst hh)|(have hh:kk=10:=(by omega);subst hh)|(have hh:kk=11:=(by omega);subst hh)|(have hh:kk=12:=(by omega);subst hh)|(have hh:kk=13:=(by omega);subst hh)|(have hh:kk=14:=(by omega);subst hh)|(have hh:kk=15:=(by omega);subst hh)|(have hh:kk=16:=(by omega);subst hh)|(have hh:kk=17:=(by omega);subst hh)|(have hh:kk=18:=(by omega);subst hh)|(have hh:kk=19:=(by omega);subst hh)|(have hh:kk=20:=(by omega);subst hh)|(have hh:kk=21:=(by omega);subst hh)|(have hh:kk=22:=(by omega);subst hh)|(have hh:kk=1:=(by omega);subst hh)|(exfalso;omega)
                  exact y9 ⟨by dsimp only;omega,by dsimp only;omega⟩ (by assumption) rfl (by first|exact zR|exact⟨by dsimp only;omega,by dsimp only;omega⟩) (by first|exact zR|exact⟨by dsimp only;omega,by dsimp only;omega⟩) (by first|exact zR|exact⟨by dsimp only;omega,by dsimp only;omega⟩) (by first|exact zR|exact⟨by dsimp only;omega,by dsimp only;omega⟩) (by first|exact zR|exact⟨by dsimp only;omega,by dsimp only;omega⟩) (by first|exact zR|exact⟨by dsimp only;omega,by dsimp only;omega⟩) (by first|exact zR|exact⟨by dsimp only;omega,by dsimp only;omega⟩) (by first|assumption|(intro p hp;cases hp)) (by first|assumption|(dsimp only;omega)|(show((0:Nat):Int)≤2;decide)) (fun h=>by first|exact Bool.noConfusion (show false=true from h)|rfl|exact(by decide:∀ x∈([⟨[97,110,110]⟩,⟨[98,111,98]⟩,⟨[100,97,110]⟩]:List u0),u7 x=true) _ (List.getElem_mem _))
                 ·refine .q 6 hG ⟨fun hc152 => ?_,fun hc152 => ?_⟩
                  ·refine .q 4 hG ?_
                   refine .sb (by first|omega|(simp;done)|(simp;omega)|(simp at *;omega)) (by first|omega|(simp;done)|(simp;omega)|(simp at *;omega)) (.h (.H9 hG (K8 _ _ _ _ (by first|assumption|exact l8 _) (by first|omega|(simp;done)|(simp;omega)|(simp at *;omega)) (by first|omega|(simp;done)|(simp;omega)|(simp at *;omega)) (by first|omega|(simp;done)|(simp;omega)|(simp at *;omega))) .z4 (.cons (.t a8) (.cons (.i a8) (.cons (.t a8) .nil))) (by rintro _ _ ⟨_,_,_,_,_,_,rfl⟩;exact⟨_,rfl⟩) fun r158 B158 hr158 => ?_))
                   obtain⟨v158,d158,h0158,h1158,hd158,rfl,hB⟩:=hr158
                   cases hB
                   refine .q 1 hG ?_
                   refine .km hG (x5 _ _ _ (by first|assumption|exact l8 _) (by first|omega|(simp;done)|(simp;omega)|(simp at *;omega)) (by first|omega|(simp;done)|(simp;omega)|(simp at *;omega))) .z4 (by rintro _ _ ⟨_,_,_,_,_,_,rfl⟩;exact⟨_,rfl⟩) fun r160 B160 hr160 => ?_
                   obtain⟨v160,d160,h0160,h1160,hd160,rfl,hB⟩:=hr160
                   cases hB
                   refine .q 7 hG ?_
                   refine .p (.Q4 q9 (.t a8) .z1 (.n (.W1 q9 (.t a8) (.t a8) .z2 ?_)))
                   refine .q 2 hG ?_
                   refine⟨_,.r1 a8 (.cell q9 a8 .z2),?_⟩
                   refine⟨_,.cons .z4 (.nil),?_⟩
                   dsimp only at *
                   first|(have hh:kk=2:=(by omega);subst hh)|(have hh:kk=3:=(by omega);subst hh)|(have hh:kk=4:=(by omega);subst hh)|(have hh:kk=5:=(by omega);subst hh)|(have hh:kk=6:=(by omega);subst hh)|(have hh:kk=7:=(by omega);subst hh)|(have hh:kk=8:=(by omega);subst hh)|(have hh:kk=9:=(by omega);subst hh)|(have hh:kk=10:=(by omega);subst hh)|(have hh:kk=11:=(by omega);subst hh)|(have hh:kk=12:=(by omega);subst hh)|(have hh:kk=13:=(by omega);subst hh)|(have hh:kk=14:=(by omega);subst hh)|(have hh:kk=15:=(by omega);subst hh)|(have hh:kk=16:=(by omega);subst hh)|(have hh:kk=17:=(by omega);subst hh)|(have hh:kk=18:=(by omega);subst hh)|(have hh:kk=19:=(by omega);subst hh)|(have hh:kk=20:=(by omega);subst hh)|(have hh:kk=21:=(by omega);subst hh)|(have hh:kk=22:=(by omega);subst hh)|(have hh:kk=1:=(by omega);subst hh)|(exfalso;omega)
                   exact y9 ⟨by dsimp only;omega,by dsimp only;omega⟩ (by assumption) rfl (by first|exact zR|exact⟨by dsimp only;omega,by dsimp only;omega⟩) (by first|exact zR|exact⟨by dsimp only;omega,by dsimp only;omega⟩) (by first|exact zR|exact⟨by dsimp only;omega,by dsimp only;omega⟩) (by first|exact zR|exact⟨by dsimp only;omega,by dsimp only;omega⟩) (by first|exact zR|exact⟨by dsimp only;omega,by dsimp only;omega⟩) (by first|exact zR|exact⟨by dsimp only;omega,by dsimp only;omega⟩) (by first|exact zR|exact⟨by dsimp only;omega,by dsimp only;omega⟩) (by first|assumption|(intro p hp;cases hp)) (by first|assumption|(dsimp only;omega)|(show((0:Nat):Int)≤2;decide)) (fun h=>by first|exact Bool.noConfusion (show false=true from h)|rfl|exact(by decide:∀ x∈([⟨[97,110,110]⟩,⟨[98,111,98]⟩,⟨[100,97,110]⟩]:List u0),u7 x=true) _ (List.getElem_mem _))
                  ·refine .q 6 hG ⟨fun hc163 => ?_,fun hc163 => ?_⟩
                   ·refine .q 3 hG ?_
                    refine .km hG (x5 _ _ _ (by first|assumption|exact l8 _) (by first|omega|(simp;done)|(simp;omega)|(simp at *;omega)) (by first|omega|(simp;done)|(simp;omega)|(simp at *;omega))) .z4 (by rintro _ _ ⟨_,_,_,_,_,_,rfl⟩;exact⟨_,rfl⟩) fun r167 B167 hr167 => ?_
                    obtain⟨v167,d167,h0167,h1167,hd167,rfl,hB⟩:=hr167
                    cases hB
                    refine .q 7 hG ?_
                    refine .p (.Q4 q9 (.t a8) .z1 (.n (.W1 q9 (.t a8) (.t a8) .z2 ?_)))
                    refine .q 2 hG ?_
                    refine⟨_,.r1 a8 (.cell q9 a8 .z2),?_⟩
                    refine⟨_,.cons .z4 (.nil),?_⟩
                    dsimp only at *
                    first|(have hh:kk=2:=(by omega);subst hh)|(have hh:kk=3:=(by omega);subst hh)|(have hh:kk=4:=(by omega);subst hh)|(have hh:kk=5:=(by omega);subst hh)|(have hh:kk=6:=(by omega);subst hh)|(have hh:kk=7:=(by omega);subst hh)|(have hh:kk=8:=(by omega);subst hh)|(have hh:kk=9:=(by omega);subst hh)|(have hh:kk=10:=(by omega);subst hh)|(have hh:kk=11:=(by omega);subst hh)|(have hh:kk=12:=(by omega);subst hh)|(have hh:kk=13:=(by omega);subst hh)|(have hh:kk=14:=(by omega);subst hh)|(have hh:kk=15:=(by omega);subst hh)|(have hh:kk=16:=(by omega);subst hh)|(have hh:kk=17:=(by omega);subst hh)|(have hh:kk=18:=(by omega);subst hh)|(have hh:kk=19:=(by omega);subst hh)|(have hh:kk=20:=(by omega);subst hh)|(have hh:kk=21:=(by omega);subst hh)|(have hh:kk=22:=(by omega);subst hh)|(have hh:kk=1:=(by omega);subst hh)|(exfalso;omega)
                    exact y9 ⟨by dsimp only;omega,by dsimp only;omega⟩ (by assumption) rfl (by first|exact zR|exact⟨by dsimp only;omega,by dsimp only;omega⟩) (by first|exact zR|exact⟨by dsimp only;omega,by dsimp only;omega⟩) (by first|exact zR|exact⟨by dsimp only;omega,by dsimp only;omega⟩) (by first|exact zR|exact⟨by dsimp only;omega,by dsimp only;omega⟩) (by first|exact zR|exact⟨by dsimp only;omega,by dsimp only;omega⟩) (by first|exact zR|exact⟨by dsimp only;omega,by dsimp only;omega⟩) (by first|exact zR|exact⟨by dsimp only;omega,by dsimp only;omega⟩) (by first|assumption|(intro p hp;cases hp)) (by first|assumption|(dsimp only;omega)|(show((0:Nat):Int)≤2;decide)) (fun h=>by first|exact Bool.noConfusion (show false=true from h)|rfl|exact(by decide:∀ x∈([⟨[97,110,110]⟩,⟨[98,111,98]⟩,⟨[100,97,110]⟩]:List u0),u7 x=true) _ (List.getElem_mem _))
                   ·refine .q 6 hG ⟨fun hc170 => ?_,fun hc170 => ?_⟩
                    ·refine .D7 [j1,j0,j1,j1,j0] (by kernel_rfl) 14 [[],[],[(173,1)],[],[(175,3)],[],[],[(178,6),(172,0)],[],[(179,8),(174,2)],[],[(180,10),(176,4)],[],[(181,12),(177,5)]] [2,4,7,9,11,13] a8 (by kernel_rfl) a8 (by kernel_rfl) (by decide) ?_
                     refine⟨_,fun H=>j7.move (.t a8) a8,?_⟩
                     refine⟨_,fun H=>j7.move (.t a8) a8,?_⟩
                     refine .inl ?_
                     refine⟨_,fun H=>j7.move (.t a8) a8,?_⟩
                     refine .inl ?_
                     refine⟨_,fun H=>j7.Q4 W8 (.t a8) (C1.app .z) a8,?_⟩
                     refine⟨_,fun H=>j7.y7 j4.l1 F5 a8 (.t a8) a8,?_⟩
                     refine .inl ?_
                     refine⟨_,fun H=>j7.y7 j4.l2 I8 a8 (.t a8) a8,?_⟩
                     refine .inl ?_
                     refine⟨_,fun H=>j7.y7 j4.l4 a13 a8 (.t a8) a8,?_⟩
                     refine .inl ?_
                     refine⟨_,fun H=>j7.y7 j4.l7 P6 a8 (.t a8) a8,?_⟩
                     refine .inl ?_
                     refine⟨⟨([],j2 [c8,_,c8,c8,_]),a8⟩,?_⟩
                     refine A9.H9 hG (x5 _ _ _ (by first|assumption|exact l8 _) (by first|omega|(simp;done)|(simp;omega)|(simp at *;omega)) (by first|omega|(simp;done)|(simp;omega)|(simp at *;omega))) .z4 (.cons (.t rfl) (.cons (.i rfl) .nil)) (by rintro _ _ ⟨_,_,_,_,_,_,rfl⟩;exact⟨_,rfl⟩) fun r174 B174 hr174 => ?_
                     obtain⟨v174,d174,h0174,h1174,hd174,rfl,hB⟩:=hr174
                     cases hB
                     refine⟨⟨([],j2 [c8,_,c8,c8,_]),a8⟩,?_⟩
                     refine A9.H9 hG (P1 _ _ _ _ (by assumption) (by decide) (by decide) (by decide)) .z4 (.cons (.t rfl) (.cons (.i rfl) (.cons (.s [97,110,110] (by decide) (by decide)) .nil))) (by rintro _ _ ⟨_,_,_,_,_,_,rfl⟩;exact⟨_,rfl⟩) fun r176 B176 hr176 => ?_
                     obtain⟨l176,hl176,hp176,d176,hd176,rfl,hB⟩:=hr176
                     cases hB
                     refine⟨⟨([],j2 [c8,_,c8,c8,_]),a8⟩,?_⟩
                     refine A9.K3 (fun y x => { x with A:=y }) A3 (.t rfl) (.t rfl) .z1 (fun _ _=>rfl) ?_
                     refine⟨⟨([],j2 [c8,_,c8,c8,_]),a8⟩,?_⟩
                     refine A9.K3 (fun y x => { x with B:=y }) A3 (.t rfl) (.t rfl) .z1 (fun _ _=>rfl) ?_
                     refine⟨⟨([],j2 [c8,_,c8,c8,_]),a8⟩,?_⟩
                     refine A9.K3 (fun y x => { x with l9:=y }) b1D (.t rfl) (.t rfl) .z1 (fun _ _=>rfl) ?_
                     refine⟨⟨([],j2 [c8,_,c8,c8,_]),a8⟩,?_⟩
                     refine A9.K3 (fun y x => { x with Context:=y }) W8 (.t rfl) (.t rfl) .z1 (fun _ _=>rfl) ?_
                     refine⟨⟨([],j2 [c8,_,c8,c8,_]),a8⟩,?_⟩
                     show C4 _ _ _ _ _ [] ((181,_)::(180,_)::(179,_)::(178,_)::(177,_)::(176,_)::(175,_)::(174,_)::(173,_)::(172,_)::_) _
                     refine .q 3 hG ?_
                     refine .p (.Q4 q9 (.t a8) .z1 (.n (.W1 q9 (.t a8) (.t a8) .z2 ?_)))
                     refine .q 2 hG ?_
                     refine⟨_,.r1 a8 (.cell q9 a8 .z2),?_⟩
                     refine⟨_,.cons .z4 (.nil),?_⟩
                     dsimp only at *
                     first|(have hh:kk=2:=(by omega);subst hh)|(have hh:kk=3:=(by omega);subst hh)|(have hh:kk=4:=(by omega);subst hh)|(have hh:kk=5:=(by omega);subst hh)|(have hh:kk=6:=(by omega);subst hh)|(have hh:kk=7:=(by omega);subst hh)|(have hh:kk=8:=(by omega);subst hh)|(have hh:kk=9:=(by omega);subst hh)|(have hh:kk=10:=(by omega);subst hh)|(have hh:kk=11:=(by omega);subst hh)|(have hh:kk=12:=(by omega);subst hh)|(have hh:kk=13:=(by omega);subst hh)|(have hh:kk=14:=(by omega);subst hh)|(have hh:kk=15:=(by omega);subst hh)|(have hh:kk=16:=(by omega);subst hh)|(have hh:kk=17:=(by omega);subst hh)|(have hh:kk=18:=(by omega);subst hh)|(have hh:kk=19:=(by omega);subst hh)|(have hh:kk=20:=(by omega);subst hh)|(have hh:kk=21:=(by omega);subst hh)|(have hh:kk=22:=(by omega);subst hh)|(have hh:kk=1:=(by omega);subst hh)|(exfalso;omega)
                     exact y9 ⟨by dsimp only;omega,by dsimp only;omega⟩ (by assumption) rfl (by first|exact zR|exact⟨by dsimp only;omega,by dsimp only;omega⟩) (by first|exact zR|exact⟨by dsimp only;omega,by dsimp only;omega⟩) (by first|exact zR|exact⟨by dsimp only;omega,by dsimp only;omega⟩) (by first|exact zR|exact⟨by dsimp only;omega,by dsimp only;omega⟩) (by first|exact zR|exact⟨by dsimp only;omega,by dsimp only;omega⟩) (by first|exact zR|exact⟨by dsimp only;omega,by dsimp only;omega⟩) (by first|exact zR|exact⟨by dsimp only;omega,by dsimp only;omega⟩) (by first|assumption|(intro p hp;cases hp)) (by first|assumption|(dsimp only;omega)|(show((0:Nat):Int)≤2;decide)) (fun h=>by first|exact Bool.noConfusion (show false=true from h)|rfl|exact(by decide:∀ x∈([⟨[97,110,110]⟩,⟨[98,111,98]⟩,⟨[100,97,110]⟩]:List u0),u7 x=true) _ (List.getElem_mem _))
                    ·refine .q 6 hG ⟨fun hc182 => ?_,fun hc182 => ?_⟩
                     ·refine .D7 [j1,j0,j1,j1,j0] (by kernel_rfl) 10 [[],[],[(185,1)],[],[],[(188,4),(184,0)],[],[(189,6),(186,2)],[],[(190,8),(187,3)]] [2,5,7,9] a8 (by kernel_rfl) a8 (by kernel_rfl) (by decide) ?_
                      refine⟨_,fun H=>j7.move (.t a8) a8,?_⟩
                      refine⟨_,fun H=>j7.move (.t a8) a8,?_⟩
                      refine .inl ?_
                      refine⟨_,fun H=>j7.Q4 W8 (.t a8) (C1.app .z) a8,?_⟩
                      refine⟨_,fun H=>j7.y7 j4.l1 F5 a8 (.t a8) a8,?_⟩
                      refine .inl ?_
                      refine⟨_,fun H=>j7.y7 j4.l2 I8 a8 (.t a8) a8,?_⟩
                      refine .inl ?_
                      refine⟨_,fun H=>j7.y7 j4.l7 P6 a8 (.t a8) a8,?_⟩
                      refine .inl ?_
                      refine⟨⟨([],j2 [c8,_,c8,c8,_]),a8⟩,?_⟩
                      refine A9.H9 hG (x5 _ _ _ (by first|assumption|exact l8 _) (by first|omega|(simp;done)|(simp;omega)|(simp at *;omega)) (by first|omega|(simp;done)|(simp;omega)|(simp at *;omega))) .z4 (.cons (.t rfl) (.cons (.i rfl) .nil)) (by rintro _ _ ⟨_,_,_,_,_,_,rfl⟩;exact⟨_,rfl⟩) fun r186 B186 hr186 => ?_
                      obtain⟨v186,d186,h0186,h1186,hd186,rfl,hB⟩:=hr186
                      cases hB
                      refine⟨⟨([],j2 [c8,_,c8,c8,_]),a8⟩,?_⟩
                      refine A9.K3 (fun y x => { x with A:=y }) A3 (.t rfl) (.t rfl) .z1 (fun _ _=>rfl) ?_
                      refine⟨⟨([],j2 [c8,_,c8,c8,_]),a8⟩,?_⟩
                      refine A9.K3 (fun y x => { x with B:=y }) A3 (.t rfl) (.t rfl) .z1 (fun _ _=>rfl) ?_
                      refine⟨⟨([],j2 [c8,_,c8,c8,_]),a8⟩,?_⟩
                      refine A9.K3 (fun y x => { x with Context:=y }) W8 (.t rfl) (.t rfl) .z1 (fun _ _=>rfl) ?_
                      refine⟨⟨([],j2 [c8,_,c8,c8,_]),a8⟩,?_⟩
                      show C4 _ _ _ _ _ [] ((190,_)::(189,_)::(188,_)::(187,_)::(186,_)::(185,_)::(184,_)::_) _
                      refine .q 3 hG ?_
                      refine .p (.Q4 q9 (.t a8) .z1 (.n (.W1 q9 (.t a8) (.t a8) .z2 ?_)))
                      refine .q 2 hG ?_
                      refine⟨_,.r1 a8 (.cell q9 a8 .z2),?_⟩
                      refine⟨_,.cons .z4 (.nil),?_⟩
                      dsimp only at *
                      first|(have hh:kk=2:=(by omega);subst hh)|(have hh:kk=3:=(by omega);subst hh)|(have hh:kk=4:=(by omega);subst hh)|(have hh:kk=5:=(by omega);subst hh)|(have hh:kk=6:=(by omega);subst hh)|(have hh:kk=7:=(by omega);subst hh)|(have hh:kk=8:=(by omega);subst hh)|(have hh:kk=9:=(by omega);subst hh)|(have hh:kk=10:=(by omega);subst hh)|(have hh:kk=11:=(by omega);subst hh)|(have hh:kk=12:=(by omega);subst hh)|(have hh:kk=13:=(by omega);subst hh)|(have hh:kk=14:=(by omega);subst hh)|(have hh:kk=15:=(by omega);subst hh)|(have hh:kk=16:=(by omega);subst hh)|(have hh:kk=17:=(by omega);subst hh)|(have hh:kk=18:=(by omega);subst hh)|(have hh:kk=19:=(by omega);subst hh)|(have hh:kk=20:=(by omega);subst hh)|(have hh:kk=21:=(by omega);subst hh)|(have hh:kk=22:=(by omega);subst hh)|(have hh:kk=1:=(by omega);subst hh)|(exfalso;omega)
                      exact y9 ⟨by dsimp only;omega,by dsimp only;omega⟩ (by assumption) rfl (by first|exact zR|exact⟨by dsimp only;omega,by dsimp only;omega⟩) (by first|exact zR|exact⟨by dsimp only;omega,by dsimp only;omega⟩) (by first|exact zR|exact⟨by dsimp only;omega,by dsimp only;omega⟩) (by first|exact zR|exact⟨by dsimp only;omega,by dsimp only;omega⟩) (by first|exact zR|exact⟨by dsimp only;omega,by dsimp only;omega⟩) (by first|exact zR|exact⟨by dsimp only;omega,by dsimp only;omega⟩) (by first|exact zR|exact⟨by dsimp only;omega,by dsimp only;omega⟩) (by first|assumption|(intro p hp;cases hp)) (by first|assumption|(dsimp only;omega)|(show((0:Nat):Int)≤2;decide)) (fun h=>by first|exact Bool.noConfusion (show false=true from h)|rfl|exact(by decide:∀ x∈([⟨[97,110,110]⟩,⟨[98,111,98]⟩,⟨[100,97,110]⟩]:List u0),u7 x=true) _ (List.getElem_mem _))
                     ·refine .q 6 hG ⟨fun hc191 => ?_,fun hc191 => ?_⟩
                      ·refine .q 3 hG ?_
                       refine .km hG (x5 _ _ _ (by first|assumption|exact l8 _) (by first|omega|(simp;done)|(simp;omega)|(simp at *;omega)) (by first|omega|(simp;done)|(simp;omega)|(simp at *;omega))) .z4 (by rintro _ _ ⟨_,_,_,_,_,_,rfl⟩;exact⟨_,rfl⟩) fun r195 B195 hr195 => ?_
                       obtain⟨v195,d195,h0195,h1195,hd195,rfl,hB⟩:=hr195
                       cases hB
                       refine .q 1 hG ?_
                       refine .km hG (x5 _ _ _ (by first|assumption|exact l8 _) (by first|omega|(simp;done)|(simp;omega)|(simp at *;omega)) (by first|omega|(simp;done)|(simp;omega)|(simp at *;omega))) .z4 (by rintro _ _ ⟨_,_,_,_,_,_,rfl⟩;exact⟨_,rfl⟩) fun r197 B197 hr197 => ?_
                       obtain⟨v197,d197,h0197,h1197,hd197,rfl,hB⟩:=hr197
                       cases hB
                       refine .q 9 hG ?_
                       refine .p (.Q4 q9 (.t a8) .z1 (.n (.W1 q9 (.t a8) (.t a8) .z2 ?_)))
                       refine .q 2 hG ?_
                       refine⟨_,.r1 a8 (.cell q9 a8 .z2),?_⟩
                       refine⟨_,.cons .z4 (.nil),?_⟩
                       dsimp only at *
                       first|(have hh:kk=2:=(by omega);subst hh)|(have hh:kk=3:=(by omega);subst hh)|(have hh:kk=4:=(by omega);subst hh)|(have hh:kk=5:=(by omega);subst hh)|(have hh:kk=6:=(by omega);subst hh)|(have hh:kk=7:=(by omega);subst hh)|(have hh:kk=8:=(by omega);subst hh)|(have hh:kk=9:=(by omega);subst hh)|(have hh:kk=10:=(by omega);subst hh)|(have hh:kk=11:=(by omega);subst hh)|(have hh:kk=12:=(by omega);subst hh)|(have hh:kk=13:=(by omega);subst hh)|(have hh:kk=14:=(by omega);subst hh)|(have hh:kk=15:=(by omega);subst hh)|(have hh:kk=16:=(by omega);subst hh)|(have hh:kk=17:=(by omega);subst hh)|(have hh:kk=18:=(by omega);subst hh)|(have hh:kk=19:=(by omega);subst hh)|(have hh:kk=20:=(by omega);subst hh)|(have hh:kk=21:=(by omega);subst hh)|(have hh:kk=22:=(by omega);subst hh)|(have hh:kk=1:=(by omega);subst hh)|(exfalso;omega)
                       exact y9 ⟨by dsimp only;omega,by dsimp only;omega⟩ (by assumption) rfl (by first|exact zR|exact⟨by dsimp only;omega,by dsimp only;omega⟩) (by first|exact zR|exact⟨by dsimp only;omega,by dsimp only;omega⟩) (by first|exact zR|exact⟨by dsimp only;omega,by dsimp only;omega⟩) (by first|exact zR|exact⟨by dsimp only;omega,by dsimp only;omega⟩) (by first|exact zR|exact⟨by dsimp only;omega,by dsimp only;omega⟩) (by first|exact zR|exact⟨by dsimp only;omega,by dsimp only;omega⟩) (by first|exact zR|exact⟨by dsimp only;omega,by dsimp only;omega⟩) (by first|assumption|(intro p hp;cases hp)) (by first|assumption|(dsimp only;omega)|(show((0:Nat):Int)≤2;decide)) (fun h=>by first|exact Bool.noConfusion (show false=true from h)|rfl|exact(by decide:∀ x∈([⟨[97,110,110]⟩,⟨[98,111,98]⟩,⟨[100,97,110]⟩]:List u0),u7 x=true) _ (List.getElem_mem _))
                      ·refine .q 3 hG ?_
                       refine .p (.Q4 q9 (.t a8) .z1 (.n (.W1 q9 (.t a8) (.t a8) .z2 ?_)))
                       refine .q 2 hG ?_
                       refine⟨_,.r1 a8 (.cell q9 a8 .z2),?_⟩
                       refine⟨_,.cons .z4 (.nil),?_⟩
                       dsimp only at *
                       first|(have hh:kk=2:=(by omega);subst hh)|(have hh:kk=3:=(by omega);subst hh)|(have hh:kk=4:=(by omega);subst hh)|(have hh:kk=5:=(by omega);subst hh)|(have hh:kk=6:=(by omega);subst hh)|(have hh:kk=7:=(by omega);subst hh)|(have hh:kk=8:=(by omega);subst hh)|(have hh:kk=9:=(by omega);subst hh)|(have hh:kk=10:=(by omega);subst hh)|(have hh:kk=11:=(by omega);subst hh)|(have hh:kk=12:=(by omega);subst hh)|(have hh:kk=13:=(by omega);subst hh)|(have hh:kk=14:=(by omega);subst hh)|(have hh:kk=15:=(by omega);subst hh)|(have hh:kk=16:=(by omega);subst hh)|(have hh:kk=17:=(by omega);subst hh)|(have hh:kk=18:=(by omega);subst hh)|(have hh:kk=19:=(by omega);subst hh)|(have hh:kk=20:=(by omega);subst hh)|(have hh:kk=21:=(by omega);subst hh)|(have hh:kk=22:=(by omega);subst hh)|(have hh:kk=1:=(by omega);subst hh)|(exfalso;omega)
                       exact y9 ⟨by dsimp only;omega,by dsimp only;omega⟩ (by assumption) rfl (by first|exact zR|exact⟨by dsimp only;omega,by dsimp only;omega⟩) (by first|exact zR|exact⟨by dsimp only;omega,by dsimp only;omega⟩) (by first|exact zR|exact⟨by dsimp only;omega,by dsimp only;omega⟩) (by first|exact zR|exact⟨by dsimp only;omega,by dsimp only;omega⟩) (by first|exact zR|exact⟨by dsimp only;omega,by dsimp only;omega⟩) (by first|exact zR|exact⟨by dsimp only;omega,by dsimp only;omega⟩) (by first|exact zR|exact⟨by dsimp only;omega,by dsimp only;omega⟩) (by first|assumption|(intro p hp;cases hp)) (by first|assumption|(dsimp only;omega)|(show((0:Nat):Int)≤2;decide)) (fun h=>by first|exact Bool.noConfusion (show false=true from h)|rfl|exact(by decide:∀ x∈([⟨[97,110,110]⟩,⟨[98,111,98]⟩,⟨[100,97,110]⟩]:List u0),u7 x=true) _ (List.getElem_mem _))
theorem a7c {l:List Pred} (hp:∀ p∈l,p8 p=true) (hl:(l.length:Int)≤2):∀ s∈([⟨1,0,0,0,[],default,⟨[]⟩,default⟩,⟨5,0,0,1,[],default,⟨[]⟩,default⟩,⟨12,0,0,0,[],default,⟨[]⟩,default⟩,⟨3,0,0,0,l,default,⟨[]⟩,default⟩,⟨10,0,0,0,[],default,⟨[]⟩,default⟩]:List Step),U5 s:=by
 have key:∀ (k n:Int) (q:List Pred),1≤k∧k < 23→inR n→B2 (⟨k,0,0,n,q,default,⟨[]⟩,default⟩:Step)=false→khl k=false→(∀ p∈q,p8 p=true)→(q.length:Int)≤2→U5 (⟨k,0,0,n,q,default,⟨[]⟩,default⟩:Step):=fun k n q hk hn hf hh hq hql =>
  ⟨a2I hk ⟨hf,a2H zR zR hn zR zR zR zR,hq,fun h=>by rw [show khl k=true from h] at hh;cases hh⟩,by show q.length≤2;omega⟩
 intro s hs
 simp only [List.mem_cons,List.not_mem_nil,or_false] at hs
 rcases hs with rfl|rfl|rfl|rfl|rfl
 ·exact key 1 0 [] ⟨by decide,by decide⟩ zR rfl rfl (by simp) (by simp)
 ·exact key 5 1 [] ⟨by decide,by decide⟩ ⟨by decide,by decide⟩ rfl rfl (by simp) (by simp)
 ·exact key 12 0 [] ⟨by decide,by decide⟩ zR rfl rfl (by simp) (by simp)
 ·exact key 3 0 l ⟨by decide,by decide⟩ zR rfl rfl hp hl
 ·exact key 10 0 [] ⟨by decide,by decide⟩ zR rfl rfl (by simp) (by simp)
theorem a9I {l:List Step} {s:Step} (h:∀ q∈l,U5 q) (hs:U5 s):∀ q∈l ++ [s],U5 q:=fun q hq=>by
 rcases List.mem_append.1 hq with h'|h'
 ·exact h q h'
 ·rw [List.mem_singleton.1 h'];exact hs
theorem a6h (w:Value) (d:j9) (c:p7) (n:Int) (hd:C7 d) (hc:b1b c) (h0:0≤n) (h1:n≤1000):E1 gl prog 16 [dk w,.v c,.v n] [.ob w d] (fun r Hs=>∃ l:List Step,(l.length:Int)≤5+n∧5≤l.length∧(∀ s∈l,U5 s)∧∃ d',C7 d'∧r = .v l∧Hs = [.ob w d']):=by
 refine E1.a5T func16 rfl (by kernel_rfl) 32 rfl rfl _ rfl _ rfl fun C hC hG => ?_
 refine .q 3 hG fun b4 => ?_
 refine .q 4 hG ?_
 refine .p (.bS1 j4.l0 a8 q9 a1a (fun c0=>(⟨c0,0,0,0,[],default,⟨[]⟩,default⟩:j4)) (fun _=>a8) a8 a8 (.i a8) (.p (.bS2 j4.l0 j4.l3 a8 q9 a1a (fun c0 c3=>(⟨c0,0,0,c3,[],default,⟨[]⟩,default⟩:j4)) (fun _ _=>a8) a8 a8 a8 (.i a8) (.i a8) (.p (.bS1 j4.l0 a8 q9 a1a (fun c0=>(⟨c0,0,0,0,[],default,⟨[]⟩,default⟩:j4)) (fun _=>a8) a8 a8 (.i a8) ?_)))))
 refine .q 1 hG ?_
 refine .km hG (P1 _ _ _ _ (by assumption) (by decide) (by decide) (by decide)) .z1 (by rintro _ _ ⟨_,_,_,_,_,_,rfl⟩;exact⟨_,rfl⟩) fun r13 B13 hr13 => ?_
 obtain⟨l13,hl13,hp13,d13,hd13,rfl,hB⟩:=hr13
 cases hB
 refine .p (.bS2 j4.l0 j4.l4 a8 q9 a1a (fun c0 c4=>(⟨c0,0,0,0,c4,default,⟨[]⟩,default⟩:j4)) (fun _ _=>a8) a8 a8 a8 (.i a8) (.t a8) (.p (.bS1 j4.l0 a8 q9 a1a (fun c0=>(⟨c0,0,0,0,[],default,⟨[]⟩,default⟩:j4)) (fun _=>a8) a8 a8 (.i a8) ?_)))
 refine .bs a8 (by decide) fun b16 => ?_
 refine .q 7 hG ?_
 refine .ad (by first|omega|(simp;done)|(simp;omega)|(simp at *;omega)) (by first|omega|(simp;done)|(simp;omega)|(simp at *;omega)) ?_
 refine .km hG (x5 _ _ _ (by first|assumption|exact l8 _) (by first|omega|(simp;done)|(simp;omega)|(simp at *;omega)) (by first|omega|(simp;done)|(simp;omega)|(simp at *;omega))) .z2 (by rintro _ _ ⟨_,_,_,_,_,_,rfl⟩;exact⟨_,rfl⟩) fun r20 B20 hr20 => ?_
 obtain⟨v20,d20,h020,h120,hd20,rfl,hB⟩:=hr20
 cases hB
 refine .q 3 hG ?_
 refine .C2 (α:=Nat×Value×List Step×j9) [(0,_),(4,_)] (fun x R=>(7,.raw x.2.1)::(8,.v (x.1:Int))::R) (fun x => [(true,.own 30 x.2.1 x.2.2.1),(true,.ob (ptr b4 0) c),(false,.ob w x.2.2.2)]) (fun x=>(x.1:Int)+x.2.2.1.length≤5+n∧5≤x.2.2.1.length∧C7 x.2.2.2∧∀ p∈x.2.2.1,U5 p) (fun x=>x.1) ((v20.toNat,_,_,d20)) (.c2 a8 a8 (.nil _)) ?_ (.cons a8 (.cons (congrArg (fun q=>some (AV.v q)) (by dsimp only;omega)) (.c2 a8 a8 (.nil _)))) (a8) fun x hF => ?_
 ·exact⟨by dsimp only;simp;omega,by simp,by assumption,a7c hp13 hl13⟩
 obtain⟨k,v,b,e⟩:=x
 obtain⟨h2,h5,h3,h4⟩:=hF
 dsimp only at h2 h5 h3 h4 ⊢
 refine .q 7 hG ⟨fun hc22 => ?_,fun hc22 => ?_⟩
 ·refine .q 7 hG ?_
  refine .km hG (a7b _ _ _ (by assumption) hc) .z2 (by rintro _ _ ⟨_,_,_,_,_,rfl⟩;exact⟨_,rfl⟩) fun r28 B28 hr28 => ?_
  obtain⟨s28,hs28,d28,hd28,rfl,hB⟩:=hr28
  cases hB
  refine .bs a8 (by decide) fun b29 => ?_
  refine .ap (by first|omega|(simp;done)|(simp;omega)|(simp at *;omega)) (by first|omega|(simp;done)|(simp;omega)|(simp at *;omega)) fun w30 => ?_
  refine .q 1 hG ?_
  refine .drop ?_
  refine .q 3 hG ?_
  refine .sb (by first|omega|(simp;done)|(simp;omega)|(simp at *;omega)) (by first|omega|(simp;done)|(simp;omega)|(simp at *;omega)) ?_
  refine .q 2 hG ?_
  refine⟨(k - 1,_,_,_),.cons rfl (.cons (congrArg (fun q=>some (AV.v q)) (by dsimp only;omega)) (.c2 rfl rfl (.nil _))),rfl,?_,by dsimp only;omega⟩
  exact⟨by dsimp only;simp;omega,by dsimp only;simp;omega,by assumption,a9I h4 hs28⟩
 ·refine .q 2 hG ?_
  refine .F0 hC .z (.as 7 a8 .z ?_)
  refine .q 5 hG ?_
  refine .e1 a8 a8 ?_
  exact⟨2,b,by omega,h5,h4,e,h3,rfl,rfl⟩
theorem a9J (k:Nat) (l:List Int):∀ x∈G8 (U4.getD k []) l,x≠10:=by
 intro x hx
 rw [Y5] at hx
 rcases a0N _ _ _ hx with rfl|⟨a,h1,h2⟩
 ·decide
 ·rcases List.mem_cons.1 h1 with rfl|h1
  ·exact b0O k (by decide) x h2
  ·obtain⟨n,_,rfl⟩:=List.mem_map.1 h1
   exact a6e n (by decide) (by decide) x h2
theorem a8o (k:Int):∀ x∈O3 k,x≠10:=by
 intro x hx
 unfold O3 at hx
 repeat' split at hx
 all_goals (revert x;decide)
theorem a9K {p:Pred} (h:p8 p=true):∀ x∈D3 p,x≠10:=by
 intro x hx
 unfold D3 at hx
 rcases List.mem_append.1 hx with hx|hx
 ·exact a8o _ x hx
 rcases List.mem_cons.1 hx with rfl|hx
 ·decide
 have hd:∀ n,∀ x∈decDigits n,x≠10:=fun n=>a02 n (by decide)
 unfold R7 at hx
 split at hx
 ·rcases List.mem_append.1 hx with hx|hx
  ·exact hd _ x hx
  ·rcases List.mem_cons.1 hx with rfl|hx
   ·decide
   ·exact hd _ x hx
 split at hx
 ·rename_i h6
  unfold p8 at h
  rw [h6] at h
  simp at h
  exact a2E h.1 (by decide) x hx
 split at hx
 ·exact hd _ x hx
 ·rcases a0N _ _ _ hx with rfl|⟨a,h1,h2⟩
  ·decide
  ·unfold a2u at h1
   obtain⟨i,_,rfl⟩:=List.mem_map.1 h1
   exact hd _ x h2
theorem a9L {s:Step} (h:a2a s):∀ x∈L7 s,x≠10:=by
 intro x hx
 rw [a2C (I3 h.full),I3 h.full] at hx
 rcases List.mem_append.1 hx with hx|hx
 ·rcases List.mem_append.1 hx with hx|hx
  ·exact a9J _ _ x hx
  ·unfold W4 Lib.joinTail at hx
   obtain⟨a,h1,h2⟩:=List.mem_flatten.1 hx
   obtain⟨b,h3,rfl⟩:=List.mem_map.1 h1
   obtain⟨p,hp,rfl⟩:=List.mem_map.1 h3
   rcases List.mem_append.1 h2 with h2|h2
   ·exact(by decide:∀ x∈([59,32]:List UInt8),x≠10) x h2
   ·exact a9K (h.pred p hp) x h2
 ·split at hx
  ·rename_i hk
   rcases List.mem_cons.1 hx with rfl|hx
   ·decide
   ·rcases List.mem_cons.1 hx with rfl|hx
    ·decide
    ·exact a2E (h.name hk) (by decide) x hx
  ·cases hx
theorem b1d {s:Step} (h:U5 s):a2a s:=V6 (M5 h.line).2.1
theorem a7d {s:Step} (h:U5 s):(L7 s).length≤516:=by
 have ho:=b1d h
 have h1:=a1H (U4.getD s.Kind.toNat []) (p9 s) ho.num (p9 s).length (Nat.le_refl _)
 rw [List.take_length] at h1
 have h2:=a6b s.Kind.toNat
 have h3:=a0p s.Kind
 have h4:=a0O s
 have h5:=a2Z s.l9 ho.pred s.l9.length (Nat.le_refl _)
 rw [List.take_length] at h5
 have h6:=h.b1c
 rw [a2C (I3 ho.full),I3 ho.full,List.length_append,List.length_append]
 split
 ·rename_i hk
  have h7:=ho.name hk
  unfold u7 at h7
  simp at h7
  simp only [List.length_cons];omega
 ·simp only [List.length_nil];omega
theorem a3w:∀ (l:List Step),(∀ s∈l,U5 s)→(M4 l).length≤517*l.length∧l.length≤(M4 l).length
 | [],_=>by simp [M4]
 | s::r,h=>by
  have ih:=a3w r fun q hq=>h q (List.mem_cons_of_mem _ hq)
  have h1:=a7d (h s (List.mem_cons_self ..))
  have e:M4 (s::r)=(L7 s ++ [10])++M4 r:=rfl
  rw [e,List.length_append,List.length_append];simp only [List.length_cons,List.length_nil];omega
theorem a83 {l:List Step} (h:∀ s∈l,U5 s):P4 l=(⟨M4 l⟩,0):=a07 l fun i hi=>(h _ (List.getElem_mem hi)).line
theorem a3x:∀ (l:List Step) (n:Nat) (a:List Step),(∀ s∈l,(D0 s).2=0)→P0 (M4 l) n a (a++l,0,0)
 | [],n,a,_=>by rw [List.append_nil];exact .nil n a
 | s::r,n,a,h=>by
  have h0:=h s (List.mem_cons_self ..)
  have ih:=a3x r (n+1) (a ++ [s]) fun q hq=>h q (List.mem_cons_of_mem _ hq)
  rw [List.append_assoc] at ih
  have e:M4 (s::r)=L7 s++10::M4 r:=by
   show(L7 s ++ [10])++M4 r=_
   simp
  refine .line (x:=L7 s) (r:=M4 r) ?_ ⟨h0,a8⟩ ih
  rw [e]
  exact a0w _ (a9L (V6 (M5 h0).2.1))
def b1e:Pred:=⟨1,6,0,0,⟨[]⟩,0⟩
def a8p:Pred:=⟨7,0,0,0,⟨[]⟩,5⟩
def stA:Step:=⟨3,0,0,0,[b1e,a8p],default,⟨[]⟩,default⟩
def stB:Step:=⟨11,0,1,2,[],default,⟨[]⟩,⟨7,0,0,⟨[97,110,110]⟩⟩⟩
def stR:Step:=⟨1,0,0,0,[],default,⟨[]⟩,default⟩
theorem b2x:U5 stA:=⟨a2I ⟨by decide,by decide⟩ ⟨rfl,a2H zR zR zR zR zR zR zR,by decide,fun h=>Bool.noConfusion (show false=true from h)⟩,by decide⟩
theorem b2y:U5 stB:=⟨a2I ⟨by decide,by decide⟩ ⟨rfl,a2H zR ⟨by decide,by decide⟩ ⟨by decide,by decide⟩ zR zR ⟨by decide,by decide⟩ zR,by decide,fun _=>rfl⟩,by decide⟩
theorem b4V:U5 stR:=⟨a2I ⟨by decide,by decide⟩ ⟨rfl,a2H zR zR zR zR zR zR zR,by decide,fun h=>Bool.noConfusion (show false=true from h)⟩,by decide⟩
theorem a0Q (n:Nat) (h:n < 10):Lib.itoa (n:Int) = [UInt8.ofNat (48+n)]:=by
 unfold Lib.itoa
 rw [if_neg (by omega),Int.toNat_natCast,O0,if_pos h]
def b2z:List UInt8 := [109,105,110,116,32,48,59,32,122,111,110,101,32,49,44,50,59,32,114,105,100,101,115,32,53]
def b2A:List UInt8 := [112,114,101,115,101,110,116,32,48,32,49,32,50,32,55,32,48,59,32,97,110,110]
theorem a9M:D3 b1e = [122,111,110,101,32,49,44,50]:=by
 have e:G6 6 64 = [1,2]:=by decide
 have d1:decDigits 1 = [49]:=by rw [O0];rfl
 have d2:decDigits 2 = [50]:=by rw [O0];rfl
 show O3 1++32::E0 44 ((G6 6 64).map decDigits)=_
 rw [e,List.map_cons,List.map_cons,List.map_nil,d1,d2];rfl
theorem a8q:D3 a8p = [114,105,100,101,115,32,53]:=by
 have d5:decDigits 5 = [53]:=by rw [O0];rfl
 show O3 7++32::decDigits 5=_
 rw [d5];rfl
theorem b1f:L7 stA=b2z:=by
 have h0:=a0Q 0 (by decide)
 show Lib.join (G8 (U4.getD 3 []) [0]::([D3 b1e,D3 a8p] ++ [])) [59,32]=_
 rw [Y5,a9M,a8q,List.map_cons,List.map_nil]
 rw [show Lib.itoa (0:Int) = [48] from h0];rfl
theorem b1g:L7 stB=b2A:=by
 have h0:=a0Q 0 (by decide)
 have h1:=a0Q 1 (by decide)
 have h2:=a0Q 2 (by decide)
 have h7:=a0Q 7 (by decide)
 show Lib.join (G8 (U4.getD 11 []) [0,1,2,7,0]::([] ++ [[97,110,110]])) [59,32]=_
 rw [Y5]
 simp only [List.map_cons,List.map_nil]
 rw [show Lib.itoa (0:Int) = [48] from h0,show Lib.itoa (1:Int) = [49] from h1,show Lib.itoa (2:Int) = [50] from h2,show Lib.itoa (7:Int) = [55] from h7];rfl
theorem b1h:L7 stR = [114,111,116,97,116,101]:=by
 show Lib.join (G8 (U4.getD 1 []) []::([] ++ [])) [59,32]=_
 rfl
def b2e:List UInt8:=b2z ++ [10]++(b2A ++ [10])
theorem a7e:M4 [stA,stB]=b2e:=by
 show((L7 stA ++ [10])++((L7 stB ++ [10]) ++ []))=_
 rw [b1f,b1g];rfl
theorem a8r {q:List Step×Int×Int} (h:P0 b2e 1 [] q):q=([stA,stB],0,0):=by
 have:=a3x [stA,stB] 1 [] (by intro s hs;simp at hs;rcases hs with rfl|rfl;exact b2x.line;exact b2y.line)
 rw [a7e] at this
 exact h.uniq this
theorem b2f:∀ st,¬G5 st [116,105,99,107,32,48,49]:=by
 intro st h
 have hs:=h.split
 rw [a4w (by decide),parts_eq] at hs
 injection hs with h1 _
 have h2:=a0d st.Kind.toNat (p9 st)
 rw [←h1] at h2
 have e:A0 32 [116,105,99,107,32,48,49] = [[116,105,99,107],[48,49]]:=by decide
 rw [e] at h2
 injection h2 with _ h3
 cases hv:p9 st with
 | nil=>rw [hv] at h3;cases h3
 | cons v r =>
  rw [hv,List.map_cons] at h3
  injection h3 with h4 _
  obtain⟨b0,b1⟩:=a6f (h.ok.num v (by rw [hv];exact List.mem_cons_self ..))
  have h5:=a25 b0 b1
  rw [←h4] at h5
  have h6:atoiAll [48,49] = .ok 1:=by decide
  rw [h6] at h5
  have h7:(1:Int)=v:=by injection h5
  rw [←h7] at h4
  rw [show Lib.itoa (1:Int) = [49] from a0Q 1 (by decide)] at h4
  cases h4
def b2g:List UInt8 := [114,111,116,97,116,101,10,116,105,99,107,32,48,49,10]
theorem a8s {q:List Step×Int×Int} (h:P0 b2g 1 [] q):q=([],2,8):=by
 have h2:P0 b2g 1 [] ([],2,8):=by
  refine .line (x := [114,111,116,97,116,101]) (r := [116,105,99,107,32,48,49,10]) (st:=stR) (by decide) ⟨b4V.line,b1h⟩ ?_
  exact .bad 2 _ (by decide) fun x r hc st=>by
   rw [show y2 10 [116,105,99,107,32,48,49,10]=([116,105,99,107,32,48,49],[],true) by decide] at hc
   simp only [Prod.mk.injEq] at hc
   rw [←hc.1]
   exact b2f st
 exact h.uniq h2
theorem a84:b2e = [109,105,110,116,32,48,59,32,122,111,110,101,32,49,44,50,59,32,114,105,100,101,115,32,53,10,112,114,101,115,101,110,116,32,48,32,49,32,50,32,55,32,48,59,32,97,110,110,10]:=rfl
theorem b2h:b2g = [114,111,116,97,116,101,10,116,105,99,107,32,48,49,10]:=rfl
theorem a8t:y6 gl prog 11 [.v (u0.mk [109,105,110,116,32,48,59,32,122,111,110,101,32,49,44,50,59,32,114,105,100,101,115,32,53,10,112,114,101,115,101,110,116,32,48,32,49,32,50,32,55,32,48,59,32,97,110,110,10])] (fun r=>r = .t3 (.v [stA,stB]) (.v (0:Int)) (.v (0:Int))):=by
 rw [←a84]
 exact(a0q ⟨b2e⟩ (by decide)).mono fun r ⟨q,h1,h2⟩=>by rw [a8r h1] at h2;exact h2
theorem a8u:y6 gl prog 11 [.v (u0.mk [114,111,116,97,116,101,10,116,105,99,107,32,48,49,10])] (fun r=>r = .t3 (.v ([]:List Step)) (.v (2:Int)) (.v (8:Int))):=by
 rw [←b2h]
 exact(a0q ⟨b2g⟩ (by decide)).mono fun r ⟨q,h1,h2⟩=>by rw [a8s h1] at h2;exact h2
theorem a9N:y6 gl prog 9 [.v [stA,stB]] (fun r=>r = .t2 (.v (u0.mk [109,105,110,116,32,48,59,32,122,111,110,101,32,49,44,50,59,32,114,105,100,101,115,32,53,10,112,114,101,115,101,110,116,32,48,32,49,32,50,32,55,32,48,59,32,97,110,110,10])) (.v (0:Int))):=by
 rw [←a84]
 exact(Q7 [stA,stB] (by decide) (by decide)).mono fun r h=>by
  rw [a83 (l := [stA,stB]) (by intro s hs;simp at hs;rcases hs with rfl|rfl;exact b2x;exact b2y),a7e] at h;exact h
theorem G2:y6 gl prog 6 [] (fun r=>r = .v true):=by
 refine y6.jn func6 (by kernel_rfl) 67 rfl fun C hC hG => ?_
 refine .q 6 hG ?_
 refine .k hG (a8t) ?_
 refine .q 11 hG ?_
 refine .k hG (a9N) ?_
 refine .q 8 hG ?_
 refine .k hG (a8u) ?_
 refine .q 27 hG ?_
 refine .go 39 a8 (.t a8) (fun hg41 => .idx q9 underlying22 (.q a8 hg41) (.i a8) (by first|omega|(simp;done)|(simp;omega)|(have:=hg41;simp at this;omega)) (by first|omega|(simp;done)|(simp;omega)|(have:=hg41;simp at this;omega)) a8) ?_
 refine .q 7 hG ?_
 refine .go 47 a8 (.t a8) (fun hg49 => .idx q9 underlying22 (.q a8 hg49) (.i a8) (by first|omega|(simp;done)|(simp;omega)|(have:=hg49;simp at this;omega)) (by first|omega|(simp;done)|(simp;omega)|(have:=hg49;simp at this;omega)) a8) ?_
 refine .q 20 hG ?_
 refine .e1 a8 a8 ?_
 rfl
theorem a7f (deck:List Int) (n:Int) (h0:0≤n) (h1:n≤1000):y6 gl prog 7 [.v deck,.v n] (fun r=>∃ (l:List Step) (b:AV),r = .t2 (.v l) b∧(l.length:Int)≤5+n∧5≤l.length∧∀ s∈l,U5 s):=by
 refine y6.jn func7 (by kernel_rfl) 17 rfl fun C hC hG => ?_
 refine .q 3 hG ?_
 refine .p (.assign .raw ?_)
 refine .q 4 hG ?_
 refine .k0 hG (a9m _) fun r9 Hs9 hr9 => ?_
 obtain⟨b9,rfl,rfl⟩:=hr9
 show C4 _ _ _ _ _ _ _ ((true,_)::_)
 refine .q 5 hG ?_
 refine .km hG (a4K _ _ _ (by first|assumption|exact l8 _)) .z (by rintro _ _ ⟨_,_,_,_,_,rfl⟩;exact⟨_,rfl⟩) fun r11 B11 hr11 => ?_
 obtain⟨c11,hc11,d11,hd11,rfl,hB⟩:=hr11
 cases hB
 refine .q 1 hG fun b7 => ?_
 refine .q 7 hG ?_
 refine .km hG (a6h _ _ _ _ (by assumption) (by assumption) h0 h1) .z1 (by rintro _ _ ⟨_,_,_,_,_,_,_,rfl⟩;exact⟨_,rfl⟩) fun r15 B15 hr15 => ?_
 obtain⟨l15,hl15,hm15,hp15,d15,hd15,rfl,hB⟩:=hr15
 cases hB
 refine .q 5 hG ?_
 refine .e2 a8 a8 a8 ?_
 exact⟨_,_,a8,hl15,hm15,hp15⟩
def a7g (l:List Step):Prop:=(∀ s∈l,s.l9.length≤4000)∧l.length≤10000
theorem C0 {l:List Step} {i:Nat} {x:Step} (h:a7g l) (hx:x.l9.length≤4000):a7g (l.set i x):=⟨fun s hs=>by
 rcases List.mem_or_eq_of_mem_set hs with h1|h1
 ·exact h.1 s h1
 ·rw [h1];exact hx,by rw [List.length_set];exact h.2⟩
theorem b2B {l:List Step} (h:∀ s∈l,U5 s) (hl:(l.length:Int)≤1000):a7g l:=⟨fun s hs=>by have:=(h s hs).b1c;omega,by omega⟩
theorem O4 {a b c:List Step} (ha:a7g a) (hb:a7g b) (hc:a7g c) (k:Nat) (h:k < [a,b,c].length):a7g ([a,b,c][k]'h):=by
 have:=List.getElem_mem h
 simp only [List.mem_cons,List.not_mem_nil,or_false] at this
 rcases this with e|e|e<;>rw [e]<;>assumption
theorem a4L (raw:u0) (deck:List Int) (at_:Int) (c:UInt8) (how:UInt8):y6 gl prog 4 [.v raw,.v deck,.v at_,.v c,.v how] (fun r=>r = .v true):=by
 refine y6.jn func4 (by kernel_rfl) 135 rfl fun C hC hG => ?_
 refine .q 9 hG ?_
 refine .p (.a4C (.t a8) (.i a8) (.p (.a0Z underlying9 (.t a8) (.t a8) (by first|omega|(simp;done)|(simp;omega)|(simp at *;omega)) (by first|omega|(simp;done)|(simp;omega)|(simp at *;omega)) ?_)))
 refine .q 5 hG ?_
 refine .p (.call hG (a7f _ _ (by decide) (by decide)) (.cons (.t a8) (.cons (.i a8) .nil)) fun r30 hr30 => ?_)
 obtain⟨l,b,rfl,hl1,hl2,hl3⟩:=hr30
 have hl:=b2B hl3 (by omega)
 obtain⟨ht1,ht2⟩:=a3w l hl3
 refine .q 9 hG ?_
 refine .k hG (K5 _ hl.1 hl.2) ?_
 rw [a83 hl3]
 refine .q 12 hG ?_
 refine .a1g (.t a8) (fun hc39=>(by exfalso;exact hc39 rfl)) (fun hc39 => ?_)
 refine .q 6 hG ?_
 refine .p (.A4 hG (I7 _ _ (by first|omega|(simp;done)|(simp;omega)|(simp at *;omega)) (by first|omega|(simp;done)|(simp;omega)|(simp at *;omega))) (.cons (.t a8) (.cons (.t a8) .nil)) ?_)
 have hw0:=Int.emod_nonneg at_ (show((M4 l).length:Int)≠0 by omega)
 have hw1:=Int.emod_lt_of_pos at_ (show 0 < ((M4 l).length:Int) by omega)
 refine .q 6 hG ?_
 refine .p (.b3o (.t a8) (.u8 5 a8) (by decide) ?_)
 refine .q 8 hG ⟨fun hc46 => ?_,fun hc46 => ?_⟩
 ·refine .draw (by kernel_rfl) 13 [[],[],[(48,0),(49,1)],[],[(51,3)],[(52,4)],[(50,2),(53,5)],[],[],[(56,8)],[(55,7),(57,9)],[(54,6),(58,10)],[(59,11)]] a8 (by kernel_rfl) a8 ?_
  refine⟨_,j7.move (.t a8) a8,?_⟩
  refine⟨_,j7.move (.t a8) a8,?_⟩
  refine⟨_,j7.a0Z underlying9 (.t a8) (.t a8) (by first|omega|(simp;done)|(simp;omega)|(simp at *;omega)) (by first|omega|(simp;done)|(simp;omega)|(simp at *;omega)) a8,?_⟩
  refine⟨_,j7.move (.t a8) a8,?_⟩
  refine⟨_,j7.L5 (α:=UInt8) ty5 underlying45 (.cons (.t a8) .nil) a8 (by decide) a8,?_⟩
  refine⟨_,j7.a2r underlying45 underlying5 underlying9 (.c a8) a8,?_⟩
  refine⟨_,j7.D8 (.t a8) (.t a8) (by first|omega|(simp;done)|(simp;omega)|(simp at *;omega)) a8,?_⟩
  refine⟨_,j7.move (.t a8) a8,?_⟩
  refine⟨_,j7.move (.t a8) a8,?_⟩
  refine⟨_,j7.add (.t a8) (.i a8) (by first|omega|(simp;done)|(simp;omega)|(simp at *;omega)) (by first|omega|(simp;done)|(simp;omega)|(simp at *;omega)) a8,?_⟩
  refine⟨_,j7.a0Y underlying9 (.t a8) (.t a8) (by first|omega|(simp;done)|(simp;omega)|(simp at *;omega)) (by first|omega|(simp;done)|(simp;omega)|(simp at *;omega)) a8,?_⟩
  refine⟨_,j7.D8 (.t a8) (.t a8) (by first|omega|(simp;done)|(simp;omega)|(simp at *;omega)) a8,?_⟩
  refine⟨_,j7.assign (.t a8) a8,?_⟩
  show C4 _ _ _ _ _ [] ((13,_)::(59,_)::(58,_)::(57,_)::(56,_)::(55,_)::(54,_)::(53,_)::(52,_)::(51,_)::(50,_)::(49,_)::(48,_)::_) _
  refine .q 7 hG ?_
  refine .C2 (α:=Nat×List UInt8) [(13,_)] (fun x R=>(0,.v (u0.mk x.2))::(16,.v (x.1:Int))::R) (fun x => []) (fun x=>x.2.length≤7900) (fun x=>2 - x.1) ((0,raw.l.take (min (raw.l.length:Int) 500).toNat)) (.cons a8 (.nil _)) ?_ (.c2 a8 a8 (.cons a8 (.nil _))) (a8) fun x hF => ?_
  ·simp;omega
  obtain⟨k,l2⟩:=x
  dsimp only at hF ⊢
  refine .q 7 hG ⟨fun hc104 => ?_,fun hc104 => ?_⟩
  ·refine .q 6 hG ?_
   refine .kx hG (a0q _ (by first|omega|(simp;done)|(simp;omega)|(simp at *;omega))) fun r109 hr109 => ?_
   obtain⟨q,hq,rfl⟩:=hr109
   refine .q 11 hG ?_
   refine .kx hG (Y6 _ (by first|omega|(simp;done)|(simp;omega)|(simp at *;omega))) fun r115 hr115 => ?_
   obtain⟨q',hq',rfl⟩:=hr115
   obtain rfl:=hq.uniq hq'
   refine .q 13 hG ?_
   refine .p (.A4 hG (S1 _ _) (.cons (.t a8) (.cons (.t a8) .nil)) ?_)
   refine .q 12 hG ?_
   refine .cond (.t a8) (fun hc132=>(by exfalso;simp at hc132)) (fun hc132 => ?_)
   refine .q 7 hG ?_
   refine .ad (by first|omega|(simp;done)|(simp;omega)|(simp at *;omega)) (by first|omega|(simp;done)|(simp;omega)|(simp at *;omega)) ?_
   refine .q 2 hG ?_
   refine⟨(k+1,_),.c2 rfl rfl (.cons rfl (.nil _)),rfl,?_,by dsimp only;omega⟩
   dsimp only;first|omega|exact Nat.le_trans ht1 (by omega)|(simp only [List.length_append,List.length_take,List.length_drop,List.length_cons,List.length_nil];omega)
  ·refine .q 3 hG ?_
   refine .k hG (G2) ?_
   refine .q 3 hG ?_
   refine .e1 a8 a8 ?_
   rfl
 ·refine .q 6 hG ⟨fun hc60 => ?_,fun hc60 => ?_⟩
  ·refine .draw (by kernel_rfl) 9 [[],[],[(62,0),(63,1)],[],[],[(66,4)],[(65,3),(67,5)],[(64,2),(68,6)],[(69,7)]] a8 (by kernel_rfl) a8 ?_
   refine⟨_,j7.move (.t a8) a8,?_⟩
   refine⟨_,j7.move (.t a8) a8,?_⟩
   refine⟨_,j7.a0Z underlying9 (.t a8) (.t a8) (by first|omega|(simp;done)|(simp;omega)|(simp at *;omega)) (by first|omega|(simp;done)|(simp;omega)|(simp at *;omega)) a8,?_⟩
   refine⟨_,j7.move (.t a8) a8,?_⟩
   refine⟨_,j7.move (.t a8) a8,?_⟩
   refine⟨_,j7.add (.t a8) (.i a8) (by first|omega|(simp;done)|(simp;omega)|(simp at *;omega)) (by first|omega|(simp;done)|(simp;omega)|(simp at *;omega)) a8,?_⟩
   refine⟨_,j7.a0Y underlying9 (.t a8) (.t a8) (by first|omega|(simp;done)|(simp;omega)|(simp at *;omega)) (by first|omega|(simp;done)|(simp;omega)|(simp at *;omega)) a8,?_⟩
   refine⟨_,j7.D8 (.t a8) (.t a8) (by first|omega|(simp;done)|(simp;omega)|(simp at *;omega)) a8,?_⟩
   refine⟨_,j7.assign (.t a8) a8,?_⟩
   show C4 _ _ _ _ _ [] ((13,_)::(69,_)::(68,_)::(67,_)::(66,_)::(65,_)::(64,_)::(63,_)::(62,_)::_) _
   refine .q 7 hG ?_
   refine .C2 (α:=Nat×List UInt8) [(13,_)] (fun x R=>(0,.v (u0.mk x.2))::(16,.v (x.1:Int))::R) (fun x => []) (fun x=>x.2.length≤7900) (fun x=>2 - x.1) ((0,raw.l.take (min (raw.l.length:Int) 500).toNat)) (.cons a8 (.nil _)) ?_ (.c2 a8 a8 (.cons a8 (.nil _))) (a8) fun x hF => ?_
   ·simp;omega
   obtain⟨k,l2⟩:=x
   dsimp only at hF ⊢
   refine .q 7 hG ⟨fun hc104 => ?_,fun hc104 => ?_⟩
   ·refine .q 6 hG ?_
    refine .kx hG (a0q _ (by first|omega|(simp;done)|(simp;omega)|(simp at *;omega))) fun r109 hr109 => ?_
    obtain⟨q,hq,rfl⟩:=hr109
    refine .q 11 hG ?_
    refine .kx hG (Y6 _ (by first|omega|(simp;done)|(simp;omega)|(simp at *;omega))) fun r115 hr115 => ?_
    obtain⟨q',hq',rfl⟩:=hr115
    obtain rfl:=hq.uniq hq'
    refine .q 13 hG ?_
    refine .p (.A4 hG (S1 _ _) (.cons (.t a8) (.cons (.t a8) .nil)) ?_)
    refine .q 12 hG ?_
    refine .cond (.t a8) (fun hc132=>(by exfalso;simp at hc132)) (fun hc132 => ?_)
    refine .q 7 hG ?_
    refine .ad (by first|omega|(simp;done)|(simp;omega)|(simp at *;omega)) (by first|omega|(simp;done)|(simp;omega)|(simp at *;omega)) ?_
    refine .q 2 hG ?_
    refine⟨(k+1,_),.c2 rfl rfl (.cons rfl (.nil _)),rfl,?_,by dsimp only;omega⟩
    dsimp only;first|omega|exact Nat.le_trans ht1 (by omega)|(simp only [List.length_append,List.length_take,List.length_drop,List.length_cons,List.length_nil];omega)
   ·refine .q 3 hG ?_
    refine .k hG (G2) ?_
    refine .q 3 hG ?_
    refine .e1 a8 a8 ?_
    rfl
  ·refine .q 6 hG ⟨fun hc70 => ?_,fun hc70 => ?_⟩
   ·refine .draw (by kernel_rfl) 12 [[],[],[(72,0),(73,1)],[],[(75,3)],[(76,4)],[(74,2),(77,5)],[],[],[(79,7),(80,8)],[(78,6),(81,9)],[(82,10)]] a8 (by kernel_rfl) a8 ?_
    refine⟨_,j7.move (.t a8) a8,?_⟩
    refine⟨_,j7.move (.t a8) a8,?_⟩
    refine⟨_,j7.a0Z underlying9 (.t a8) (.t a8) (by first|omega|(simp;done)|(simp;omega)|(simp at *;omega)) (by first|omega|(simp;done)|(simp;omega)|(simp at *;omega)) a8,?_⟩
    refine⟨_,j7.move (.t a8) a8,?_⟩
    refine⟨_,j7.L5 (α:=UInt8) ty5 underlying45 (.cons (.t a8) .nil) a8 (by decide) a8,?_⟩
    refine⟨_,j7.a2r underlying45 underlying5 underlying9 (.c a8) a8,?_⟩
    refine⟨_,j7.D8 (.t a8) (.t a8) (by first|omega|(simp;done)|(simp;omega)|(simp at *;omega)) a8,?_⟩
    refine⟨_,j7.move (.t a8) a8,?_⟩
    refine⟨_,j7.move (.t a8) a8,?_⟩
    refine⟨_,j7.a0Y underlying9 (.t a8) (.t a8) (by first|omega|(simp;done)|(simp;omega)|(simp at *;omega)) (by first|omega|(simp;done)|(simp;omega)|(simp at *;omega)) a8,?_⟩
    refine⟨_,j7.D8 (.t a8) (.t a8) (by first|omega|(simp;done)|(simp;omega)|(simp at *;omega)) a8,?_⟩
    refine⟨_,j7.assign (.t a8) a8,?_⟩
    show C4 _ _ _ _ _ [] ((13,_)::(82,_)::(81,_)::(80,_)::(79,_)::(78,_)::(77,_)::(76,_)::(75,_)::(74,_)::(73,_)::(72,_)::_) _
    refine .q 7 hG ?_
    refine .C2 (α:=Nat×List UInt8) [(13,_)] (fun x R=>(0,.v (u0.mk x.2))::(16,.v (x.1:Int))::R) (fun x => []) (fun x=>x.2.length≤7900) (fun x=>2 - x.1) ((0,raw.l.take (min (raw.l.length:Int) 500).toNat)) (.cons a8 (.nil _)) ?_ (.c2 a8 a8 (.cons a8 (.nil _))) (a8) fun x hF => ?_
    ·simp;omega
    obtain⟨k,l2⟩:=x
    dsimp only at hF ⊢
    refine .q 7 hG ⟨fun hc104 => ?_,fun hc104 => ?_⟩
    ·refine .q 6 hG ?_
     refine .kx hG (a0q _ (by first|omega|(simp;done)|(simp;omega)|(simp at *;omega))) fun r109 hr109 => ?_
     obtain⟨q,hq,rfl⟩:=hr109
     refine .q 11 hG ?_
     refine .kx hG (Y6 _ (by first|omega|(simp;done)|(simp;omega)|(simp at *;omega))) fun r115 hr115 => ?_
     obtain⟨q',hq',rfl⟩:=hr115
     obtain rfl:=hq.uniq hq'
     refine .q 13 hG ?_
     refine .p (.A4 hG (S1 _ _) (.cons (.t a8) (.cons (.t a8) .nil)) ?_)
     refine .q 12 hG ?_
     refine .cond (.t a8) (fun hc132=>(by exfalso;simp at hc132)) (fun hc132 => ?_)
     refine .q 7 hG ?_
     refine .ad (by first|omega|(simp;done)|(simp;omega)|(simp at *;omega)) (by first|omega|(simp;done)|(simp;omega)|(simp at *;omega)) ?_
     refine .q 2 hG ?_
     refine⟨(k+1,_),.c2 rfl rfl (.cons rfl (.nil _)),rfl,?_,by dsimp only;omega⟩
     dsimp only;first|omega|exact Nat.le_trans ht1 (by omega)|(simp only [List.length_append,List.length_take,List.length_drop,List.length_cons,List.length_nil];omega)
    ·refine .q 3 hG ?_
     refine .k hG (G2) ?_
     refine .q 3 hG ?_
     refine .e1 a8 a8 ?_
     rfl
   ·refine .q 6 hG ⟨fun hc83 => ?_,fun hc83 => ?_⟩
    ·refine .q 3 hG ?_
     refine .p (.a0Z underlying9 (.t a8) (.t a8) (by first|omega|(simp;done)|(simp;omega)|(simp at *;omega)) (by first|omega|(simp;done)|(simp;omega)|(simp at *;omega)) ?_)
     refine .q 8 hG ?_
     refine .C2 (α:=Nat×List UInt8) [(13,_)] (fun x R=>(0,.v (u0.mk x.2))::(16,.v (x.1:Int))::R) (fun x => []) (fun x=>x.2.length≤7900) (fun x=>2 - x.1) ((0,raw.l.take (min (raw.l.length:Int) 500).toNat)) (.cons a8 (.nil _)) ?_ (.c2 a8 a8 (.cons a8 (.nil _))) (a8) fun x hF => ?_
     ·simp;omega
     obtain⟨k,l2⟩:=x
     dsimp only at hF ⊢
     refine .q 7 hG ⟨fun hc104 => ?_,fun hc104 => ?_⟩
     ·refine .q 6 hG ?_
      refine .kx hG (a0q _ (by first|omega|(simp;done)|(simp;omega)|(simp at *;omega))) fun r109 hr109 => ?_
      obtain⟨q,hq,rfl⟩:=hr109
      refine .q 11 hG ?_
      refine .kx hG (Y6 _ (by first|omega|(simp;done)|(simp;omega)|(simp at *;omega))) fun r115 hr115 => ?_
      obtain⟨q',hq',rfl⟩:=hr115
      obtain rfl:=hq.uniq hq'
      refine .q 13 hG ?_
      refine .p (.A4 hG (S1 _ _) (.cons (.t a8) (.cons (.t a8) .nil)) ?_)
      refine .q 12 hG ?_
      refine .cond (.t a8) (fun hc132=>(by exfalso;simp at hc132)) (fun hc132 => ?_)
      refine .q 7 hG ?_
      refine .ad (by first|omega|(simp;done)|(simp;omega)|(simp at *;omega)) (by first|omega|(simp;done)|(simp;omega)|(simp at *;omega)) ?_
      refine .q 2 hG ?_
      refine⟨(k+1,_),.c2 rfl rfl (.cons rfl (.nil _)),rfl,?_,by dsimp only;omega⟩
      dsimp only;first|omega|exact Nat.le_trans ht1 (by omega)|(simp only [List.length_append,List.length_take,List.length_drop,List.length_cons,List.length_nil];omega)
     ·refine .q 3 hG ?_
      refine .k hG (G2) ?_
      refine .q 3 hG ?_
      refine .e1 a8 a8 ?_
      rfl
    ·refine .q 6 hG ⟨fun hc88 => ?_,fun hc88 => ?_⟩
     ·have hc6:(c % 8).toNat < 8:=(by rw [UInt8.toNat_mod];exact Nat.mod_lt _ (by decide))
      have hx9:=(by decide:∀ y∈([⟨[32]⟩,⟨[59,32]⟩,⟨[10]⟩,⟨[48]⟩,⟨[45]⟩,⟨[59,32,97,110,110]⟩,⟨[32,49]⟩,⟨[59,32,114,105,100,101,115,32,51]⟩]:List u0),y.l.length≤9) (([⟨[32]⟩,⟨[59,32]⟩,⟨[10]⟩,⟨[48]⟩,⟨[45]⟩,⟨[59,32,97,110,110]⟩,⟨[32,49]⟩,⟨[59,32,114,105,100,101,115,32,51]⟩]:List u0)[(c % 8).toNat]'hc6) (List.getElem_mem _)
      refine .draw (by kernel_rfl) 14 [[],[],[(90,0),(91,1)],[],[],[(94,4)],[(93,3),(95,5)],[(96,6)],[(92,2),(97,7)],[],[],[(99,9),(100,10)],[(98,8),(101,11)],[(102,12)]] a8 (by kernel_rfl) a8 ?_
      refine⟨_,j7.move (.t a8) a8,?_⟩
      refine⟨_,j7.move (.t a8) a8,?_⟩
      refine⟨_,j7.a0Z underlying9 (.t a8) (.t a8) (by first|omega|(simp;done)|(simp;omega)|(simp at *;omega)) (by first|omega|(simp;done)|(simp;omega)|(simp at *;omega)) a8,?_⟩
      refine⟨_,j7.L5 (α:=u0) ty9 underlying36 (.cons (.s [32] (by decide) (by decide)) (.cons (.s [59,32] (by decide) (by decide)) (.cons (.s [10] (by decide) (by decide)) (.cons (.s [48] (by decide) (by decide)) (.cons (.s [45] (by decide) (by decide)) (.cons (.s [59,32,97,110,110] (by decide) (by decide)) (.cons (.s [32,49] (by decide) (by decide)) (.cons (.s [59,32,114,105,100,101,115,32,51] (by decide) (by decide)) .nil)))))))) a8 (by decide) a8,?_⟩
      refine⟨_,j7.move (.t a8) a8,?_⟩
      refine⟨_,j7.b3o (.t a8) (.u8 8 a8) (by decide) a8,?_⟩
      refine⟨_,j7.b5L ty9 underlying36 (.c a8) (.t a8) (by first|omega|(simp;done)|(simp;omega)|(simp at *;omega)) a8,?_⟩
      refine⟨_,j7.F1 ty9 (.t a8) a8,?_⟩
      refine⟨_,j7.D8 (.t a8) (.t a8) (by first|omega|(simp;done)|(simp;omega)|(simp at *;omega)) a8,?_⟩
      refine⟨_,j7.move (.t a8) a8,?_⟩
      refine⟨_,j7.move (.t a8) a8,?_⟩
      refine⟨_,j7.a0Y underlying9 (.t a8) (.t a8) (by first|omega|(simp;done)|(simp;omega)|(simp at *;omega)) (by first|omega|(simp;done)|(simp;omega)|(simp at *;omega)) a8,?_⟩
      refine⟨_,j7.D8 (.t a8) (.t a8) (by first|omega|(simp;done)|(simp;omega)|(simp at *;omega)) a8,?_⟩
      refine⟨_,j7.assign (.t a8) a8,?_⟩
      show C4 _ _ _ _ _ [] ((13,_)::(102,_)::(101,_)::(100,_)::(99,_)::(98,_)::(97,_)::(96,_)::(95,_)::(94,_)::(93,_)::(92,_)::(91,_)::(90,_)::_) _
      refine .q 7 hG ?_
      refine .C2 (α:=Nat×List UInt8) [(13,_)] (fun x R=>(0,.v (u0.mk x.2))::(16,.v (x.1:Int))::R) (fun x => []) (fun x=>x.2.length≤7900) (fun x=>2 - x.1) ((0,raw.l.take (min (raw.l.length:Int) 500).toNat)) (.cons a8 (.nil _)) ?_ (.c2 a8 a8 (.cons a8 (.nil _))) (a8) fun x hF => ?_
      ·simp;omega
      obtain⟨k,l2⟩:=x
      dsimp only at hF ⊢
      refine .q 7 hG ⟨fun hc104 => ?_,fun hc104 => ?_⟩
      ·refine .q 6 hG ?_
       refine .kx hG (a0q _ (by first|omega|(simp;done)|(simp;omega)|(simp at *;omega))) fun r109 hr109 => ?_
       obtain⟨q,hq,rfl⟩:=hr109
       refine .q 11 hG ?_
       refine .kx hG (Y6 _ (by first|omega|(simp;done)|(simp;omega)|(simp at *;omega))) fun r115 hr115 => ?_
       obtain⟨q',hq',rfl⟩:=hr115
       obtain rfl:=hq.uniq hq'
       refine .q 13 hG ?_
       refine .p (.A4 hG (S1 _ _) (.cons (.t a8) (.cons (.t a8) .nil)) ?_)
       refine .q 12 hG ?_
       refine .cond (.t a8) (fun hc132=>(by exfalso;simp at hc132)) (fun hc132 => ?_)
       refine .q 7 hG ?_
       refine .ad (by first|omega|(simp;done)|(simp;omega)|(simp at *;omega)) (by first|omega|(simp;done)|(simp;omega)|(simp at *;omega)) ?_
       refine .q 2 hG ?_
       refine⟨(k+1,_),.c2 rfl rfl (.cons rfl (.nil _)),rfl,?_,by dsimp only;omega⟩
       dsimp only;first|omega|exact Nat.le_trans ht1 (by omega)|(simp only [List.length_append,List.length_take,List.length_drop,List.length_cons,List.length_nil];omega)
      ·refine .q 3 hG ?_
       refine .k hG (G2) ?_
       refine .q 3 hG ?_
       refine .e1 a8 a8 ?_
       rfl
     ·refine .q 7 hG ?_
      refine .C2 (α:=Nat×List UInt8) [(13,_)] (fun x R=>(0,.v (u0.mk x.2))::(16,.v (x.1:Int))::R) (fun x => []) (fun x=>x.2.length≤7900) (fun x=>2 - x.1) ((0,raw.l.take (min (raw.l.length:Int) 500).toNat)) (.cons a8 (.nil _)) ?_ (.c2 a8 a8 (.cons a8 (.nil _))) (a8) fun x hF => ?_
      ·simp;omega
      obtain⟨k,l2⟩:=x
      dsimp only at hF ⊢
      refine .q 7 hG ⟨fun hc104 => ?_,fun hc104 => ?_⟩
      ·refine .q 6 hG ?_
       refine .kx hG (a0q _ (by first|omega|(simp;done)|(simp;omega)|(simp at *;omega))) fun r109 hr109 => ?_
       obtain⟨q,hq,rfl⟩:=hr109
       refine .q 11 hG ?_
       refine .kx hG (Y6 _ (by first|omega|(simp;done)|(simp;omega)|(simp at *;omega))) fun r115 hr115 => ?_
       obtain⟨q',hq',rfl⟩:=hr115
       obtain rfl:=hq.uniq hq'
       refine .q 13 hG ?_
       refine .p (.A4 hG (S1 _ _) (.cons (.t a8) (.cons (.t a8) .nil)) ?_)
       refine .q 12 hG ?_
       refine .cond (.t a8) (fun hc132=>(by exfalso;simp at hc132)) (fun hc132 => ?_)
       refine .q 7 hG ?_
       refine .ad (by first|omega|(simp;done)|(simp;omega)|(simp at *;omega)) (by first|omega|(simp;done)|(simp;omega)|(simp at *;omega)) ?_
       refine .q 2 hG ?_
       refine⟨(k+1,_),.c2 rfl rfl (.cons rfl (.nil _)),rfl,?_,by dsimp only;omega⟩
       dsimp only;first|omega|exact Nat.le_trans ht1 (by omega)|(simp only [List.length_append,List.length_take,List.length_drop,List.length_cons,List.length_nil];omega)
      ·refine .q 3 hG ?_
       refine .k hG (G2) ?_
       refine .q 3 hG ?_
       refine .e1 a8 a8 ?_
       rfl
end Go.Proofs.YtfkbejimghamkaaGreatDoor
namespace Go.Fl
open Go.ChangeShapes Go.WideShapes Go.ChangeAt Go.RowKit
def a1b (W:World):Im:=fun b=>W.heap[b]?
theorem b1i (W:World):Mem (a1b W) [] W:=⟨fun b o h=>h,by simp,by simp,by simp⟩
theorem Fun.calls {P : Program} {f : FuncId} {args : Array Value} {W : World} {r : Value} (h : Fun P f args (a1b W) (fun v _ => v = r)) :
    Calls P f args W (fun e W'=>e = .returned r∧Below W.heap.size W W') :=
  (h.run W (b1i W)).mono fun e w' ⟨v,J,he,hc,_,_,_,hv⟩=>⟨by rw [he,hv],⟨hc.os,hc.tape,hc.output,hc.size,fun k hk=>hc.block k hk (by simp)⟩⟩
theorem a0e {W:World} {x:Addr} {v:Value} (h:W.cell? x=some v):x.spot=none∧∃ cs e fr,W.heap[x.block]?=some (.cells cs e fr)∧cs[x.off]?=some v:=by
 unfold World.cell? at h
 split at h
 ·rename_i c e fr heq
  split at h
  ·cases h
  ·rename_i hs
   exact⟨by simpa using hs,c,e,fr,heq,h⟩
 ·cases h
end Go.Fl
namespace Go.Ab
open Go.Fl Go.RowKit Go.ChangeShapes Go.WideShapes Go.ChangeAt
open p6 (rep)
def L4 (P:Program) (T:TypeId) (α:Type) [p6 α]:Prop:=P.cellsOf T=p6.size α ∧
 ∀ (H:Type) (enc:TypeId×Value→H) (W:World) (base:Nat) (spare:Nat→Bool) (held:Bool) (fuel:Nat) (cs:List Value) (x:DataW H×List MemPlace),DataW.trod enc P W base spare held fuel T cs=some x→∃ a:α,rep (a1b W) a cs
variable {P:Program} {T E:TypeId}
theorem L4.i64 (hT:P.underlying T=some (.int .i64)) (hc:P.cellsOf T=1):L4 P T Int:=⟨hc,fun H enc W base spare held fuel cs x h=>by
 obtain⟨n,rfl,_,hw⟩:=DataW.trod_int hT h
 simp [Lit.wf,IntKind.min,IntKind.max,IntKind.signed,IntKind.bits] at hw
 exact⟨n,rfl,by omega,by omega⟩⟩
theorem L4.u8 (hT:P.underlying T=some (.int .u8)) (hc:P.cellsOf T=1):L4 P T UInt8:=⟨hc,fun H enc W base spare held fuel cs x h=>by
 obtain⟨n,rfl,_,hw⟩:=DataW.trod_int hT h
 simp [Lit.wf,IntKind.min,IntKind.max,IntKind.signed,IntKind.bits] at hw
 refine⟨UInt8.ofNat n.toNat,?_⟩
 show [Value.int .u8 n] = [Fl.u8 _]
 unfold Fl.u8
 congr 2;simp;omega⟩
theorem L4.u64 (hT:P.underlying T=some (.int .u64)) (hc:P.cellsOf T=1):L4 P T UInt64:=⟨hc,fun H enc W base spare held fuel cs x h=>by
 obtain⟨n,rfl,_,hw⟩:=DataW.trod_int hT h
 simp [Lit.wf,IntKind.min,IntKind.max,IntKind.signed,IntKind.bits] at hw
 refine⟨UInt64.ofNat n.toNat,?_⟩
 show [Value.int .u64 n] = [Fl.u64 _]
 unfold Fl.u64
 congr 2;simp;omega⟩
theorem L4.str (hT:P.underlying T=some .string) (hc:P.cellsOf T=1):L4 P T u0:=⟨hc,fun H enc W base spare held fuel cs x h=>by
 obtain⟨s,rfl,_,hs⟩:=DataW.trod_string hT h
 refine⟨⟨s.data.toList⟩,⟨s,a8,a8⟩,?_⟩
 show s.data.toList.length≤_
 have:s.data.toList.length=s.size:=rfl
 unfold maxLen at hs
 omega⟩
theorem add_add (a:Addr) (i j:Nat):(a.add i).add j=a.add (i+j):=by
 unfold Addr.add
 rcases a with ⟨b,o,_|s⟩<;>by_cases hi:i=0<;>by_cases hj:j=0<;>simp [hi,hj,Nat.add_assoc]
theorem L4.slice {α:Type} {r:p6 α} (hT:P.underlying T=some (.slice E)) (hc:P.cellsOf T=1) (hE:L4 P E α) (hp:0 < p6.size α):L4 P T (List α):=⟨hc,fun H enc W base spare held fuel cs x h=>by
 rcases DataW.trod_slice hT h with ⟨rfl,_⟩|⟨a,len,cap,elems,rest,n,_,rfl,_,hb,hl,hm,hel,hget,_⟩
 ·exact⟨[],_,a8,[],Sl.nil _ _,a8⟩
 ·have key:∀ k,k≤len→∃ (l:List α) (xs:List Value),l.length=k∧J6 (a1b W) l xs∧∀ i v,xs[i]?=some v→W.cell? (a.add i)=some v:=by
   intro k
   induction k with
   | zero=>exact fun _=>⟨[],[],rfl,rfl,fun i v hv=>by simp at hv⟩
   | succ k ih =>
    intro hk
    obtain⟨l,xs,h1,h2,h3⟩:=ih (by omega)
    have hg:=hget k (by omega)
    rw [List.getElem?_eq_getElem (by omega)] at hg
    obtain⟨c,hc1,hc2⟩:=Option.bind_eq_some_iff.1 hg
    obtain⟨_,hcl,hcell⟩:=World.cells?_some hc1
    obtain⟨y,hy⟩:=hE.2 H enc W base spare held n c _ hc2
    refine⟨l ++ [y],xs++c,by simp [h1],h2.append (.one hy),fun i v hv => ?_⟩
    have hxl:xs.length=k*p6.size α:=by rw [h2.len,h1]
    by_cases hi:i < xs.length
    ·rw [List.getElem?_append_left hi] at hv;exact h3 i v hv
    ·rw [List.getElem?_append_right (by omega)] at hv
     have hj:=(List.getElem?_eq_some_iff.1 hv).1
     have:=hcell (i - xs.length) (by omega)
     rw [hv,hE.1,add_add,←hxl,show xs.length+(i - xs.length)=i by omega] at this
     exact this
  obtain⟨l,xs,h1,h2,h3⟩:=key len (Nat.le_refl _)
  have hxl:=h2.len
  refine⟨l,_,rfl,xs,⟨_,_,by rw [h1],h2.len,by omega,hm,(fun h=>by cases h),fun hne => ?_⟩,h2⟩
  rcases a with ⟨ab,ao,ags⟩
  obtain⟨v0,hv0⟩:∃ v,xs[0]?=some v:=⟨_,List.getElem?_eq_getElem (List.length_pos_iff.2 hne)⟩
  have hc0:=h3 0 v0 hv0
  obtain⟨hsp,cs,e,fr,hob,_⟩:=a0e hc0
  have hsp2:ags=none:=by
   cases ags with
   | none=>rfl
   | some q =>
    unfold Addr.add at hsp
    simp at hsp
  subst hsp2
  rw [Addr.add_plain] at hob
  have hob:W.heap[ab]?=some (Obj.cells cs e fr):=hob
  refine⟨ab,ao,a8,cs,e,fr,hob,fun i v hv => ?_⟩
  have hcv:=h3 i v hv
  rw [Addr.add_plain] at hcv
  obtain⟨_,cs2,e2,fr2,hob2,hv2⟩:=a0e hcv
  have:Obj.cells cs e fr=Obj.cells cs2 e2 fr2:=Option.some.inj (hob.symm.trans hob2)
  cases this
  exact hv2⟩
inductive a29 (P:Program):List Field→Nat→(β:Type)→p6 β→Prop
 | nil {off:Nat}:a29 P [] off Unit inferInstance
 | cons {f:Field} {fs:List Field} {off:Nat} {α β:Type} {r:p6 α} {s:p6 β} (h1:f.offset=off) (h2:L4 P f.type α) (t:a29 P fs (off+p6.size α) β s):a29 P (f::fs) off (α×β) inferInstance
theorem a29.run {fs : List Field} {off : Nat} {β : Type} {s : p6 β} (h : a29 P fs off β s) {H : Type} {enc : TypeId × Value → H} {W : World} {base : Nat} {spare : Nat → Bool} {held : Bool} {n : Nat} {cs : List Value} (hl : cs.length = off + p6.size β)
    (hg:∀ (i:Nat) (f:Field),fs[i]?=some f→∃ x,DataW.trod enc P W base spare held n f.type ((cs.drop f.offset).take (P.cellsOf f.type))=some x):∃ b:β,rep (a1b W) b (cs.drop off):=by
  induction h with
  | nil=>exact⟨(),List.drop_eq_nil_of_le (by rw [hl];exact Nat.le_refl _)⟩
  | @cons f fs off α β r s h1 h2 t ih =>
    obtain⟨x,hx⟩:=hg 0 f rfl
    rw [h1,h2.1] at hx
    obtain⟨y,hy⟩:=h2.2 H enc W base spare held n _ _ hx
    obtain⟨b,hb⟩:=ih (by rw [hl];show off+(p6.size α+p6.size β)=_;omega) (fun i f' hf=>hg (i+1) f' (by simpa using hf))
    refine⟨(y,b),_,_,?_,hy,hb⟩
    rw [←List.drop_drop,List.take_append_drop]
theorem L4.struct {S β:Type} [s:p6 β] {fs:Array Field} (f:S→β) (g:β→S) (hfg:∀ b,f (g b)=b) (hT:P.underlying T=some (.struct fs)) (hc:P.cellsOf T=p6.size β) (h:a29 P fs.toList 0 β s) : @L4 P T S (p6.via f) :=
 letI:p6 S:=p6.via f
 ⟨hc,fun H enc W base spare held fuel cs x hx=>by
  obtain⟨xs,n,_,_,hlen,hxl,hel⟩:=DataW.trod_struct hT hx
  obtain⟨b,hb⟩:=h.run (W:=W) (enc:=enc) (base:=base) (spare:=spare) (held:=held) (n:=n) (cs:=cs) (by rw [hlen,hc];omega) (fun i f hf=>by
   have hf':fs[i]?=some f:=by simpa using hf
   have:=hel i f hf'
   have hi:=(Array.getElem?_eq_some_iff.1 hf').1
   exact⟨_,this.trans (List.getElem?_eq_getElem (by omega))⟩)
  exact⟨g b,by show rep (a1b W) (f (g b)) cs;rw [hfg];simpa using hb⟩⟩
theorem L4.val {α : Type} {r : p6 α} (h : L4 P T α) {H : Type} {enc : TypeId × Value → H} {W : World} {base : Nat} {spare : Nat → Bool} {held : Bool} {v : Value} {d : DataW H} {p : List MemPlace} (ht : DataW.Trod enc P W base spare held T v d p)
    (hv:∀ cs:List Value,v.cells.toList=cs→v=asV (p6.agg α) cs):∃ a:α,D2 (a1b W) (.v a) v:=by
  obtain⟨fuel,hf⟩:=ht
  obtain⟨a,ha⟩:=h.2 H enc W base spare held fuel _ _ hf
  exact⟨a,_,ha,hv _ a8⟩
theorem y6.calls {G : Gl} {f : FuncId} {ags : List AV} {vs : List Value} {W : World} (h : y6 G P f ags (fun r => r = .v true)) (hG : G.p (a1b W)) (hv : P5 (a1b W) ags vs) :
    Calls P f vs.toArray W (fun e W'=>e = .returned (.bool true)∧Below W.heap.size W W') :=
  Fun.calls ((h (a1b W) vs hG hv).mono fun v J _ ⟨r,h1,h2⟩=>by
    subst h2
    obtain⟨cs,rfl,rfl⟩:=h1
    rfl)
theorem Q8 {v:Value} (h:v.cells = #[v]):∀ cs:List Value,v.cells.toList=cs→v=asV false cs:=fun cs hc=>by
 rw [h] at hc;subst hc;rfl
end Go.Ab
namespace Go.Fl
open Go.RowKit
theorem a9O {P : Program} {W : World} {n : String} {d : DataW Unit} {l : List Int} {g : Nat} {T E : TypeId} (hg : P.globalNamed n = some g) (ht : (P.globals[g]?).map (·.type) = some T) (hT : P.underlying T = some (.array l.length E))
    (hE:P.underlying E=some (.int .i64)) (hone:P.cellsOf E=1) (hl:0 < l.length) (hd:d = .agg (l.map fun k => .lit (.int .i64 k))) (h:laidMet P [(n,d)] W):Cells (a1b W) g 0 (l.map i64):=by
  obtain⟨ps,⟨g2,t,cs,fuel,p,q,hg2,ht2,hvar,htr,_,_⟩,_⟩:=h
  obtain rfl:=Option.some.inj (hg.symm.trans hg2)
  obtain rfl:=Option.some.inj (ht.symm.trans ht2)
  obtain⟨xs,m,_,hx,hlen,hxl,hel⟩:=DataW.trod_array hT htr
  have hxd:xs.map (·.1)=l.map fun k=>DataW.lit (.int .i64 k):=by
    have:=(Prod.mk.inj hx).1
    rw [hd] at this
    injection this with h2
    exact h2.symm
  have hcell:∀ (i:Nat) (v:Value),(l.map i64)[i]?=some v→cs[i]?=some v:=by
    intro i v hv
    have hi:i < l.length:=by simpa using (List.getElem?_eq_some_iff.1 hv).1
    have h1:=hel i hi
    rw [hone] at h1
    have hxi:xs[i]?=some (xs[i]'(by omega)):=List.getElem?_eq_getElem (by omega)
    rw [hxi] at h1
    obtain⟨k,hk1,hk2,_⟩:=DataW.trod_int hE h1
    have hfst:(xs.map (·.1))[i]?=some (DataW.lit (.int .i64 k)):=by rw [List.getElem?_map,hxi,Option.map_some,hk2]
    rw [hxd,List.getElem?_map,List.getElem?_eq_getElem hi] at hfst
    simp at hfst
    have hci:cs.toList[i]?=some (.int .i64 k):=by
      have:((cs.toList.drop (i*1)).take 1)[0]?=some (.int .i64 k):=by rw [hk1];rfl
      simpa [List.getElem?_take,List.getElem?_drop] using this
    rw [List.getElem?_map,List.getElem?_eq_getElem hi,Option.map_some] at hv
    have hv:=Option.some.inj hv
    rw [←hv,i64,hfst]
    simpa using hci
  have h0:∃ v,(l.map i64)[0]?=some v:=⟨_,List.getElem?_eq_getElem (by simpa using hl)⟩
  obtain⟨v0,hv0⟩:=h0
  have hc0:=World.var?_cell hg hvar 0
  rw [hcell 0 v0 hv0] at hc0
  obtain⟨_,cs2,e,fr,hob,_⟩:=a0e hc0
  refine⟨cs2,e,fr,hob,fun i v hv => ?_⟩
  have h3:=World.var?_cell hg hvar i
  rw [hcell i v hv] at h3
  obtain⟨_,cs3,e3,fr3,hob3,hv3⟩:=a0e h3
  have:Obj.cells cs2 e fr=Obj.cells cs3 e3 fr3:=Option.some.inj (hob.symm.trans hob3)
  cases this
  simpa using hv3
end Go.Fl
namespace Go.Fl
open Go.RowKit
theorem a5n {P:Program} {W:World} {n:String} {g:Nat} {cs:Array Value} (hg:P.globalNamed n=some g) (h:W.var? P n=some cs):∃ e fr,a1b W g=some (.cells cs e fr):=by
 unfold World.var? at h
 rw [hg,Option.bind_some] at h
 unfold a1b
 split at h
 ·rename_i c e fr heq
  exact⟨e,fr,by rw [heq,Option.some.inj h]⟩
 ·cases h
theorem a2J {P:Program} {W:World} {n:String} {g:Nat} {cs:Array Value} (hg:P.globalNamed n=some g) (h:W.var? P n=some cs):Cells (a1b W) g 0 cs.toList:=by
 obtain⟨e,fr,h1⟩:=a5n hg h
 exact⟨cs,e,fr,h1,fun i v hv=>by rw [Nat.zero_add];simpa using hv⟩
theorem a4M {W:World} {b:Nat} {v:Value} (h:W.cell? ⟨b,0,none⟩=some v):Cells (a1b W) b 0 [v]:=by
 obtain⟨_,cs,e,fr,h1,h2⟩:=a0e h
 refine⟨cs,e,fr,h1,fun i u hu => ?_⟩
 cases i with
 | zero=>simp at hu;subst hu;simpa using h2
 | succ i=>simp at hu
theorem a9P {P : Program} {W : World} {n : String} {d : DataW Unit} {l : List (List UInt8)} {g : Nat} {T E : TypeId} (hg : P.globalNamed n = some g) (ht : (P.globals[g]?).map (·.type) = some T) (hT : P.underlying T = some (.array l.length E))
    (hE:P.underlying E=some .string) (hone:P.cellsOf E=1) (hct:P.cellsOf T=l.length) (hd:d = .agg (l.map fun s => .lit (.string s))) (h:laidMet P [(n,d)] W):Cells (a1b W) g 0 (l.map fun s => .string ⟨s.toArray⟩):=by
  obtain⟨ps,⟨g2,t,cs,fuel,p,q,hg2,ht2,hvar,htr,_,_⟩,_⟩:=h
  obtain rfl:=Option.some.inj (hg.symm.trans hg2)
  obtain rfl:=Option.some.inj (ht.symm.trans ht2)
  obtain⟨xs,m,_,hx,hlen,hxl,hel⟩:=DataW.trod_array hT htr
  have hxd:xs.map (·.1)=l.map fun s=>DataW.lit (.string s):=by
    have:=(Prod.mk.inj hx).1
    rw [hd] at this
    injection this with h2
    exact h2.symm
  have hcell:∀ (i:Nat) (v:Value),(l.map fun s=>Value.string ⟨s.toArray⟩)[i]?=some v→cs[i]?=some v:=by
    intro i v hv
    have hi:i < l.length:=by simpa using (List.getElem?_eq_some_iff.1 hv).1
    have h1:=hel i hi
    rw [hone] at h1
    have hxi:xs[i]?=some (xs[i]'(by omega)):=List.getElem?_eq_getElem (by omega)
    rw [hxi] at h1
    obtain⟨s,hk1,hk2,_⟩:=DataW.trod_string hE h1
    have hfst:(xs.map (·.1))[i]?=some (DataW.lit (.string s.data.toList)):=by rw [List.getElem?_map,hxi,Option.map_some,hk2]
    rw [hxd,List.getElem?_map,List.getElem?_eq_getElem hi] at hfst
    simp at hfst
    have hci:cs.toList[i]?=some (.string s):=by
      have:((cs.toList.drop (i*1)).take 1)[0]?=some (.string s):=by rw [hk1];rfl
      simpa [List.getElem?_take,List.getElem?_drop] using this
    rw [List.getElem?_map,List.getElem?_eq_getElem hi,Option.map_some] at hv
    have hv:=Option.some.inj hv
    rw [←hv,hfst]
    have e:(⟨s.data.toList.toArray⟩:ByteArray)=s:=by cases s;simp
    rw [e];simpa using hci
  have hc:=a2J hg hvar
  obtain⟨cs2,e,fr,h1,h2⟩:=hc
  exact⟨cs2,e,fr,h1,fun i v hv=>h2 i v (by have:=hcell i v hv;simpa using this)⟩
theorem a5o {P : Program} {W : World} {n nm : String} {text : List UInt8} {d : DataW Unit} {g : Nat} {ti tp te ts : TypeId} {ms : Array (String × TypeId)} {f : Field} (hd : d = .iface nm (.ptr (.agg [.lit (.string text)])))
    (h:laidMet P [(n,d)] W) (hg:P.globalNamed n=some g) (ht:(P.globals[g]?).map (·.type)=some ti) (hi:P.underlying ti=some (.interface ms)) (hrow:∀ u,P.typeName? 3 u=some nm→u=tp)
    (hp:P.underlying tp=some (.pointer te)) (he:P.underlying te=some (.struct #[f])) (hft:f.type=ts) (hfo:f.offset=0) (hs:P.underlying ts=some .string) (hc:P.cellsOf te=1) (hcs:P.cellsOf ts=1) :
    ∃ t p,Cells (a1b W) g 0 [.iface t p]:=by
  subst hd
  obtain⟨a,s,h1,_⟩:=laid_sentinel h hg ht hi hrow hp he hft hfo hs hc hcs
  exact⟨_,_,a2J hg h1⟩
end Go.Fl
namespace Go
variable {H:Type} {enc:TypeId×Value→H}
theorem W5 {a : Assume} {C : Checked} {os : Os} {f : FuncId} {fn : Func} {s : ChangeSpec} {conds : List PathCond} {apart fresh handsOn again : Bool} {X : World → Array Value → Prop}
    (hX:∀ (w w':World) (args:Array Value),w.heap=w'.heap→X w args→X w' args)
    (own:ownKnob C.prog.godebug=none) (started:os.Started) (noInit:C.prog.inits.idxOf? f=none) (hfn:C.prog.funcs[f]?=some fn)
    (witness:∃ (w:World) (tape:Tape) (i:Input),w.os=os∧(w.forCall tape i).Shaped C.prog∧i.vars = []∧Input.okWide C.prog (w.forCall tape i) .any w.heap.size f i ∧
      ((s.pre enc C.prog fn conds apart (w.forCall tape i).memory i.args∧X (w.forCall tape i).memory i.args)∧sizedMet enc C.prog fn (OpenSpec.ofChange s) apart (w.forCall tape i).memory i.args)∧a.holds C.prog (lone (Frame.enter C.prog f i.args .normal) [] (w.forCall tape i)))
    (contract:∀ (W:World) (base:Nat) (args:Array Value) (ds gs:List (DataW H)) (before:List MemPlace),
      (∀ (j:Nat) t v,fn.params[j]?=some t→args[j]?=some v→Value.okWide C.prog W .any base t v) →
      DataW.Whole enc C.prog fn.params.toList s.vars apart W args.toList ds gs before →
      conds.all (PathCond.test C.prog ⟨fn.params.toList,ds,s.plain.varTypes C.prog,gs⟩)=true →
      W.ShapedOpen C.prog→X W args →
      a.holds C.prog (lone (Frame.enter C.prog f args .normal) [] W) →
      Calls C.prog f args W fun e W'=>∃ v,e = .returned v∧s.post enc C.prog fn apart fresh handsOn again W args v W') :
    ReturnsInHanded a C os f .any (fun w args=>(s.pre enc C.prog fn conds apart w args∧X w args)∧sizedMet enc C.prog fn (OpenSpec.ofChange s) apart w args) (s.post enc C.prog fn apart fresh handsOn again):=by
  refine returnsInHanded_of_calls own started noInit witness ?_
  intro w tape i _ hsh _ hok hpre hholds
  obtain⟨_,_,_,fn',hfn',_,_,_,_,hval⟩:=hok
  have e:fn'=fn:=Option.some.inj (hfn'.symm.trans hfn)
  subst e
  obtain⟨⟨⟨ds,gs,before,hw,hc⟩,hx⟩,hz⟩:=hpre
  refine(contract (w.forCall tape i) w.heap.size i.args ds gs before hval (DataW.Whole.of_heap (w':=w.forCall tape i) (by rfl) hw) hc hsh (hX _ _ _ (by rfl) hx) hholds).mono fun e W' ⟨v,he,hp⟩ => ?_
  subst he
  exact ChangeSpec.post_blind hp
end Go
namespace Go.Proofs.YtfkbejimghamkaaGreatDoor
open Go.Proofs.Tryz
open Go.Fl Go.Ab Go.Mac Go.Sha
open Go.ChangeShapes Go.WideShapes Go.ChangeAt Go.RowKit
theorem b4W:ownKnob prog.godebug=none:=by kernel_rfl
theorem Q9:laidOutB prog=true:=by kernel_rfl
def b6b:DataW Unit→Value
 | .lit (.int k n) => .int k n
 | .lit (.string s) => .string ⟨s.toArray⟩
 | _ => .nilIface
def a8v:DataW Unit→List Value
 | .agg l=>l.map b6b
 | _ => []
def b6c:DataW Unit→List Value
 | .agg l=>(l.map a8v).flatten
 | _ => []
def a6i (h:Array Obj) (g:Nat) (cs:List Value):Array Obj:=h.modify g fun
 | .cells _ t frozen => .cells cs.toArray t frozen
 | o=>o
noncomputable def b4X:Nat:=(World.holding prog default ⟨#[],#[],[]⟩).heap.size
noncomputable def a8w (os:Os):World :=
  let w0:=World.holding prog os ⟨#[.cells #[.string ⟨#[118,97,108,117,101,32,111,117,116,32,111,102,32,114,97,110,103,101]⟩] 172,.cells #[.string ⟨#[105,110,118,97,108,105,100,32,115,121,110,116,97,120]⟩] 172],#[],[]⟩
  { w0 with heap := a6i (a6i (a6i (a6i (a6i (a6i (a6i (a6i (a6i w0.heap 8 (a8v Rows.laid_math_bits_deBruijn32tab)) 9 (a8v Rows.laid_math_bits_deBruijn64tab)) 2 (a8v Rows.laid_internal_strconv_uint64pow10))
      7 (b6c Rows.laid_unicode_utf8_acceptRanges)) 1 (a8v Rows.laid_macaroon_predicate_words)) 0 (a8v Rows.laid_macaroon_predicate_bits)) 6 (a8v Rows.laid_unicode_utf8_first))
      5 [.iface 170 (.pointer (some ⟨b4X,0,none⟩))]) 4 [.iface 170 (.pointer (some ⟨b4X+1,0,none⟩))] }
def a4z:List (String×DataW Unit) := [("math/bits.deBruijn32tab", Rows.laid_math_bits_deBruijn32tab),("math/bits.deBruijn64tab", Rows.laid_math_bits_deBruijn64tab),("internal/strconv.uint64pow10", Rows.laid_internal_strconv_uint64pow10),("unicode/utf8.acceptRanges", Rows.laid_unicode_utf8_acceptRanges),("strconv.ErrRange", Rows.laid_strconv_ErrRange),("strconv.ErrSyntax", Rows.laid_strconv_ErrSyntax),("macaroon/predicate.words", Rows.laid_macaroon_predicate_words),("macaroon/predicate.bits", Rows.laid_macaroon_predicate_bits),("unicode/utf8.first", Rows.laid_unicode_utf8_first)]
set_option maxRecDepth 100000 in
theorem b2C (os:Os) (args:Array Value):laidMet prog a4z ((a8w os).forCall (fun _ _=>0) ⟨#[],args,[]⟩).memory :=
 laidMet_of_run' 8 (by kernel_rfl) (by kernel_rfl)
set_option maxRecDepth 100000 in
theorem b3J:a4z.filter (fun x=>x.1 == "macaroon/predicate.bits") = [("macaroon/predicate.bits", Rows.laid_macaroon_predicate_bits)]:=by kernel_rfl
set_option maxRecDepth 100000 in
theorem b2i:a4z.filter (fun x=>x.1 == "macaroon/predicate.words") = [("macaroon/predicate.words", Rows.laid_macaroon_predicate_words)]:=by kernel_rfl
set_option maxRecDepth 100000 in
theorem b4Y:a4z.filter (fun x=>x.1 == "internal/strconv.uint64pow10") = [("internal/strconv.uint64pow10", Lib.tabData .u64 Lib.pow10Tab)]:=by kernel_rfl
set_option maxRecDepth 100000 in
theorem b3K:a4z.filter (fun x=>x.1 == "strconv.ErrSyntax") = [("strconv.ErrSyntax", Rows.laid_strconv_ErrSyntax)]:=by kernel_rfl
set_option maxRecDepth 100000 in
theorem b3L:a4z.filter (fun x=>x.1 == "strconv.ErrRange") = [("strconv.ErrRange", Rows.laid_strconv_ErrRange)]:=by kernel_rfl
theorem b1j : "*" ++ "errors.errorString" = "*errors.errorString" := by decide
theorem b2D (u:TypeId) (h:prog.typeName? 3 u=some "*errors.errorString"):u=170 :=
 typeName_ptr_named (nm := "errors.errorString") (by rw [b1j];kernel_rfl) (by kernel_rfl) (by decide) u (by rw [b1j];exact h)
set_option maxRecDepth 100000 in
theorem a86 {W:World} (h:laidMet prog a4z W) (hs:W.ShapedOpen prog):gl.p (a1b W):=by
 have h1:=h.filter fun x=>x.1 == "macaroon/predicate.bits"
 have h2:=h.filter fun x=>x.1 == "macaroon/predicate.words"
 have h3:=h.filter fun x=>x.1 == "internal/strconv.uint64pow10"
 have h4:=h.filter fun x=>x.1 == "strconv.ErrSyntax"
 have h5:=h.filter fun x=>x.1 == "strconv.ErrRange"
 rw [b3J] at h1
 rw [b2i] at h2
 rw [b4Y] at h3
 rw [b3K] at h4
 rw [b3L] at h5
 obtain⟨m,hm⟩:=cell_of_shapedOpen_int (g:=3) (zero := #[.int .i64 0]) (t:=3) hs (of_decide_eq_true (by kernel_rfl)) (by kernel_rfl) rfl (by kernel_rfl) (by kernel_rfl) underlying3
 exact⟨a9O (l:=a3m.l) (T:=117) (E:=3) (by kernel_rfl) (by kernel_rfl) underlying117 underlying3 (by kernel_rfl) (by decide) a8 h1,
  a9P (l:=a39.l.map u0.l) (T:=118) (E:=9) (by kernel_rfl) (by kernel_rfl) underlying118 underlying9 (by kernel_rfl) (by kernel_rfl) rfl h2,
  ⟨m,a4M hm⟩,
  a5n (by kernel_rfl) (Lib.tabIs_of_head (g:=2) (t:=151) (e:=37) (n:=20) (by kernel_rfl) (by kernel_rfl) underlying151 underlying37 (by kernel_rfl) (by kernel_rfl) h3),
  a5o rfl h4 (by kernel_rfl) (by kernel_rfl) underlying64 b2D underlying170 underlying172 rfl rfl underlying9 (by kernel_rfl) (by kernel_rfl),
  a5o rfl h5 (by kernel_rfl) (by kernel_rfl) underlying64 b2D underlying170 underlying172 rfl rfl underlying9 (by kernel_rfl) (by kernel_rfl)⟩
theorem op3:L4 prog 3 Int := .i64 underlying3 (by kernel_rfl)
theorem b6d:L4 prog 37 UInt64 := .u64 underlying37 (by kernel_rfl)
theorem op9:L4 prog 9 u0 := .str underlying9 (by kernel_rfl)
theorem b6e:L4 prog 39 j3 := .struct j3.f (fun b=>⟨b.1,b.2.1,b.2.2.1,b.2.2.2.1,b.2.2.2.2.1,b.2.2.2.2.2.1⟩) (fun _=>rfl) underlying39 (by kernel_rfl) (.cons rfl op3 (.cons rfl b6d (.cons rfl op3 (.cons rfl op3 (.cons rfl op9 (.cons rfl op3 .nil))))))
theorem b6f:L4 prog 24 (List j3) := .slice underlying24 (by kernel_rfl) b6e (by decide)
theorem b6g:L4 prog 26 o9 := .struct o9.f (fun b=>⟨b.1,b.2.1⟩) (fun _=>rfl) underlying26 (by kernel_rfl) (.cons rfl op3 (.cons rfl op3 .nil))
theorem b6h:L4 prog 28 j8 := .struct j8.f (fun b=>⟨b.1,b.2.1,b.2.2.1,b.2.2.2.1⟩) (fun _=>rfl) underlying28 (by kernel_rfl) (.cons rfl op3 (.cons rfl op3 (.cons rfl op3 (.cons rfl op9 .nil))))
theorem b6i:L4 prog 30 j4 := .struct j4.f (fun b=>⟨b.1,b.2.1,b.2.2.1,b.2.2.2.1,b.2.2.2.2.1,b.2.2.2.2.2.1,b.2.2.2.2.2.2.1,b.2.2.2.2.2.2.2.1⟩) (fun _=>rfl) underlying30 (by kernel_rfl) (.cons rfl op3 (.cons rfl op3 (.cons rfl op3 (.cons rfl op3 (.cons rfl b6f (.cons rfl b6g (.cons rfl op9 (.cons rfl b6h .nil))))))))
theorem b6j:L4 prog 22 (List j4) := .slice underlying22 (by kernel_rfl) b6i (by decide)
theorem b4Z:L4 prog 23 (List Int) := .slice underlying23 (by kernel_rfl) op3 (by decide)
theorem op5:L4 prog 5 UInt8 := .u8 underlying5 (by kernel_rfl)
end Go.Proofs.YtfkbejimghamkaaGreatDoor
