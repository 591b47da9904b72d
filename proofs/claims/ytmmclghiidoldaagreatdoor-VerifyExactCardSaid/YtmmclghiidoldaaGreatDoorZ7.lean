/- Plain Lean over any program, and walks of this seat's functions: contracts, each proved once (part 7). -/
import Derived.Test.YtmmclghiidoldaaGreatDoorZ6
import Derived.ProofKit
import Derived.OpenShut
import Derived.ShutString
import Derived.ChangeOld
import Derived.Below
import Derived.LaidLaws
import Derived.Handed
import Derived.DataReads
import Derived.LaidSub
import Derived.Test.YtmmclghiidoldaaGreatDoorRows
import Derived.Test.YtmmclghiidoldaaGreatDoorTie
import Derived.Test.YtmmclghiidoldaaGreatDoorCards
import Derived.SevenTiedAt
set_option maxRecDepth 1000000
set_option synthInstance.maxSize 1000000
set_option synthInstance.maxHeartbeats 10000000
set_option linter.unusedVariables false
set_option linter.unusedSimpArgs false
namespace Go.Proofs.YtmmclghiidoldaaGreatDoor
open Go.Proofs.Tryz
open Go.Fl Go.Ab Go.Mac Go.Sha
def C9 (x:m8) (c:List Y0) (d:List Bnd):Q4:=⟨x.Request,x.D3,x.A8,c,x.Proof,d⟩
theorem K5 {x:m8} {c:List Y0} {d:List Bnd} {I:Im} {cs:List Value} (h:o8.rep I x cs) (hc:E6 I (.v c) x.j9.v) (hd:E6 I (.v d) x.j4.v):o8.rep I (C9 x c d) cs :=
 a68 (b:=C9 x c d) (uc:=x.j9.v) (ud:=x.j4.v) h hc hd
theorem b9t (b:Q4) (I:Im) (u:Value) (h:E6 I (.v b) u):∃ x y,E6 I (.v (Y9 b x y)) u∧E6 I (.v b.j9) x∧E6 I (.v b.j4) y:=by
 obtain⟨cs,⟨c1,r1,rfl,h1,c2,r2,rfl,h2,c3,r3,rfl,h3,c4,r4,rfl,h4,c5,r5,rfl,h5,c6,r6,rfl,h6,h7⟩,rfl⟩:=h
 obtain⟨v4,rfl,h4⟩:=h4
 obtain⟨v6,rfl,h6⟩:=h6
 have o4:v4.oneCell'=true:=by obtain⟨xs,⟨a,c,rfl,_⟩,_⟩:=h4;rfl
 have o6:v6.oneCell'=true:=by obtain⟨xs,⟨a,c,rfl,_⟩,_⟩:=h6;rfl
 exact⟨v4,v6,⟨_,⟨c1,_,a8,h1,c2,_,a8,h2,c3,_,a8,h3,_,_,a8,⟨a8,o4⟩,c5,_,a8,h5,_,_,a8,⟨a8,o6⟩,h7⟩,a8⟩,⟨_,⟨v4,a8,h4⟩,a8⟩,⟨_,⟨v6,a8,h6⟩,a8⟩⟩
structure Tb (N:Nat) (b:Q4):Prop where
 cav:b.j9.length≤N
 dis:b.j4.length≤N
 con:∀ d∈b.j4,d.l8.length≤N
 G1:0≤b.Request.E4∧b.Request.E4≤281474976710656+N
theorem T9 {N:Nat} {D:List Bnd} (h:∀ d∈D,d.l8.length≤N):∀ d∈D,d.l8.length≤N+1:=fun d hd=>Nat.le_succ_of_le (h d hd)
theorem U0 {N:Nat} {D:List Bnd} (h:∀ d∈D,d.l8.length≤N) (k:Nat):∀ d∈D.take k,d.l8.length≤N+1:=fun d hd=>Nat.le_succ_of_le (h d (List.mem_of_mem_take hd))
theorem I6 {N:Nat} {D:List Bnd} (h:∀ d∈D,d.l8.length≤N) {k:Nat} {x:Bnd} (hx:x.l8.length≤N+1):∀ d∈D.set k x,d.l8.length≤N+1:=fun d hd=>by
 rcases List.mem_or_eq_of_mem_set hd with h'|h'
 ·exact Nat.le_succ_of_le (h d h')
 ·rw [h'];exact hx
theorem a0h {N:Nat} {D:List Bnd} (h:∀ d∈D,d.l8.length≤N) {x:Bnd} (hx:x.l8.length≤N+1):∀ d∈D ++ [x],d.l8.length≤N+1:=fun d hd=>by
 rcases List.mem_append.1 hd with h'|h'
 ·exact Nat.le_succ_of_le (h d h')
 ·rw [List.mem_singleton.1 h'];exact hx
theorem b4J (w:Value) (d:m6) (b:Q4) (t:Tag) (N:Nat) (hd:G9 d) (hb:Tb N b) (hN:N≤1000):F5 gl prog 11 [.v b,dk w,.v t] [.ob w d] (fun r Hs=>∃ y:Q4,Tb (N+1) y∧∃ d',G9 d'∧r = .v y∧Hs = [.ob w d']):=by
 obtain⟨hb1,hb2,hb3,hb4⟩:=hb
 refine F5.Q6 func11 rfl (by kernel_rfl) 164 rfl rfl _ rfl _ rfl fun C hC hG => ?_
 refine .q 1 hG ?_
 refine .c2Y 0 (fun uc ud => .v (Y9 b uc ud)) (b9t b) a8 fun uc ud => ?_
 refine .q 2 hG fun b3 => ?_
 refine .q 1 hG fun b5 => ?_
 refine .q 1 hG fun b6 => ?_
 refine .q 3 hG ?_
 refine .h (.buildSlice (α:=m9) a0C underlying24 .nil a8 (by decide) fun b11 => .p (.B1 m8.l3 V4 a8 (.t a8) (.p (.ldR (fun x=>x.j9) a4d (.t a8) .z3 (fun _=>a8) (.h (.append c0g (.inl ⟨_,underlying24⟩) a8 .z (.v (.fzA a8 .z4)) (by simp<;>omega) (by simp<;>omega) (fun w14 => .p (.B1 m8.l3 V4 a8 (.t a8) (.n (.stF (fun y x => { x with j9:=y }) a4d (.t a8) (.b3S a8 .z) .z3 (fun _ _=>a8) ?_)))) a8))))))
 refine .q 3 hG ?_
 refine .h (.buildSlice (α:=p8) a1f underlying27 .nil a8 (by decide) fun b16 => .p (.B1 m8.l5 Z6 a8 (.t a8) (.p (.ldR (fun x=>x.j4) a3K (.t a8) .z4 (fun _=>a8) (.h (.append c1X (.inl ⟨_,underlying27⟩) a8 .z (.v (.fzA a8 .z6)) (by simp<;>omega) (by simp<;>omega) (fun w19 => .p (.B1 m8.l5 Z6 a8 (.t a8) (.n (.stF (fun y x => { x with j4:=y }) a3K (.t a8) (.b3S a8 .z) .z4 (fun _ _=>a8) ?_)))) a8))))))
 refine .q 2 hG ?_
 have hcl:([]++b.j9).length=b.j9.length:=rfl
 have hdl:([]++b.j4).length=b.j4.length:=rfl
 refine .q 1 hG ?_
 refine .p (.B1 m8.l3 V4 a8 (.t a8) (.p (.ldR (fun x=>x.j9) a4d (.t a8) .z4 (fun _=>a8) (.p (.a3S underlying24 a8 .z1 (.ag a8 ?_))))))
 refine .q 3 hG ?_
 refine .p (.B1 m8.l5 Z6 a8 (.t a8) (.p (.ldR (fun x=>x.j4) a3K (.t a8) .z4 (fun _=>a8) (.p (.a3S underlying27 a8 .z ?_)))))
 refine .q 6 hG ?_
 refine .h (.C8 hG (G0 _ _ _ (by first|assumption|exact y1 _) (by omega) (by omega)) .z7 (.cons (.t a8) (.cons (.i a8) .nil)) (by rintro _ _ ⟨_,_,_,_,_,_,rfl⟩;exact⟨_,rfl⟩) fun r28 B28 hr28 => ?_)
 obtain⟨v28,d28,h028,h128,hd28,rfl,hB⟩:=hr28
 cases hB
 refine .q 8 hG ⟨fun hc29 => ?_,fun hc29 => ?_⟩
 ·have hrn:(Y9 b uc ud).Request.E4=b.Request.E4:=rfl
  refine .q 1 hG ?_
  refine .p (.B1 m8.l0 b3p a8 (.t a8) (.p (.b9W u6.l1 b0k a8 (.t a8) (.p (.ldF (fun x=>x.Request.E4) R6 (.t a8) .z4 (fun _=>a8) (.p (.add (.t a8) (.i a8) (by simp<;>omega) (by simp<;>omega) (.p (.B1 m8.l0 b3p a8 (.t a8) (.p (.b9W u6.l1 b0k a8 (.t a8) ?_)))))))))))
  refine .n (.stF (fun y x => { x with Request.E4:=y }) R6 (.t a8) (.t a8) .z4 (fun _ _=>a8) ?_)
  refine .q 2 hG ?_
  refine .u0 hC .z1 (.u0 hC .z (.a3r .z4 (fun n0 I L hr cs hc=>K5 hc (u7.fz .z1 hr) (u7.fz .z hr)) (.conv 3 (.ln (ptr b3 0) (m0.id (α:=Q4))) a8 (fun _ _ _ _ _ h=>h) ?_)))
  refine .q 5 hG ?_
  refine⟨_,.r1 a8 (.cell V6 a8 .z2),?_⟩
  refine⟨_,.cons .z7 (.nil),?_⟩
  exact⟨_,⟨by first|simpa [C9] using Nat.le_succ_of_le hb1|(simp [C9];omega),by first|simpa [C9] using Nat.le_succ_of_le hb2|(simp [C9];omega),by first|exact T9 hb3|exact U0 hb3 _|exact a0h hb3 (Nat.zero_le _)|exact I6 hb3 (by have hq:=hce;exact Nat.le_succ_of_le hq)|exact I6 hb3 (by have hq:=hcd;show(([]++_) ++ [_]).length≤_;rw [List.nil_append,List.length_append];exact Nat.succ_le_succ hq),by first|(simp [C9,Y9];omega)⟩,_,by assumption,rfl,rfl⟩
 ·refine .q 6 hG ⟨fun hc37 => ?_,fun hc37 => ?_⟩
  ·refine .q 2 hG ?_
   refine .h (.C8 hG (a6r _ _ _ _ (by first|assumption|exact y1 _) (by omega) (by omega) (by omega)) .z7 (.cons (.t a8) (.cons (.i a8) (.cons (.i a8) .nil))) (by rintro _ _ ⟨_,_,_,_,_,_,rfl⟩;exact⟨_,rfl⟩) fun r40 B40 hr40 => ?_)
   obtain⟨v40,d40,h040,h140,hd40,rfl,hB⟩:=hr40
   cases hB
   refine .p (.B1 m8.l1 b7t a8 (.t a8) (.n (.stF (fun y x => { x with D3:=y }) R6 (.t a8) (.t a8) .z4 (fun _ _=>a8) ?_)))
   refine .q 2 hG ?_
   refine .u0 hC .z1 (.u0 hC .z (.a3r .z4 (fun n0 I L hr cs hc=>K5 hc (u7.fz .z1 hr) (u7.fz .z hr)) (.conv 3 (.ln (ptr b3 0) (m0.id (α:=Q4))) a8 (fun _ _ _ _ _ h=>h) ?_)))
   refine .q 5 hG ?_
   refine⟨_,.r1 a8 (.cell V6 a8 .z2),?_⟩
   refine⟨_,.cons .z7 (.nil),?_⟩
   exact⟨_,⟨by first|simpa [C9] using Nat.le_succ_of_le hb1|(simp [C9];omega),by first|simpa [C9] using Nat.le_succ_of_le hb2|(simp [C9];omega),by first|exact T9 hb3|exact U0 hb3 _|exact a0h hb3 (Nat.zero_le _)|exact I6 hb3 (by have hq:=hce;exact Nat.le_succ_of_le hq)|exact I6 hb3 (by have hq:=hcd;show(([]++_) ++ [_]).length≤_;rw [List.nil_append,List.length_append];exact Nat.succ_le_succ hq),by first|(simp [C9,Y9];omega)⟩,_,by assumption,rfl,rfl⟩
  ·refine .q 6 hG ⟨fun hc42 => ?_,fun hc42 => ?_⟩
   ·refine .q 2 hG ?_
    refine .h (.C8 hG (a6r _ _ _ _ (by first|assumption|exact y1 _) (by omega) (by omega) (by omega)) .z7 (.cons (.t a8) (.cons (.i a8) (.cons (.i a8) .nil))) (by rintro _ _ ⟨_,_,_,_,_,_,rfl⟩;exact⟨_,rfl⟩) fun r45 B45 hr45 => ?_)
    obtain⟨v45,d45,h045,h145,hd45,rfl,hB⟩:=hr45
    cases hB
    refine .p (.B1 m8.l2 b3q a8 (.t a8) (.n (.stF (fun y x => { x with A8:=y }) R6 (.t a8) (.t a8) .z4 (fun _ _=>a8) ?_)))
    refine .q 2 hG ?_
    refine .u0 hC .z1 (.u0 hC .z (.a3r .z4 (fun n0 I L hr cs hc=>K5 hc (u7.fz .z1 hr) (u7.fz .z hr)) (.conv 3 (.ln (ptr b3 0) (m0.id (α:=Q4))) a8 (fun _ _ _ _ _ h=>h) ?_)))
    refine .q 5 hG ?_
    refine⟨_,.r1 a8 (.cell V6 a8 .z2),?_⟩
    refine⟨_,.cons .z7 (.nil),?_⟩
    exact⟨_,⟨by first|simpa [C9] using Nat.le_succ_of_le hb1|(simp [C9];omega),by first|simpa [C9] using Nat.le_succ_of_le hb2|(simp [C9];omega),by first|exact T9 hb3|exact U0 hb3 _|exact a0h hb3 (Nat.zero_le _)|exact I6 hb3 (by have hq:=hce;exact Nat.le_succ_of_le hq)|exact I6 hb3 (by have hq:=hcd;show(([]++_) ++ [_]).length≤_;rw [List.nil_append,List.length_append];exact Nat.succ_le_succ hq),by first|(simp [C9,Y9];omega)⟩,_,by assumption,rfl,rfl⟩
   ·refine .q 6 hG ⟨fun hc47 => ?_,fun hc47 => ?_⟩
    ·refine .q 1 hG ?_
     refine .p (.Q1 y6 (.t a8) .z3 (.p (.B1 m8.l4 a8l a8 (.t a8) (.n (.stF (fun y x => { x with Proof:=y }) y6 (.t a8) (.t a8) .z4 (fun _ _=>a8) ?_)))))
     refine .q 2 hG ?_
     refine .u0 hC .z1 (.u0 hC .z (.a3r .z4 (fun n0 I L hr cs hc=>K5 hc (u7.fz .z1 hr) (u7.fz .z hr)) (.conv 3 (.ln (ptr b3 0) (m0.id (α:=Q4))) a8 (fun _ _ _ _ _ h=>h) ?_)))
     refine .q 5 hG ?_
     refine⟨_,.r1 a8 (.cell V6 a8 .z2),?_⟩
     refine⟨_,.cons .z7 (.nil),?_⟩
     exact⟨_,⟨by first|simpa [C9] using Nat.le_succ_of_le hb1|(simp [C9];omega),by first|simpa [C9] using Nat.le_succ_of_le hb2|(simp [C9];omega),by first|exact T9 hb3|exact U0 hb3 _|exact a0h hb3 (Nat.zero_le _)|exact I6 hb3 (by have hq:=hce;exact Nat.le_succ_of_le hq)|exact I6 hb3 (by have hq:=hcd;show(([]++_) ++ [_]).length≤_;rw [List.nil_append,List.length_append];exact Nat.succ_le_succ hq),by first|(simp [C9,Y9];omega)⟩,_,by assumption,rfl,rfl⟩
    ·refine .q 6 hG ⟨fun hc51 => ?_,fun hc51 => ?_⟩
     ·refine .u0 hC .z1 ?_
      refine .q 1 hG ?_
      refine .p (.B1 m8.l3 V4 a8 (.t a8) (.p (.ldR (fun x=>x.j9) a4d (.t a8) .z4 (fun _=>a8) ?_)))
      refine .q 1 hG ?_
      refine .sb (by omega) (by omega) (.p (.b6a (.t a8) (.i a8) (.p (.b6h a0C underlying24 (.fzA a8 .z1) (.t a8) (by omega) (by omega) (.name 58 a8 fun w58=>(.p (.B1 m8.l3 V4 a8 (.t a8) (.n (.stF (fun y x => { x with j9:=y }) a4d (.t a8) (.vR a8 .z) .z5 (fun _ _=>a8) ?_)))))))))
      refine .q 2 hG ?_
      refine .u0 hC .z1 (.a3r .z5 (fun n0 I L hr cs hc=>K5 hc (u7.fz .z hr) (u7.fz .z1 hr)) (.conv 3 (.ln (ptr b3 0) (m0.id (α:=Q4))) a8 (fun _ _ _ _ _ h=>h) ?_))
      refine .q 5 hG ?_
      refine⟨_,.r1 a8 (.cell V6 a8 .z3),?_⟩
      refine⟨_,.cons .z8 (.nil),?_⟩
      exact⟨_,⟨by first|simpa [C9] using Nat.le_succ_of_le hb1|(simp [C9];omega),by first|simpa [C9] using Nat.le_succ_of_le hb2|(simp [C9];omega),by first|exact T9 hb3|exact U0 hb3 _|exact a0h hb3 (Nat.zero_le _)|exact I6 hb3 (by have hq:=hce;exact Nat.le_succ_of_le hq)|exact I6 hb3 (by have hq:=hcd;show(([]++_) ++ [_]).length≤_;rw [List.nil_append,List.length_append];exact Nat.succ_le_succ hq),by first|(simp [C9,Y9];omega)⟩,_,by assumption,rfl,rfl⟩
     ·refine .q 6 hG ⟨fun hc60 => ?_,fun hc60 => ?_⟩
      ·refine .D7 [j1,j0,j1,j1,j1,j1,j1,j0] (by kernel_rfl) 7 [[],[(62,0)],[],[(64,2)],[(65,3)],[(63,1),(66,4)],[]] [3,4,5] a8 (by kernel_rfl) a8 (by kernel_rfl) (by decide) ?_
       refine⟨_,fun H=>j6.B1 m8.l3 V4 a8 (.t a8) a8,?_⟩
       refine⟨_,fun H=>j6.ldR (fun x=>x.j9) a4d (.t a8) (u7.app .z4) (fun _=>a8) a8,?_⟩
       refine⟨_,fun H=>j6.move (.t a8) a8,?_⟩
       refine .inl (.inl (.inl ?_))
       refine⟨_,fun H=>j6.B1 m8.l3 V4 a8 (.t a8) a8,?_⟩
       refine⟨⟨([],j2 [c8,_,c8,c8,c8,c8,c8,_]),a8⟩,?_⟩
       refine A6.C8 hG (a5u _ _ (by assumption)) .z7 (.cons (.t rfl) .nil) (by rintro _ _ ⟨_,_,_,_,rfl⟩;exact⟨_,rfl⟩) fun r65 B65 hr65 => ?_
       obtain⟨c65,d65,hd65,rfl,hB⟩:=hr65
       cases hB
       refine⟨⟨([],j2 [c8,_,c8,c8,c8,c8,c8,_]),a8⟩,?_⟩
       refine A6.ofP (j6.F1 (α:=m9) a0C underlying24 (.cons (.t rfl) .nil) rfl (by decide) ?_)
       refine⟨⟨([],j2 [c8,_,c8,c8,c8,c8,c8,_]),a8⟩,?_⟩
       refine A6.append c0g (.inl ⟨_,underlying24⟩) rfl .z1 (.v (.c rfl)) (by simp<;>omega) (by simp<;>omega) (fun w67 => ?_) rfl
       refine⟨⟨([],j2 [c8,_,c8,c8,c8,c8,c8,_]),a8⟩,?_⟩
       show D5 _ _ _ _ _ [_] ((68,_)::(67,_)::(66,_)::(65,_)::(64,_)::(63,_)::(62,_)::_) _
       refine .n (.stF (fun y x => { x with j9:=y }) a4d (.t a8) (.b3S a8 .z1) .z4 (fun _ _=>a8) ?_)
       refine .q 2 hG ?_
       refine .u0 hC .z1 (.u0 hC .z (.a3r .z4 (fun n0 I L hr cs hc=>K5 hc (u7.fz .z1 hr) (u7.fz .z hr)) (.conv 3 (.ln (ptr b3 0) (m0.id (α:=Q4))) a8 (fun _ _ _ _ _ h=>h) ?_)))
       refine .q 5 hG ?_
       refine⟨_,.r1 a8 (.cell V6 a8 .z2),?_⟩
       refine⟨_,.cons .z7 (.nil),?_⟩
       exact⟨_,⟨by first|simpa [C9] using Nat.le_succ_of_le hb1|(simp [C9];omega),by first|simpa [C9] using Nat.le_succ_of_le hb2|(simp [C9];omega),by first|exact T9 hb3|exact U0 hb3 _|exact a0h hb3 (Nat.zero_le _)|exact I6 hb3 (by have hq:=hce;exact Nat.le_succ_of_le hq)|exact I6 hb3 (by have hq:=hcd;show(([]++_) ++ [_]).length≤_;rw [List.nil_append,List.length_append];exact Nat.succ_le_succ hq),by first|(simp [C9,Y9];omega)⟩,_,by assumption,rfl,rfl⟩
      ·refine .q 6 hG ⟨fun hc69 => ?_,fun hc69 => ?_⟩
       ·refine .q 6 hG ⟨fun hc72 => ?_,fun hc72 => ?_⟩
        ·refine .q 4 hG ?_
         refine .sb (by omega) (by omega) (.h (.C8 hG (G0 _ _ _ (by first|assumption|exact y1 _) (by omega) (by omega)) .z7 (.cons (.t a8) (.cons (.t a8) .nil)) (by rintro _ _ ⟨_,_,_,_,_,_,rfl⟩;exact⟨_,rfl⟩) fun r76 B76 hr76 => ?_))
         obtain⟨v76,d76,h076,h176,hd76,rfl,hB⟩:=hr76
         cases hB
         refine .q 2 hG ?_
         refine .a0r [[j1,j1,j1,j1,j1,j1,j1,j1],[j1,j1,j1,j1,j1,j1,j1,j1],[j1,j0,j1,j1,j1,j1,j1,j1],[j1,j0,j1,j1,j1,j1,j1,j1],[j1,j0,j1,j1,j1,j1,j1,j1]] [[j1,j1,j1,j1,j1,j1,j1,j1],[j1,j1,j1,j1,j1,j1,j1,j1],[j1,j1,j1,j1,j1,j1,j1,j1],[j1,j0,j1,j1,j1,j1,j1,j1],[j1,j0,j1,j1,j1,j1,j1,j1],[j1,j0,j1,j1,j1,j1,j1,j1],[j1,j0,j1,j1,j1,j1,j1,j1],[j1,j1,j1,j1,j1,j1,j1,j1],[j1,j1,j1,j1,j1,j1,j1,j1],[j1,j1,j1,j1,j1,j1,j1,j1],[j1,j1,j1,j1,j1,j1,j1,j1],[j1,j1,j1,j1,j1,j1,j1,j1],[j1,j1,j1,j1,j1,j1,j1,j1],[j1,j0,j1,j1,j1,j1,j1,j1],[j1,j0,j1,j1,j1,j1,j1,j1],[j1,j0,j1,j1,j1,j1,j1,j1],[j1,j1,j1,j1,j1,j1,j1,j1],[],[j1,j1,j1,j1,j1,j1,j1,j1],[],[],[]] [] [] 4 (by kernel_rfl) 22 [[],[(77,0)],[],[],[(80,3)],[],[(82,5)],[],[(84,7)],[],[(86,9)],[(85,8),(87,10)],[(88,11)],[],[(90,13)],[],[(91,14),(92,15)],[(93,16)],[(78,1),(79,2)],[(95,18),(89,12)],[(81,4),(83,6)],[(96,20),(94,17)]] [17,19,20,21] rfl (by kernel_rfl) rfl (by kernel_rfl) rfl (by decide) (by simp) (fun p hp=>by cases hp) (by kernel_rfl) rfl ?_
         refine⟨_,fun H=>j6.B1 m8.l3 V4 a8 (.t a8) a8,?_⟩
         refine⟨_,fun H=>j6.ldR (fun x=>x.j9) a4d (.t a8) (u7.app .z4) (fun _=>a8) a8,?_⟩
         refine⟨_,fun H=>j6.move (.t a8) a8,?_⟩
         refine⟨_,fun H=>j6.B1 m8.l3 V4 a8 (.t a8) a8,?_⟩
         refine⟨_,fun H=>j6.ldR (fun x=>x.j9) a4d (.t a8) (u7.app .z4) (fun _=>a8) a8,?_⟩
         refine⟨_,fun H=>j6.move (.t a8) a8,?_⟩
         refine⟨_,fun H=>j6.add (.t a8) (.i a8) (by omega) (by omega) a8,?_⟩
         refine⟨_,fun H=>j6.B1 m8.l3 V4 a8 (.t a8) a8,?_⟩
         refine⟨_,fun H=>j6.ldR (fun x=>x.j9) a4d (.t a8) (u7.app .z4) (fun _=>a8) a8,?_⟩
         refine⟨_,fun H=>j6.move (.t a8) a8,?_⟩
         refine⟨_,fun H=>j6.add (.t a8) (.i a8) (by omega) (by omega) a8,?_⟩
         refine⟨_,fun H=>j6.W7 a0C underlying24 a8 (u7.app .z1) (.t a8) (by omega) (by omega) a8,?_⟩
         refine⟨_,fun H=>j6.b3H a0C (.t a8) (u7.app .z1) (by omega) a8,?_⟩
         refine⟨_,fun H=>j6.B1 m8.l3 V4 a8 (.t a8) a8,?_⟩
         refine⟨_,fun H=>j6.ldR (fun x=>x.j9) a4d (.t a8) (u7.app .z4) (fun _=>a8) a8,?_⟩
         refine⟨_,fun H=>j6.move (.t a8) a8,?_⟩
         refine⟨_,fun H=>j6.W7 a0C underlying24 a8 (u7.app .z1) (.t a8) (by omega) (by omega) a8,?_⟩
         refine .inl ?_
         refine⟨_,fun H=>j6.W7 a0C underlying24 a8 (u7.app .z1) (.t a8) (by omega) (by omega) a8,?_⟩
         refine .inl (.inl (.inl ?_))
         refine⟨a8,?_⟩
         refine⟨⟨j2 [c8,c8,c8,c8,c8,c8,c8,c8],a8⟩,fun Ys21 => ?_⟩
         refine A6.ofP (j6.b3H a0C (.t rfl) (u7.app (u7.app .z1)) (by omega) ?_)
         refine⟨[],_,a8,?_⟩
         refine⟨⟨j2 [c8,c8,c8,c8,c8,c8,c8,c8],a8⟩,fun Ys21 => ?_⟩
         refine A6.b0E a0C (.t rfl) (.t rfl) (u7.app (u7.app .z1)) (by omega) ?_
         refine⟨[],_,a8,?_⟩
         refine⟨⟨j2 [c8,_,c8,c8,c8,c8,c8,c8],a8⟩,fun Ys21 => ?_⟩
         refine A6.ofP (j6.W7 a0C underlying24 rfl (u7.app (u7.app .z1)) (.t rfl) (by omega) (by simp<;>omega) ?_)
         refine⟨[],_,a8,?_⟩
         refine⟨⟨j2 [c8,_,c8,c8,c8,c8,c8,c8],a8⟩,fun Ys21 => ?_⟩
         refine A6.b0E a0C (.t rfl) (.t rfl) (u7.app (u7.app .z1)) (by simp<;>omega) ?_
         refine⟨[],_,a8,?_⟩
         refine⟨⟨j2 [c8,_,c8,c8,c8,c8,c8,c8],a8⟩,fun ws21 => ?_⟩
         refine⟨⟨j2 [c8,_,c8,c8,c8,c8,c8,c8],a8⟩,fun _ => ?_⟩
         show D5 _ _ _ _ _ [] ((96,_)::(95,_)::(94,_)::(93,_)::(92,_)::(91,_)::(90,_)::(89,_)::(88,_)::(87,_)::(86,_)::(85,_)::(84,_)::(83,_)::(82,_)::(81,_)::(80,_)::(79,_)::(78,_)::(77,_)::_) _
         refine .q 2 hG ?_
         refine .u0 hC .z1 (.u0 hC .z (.a3r .z4 (fun n0 I L hr cs hc=>K5 hc (u7.fz .z1 hr) (u7.fz .z hr)) (.conv 3 (.ln (ptr b3 0) (m0.id (α:=Q4))) a8 (fun _ _ _ _ _ h=>h) ?_)))
         refine .q 5 hG ?_
         refine⟨_,.r1 a8 (.cell V6 a8 .z2),?_⟩
         refine⟨_,.cons .z7 (.nil),?_⟩
         exact⟨_,⟨by first|simpa [C9] using Nat.le_succ_of_le hb1|(simp [C9];omega),by first|simpa [C9] using Nat.le_succ_of_le hb2|(simp [C9];omega),by first|exact T9 hb3|exact U0 hb3 _|exact a0h hb3 (Nat.zero_le _)|exact I6 hb3 (by have hq:=hce;exact Nat.le_succ_of_le hq)|exact I6 hb3 (by have hq:=hcd;show(([]++_) ++ [_]).length≤_;rw [List.nil_append,List.length_append];exact Nat.succ_le_succ hq),by first|(simp [C9,Y9];omega)⟩,_,by assumption,rfl,rfl⟩
        ·refine .q 2 hG ?_
         refine .u0 hC .z1 (.u0 hC .z (.a3r .z4 (fun n0 I L hr cs hc=>K5 hc (u7.fz .z1 hr) (u7.fz .z hr)) (.conv 3 (.ln (ptr b3 0) (m0.id (α:=Q4))) a8 (fun _ _ _ _ _ h=>h) ?_)))
         refine .q 5 hG ?_
         refine⟨_,.r1 a8 (.cell V6 a8 .z2),?_⟩
         refine⟨_,.cons .z7 (.nil),?_⟩
         exact⟨_,⟨by first|simpa [C9] using Nat.le_succ_of_le hb1|(simp [C9];omega),by first|simpa [C9] using Nat.le_succ_of_le hb2|(simp [C9];omega),by first|exact T9 hb3|exact U0 hb3 _|exact a0h hb3 (Nat.zero_le _)|exact I6 hb3 (by have hq:=hce;exact Nat.le_succ_of_le hq)|exact I6 hb3 (by have hq:=hcd;show(([]++_) ++ [_]).length≤_;rw [List.nil_append,List.length_append];exact Nat.succ_le_succ hq),by first|(simp [C9,Y9];omega)⟩,_,by assumption,rfl,rfl⟩
       ·refine .q 6 hG ⟨fun hc97 => ?_,fun hc97 => ?_⟩
        ·refine .q 6 hG ⟨fun hc100 => ?_,fun hc100 => ?_⟩
         ·refine .D7 [j1,j1,j1,j1,j1,j1,j1,j0] (by kernel_rfl) 8 [[],[(101,0)],[],[],[(103,2),(104,3)],[],[(106,5)],[(102,1),(105,4)]] [4,6,7] a8 (by kernel_rfl) a8 (by kernel_rfl) (by decide) ?_
          refine⟨_,fun H=>j6.B1 m8.l3 V4 a8 (.t a8) a8,?_⟩
          refine⟨_,fun H=>j6.ldR (fun x=>x.j9) a4d (.t a8) (u7.app .z4) (fun _=>a8) a8,?_⟩
          refine⟨_,fun H=>j6.move (.t a8) a8,?_⟩
          refine⟨_,fun H=>j6.move (.t a8) a8,?_⟩
          refine .inl ?_
          refine⟨_,fun H=>j6.move (.t a8) a8,?_⟩
          refine .inl (.inl ?_)
          refine⟨⟨([],j2 [c8,c8,c8,c8,c8,c8,c8,_]),a8⟩,?_⟩
          refine A6.C8 hG (G0 _ _ _ (by first|assumption|exact y1 _) (by omega) (by omega)) .z7 (.cons (.t rfl) (.cons (.t rfl) .nil)) (by rintro _ _ ⟨_,_,_,_,_,_,rfl⟩;exact⟨_,rfl⟩) fun r105 B105 hr105 => ?_
          obtain⟨v105,d105,h0105,h1105,hd105,rfl,hB⟩:=hr105
          cases hB
          refine⟨⟨([],j2 [c8,c8,c8,c8,c8,c8,c8,_]),a8⟩,?_⟩
          refine A6.C8 hG (a5u _ _ (by assumption)) .z7 (.cons (.t rfl) .nil) (by rintro _ _ ⟨_,_,_,_,rfl⟩;exact⟨_,rfl⟩) fun r107 B107 hr107 => ?_
          obtain⟨c107,d107,hd107,rfl,hB⟩:=hr107
          cases hB
          refine⟨⟨([],j2 [c8,c8,c8,c8,c8,c8,c8,_]),a8⟩,?_⟩
          refine A6.ofP (j6.W7 a0C underlying24 rfl .z1 (.t rfl) (by omega) (by omega) ?_)
          refine⟨⟨([],j2 [c8,c8,c8,c8,c8,c8,c8,_]),a8⟩,?_⟩
          show D5 _ _ _ _ _ [_] ((108,_)::(107,_)::(106,_)::(105,_)::(104,_)::(103,_)::(102,_)::(101,_)::_) _
          refine .n (.b0E a0C (.t a8) (.t a8) .z1 (by omega) ?_)
          refine .q 2 hG ?_
          refine .u0 hC .z1 (.u0 hC .z (.a3r .z4 (fun n0 I L hr cs hc=>K5 hc (u7.fz .z1 hr) (u7.fz .z hr)) (.conv 3 (.ln (ptr b3 0) (m0.id (α:=Q4))) a8 (fun _ _ _ _ _ h=>h) ?_)))
          refine .q 5 hG ?_
          refine⟨_,.r1 a8 (.cell V6 a8 .z2),?_⟩
          refine⟨_,.cons .z7 (.nil),?_⟩
          exact⟨_,⟨by first|simpa [C9] using Nat.le_succ_of_le hb1|(simp [C9];omega),by first|simpa [C9] using Nat.le_succ_of_le hb2|(simp [C9];omega),by first|exact T9 hb3|exact U0 hb3 _|exact a0h hb3 (Nat.zero_le _)|exact I6 hb3 (by have hq:=hce;exact Nat.le_succ_of_le hq)|exact I6 hb3 (by have hq:=hcd;show(([]++_) ++ [_]).length≤_;rw [List.nil_append,List.length_append];exact Nat.succ_le_succ hq),by first|(simp [C9,Y9];omega)⟩,_,by assumption,rfl,rfl⟩
         ·refine .q 2 hG ?_
          refine .u0 hC .z1 (.u0 hC .z (.a3r .z4 (fun n0 I L hr cs hc=>K5 hc (u7.fz .z1 hr) (u7.fz .z hr)) (.conv 3 (.ln (ptr b3 0) (m0.id (α:=Q4))) a8 (fun _ _ _ _ _ h=>h) ?_)))
          refine .q 5 hG ?_
          refine⟨_,.r1 a8 (.cell V6 a8 .z2),?_⟩
          refine⟨_,.cons .z7 (.nil),?_⟩
          exact⟨_,⟨by first|simpa [C9] using Nat.le_succ_of_le hb1|(simp [C9];omega),by first|simpa [C9] using Nat.le_succ_of_le hb2|(simp [C9];omega),by first|exact T9 hb3|exact U0 hb3 _|exact a0h hb3 (Nat.zero_le _)|exact I6 hb3 (by have hq:=hce;exact Nat.le_succ_of_le hq)|exact I6 hb3 (by have hq:=hcd;show(([]++_) ++ [_]).length≤_;rw [List.nil_append,List.length_append];exact Nat.succ_le_succ hq),by first|(simp [C9,Y9];omega)⟩,_,by assumption,rfl,rfl⟩
        ·refine .q 6 hG ⟨fun hc109 => ?_,fun hc109 => ?_⟩
         ·refine .u0 hC .z ?_
          refine .q 1 hG ?_
          refine .p (.B1 m8.l5 Z6 a8 (.t a8) (.p (.ldR (fun x=>x.j4) a3K (.t a8) .z4 (fun _=>a8) ?_)))
          refine .q 1 hG ?_
          refine .sb (by omega) (by omega) (.p (.b6a (.t a8) (.i a8) (.p (.b6h a1f underlying27 (.fzA a8 .z) (.t a8) (by omega) (by omega) (.name 116 a8 fun w116=>(.p (.B1 m8.l5 Z6 a8 (.t a8) (.n (.stF (fun y x => { x with j4:=y }) a3K (.t a8) (.vR a8 .z) .z5 (fun _ _=>a8) ?_)))))))))
          refine .q 2 hG ?_
          refine .u0 hC .z2 (.a3r .z5 (fun n0 I L hr cs hc=>K5 hc (u7.fz .z2 hr) (u7.fz .z hr)) (.conv 3 (.ln (ptr b3 0) (m0.id (α:=Q4))) a8 (fun _ _ _ _ _ h=>h) ?_))
          refine .q 5 hG ?_
          refine⟨_,.r1 a8 (.cell V6 a8 .z3),?_⟩
          refine⟨_,.cons .z8 (.nil),?_⟩
          exact⟨_,⟨by first|simpa [C9] using Nat.le_succ_of_le hb1|(simp [C9];omega),by first|simpa [C9] using Nat.le_succ_of_le hb2|(simp [C9];omega),by first|exact T9 hb3|exact U0 hb3 _|exact a0h hb3 (Nat.zero_le _)|exact I6 hb3 (by have hq:=hce;exact Nat.le_succ_of_le hq)|exact I6 hb3 (by have hq:=hcd;show(([]++_) ++ [_]).length≤_;rw [List.nil_append,List.length_append];exact Nat.succ_le_succ hq),by first|(simp [C9,Y9];omega)⟩,_,by assumption,rfl,rfl⟩
         ·refine .q 6 hG ⟨fun hc118 => ?_,fun hc118 => ?_⟩
          ·refine .q 6 hG ⟨fun hc121 => ?_,fun hc121 => ?_⟩
           ·refine .D7 [j1,j1,j1,j1,j1,j1,j1,j0] (by kernel_rfl) 8 [[],[(122,0)],[],[],[(124,2),(125,3)],[],[(123,1),(126,4)],[(128,6)]] [4,6,7] a8 (by kernel_rfl) a8 (by kernel_rfl) (by decide) ?_
            refine⟨_,fun H=>j6.B1 m8.l5 Z6 a8 (.t a8) a8,?_⟩
            refine⟨_,fun H=>j6.ldR (fun x=>x.j4) a3K (.t a8) (u7.app .z4) (fun _=>a8) a8,?_⟩
            refine⟨_,fun H=>j6.move (.t a8) a8,?_⟩
            refine⟨_,fun H=>j6.move (.t a8) a8,?_⟩
            refine .inl ?_
            refine⟨_,fun H=>j6.Q1 y6 (.t a8) (u7.app .z3) a8,?_⟩
            refine .inl (.inl ?_)
            refine⟨⟨([],j2 [c8,c8,c8,c8,c8,c8,c8,_]),a8⟩,?_⟩
            refine A6.C8 hG (G0 _ _ _ (by first|assumption|exact y1 _) (by omega) (by omega)) .z7 (.cons (.t rfl) (.cons (.t rfl) .nil)) (by rintro _ _ ⟨_,_,_,_,_,_,rfl⟩;exact⟨_,rfl⟩) fun r126 B126 hr126 => ?_
            obtain⟨v126,d126,h0126,h1126,hd126,rfl,hB⟩:=hr126
            cases hB
            refine⟨⟨([],j2 [c8,c8,c8,c8,c8,c8,c8,_]),a8⟩,?_⟩
            refine A6.ofP (j6.W7 a1f underlying27 rfl .z (.t rfl) (by omega) (by omega) ?_)
            refine⟨⟨([],j2 [c8,c8,c8,c8,c8,c8,c8,_]),a8⟩,?_⟩
            refine A6.ofP (j6.c1L p8.l2 b7z rfl (.t rfl) ?_)
            refine⟨⟨([],j2 [c8,c8,c8,c8,c8,c8,c8,_]),a8⟩,?_⟩
            show D5 _ _ _ _ _ [_] ((129,_)::(128,_)::(127,_)::(126,_)::(125,_)::(124,_)::(123,_)::(122,_)::_) _
            refine .n (.stE y6 (.t a8) (.t a8) .z (by omega) ?_)
            have hce:=hb3 (b.j4[v126.toNat]'(by simp at * <;> omega)) (List.getElem_mem _)
            refine .q 2 hG ?_
            refine .u0 hC .z1 (.u0 hC .z (.a3r .z4 (fun n0 I L hr cs hc=>K5 hc (u7.fz .z1 hr) (u7.fz .z hr)) (.conv 3 (.ln (ptr b3 0) (m0.id (α:=Q4))) a8 (fun _ _ _ _ _ h=>h) ?_)))
            refine .q 5 hG ?_
            refine⟨_,.r1 a8 (.cell V6 a8 .z2),?_⟩
            refine⟨_,.cons .z7 (.nil),?_⟩
            exact⟨_,⟨by first|simpa [C9] using Nat.le_succ_of_le hb1|(simp [C9];omega),by first|simpa [C9] using Nat.le_succ_of_le hb2|(simp [C9];omega),by first|exact T9 hb3|exact U0 hb3 _|exact a0h hb3 (Nat.zero_le _)|exact I6 hb3 (by have hq:=hce;exact Nat.le_succ_of_le hq)|exact I6 hb3 (by have hq:=hcd;show(([]++_) ++ [_]).length≤_;rw [List.nil_append,List.length_append];exact Nat.succ_le_succ hq),by first|(simp [C9,Y9];omega)⟩,_,by assumption,rfl,rfl⟩
           ·refine .q 2 hG ?_
            refine .u0 hC .z1 (.u0 hC .z (.a3r .z4 (fun n0 I L hr cs hc=>K5 hc (u7.fz .z1 hr) (u7.fz .z hr)) (.conv 3 (.ln (ptr b3 0) (m0.id (α:=Q4))) a8 (fun _ _ _ _ _ h=>h) ?_)))
            refine .q 5 hG ?_
            refine⟨_,.r1 a8 (.cell V6 a8 .z2),?_⟩
            refine⟨_,.cons .z7 (.nil),?_⟩
            exact⟨_,⟨by first|simpa [C9] using Nat.le_succ_of_le hb1|(simp [C9];omega),by first|simpa [C9] using Nat.le_succ_of_le hb2|(simp [C9];omega),by first|exact T9 hb3|exact U0 hb3 _|exact a0h hb3 (Nat.zero_le _)|exact I6 hb3 (by have hq:=hce;exact Nat.le_succ_of_le hq)|exact I6 hb3 (by have hq:=hcd;show(([]++_) ++ [_]).length≤_;rw [List.nil_append,List.length_append];exact Nat.succ_le_succ hq),by first|(simp [C9,Y9];omega)⟩,_,by assumption,rfl,rfl⟩
          ·refine .q 6 hG ⟨fun hc130 => ?_,fun hc130 => ?_⟩
           ·refine .q 6 hG ⟨fun hc133 => ?_,fun hc133 => ?_⟩
            ·refine .q 4 hG ?_
             refine .h (.C8 hG (G0 _ _ _ (by first|assumption|exact y1 _) (by omega) (by omega)) .z7 (.cons (.t a8) (.cons (.t a8) .nil)) (by rintro _ _ ⟨_,_,_,_,_,_,rfl⟩;exact⟨_,rfl⟩) fun r136 B136 hr136 => ?_)
             obtain⟨v136,d136,h0136,h1136,hd136,rfl,hB⟩:=hr136
             cases hB
             refine .q 2 hG ?_
             have hcd:((m0.id.comp p8.l1).get (b.j4[v136.toNat]'(by simp at * <;> omega))).length≤N:=hb3 _ (List.getElem_mem _)
             refine .D7 [j1,j1,j1,j1,j1,j1,j1,j0] (by kernel_rfl) 17 [[],[(137,0)],[],[],[],[(141,4)],[],[(142,5),(143,6)],[(144,7)],[(145,8)],[(140,3),(146,9)],[],[(148,11)],[(149,12)],[(147,10),(150,13)],[(138,1),(139,2)],[(152,15)]] [3,10,12,13,14] a8 (by kernel_rfl) a8 (by kernel_rfl) (by decide) ?_
             refine⟨_,fun H=>j6.B1 m8.l5 Z6 a8 (.t a8) a8,?_⟩
             refine⟨_,fun H=>j6.ldR (fun x=>x.j4) a3K (.t a8) (u7.app .z4) (fun _=>a8) a8,?_⟩
             refine⟨_,fun H=>j6.move (.t a8) a8,?_⟩
             refine .inl ?_
             refine⟨_,fun H=>j6.B1 m8.l5 Z6 a8 (.t a8) a8,?_⟩
             refine⟨_,fun H=>j6.ldR (fun x=>x.j4) a3K (.t a8) (u7.app .z4) (fun _=>a8) a8,?_⟩
             refine⟨_,fun H=>j6.move (.t a8) a8,?_⟩
             refine⟨_,fun H=>j6.W7 a1f underlying27 a8 (u7.app .z) (.t a8) (by omega) (by omega) a8,?_⟩
             refine⟨_,fun H=>j6.c1L p8.l1 a5E a8 (.t a8) a8,?_⟩
             refine⟨_,fun H=>j6.ldE a8B (.t a8) (u7.app .z) (by omega) a8,?_⟩
             refine .inl ?_
             refine⟨_,fun H=>j6.move (.t a8) a8,?_⟩
             refine .inl (.inl (.inl ?_))
             refine⟨_,fun H=>j6.W7 a1f underlying27 a8 (u7.app .z) (.t a8) (by omega) (by omega) a8,?_⟩
             refine⟨_,fun H=>j6.c1L p8.l1 a5E a8 (.t a8) a8,?_⟩
             refine⟨⟨([],j2 [c8,c8,c8,c8,c8,c8,c8,_]),a8⟩,?_⟩
             refine A6.buildSlice (α:=j3) T1 underlying83 .nil rfl (by decide) fun b140 => ?_
             refine⟨⟨([_],j2 [c8,c8,c8,c8,c8,c8,c8,_]),a8⟩,?_⟩
             refine A6.append b8g (.inl ⟨_,underlying83⟩) rfl .z (.v (.t rfl)) (by simp<;>omega) (by simp<;>omega) (fun w147 => ?_) rfl
             refine⟨⟨([_],j2 [c8,c8,c8,c8,c8,c8,c8,_]),a8⟩,?_⟩
             refine A6.C8 hG (S0 _ _ _ (by assumption)) .z8 (.cons (.t rfl) (.cons .b .nil)) (by rintro _ _ ⟨_,_,_,_,_,_,rfl⟩;exact⟨_,rfl⟩) fun r149 B149 hr149 => ?_
             obtain⟨p149,hp149,hk149,d149,hd149,rfl,hB⟩:=hr149
             cases hB
             refine⟨⟨([_],j2 [c8,c8,c8,c8,c8,c8,c8,_]),a8⟩,?_⟩
             refine A6.ofP (j6.F1 (α:=j3) T1 underlying83 (.cons (.t rfl) .nil) rfl (by decide) ?_)
             refine⟨⟨([_],j2 [c8,c8,c8,c8,c8,c8,c8,_]),a8⟩,?_⟩
             refine A6.append b8g (.inl ⟨_,underlying83⟩) rfl .z (.v (.c rfl)) (by simp<;>omega) (by simp<;>omega) (fun w151 => ?_) rfl
             refine⟨⟨([_],j2 [c8,c8,c8,c8,c8,c8,c8,_]),a8⟩,?_⟩
             show D5 _ _ _ _ _ [_] ((153,_)::(152,_)::(151,_)::(150,_)::(149,_)::(148,_)::(147,_)::(146,_)::(145,_)::(144,_)::(143,_)::(142,_)::(141,_)::(140,_)::(139,_)::(138,_)::(137,_)::_) _
             refine .u0 hC .z (.as 151 a8 .z (.n (.stE a8B (.t a8) (.t a8) .z1 (by omega) ?_)))
             refine .q 2 hG ?_
             refine .u0 hC .z2 (.u0 hC .z1 (.a3r .z5 (fun n0 I L hr cs hc=>K5 hc (u7.fz .z2 hr) (u7.fz .z1 hr)) (.conv 3 (.ln (ptr b3 0) (m0.id (α:=Q4))) a8 (fun _ _ _ _ _ h=>h) ?_)))
             refine .q 5 hG ?_
             refine⟨_,.r1 a8 (.cell V6 a8 .z3),?_⟩
             refine⟨_,.cons .z8 (.nil),?_⟩
             exact⟨_,⟨by first|simpa [C9] using Nat.le_succ_of_le hb1|(simp [C9];omega),by first|simpa [C9] using Nat.le_succ_of_le hb2|(simp [C9];omega),by first|exact T9 hb3|exact U0 hb3 _|exact a0h hb3 (Nat.zero_le _)|exact I6 hb3 (by have hq:=hce;exact Nat.le_succ_of_le hq)|exact I6 hb3 (by have hq:=hcd;show(([]++_) ++ [_]).length≤_;rw [List.nil_append,List.length_append];exact Nat.succ_le_succ hq),by first|(simp [C9,Y9];omega)⟩,_,by assumption,rfl,rfl⟩
            ·refine .q 2 hG ?_
             refine .u0 hC .z1 (.u0 hC .z (.a3r .z4 (fun n0 I L hr cs hc=>K5 hc (u7.fz .z1 hr) (u7.fz .z hr)) (.conv 3 (.ln (ptr b3 0) (m0.id (α:=Q4))) a8 (fun _ _ _ _ _ h=>h) ?_)))
             refine .q 5 hG ?_
             refine⟨_,.r1 a8 (.cell V6 a8 .z2),?_⟩
             refine⟨_,.cons .z7 (.nil),?_⟩
             exact⟨_,⟨by first|simpa [C9] using Nat.le_succ_of_le hb1|(simp [C9];omega),by first|simpa [C9] using Nat.le_succ_of_le hb2|(simp [C9];omega),by first|exact T9 hb3|exact U0 hb3 _|exact a0h hb3 (Nat.zero_le _)|exact I6 hb3 (by have hq:=hce;exact Nat.le_succ_of_le hq)|exact I6 hb3 (by have hq:=hcd;show(([]++_) ++ [_]).length≤_;rw [List.nil_append,List.length_append];exact Nat.succ_le_succ hq),by first|(simp [C9,Y9];omega)⟩,_,by assumption,rfl,rfl⟩
           ·refine .q 6 hG ⟨fun hc154 => ?_,fun hc154 => ?_⟩
            ·refine .q 1 hG ?_
             refine .p (.B1 m8.l5 Z6 a8 (.t a8) (.p (.ldR (fun x=>x.j4) a3K (.t a8) .z4 (fun _=>a8) ?_)))
             refine .bs a8 (by decide) fun b158=>(.u0 hC .z (.as 158 a8 .z (.p (.bS1 p8.l0 a8 a1f b6d (fun c0=>(⟨c0,[],default⟩:p8)) (fun _=>a8) a8 a8 (.t a8) ?_))))
             refine .bs a8 (by decide) fun b160 => ?_
             refine .ap (by simp<;>omega) (by simp<;>omega) fun w161 => .p (.B1 m8.l5 Z6 a8 (.t a8) (.n (.stF (fun y x => { x with j4:=y }) a3K (.t a8) (.b3S a8 .z2) .z6 (fun _ _=>a8) ?_)))
             refine .q 2 hG ?_
             refine .u0 hC .z3 (.u0 hC .z2 (.a3r .z6 (fun n0 I L hr cs hc=>K5 hc (u7.fz .z3 hr) (u7.fz .z2 hr)) (.conv 3 (.ln (ptr b3 0) (m0.id (α:=Q4))) a8 (fun _ _ _ _ _ h=>h) ?_)))
             refine .q 5 hG ?_
             refine⟨_,.r1 a8 (.cell V6 a8 .z4),?_⟩
             refine⟨_,.cons .z9 (.nil),?_⟩
             exact⟨_,⟨by first|simpa [C9] using Nat.le_succ_of_le hb1|(simp [C9];omega),by first|simpa [C9] using Nat.le_succ_of_le hb2|(simp [C9];omega),by first|exact T9 hb3|exact U0 hb3 _|exact a0h hb3 (Nat.zero_le _)|exact I6 hb3 (by have hq:=hce;exact Nat.le_succ_of_le hq)|exact I6 hb3 (by have hq:=hcd;show(([]++_) ++ [_]).length≤_;rw [List.nil_append,List.length_append];exact Nat.succ_le_succ hq),by first|(simp [C9,Y9];omega)⟩,_,by assumption,rfl,rfl⟩
            ·refine .q 2 hG ?_
             refine .u0 hC .z1 (.u0 hC .z (.a3r .z4 (fun n0 I L hr cs hc=>K5 hc (u7.fz .z1 hr) (u7.fz .z hr)) (.conv 3 (.ln (ptr b3 0) (m0.id (α:=Q4))) a8 (fun _ _ _ _ _ h=>h) ?_)))
             refine .q 5 hG ?_
             refine⟨_,.r1 a8 (.cell V6 a8 .z2),?_⟩
             refine⟨_,.cons .z7 (.nil),?_⟩
             exact⟨_,⟨by first|simpa [C9] using Nat.le_succ_of_le hb1|(simp [C9];omega),by first|simpa [C9] using Nat.le_succ_of_le hb2|(simp [C9];omega),by first|exact T9 hb3|exact U0 hb3 _|exact a0h hb3 (Nat.zero_le _)|exact I6 hb3 (by have hq:=hce;exact Nat.le_succ_of_le hq)|exact I6 hb3 (by have hq:=hcd;show(([]++_) ++ [_]).length≤_;rw [List.nil_append,List.length_append];exact Nat.succ_le_succ hq),by first|(simp [C9,Y9];omega)⟩,_,by assumption,rfl,rfl⟩
abbrev c4t:Tag:=(m0.idx 0 (by decide)).set 7 default
abbrev c3w:Epo:=⟨1,c4t⟩
theorem b0d {a:D0} {g:Ring} {b:Q4} {v:u3} {e:Int} (hpl:∀ x∈a.y2,x.Plain.length≤1000000) (hl:b.j9.length≤1000000) (h:a6x a g b=(v,e)):u1 gl prog 13 [.v a,.v g,.v b] (fun r=>r = .t2 (.v v) (.v e)) :=
 (b2V a g b hpl hl).mono fun r hr=>by rw [hr,h]
theorem b1n.other {B : D0} {root : Epo} {P : Pass} {G : List Dis} {T : List Tag} {r : Rq} {t : Tag} {n k : Nat} (h : b1n B root P G T r t n k) (hk : k ≤ 6) (hf : B.K2 = true) (l : Int) {q : Rq} (hq : S2 q = true) (hne : q ≠ r) :
    a6x B (a2n root l) ⟨q,P.D3,P.A8,P.j9,t,G.map (bnd B P.Tag r)⟩=(default,19):=by
  have hc:=b1m h.sc hk hq t (bnd B P.Tag r) fun g=>⟨rfl,rfl⟩
  have hb:=a5c hc
  have he:a0T (a2n root l) P.D3=some root:=by rw [h.sc.a4P.1];exact b9k _ _
  rw [a7Z (root:=root) hc he]
  have hn:=h.sc.a4P
  have hs:=h.sc.a5Y
  have hr:J6 root.Number P.A8=true:=by unfold J6;simp;omega
  have ht:=b2E (a:=B) hr (List.all_eq_true.2 fun c hc=>(h.sc.cav c hc).1) h.sc.walk
  rw [a71 (b:=⟨q,P.D3,P.A8,P.j9,t,G.map (bnd B P.Tag r)⟩) ht,if_pos]
  refine Or.inl fun hp => ?_
  unfold V0 at hp
  dsimp only at hp
  rw [if_pos hq] at hp
  obtain⟨y,hy,hyk,hym⟩:=b9j hf hp
  rcases h.a0s y hy with ⟨c,hc,hc1,hc2⟩|⟨h1,h2⟩|⟨g,_,_,h2⟩
  · rw [hym] at hc;exact absurd (Option.some.inj hc).symm hc1
  · exact hne (b6Q hq h.rq (hym.symm.trans h2))
  · rw [hym] at h2;exact absurd (congrArg List.head? h2) (by simp [a27,X4])
theorem b0e:u1 gl prog 9 [] (fun r=>r = .v true):=by
 have h0:=a0n.start true default (root:=c3w) ⟨(by decide:(1:Int)≤1),(by decide:(1:Int)≤2)⟩ (A:=⟨true,default,0,[],[]⟩) (H5.new true default 2) rfl rfl (n:=1) (by decide) (by decide)
 obtain⟨A1,P,T,e1,hs,hh,hf,hser⟩:=h0
 have hp:=hs.c3v (by decide) (by decide) hh (r:=⟨1,1⟩) (by decide)
 obtain⟨b,t,B,hp,hB,hle⟩:=hp
 have hfree:B.K2=true:=hle.free.trans hf
 obtain⟨v,hv,hvn,hvl⟩:=hB.c2l (by decide) 1
 have hw:=hB.other (by decide) hfree 1 (q:=⟨1,2⟩) (by decide) (by decide)
 have hpl:=hB.sc.ok.b1a
 have hcv:=hB.sc.a34
 have hc0:P.j9 = []:=List.length_eq_zero_iff.1 (by omega)
 refine u1.jn func9 (by kernel_rfl) 66 rfl fun C hC hG => ?_
 refine .q 6 hG ?_
 refine .p (.bS1 m5.l0 a8 y7 a1r (fun c0=>(⟨c0,default,0,[],[]⟩:m5)) (fun _=>a8) a8 a8 .b (.p (.O0 _ y6 M0 (.cons (m0.idx 0 (by decide)) _ a8 (.u8 7 a8) .nil) a8 (.p (.bS2 u4.l0 u4.l1 a8 a6l b9J (fun c0 c1=>(⟨c0,c1⟩:u4)) (fun _ _=>a8) a8 a8 a8 (.i a8) (.t a8) (.p (.o7 hG (as3 (b8G _ _ _) e1) (.cons (.t a8) (.cons (.t a8) (.cons (.i a8) .nil))) ?_)))))))
 refine .q 5 hG fun b1 => ?_
 refine .q 1 hG fun b2 => ?_
 refine .q 8 hG ?_
 refine .p (.bS2 u6.l0 u6.l1 a8 a6W c2E (fun c0 c1=>(⟨c0,c1⟩:u6)) (fun _ _=>a8) a8 a8 a8 (.i a8) (.i a8) (.p (.o7 hG (hp.c (by omega) (by decide) (by decide)) (.cons (.t a8) (.cons (.t a8) (.cons .b3E (.cons (.t a8) .nil)))) ?_)))
 refine .q 5 hG fun b4 => ?_
 refine .q 6 hG ?_
 refine .p (.O0 _ y6 M0 (.cons (m0.idx 0 (by decide)) _ a8 (.u8 7 a8) .nil) a8 (.p (.bS2 u4.l0 u4.l1 a8 a6l b9J (fun c0 c1=>(⟨c0,c1⟩:u4)) (fun _ _=>a8) a8 a8 a8 (.i a8) (.t a8) ?_)))
 refine .bs a8 (by decide) fun b29=>(.u0 hC .z (.as 29 a8 .z (.p (.bS2 C4.l0 C4.l1 a8 a9k c2F (fun c0 c1=>(⟨c0,c1⟩:C4)) (fun _ _=>a8) a8 a8 a8 (.t a8) (.i a8) ?_))))
 refine .q 1 hG fun b6 => ?_
 refine .q 7 hG ?_
 refine .p (.o7 hG (b0d hpl (by show P.j9.length≤_;omega) hv) (.cons (.t rfl) (.cons (.t rfl) (.cons (.t rfl) .nil))) ?_)
 refine .q 4 hG fun b7 => ?_
 refine .q 14 hG ?_
 refine .p (.o7 hG (b0d hpl (by show P.j9.length≤_;omega) hw) (.cons (.t rfl) (.cons (.t rfl) (.cons (.t rfl) .nil))) ?_)
 refine .q 4 hG fun b9 => ?_
 refine .q 22 hG ?_
 refine .go 59 a8 (.t a8) (fun hg64 => .a7m underlying26 sz5 underlying5 a8k (.q a8 hg64) (.q a8 hg64) a8) ?_
 refine .q 4 hG ?_
 refine .e1 a8 a8 ?_
 simp [hvn,hvl,hc0]
theorem c0U.facts {s:Scn} {b:Q4} (h:c0U s b):(∀ x∈s.A.y2,x.Plain.length≤1000000)∧Tb 100 b:=by
 obtain⟨root,T,t,n,k,hp,hn,hk,h2,hg,rfl⟩:=h.ex
 have h1:=hp.sc.a34
 have h3:=hp.sc.ngr
 have hr:=a1n hp.rq
 refine⟨hp.sc.ok.b1a,⟨by show s.Pass.j9.length≤_;omega,by show(s.L6.map _).length≤_;simp;omega,fun d hd => ?_,?_⟩⟩
 ·obtain⟨g,hg,rfl⟩:=List.mem_map.1 hd
  have:=(hp.sc.a3H g hg).a7O
  show g.l8.length≤100;omega
 ·show 0≤s.Request.E4∧s.Request.E4≤_;omega
theorem a9s (b:Q4) (ring:Ring) (deck how:List Int) (t:Tag):u1 gl prog 3 [.v b,.v ring,.v deck,.v how,.v t] (fun r=>r = .v true):=by
 refine u1.jn func3 (by kernel_rfl) 97 rfl fun C hC hG => ?_
 refine .q 3 hG fun b5 => ?_
 refine .q 1 hG fun b6 => ?_
 refine .q 1 hG fun b9 => ?_
 refine .q 22 hG ?_
 refine .cond (.t a8) (fun hc38 => ?_) (fun hc38 => ?_)
 ·refine .q 2 hG ?_
  refine .k hG (b0e) ?_
  refine .q 3 hG ?_
  refine .e1 a8 a8 ?_
  rfl
 ·refine .q 4 hG ?_
  refine .h (.a1c hG (c2o _ _) (.cons (.t a8) (.cons .b .nil)) fun r42 Hs42 hr42 => ?_)
  obtain⟨s42,b42,p42,d42,⟨hm42,hd42⟩,rfl,rfl⟩:=hr42
  show D5 _ _ _ _ _ _ _ ((true,_)::_)
  refine .q 5 hG fun b11 => ?_
  refine .q 1 hG fun b12 => ?_
  refine .q 5 hG ?_
  have hf:=hm42.facts
  obtain⟨hpl,htb⟩:=hf
  refine .a0r [[j1,j1,j1,j1,j1,j1],[j1,j1,j1,j1,j1,j1],[j1,j1,j1,j1,j1,j1]] [[j1,j1,j1,j1,j1,j1],[j1,j1,j1,j1,j1,j1],[],[j1,j1,j1,j1,j1,j1],[],[]] [] [(5,(⟨p9,inferInstance,default⟩:AT))] 2 (by kernel_rfl) 6 [[],[],[(47,1)],[],[(46,0),(48,2),(49,3)],[]] [2,4] rfl (by kernel_rfl) rfl (by kernel_rfl) rfl (by decide) (by simp) (List.forall_mem_cons.2 ⟨fun o ho=>by obtain rfl:=Option.some.inj (show some _=some o from ho);exact⟨rfl,fun _ _=>A6.alloc V6 fun b=>⟨b,rfl,rfl⟩⟩,(fun p hp=>by cases hp)⟩) (by kernel_rfl) rfl ?_
  refine⟨_,fun H=>j6.Q1 V6 (.t a8) (u7.app .z) a8,?_⟩
  refine⟨_,fun H=>j6.move (.t a8) a8,?_⟩
  refine .inl ?_
  refine⟨_,fun H=>j6.Q1 y6 (.t a8) (u7.app .z3) a8,?_⟩
  refine .inl (.inl ?_)
  refine⟨a8,?_⟩
  refine⟨⟨j2 [c8,c8,c8,c8,c8,c8],a8⟩,fun Ys4 => ?_⟩
  refine A6.a1c hG (a9J _) (.cons (.t rfl) .nil) fun r48 Hs48 hr48 => ?_
  obtain⟨b48,rfl,rfl⟩:=hr48
  refine⟨[_],_,a8,?_⟩
  refine⟨⟨j2 [c8,c8,c8,c8,c8,c8],a8⟩,fun Ys4 => ?_⟩
  refine A6.C8 hG (b4J _ _ _ _ _ (by first|assumption|exact y1 _) (by assumption) (by decide)) .z (.cons (.t rfl) (.cons (.t rfl) (.cons (.t rfl) .nil))) (by rintro _ _ ⟨_,_,_,_,_,rfl⟩;exact⟨_,rfl⟩) fun r50 B50 hr50 => ?_
  obtain⟨y50,hy50,d50,hd50,rfl,hB⟩:=hr50
  cases hB
  refine⟨[_],_,a8,?_⟩
  refine⟨⟨j2 [c8,c8,c8,c8,c8,c8],a8⟩,fun ws4 => ?_⟩
  refine⟨⟨j2 [c8,c8,c8,c8,c8,c8],a8⟩,fun _ => ?_⟩
  show D5 _ _ _ _ _ [_] ((14,_)::(50,_)::(49,_)::(48,_)::(47,_)::(46,_)::_) _
  refine .n (.O5 V6 (.t a8) (.t a8) .z1 ?_)
  refine .q 4 hG ?_
  refine .p (.Q1 V6 (.t a8) .z2 (.p (.Q1 V6 (.t a8) .z7 (.p (.Q1 V6 (.t a8) .z1 (.h (.buildSlice (α:=p9) V6 underlying52 (.cons (.t a8) (.cons (.t a8) (.cons (.t a8) .nil))) a8 (by decide) fun b54 => .p (.a3S underlying52 a8 .z ?_))))))))
  refine .q 1 hG ?_
  refine .u0 hC .z (.as 54 a8 .z ?_)
  have hq:b.j9.length≤70:=(by simp at hc38;omega)
  have hl:∀ z∈([b42,b,y50]:List Q4),z.j9.length≤1000000:=(by have h1:=htb.cav;have h2:=hy50.cav;simp;omega)
  refine .q 2 hG ?_
  refine .D9 (α:=Nat) [(6,_),(11,_),(54,_),(55,_)] (fun j R=>(56,.v (j:Int))::R) (Function.const _ _) (fun j=>j≤3) (fun j=>3 - j) (0) (.c2 a8 a8 (.c2 a8 a8 (.nil _))) ?_ (.c2 a8 a8 (.c2 a8 a8 (.cons a8 (.nil _)))) (a8) fun j hF => ?_
  ·simp
  refine .q 6 hG ⟨fun hc57 => ?_,fun hc57 => ?_⟩
  ·refine .q 5 hG ?_
   refine .ix (by omega) (by omega) ?_
   refine .q 2 hG fun b16 => ?_
   refine .n (.O5 V6 (.t a8) (.t a8) .z ?_)
   refine .q 3 hG ?_
   refine .p (.B1 p5.l1 b3t a8 (.t a8) (.p (.ldF (fun x=>x.Ring) a9k (.t a8) .z5 (fun _=>a8) (.p (.Q1 a9k (.t a8) .z8 (.h (.buildSlice (α:=C4) a9k underlying53 (.cons (.t a8) (.cons (.t a8) .nil)) a8 (by decide) fun b63 => .p (.a3S underlying53 a8 .z ?_))))))))
   refine .q 1 hG ?_
   refine .u0 hC .z (.as 63 a8 .z ?_)
   refine .q 2 hG ?_
   refine .D9 (α:=Nat) [(6,_),(11,_),(16,_),(54,_),(55,_),(56,_),(63,_),(64,_)] (fun q R=>(65,.v (q:Int))::R) (Function.const _ _) (fun q=>q≤2) (fun q=>2 - q) (0) (.c2 a8 a8 (.c2 a8 a8 (.c2 a8 a8 (.c2 a8 a8 (.nil _))))) ?_ (.c2 a8 a8 (.c2 a8 a8 (.c2 a8 a8 (.c2 a8 a8 (.cons a8 (.nil _)))))) (a8) fun q hF => ?_
   ·simp
   refine .q 6 hG ⟨fun hc66 => ?_,fun hc66 => ?_⟩
   ·refine .q 5 hG ?_
    refine .ix (by omega) (by omega) ?_
    refine .q 2 hG fun b18 => ?_
    refine .n (.O5 a9k (.t a8) (.t a8) .z ?_)
    refine .q 3 hG ?_
    refine .p (.B1 p5.l0 P9 a8 (.t a8) (.p (.ldF (fun x=>x.A) y7 (.t a8) .z7 (fun _=>a8) (.p (.Q1 a9k (.t a8) .z (.p (.Q1 V6 (.t a8) .z2 (.p (.o7 hG (b2V _ _ _ hpl (hl _ (List.getElem_mem _))) (.cons (.t a8) (.cons (.t a8) (.cons (.t a8) .nil))) ?_)))))))))
    refine .q 4 hG fun b19 => ?_
    refine .n (.O5 Z0 (.t a8) (.t a8) .z (.ag a8 ?_))
    refine .q 3 hG ?_
    refine .p (.B1 p5.l0 P9 a8 (.t a8) (.p (.ldF (fun x=>x.A) y7 (.t a8) .z8 (fun _=>a8) (.p (.Q1 a9k (.t a8) .z1 (.p (.Q1 V6 (.t a8) .z3 (.p (.o7 hG (b6W _ _ _ hpl (hl _ (List.getElem_mem _))) (.cons (.t a8) (.cons (.t a8) (.cons (.t a8) .nil))) ?_)))))))))
    refine .q 4 hG fun b21 => ?_
    refine .q 7 hG ?_
    refine .p (.o7 hG (b6X _ _) (.cons (.t a8) (.cons (.t a8) .nil)) ?_)
    refine .q 7 hG ?_
    refine .cond (.t a8) (fun hc93=>(by exfalso;simp at hc93)) (fun hc93 => ?_)
    refine .q 1 hG ?_
    refine .drop (.drop (.drop ?_))
    refine .q 1 hG ?_
    refine .ad (by omega) (by omega) ?_
    refine .q 2 hG ?_
    refine⟨q+1,.c2 rfl rfl (.c2 rfl rfl (.c2 rfl rfl (.c2 rfl rfl (.cons rfl (.nil _))))),rfl,?_,by simp at hc66;omega⟩
    simp at hc66;omega
   ·refine .q 1 hG ?_
    refine .drop (.drop ?_)
    refine .q 1 hG ?_
    refine .ad (by omega) (by omega) ?_
    refine .q 2 hG ?_
    refine⟨j+1,.c2 rfl rfl (.c2 rfl rfl (.cons rfl (.nil _))),rfl,?_,by simp at hc57;omega⟩
    simp at hc57;omega
  ·refine .q 3 hG ?_
   refine .k hG (b0e) ?_
   refine .q 3 hG ?_
   refine .e1 a8 a8 ?_
   rfl
end Go.Proofs.YtmmclghiidoldaaGreatDoor
namespace Go.Fl
open Go.ChangeShapes Go.WideShapes Go.ChangeAt Go.RowKit
def a56 (W:World):Im:=fun b=>W.heap[b]?
theorem b9u (W:World):Mem (a56 W) [] W:=⟨fun b o h=>h,by simp,by simp,by simp⟩
theorem Fun.calls {P : Program} {f : FuncId} {args : Array Value} {W : World} {r : Value} (h : Fun P f args (a56 W) (fun v _ => v = r)) :
    Calls P f args W (fun e W'=>e = .returned r∧Below W.heap.size W W') :=
  (h.run W (b9u W)).mono fun e w' ⟨v,J,he,hc,_,_,_,hv⟩=>⟨by rw [he,hv],⟨hc.os,hc.tape,hc.output,hc.size,fun k hk=>hc.block k hk (by simp)⟩⟩
theorem a1J {W:World} {x:Addr} {v:Value} (h:W.cell? x=some v):x.spot=none∧∃ cs e fr,W.heap[x.block]?=some (.cells cs e fr)∧cs[x.off]?=some v:=by
 unfold World.cell? at h
 split at h
 ·rename_i c e fr heq
  split at h
  ·cases h
  ·rename_i hs
   exact⟨by simpa using hs,c,e,fr,heq,h⟩
 ·cases h
theorem b4K {P : Program} {W : World} {n : String} {d : DataW Unit} {l : List UInt32} {g : Nat} {T E : TypeId} (hg : P.globalNamed n = some g) (ht : (P.globals[g]?).map (·.type) = some T) (hT : P.underlying T = some (.array l.length E))
    (hE:P.underlying E=some (.int .u32)) (hone:P.cellsOf E=1) (hl:0 < l.length) (hd:d = .agg (l.map fun k => .lit (.int .u32 (k.toNat:Int)))) (h:laidMet P [(n,d)] W):Cells (a56 W) g 0 (l.map u32):=by
  obtain⟨ps,⟨g2,t,cs,fuel,p,q,hg2,ht2,hvar,htr,_,_⟩,_⟩:=h
  obtain rfl:=Option.some.inj (hg.symm.trans hg2)
  obtain rfl:=Option.some.inj (ht.symm.trans ht2)
  obtain⟨xs,m,_,hx,hlen,hxl,hel⟩:=DataW.trod_array hT htr
  have hxd:xs.map (·.1)=l.map fun k=>DataW.lit (.int .u32 (k.toNat:Int)):=by
    have:=(Prod.mk.inj hx).1
    rw [hd] at this
    injection this with h2
    exact h2.symm
  have hcell:∀ (i:Nat) (v:Value),(l.map u32)[i]?=some v→cs[i]?=some v:=by
    intro i v hv
    have hi:i < l.length:=by simpa using (List.getElem?_eq_some_iff.1 hv).1
    have h1:=hel i hi
    rw [hone] at h1
    have hxi:xs[i]?=some (xs[i]'(by omega)):=List.getElem?_eq_getElem (by omega)
    rw [hxi] at h1
    obtain⟨k,hk1,hk2,_⟩:=DataW.trod_int hE h1
    have hfst:(xs.map (·.1))[i]?=some (DataW.lit (.int .u32 k)):=by rw [List.getElem?_map,hxi,Option.map_some,hk2]
    rw [hxd,List.getElem?_map,List.getElem?_eq_getElem hi] at hfst
    simp at hfst
    have hci:cs.toList[i]?=some (.int .u32 k):=by
      have:((cs.toList.drop (i*1)).take 1)[0]?=some (.int .u32 k):=by rw [hk1];rfl
      simpa [List.getElem?_take,List.getElem?_drop] using this
    rw [List.getElem?_map,List.getElem?_eq_getElem hi,Option.map_some] at hv
    have hv:=Option.some.inj hv
    rw [←hv,u32,hfst]
    simpa using hci
  have h0:∃ v,(l.map u32)[0]?=some v:=⟨_,List.getElem?_eq_getElem (by simpa using hl)⟩
  obtain⟨v0,hv0⟩:=h0
  have hc0:=World.var?_cell hg hvar 0
  rw [hcell 0 v0 hv0] at hc0
  obtain⟨_,cs2,e,fr,hob,_⟩:=a1J hc0
  refine⟨cs2,e,fr,hob,fun i v hv => ?_⟩
  have h3:=World.var?_cell hg hvar i
  rw [hcell i v hv] at h3
  obtain⟨_,cs3,e3,fr3,hob3,hv3⟩:=a1J h3
  have:Obj.cells cs2 e fr=Obj.cells cs3 e3 fr3:=Option.some.inj (hob.symm.trans hob3)
  cases this
  simpa using hv3
end Go.Fl
namespace Go.Ab
open Go.Fl Go.RowKit Go.ChangeShapes Go.WideShapes Go.ChangeAt
open o8 (rep)
def K9 (P:Program) (T:TypeId) (α:Type) [o8 α]:Prop:=P.cellsOf T=o8.size α ∧
 ∀ (H:Type) (enc:TypeId×Value→H) (W:World) (base:Nat) (spare:Nat→Bool) (held:Bool) (fuel:Nat) (cs:List Value) (x:DataW H×List MemPlace),DataW.trod enc P W base spare held fuel T cs=some x→∃ a:α,rep (a56 W) a cs
variable {P:Program} {T E:TypeId}
theorem K9.i64 (hT:P.underlying T=some (.int .i64)) (hc:P.cellsOf T=1):K9 P T Int:=⟨hc,fun H enc W base spare held fuel cs x h=>by
 obtain⟨n,rfl,_,hw⟩:=DataW.trod_int hT h
 simp [Lit.wf,IntKind.min,IntKind.max,IntKind.signed,IntKind.bits] at hw
 exact⟨n,rfl,by omega,by omega⟩⟩
theorem K9.u8 (hT:P.underlying T=some (.int .u8)) (hc:P.cellsOf T=1):K9 P T UInt8:=⟨hc,fun H enc W base spare held fuel cs x h=>by
 obtain⟨n,rfl,_,hw⟩:=DataW.trod_int hT h
 simp [Lit.wf,IntKind.min,IntKind.max,IntKind.signed,IntKind.bits] at hw
 refine⟨UInt8.ofNat n.toNat,?_⟩
 show [Value.int .u8 n] = [Fl.u8 _]
 unfold Fl.u8
 congr 2;simp;omega⟩
theorem K9.u64 (hT:P.underlying T=some (.int .u64)) (hc:P.cellsOf T=1):K9 P T UInt64:=⟨hc,fun H enc W base spare held fuel cs x h=>by
 obtain⟨n,rfl,_,hw⟩:=DataW.trod_int hT h
 simp [Lit.wf,IntKind.min,IntKind.max,IntKind.signed,IntKind.bits] at hw
 refine⟨UInt64.ofNat n.toNat,?_⟩
 show [Value.int .u64 n] = [Fl.u64 _]
 unfold Fl.u64
 congr 2;simp;omega⟩
theorem K9.bool (hT:P.underlying T=some .bool) (hc:P.cellsOf T=1):K9 P T Bool:=⟨hc,fun H enc W base spare held fuel cs x h=>by
 obtain⟨n,rfl,_⟩:=DataW.trod_bool hT h
 exact⟨n,a8⟩⟩
theorem K9.str (hT:P.underlying T=some .string) (hc:P.cellsOf T=1):K9 P T Str:=⟨hc,fun H enc W base spare held fuel cs x h=>by
 obtain⟨s,rfl,_,hs⟩:=DataW.trod_string hT h
 refine⟨⟨s.data.toList⟩,⟨s,a8,a8⟩,?_⟩
 show s.data.toList.length≤_
 have:s.data.toList.length=s.size:=rfl
 unfold maxLen at hs
 omega⟩
theorem add_add (a:Addr) (i j:Nat):(a.add i).add j=a.add (i+j):=by
 unfold Addr.add
 rcases a with ⟨b,o,_|s⟩<;>by_cases hi:i=0<;>by_cases hj:j=0<;>simp [hi,hj,Nat.add_assoc]
theorem K9.slice {α:Type} {r:o8 α} (hT:P.underlying T=some (.slice E)) (hc:P.cellsOf T=1) (hE:K9 P E α) (hp:0 < o8.size α):K9 P T (List α):=⟨hc,fun H enc W base spare held fuel cs x h=>by
 rcases DataW.trod_slice hT h with ⟨rfl,_⟩|⟨a,len,cap,elems,rest,n,_,rfl,_,hb,hl,hm,hel,hget,_⟩
 ·exact⟨[],_,a8,[],Sl.nil _ _,a8⟩
 ·have key:∀ k,k≤len→∃ (l:List α) (xs:List Value),l.length=k∧K0 (a56 W) l xs∧∀ i v,xs[i]?=some v→W.cell? (a.add i)=some v:=by
   intro k
   induction k with
   | zero=>exact fun _=>⟨[],[],rfl,rfl,fun i v hv=>by simp at hv⟩
   | succ k ih =>
    intro hk
    obtain⟨l,xs,h1,h2,h3⟩:=ih (by omega)
    have hg:=hget k (by omega)
    rw [List.getElem?_eq_getElem (by omega)] at hg
    obtain⟨c,hc1,hc2⟩:=Option.bind_eq_some_iff.1 hg
    obtain⟨_,hcl,hcell⟩:=World.cells?_some hc1
    obtain⟨y,hy⟩:=hE.2 H enc W base spare held n c _ hc2
    refine⟨l ++ [y],xs++c,by simp [h1],h2.append (.one hy),fun i v hv => ?_⟩
    have hxl:xs.length=k*o8.size α:=by rw [h2.len,h1]
    by_cases hi:i < xs.length
    ·rw [List.getElem?_append_left hi] at hv;exact h3 i v hv
    ·rw [List.getElem?_append_right (by omega)] at hv
     have hj:=(List.getElem?_eq_some_iff.1 hv).1
     have:=hcell (i - xs.length) (by omega)
     rw [hv,hE.1,add_add,←hxl,show xs.length+(i - xs.length)=i by omega] at this
     exact this
  obtain⟨l,xs,h1,h2,h3⟩:=key len (Nat.le_refl _)
  have hxl:=h2.len
  refine⟨l,_,rfl,xs,⟨_,_,by rw [h1],h2.len,by omega,hm,(fun h=>by cases h),fun hne => ?_⟩,h2⟩
  rcases a with ⟨ab,ao,ags⟩
  obtain⟨v0,hv0⟩:∃ v,xs[0]?=some v:=⟨_,List.getElem?_eq_getElem (List.length_pos_iff.2 hne)⟩
  have hc0:=h3 0 v0 hv0
  obtain⟨hsp,cs,e,fr,hob,_⟩:=a1J hc0
  have hsp2:ags=none:=by
   cases ags with
   | none=>rfl
   | some q =>
    unfold Addr.add at hsp
    simp at hsp
  subst hsp2
  rw [Addr.add_plain] at hob
  have hob:W.heap[ab]?=some (Obj.cells cs e fr):=hob
  refine⟨ab,ao,a8,cs,e,fr,hob,fun i v hv => ?_⟩
  have hcv:=h3 i v hv
  rw [Addr.add_plain] at hcv
  obtain⟨_,cs2,e2,fr2,hob2,hv2⟩:=a1J hcv
  have:Obj.cells cs e fr=Obj.cells cs2 e2 fr2:=Option.some.inj (hob.symm.trans hob2)
  cases this
  exact hv2⟩
theorem K9.array {α:Type} {r:o8 α} {n:Nat} (hT:P.underlying T=some (.array n E)) (hc:P.cellsOf T=n*o8.size α) (hE:K9 P E α):K9 P T (I7 n α):=⟨hc,fun H enc W base spare held fuel cs x h=>by
 obtain⟨xs,m,_,_,hlen,hxl,hel⟩:=DataW.trod_array hT h
 have key:∀ k,k≤n→∃ l:List α,l.length=k∧K0 (a56 W) l (cs.take (k*o8.size α)):=by
  intro k
  induction k with
  | zero=>exact fun _=>⟨[],rfl,by simp [K0]⟩
  | succ k ih =>
   intro hk
   obtain⟨l,h1,h2⟩:=ih (by omega)
   have hg:=hel k (by omega)
   rw [List.getElem?_eq_getElem (by omega),hE.1] at hg
   obtain⟨y,hy⟩:=hE.2 H enc W base spare held m _ _ hg
   refine⟨l ++ [y],by simp [h1],?_⟩
   have e:cs.take ((k+1)*o8.size α)=cs.take (k*o8.size α)++(cs.drop (k*o8.size α)).take (o8.size α):=by
    rw [Nat.succ_mul,List.take_add]
   rw [e]
   exact h2.append (.one hy)
 obtain⟨l,h1,h2⟩:=key n (Nat.le_refl _)
 refine⟨⟨l,h1⟩,?_⟩
 show K0 (a56 W) l cs
 rwa [List.take_of_length_le (by rw [hlen,hc];exact Nat.le_refl _)] at h2⟩
inductive a69 (P:Program):List Field→Nat→(β:Type)→o8 β→Prop
 | nil {off:Nat}:a69 P [] off Unit inferInstance
 | cons {f:Field} {fs:List Field} {off:Nat} {α β:Type} {r:o8 α} {s:o8 β} (h1:f.offset=off) (h2:K9 P f.type α) (t:a69 P fs (off+o8.size α) β s):a69 P (f::fs) off (α×β) inferInstance
theorem a69.run {fs : List Field} {off : Nat} {β : Type} {s : o8 β} (h : a69 P fs off β s) {H : Type} {enc : TypeId × Value → H} {W : World} {base : Nat} {spare : Nat → Bool} {held : Bool} {n : Nat} {cs : List Value} (hl : cs.length = off + o8.size β)
    (hg:∀ (i:Nat) (f:Field),fs[i]?=some f→∃ x,DataW.trod enc P W base spare held n f.type ((cs.drop f.offset).take (P.cellsOf f.type))=some x):∃ b:β,rep (a56 W) b (cs.drop off):=by
  induction h with
  | nil=>exact⟨(),List.drop_eq_nil_of_le (by rw [hl];exact Nat.le_refl _)⟩
  | @cons f fs off α β r s h1 h2 t ih =>
    obtain⟨x,hx⟩:=hg 0 f rfl
    rw [h1,h2.1] at hx
    obtain⟨y,hy⟩:=h2.2 H enc W base spare held n _ _ hx
    obtain⟨b,hb⟩:=ih (by rw [hl];show off+(o8.size α+o8.size β)=_;omega) (fun i f' hf=>hg (i+1) f' (by simpa using hf))
    refine⟨(y,b),_,_,?_,hy,hb⟩
    rw [←List.drop_drop,List.take_append_drop]
theorem K9.struct {S β:Type} [s:o8 β] {fs:Array Field} (f:S→β) (g:β→S) (hfg:∀ b,f (g b)=b) (hT:P.underlying T=some (.struct fs)) (hc:P.cellsOf T=o8.size β) (h:a69 P fs.toList 0 β s) : @K9 P T S (o8.via f) :=
 letI:o8 S:=o8.via f
 ⟨hc,fun H enc W base spare held fuel cs x hx=>by
  obtain⟨xs,n,_,_,hlen,hxl,hel⟩:=DataW.trod_struct hT hx
  obtain⟨b,hb⟩:=h.run (W:=W) (enc:=enc) (base:=base) (spare:=spare) (held:=held) (n:=n) (cs:=cs) (by rw [hlen,hc];omega) (fun i f hf=>by
   have hf':fs[i]?=some f:=by simpa using hf
   have:=hel i f hf'
   have hi:=(Array.getElem?_eq_some_iff.1 hf').1
   exact⟨_,this.trans (List.getElem?_eq_getElem (by omega))⟩)
  exact⟨g b,by show rep (a56 W) (f (g b)) cs;rw [hfg];simpa using hb⟩⟩
theorem K9.val {α : Type} {r : o8 α} (h : K9 P T α) {H : Type} {enc : TypeId × Value → H} {W : World} {base : Nat} {spare : Nat → Bool} {held : Bool} {v : Value} {d : DataW H} {p : List MemPlace} (ht : DataW.Trod enc P W base spare held T v d p)
    (hv:∀ cs:List Value,v.cells.toList=cs→v=asV (o8.agg α) cs):∃ a:α,E6 (a56 W) (.v a) v:=by
  obtain⟨fuel,hf⟩:=ht
  obtain⟨a,ha⟩:=h.2 H enc W base spare held fuel _ _ hf
  exact⟨a,_,ha,hv _ a8⟩
theorem u1.calls {G : Gl} {f : FuncId} {ags : List AV} {vs : List Value} {W : World} (h : u1 G P f ags (fun r => r = .v true)) (hG : G.p (a56 W)) (hv : S8 (a56 W) ags vs) :
    Calls P f vs.toArray W (fun e W'=>e = .returned (.bool true)∧Below W.heap.size W W') :=
  Fun.calls ((h (a56 W) vs hG hv).mono fun v J _ ⟨r,h1,h2⟩=>by
    subst h2
    obtain⟨cs,rfl,rfl⟩:=h1
    rfl)
theorem a57 {dd:TypeDesc} (hT:P.underlying T=some dd) (hr:a08 dd=true) {W:World} {r:Reach} {base:Nat} {v:Value} (h:Value.okWide P W r base T v):∃ cs,v = .agg cs:=by
 unfold Value.okWide at h
 rw [hT] at h
 cases dd<;>first|(simp [a08] at hr;done)|(obtain⟨cs,h1,_⟩:=h;exact⟨cs,h1⟩)
theorem b2W {v:Value} (h:v.cells = #[v]):∀ cs:List Value,v.cells.toList=cs→v=asV false cs:=fun cs hc=>by
 rw [h] at hc;subst hc;rfl
theorem a88 {xs:Array Value}:∀ cs:List Value,(Value.agg xs).cells.toList=cs→Value.agg xs=asV true cs:=fun cs hc=>by
 subst hc;simp [asV,Value.cells]
end Go.Ab
namespace Go.Fl
open Go.RowKit
theorem b6Y {P : Program} {W : World} {n : String} {d : DataW Unit} {l : List Int} {g : Nat} {T E : TypeId} (hg : P.globalNamed n = some g) (ht : (P.globals[g]?).map (·.type) = some T) (hT : P.underlying T = some (.array l.length E))
    (hE:P.underlying E=some (.int .i64)) (hone:P.cellsOf E=1) (hl:0 < l.length) (hd:d = .agg (l.map fun k => .lit (.int .i64 k))) (h:laidMet P [(n,d)] W):Cells (a56 W) g 0 (l.map i64):=by
  obtain⟨ps,⟨g2,t,cs,fuel,p,q,hg2,ht2,hvar,htr,_,_⟩,_⟩:=h
  obtain rfl:=Option.some.inj (hg.symm.trans hg2)
  obtain rfl:=Option.some.inj (ht.symm.trans ht2)
  obtain⟨xs,m,_,hx,hlen,hxl,hel⟩:=DataW.trod_array hT htr
  have hxd:xs.map (·.1)=l.map fun k=>DataW.lit (.int .i64 k):=by
    have:=(Prod.mk.inj hx).1
    rw [hd] at this
    injection this with h2
    exact h2.symm
  have hcell:∀ (i:Nat) (v:Value),(l.map i64)[i]?=some v→cs[i]?=some v:=by
    intro i v hv
    have hi:i < l.length:=by simpa using (List.getElem?_eq_some_iff.1 hv).1
    have h1:=hel i hi
    rw [hone] at h1
    have hxi:xs[i]?=some (xs[i]'(by omega)):=List.getElem?_eq_getElem (by omega)
    rw [hxi] at h1
    obtain⟨k,hk1,hk2,_⟩:=DataW.trod_int hE h1
    have hfst:(xs.map (·.1))[i]?=some (DataW.lit (.int .i64 k)):=by rw [List.getElem?_map,hxi,Option.map_some,hk2]
    rw [hxd,List.getElem?_map,List.getElem?_eq_getElem hi] at hfst
    simp at hfst
    have hci:cs.toList[i]?=some (.int .i64 k):=by
      have:((cs.toList.drop (i*1)).take 1)[0]?=some (.int .i64 k):=by rw [hk1];rfl
      simpa [List.getElem?_take,List.getElem?_drop] using this
    rw [List.getElem?_map,List.getElem?_eq_getElem hi,Option.map_some] at hv
    have hv:=Option.some.inj hv
    rw [←hv,i64,hfst]
    simpa using hci
  have h0:∃ v,(l.map i64)[0]?=some v:=⟨_,List.getElem?_eq_getElem (by simpa using hl)⟩
  obtain⟨v0,hv0⟩:=h0
  have hc0:=World.var?_cell hg hvar 0
  rw [hcell 0 v0 hv0] at hc0
  obtain⟨_,cs2,e,fr,hob,_⟩:=a1J hc0
  refine⟨cs2,e,fr,hob,fun i v hv => ?_⟩
  have h3:=World.var?_cell hg hvar i
  rw [hcell i v hv] at h3
  obtain⟨_,cs3,e3,fr3,hob3,hv3⟩:=a1J h3
  have:Obj.cells cs2 e fr=Obj.cells cs3 e3 fr3:=Option.some.inj (hob.symm.trans hob3)
  cases this
  simpa using hv3
end Go.Fl
namespace Go.Proofs.YtmmclghiidoldaaGreatDoor
open Go.Proofs.Tryz
open Go.Fl Go.Ab Go.Mac Go.Sha
open Go.ChangeShapes Go.WideShapes Go.ChangeAt Go.RowKit
theorem c4u:ownKnob prog.godebug=none:=by kernel_rfl
theorem a4S:laidOutB prog=true:=by kernel_rfl
noncomputable def b9v (os:Os):World :=
  let w0:=World.holding prog os ⟨#[],#[],[]⟩
  { w0 with heap := (w0.heap.modify 1 fun
      | .cells _ t frozen => .cells (kk.map Fl.u32).toArray t frozen
      | o=>o).modify 0 fun
      | .cells _ t frozen => .cells (a6n.l.map i64).toArray t frozen
      | o=>o }
def b5Q:List (String×DataW Unit) := [("macaroon/sha.k", Rows.laid_macaroon_sha_k),("macaroon/predicate.bits", Rows.laid_macaroon_predicate_bits)]
set_option maxRecDepth 100000 in
theorem c3x (os:Os) (args:Array Value):laidMet prog b5Q ((b9v os).forCall (fun _ _=>0) ⟨#[],args,[]⟩).memory :=
 laidMet_of_run' 8 (by kernel_rfl) (by kernel_rfl)
set_option maxRecDepth 100000 in
theorem c3y:b5Q.filter (fun x=>x.1 == "macaroon/sha.k") = [("macaroon/sha.k", Rows.laid_macaroon_sha_k)]:=by kernel_rfl
set_option maxRecDepth 100000 in
theorem c3z:b5Q.filter (fun x=>x.1 == "macaroon/predicate.bits") = [("macaroon/predicate.bits", Rows.laid_macaroon_predicate_bits)]:=by kernel_rfl
set_option maxRecDepth 100000 in
theorem c0W {W:World} (h:laidMet prog b5Q W):gl.p (a56 W):=by
 have h1:=h.filter fun x=>x.1 == "macaroon/sha.k"
 have h2:=h.filter fun x=>x.1 == "macaroon/predicate.bits"
 rw [c3y] at h1
 rw [c3z] at h2
 exact⟨b4K (l:=kk) (T:=276) (E:=248) (by kernel_rfl) (by kernel_rfl) underlying276 underlying248 (by kernel_rfl) (by decide) a8 h1,
  b6Y (l:=a6n.l) (T:=190) (E:=3) (by kernel_rfl) (by kernel_rfl) underlying190 underlying3 (by kernel_rfl) (by decide) rfl h2⟩
theorem op3:K9 prog 3 Int := .i64 underlying3 (by kernel_rfl)
theorem c4v:K9 prog 23 u6 := .struct u6.f (fun b=>⟨b.1,b.2.1⟩) (fun _=>rfl) underlying23 (by kernel_rfl) (.cons rfl op3 (.cons rfl op3 .nil))
theorem op4:K9 prog 4 Bool := .bool underlying4 (by kernel_rfl)
theorem c4w:K9 prog 77 UInt64 := .u64 underlying77 (by kernel_rfl)
theorem op9:K9 prog 9 Str := .str underlying9 (by kernel_rfl)
theorem c3A:K9 prog 97 j3 := .struct j3.f (fun b=>⟨b.1,b.2.1,b.2.2.1,b.2.2.2.1,b.2.2.2.2.1,b.2.2.2.2.2.1⟩) (fun _=>rfl) underlying97 (by kernel_rfl) (.cons rfl op3 (.cons rfl c4w (.cons rfl op3 (.cons rfl op3 (.cons rfl op9 (.cons rfl op3 .nil))))))
theorem op5:K9 prog 5 UInt8 := .u8 underlying5 (by kernel_rfl)
theorem c2q:K9 prog 86 (List UInt8) := .slice underlying86 (by kernel_rfl) op5 (by decide)
theorem c4x:K9 prog 99 m9 := .struct m9.f (fun b=>⟨b.1,b.2.1,b.2.2.1,b.2.2.2.1,b.2.2.2.2.1⟩) (fun _=>rfl) underlying99 (by kernel_rfl) (.cons rfl op4 (.cons rfl c3A (.cons rfl op3 (.cons rfl c2q (.cons rfl c2q .nil)))))
theorem c4y:K9 prog 24 (List m9) := .slice underlying24 (by kernel_rfl) c4x (by decide)
theorem c0X:K9 prog 26 (I7 32 UInt8) := .array underlying26 (by kernel_rfl) op5
theorem c4z:K9 prog 83 (List j3) := .slice underlying83 (by kernel_rfl) c3A (by decide)
theorem c4A:K9 prog 88 p8 := .struct p8.f (fun b=>⟨b.1,b.2.1,b.2.2.1⟩) (fun _=>rfl) underlying88 (by kernel_rfl) (.cons rfl c2q (.cons rfl c4z (.cons rfl c0X .nil)))
theorem c4B:K9 prog 27 (List p8) := .slice underlying27 (by kernel_rfl) c4A (by decide)
theorem c4C:K9 prog 29 p9 := .struct p9.f (fun b=>⟨b.1,b.2.1,b.2.2.1,b.2.2.2.1,b.2.2.2.2.1,b.2.2.2.2.2.1⟩) (fun _=>rfl) underlying29 (by kernel_rfl) (.cons rfl c4v (.cons rfl op3 (.cons rfl op3 (.cons rfl c4y (.cons rfl c0X (.cons rfl c4B .nil))))))
theorem c4D:K9 prog 66 u4 := .struct u4.f (fun b=>⟨b.1,b.2.1⟩) (fun _=>rfl) underlying66 (by kernel_rfl) (.cons rfl op3 (.cons rfl c0X .nil))
theorem c4E:K9 prog 30 (List u4) := .slice underlying30 (by kernel_rfl) c4D (by decide)
theorem c4F:K9 prog 32 C4 := .struct C4.f (fun b=>⟨b.1,b.2.1⟩) (fun _=>rfl) underlying32 (by kernel_rfl) (.cons rfl c4E (.cons rfl op3 .nil))
theorem c3B:K9 prog 33 (List Int) := .slice underlying33 (by kernel_rfl) op3 (by decide)
end Go.Proofs.YtmmclghiidoldaaGreatDoor
