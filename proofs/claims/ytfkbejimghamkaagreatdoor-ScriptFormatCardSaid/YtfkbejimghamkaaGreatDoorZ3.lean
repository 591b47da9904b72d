/- Plain Lean over any program, and walks of this seat's functions: contracts, each proved once (part 3). -/
import Derived.Test.YtfkbejimghamkaaGreatDoorZ2
set_option maxRecDepth 1000000
set_option synthInstance.maxSize 1000000
set_option synthInstance.maxHeartbeats 10000000
set_option linter.unusedVariables false
set_option linter.unusedSimpArgs false
namespace Go.Proofs.YtfkbejimghamkaaGreatDoor
open Go.Proofs.Tryz
open Go.Fl Go.Ab Go.Mac Go.Sha
def a4l (l:List Fld) (s:Step):Step:=l.foldl (fun s f=>f.lens.set 0 s) s
theorem a74 (l:List Fld) (s:Step) (j:Nat) (h:j < l.length):a4l (l.take (j+1)) s=(l[j].lens).set 0 (a4l (l.take j) s):=by unfold a4l;rw [List.take_succ_eq_append_getElem h,List.foldl_append];rfl
theorem Q6 (b:Nat) (l:List Fld):(a0h b l).length=l.length:=by simp [a0h]
theorem a0p (k:Int):(C3 k).length≤5:=by
 unfold C3
 repeat' split
 all_goals simp
def a19 (s:Step):Step :=
 let t:=a4l (C3 s.Kind) s
 let u:Step:=if kpr s.Kind=true then { t with l9 := [] } else t
 if khl s.Kind=true then (G4 u).set ⟨[]⟩ u else u
def D4 (t:Step):Bool:=decide (t.A≠0)||decide (t.B≠0)||decide (t.N≠0)||decide ((t.l9.length:Int)>0)||decide (t.T5≠default)||decide (t.F6≠⟨[]⟩)||decide (t.Context≠default)
def B2 (s:Step):Bool:=D4 (a19 s)
theorem b1O (f:j5) (s:Step) (hf:a71 f (C3 s.Kind)) (hp:f.M0=kpr s.Kind) (hh:f.a0r=khl s.Kind):y6 gl prog 67 [.v f,.v s] (fun r=>r = .v (B2 s)):=by
 obtain⟨fn,hn,hnum⟩:=hf.num
 refine y6.jn func67 (by kernel_rfl) 61 rfl fun C hC hG => ?_
 refine .q 3 hG fun b2 => ?_
 refine .q 1 hG fun b3 => ?_
 refine .q 7 hG ?_
 refine .h (.a4g hG (by rw [←hn];exact .t rfl) (hnum _ _) .z (.cons (.t a8) .nil) (by rintro _ _ ⟨_,rfl⟩;exact⟨_,rfl⟩) fun r9 B9 hr9 => ?_)
 obtain⟨rfl,hB⟩:=hr9
 cases hB
 refine .p (.len underlying87 (.t a8) (.p (.move (.i a8) ?_)))
 refine .q 2 hG ?_
 refine .C2 (α:=Nat) [(2,_),(3,_),(9,_),(10,_)] (fun j R=>(11,.v (j:Int))::R) (fun j => [(true,.ob (ptr b3 0) (a4l ((C3 s.Kind).take j) s)),(true,.ob (ptr b2 0) f)]) (fun j=>j≤(C3 s.Kind).length) (fun j=>(C3 s.Kind).length - j) (0) (.c2 a8 a8 (.c2 a8 a8 (.nil _))) ?_ (.c2 a8 a8 (.c2 a8 a8 (.cons a8 (.nil _)))) (a8) fun j hF => ?_
 ·simp
 refine .q 6 hG ⟨fun hc12 => ?_,fun hc12 => ?_⟩
 ·refine .q 4 hG ?_
  rw [Q6] at hc12
  have hj:j < (C3 s.Kind).length:=by omega
  have hk5:=a0p s.Kind
  have hpl:=Q6 b3 (C3 s.Kind)
  refine .q 1 hG ?_
  refine .p (.idx a1L underlying87 (.t a8) (.t a8) (by first|omega|(simp;done)|(simp;omega)|(simp at *;omega)) (by first|omega|(simp;done)|(simp;omega)|(simp at *;omega)) (.p (.F1 a1L (.t a8) (.ag a8 ?_))))
  refine .q 2 hG ?_
  refine .mv a8 (.p (.a0J (((C3 s.Kind)[j]'(by assumption)).lens) (.t a8) (by simp [a0h]) (.n (.stL A3 (.t a8) (.i a8) .z ?_))))
  rw [←a74 _ _ _ hj]
  refine .q 2 hG ?_
  refine .ad (by first|omega|(simp;done)|(simp;omega)|(simp at *;omega)) (by first|omega|(simp;done)|(simp;omega)|(simp at *;omega)) ?_
  refine .q 2 hG ?_
  refine⟨j+1,.c2 rfl rfl (.c2 rfl rfl (.cons rfl (.nil _))),rfl,?_,by omega⟩
  omega
 ·refine .q 3 hG ?_
  obtain rfl:j=(C3 s.Kind).length:=by rw [Q6] at hc12;omega
  rw [List.take_length]
  refine .q 4 hG ?_
  refine .cond (.t a8) (fun hc19 => ?_) (fun hc19 => ?_)
  ·refine .q 2 hG ?_
   refine .n (.K3 (fun y x => { x with l9:=y }) b1D (.t a8) .a2O .z (fun _ _=>a8) ?_)
   refine .q 7 hG ?_
   refine .cond (.t a8) (fun hc22 => ?_) (fun hc22 => ?_)
   ·refine .q 1 hG ?_
    refine .km hG (a04 _ _) .z (by rintro _ _ ⟨_,rfl⟩;exact⟨_,rfl⟩) fun r23 B23 hr23 => ?_
    obtain⟨rfl,hB⟩:=hr23
    cases hB
    refine .q 1 hG ?_
    refine .n (.stL ty9 (.t a8) (.s [] (by decide) (by decide)) .z ?_)
    refine .q 25 hG ?_
    refine .go 44 a8 (.t a8) (fun hg47 => .bS0 (α:=o9) a8 a5X a7w a8) (.go 44 a8 (.t a8) (fun hg48 => .a5Y a6E (by decide) a8 (by kernel_rfl) (.q a8 hg48) (.q a8 hg48) a8) ?_)
    refine .q 9 hG ?_
    refine .go 55 a8 (.t a8) (fun hg58 => .bS0 (α:=j8) a8 W8 a5z a8) (.go 55 a8 (.t a8) (fun hg59 => .a5Y a6F (by decide) a8 (by kernel_rfl) (.q a8 hg59) (.q a8 hg59) a8) ?_)
    refine .q 4 hG ?_
    refine .e1 a8 a8 ?_
    unfold B2 D4 a19;rw [←hp,←hh,hc19,hc22];rfl
   ·refine .q 25 hG ?_
    refine .go 44 a8 (.t a8) (fun hg47 => .bS0 (α:=o9) a8 a5X a7w a8) (.go 44 a8 (.t a8) (fun hg48 => .a5Y a6E (by decide) a8 (by kernel_rfl) (.q a8 hg48) (.q a8 hg48) a8) ?_)
    refine .q 9 hG ?_
    refine .go 55 a8 (.t a8) (fun hg58 => .bS0 (α:=j8) a8 W8 a5z a8) (.go 55 a8 (.t a8) (fun hg59 => .a5Y a6F (by decide) a8 (by kernel_rfl) (.q a8 hg59) (.q a8 hg59) a8) ?_)
    refine .q 4 hG ?_
    refine .e1 a8 a8 ?_
    unfold B2 D4 a19;rw [←hp,←hh,hc19,hc22];rfl
  ·refine .q 7 hG ?_
   refine .cond (.t a8) (fun hc22 => ?_) (fun hc22 => ?_)
   ·refine .q 1 hG ?_
    refine .km hG (a04 _ _) .z (by rintro _ _ ⟨_,rfl⟩;exact⟨_,rfl⟩) fun r23 B23 hr23 => ?_
    obtain⟨rfl,hB⟩:=hr23
    cases hB
    refine .q 1 hG ?_
    refine .n (.stL ty9 (.t a8) (.s [] (by decide) (by decide)) .z ?_)
    refine .q 25 hG ?_
    refine .go 44 a8 (.t a8) (fun hg47 => .bS0 (α:=o9) a8 a5X a7w a8) (.go 44 a8 (.t a8) (fun hg48 => .a5Y a6E (by decide) a8 (by kernel_rfl) (.q a8 hg48) (.q a8 hg48) a8) ?_)
    refine .q 9 hG ?_
    refine .go 55 a8 (.t a8) (fun hg58 => .bS0 (α:=j8) a8 W8 a5z a8) (.go 55 a8 (.t a8) (fun hg59 => .a5Y a6F (by decide) a8 (by kernel_rfl) (.q a8 hg59) (.q a8 hg59) a8) ?_)
    refine .q 4 hG ?_
    refine .e1 a8 a8 ?_
    unfold B2 D4 a19;rw [←hp,←hh,hc19,hc22];rfl
   ·refine .q 25 hG ?_
    refine .go 44 a8 (.t a8) (fun hg47 => .bS0 (α:=o9) a8 a5X a7w a8) (.go 44 a8 (.t a8) (fun hg48 => .a5Y a6E (by decide) a8 (by kernel_rfl) (.q a8 hg48) (.q a8 hg48) a8) ?_)
    refine .q 9 hG ?_
    refine .go 55 a8 (.t a8) (fun hg58 => .bS0 (α:=j8) a8 W8 a5z a8) (.go 55 a8 (.t a8) (fun hg59 => .a5Y a6F (by decide) a8 (by kernel_rfl) (.q a8 hg59) (.q a8 hg59) a8) ?_)
    refine .q 4 hG ?_
    refine .e1 a8 a8 ?_
    unfold B2 D4 a19;rw [←hp,←hh,hc19,hc22];rfl
theorem a8S {α:Type} (l:List α) (p:α→Bool):decide (0≤idx l p)=l.any p:=by
 rcases Bool.eq_false_or_eq_true (l.any p) with h|h
 ·rw [h]
  rw [List.any_eq_true] at h
  obtain⟨x,hx,hp⟩:=h
  have h2:=List.findIdx_lt_length_of_exists ⟨x,hx,hp⟩
  unfold idx;rw [if_pos h2];simp
 ·rw [h]
  rw [List.any_eq_false] at h
  rw [a4a fun j hj=>by simpa using h _ (List.getElem_mem hj)];rfl
theorem a6R (l:List Pred) (p:Pred→Bool):y6 gl prog 85 [.v l,.a9j prog p] (fun r=>r = .v (idx l p)):=by
 refine y6.jn func85 (by kernel_rfl) 19 rfl fun C hC hG => ?_
 refine .q 6 hG ?_
 refine .a2m 0 a8 fun hl0 => ?_
 refine .q 6 hG ?_
 refine .C2 (α:=Nat) [(0,_),(1,_),(7,_)] (fun k R=>(8,.v (k:Int))::R) (fun k => []) (fun k=>k≤l.length∧∀ j (hj:j < l.length),j < k→p l[j]=false) (fun k=>l.length - k) (0) (.c2 a8 a8 (.cons a8 (.nil _))) ?_ (.c2 a8 a8 (.c2 a8 a8 (.nil _))) (a8) fun k hF => ?_
 ·simp
 obtain⟨h1,h2⟩:=hF
 refine .q 6 hG ⟨fun hc9 => ?_,fun hc9 => ?_⟩
 ·refine .q 13 hG ?_
  refine .ix (by first|omega|(simp;done)|(simp;omega)|(simp at *;omega)) (by first|omega|(simp;done)|(simp;omega)|(simp at *;omega)) ?_
  refine .q 1 hG ?_
  refine .p (.a6B a8 (.t a8) ?_)
  refine .q 1 hG ?_
  refine .cond (.t a8) (fun hc16 => ?_) (fun hc16 => ?_)
  ·refine .q 6 hG ?_
   refine .e1 a8 a8 ?_
   rw [a7P (by omega) (by simpa using hc16) h2]
  ·refine .q 2 hG ?_
   refine .ad (by first|omega|(simp;done)|(simp;omega)|(simp at *;omega)) (by first|omega|(simp;done)|(simp;omega)|(simp at *;omega)) ?_
   refine .q 2 hG ?_
   refine⟨k+1,.c2 rfl rfl (.c2 rfl rfl (.nil _)),rfl,?_,by omega⟩
   refine⟨by omega,fun j hj hjk => ?_⟩;rcases Nat.lt_or_ge j k with h|h;exact h2 j hj h;(obtain rfl:j=k:=by omega);simpa using hc16
 ·refine .q 3 hG ?_
  refine .p (.assign (.i a8) ?_)
  refine .q 2 hG ?_
  refine .e1 a8 a8 ?_
  rw [a4a fun j hj=>h2 j hj (by omega)]
theorem a4m (l:List Pred) (p:Pred→Bool):y6 gl prog 68 [.v l,.a9j prog p] (fun r=>r = .v (l.any p)):=by
 refine y6.jn func68 (by kernel_rfl) 9 rfl fun C hC hG => ?_
 refine .q 8 hG ?_
 refine .p (.A4 hG (a6R _ _) (.cons (.t a8) (.cons (.t a8) .nil)) ?_)
 refine .q 4 hG ?_
 refine .e1 a8 a8 ?_
 rw [a8S]
theorem a6S (s:u0):p8 ⟨6,0,0,0,s,0⟩=u7 s:=by unfold p8;simp
theorem b1P (s:u0):y6 gl prog 71 [.v s] (fun r=>r = .v (u7 s)):=by
 refine y6.jn func71 (by kernel_rfl) 6 rfl fun C hC hG => ?_
 refine .q 7 hG ?_
 refine .p (.bS2 j3.l0 j3.l4 a8 E6 a0B (fun c0 c4=>(⟨c0,0,0,0,c4,0⟩:j3)) (fun _ _=>a8) a8 a8 a8 (.i a8) (.t a8) ?_)
 refine .k hG (a1p _) ?_
 refine .q 3 hG ?_
 refine .e1 a8 a8 ?_
 exact congrArg AV.v (a6S s)
theorem a9r (p:Pred):y6 gl prog 69 [.v p] (fun r=>r = .v (!p8 p)):=by
 refine y6.jn func69 (by kernel_rfl) 6 rfl fun C hC hG => ?_
 refine .q 3 hG fun b1 => ?_
 refine .q 5 hG ?_
 refine .k hG (a1p _) ?_
 refine .q 4 hG ?_
 refine .e1 a8 a8 ?_
 rfl
def M9 (n:Int):Bool:=decide (n < -281474976710656)||decide (n>281474976710656)
def o8 (s:Step):Int :=
 if B2 s=true then 9 else if ((C3 s.Kind).any fun f=>M9 (f.lens.get s))=true then 1 else if (s.l9.any fun p => !p8 p)=true then 5 else if (khl s.Kind && !u7 ((G4 s).get s))=true then 7 else 0
theorem b1Q (f:j5) (s:Step) (hf:a71 f (C3 s.Kind)) (hp:f.M0=kpr s.Kind) (hh:f.a0r=khl s.Kind):y6 gl prog 33 [.v f,.v s] (fun r=>r = .v (o8 s)):=by
 obtain⟨fn,hn,hnum⟩:=hf.num
 refine y6.jn func33 (by kernel_rfl) 41 rfl fun C hC hG => ?_
 refine .q 3 hG fun b2 => ?_
 refine .q 1 hG fun b3 => ?_
 refine .q 7 hG ?_
 refine .p (.A4 hG (b1O f s hf hp hh) (.cons (.t a8) (.cons (.t a8) .nil)) ?_)
 refine .q 1 hG ?_
 refine .cond (.t a8) (fun hc9 => ?_) (fun hc9 => ?_)
 ·refine .q 5 hG ?_
  refine .e1 a8 a8 ?_
  show AV.v (9:Int)=_;unfold o8;rw [if_pos hc9]
 ·refine .q 6 hG ?_
  refine .h (.a4g hG (by rw [←hn];exact .t rfl) (hnum _ _) .z (.cons (.t a8) .nil) (by rintro _ _ ⟨_,rfl⟩;exact⟨_,rfl⟩) fun r12 B12 hr12 => ?_)
  obtain⟨rfl,hB⟩:=hr12
  cases hB
  refine .p (.len underlying87 (.t a8) (.p (.move (.i a8) ?_)))
  refine .q 2 hG ?_
  refine .C2 (α:=Nat) [(2,_),(3,_),(12,_),(13,_)] (fun j R=>(14,.v (j:Int))::R) (fun j => [(true,.ob (ptr b3 0) s),(true,.ob (ptr b2 0) f)]) (fun j=>j≤(C3 s.Kind).length∧∀ i (h:i < (C3 s.Kind).length),i < j→M9 ((C3 s.Kind)[i].lens.get s)=false) (fun j=>(C3 s.Kind).length - j) (0) (.c2 a8 a8 (.c2 a8 a8 (.nil _))) ?_ (.c2 a8 a8 (.c2 a8 a8 (.cons a8 (.nil _)))) (a8) fun j hF => ?_
  ·simp
  obtain⟨h1,h2⟩:=hF
  refine .q 6 hG ⟨fun hc15 => ?_,fun hc15 => ?_⟩
  ·refine .q 4 hG ?_
   rw [Q6] at hc15
   have hj:j < (C3 s.Kind).length:=by omega
   have hk5:=a0p s.Kind
   have hpl:=Q6 b3 (C3 s.Kind)
   refine .q 1 hG ?_
   refine .p (.idx a1L underlying87 (.t a8) (.t a8) (by first|omega|(simp;done)|(simp;omega)|(simp at *;omega)) (by first|omega|(simp;done)|(simp;omega)|(simp at *;omega)) (.p (.F1 a1L (.t a8) (.ag a8 ?_))))
   refine .q 3 hG ?_
   refine .mv a8 (.p (.a0J (((C3 s.Kind)[j]'(by assumption)).lens) (.t a8) (by simp [a0h]) (.p (.ldL A3 (.t a8) .z (.p (.lss (.t a8) (.i a8) (.mv a8 (.go 22 a8 (.t a8) (fun hg23 => .move (.t a8) a8) (.go 22 a8 (.t a8) (fun hg24 => .a0J (((C3 s.Kind)[j]'(by assumption)).lens) (.q a8 hg24) (by simp [a0h]) a8) (.go 22 a8 (.t a8) (fun hg25 => .ldL A3 (.q a8 hg25) .z a8) ?_))))))))))
   refine .q 3 hG ?_
   refine .cond (.t a8) (fun hc27 => ?_) (fun hc27 => ?_)
   ·refine .q 5 hG ?_
    refine .e1 a8 a8 ?_
    have e1:((C3 s.Kind).any fun f=>M9 (f.lens.get s))=true:=List.any_eq_true.2 ⟨_,List.getElem_mem hj,hc27⟩
    show AV.v (1:Int)=_;unfold o8;rw [if_neg (by rw [hc9];decide),if_pos e1]
   ·refine .q 2 hG ?_
    refine .ad (by first|omega|(simp;done)|(simp;omega)|(simp at *;omega)) (by first|omega|(simp;done)|(simp;omega)|(simp at *;omega)) ?_
    refine .q 2 hG ?_
    refine⟨j+1,.c2 rfl rfl (.c2 rfl rfl (.cons rfl (.nil _))),rfl,?_,by omega⟩
    refine⟨by omega,fun i hi hij => ?_⟩;rcases Nat.lt_or_ge i j with h|h;exact h2 i hi h;(obtain rfl:i=j:=by omega);exact hc27
  ·refine .q 3 hG ?_
   have e1:((C3 s.Kind).any fun f=>M9 (f.lens.get s))=false:=List.any_eq_false.2 fun x hx=>by obtain⟨i,hi,rfl⟩:=List.getElem_of_mem hx;rw [h2 i hi (by rw [Q6] at hc15;omega)];decide
   refine .q 3 hG ?_
   refine .p (.A4 hG (a4m _ _) (.cons (.t a8) (.cons (.b4x hG (a9r)) .nil)) ?_)
   refine .q 1 hG ?_
   refine .cond (.t a8) (fun hc31 => ?_) (fun hc31 => ?_)
   ·refine .q 5 hG ?_
    refine .e1 a8 a8 ?_
    show AV.v (5:Int)=_;unfold o8;rw [if_neg (by rw [hc9];decide),if_neg (by rw [e1];decide),if_pos hc31]
   ·refine .q 7 hG ?_
    refine .goH 34 rfl (.t rfl) (fun hg35=>A9.H9 hG (a04 _ _) .z (.cons (.t rfl) .nil) (by rintro _ _ ⟨_,rfl⟩;exact⟨_,rfl⟩) fun r35 B35 hr35=>⟨hr35.1,by obtain⟨_,hB⟩:=hr35;cases hB;rfl⟩) ?_
    refine .q 1 hG ?_
    refine .go 34 a8 (.t a8) (fun hg37 => .ldL ty9 (.q a8 hg37) .z a8) ?_
    refine .kg hG (b1P _) ?_
    refine .q 3 hG ?_
    refine .cond (.t a8) (fun hc40 => ?_) (fun hc40 => ?_)
    ·refine .q 5 hG ?_
     refine .e1 a8 a8 ?_
     show AV.v (7:Int)=_;unfold o8;rw [if_neg (by rw [hc9];decide),if_neg (by rw [e1];decide),if_neg (by rw [hc31];decide),if_pos (by rw [←hh];exact hc40)]
    ·refine .q 6 hG ?_
     refine .e1 a8 a8 ?_
     show AV.v (0:Int)=_;unfold o8;rw [if_neg (by rw [hc9];decide),if_neg (by rw [e1];decide),if_neg (by rw [hc31];decide),if_neg (by rw [←hh,hc40];decide)]
theorem a6T (s sep:u0) (h1:1≤sep.l.length) (hs:s.l.length≤1000000):y6 gl prog 47 [.v s,.v sep] (fun r=>r = .vc ((Lib.split s.l sep.l).map u0.mk)) :=
 a6Q b0F ⟨_,func47,by kernel_rfl,rfl⟩ (fun I (h:GlP I)=>h.maxLen) s sep h1 (by omega)
theorem a4n (ls:List u0) (sep:u0) (hn:ls.length≤1000000) (hl:(Lib.join (ls.map u0.l) sep.l).length≤1000000):y6 gl prog 37 [.v ls,.v sep] (fun r=>r = .v (u0.mk (Lib.join (ls.map u0.l) sep.l))) :=
 a73 b0G a6N ⟨_,func37,by kernel_rfl,rfl⟩ ls sep (by omega) (by omega)
theorem a77 (n:Int) (h0 : -1000000000000000 < n) (h1:n < 1000000000000000):y6 gl prog 34 [.v n] (fun r=>r = .v (u0.mk (Lib.itoa n))) :=
 b1N b0H ⟨_,func34,by kernel_rfl,rfl⟩ b0n n h0 h1
def G8 (w:List UInt8) (l:List Int):List UInt8:=l.foldl (fun t n=>t++(32::Lib.itoa n)) w
theorem a06 (w:List UInt8) (l:List Int) (j:Nat) (h:j < l.length):G8 w (l.take (j+1))=G8 w (l.take j)++(32::Lib.itoa l[j]):=by unfold G8;rw [List.take_succ_eq_append_getElem h,List.foldl_append];rfl
def p9 (s:Step):List Int:=(C3 s.Kind).map fun f=>f.lens.get s
def P7 (s:Step):List (List UInt8):=G8 (U4.getD s.Kind.toNat []) (p9 s)::(s.l9.map D3++if khl s.Kind=true then [((G4 s).get s).l] else [])
def L7 (s:Step):List UInt8:=Lib.join (P7 s) [59,32]
def D0 (s:Step):u0×Int:=if s.Kind < 1∨23≤s.Kind then (⟨[]⟩,6) else if o8 s≠0 then (⟨[]⟩,o8 s) else (⟨L7 s⟩,0)
theorem a1H (w:List UInt8) (l:List Int) (h:∀ n∈l,M9 n=false) (j:Nat) (hj:j≤l.length):(G8 w (l.take j)).length≤w.length+17*j:=by
 induction j with
 | zero=>simp [G8]
 | succ j ih =>
  rw [a06 w l j (by omega)]
  have h1:=ih (by omega)
  have h2:=h _ (List.getElem_mem (show j < l.length by omega))
  unfold M9 at h2
  simp only [Bool.or_eq_false_iff,decide_eq_false_iff_not] at h2
  have h3:=a2w (n:=l[j]) (by omega) (by omega)
  simp;omega
theorem a6b (k:Nat):(U4.getD k []).length≤9:=by
 rcases Nat.lt_or_ge k U4.length with h|h
 ·rw [List.getD_eq_getElem?_getD,List.getElem?_eq_getElem h]
  have:∀ x∈U4,x.length≤9:=by decide
  exact this _ (List.getElem_mem h)
 ·rw [List.getD_eq_getElem?_getD,List.getElem?_eq_none h];simp
theorem join_le (sep:List UInt8) (hs:sep.length≤2) (m:Nat):∀ l:List (List UInt8),(∀ x∈l,x.length≤m)→(Lib.join l sep).length≤(m+2)*l.length
 | [],_=>by simp [Lib.join_nil]
 | x::r,h=>by
  have h0:=h x (by simp)
  rw [Lib.join_cons]
  have:∀ r:List (List UInt8),(∀ x∈r,x.length≤m)→(Lib.joinTail sep r).length≤(m+2)*r.length:=by
   intro r
   induction r with
   | nil=>simp [Lib.joinTail]
   | cons y r ih =>
    intro h
    have h1:=h y (by simp)
    have h2:=ih fun x hx=>h x (by simp [hx])
    have e:Lib.joinTail sep (y::r)=(sep++y)++Lib.joinTail sep r:=by simp [Lib.joinTail]
    rw [e,List.length_append,List.length_append,List.length_cons,Nat.mul_succ];omega
  have h1:=this r fun x hx=>h x (by simp [hx])
  rw [List.length_append,List.length_cons,Nat.mul_succ];omega
structure a2a (s:Step):Prop where
 full:B2 s=false
 num:∀ n∈p9 s,M9 n=false
 pred:∀ p∈s.l9,p8 p=true
 name:khl s.Kind=true→u7 ((G4 s).get s)=true
theorem V6 {s:Step} (h:o8 s=0):a2a s:=by
 unfold o8 at h
 split at h
 ·cases h
 split at h
 ·cases h
 split at h
 ·cases h
 split at h
 ·cases h
 rename_i h1 h2 h3 h4
 refine⟨by simpa using h1,fun n hn => ?_,fun p hp => ?_,fun hk => ?_⟩
 ·obtain⟨f,hf,rfl⟩:=List.mem_map.1 hn
  cases hfar:M9 (f.lens.get s) with
  | false=>rfl
  | true=>exact absurd (List.any_eq_true.2 ⟨f,hf,hfar⟩) h2
 ·cases hp2:p8 p with
  | true=>rfl
  | false=>exact absurd (List.any_eq_true.2 ⟨p,hp,by rw [hp2];rfl⟩) h3
 ·rw [hk] at h4
  simpa using h4
theorem a2x {s:Step} (h:a2a s) (hl:s.l9.length≤4000):(L7 s).length≤1000000:=by
 have h1:(P7 s).length≤4002:=by unfold P7;split<;>simp<;>omega
 have h2:∀ x∈P7 s,x.length≤200:=fun x hx=>by
  unfold P7 at hx
  rcases List.mem_cons.1 hx with rfl|hx
  ·have h3:=a1H (U4.getD s.Kind.toNat []) (p9 s) h.num (p9 s).length (Nat.le_refl _)
   rw [List.take_length] at h3
   have h4:=a0p s.Kind
   have h5:=a6b s.Kind.toNat
   have h6:(p9 s).length=(C3 s.Kind).length:=by simp [p9]
   omega
  ·rcases List.mem_append.1 hx with hx|hx
   ·obtain⟨p,hp,rfl⟩:=List.mem_map.1 hx
    exact I2 (h.pred p hp)
   ·split at hx
    ·rename_i hk
     have:=h.name hk
     rw [List.mem_singleton.1 hx]
     unfold u7 at this
     simp at this;omega
    ·cases hx
 have h3:=join_le [59,32] (by decide) 200 (P7 s) h2
 have:(200+2)*(P7 s).length≤202*4002:=Nat.mul_le_mul_left 202 h1
 unfold L7;omega
theorem a78 (s:Step) (hl:s.l9.length≤4000):y6 gl prog 17 [.v s] (fun r=>r = .t2 (.v (D0 s).1) (.v (D0 s).2)):=by
 refine y6.jn func17 (by kernel_rfl) 84 rfl fun C hC hG => ?_
 refine .q 3 hG fun b1 => ?_
 refine .q 5 hG ?_
 refine .k hG (a8Q.toV) ?_
 refine .q 16 hG ?_
 refine .cond (.t a8) (fun hc25 => ?_) (fun hc25 => ?_)
 ·refine .q 6 hG ?_
  refine .e2 a8 a8 a8 ?_
  show AV.t2 (.v (u0.mk [])) (.v (6:Int))=_;unfold D0;rw [if_pos (by simp [K9] at hc25;omega)]
 ·refine .q 2 hG ?_
  have hfl:K9.length=23:=rfl
  have hk:1≤s.Kind∧s.Kind < 23:=(by simp [K9] at hc25;omega)
  obtain⟨hf,hw,hp,hh⟩:=a57 s.Kind.toNat (by omega) (by show _ < 23;omega)
  rw [Int.toNat_of_nonneg (by omega)] at hf hp hh
  obtain⟨fn,hn,hnum⟩:=hf.num
  refine .q 4 hG ?_
  refine .ix (by first|omega|(simp;done)|(simp;omega)|(simp at *;omega)) (by first|omega|(simp;done)|(simp;omega)|(simp at *;omega)) ?_
  refine .q 2 hG fun b5 => ?_
  refine .q 1 hG ?_
  generalize hfe:K9[s.Kind.toNat]=f at hf hw hp hh hn ⊢
  refine .q 6 hG ?_
  refine .p (.A4 hG (b1Q f s hf hp hh) (.cons (.t a8) (.cons (.t a8) .nil)) ?_)
  refine .q 8 hG ⟨fun hc35 => ?_,fun hc35 => ?_⟩
  ·refine .q 7 hG ?_
   refine .e2 a8 a8 a8 ?_
   show AV.t2 (.v (u0.mk [])) (.v (o8 s))=_;unfold D0;rw [if_neg (by omega),if_pos (by simpa using hc35)]
  ·refine .q 2 hG ?_
   have hok:=V6 (s:=s) (by simpa using hc35)
   have hw9:f.word.l.length≤9:=(by rw [hw];exact a6b _)
   refine .q 10 hG ?_
   refine .h (.a4g hG (by rw [←hn];exact .t rfl) (hnum _ _) .z1 (.cons (.t a8) .nil) (by rintro _ _ ⟨_,rfl⟩;exact⟨_,rfl⟩) fun r41 B41 hr41 => ?_)
   obtain⟨rfl,hB⟩:=hr41
   cases hB
   refine .p (.len underlying87 (.t a8) (.p (.move (.i a8) ?_)))
   refine .q 2 hG ?_
   refine .C2 (α:=Nat) [(1,_),(5,_),(41,_),(42,_)] (fun j R=>(7,.v (u0.mk (G8 f.word.l ((p9 s).take j))))::(43,.v (j:Int))::R) (fun j => [(true,.ob (ptr b5 0) f),(true,.ob (ptr b1 0) s)]) (fun j=>j≤(C3 s.Kind).length) (fun j=>(C3 s.Kind).length - j) (0) (.c2 a8 a8 (.c2 a8 a8 (.nil _))) ?_ (.c2 a8 a8 (.c2 a8 a8 (.c2 a8 a8 (.nil _)))) (a8) fun j hF => ?_
   ·simp
   refine .q 6 hG ⟨fun hc44 => ?_,fun hc44 => ?_⟩
   ·refine .q 4 hG ?_
    rw [Q6] at hc44
    have hj:j < (C3 s.Kind).length:=by omega
    have hk5:=a0p s.Kind
    have hpl:=Q6 b1 (C3 s.Kind)
    have hvl:(p9 s).length=(C3 s.Kind).length:=(by simp [p9])
    have hnl:=a1H f.word.l (p9 s) hok.num j (by omega)
    have hfr:=hok.num _ (List.getElem_mem (show j < (p9 s).length by omega))
    have hve:(p9 s)[j]'(by omega)=((C3 s.Kind)[j]).lens.get s:=(by simp [p9])
    rw [hve] at hfr
    unfold M9 at hfr
    simp only [Bool.or_eq_false_iff,decide_eq_false_iff_not] at hfr
    have hil:=a2w (n:=((C3 s.Kind)[j]).lens.get s) (by omega) (by omega)
    refine .q 1 hG ?_
    refine .p (.idx a1L underlying87 (.t a8) (.t a8) (by first|omega|(simp;done)|(simp;omega)|(simp at *;omega)) (by first|omega|(simp;done)|(simp;omega)|(simp at *;omega)) (.p (.F1 a1L (.t a8) (.ag a8 ?_))))
    refine .q 2 hG ?_
    refine .mv a8 (.mv a8 (.p (.a0J (((C3 s.Kind)[j]'(by assumption)).lens) (.t a8) (by simp [a0h]) (.p (.ldL A3 (.t a8) .z1 ?_)))))
    refine .k hG (a77 _ (by omega) (by omega)) (.p (.D8 (.s [32] (by decide) (by decide)) (.t a8) (by first|omega|(simp;done)|(simp;omega)|(simp at *;omega)) (.p (.D8 (.t a8) (.t a8) (by first|omega|(simp;done)|(simp;omega)|(simp at *;omega)) ?_))))
    refine .q 1 hG ?_
    rw [show u0.mk ((u0.mk (G8 f.word.l ((p9 s).take j))).l++(u0.mk ((u0.mk [32]).l++(u0.mk (Lib.itoa (((C3 s.Kind)[j]).lens.get s))).l)).l)=u0.mk (G8 f.word.l ((p9 s).take (j+1))) from by rw [a06 _ _ _ (by omega),hve];rfl]
    refine .q 2 hG ?_
    refine .ad (by first|omega|(simp;done)|(simp;omega)|(simp at *;omega)) (by first|omega|(simp;done)|(simp;omega)|(simp at *;omega)) ?_
    refine .q 2 hG ?_
    refine⟨j+1,.c2 rfl rfl (.c2 rfl rfl (.c2 rfl rfl (.nil _))),rfl,?_,by omega⟩
    omega
   ·refine .q 2 hG ?_
    obtain rfl:j=(C3 s.Kind).length:=(by rw [Q6] at hc44;omega)
    rw [show(p9 s).take (C3 s.Kind).length=p9 s from List.take_of_length_le (by simp [p9])]
    refine .q 2 hG ?_
    refine .bs a8 (by decide) fun b56 => ?_
    refine .q 11 hG ?_
    refine .C2 (α:=Nat×Value×List u0) [(1,_),(5,_),(58,_),(59,_)] (fun x R=>(10,.raw x.2.1)::(60,.v (x.1:Int))::R) (fun x => [(true,.own 9 x.2.1 x.2.2),(true,.ob (ptr b5 0) f),(true,.ob (ptr b1 0) s)]) (fun x=>x.1≤s.l9.length∧x.2.2=u0.mk (G8 f.word.l (p9 s))::(s.l9.take x.1).map fun p=>u0.mk (D3 p)) (fun x=>s.l9.length - x.1) ((0,_,[u0.mk (G8 f.word.l (p9 s))])) (.c2 a8 a8 (.c2 a8 a8 (.nil _))) ?_ (.c2 a8 a8 (.c2 a8 a8 (.c2 a8 a8 (.nil _)))) (a8) fun x hF => ?_
    ·exact⟨Nat.zero_le _,by simp⟩
    obtain⟨k,w,ls⟩:=x
    obtain⟨h1,h2⟩:=hF
    dsimp only at h1 h2 ⊢
    have hl9:ls.length=k+1:=(by rw [h2];simp;omega)
    refine .q 6 hG ⟨fun hc61 => ?_,fun hc61 => ?_⟩
    ·refine .q 4 hG ?_
     have hk9:k < s.l9.length:=(by omega)
     refine .q 1 hG ?_
     refine .ix (by first|omega|(simp;done)|(simp;omega)|(simp at *;omega)) (by first|omega|(simp;done)|(simp;omega)|(simp at *;omega)) ?_
     refine .q 2 hG fun b12 => ?_
     refine .q 5 hG ?_
     refine .k hG (a5c _) ?_
     refine .q 9 hG ?_
     refine .bs a8 (by decide) fun b71 => ?_
     refine .ap (by first|omega|(simp;done)|(simp;omega)|(simp at *;omega)) (by first|omega|(simp;done)|(simp;omega)|(simp at *;omega)) fun w72 => ?_
     refine .q 1 hG ?_
     refine .drop (.drop ?_)
     refine .q 2 hG ?_
     refine .ad (by first|omega|(simp;done)|(simp;omega)|(simp at *;omega)) (by first|omega|(simp;done)|(simp;omega)|(simp at *;omega)) ?_
     refine .q 2 hG ?_
     refine⟨(k+1,w72,ls ++ [(a03 s.l9[k]).1]),.c2 rfl rfl (.c2 rfl rfl (.c2 rfl rfl (.nil _))),rfl,?_,by dsimp only;omega⟩
     refine⟨by dsimp only;omega,?_⟩;dsimp only;rw [h2,List.take_succ_eq_append_getElem hk9,List.map_append,u6 (hok.pred _ (List.getElem_mem hk9))];rfl
    ·refine .q 3 hG ?_
     obtain rfl:k=s.l9.length:=(by omega)
     rw [List.take_length] at h2
     refine .q 4 hG ?_
     refine .cond (.t a8) (fun hc75 => ?_) (fun hc75 => ?_)
     ·refine .q 2 hG ?_
      refine .km hG (a04 _ _) .z2 (by rintro _ _ ⟨_,rfl⟩;exact⟨_,rfl⟩) fun r77 B77 hr77 => ?_
      obtain⟨rfl,hB⟩:=hr77
      cases hB
      refine .q 1 hG ?_
      refine .p (.ldL ty9 (.t a8) .z2 ?_)
      refine .bs a8 (by decide) fun b80 => ?_
      refine .ap (by first|omega|(simp;done)|(simp;omega)|(simp at *;omega)) (by first|omega|(simp;done)|(simp;omega)|(simp at *;omega)) fun w81 => ?_
      refine .q 1 hG ?_
      refine .drop ?_
      refine .q 2 hG ?_
      refine .F0 hC .z (.as 10 a8 .z ?_)
      have hpp:(ls ++ [(G4 s).get s]).map u0.l=P7 s:=(by rw [h2,hw];unfold P7;rw [if_pos (by rw [←hh];exact hc75)];simp [Function.comp_def])
      have hpl:=a2x hok hl
      refine .q 2 hG ?_
      refine .p (.A4 hG (a4n _ _ (by first|omega|(simp;omega)) (by rw [hpp];exact hpl)) (.cons (.t a8) (.cons (.s [59,32] (by decide) (by decide)) .nil)) ?_)
      refine .q 4 hG ?_
      refine .e2 a8 a8 a8 ?_
      unfold D0;rw [if_neg (by omega),if_neg (by simpa using hc35)];show AV.t2 (.v (u0.mk _)) _=_;rw [hpp];rfl
     ·refine .q 2 hG ?_
      refine .F0 hC .z (.as 10 a8 .z ?_)
      have hpp:ls.map u0.l=P7 s:=(by rw [h2,hw];unfold P7;rw [if_neg (by rw [←hh,hc75];decide)];simp [Function.comp_def])
      have hpl:=a2x hok hl
      refine .q 2 hG ?_
      refine .p (.A4 hG (a4n _ _ (by first|omega|(simp;omega)) (by rw [hpp];exact hpl)) (.cons (.t a8) (.cons (.s [59,32] (by decide) (by decide)) .nil)) ?_)
      refine .q 4 hG ?_
      refine .e2 a8 a8 a8 ?_
      unfold D0;rw [if_neg (by omega),if_neg (by simpa using hc35)];show AV.t2 (.v (u0.mk _)) _=_;rw [hpp];rfl
theorem O9 (s:Step):y6 gl prog 42 [.v s] (fun r=>r = .v ((G4 s).get s)):=by
 refine y6.jn func42 (by kernel_rfl) 11 rfl fun C hC hG => ?_
 refine .q 3 hG fun b1 => ?_
 refine .q 10 hG ⟨fun hc5 => ?_,fun hc5 => ?_⟩
 ·refine .q 7 hG ?_
  refine .e1 a8 a8 ?_
  unfold G4;rw [if_pos hc5];rfl
 ·refine .q 9 hG ?_
  refine .e1 a8 a8 ?_
  unfold G4;rw [if_neg hc5];rfl
theorem a4o (k:Int):y6 gl prog 39 [.v k] (fun r=>r = .t2 (.v (kpr k)) (.v (khl k))):=by
 refine y6.jn func39 (by kernel_rfl) 28 rfl fun C hC hG => ?_
 refine .q 35 hG ?_
 refine .e2 a8 a8 a8 ?_
 rfl
theorem a3o (s:Step) (hk:1≤s.Kind∧s.Kind < 23):y6 gl prog 40 [.v s] (fun r=>r = .v (p9 s)):=by
 refine y6.jn func40 (by kernel_rfl) 93 rfl fun C hC hG => ?_
 refine .q 3 hG fun b1 => ?_
 refine .q 15 hG ⟨fun hc5 => ?_,fun hc5 => ?_⟩
 ·refine .q 5 hG ?_
  refine .e1 a8 a8 ?_
  first|(have e20:s.Kind=20∨s.Kind=21:=(by omega);unfold p9 C3;rw [if_neg (by omega),if_neg (by omega),if_neg (by omega),if_neg (by omega),if_neg (by omega),if_neg (by omega),if_neg (by omega),if_pos e20];rfl)|(unfold p9 C3;simp [*];try (repeat' apply And.intro);all_goals rfl)
 ·refine .q 7 hG ⟨fun hc7 => ?_,fun hc7 => ?_⟩
  ·refine .q 2 hG ⟨fun hc7y => ?_,fun y=>absurd hc7 y⟩
   refine .q 4 hG ?_
   refine .p (.B3 (α:=Int) A3 underlying23 (.cons (.t a8) .nil) a8 (by decide) ?_)
   refine .q 3 hG ?_
   refine .e1 a8 a8 ?_
   first|(have e20:s.Kind=20∨s.Kind=21:=(by omega);unfold p9 C3;rw [if_neg (by omega),if_neg (by omega),if_neg (by omega),if_neg (by omega),if_neg (by omega),if_neg (by omega),if_neg (by omega),if_pos e20];rfl)|(unfold p9 C3;simp [*];try (repeat' apply And.intro);all_goals rfl)
  ·refine .q 6 hG ⟨fun hc7 => ?_,fun hc7 => ?_⟩
   ·refine .q 2 hG ⟨fun hc7y => ?_,fun y=>absurd hc7 y⟩
    refine .q 4 hG ?_
    refine .p (.B3 (α:=Int) A3 underlying23 (.cons (.t a8) .nil) a8 (by decide) ?_)
    refine .q 3 hG ?_
    refine .e1 a8 a8 ?_
    first|(have e20:s.Kind=20∨s.Kind=21:=(by omega);unfold p9 C3;rw [if_neg (by omega),if_neg (by omega),if_neg (by omega),if_neg (by omega),if_neg (by omega),if_neg (by omega),if_neg (by omega),if_pos e20];rfl)|(unfold p9 C3;simp [*];try (repeat' apply And.intro);all_goals rfl)
   ·refine .q 6 hG ⟨fun hc7 => ?_,fun hc7 => ?_⟩
    ·refine .q 2 hG ⟨fun hc7y => ?_,fun y=>absurd hc7 y⟩
     refine .q 4 hG ?_
     refine .p (.B3 (α:=Int) A3 underlying23 (.cons (.t a8) .nil) a8 (by decide) ?_)
     refine .q 3 hG ?_
     refine .e1 a8 a8 ?_
     first|(have e20:s.Kind=20∨s.Kind=21:=(by omega);unfold p9 C3;rw [if_neg (by omega),if_neg (by omega),if_neg (by omega),if_neg (by omega),if_neg (by omega),if_neg (by omega),if_neg (by omega),if_pos e20];rfl)|(unfold p9 C3;simp [*];try (repeat' apply And.intro);all_goals rfl)
    ·refine .q 6 hG ⟨fun hc7 => ?_,fun hc7 => ?_⟩
     ·refine .q 2 hG ⟨fun hc7y => ?_,fun y=>absurd hc7 y⟩
      refine .q 4 hG ?_
      refine .p (.B3 (α:=Int) A3 underlying23 (.cons (.t a8) .nil) a8 (by decide) ?_)
      refine .q 3 hG ?_
      refine .e1 a8 a8 ?_
      first|(have e20:s.Kind=20∨s.Kind=21:=(by omega);unfold p9 C3;rw [if_neg (by omega),if_neg (by omega),if_neg (by omega),if_neg (by omega),if_neg (by omega),if_neg (by omega),if_neg (by omega),if_pos e20];rfl)|(unfold p9 C3;simp [*];try (repeat' apply And.intro);all_goals rfl)
     ·refine .q 5 hG ⟨fun hc7 => ?_,fun hc7 => ?_⟩
      ·refine .q 4 hG ?_
       refine .p (.B3 (α:=Int) A3 underlying23 (.cons (.t a8) .nil) a8 (by decide) ?_)
       refine .q 3 hG ?_
       refine .e1 a8 a8 ?_
       first|(have e20:s.Kind=20∨s.Kind=21:=(by omega);unfold p9 C3;rw [if_neg (by omega),if_neg (by omega),if_neg (by omega),if_neg (by omega),if_neg (by omega),if_neg (by omega),if_neg (by omega),if_pos e20];rfl)|(unfold p9 C3;simp [*];try (repeat' apply And.intro);all_goals rfl)
      ·refine .q 7 hG ⟨fun hc16 => ?_,fun hc16 => ?_⟩
       ·refine .q 2 hG ⟨fun hc16y => ?_,fun y=>absurd hc16 y⟩
        refine .q 4 hG ?_
        refine .p (.B3 (α:=Int) A3 underlying23 (.cons (.t a8) .nil) a8 (by decide) ?_)
        refine .q 3 hG ?_
        refine .e1 a8 a8 ?_
        first|(have e20:s.Kind=20∨s.Kind=21:=(by omega);unfold p9 C3;rw [if_neg (by omega),if_neg (by omega),if_neg (by omega),if_neg (by omega),if_neg (by omega),if_neg (by omega),if_neg (by omega),if_pos e20];rfl)|(unfold p9 C3;simp [*];try (repeat' apply And.intro);all_goals rfl)
       ·refine .q 6 hG ⟨fun hc16 => ?_,fun hc16 => ?_⟩
        ·refine .q 2 hG ⟨fun hc16y => ?_,fun y=>absurd hc16 y⟩
         refine .q 4 hG ?_
         refine .p (.B3 (α:=Int) A3 underlying23 (.cons (.t a8) .nil) a8 (by decide) ?_)
         refine .q 3 hG ?_
         refine .e1 a8 a8 ?_
         first|(have e20:s.Kind=20∨s.Kind=21:=(by omega);unfold p9 C3;rw [if_neg (by omega),if_neg (by omega),if_neg (by omega),if_neg (by omega),if_neg (by omega),if_neg (by omega),if_neg (by omega),if_pos e20];rfl)|(unfold p9 C3;simp [*];try (repeat' apply And.intro);all_goals rfl)
        ·refine .q 6 hG ⟨fun hc16 => ?_,fun hc16 => ?_⟩
         ·refine .q 2 hG ⟨fun hc16y => ?_,fun y=>absurd hc16 y⟩
          refine .q 4 hG ?_
          refine .p (.B3 (α:=Int) A3 underlying23 (.cons (.t a8) .nil) a8 (by decide) ?_)
          refine .q 3 hG ?_
          refine .e1 a8 a8 ?_
          first|(have e20:s.Kind=20∨s.Kind=21:=(by omega);unfold p9 C3;rw [if_neg (by omega),if_neg (by omega),if_neg (by omega),if_neg (by omega),if_neg (by omega),if_neg (by omega),if_neg (by omega),if_pos e20];rfl)|(unfold p9 C3;simp [*];try (repeat' apply And.intro);all_goals rfl)
         ·refine .q 5 hG ⟨fun hc16 => ?_,fun hc16 => ?_⟩
          ·refine .q 4 hG ?_
           refine .p (.B3 (α:=Int) A3 underlying23 (.cons (.t a8) .nil) a8 (by decide) ?_)
           refine .q 3 hG ?_
           refine .e1 a8 a8 ?_
           first|(have e20:s.Kind=20∨s.Kind=21:=(by omega);unfold p9 C3;rw [if_neg (by omega),if_neg (by omega),if_neg (by omega),if_neg (by omega),if_neg (by omega),if_neg (by omega),if_neg (by omega),if_pos e20];rfl)|(unfold p9 C3;simp [*];try (repeat' apply And.intro);all_goals rfl)
          ·refine .q 7 hG ⟨fun hc24 => ?_,fun hc24 => ?_⟩
           ·refine .q 2 hG ⟨fun hc24y => ?_,fun y=>absurd hc24 y⟩
            refine .q 6 hG ?_
            refine .p (.B3 (α:=Int) A3 underlying23 (.cons (.t a8) (.cons (.t a8) .nil)) a8 (by decide) ?_)
            refine .q 3 hG ?_
            refine .e1 a8 a8 ?_
            first|(have e20:s.Kind=20∨s.Kind=21:=(by omega);unfold p9 C3;rw [if_neg (by omega),if_neg (by omega),if_neg (by omega),if_neg (by omega),if_neg (by omega),if_neg (by omega),if_neg (by omega),if_pos e20];rfl)|(unfold p9 C3;simp [*];try (repeat' apply And.intro);all_goals rfl)
           ·refine .q 5 hG ⟨fun hc24 => ?_,fun hc24 => ?_⟩
            ·refine .q 6 hG ?_
             refine .p (.B3 (α:=Int) A3 underlying23 (.cons (.t a8) (.cons (.t a8) .nil)) a8 (by decide) ?_)
             refine .q 3 hG ?_
             refine .e1 a8 a8 ?_
             first|(have e20:s.Kind=20∨s.Kind=21:=(by omega);unfold p9 C3;rw [if_neg (by omega),if_neg (by omega),if_neg (by omega),if_neg (by omega),if_neg (by omega),if_neg (by omega),if_neg (by omega),if_pos e20];rfl)|(unfold p9 C3;simp [*];try (repeat' apply And.intro);all_goals rfl)
            ·refine .q 7 hG ⟨fun hc32 => ?_,fun hc32 => ?_⟩
             ·refine .q 2 hG ⟨fun hc32y => ?_,fun y=>absurd hc32 y⟩
              refine .q 6 hG ?_
              refine .p (.B3 (α:=Int) A3 underlying23 (.cons (.t a8) (.cons (.t a8) .nil)) a8 (by decide) ?_)
              refine .q 3 hG ?_
              refine .e1 a8 a8 ?_
              first|(have e20:s.Kind=20∨s.Kind=21:=(by omega);unfold p9 C3;rw [if_neg (by omega),if_neg (by omega),if_neg (by omega),if_neg (by omega),if_neg (by omega),if_neg (by omega),if_neg (by omega),if_pos e20];rfl)|(unfold p9 C3;simp [*];try (repeat' apply And.intro);all_goals rfl)
             ·refine .q 6 hG ⟨fun hc32 => ?_,fun hc32 => ?_⟩
              ·refine .q 2 hG ⟨fun hc32y => ?_,fun y=>absurd hc32 y⟩
               refine .q 6 hG ?_
               refine .p (.B3 (α:=Int) A3 underlying23 (.cons (.t a8) (.cons (.t a8) .nil)) a8 (by decide) ?_)
               refine .q 3 hG ?_
               refine .e1 a8 a8 ?_
               first|(have e20:s.Kind=20∨s.Kind=21:=(by omega);unfold p9 C3;rw [if_neg (by omega),if_neg (by omega),if_neg (by omega),if_neg (by omega),if_neg (by omega),if_neg (by omega),if_neg (by omega),if_pos e20];rfl)|(unfold p9 C3;simp [*];try (repeat' apply And.intro);all_goals rfl)
              ·refine .q 5 hG ⟨fun hc32 => ?_,fun hc32 => ?_⟩
               ·refine .q 6 hG ?_
                refine .p (.B3 (α:=Int) A3 underlying23 (.cons (.t a8) (.cons (.t a8) .nil)) a8 (by decide) ?_)
                refine .q 3 hG ?_
                refine .e1 a8 a8 ?_
                first|(have e20:s.Kind=20∨s.Kind=21:=(by omega);unfold p9 C3;rw [if_neg (by omega),if_neg (by omega),if_neg (by omega),if_neg (by omega),if_neg (by omega),if_neg (by omega),if_neg (by omega),if_pos e20];rfl)|(unfold p9 C3;simp [*];try (repeat' apply And.intro);all_goals rfl)
               ·refine .q 7 hG ⟨fun hc41 => ?_,fun hc41 => ?_⟩
                ·refine .q 2 hG ⟨fun hc41y => ?_,fun y=>absurd hc41 y⟩
                 refine .q 8 hG ?_
                 refine .p (.B3 (α:=Int) A3 underlying23 (.cons (.t a8) (.cons (.t a8) (.cons (.t a8) .nil))) a8 (by decide) ?_)
                 refine .q 3 hG ?_
                 refine .e1 a8 a8 ?_
                 first|(have e20:s.Kind=20∨s.Kind=21:=(by omega);unfold p9 C3;rw [if_neg (by omega),if_neg (by omega),if_neg (by omega),if_neg (by omega),if_neg (by omega),if_neg (by omega),if_neg (by omega),if_pos e20];rfl)|(unfold p9 C3;simp [*];try (repeat' apply And.intro);all_goals rfl)
                ·refine .q 6 hG ⟨fun hc41 => ?_,fun hc41 => ?_⟩
                 ·refine .q 2 hG ⟨fun hc41y => ?_,fun y=>absurd hc41 y⟩
                  refine .q 8 hG ?_
                  refine .p (.B3 (α:=Int) A3 underlying23 (.cons (.t a8) (.cons (.t a8) (.cons (.t a8) .nil))) a8 (by decide) ?_)
                  refine .q 3 hG ?_
                  refine .e1 a8 a8 ?_
                  first|(have e20:s.Kind=20∨s.Kind=21:=(by omega);unfold p9 C3;rw [if_neg (by omega),if_neg (by omega),if_neg (by omega),if_neg (by omega),if_neg (by omega),if_neg (by omega),if_neg (by omega),if_pos e20];rfl)|(unfold p9 C3;simp [*];try (repeat' apply And.intro);all_goals rfl)
                 ·refine .q 5 hG ⟨fun hc41 => ?_,fun hc41 => ?_⟩
                  ·refine .q 8 hG ?_
                   refine .p (.B3 (α:=Int) A3 underlying23 (.cons (.t a8) (.cons (.t a8) (.cons (.t a8) .nil))) a8 (by decide) ?_)
                   refine .q 3 hG ?_
                   refine .e1 a8 a8 ?_
                   first|(have e20:s.Kind=20∨s.Kind=21:=(by omega);unfold p9 C3;rw [if_neg (by omega),if_neg (by omega),if_neg (by omega),if_neg (by omega),if_neg (by omega),if_neg (by omega),if_neg (by omega),if_pos e20];rfl)|(unfold p9 C3;simp [*];try (repeat' apply And.intro);all_goals rfl)
                  ·refine .q 6 hG ⟨fun hc52 => ?_,fun hc52 => ?_⟩
                   ·refine .q 14 hG ?_
                    refine .p (.B3 (α:=Int) A3 underlying23 (.cons (.t a8) (.cons (.t a8) (.cons (.t a8) (.cons (.t a8) (.cons (.t a8) .nil))))) a8 (by decide) ?_)
                    refine .q 3 hG ?_
                    refine .e1 a8 a8 ?_
                    first|(have e20:s.Kind=20∨s.Kind=21:=(by omega);unfold p9 C3;rw [if_neg (by omega),if_neg (by omega),if_neg (by omega),if_neg (by omega),if_neg (by omega),if_neg (by omega),if_neg (by omega),if_pos e20];rfl)|(unfold p9 C3;simp [*];try (repeat' apply And.intro);all_goals rfl)
                   ·refine .q 6 hG ⟨fun hc67 => ?_,fun hc67 => ?_⟩
                    ·refine .q 14 hG ?_
                     refine .p (.B3 (α:=Int) A3 underlying23 (.cons (.t a8) (.cons (.t a8) (.cons (.t a8) (.cons (.t a8) (.cons (.t a8) .nil))))) a8 (by decide) ?_)
                     refine .q 3 hG ?_
                     refine .e1 a8 a8 ?_
                     first|(have e20:s.Kind=20∨s.Kind=21:=(by omega);unfold p9 C3;rw [if_neg (by omega),if_neg (by omega),if_neg (by omega),if_neg (by omega),if_neg (by omega),if_neg (by omega),if_neg (by omega),if_pos e20];rfl)|(unfold p9 C3;simp [*];try (repeat' apply And.intro);all_goals rfl)
                    ·refine .q 13 hG ?_
                     refine .p (.B3 (α:=Int) A3 underlying23 (.cons (.t a8) (.cons (.t a8) (.cons (.t a8) (.cons (.t a8) .nil)))) a8 (by decide) ?_)
                     refine .q 3 hG ?_
                     refine .e1 a8 a8 ?_
                     first|(have e20:s.Kind=20∨s.Kind=21:=(by omega);unfold p9 C3;rw [if_neg (by omega),if_neg (by omega),if_neg (by omega),if_neg (by omega),if_neg (by omega),if_neg (by omega),if_neg (by omega),if_pos e20];rfl)|(unfold p9 C3;simp [*];try (repeat' apply And.intro);all_goals rfl)
theorem b4D (k:Int) (h:1≤k∧k < 23) (h2:k.toNat < (U4.map u0.mk).length):(U4.map u0.mk)[k.toNat]=u0.mk (U4.getD k.toNat []):=by
 have h3:k.toNat < U4.length:=by simpa using h2
 rw [List.getElem_map,List.getD_eq_getElem?_getD,List.getElem?_eq_getElem h3];rfl
theorem a4p (k:Int) (h:1≤k∧k < 23):y6 gl prog 43 [.v k] (fun r=>r = .v (u0.mk (U4.getD k.toNat []))):=by
 refine y6.jn func43 (by kernel_rfl) 7 rfl fun C hC hG => ?_
 refine .q 6 hG ?_
 refine .bs a8 (by decide) fun b3=>(.F0 hC .z (.as 3 a8 .z ?_))
 refine .q 1 hG ?_
 refine .ix (by first|omega|(simp;done)|(simp;omega)|(simp at *;omega)) (by first|omega|(simp;done)|(simp;omega)|(simp at *;omega)) ?_
 refine .q 4 hG ?_
 refine .e1 a8 a8 ?_
 exact congrArg AV.v (b4D k h (show k.toNat < 23 by omega))
theorem a2y {α:Type} {a b:List α} {k:Nat} (ha:k < a.length) (hb:k < b.length) (h:a.take k=b.take k) (e:a[k]=b[k]):a.take (k+1)=b.take (k+1):=by
 rw [List.take_succ_eq_append_getElem ha,List.take_succ_eq_append_getElem hb,h,e]
theorem a8T {α:Type} {a b:List α} {k:Nat} (ha:k < a.length) (hb:k < b.length) (e:a[k]≠b[k]):¬a=b:=fun h=>e (by subst h;rfl)
theorem a6U {α:Type} {a b:List α} {k:Nat} (h:a.take k=b.take k) (hk:a.length≤k) (hl:a.length=b.length):a=b:=by
 rw [List.take_of_length_le hk,List.take_of_length_le (by omega)] at h;exact h
theorem a6V (a b:List Pred):y6 gl prog 56 [.v a,.v b] (fun r=>r = .v (decide (a=b))):=by
 refine y6.jn func56 (by kernel_rfl) 26 rfl fun C hC hG => ?_
 refine .q 6 hG ?_
 refine .a2m 0 a8 fun hl0=>(.a2m 1 a8 fun hl1 => ?_)
 refine .q 8 hG ⟨fun hc10 => ?_,fun hc10 => ?_⟩
 ·refine .q 5 hG ?_
  refine .e1 a8 a8 ?_
  rw [decide_eq_false (fun e=>hc10 (by rw [e]))]
 ·refine .q 3 hG ?_
  have hll:a.length=b.length:=by omega
  refine .q 4 hG ?_
  refine .C2 (α:=Nat) [(0,_),(1,_)] (fun k R=>(5,.v (k:Int))::R) (fun k => []) (fun k=>k≤a.length∧a.take k=b.take k) (fun k=>a.length - k) (0) (.c2 a8 a8 (.nil _)) ?_ (.c2 a8 a8 (.cons a8 (.nil _))) (a8) fun k hF => ?_
  ·simp
  obtain⟨h1,h2⟩:=hF
  refine .q 9 hG ⟨fun hc14 => ?_,fun hc14 => ?_⟩
  ·refine .q 4 hG ?_
   refine .draw (by kernel_rfl) 9 [[],[],[(17,0),(18,1)],[(19,2)],[],[],[(21,4),(22,5)],[(23,6)],[(20,3),(24,7)]] a8 (by kernel_rfl) a8 ?_
   refine⟨_,j7.move (.t a8) a8,?_⟩
   refine⟨_,j7.move (.t a8) a8,?_⟩
   refine⟨_,j7.idx E6 underlying24 (.t a8) (.t a8) (by first|omega|(simp;done)|(simp;omega)|(simp at *;omega)) (by first|omega|(simp;done)|(simp;omega)|(simp at *;omega)) a8,?_⟩
   refine⟨_,j7.F1 E6 (.t a8) a8,?_⟩
   refine⟨_,j7.move (.t a8) a8,?_⟩
   refine⟨_,j7.move (.t a8) a8,?_⟩
   refine⟨_,j7.idx E6 underlying24 (.t a8) (.t a8) (by first|omega|(simp;done)|(simp;omega)|(simp at *;omega)) (by first|omega|(simp;done)|(simp;omega)|(simp at *;omega)) a8,?_⟩
   refine⟨_,j7.F1 E6 (.t a8) a8,?_⟩
   refine⟨_,j7.a5Y O2 (by decide) a8 (by kernel_rfl) (.t a8) (.t a8) a8,?_⟩
   show C4 _ _ _ _ _ [] ((25,_)::(24,_)::(23,_)::(22,_)::(21,_)::(20,_)::(19,_)::(18,_)::(17,_)::_) _
   refine .q 2 hG ⟨fun hc25 => ?_,fun hc25 => ?_⟩
   ·refine .q 5 hG ?_
    refine .e1 a8 a8 ?_
    rw [decide_eq_false (a8T (k:=k) (by omega) (by omega) hc25)]
   ·refine .q 3 hG ?_
    refine .ad (by first|omega|(simp;done)|(simp;omega)|(simp at *;omega)) (by first|omega|(simp;done)|(simp;omega)|(simp at *;omega)) ?_
    refine .q 2 hG ?_
    refine⟨k+1,.c2 rfl rfl (.cons rfl (.nil _)),rfl,?_,by omega⟩
    exact⟨by omega,a2y (by omega) (by omega) h2 (Decidable.not_not.1 hc25)⟩
  ·refine .q 6 hG ?_
   refine .e1 a8 a8 ?_
   rw [decide_eq_true (a6U h2 (by omega) hll)]
theorem step_eq (x y:Step):(decide (x.Kind=y.Kind)&&decide (x.A=y.A)&&decide (x.B=y.B)&&decide (x.N=y.N)&&decide (x.T5=y.T5)&&decide (x.F6=y.F6)&&decide (x.Context=y.Context)&&decide (x.l9=y.l9))=decide (x=y):=by
 cases x;cases y
 rw [Bool.eq_iff_iff]
 simp only [Bool.and_eq_true,decide_eq_true_eq,j4.mk.injEq]
 constructor
 ·rintro⟨⟨⟨⟨⟨⟨⟨h1,h2⟩,h3⟩,h4⟩,h5⟩,h6⟩,h7⟩,h8⟩;exact⟨h1,h2,h3,h4,h8,h5,h6,h7⟩
 ·rintro⟨h1,h2,h3,h4,h8,h5,h6,h7⟩;exact⟨⟨⟨⟨⟨⟨⟨h1,h2⟩,h3⟩,h4⟩,h5⟩,h6⟩,h7⟩,h8⟩
theorem a2b (x y:Step):y6 gl prog 25 [.v x,.v y] (fun r=>r = .v (decide (x=y))):=by
 refine y6.jn func25 (by kernel_rfl) 59 rfl fun C hC hG => ?_
 refine .q 3 hG fun b2 => ?_
 refine .q 1 hG fun b3 => ?_
 refine .q 3 hG ?_
 refine .a3h hC .z1 (.asP 2 a8 .z1 (.a3h hC .z (.asP 3 a8 .z ?_)))
 refine .q 32 hG ?_
 refine .go 31 a8 (.t a8) (fun hg36 => .X0 a6E (by decide) a8 (by kernel_rfl) (.q a8 hg36) (.q a8 hg36) a8) ?_
 refine .q 13 hG ?_
 refine .go 45 a8 (.t a8) (fun hg50 => .X0 a6F (by decide) a8 (by kernel_rfl) (.q a8 hg50) (.q a8 hg50) a8) ?_
 refine .q 6 hG ?_
 refine .go 52 a8 (.t a8) (fun hg57 => .A4 hG (a6V _ _) (.cons (.q a8 hg57) (.cons (.q a8 hg57) .nil)) a8) ?_
 refine .q 4 hG ?_
 refine .e1 a8 a8 ?_
 rw [←step_eq]
theorem a79 (n:Int) (h0 : -1000000000000000 < n) (h1:n < 0):y6 gl prog 44 [.v n] (fun r=>r = .v (u0.mk (Lib.itoa n))):=by
 have e:Lib.itoa n=45::Go.Lib.decDigits (-n).toNat:=by unfold Lib.itoa;rw [if_pos (by omega),show n.natAbs=(-n).toNat by omega]
 rw [e]
 refine y6.jn func44 (by kernel_rfl) 31 rfl fun C hC hG => ?_
 refine .q 10 hG ?_
 refine .a1g (.t a8) (fun hc5 => ?_) (fun hc5=>(by exfalso;omega))
 refine .q 1 hG ?_
 have hdl:=S6 (k:=15) (-n).toNat (by omega)
 refine .q 2 hG ?_
 refine .p (.neg (.t a8) (by first|omega|(simp;done)|(simp;omega)|(simp at *;omega)) ?_)
 refine .k hG (V5 _ (by omega) (by omega)) (.p (.D8 (.s [45] (by decide) (by decide)) (.t a8) (by first|omega|(simp;done)|(simp;omega)|(simp at *;omega)) ?_))
 refine .q 3 hG ?_
 refine .e1 a8 a8 ?_
 rfl
theorem a8U (n:Int) (h0 : -1000000000000000 < n) (h1:n < 1000000000000000):y6 gl prog 44 [.v n] (fun r=>r = .v (u0.mk (Lib.itoa n))):=by
 by_cases hn:0≤n
 ·have e:Lib.itoa n=Go.Lib.decDigits n.toNat:=by unfold Lib.itoa;rw [if_neg (by omega)]
  rw [e];exact V5 n hn h1
 ·exact a79 n h0 (by omega)
def a2z (fs:List Fld) (n:List Int) (s:Step):Step:=(fs.zip n).foldl (fun s p=>p.1.lens.set p.2 s) s
def a4q (k:Int) (n:List Int) (l:List Pred) (h:u0):Step :=
 let s:=a2z (C3 k) n ⟨k,0,0,0,l,default,⟨[]⟩,default⟩
 if k=8 then { s with F6:=h } else if k=11∨k=20∨k=21 then { s with Context := { s.Context with F6:=h } } else s
theorem a2A (k:Int) (n:List Int) (l:List Pred) (h:u0) (hk:1≤k∧k < 23) (hn:n.length=(C3 k).length):y6 gl prog 41 [.v k,.v n,.v l,.v h] (fun r=>r = .v (a4q k n l h)):=by
 refine y6.jn func41 (by kernel_rfl) 149 rfl fun C hC hG => ?_
 refine .q 3 hG fun b8 => ?_
 refine .q 5 hG ?_
 refine .p (.bS2 j4.l0 j4.l4 a8 q9 a1a (fun c0 c4=>(⟨c0,0,0,0,c4,default,⟨[]⟩,default⟩:j4)) (fun _ _=>a8) a8 a8 a8 (.t a8) (.t a8) ?_)
 refine .q 1 hG fun b9 => ?_
 refine .q 15 hG ⟨fun hc14 => ?_,fun hc14 => ?_⟩
 ·refine .q 2 hG ⟨fun hc14y => ?_,fun y=>absurd hc14 y⟩
  have hnl:n.length=1:=(by rw [hn];unfold C3;simp [*])
  refine .q 2 hG ?_
  refine .ix (by first|omega|(simp;done)|(simp;omega)|(simp at *;omega)) (by first|omega|(simp;done)|(simp;omega)|(simp at *;omega)) ?_
  refine .q 10 hG ?_
  refine⟨_,.r1 a8 (.cell q9 a8 .z1),?_⟩
  first|(rcases n with _|⟨a0,_|⟨a1,_|⟨a2,_|⟨a3,_|⟨a4,_|⟨a5,t⟩⟩⟩⟩⟩⟩<;>simp at hnl;have h22:k=1∨k=2∨k=3∨k=4∨k=5∨k=6∨k=7∨k=8∨k=9∨k=10∨k=11∨k=12∨k=13∨k=14∨k=15∨k=16∨k=17∨k=18∨k=19∨k=20∨k=21∨k=22:=(by omega);rcases h22 with rfl|rfl|rfl|rfl|rfl|rfl|rfl|rfl|rfl|rfl|rfl|rfl|rfl|rfl|rfl|rfl|rfl|rfl|rfl|rfl|rfl|rfl<;>first|(exfalso;omega)|rfl)|(obtain rfl:k=1:=(by omega);rcases n with _|⟨a0,_|⟨a1,_|⟨a2,_|⟨a3,_|⟨a4,_|⟨a5,t⟩⟩⟩⟩⟩⟩<;>simp [C3] at hn;rfl)
 ·refine .q 6 hG ⟨fun hc14 => ?_,fun hc14 => ?_⟩
  ·refine .q 2 hG ⟨fun hc14y => ?_,fun y=>absurd hc14 y⟩
   have hnl:n.length=1:=(by rw [hn];unfold C3;simp [*])
   refine .q 2 hG ?_
   refine .ix (by first|omega|(simp;done)|(simp;omega)|(simp at *;omega)) (by first|omega|(simp;done)|(simp;omega)|(simp at *;omega)) ?_
   refine .q 10 hG ?_
   refine⟨_,.r1 a8 (.cell q9 a8 .z1),?_⟩
   first|(rcases n with _|⟨a0,_|⟨a1,_|⟨a2,_|⟨a3,_|⟨a4,_|⟨a5,t⟩⟩⟩⟩⟩⟩<;>simp at hnl;have h22:k=1∨k=2∨k=3∨k=4∨k=5∨k=6∨k=7∨k=8∨k=9∨k=10∨k=11∨k=12∨k=13∨k=14∨k=15∨k=16∨k=17∨k=18∨k=19∨k=20∨k=21∨k=22:=(by omega);rcases h22 with rfl|rfl|rfl|rfl|rfl|rfl|rfl|rfl|rfl|rfl|rfl|rfl|rfl|rfl|rfl|rfl|rfl|rfl|rfl|rfl|rfl|rfl<;>first|(exfalso;omega)|rfl)|(obtain rfl:k=1:=(by omega);rcases n with _|⟨a0,_|⟨a1,_|⟨a2,_|⟨a3,_|⟨a4,_|⟨a5,t⟩⟩⟩⟩⟩⟩<;>simp [C3] at hn;rfl)
  ·refine .q 6 hG ⟨fun hc14 => ?_,fun hc14 => ?_⟩
   ·refine .q 2 hG ⟨fun hc14y => ?_,fun y=>absurd hc14 y⟩
    have hnl:n.length=1:=(by rw [hn];unfold C3;simp [*])
    refine .q 2 hG ?_
    refine .ix (by first|omega|(simp;done)|(simp;omega)|(simp at *;omega)) (by first|omega|(simp;done)|(simp;omega)|(simp at *;omega)) ?_
    refine .q 10 hG ?_
    refine⟨_,.r1 a8 (.cell q9 a8 .z1),?_⟩
    first|(rcases n with _|⟨a0,_|⟨a1,_|⟨a2,_|⟨a3,_|⟨a4,_|⟨a5,t⟩⟩⟩⟩⟩⟩<;>simp at hnl;have h22:k=1∨k=2∨k=3∨k=4∨k=5∨k=6∨k=7∨k=8∨k=9∨k=10∨k=11∨k=12∨k=13∨k=14∨k=15∨k=16∨k=17∨k=18∨k=19∨k=20∨k=21∨k=22:=(by omega);rcases h22 with rfl|rfl|rfl|rfl|rfl|rfl|rfl|rfl|rfl|rfl|rfl|rfl|rfl|rfl|rfl|rfl|rfl|rfl|rfl|rfl|rfl|rfl<;>first|(exfalso;omega)|rfl)|(obtain rfl:k=1:=(by omega);rcases n with _|⟨a0,_|⟨a1,_|⟨a2,_|⟨a3,_|⟨a4,_|⟨a5,t⟩⟩⟩⟩⟩⟩<;>simp [C3] at hn;rfl)
   ·refine .q 6 hG ⟨fun hc14 => ?_,fun hc14 => ?_⟩
    ·refine .q 2 hG ⟨fun hc14y => ?_,fun y=>absurd hc14 y⟩
     have hnl:n.length=1:=(by rw [hn];unfold C3;simp [*])
     refine .q 2 hG ?_
     refine .ix (by first|omega|(simp;done)|(simp;omega)|(simp at *;omega)) (by first|omega|(simp;done)|(simp;omega)|(simp at *;omega)) ?_
     refine .q 10 hG ?_
     refine⟨_,.r1 a8 (.cell q9 a8 .z1),?_⟩
     first|(rcases n with _|⟨a0,_|⟨a1,_|⟨a2,_|⟨a3,_|⟨a4,_|⟨a5,t⟩⟩⟩⟩⟩⟩<;>simp at hnl;have h22:k=1∨k=2∨k=3∨k=4∨k=5∨k=6∨k=7∨k=8∨k=9∨k=10∨k=11∨k=12∨k=13∨k=14∨k=15∨k=16∨k=17∨k=18∨k=19∨k=20∨k=21∨k=22:=(by omega);rcases h22 with rfl|rfl|rfl|rfl|rfl|rfl|rfl|rfl|rfl|rfl|rfl|rfl|rfl|rfl|rfl|rfl|rfl|rfl|rfl|rfl|rfl|rfl<;>first|(exfalso;omega)|rfl)|(obtain rfl:k=1:=(by omega);rcases n with _|⟨a0,_|⟨a1,_|⟨a2,_|⟨a3,_|⟨a4,_|⟨a5,t⟩⟩⟩⟩⟩⟩<;>simp [C3] at hn;rfl)
    ·refine .q 5 hG ⟨fun hc14 => ?_,fun hc14 => ?_⟩
     ·have hnl:n.length=1:=(by rw [hn];unfold C3;simp [*])
      refine .q 2 hG ?_
      refine .ix (by first|omega|(simp;done)|(simp;omega)|(simp at *;omega)) (by first|omega|(simp;done)|(simp;omega)|(simp at *;omega)) ?_
      refine .q 10 hG ?_
      refine⟨_,.r1 a8 (.cell q9 a8 .z1),?_⟩
      first|(rcases n with _|⟨a0,_|⟨a1,_|⟨a2,_|⟨a3,_|⟨a4,_|⟨a5,t⟩⟩⟩⟩⟩⟩<;>simp at hnl;have h22:k=1∨k=2∨k=3∨k=4∨k=5∨k=6∨k=7∨k=8∨k=9∨k=10∨k=11∨k=12∨k=13∨k=14∨k=15∨k=16∨k=17∨k=18∨k=19∨k=20∨k=21∨k=22:=(by omega);rcases h22 with rfl|rfl|rfl|rfl|rfl|rfl|rfl|rfl|rfl|rfl|rfl|rfl|rfl|rfl|rfl|rfl|rfl|rfl|rfl|rfl|rfl|rfl<;>first|(exfalso;omega)|rfl)|(obtain rfl:k=1:=(by omega);rcases n with _|⟨a0,_|⟨a1,_|⟨a2,_|⟨a3,_|⟨a4,_|⟨a5,t⟩⟩⟩⟩⟩⟩<;>simp [C3] at hn;rfl)
     ·refine .q 7 hG ⟨fun hc24 => ?_,fun hc24 => ?_⟩
      ·refine .q 2 hG ⟨fun hc24y => ?_,fun y=>absurd hc24 y⟩
       have hnl:n.length=1:=(by rw [hn];unfold C3;simp [*])
       refine .q 2 hG ?_
       refine .ix (by first|omega|(simp;done)|(simp;omega)|(simp at *;omega)) (by first|omega|(simp;done)|(simp;omega)|(simp at *;omega)) ?_
       refine .q 10 hG ?_
       refine⟨_,.r1 a8 (.cell q9 a8 .z1),?_⟩
       first|(rcases n with _|⟨a0,_|⟨a1,_|⟨a2,_|⟨a3,_|⟨a4,_|⟨a5,t⟩⟩⟩⟩⟩⟩<;>simp at hnl;have h22:k=1∨k=2∨k=3∨k=4∨k=5∨k=6∨k=7∨k=8∨k=9∨k=10∨k=11∨k=12∨k=13∨k=14∨k=15∨k=16∨k=17∨k=18∨k=19∨k=20∨k=21∨k=22:=(by omega);rcases h22 with rfl|rfl|rfl|rfl|rfl|rfl|rfl|rfl|rfl|rfl|rfl|rfl|rfl|rfl|rfl|rfl|rfl|rfl|rfl|rfl|rfl|rfl<;>first|(exfalso;omega)|rfl)|(obtain rfl:k=1:=(by omega);rcases n with _|⟨a0,_|⟨a1,_|⟨a2,_|⟨a3,_|⟨a4,_|⟨a5,t⟩⟩⟩⟩⟩⟩<;>simp [C3] at hn;rfl)
      ·refine .q 6 hG ⟨fun hc24 => ?_,fun hc24 => ?_⟩
       ·refine .q 2 hG ⟨fun hc24y => ?_,fun y=>absurd hc24 y⟩
        have hnl:n.length=1:=(by rw [hn];unfold C3;simp [*])
        refine .q 2 hG ?_
        refine .ix (by first|omega|(simp;done)|(simp;omega)|(simp at *;omega)) (by first|omega|(simp;done)|(simp;omega)|(simp at *;omega)) ?_
        refine .q 10 hG ?_
        refine⟨_,.r1 a8 (.cell q9 a8 .z1),?_⟩
        first|(rcases n with _|⟨a0,_|⟨a1,_|⟨a2,_|⟨a3,_|⟨a4,_|⟨a5,t⟩⟩⟩⟩⟩⟩<;>simp at hnl;have h22:k=1∨k=2∨k=3∨k=4∨k=5∨k=6∨k=7∨k=8∨k=9∨k=10∨k=11∨k=12∨k=13∨k=14∨k=15∨k=16∨k=17∨k=18∨k=19∨k=20∨k=21∨k=22:=(by omega);rcases h22 with rfl|rfl|rfl|rfl|rfl|rfl|rfl|rfl|rfl|rfl|rfl|rfl|rfl|rfl|rfl|rfl|rfl|rfl|rfl|rfl|rfl|rfl<;>first|(exfalso;omega)|rfl)|(obtain rfl:k=1:=(by omega);rcases n with _|⟨a0,_|⟨a1,_|⟨a2,_|⟨a3,_|⟨a4,_|⟨a5,t⟩⟩⟩⟩⟩⟩<;>simp [C3] at hn;rfl)
       ·refine .q 6 hG ⟨fun hc24 => ?_,fun hc24 => ?_⟩
        ·refine .q 2 hG ⟨fun hc24y => ?_,fun y=>absurd hc24 y⟩
         have hnl:n.length=1:=(by rw [hn];unfold C3;simp [*])
         refine .q 2 hG ?_
         refine .ix (by first|omega|(simp;done)|(simp;omega)|(simp at *;omega)) (by first|omega|(simp;done)|(simp;omega)|(simp at *;omega)) ?_
         refine .q 10 hG ?_
         refine⟨_,.r1 a8 (.cell q9 a8 .z1),?_⟩
         first|(rcases n with _|⟨a0,_|⟨a1,_|⟨a2,_|⟨a3,_|⟨a4,_|⟨a5,t⟩⟩⟩⟩⟩⟩<;>simp at hnl;have h22:k=1∨k=2∨k=3∨k=4∨k=5∨k=6∨k=7∨k=8∨k=9∨k=10∨k=11∨k=12∨k=13∨k=14∨k=15∨k=16∨k=17∨k=18∨k=19∨k=20∨k=21∨k=22:=(by omega);rcases h22 with rfl|rfl|rfl|rfl|rfl|rfl|rfl|rfl|rfl|rfl|rfl|rfl|rfl|rfl|rfl|rfl|rfl|rfl|rfl|rfl|rfl|rfl<;>first|(exfalso;omega)|rfl)|(obtain rfl:k=1:=(by omega);rcases n with _|⟨a0,_|⟨a1,_|⟨a2,_|⟨a3,_|⟨a4,_|⟨a5,t⟩⟩⟩⟩⟩⟩<;>simp [C3] at hn;rfl)
        ·refine .q 5 hG ⟨fun hc24 => ?_,fun hc24 => ?_⟩
         ·have hnl:n.length=1:=(by rw [hn];unfold C3;simp [*])
          refine .q 2 hG ?_
          refine .ix (by first|omega|(simp;done)|(simp;omega)|(simp at *;omega)) (by first|omega|(simp;done)|(simp;omega)|(simp at *;omega)) ?_
          refine .q 10 hG ?_
          refine⟨_,.r1 a8 (.cell q9 a8 .z1),?_⟩
          first|(rcases n with _|⟨a0,_|⟨a1,_|⟨a2,_|⟨a3,_|⟨a4,_|⟨a5,t⟩⟩⟩⟩⟩⟩<;>simp at hnl;have h22:k=1∨k=2∨k=3∨k=4∨k=5∨k=6∨k=7∨k=8∨k=9∨k=10∨k=11∨k=12∨k=13∨k=14∨k=15∨k=16∨k=17∨k=18∨k=19∨k=20∨k=21∨k=22:=(by omega);rcases h22 with rfl|rfl|rfl|rfl|rfl|rfl|rfl|rfl|rfl|rfl|rfl|rfl|rfl|rfl|rfl|rfl|rfl|rfl|rfl|rfl|rfl|rfl<;>first|(exfalso;omega)|rfl)|(obtain rfl:k=1:=(by omega);rcases n with _|⟨a0,_|⟨a1,_|⟨a2,_|⟨a3,_|⟨a4,_|⟨a5,t⟩⟩⟩⟩⟩⟩<;>simp [C3] at hn;rfl)
         ·refine .q 7 hG ⟨fun hc33 => ?_,fun hc33 => ?_⟩
          ·refine .q 2 hG ⟨fun hc33y => ?_,fun y=>absurd hc33 y⟩
           have hnl:n.length=2:=(by rw [hn];unfold C3;simp [*])
           refine .D7 [j0,j1] (by kernel_rfl) 10 [[],[(36,0)],[(37,1)],[],[(39,3)],[(40,4)],[],[(42,6),(38,2)],[],[(43,8),(41,5)]] [7,9] a8 (by kernel_rfl) a8 (by kernel_rfl) (by decide) ?_
           refine⟨_,fun H=>j7.move (.t a8) a8,?_⟩
           refine⟨_,fun H=>j7.idx A3 underlying23 (.t a8) (.i a8) (by first|omega|(simp;done)|(simp;omega)|(simp at *;omega)) (by first|omega|(simp;done)|(simp;omega)|(simp at *;omega)) a8,?_⟩
           refine⟨_,fun H=>j7.F1 A3 (.t a8) a8,?_⟩
           refine⟨_,fun H=>j7.move (.t a8) a8,?_⟩
           refine⟨_,fun H=>j7.idx A3 underlying23 (.t a8) (.i a8) (by first|omega|(simp;done)|(simp;omega)|(simp at *;omega)) (by first|omega|(simp;done)|(simp;omega)|(simp at *;omega)) a8,?_⟩
           refine⟨_,fun H=>j7.F1 A3 (.t a8) a8,?_⟩
           refine⟨_,fun H=>j7.y7 j4.l1 F5 a8 (.t a8) a8,?_⟩
           refine .inl ?_
           refine⟨_,fun H=>j7.y7 j4.l3 R1 a8 (.t a8) a8,?_⟩
           refine .inl ?_
           refine⟨⟨([],j2 [_,c8]),a8⟩,?_⟩
           refine A9.K3 (fun y x => { x with A:=y }) A3 (.t rfl) (.t rfl) .z (fun _ _=>rfl) ?_
           refine⟨⟨([],j2 [_,c8]),a8⟩,?_⟩
           refine A9.K3 (fun y x => { x with N:=y }) A3 (.t rfl) (.t rfl) .z (fun _ _=>rfl) ?_
           refine⟨⟨([],j2 [_,c8]),a8⟩,?_⟩
           show C4 _ _ _ _ _ [] ((43,_)::(42,_)::(41,_)::(40,_)::(39,_)::(38,_)::(37,_)::(36,_)::_) _
           refine .q 7 hG ?_
           refine⟨_,.r1 a8 (.cell q9 a8 .z1),?_⟩
           first|(rcases n with _|⟨a0,_|⟨a1,_|⟨a2,_|⟨a3,_|⟨a4,_|⟨a5,t⟩⟩⟩⟩⟩⟩<;>simp at hnl;have h22:k=1∨k=2∨k=3∨k=4∨k=5∨k=6∨k=7∨k=8∨k=9∨k=10∨k=11∨k=12∨k=13∨k=14∨k=15∨k=16∨k=17∨k=18∨k=19∨k=20∨k=21∨k=22:=(by omega);rcases h22 with rfl|rfl|rfl|rfl|rfl|rfl|rfl|rfl|rfl|rfl|rfl|rfl|rfl|rfl|rfl|rfl|rfl|rfl|rfl|rfl|rfl|rfl<;>first|(exfalso;omega)|rfl)|(obtain rfl:k=1:=(by omega);rcases n with _|⟨a0,_|⟨a1,_|⟨a2,_|⟨a3,_|⟨a4,_|⟨a5,t⟩⟩⟩⟩⟩⟩<;>simp [C3] at hn;rfl)
          ·refine .q 5 hG ⟨fun hc33 => ?_,fun hc33 => ?_⟩
           ·have hnl:n.length=2:=(by rw [hn];unfold C3;simp [*])
            refine .D7 [j0,j1] (by kernel_rfl) 10 [[],[(36,0)],[(37,1)],[],[(39,3)],[(40,4)],[],[(42,6),(38,2)],[],[(43,8),(41,5)]] [7,9] a8 (by kernel_rfl) a8 (by kernel_rfl) (by decide) ?_
            refine⟨_,fun H=>j7.move (.t a8) a8,?_⟩
            refine⟨_,fun H=>j7.idx A3 underlying23 (.t a8) (.i a8) (by first|omega|(simp;done)|(simp;omega)|(simp at *;omega)) (by first|omega|(simp;done)|(simp;omega)|(simp at *;omega)) a8,?_⟩
            refine⟨_,fun H=>j7.F1 A3 (.t a8) a8,?_⟩
            refine⟨_,fun H=>j7.move (.t a8) a8,?_⟩
            refine⟨_,fun H=>j7.idx A3 underlying23 (.t a8) (.i a8) (by first|omega|(simp;done)|(simp;omega)|(simp at *;omega)) (by first|omega|(simp;done)|(simp;omega)|(simp at *;omega)) a8,?_⟩
            refine⟨_,fun H=>j7.F1 A3 (.t a8) a8,?_⟩
            refine⟨_,fun H=>j7.y7 j4.l1 F5 a8 (.t a8) a8,?_⟩
            refine .inl ?_
            refine⟨_,fun H=>j7.y7 j4.l3 R1 a8 (.t a8) a8,?_⟩
            refine .inl ?_
            refine⟨⟨([],j2 [_,c8]),a8⟩,?_⟩
            refine A9.K3 (fun y x => { x with A:=y }) A3 (.t rfl) (.t rfl) .z (fun _ _=>rfl) ?_
            refine⟨⟨([],j2 [_,c8]),a8⟩,?_⟩
            refine A9.K3 (fun y x => { x with N:=y }) A3 (.t rfl) (.t rfl) .z (fun _ _=>rfl) ?_
            refine⟨⟨([],j2 [_,c8]),a8⟩,?_⟩
            show C4 _ _ _ _ _ [] ((43,_)::(42,_)::(41,_)::(40,_)::(39,_)::(38,_)::(37,_)::(36,_)::_) _
            refine .q 7 hG ?_
            refine⟨_,.r1 a8 (.cell q9 a8 .z1),?_⟩
            first|(rcases n with _|⟨a0,_|⟨a1,_|⟨a2,_|⟨a3,_|⟨a4,_|⟨a5,t⟩⟩⟩⟩⟩⟩<;>simp at hnl;have h22:k=1∨k=2∨k=3∨k=4∨k=5∨k=6∨k=7∨k=8∨k=9∨k=10∨k=11∨k=12∨k=13∨k=14∨k=15∨k=16∨k=17∨k=18∨k=19∨k=20∨k=21∨k=22:=(by omega);rcases h22 with rfl|rfl|rfl|rfl|rfl|rfl|rfl|rfl|rfl|rfl|rfl|rfl|rfl|rfl|rfl|rfl|rfl|rfl|rfl|rfl|rfl|rfl<;>first|(exfalso;omega)|rfl)|(obtain rfl:k=1:=(by omega);rcases n with _|⟨a0,_|⟨a1,_|⟨a2,_|⟨a3,_|⟨a4,_|⟨a5,t⟩⟩⟩⟩⟩⟩<;>simp [C3] at hn;rfl)
           ·refine .q 7 hG ⟨fun hc44 => ?_,fun hc44 => ?_⟩
            ·refine .q 2 hG ⟨fun hc44y => ?_,fun y=>absurd hc44 y⟩
             have hnl:n.length=2:=(by rw [hn];unfold C3;simp [*])
             refine .D7 [j0,j1] (by kernel_rfl) 10 [[],[(47,0)],[(48,1)],[],[(50,3)],[(51,4)],[],[(53,6),(49,2)],[],[(54,8),(52,5)]] [7,9] a8 (by kernel_rfl) a8 (by kernel_rfl) (by decide) ?_
             refine⟨_,fun H=>j7.move (.t a8) a8,?_⟩
             refine⟨_,fun H=>j7.idx A3 underlying23 (.t a8) (.i a8) (by first|omega|(simp;done)|(simp;omega)|(simp at *;omega)) (by first|omega|(simp;done)|(simp;omega)|(simp at *;omega)) a8,?_⟩
             refine⟨_,fun H=>j7.F1 A3 (.t a8) a8,?_⟩
             refine⟨_,fun H=>j7.move (.t a8) a8,?_⟩
             refine⟨_,fun H=>j7.idx A3 underlying23 (.t a8) (.i a8) (by first|omega|(simp;done)|(simp;omega)|(simp at *;omega)) (by first|omega|(simp;done)|(simp;omega)|(simp at *;omega)) a8,?_⟩
             refine⟨_,fun H=>j7.F1 A3 (.t a8) a8,?_⟩
             refine⟨_,fun H=>j7.y7 j4.l1 F5 a8 (.t a8) a8,?_⟩
             refine .inl ?_
             refine⟨_,fun H=>j7.y7 j4.l2 I8 a8 (.t a8) a8,?_⟩
             refine .inl ?_
             refine⟨⟨([],j2 [_,c8]),a8⟩,?_⟩
             refine A9.K3 (fun y x => { x with A:=y }) A3 (.t rfl) (.t rfl) .z (fun _ _=>rfl) ?_
             refine⟨⟨([],j2 [_,c8]),a8⟩,?_⟩
             refine A9.K3 (fun y x => { x with B:=y }) A3 (.t rfl) (.t rfl) .z (fun _ _=>rfl) ?_
             refine⟨⟨([],j2 [_,c8]),a8⟩,?_⟩
             show C4 _ _ _ _ _ [] ((54,_)::(53,_)::(52,_)::(51,_)::(50,_)::(49,_)::(48,_)::(47,_)::_) _
             refine .q 7 hG ?_
             refine⟨_,.r1 a8 (.cell q9 a8 .z1),?_⟩
             first|(rcases n with _|⟨a0,_|⟨a1,_|⟨a2,_|⟨a3,_|⟨a4,_|⟨a5,t⟩⟩⟩⟩⟩⟩<;>simp at hnl;have h22:k=1∨k=2∨k=3∨k=4∨k=5∨k=6∨k=7∨k=8∨k=9∨k=10∨k=11∨k=12∨k=13∨k=14∨k=15∨k=16∨k=17∨k=18∨k=19∨k=20∨k=21∨k=22:=(by omega);rcases h22 with rfl|rfl|rfl|rfl|rfl|rfl|rfl|rfl|rfl|rfl|rfl|rfl|rfl|rfl|rfl|rfl|rfl|rfl|rfl|rfl|rfl|rfl<;>first|(exfalso;omega)|rfl)|(obtain rfl:k=1:=(by omega);rcases n with _|⟨a0,_|⟨a1,_|⟨a2,_|⟨a3,_|⟨a4,_|⟨a5,t⟩⟩⟩⟩⟩⟩<;>simp [C3] at hn;rfl)
            ·refine .q 5 hG ⟨fun hc44 => ?_,fun hc44 => ?_⟩
             ·have hnl:n.length=2:=(by rw [hn];unfold C3;simp [*])
              refine .D7 [j0,j1] (by kernel_rfl) 10 [[],[(47,0)],[(48,1)],[],[(50,3)],[(51,4)],[],[(53,6),(49,2)],[],[(54,8),(52,5)]] [7,9] a8 (by kernel_rfl) a8 (by kernel_rfl) (by decide) ?_
              refine⟨_,fun H=>j7.move (.t a8) a8,?_⟩
              refine⟨_,fun H=>j7.idx A3 underlying23 (.t a8) (.i a8) (by first|omega|(simp;done)|(simp;omega)|(simp at *;omega)) (by first|omega|(simp;done)|(simp;omega)|(simp at *;omega)) a8,?_⟩
              refine⟨_,fun H=>j7.F1 A3 (.t a8) a8,?_⟩
              refine⟨_,fun H=>j7.move (.t a8) a8,?_⟩
              refine⟨_,fun H=>j7.idx A3 underlying23 (.t a8) (.i a8) (by first|omega|(simp;done)|(simp;omega)|(simp at *;omega)) (by first|omega|(simp;done)|(simp;omega)|(simp at *;omega)) a8,?_⟩
              refine⟨_,fun H=>j7.F1 A3 (.t a8) a8,?_⟩
              refine⟨_,fun H=>j7.y7 j4.l1 F5 a8 (.t a8) a8,?_⟩
              refine .inl ?_
              refine⟨_,fun H=>j7.y7 j4.l2 I8 a8 (.t a8) a8,?_⟩
              refine .inl ?_
              refine⟨⟨([],j2 [_,c8]),a8⟩,?_⟩
              refine A9.K3 (fun y x => { x with A:=y }) A3 (.t rfl) (.t rfl) .z (fun _ _=>rfl) ?_
              refine⟨⟨([],j2 [_,c8]),a8⟩,?_⟩
              refine A9.K3 (fun y x => { x with B:=y }) A3 (.t rfl) (.t rfl) .z (fun _ _=>rfl) ?_
              refine⟨⟨([],j2 [_,c8]),a8⟩,?_⟩
              show C4 _ _ _ _ _ [] ((54,_)::(53,_)::(52,_)::(51,_)::(50,_)::(49,_)::(48,_)::(47,_)::_) _
              refine .q 7 hG ?_
              refine⟨_,.r1 a8 (.cell q9 a8 .z1),?_⟩
              first|(rcases n with _|⟨a0,_|⟨a1,_|⟨a2,_|⟨a3,_|⟨a4,_|⟨a5,t⟩⟩⟩⟩⟩⟩<;>simp at hnl;have h22:k=1∨k=2∨k=3∨k=4∨k=5∨k=6∨k=7∨k=8∨k=9∨k=10∨k=11∨k=12∨k=13∨k=14∨k=15∨k=16∨k=17∨k=18∨k=19∨k=20∨k=21∨k=22:=(by omega);rcases h22 with rfl|rfl|rfl|rfl|rfl|rfl|rfl|rfl|rfl|rfl|rfl|rfl|rfl|rfl|rfl|rfl|rfl|rfl|rfl|rfl|rfl|rfl<;>first|(exfalso;omega)|rfl)|(obtain rfl:k=1:=(by omega);rcases n with _|⟨a0,_|⟨a1,_|⟨a2,_|⟨a3,_|⟨a4,_|⟨a5,t⟩⟩⟩⟩⟩⟩<;>simp [C3] at hn;rfl)
             ·refine .q 6 hG ⟨fun hc55 => ?_,fun hc55 => ?_⟩
              ·have hnl:n.length=2:=(by rw [hn];unfold C3;simp [*])
               refine .D7 [j0,j1] (by kernel_rfl) 13 [[],[(57,0)],[(58,1)],[],[(60,3)],[(61,4)],[],[],[(64,7),(59,2)],[],[(65,9),(62,5)],[],[(66,11),(63,6)]] [8,10,12] a8 (by kernel_rfl) a8 (by kernel_rfl) (by decide) ?_
               refine⟨_,fun H=>j7.move (.t a8) a8,?_⟩
               refine⟨_,fun H=>j7.idx A3 underlying23 (.t a8) (.i a8) (by first|omega|(simp;done)|(simp;omega)|(simp at *;omega)) (by first|omega|(simp;done)|(simp;omega)|(simp at *;omega)) a8,?_⟩
               refine⟨_,fun H=>j7.F1 A3 (.t a8) a8,?_⟩
               refine⟨_,fun H=>j7.move (.t a8) a8,?_⟩
               refine⟨_,fun H=>j7.idx A3 underlying23 (.t a8) (.i a8) (by first|omega|(simp;done)|(simp;omega)|(simp at *;omega)) (by first|omega|(simp;done)|(simp;omega)|(simp at *;omega)) a8,?_⟩
               refine⟨_,fun H=>j7.F1 A3 (.t a8) a8,?_⟩
               refine⟨_,fun H=>j7.move (.t a8) a8,?_⟩
               refine⟨_,fun H=>j7.y7 j4.l1 F5 a8 (.t a8) a8,?_⟩
               refine .inl ?_
               refine⟨_,fun H=>j7.y7 j4.l2 I8 a8 (.t a8) a8,?_⟩
               refine .inl ?_
               refine⟨_,fun H=>j7.y7 j4.l6 a2N a8 (.t a8) a8,?_⟩
               refine .inl ?_
               refine⟨⟨([],j2 [_,c8]),a8⟩,?_⟩
               refine A9.K3 (fun y x => { x with A:=y }) A3 (.t rfl) (.t rfl) .z (fun _ _=>rfl) ?_
               refine⟨⟨([],j2 [_,c8]),a8⟩,?_⟩
               refine A9.K3 (fun y x => { x with B:=y }) A3 (.t rfl) (.t rfl) .z (fun _ _=>rfl) ?_
               refine⟨⟨([],j2 [_,c8]),a8⟩,?_⟩
               refine A9.K3 (fun y x => { x with F6:=y }) ty9 (.t rfl) (.t rfl) .z (fun _ _=>rfl) ?_
               refine⟨⟨([],j2 [_,c8]),a8⟩,?_⟩
               show C4 _ _ _ _ _ [] ((66,_)::(65,_)::(64,_)::(63,_)::(62,_)::(61,_)::(60,_)::(59,_)::(58,_)::(57,_)::_) _
               refine .q 7 hG ?_
               refine⟨_,.r1 a8 (.cell q9 a8 .z1),?_⟩
               first|(rcases n with _|⟨a0,_|⟨a1,_|⟨a2,_|⟨a3,_|⟨a4,_|⟨a5,t⟩⟩⟩⟩⟩⟩<;>simp at hnl;have h22:k=1∨k=2∨k=3∨k=4∨k=5∨k=6∨k=7∨k=8∨k=9∨k=10∨k=11∨k=12∨k=13∨k=14∨k=15∨k=16∨k=17∨k=18∨k=19∨k=20∨k=21∨k=22:=(by omega);rcases h22 with rfl|rfl|rfl|rfl|rfl|rfl|rfl|rfl|rfl|rfl|rfl|rfl|rfl|rfl|rfl|rfl|rfl|rfl|rfl|rfl|rfl|rfl<;>first|(exfalso;omega)|rfl)|(obtain rfl:k=1:=(by omega);rcases n with _|⟨a0,_|⟨a1,_|⟨a2,_|⟨a3,_|⟨a4,_|⟨a5,t⟩⟩⟩⟩⟩⟩<;>simp [C3] at hn;rfl)
              ·refine .q 7 hG ⟨fun hc67 => ?_,fun hc67 => ?_⟩
               ·refine .q 2 hG ⟨fun hc67y => ?_,fun y=>absurd hc67 y⟩
                have hnl:n.length=3:=(by rw [hn];unfold C3;simp [*])
                refine .D7 [j0,j1] (by kernel_rfl) 15 [[],[(71,0)],[(72,1)],[],[(74,3)],[(75,4)],[],[(77,6)],[(78,7)],[],[(80,9),(73,2)],[],[(81,11),(76,5)],[],[(82,13),(79,8)]] [10,12,14] a8 (by kernel_rfl) a8 (by kernel_rfl) (by decide) ?_
                refine⟨_,fun H=>j7.move (.t a8) a8,?_⟩
                refine⟨_,fun H=>j7.idx A3 underlying23 (.t a8) (.i a8) (by first|omega|(simp;done)|(simp;omega)|(simp at *;omega)) (by first|omega|(simp;done)|(simp;omega)|(simp at *;omega)) a8,?_⟩
                refine⟨_,fun H=>j7.F1 A3 (.t a8) a8,?_⟩
                refine⟨_,fun H=>j7.move (.t a8) a8,?_⟩
                refine⟨_,fun H=>j7.idx A3 underlying23 (.t a8) (.i a8) (by first|omega|(simp;done)|(simp;omega)|(simp at *;omega)) (by first|omega|(simp;done)|(simp;omega)|(simp at *;omega)) a8,?_⟩
                refine⟨_,fun H=>j7.F1 A3 (.t a8) a8,?_⟩
                refine⟨_,fun H=>j7.move (.t a8) a8,?_⟩
                refine⟨_,fun H=>j7.idx A3 underlying23 (.t a8) (.i a8) (by first|omega|(simp;done)|(simp;omega)|(simp at *;omega)) (by first|omega|(simp;done)|(simp;omega)|(simp at *;omega)) a8,?_⟩
                refine⟨_,fun H=>j7.F1 A3 (.t a8) a8,?_⟩
                refine⟨_,fun H=>j7.y7 j4.l1 F5 a8 (.t a8) a8,?_⟩
                refine .inl ?_
                refine⟨_,fun H=>j7.y7 j4.l2 I8 a8 (.t a8) a8,?_⟩
                refine .inl ?_
                refine⟨_,fun H=>j7.y7 j4.l3 R1 a8 (.t a8) a8,?_⟩
                refine .inl ?_
                refine⟨⟨([],j2 [_,c8]),a8⟩,?_⟩
                refine A9.K3 (fun y x => { x with A:=y }) A3 (.t rfl) (.t rfl) .z (fun _ _=>rfl) ?_
                refine⟨⟨([],j2 [_,c8]),a8⟩,?_⟩
                refine A9.K3 (fun y x => { x with B:=y }) A3 (.t rfl) (.t rfl) .z (fun _ _=>rfl) ?_
                refine⟨⟨([],j2 [_,c8]),a8⟩,?_⟩
                refine A9.K3 (fun y x => { x with N:=y }) A3 (.t rfl) (.t rfl) .z (fun _ _=>rfl) ?_
                refine⟨⟨([],j2 [_,c8]),a8⟩,?_⟩
                show C4 _ _ _ _ _ [] ((82,_)::(81,_)::(80,_)::(79,_)::(78,_)::(77,_)::(76,_)::(75,_)::(74,_)::(73,_)::(72,_)::(71,_)::_) _
                refine .q 7 hG ?_
                refine⟨_,.r1 a8 (.cell q9 a8 .z1),?_⟩
                first|(rcases n with _|⟨a0,_|⟨a1,_|⟨a2,_|⟨a3,_|⟨a4,_|⟨a5,t⟩⟩⟩⟩⟩⟩<;>simp at hnl;have h22:k=1∨k=2∨k=3∨k=4∨k=5∨k=6∨k=7∨k=8∨k=9∨k=10∨k=11∨k=12∨k=13∨k=14∨k=15∨k=16∨k=17∨k=18∨k=19∨k=20∨k=21∨k=22:=(by omega);rcases h22 with rfl|rfl|rfl|rfl|rfl|rfl|rfl|rfl|rfl|rfl|rfl|rfl|rfl|rfl|rfl|rfl|rfl|rfl|rfl|rfl|rfl|rfl<;>first|(exfalso;omega)|rfl)|(obtain rfl:k=1:=(by omega);rcases n with _|⟨a0,_|⟨a1,_|⟨a2,_|⟨a3,_|⟨a4,_|⟨a5,t⟩⟩⟩⟩⟩⟩<;>simp [C3] at hn;rfl)
               ·refine .q 6 hG ⟨fun hc67 => ?_,fun hc67 => ?_⟩
                ·refine .q 2 hG ⟨fun hc67y => ?_,fun y=>absurd hc67 y⟩
                 have hnl:n.length=3:=(by rw [hn];unfold C3;simp [*])
                 refine .D7 [j0,j1] (by kernel_rfl) 15 [[],[(71,0)],[(72,1)],[],[(74,3)],[(75,4)],[],[(77,6)],[(78,7)],[],[(80,9),(73,2)],[],[(81,11),(76,5)],[],[(82,13),(79,8)]] [10,12,14] a8 (by kernel_rfl) a8 (by kernel_rfl) (by decide) ?_
                 refine⟨_,fun H=>j7.move (.t a8) a8,?_⟩
                 refine⟨_,fun H=>j7.idx A3 underlying23 (.t a8) (.i a8) (by first|omega|(simp;done)|(simp;omega)|(simp at *;omega)) (by first|omega|(simp;done)|(simp;omega)|(simp at *;omega)) a8,?_⟩
                 refine⟨_,fun H=>j7.F1 A3 (.t a8) a8,?_⟩
                 refine⟨_,fun H=>j7.move (.t a8) a8,?_⟩
                 refine⟨_,fun H=>j7.idx A3 underlying23 (.t a8) (.i a8) (by first|omega|(simp;done)|(simp;omega)|(simp at *;omega)) (by first|omega|(simp;done)|(simp;omega)|(simp at *;omega)) a8,?_⟩
                 refine⟨_,fun H=>j7.F1 A3 (.t a8) a8,?_⟩
                 refine⟨_,fun H=>j7.move (.t a8) a8,?_⟩
                 refine⟨_,fun H=>j7.idx A3 underlying23 (.t a8) (.i a8) (by first|omega|(simp;done)|(simp;omega)|(simp at *;omega)) (by first|omega|(simp;done)|(simp;omega)|(simp at *;omega)) a8,?_⟩
                 refine⟨_,fun H=>j7.F1 A3 (.t a8) a8,?_⟩
                 refine⟨_,fun H=>j7.y7 j4.l1 F5 a8 (.t a8) a8,?_⟩
                 refine .inl ?_
                 refine⟨_,fun H=>j7.y7 j4.l2 I8 a8 (.t a8) a8,?_⟩
                 refine .inl ?_
                 refine⟨_,fun H=>j7.y7 j4.l3 R1 a8 (.t a8) a8,?_⟩
                 refine .inl ?_
                 refine⟨⟨([],j2 [_,c8]),a8⟩,?_⟩
                 refine A9.K3 (fun y x => { x with A:=y }) A3 (.t rfl) (.t rfl) .z (fun _ _=>rfl) ?_
                 refine⟨⟨([],j2 [_,c8]),a8⟩,?_⟩
                 refine A9.K3 (fun y x => { x with B:=y }) A3 (.t rfl) (.t rfl) .z (fun _ _=>rfl) ?_
                 refine⟨⟨([],j2 [_,c8]),a8⟩,?_⟩
                 refine A9.K3 (fun y x => { x with N:=y }) A3 (.t rfl) (.t rfl) .z (fun _ _=>rfl) ?_
                 refine⟨⟨([],j2 [_,c8]),a8⟩,?_⟩
                 show C4 _ _ _ _ _ [] ((82,_)::(81,_)::(80,_)::(79,_)::(78,_)::(77,_)::(76,_)::(75,_)::(74,_)::(73,_)::(72,_)::(71,_)::_) _
                 refine .q 7 hG ?_
                 refine⟨_,.r1 a8 (.cell q9 a8 .z1),?_⟩
                 first|(rcases n with _|⟨a0,_|⟨a1,_|⟨a2,_|⟨a3,_|⟨a4,_|⟨a5,t⟩⟩⟩⟩⟩⟩<;>simp at hnl;have h22:k=1∨k=2∨k=3∨k=4∨k=5∨k=6∨k=7∨k=8∨k=9∨k=10∨k=11∨k=12∨k=13∨k=14∨k=15∨k=16∨k=17∨k=18∨k=19∨k=20∨k=21∨k=22:=(by omega);rcases h22 with rfl|rfl|rfl|rfl|rfl|rfl|rfl|rfl|rfl|rfl|rfl|rfl|rfl|rfl|rfl|rfl|rfl|rfl|rfl|rfl|rfl|rfl<;>first|(exfalso;omega)|rfl)|(obtain rfl:k=1:=(by omega);rcases n with _|⟨a0,_|⟨a1,_|⟨a2,_|⟨a3,_|⟨a4,_|⟨a5,t⟩⟩⟩⟩⟩⟩<;>simp [C3] at hn;rfl)
                ·refine .q 5 hG ⟨fun hc67 => ?_,fun hc67 => ?_⟩
                 ·have hnl:n.length=3:=(by rw [hn];unfold C3;simp [*])
                  refine .D7 [j0,j1] (by kernel_rfl) 15 [[],[(71,0)],[(72,1)],[],[(74,3)],[(75,4)],[],[(77,6)],[(78,7)],[],[(80,9),(73,2)],[],[(81,11),(76,5)],[],[(82,13),(79,8)]] [10,12,14] a8 (by kernel_rfl) a8 (by kernel_rfl) (by decide) ?_
                  refine⟨_,fun H=>j7.move (.t a8) a8,?_⟩
                  refine⟨_,fun H=>j7.idx A3 underlying23 (.t a8) (.i a8) (by first|omega|(simp;done)|(simp;omega)|(simp at *;omega)) (by first|omega|(simp;done)|(simp;omega)|(simp at *;omega)) a8,?_⟩
                  refine⟨_,fun H=>j7.F1 A3 (.t a8) a8,?_⟩
                  refine⟨_,fun H=>j7.move (.t a8) a8,?_⟩
                  refine⟨_,fun H=>j7.idx A3 underlying23 (.t a8) (.i a8) (by first|omega|(simp;done)|(simp;omega)|(simp at *;omega)) (by first|omega|(simp;done)|(simp;omega)|(simp at *;omega)) a8,?_⟩
                  refine⟨_,fun H=>j7.F1 A3 (.t a8) a8,?_⟩
                  refine⟨_,fun H=>j7.move (.t a8) a8,?_⟩
                  refine⟨_,fun H=>j7.idx A3 underlying23 (.t a8) (.i a8) (by first|omega|(simp;done)|(simp;omega)|(simp at *;omega)) (by first|omega|(simp;done)|(simp;omega)|(simp at *;omega)) a8,?_⟩
                  refine⟨_,fun H=>j7.F1 A3 (.t a8) a8,?_⟩
                  refine⟨_,fun H=>j7.y7 j4.l1 F5 a8 (.t a8) a8,?_⟩
                  refine .inl ?_
                  refine⟨_,fun H=>j7.y7 j4.l2 I8 a8 (.t a8) a8,?_⟩
                  refine .inl ?_
                  refine⟨_,fun H=>j7.y7 j4.l3 R1 a8 (.t a8) a8,?_⟩
                  refine .inl ?_
                  refine⟨⟨([],j2 [_,c8]),a8⟩,?_⟩
                  refine A9.K3 (fun y x => { x with A:=y }) A3 (.t rfl) (.t rfl) .z (fun _ _=>rfl) ?_
                  refine⟨⟨([],j2 [_,c8]),a8⟩,?_⟩
                  refine A9.K3 (fun y x => { x with B:=y }) A3 (.t rfl) (.t rfl) .z (fun _ _=>rfl) ?_
                  refine⟨⟨([],j2 [_,c8]),a8⟩,?_⟩
                  refine A9.K3 (fun y x => { x with N:=y }) A3 (.t rfl) (.t rfl) .z (fun _ _=>rfl) ?_
                  refine⟨⟨([],j2 [_,c8]),a8⟩,?_⟩
                  show C4 _ _ _ _ _ [] ((82,_)::(81,_)::(80,_)::(79,_)::(78,_)::(77,_)::(76,_)::(75,_)::(74,_)::(73,_)::(72,_)::(71,_)::_) _
                  refine .q 7 hG ?_
                  refine⟨_,.r1 a8 (.cell q9 a8 .z1),?_⟩
                  first|(rcases n with _|⟨a0,_|⟨a1,_|⟨a2,_|⟨a3,_|⟨a4,_|⟨a5,t⟩⟩⟩⟩⟩⟩<;>simp at hnl;have h22:k=1∨k=2∨k=3∨k=4∨k=5∨k=6∨k=7∨k=8∨k=9∨k=10∨k=11∨k=12∨k=13∨k=14∨k=15∨k=16∨k=17∨k=18∨k=19∨k=20∨k=21∨k=22:=(by omega);rcases h22 with rfl|rfl|rfl|rfl|rfl|rfl|rfl|rfl|rfl|rfl|rfl|rfl|rfl|rfl|rfl|rfl|rfl|rfl|rfl|rfl|rfl|rfl<;>first|(exfalso;omega)|rfl)|(obtain rfl:k=1:=(by omega);rcases n with _|⟨a0,_|⟨a1,_|⟨a2,_|⟨a3,_|⟨a4,_|⟨a5,t⟩⟩⟩⟩⟩⟩<;>simp [C3] at hn;rfl)
                 ·refine .q 6 hG ⟨fun hc83 => ?_,fun hc83 => ?_⟩
                  ·have hnl:n.length=5:=(by rw [hn];unfold C3;simp [*])
                   refine .D7 [j0,j1] (by kernel_rfl) 24 [[],[(85,0)],[(86,1)],[],[(88,3)],[(89,4)],[],[(91,6)],[(92,7)],[],[(94,9)],[(95,10)],[],[(97,12)],[(98,13)],[(96,11),(99,14)],[],[(101,16),(87,2)],[],[(102,18),(90,5)],[],[(103,20),(93,8)],[],[(104,22),(100,15)]] [17,19,21,23] a8 (by kernel_rfl) a8 (by kernel_rfl) (by decide) ?_
                   refine⟨_,fun H=>j7.move (.t a8) a8,?_⟩
                   refine⟨_,fun H=>j7.idx A3 underlying23 (.t a8) (.i a8) (by first|omega|(simp;done)|(simp;omega)|(simp at *;omega)) (by first|omega|(simp;done)|(simp;omega)|(simp at *;omega)) a8,?_⟩
                   refine⟨_,fun H=>j7.F1 A3 (.t a8) a8,?_⟩
                   refine⟨_,fun H=>j7.move (.t a8) a8,?_⟩
                   refine⟨_,fun H=>j7.idx A3 underlying23 (.t a8) (.i a8) (by first|omega|(simp;done)|(simp;omega)|(simp at *;omega)) (by first|omega|(simp;done)|(simp;omega)|(simp at *;omega)) a8,?_⟩
                   refine⟨_,fun H=>j7.F1 A3 (.t a8) a8,?_⟩
                   refine⟨_,fun H=>j7.move (.t a8) a8,?_⟩
                   refine⟨_,fun H=>j7.idx A3 underlying23 (.t a8) (.i a8) (by first|omega|(simp;done)|(simp;omega)|(simp at *;omega)) (by first|omega|(simp;done)|(simp;omega)|(simp at *;omega)) a8,?_⟩
                   refine⟨_,fun H=>j7.F1 A3 (.t a8) a8,?_⟩
                   refine⟨_,fun H=>j7.move (.t a8) a8,?_⟩
                   refine⟨_,fun H=>j7.idx A3 underlying23 (.t a8) (.i a8) (by first|omega|(simp;done)|(simp;omega)|(simp at *;omega)) (by first|omega|(simp;done)|(simp;omega)|(simp at *;omega)) a8,?_⟩
                   refine⟨_,fun H=>j7.F1 A3 (.t a8) a8,?_⟩
                   refine⟨_,fun H=>j7.move (.t a8) a8,?_⟩
                   refine⟨_,fun H=>j7.idx A3 underlying23 (.t a8) (.i a8) (by first|omega|(simp;done)|(simp;omega)|(simp at *;omega)) (by first|omega|(simp;done)|(simp;omega)|(simp at *;omega)) a8,?_⟩
                   refine⟨_,fun H=>j7.F1 A3 (.t a8) a8,?_⟩
                   refine⟨_,fun H=>j7.bS2 o9.l0 o9.l1 a8 a5X a7w (fun c0 c1=>(⟨c0,c1⟩:o9)) (fun _ _=>a8) a8 a8 a8 (.t a8) (.t a8) a8,?_⟩
                   refine⟨_,fun H=>j7.y7 j4.l1 F5 a8 (.t a8) a8,?_⟩
                   refine .inl ?_
                   refine⟨_,fun H=>j7.y7 j4.l2 I8 a8 (.t a8) a8,?_⟩
                   refine .inl ?_
                   refine⟨_,fun H=>j7.y7 j4.l3 R1 a8 (.t a8) a8,?_⟩
                   refine .inl ?_
                   refine⟨_,fun H=>j7.y7 j4.l5 a5A a8 (.t a8) a8,?_⟩
                   refine .inl ?_
                   refine⟨⟨([],j2 [_,c8]),a8⟩,?_⟩
                   refine A9.K3 (fun y x => { x with A:=y }) A3 (.t rfl) (.t rfl) .z (fun _ _=>rfl) ?_
                   refine⟨⟨([],j2 [_,c8]),a8⟩,?_⟩
                   refine A9.K3 (fun y x => { x with B:=y }) A3 (.t rfl) (.t rfl) .z (fun _ _=>rfl) ?_
                   refine⟨⟨([],j2 [_,c8]),a8⟩,?_⟩
                   refine A9.K3 (fun y x => { x with N:=y }) A3 (.t rfl) (.t rfl) .z (fun _ _=>rfl) ?_
                   refine⟨⟨([],j2 [_,c8]),a8⟩,?_⟩
                   refine A9.K3 (fun y x => { x with T5:=y }) a5X (.t rfl) (.t rfl) .z (fun _ _=>rfl) ?_
                   refine⟨⟨([],j2 [_,c8]),a8⟩,?_⟩
                   show C4 _ _ _ _ _ [] ((104,_)::(103,_)::(102,_)::(101,_)::(100,_)::(99,_)::(98,_)::(97,_)::(96,_)::(95,_)::(94,_)::(93,_)::(92,_)::(91,_)::(90,_)::(89,_)::(88,_)::(87,_)::(86,_)::(85,_)::_) _
                   refine .q 7 hG ?_
                   refine⟨_,.r1 a8 (.cell q9 a8 .z1),?_⟩
                   first|(rcases n with _|⟨a0,_|⟨a1,_|⟨a2,_|⟨a3,_|⟨a4,_|⟨a5,t⟩⟩⟩⟩⟩⟩<;>simp at hnl;have h22:k=1∨k=2∨k=3∨k=4∨k=5∨k=6∨k=7∨k=8∨k=9∨k=10∨k=11∨k=12∨k=13∨k=14∨k=15∨k=16∨k=17∨k=18∨k=19∨k=20∨k=21∨k=22:=(by omega);rcases h22 with rfl|rfl|rfl|rfl|rfl|rfl|rfl|rfl|rfl|rfl|rfl|rfl|rfl|rfl|rfl|rfl|rfl|rfl|rfl|rfl|rfl|rfl<;>first|(exfalso;omega)|rfl)|(obtain rfl:k=1:=(by omega);rcases n with _|⟨a0,_|⟨a1,_|⟨a2,_|⟨a3,_|⟨a4,_|⟨a5,t⟩⟩⟩⟩⟩⟩<;>simp [C3] at hn;rfl)
                  ·refine .q 6 hG ⟨fun hc105 => ?_,fun hc105 => ?_⟩
                   ·have hnl:n.length=5:=(by rw [hn];unfold C3;simp [*])
                    refine .D7 [j0,j1] (by kernel_rfl) 25 [[],[(107,0)],[(108,1)],[],[(110,3)],[(111,4)],[],[(113,6)],[(114,7)],[],[(116,9)],[(117,10)],[],[(119,12)],[(120,13)],[],[(118,11),(121,14),(122,15)],[],[(124,17),(109,2)],[],[(125,19),(112,5)],[],[(126,21),(115,8)],[],[(127,23),(123,16)]] [18,20,22,24] a8 (by kernel_rfl) a8 (by kernel_rfl) (by decide) ?_
                    refine⟨_,fun H=>j7.move (.t a8) a8,?_⟩
                    refine⟨_,fun H=>j7.idx A3 underlying23 (.t a8) (.i a8) (by first|omega|(simp;done)|(simp;omega)|(simp at *;omega)) (by first|omega|(simp;done)|(simp;omega)|(simp at *;omega)) a8,?_⟩
                    refine⟨_,fun H=>j7.F1 A3 (.t a8) a8,?_⟩
                    refine⟨_,fun H=>j7.move (.t a8) a8,?_⟩
                    refine⟨_,fun H=>j7.idx A3 underlying23 (.t a8) (.i a8) (by first|omega|(simp;done)|(simp;omega)|(simp at *;omega)) (by first|omega|(simp;done)|(simp;omega)|(simp at *;omega)) a8,?_⟩
                    refine⟨_,fun H=>j7.F1 A3 (.t a8) a8,?_⟩
                    refine⟨_,fun H=>j7.move (.t a8) a8,?_⟩
                    refine⟨_,fun H=>j7.idx A3 underlying23 (.t a8) (.i a8) (by first|omega|(simp;done)|(simp;omega)|(simp at *;omega)) (by first|omega|(simp;done)|(simp;omega)|(simp at *;omega)) a8,?_⟩
                    refine⟨_,fun H=>j7.F1 A3 (.t a8) a8,?_⟩
                    refine⟨_,fun H=>j7.move (.t a8) a8,?_⟩
                    refine⟨_,fun H=>j7.idx A3 underlying23 (.t a8) (.i a8) (by first|omega|(simp;done)|(simp;omega)|(simp at *;omega)) (by first|omega|(simp;done)|(simp;omega)|(simp at *;omega)) a8,?_⟩
                    refine⟨_,fun H=>j7.F1 A3 (.t a8) a8,?_⟩
                    refine⟨_,fun H=>j7.move (.t a8) a8,?_⟩
                    refine⟨_,fun H=>j7.idx A3 underlying23 (.t a8) (.i a8) (by first|omega|(simp;done)|(simp;omega)|(simp at *;omega)) (by first|omega|(simp;done)|(simp;omega)|(simp at *;omega)) a8,?_⟩
                    refine⟨_,fun H=>j7.F1 A3 (.t a8) a8,?_⟩
                    refine⟨_,fun H=>j7.move (.t a8) a8,?_⟩
                    refine⟨_,fun H=>j7.bS3 j8.l0 j8.l1 j8.l3 a8 W8 a5z (fun c0 c1 c3=>(⟨c0,c1,0,c3⟩:j8)) (fun _ _ _=>a8) a8 a8 a8 a8 (.t a8) (.t a8) (.t a8) a8,?_⟩
                    refine⟨_,fun H=>j7.y7 j4.l1 F5 a8 (.t a8) a8,?_⟩
                    refine .inl ?_
                    refine⟨_,fun H=>j7.y7 j4.l2 I8 a8 (.t a8) a8,?_⟩
                    refine .inl ?_
                    refine⟨_,fun H=>j7.y7 j4.l3 R1 a8 (.t a8) a8,?_⟩
                    refine .inl ?_
                    refine⟨_,fun H=>j7.y7 j4.l7 P6 a8 (.t a8) a8,?_⟩
                    refine .inl ?_
                    refine⟨⟨([],j2 [_,c8]),a8⟩,?_⟩
                    refine A9.K3 (fun y x => { x with A:=y }) A3 (.t rfl) (.t rfl) .z (fun _ _=>rfl) ?_
                    refine⟨⟨([],j2 [_,c8]),a8⟩,?_⟩
                    refine A9.K3 (fun y x => { x with B:=y }) A3 (.t rfl) (.t rfl) .z (fun _ _=>rfl) ?_
                    refine⟨⟨([],j2 [_,c8]),a8⟩,?_⟩
                    refine A9.K3 (fun y x => { x with N:=y }) A3 (.t rfl) (.t rfl) .z (fun _ _=>rfl) ?_
                    refine⟨⟨([],j2 [_,c8]),a8⟩,?_⟩
                    refine A9.K3 (fun y x => { x with Context:=y }) W8 (.t rfl) (.t rfl) .z (fun _ _=>rfl) ?_
                    refine⟨⟨([],j2 [_,c8]),a8⟩,?_⟩
                    show C4 _ _ _ _ _ [] ((127,_)::(126,_)::(125,_)::(124,_)::(123,_)::(122,_)::(121,_)::(120,_)::(119,_)::(118,_)::(117,_)::(116,_)::(115,_)::(114,_)::(113,_)::(112,_)::(111,_)::(110,_)::(109,_)::(108,_)::(107,_)::_) _
                    refine .q 7 hG ?_
                    refine⟨_,.r1 a8 (.cell q9 a8 .z1),?_⟩
                    first|(rcases n with _|⟨a0,_|⟨a1,_|⟨a2,_|⟨a3,_|⟨a4,_|⟨a5,t⟩⟩⟩⟩⟩⟩<;>simp at hnl;have h22:k=1∨k=2∨k=3∨k=4∨k=5∨k=6∨k=7∨k=8∨k=9∨k=10∨k=11∨k=12∨k=13∨k=14∨k=15∨k=16∨k=17∨k=18∨k=19∨k=20∨k=21∨k=22:=(by omega);rcases h22 with rfl|rfl|rfl|rfl|rfl|rfl|rfl|rfl|rfl|rfl|rfl|rfl|rfl|rfl|rfl|rfl|rfl|rfl|rfl|rfl|rfl|rfl<;>first|(exfalso;omega)|rfl)|(obtain rfl:k=1:=(by omega);rcases n with _|⟨a0,_|⟨a1,_|⟨a2,_|⟨a3,_|⟨a4,_|⟨a5,t⟩⟩⟩⟩⟩⟩<;>simp [C3] at hn;rfl)
                   ·refine .q 7 hG ⟨fun hc128 => ?_,fun hc128 => ?_⟩
                    ·refine .q 2 hG ⟨fun hc128y => ?_,fun y=>absurd hc128 y⟩
                     have hnl:n.length=4:=(by rw [hn];unfold C3;simp [*])
                     refine .D7 [j0,j1] (by kernel_rfl) 20 [[],[(131,0)],[(132,1)],[],[(134,3)],[(135,4)],[],[(137,6)],[(138,7)],[],[(140,9)],[(141,10)],[],[(139,8),(142,11),(143,12)],[],[(145,14),(133,2)],[],[(146,16),(136,5)],[],[(147,18),(144,13)]] [15,17,19] a8 (by kernel_rfl) a8 (by kernel_rfl) (by decide) ?_
                     refine⟨_,fun H=>j7.move (.t a8) a8,?_⟩
                     refine⟨_,fun H=>j7.idx A3 underlying23 (.t a8) (.i a8) (by first|omega|(simp;done)|(simp;omega)|(simp at *;omega)) (by first|omega|(simp;done)|(simp;omega)|(simp at *;omega)) a8,?_⟩
                     refine⟨_,fun H=>j7.F1 A3 (.t a8) a8,?_⟩
                     refine⟨_,fun H=>j7.move (.t a8) a8,?_⟩
                     refine⟨_,fun H=>j7.idx A3 underlying23 (.t a8) (.i a8) (by first|omega|(simp;done)|(simp;omega)|(simp at *;omega)) (by first|omega|(simp;done)|(simp;omega)|(simp at *;omega)) a8,?_⟩
                     refine⟨_,fun H=>j7.F1 A3 (.t a8) a8,?_⟩
                     refine⟨_,fun H=>j7.move (.t a8) a8,?_⟩
                     refine⟨_,fun H=>j7.idx A3 underlying23 (.t a8) (.i a8) (by first|omega|(simp;done)|(simp;omega)|(simp at *;omega)) (by first|omega|(simp;done)|(simp;omega)|(simp at *;omega)) a8,?_⟩
                     refine⟨_,fun H=>j7.F1 A3 (.t a8) a8,?_⟩
                     refine⟨_,fun H=>j7.move (.t a8) a8,?_⟩
                     refine⟨_,fun H=>j7.idx A3 underlying23 (.t a8) (.i a8) (by first|omega|(simp;done)|(simp;omega)|(simp at *;omega)) (by first|omega|(simp;done)|(simp;omega)|(simp at *;omega)) a8,?_⟩
                     refine⟨_,fun H=>j7.F1 A3 (.t a8) a8,?_⟩
                     refine⟨_,fun H=>j7.move (.t a8) a8,?_⟩
                     refine⟨_,fun H=>j7.bS3 j8.l0 j8.l1 j8.l3 a8 W8 a5z (fun c0 c1 c3=>(⟨c0,c1,0,c3⟩:j8)) (fun _ _ _=>a8) a8 a8 a8 a8 (.t a8) (.t a8) (.t a8) a8,?_⟩
                     refine⟨_,fun H=>j7.y7 j4.l1 F5 a8 (.t a8) a8,?_⟩
                     refine .inl ?_
                     refine⟨_,fun H=>j7.y7 j4.l2 I8 a8 (.t a8) a8,?_⟩
                     refine .inl ?_
                     refine⟨_,fun H=>j7.y7 j4.l7 P6 a8 (.t a8) a8,?_⟩
                     refine .inl ?_
                     refine⟨⟨([],j2 [_,c8]),a8⟩,?_⟩
                     refine A9.K3 (fun y x => { x with A:=y }) A3 (.t rfl) (.t rfl) .z (fun _ _=>rfl) ?_
                     refine⟨⟨([],j2 [_,c8]),a8⟩,?_⟩
                     refine A9.K3 (fun y x => { x with B:=y }) A3 (.t rfl) (.t rfl) .z (fun _ _=>rfl) ?_
                     refine⟨⟨([],j2 [_,c8]),a8⟩,?_⟩
                     refine A9.K3 (fun y x => { x with Context:=y }) W8 (.t rfl) (.t rfl) .z (fun _ _=>rfl) ?_
                     refine⟨⟨([],j2 [_,c8]),a8⟩,?_⟩
                     show C4 _ _ _ _ _ [] ((147,_)::(146,_)::(145,_)::(144,_)::(143,_)::(142,_)::(141,_)::(140,_)::(139,_)::(138,_)::(137,_)::(136,_)::(135,_)::(134,_)::(133,_)::(132,_)::(131,_)::_) _
                     refine .q 7 hG ?_
                     refine⟨_,.r1 a8 (.cell q9 a8 .z1),?_⟩
                     first|(rcases n with _|⟨a0,_|⟨a1,_|⟨a2,_|⟨a3,_|⟨a4,_|⟨a5,t⟩⟩⟩⟩⟩⟩<;>simp at hnl;have h22:k=1∨k=2∨k=3∨k=4∨k=5∨k=6∨k=7∨k=8∨k=9∨k=10∨k=11∨k=12∨k=13∨k=14∨k=15∨k=16∨k=17∨k=18∨k=19∨k=20∨k=21∨k=22:=(by omega);rcases h22 with rfl|rfl|rfl|rfl|rfl|rfl|rfl|rfl|rfl|rfl|rfl|rfl|rfl|rfl|rfl|rfl|rfl|rfl|rfl|rfl|rfl|rfl<;>first|(exfalso;omega)|rfl)|(obtain rfl:k=1:=(by omega);rcases n with _|⟨a0,_|⟨a1,_|⟨a2,_|⟨a3,_|⟨a4,_|⟨a5,t⟩⟩⟩⟩⟩⟩<;>simp [C3] at hn;rfl)
                    ·refine .q 5 hG ⟨fun hc128 => ?_,fun hc128 => ?_⟩
                     ·have hnl:n.length=4:=(by rw [hn];unfold C3;simp [*])
                      refine .D7 [j0,j1] (by kernel_rfl) 20 [[],[(131,0)],[(132,1)],[],[(134,3)],[(135,4)],[],[(137,6)],[(138,7)],[],[(140,9)],[(141,10)],[],[(139,8),(142,11),(143,12)],[],[(145,14),(133,2)],[],[(146,16),(136,5)],[],[(147,18),(144,13)]] [15,17,19] a8 (by kernel_rfl) a8 (by kernel_rfl) (by decide) ?_
                      refine⟨_,fun H=>j7.move (.t a8) a8,?_⟩
                      refine⟨_,fun H=>j7.idx A3 underlying23 (.t a8) (.i a8) (by first|omega|(simp;done)|(simp;omega)|(simp at *;omega)) (by first|omega|(simp;done)|(simp;omega)|(simp at *;omega)) a8,?_⟩
                      refine⟨_,fun H=>j7.F1 A3 (.t a8) a8,?_⟩
                      refine⟨_,fun H=>j7.move (.t a8) a8,?_⟩
                      refine⟨_,fun H=>j7.idx A3 underlying23 (.t a8) (.i a8) (by first|omega|(simp;done)|(simp;omega)|(simp at *;omega)) (by first|omega|(simp;done)|(simp;omega)|(simp at *;omega)) a8,?_⟩
                      refine⟨_,fun H=>j7.F1 A3 (.t a8) a8,?_⟩
                      refine⟨_,fun H=>j7.move (.t a8) a8,?_⟩
                      refine⟨_,fun H=>j7.idx A3 underlying23 (.t a8) (.i a8) (by first|omega|(simp;done)|(simp;omega)|(simp at *;omega)) (by first|omega|(simp;done)|(simp;omega)|(simp at *;omega)) a8,?_⟩
                      refine⟨_,fun H=>j7.F1 A3 (.t a8) a8,?_⟩
                      refine⟨_,fun H=>j7.move (.t a8) a8,?_⟩
                      refine⟨_,fun H=>j7.idx A3 underlying23 (.t a8) (.i a8) (by first|omega|(simp;done)|(simp;omega)|(simp at *;omega)) (by first|omega|(simp;done)|(simp;omega)|(simp at *;omega)) a8,?_⟩
                      refine⟨_,fun H=>j7.F1 A3 (.t a8) a8,?_⟩
                      refine⟨_,fun H=>j7.move (.t a8) a8,?_⟩
                      refine⟨_,fun H=>j7.bS3 j8.l0 j8.l1 j8.l3 a8 W8 a5z (fun c0 c1 c3=>(⟨c0,c1,0,c3⟩:j8)) (fun _ _ _=>a8) a8 a8 a8 a8 (.t a8) (.t a8) (.t a8) a8,?_⟩
                      refine⟨_,fun H=>j7.y7 j4.l1 F5 a8 (.t a8) a8,?_⟩
                      refine .inl ?_
                      refine⟨_,fun H=>j7.y7 j4.l2 I8 a8 (.t a8) a8,?_⟩
                      refine .inl ?_
                      refine⟨_,fun H=>j7.y7 j4.l7 P6 a8 (.t a8) a8,?_⟩
                      refine .inl ?_
                      refine⟨⟨([],j2 [_,c8]),a8⟩,?_⟩
                      refine A9.K3 (fun y x => { x with A:=y }) A3 (.t rfl) (.t rfl) .z (fun _ _=>rfl) ?_
                      refine⟨⟨([],j2 [_,c8]),a8⟩,?_⟩
                      refine A9.K3 (fun y x => { x with B:=y }) A3 (.t rfl) (.t rfl) .z (fun _ _=>rfl) ?_
                      refine⟨⟨([],j2 [_,c8]),a8⟩,?_⟩
                      refine A9.K3 (fun y x => { x with Context:=y }) W8 (.t rfl) (.t rfl) .z (fun _ _=>rfl) ?_
                      refine⟨⟨([],j2 [_,c8]),a8⟩,?_⟩
                      show C4 _ _ _ _ _ [] ((147,_)::(146,_)::(145,_)::(144,_)::(143,_)::(142,_)::(141,_)::(140,_)::(139,_)::(138,_)::(137,_)::(136,_)::(135,_)::(134,_)::(133,_)::(132,_)::(131,_)::_) _
                      refine .q 7 hG ?_
                      refine⟨_,.r1 a8 (.cell q9 a8 .z1),?_⟩
                      first|(rcases n with _|⟨a0,_|⟨a1,_|⟨a2,_|⟨a3,_|⟨a4,_|⟨a5,t⟩⟩⟩⟩⟩⟩<;>simp at hnl;have h22:k=1∨k=2∨k=3∨k=4∨k=5∨k=6∨k=7∨k=8∨k=9∨k=10∨k=11∨k=12∨k=13∨k=14∨k=15∨k=16∨k=17∨k=18∨k=19∨k=20∨k=21∨k=22:=(by omega);rcases h22 with rfl|rfl|rfl|rfl|rfl|rfl|rfl|rfl|rfl|rfl|rfl|rfl|rfl|rfl|rfl|rfl|rfl|rfl|rfl|rfl|rfl|rfl<;>first|(exfalso;omega)|rfl)|(obtain rfl:k=1:=(by omega);rcases n with _|⟨a0,_|⟨a1,_|⟨a2,_|⟨a3,_|⟨a4,_|⟨a5,t⟩⟩⟩⟩⟩⟩<;>simp [C3] at hn;rfl)
                     ·refine .q 7 hG ?_
                      refine⟨_,.r1 a8 (.cell q9 a8 .z1),?_⟩
                      first|(rcases n with _|⟨a0,_|⟨a1,_|⟨a2,_|⟨a3,_|⟨a4,_|⟨a5,t⟩⟩⟩⟩⟩⟩<;>simp at hnl;have h22:k=1∨k=2∨k=3∨k=4∨k=5∨k=6∨k=7∨k=8∨k=9∨k=10∨k=11∨k=12∨k=13∨k=14∨k=15∨k=16∨k=17∨k=18∨k=19∨k=20∨k=21∨k=22:=(by omega);rcases h22 with rfl|rfl|rfl|rfl|rfl|rfl|rfl|rfl|rfl|rfl|rfl|rfl|rfl|rfl|rfl|rfl|rfl|rfl|rfl|rfl|rfl|rfl<;>first|(exfalso;omega)|rfl)|(obtain rfl:k=1:=(by omega);rcases n with _|⟨a0,_|⟨a1,_|⟨a2,_|⟨a3,_|⟨a4,_|⟨a5,t⟩⟩⟩⟩⟩⟩<;>simp [C3] at hn;rfl)
def B0 (s:Step):List Pred:=if kpr s.Kind=true then s.l9 else []
def I6 (s:Step):Bool := !decide (s=a4q s.Kind (p9 s) (B0 s) ((G4 s).get s))||(!khl s.Kind&&decide ((G4 s).get s≠⟨[]⟩))
theorem b5N (a b n le mo z li mi:Int) (p:List Pred) (h ho:u0):I6 ⟨1,a,b,n,p,⟨le,mo⟩,h,⟨z,li,mi,ho⟩⟩=B2 ⟨1,a,b,n,p,⟨le,mo⟩,h,⟨z,li,mi,ho⟩⟩:=by
 show(!decide ((⟨1,a,b,n,p,⟨le,mo⟩,h,⟨z,li,mi,ho⟩⟩:Step)=⟨1,0,0,0,[],⟨0,0⟩,⟨[]⟩,⟨0,0,0,⟨[]⟩⟩⟩)||(!false&&decide (ho≠⟨[]⟩)))=D4 ⟨1,a,b,n,p,⟨le,mo⟩,h,⟨z,li,mi,ho⟩⟩
 unfold D4
 cases p<;>(rw [Bool.eq_iff_iff];simp [default,j4.mk.injEq,j8.mk.injEq,o9.mk.injEq];try (by_cases q1:h=⟨[]⟩<;>by_cases q2:ho=⟨[]⟩<;>simp [q1,q2]<;>omega))
theorem b5O (a b n le mo z li mi:Int) (p:List Pred) (h ho:u0):I6 ⟨2,a,b,n,p,⟨le,mo⟩,h,⟨z,li,mi,ho⟩⟩=B2 ⟨2,a,b,n,p,⟨le,mo⟩,h,⟨z,li,mi,ho⟩⟩:=by
 show(!decide ((⟨2,a,b,n,p,⟨le,mo⟩,h,⟨z,li,mi,ho⟩⟩:Step)=⟨2,0,0,n,[],⟨0,0⟩,⟨[]⟩,⟨0,0,0,⟨[]⟩⟩⟩)||(!false&&decide (ho≠⟨[]⟩)))=D4 ⟨2,a,b,0,p,⟨le,mo⟩,h,⟨z,li,mi,ho⟩⟩
 unfold D4
 cases p<;>(rw [Bool.eq_iff_iff];simp [default,j4.mk.injEq,j8.mk.injEq,o9.mk.injEq];try (by_cases q1:h=⟨[]⟩<;>by_cases q2:ho=⟨[]⟩<;>simp [q1,q2]<;>omega))
theorem b5P (a b n le mo z li mi:Int) (p:List Pred) (h ho:u0):I6 ⟨3,a,b,n,p,⟨le,mo⟩,h,⟨z,li,mi,ho⟩⟩=B2 ⟨3,a,b,n,p,⟨le,mo⟩,h,⟨z,li,mi,ho⟩⟩:=by
 show(!decide ((⟨3,a,b,n,p,⟨le,mo⟩,h,⟨z,li,mi,ho⟩⟩:Step)=⟨3,a,0,0,p,⟨0,0⟩,⟨[]⟩,⟨0,0,0,⟨[]⟩⟩⟩)||(!false&&decide (ho≠⟨[]⟩)))=D4 ⟨3,0,b,n,[],⟨le,mo⟩,h,⟨z,li,mi,ho⟩⟩
 unfold D4
 cases p<;>(rw [Bool.eq_iff_iff];simp [default,j4.mk.injEq,j8.mk.injEq,o9.mk.injEq];try (by_cases q1:h=⟨[]⟩<;>by_cases q2:ho=⟨[]⟩<;>simp [q1,q2]<;>omega))
theorem b5Q (a b n le mo z li mi:Int) (p:List Pred) (h ho:u0):I6 ⟨4,a,b,n,p,⟨le,mo⟩,h,⟨z,li,mi,ho⟩⟩=B2 ⟨4,a,b,n,p,⟨le,mo⟩,h,⟨z,li,mi,ho⟩⟩:=by
 show(!decide ((⟨4,a,b,n,p,⟨le,mo⟩,h,⟨z,li,mi,ho⟩⟩:Step)=⟨4,a,b,n,[],⟨0,0⟩,⟨[]⟩,⟨0,0,0,⟨[]⟩⟩⟩)||(!false&&decide (ho≠⟨[]⟩)))=D4 ⟨4,0,0,0,p,⟨le,mo⟩,h,⟨z,li,mi,ho⟩⟩
 unfold D4
 cases p<;>(rw [Bool.eq_iff_iff];simp [default,j4.mk.injEq,j8.mk.injEq,o9.mk.injEq];try (by_cases q1:h=⟨[]⟩<;>by_cases q2:ho=⟨[]⟩<;>simp [q1,q2]<;>omega))
theorem b5R (a b n le mo z li mi:Int) (p:List Pred) (h ho:u0):I6 ⟨5,a,b,n,p,⟨le,mo⟩,h,⟨z,li,mi,ho⟩⟩=B2 ⟨5,a,b,n,p,⟨le,mo⟩,h,⟨z,li,mi,ho⟩⟩:=by
 show(!decide ((⟨5,a,b,n,p,⟨le,mo⟩,h,⟨z,li,mi,ho⟩⟩:Step)=⟨5,a,0,n,[],⟨0,0⟩,⟨[]⟩,⟨0,0,0,⟨[]⟩⟩⟩)||(!false&&decide (ho≠⟨[]⟩)))=D4 ⟨5,0,b,0,p,⟨le,mo⟩,h,⟨z,li,mi,ho⟩⟩
 unfold D4
 cases p<;>(rw [Bool.eq_iff_iff];simp [default,j4.mk.injEq,j8.mk.injEq,o9.mk.injEq];try (by_cases q1:h=⟨[]⟩<;>by_cases q2:ho=⟨[]⟩<;>simp [q1,q2]<;>omega))
theorem b5S (a b n le mo z li mi:Int) (p:List Pred) (h ho:u0):I6 ⟨6,a,b,n,p,⟨le,mo⟩,h,⟨z,li,mi,ho⟩⟩=B2 ⟨6,a,b,n,p,⟨le,mo⟩,h,⟨z,li,mi,ho⟩⟩:=by
 show(!decide ((⟨6,a,b,n,p,⟨le,mo⟩,h,⟨z,li,mi,ho⟩⟩:Step)=⟨6,a,b,0,p,⟨0,0⟩,⟨[]⟩,⟨0,0,0,⟨[]⟩⟩⟩)||(!false&&decide (ho≠⟨[]⟩)))=D4 ⟨6,0,0,n,[],⟨le,mo⟩,h,⟨z,li,mi,ho⟩⟩
 unfold D4
 cases p<;>(rw [Bool.eq_iff_iff];simp [default,j4.mk.injEq,j8.mk.injEq,o9.mk.injEq];try (by_cases q1:h=⟨[]⟩<;>by_cases q2:ho=⟨[]⟩<;>simp [q1,q2]<;>omega))
theorem b5T (a b n le mo z li mi:Int) (p:List Pred) (h ho:u0):I6 ⟨7,a,b,n,p,⟨le,mo⟩,h,⟨z,li,mi,ho⟩⟩=B2 ⟨7,a,b,n,p,⟨le,mo⟩,h,⟨z,li,mi,ho⟩⟩:=by
 show(!decide ((⟨7,a,b,n,p,⟨le,mo⟩,h,⟨z,li,mi,ho⟩⟩:Step)=⟨7,a,b,n,[],⟨le,mo⟩,⟨[]⟩,⟨0,0,0,⟨[]⟩⟩⟩)||(!false&&decide (ho≠⟨[]⟩)))=D4 ⟨7,0,0,0,p,⟨0,0⟩,h,⟨z,li,mi,ho⟩⟩
 unfold D4
 cases p<;>(rw [Bool.eq_iff_iff];simp [default,j4.mk.injEq,j8.mk.injEq,o9.mk.injEq];try (by_cases q1:h=⟨[]⟩<;>by_cases q2:ho=⟨[]⟩<;>simp [q1,q2]<;>omega))
theorem b5U (a b n le mo z li mi:Int) (p:List Pred) (h ho:u0):I6 ⟨8,a,b,n,p,⟨le,mo⟩,h,⟨z,li,mi,ho⟩⟩=B2 ⟨8,a,b,n,p,⟨le,mo⟩,h,⟨z,li,mi,ho⟩⟩:=by
 show(!decide ((⟨8,a,b,n,p,⟨le,mo⟩,h,⟨z,li,mi,ho⟩⟩:Step)=⟨8,a,b,0,[],⟨0,0⟩,h,⟨0,0,0,⟨[]⟩⟩⟩)||(!true&&decide (h≠⟨[]⟩)))=D4 ⟨8,0,0,n,p,⟨le,mo⟩,⟨[]⟩,⟨z,li,mi,ho⟩⟩
 unfold D4
 cases p<;>(rw [Bool.eq_iff_iff];simp [default,j4.mk.injEq,j8.mk.injEq,o9.mk.injEq];try (by_cases q1:h=⟨[]⟩<;>by_cases q2:ho=⟨[]⟩<;>simp [q1,q2]<;>omega))
theorem b5V (a b n le mo z li mi:Int) (p:List Pred) (h ho:u0):I6 ⟨9,a,b,n,p,⟨le,mo⟩,h,⟨z,li,mi,ho⟩⟩=B2 ⟨9,a,b,n,p,⟨le,mo⟩,h,⟨z,li,mi,ho⟩⟩:=by
 show(!decide ((⟨9,a,b,n,p,⟨le,mo⟩,h,⟨z,li,mi,ho⟩⟩:Step)=⟨9,a,b,n,[],⟨0,0⟩,⟨[]⟩,⟨0,0,0,⟨[]⟩⟩⟩)||(!false&&decide (ho≠⟨[]⟩)))=D4 ⟨9,0,0,0,p,⟨le,mo⟩,h,⟨z,li,mi,ho⟩⟩
 unfold D4
 cases p<;>(rw [Bool.eq_iff_iff];simp [default,j4.mk.injEq,j8.mk.injEq,o9.mk.injEq];try (by_cases q1:h=⟨[]⟩<;>by_cases q2:ho=⟨[]⟩<;>simp [q1,q2]<;>omega))
theorem b4E (a b n le mo z li mi:Int) (p:List Pred) (h ho:u0):I6 ⟨10,a,b,n,p,⟨le,mo⟩,h,⟨z,li,mi,ho⟩⟩=B2 ⟨10,a,b,n,p,⟨le,mo⟩,h,⟨z,li,mi,ho⟩⟩:=by
 show(!decide ((⟨10,a,b,n,p,⟨le,mo⟩,h,⟨z,li,mi,ho⟩⟩:Step)=⟨10,a,0,0,[],⟨0,0⟩,⟨[]⟩,⟨0,0,0,⟨[]⟩⟩⟩)||(!false&&decide (ho≠⟨[]⟩)))=D4 ⟨10,0,b,n,p,⟨le,mo⟩,h,⟨z,li,mi,ho⟩⟩
 unfold D4
 cases p<;>(rw [Bool.eq_iff_iff];simp [default,j4.mk.injEq,j8.mk.injEq,o9.mk.injEq];try (by_cases q1:h=⟨[]⟩<;>by_cases q2:ho=⟨[]⟩<;>simp [q1,q2]<;>omega))
theorem b4F (a b n le mo z li mi:Int) (p:List Pred) (h ho:u0):I6 ⟨11,a,b,n,p,⟨le,mo⟩,h,⟨z,li,mi,ho⟩⟩=B2 ⟨11,a,b,n,p,⟨le,mo⟩,h,⟨z,li,mi,ho⟩⟩:=by
 show(!decide ((⟨11,a,b,n,p,⟨le,mo⟩,h,⟨z,li,mi,ho⟩⟩:Step)=⟨11,a,b,n,[],⟨0,0⟩,⟨[]⟩,⟨z,li,0,ho⟩⟩)||(!true&&decide (ho≠⟨[]⟩)))=D4 ⟨11,0,0,0,p,⟨le,mo⟩,h,⟨0,0,mi,⟨[]⟩⟩⟩
 unfold D4
 cases p<;>(rw [Bool.eq_iff_iff];simp [default,j4.mk.injEq,j8.mk.injEq,o9.mk.injEq];try (by_cases q1:h=⟨[]⟩<;>by_cases q2:ho=⟨[]⟩<;>simp [q1,q2]<;>omega))
theorem b4G (a b n le mo z li mi:Int) (p:List Pred) (h ho:u0):I6 ⟨12,a,b,n,p,⟨le,mo⟩,h,⟨z,li,mi,ho⟩⟩=B2 ⟨12,a,b,n,p,⟨le,mo⟩,h,⟨z,li,mi,ho⟩⟩:=by
 show(!decide ((⟨12,a,b,n,p,⟨le,mo⟩,h,⟨z,li,mi,ho⟩⟩:Step)=⟨12,0,0,n,[],⟨0,0⟩,⟨[]⟩,⟨0,0,0,⟨[]⟩⟩⟩)||(!false&&decide (ho≠⟨[]⟩)))=D4 ⟨12,a,b,0,p,⟨le,mo⟩,h,⟨z,li,mi,ho⟩⟩
 unfold D4
 cases p<;>(rw [Bool.eq_iff_iff];simp [default,j4.mk.injEq,j8.mk.injEq,o9.mk.injEq];try (by_cases q1:h=⟨[]⟩<;>by_cases q2:ho=⟨[]⟩<;>simp [q1,q2]<;>omega))
theorem b4H (a b n le mo z li mi:Int) (p:List Pred) (h ho:u0):I6 ⟨13,a,b,n,p,⟨le,mo⟩,h,⟨z,li,mi,ho⟩⟩=B2 ⟨13,a,b,n,p,⟨le,mo⟩,h,⟨z,li,mi,ho⟩⟩:=by
 show(!decide ((⟨13,a,b,n,p,⟨le,mo⟩,h,⟨z,li,mi,ho⟩⟩:Step)=⟨13,0,0,n,[],⟨0,0⟩,⟨[]⟩,⟨0,0,0,⟨[]⟩⟩⟩)||(!false&&decide (ho≠⟨[]⟩)))=D4 ⟨13,a,b,0,p,⟨le,mo⟩,h,⟨z,li,mi,ho⟩⟩
 unfold D4
 cases p<;>(rw [Bool.eq_iff_iff];simp [default,j4.mk.injEq,j8.mk.injEq,o9.mk.injEq];try (by_cases q1:h=⟨[]⟩<;>by_cases q2:ho=⟨[]⟩<;>simp [q1,q2]<;>omega))
theorem b4I (a b n le mo z li mi:Int) (p:List Pred) (h ho:u0):I6 ⟨14,a,b,n,p,⟨le,mo⟩,h,⟨z,li,mi,ho⟩⟩=B2 ⟨14,a,b,n,p,⟨le,mo⟩,h,⟨z,li,mi,ho⟩⟩:=by
 show(!decide ((⟨14,a,b,n,p,⟨le,mo⟩,h,⟨z,li,mi,ho⟩⟩:Step)=⟨14,0,0,n,[],⟨0,0⟩,⟨[]⟩,⟨0,0,0,⟨[]⟩⟩⟩)||(!false&&decide (ho≠⟨[]⟩)))=D4 ⟨14,a,b,0,p,⟨le,mo⟩,h,⟨z,li,mi,ho⟩⟩
 unfold D4
 cases p<;>(rw [Bool.eq_iff_iff];simp [default,j4.mk.injEq,j8.mk.injEq,o9.mk.injEq];try (by_cases q1:h=⟨[]⟩<;>by_cases q2:ho=⟨[]⟩<;>simp [q1,q2]<;>omega))
theorem b4J (a b n le mo z li mi:Int) (p:List Pred) (h ho:u0):I6 ⟨15,a,b,n,p,⟨le,mo⟩,h,⟨z,li,mi,ho⟩⟩=B2 ⟨15,a,b,n,p,⟨le,mo⟩,h,⟨z,li,mi,ho⟩⟩:=by
 show(!decide ((⟨15,a,b,n,p,⟨le,mo⟩,h,⟨z,li,mi,ho⟩⟩:Step)=⟨15,0,0,n,[],⟨0,0⟩,⟨[]⟩,⟨0,0,0,⟨[]⟩⟩⟩)||(!false&&decide (ho≠⟨[]⟩)))=D4 ⟨15,a,b,0,p,⟨le,mo⟩,h,⟨z,li,mi,ho⟩⟩
 unfold D4
 cases p<;>(rw [Bool.eq_iff_iff];simp [default,j4.mk.injEq,j8.mk.injEq,o9.mk.injEq];try (by_cases q1:h=⟨[]⟩<;>by_cases q2:ho=⟨[]⟩<;>simp [q1,q2]<;>omega))
theorem b4K (a b n le mo z li mi:Int) (p:List Pred) (h ho:u0):I6 ⟨16,a,b,n,p,⟨le,mo⟩,h,⟨z,li,mi,ho⟩⟩=B2 ⟨16,a,b,n,p,⟨le,mo⟩,h,⟨z,li,mi,ho⟩⟩:=by
 show(!decide ((⟨16,a,b,n,p,⟨le,mo⟩,h,⟨z,li,mi,ho⟩⟩:Step)=⟨16,a,0,n,[],⟨0,0⟩,⟨[]⟩,⟨0,0,0,⟨[]⟩⟩⟩)||(!false&&decide (ho≠⟨[]⟩)))=D4 ⟨16,0,b,0,p,⟨le,mo⟩,h,⟨z,li,mi,ho⟩⟩
 unfold D4
 cases p<;>(rw [Bool.eq_iff_iff];simp [default,j4.mk.injEq,j8.mk.injEq,o9.mk.injEq];try (by_cases q1:h=⟨[]⟩<;>by_cases q2:ho=⟨[]⟩<;>simp [q1,q2]<;>omega))
theorem b4L (a b n le mo z li mi:Int) (p:List Pred) (h ho:u0):I6 ⟨17,a,b,n,p,⟨le,mo⟩,h,⟨z,li,mi,ho⟩⟩=B2 ⟨17,a,b,n,p,⟨le,mo⟩,h,⟨z,li,mi,ho⟩⟩:=by
 show(!decide ((⟨17,a,b,n,p,⟨le,mo⟩,h,⟨z,li,mi,ho⟩⟩:Step)=⟨17,a,0,0,[],⟨0,0⟩,⟨[]⟩,⟨0,0,0,⟨[]⟩⟩⟩)||(!false&&decide (ho≠⟨[]⟩)))=D4 ⟨17,0,b,n,p,⟨le,mo⟩,h,⟨z,li,mi,ho⟩⟩
 unfold D4
 cases p<;>(rw [Bool.eq_iff_iff];simp [default,j4.mk.injEq,j8.mk.injEq,o9.mk.injEq];try (by_cases q1:h=⟨[]⟩<;>by_cases q2:ho=⟨[]⟩<;>simp [q1,q2]<;>omega))
theorem b4M (a b n le mo z li mi:Int) (p:List Pred) (h ho:u0):I6 ⟨18,a,b,n,p,⟨le,mo⟩,h,⟨z,li,mi,ho⟩⟩=B2 ⟨18,a,b,n,p,⟨le,mo⟩,h,⟨z,li,mi,ho⟩⟩:=by
 show(!decide ((⟨18,a,b,n,p,⟨le,mo⟩,h,⟨z,li,mi,ho⟩⟩:Step)=⟨18,a,0,0,[],⟨0,0⟩,⟨[]⟩,⟨0,0,0,⟨[]⟩⟩⟩)||(!false&&decide (ho≠⟨[]⟩)))=D4 ⟨18,0,b,n,p,⟨le,mo⟩,h,⟨z,li,mi,ho⟩⟩
 unfold D4
 cases p<;>(rw [Bool.eq_iff_iff];simp [default,j4.mk.injEq,j8.mk.injEq,o9.mk.injEq];try (by_cases q1:h=⟨[]⟩<;>by_cases q2:ho=⟨[]⟩<;>simp [q1,q2]<;>omega))
theorem b4N (a b n le mo z li mi:Int) (p:List Pred) (h ho:u0):I6 ⟨19,a,b,n,p,⟨le,mo⟩,h,⟨z,li,mi,ho⟩⟩=B2 ⟨19,a,b,n,p,⟨le,mo⟩,h,⟨z,li,mi,ho⟩⟩:=by
 show(!decide ((⟨19,a,b,n,p,⟨le,mo⟩,h,⟨z,li,mi,ho⟩⟩:Step)=⟨19,a,b,0,[],⟨0,0⟩,⟨[]⟩,⟨0,0,0,⟨[]⟩⟩⟩)||(!false&&decide (ho≠⟨[]⟩)))=D4 ⟨19,0,0,n,p,⟨le,mo⟩,h,⟨z,li,mi,ho⟩⟩
 unfold D4
 cases p<;>(rw [Bool.eq_iff_iff];simp [default,j4.mk.injEq,j8.mk.injEq,o9.mk.injEq];try (by_cases q1:h=⟨[]⟩<;>by_cases q2:ho=⟨[]⟩<;>simp [q1,q2]<;>omega))
theorem b4O (a b n le mo z li mi:Int) (p:List Pred) (h ho:u0):I6 ⟨20,a,b,n,p,⟨le,mo⟩,h,⟨z,li,mi,ho⟩⟩=B2 ⟨20,a,b,n,p,⟨le,mo⟩,h,⟨z,li,mi,ho⟩⟩:=by
 show(!decide ((⟨20,a,b,n,p,⟨le,mo⟩,h,⟨z,li,mi,ho⟩⟩:Step)=⟨20,a,b,0,p,⟨0,0⟩,⟨[]⟩,⟨z,li,0,ho⟩⟩)||(!true&&decide (ho≠⟨[]⟩)))=D4 ⟨20,0,0,n,[],⟨le,mo⟩,h,⟨0,0,mi,⟨[]⟩⟩⟩
 unfold D4
 cases p<;>(rw [Bool.eq_iff_iff];simp [default,j4.mk.injEq,j8.mk.injEq,o9.mk.injEq];try (by_cases q1:h=⟨[]⟩<;>by_cases q2:ho=⟨[]⟩<;>simp [q1,q2]<;>omega))
theorem b4P (a b n le mo z li mi:Int) (p:List Pred) (h ho:u0):I6 ⟨21,a,b,n,p,⟨le,mo⟩,h,⟨z,li,mi,ho⟩⟩=B2 ⟨21,a,b,n,p,⟨le,mo⟩,h,⟨z,li,mi,ho⟩⟩:=by
 show(!decide ((⟨21,a,b,n,p,⟨le,mo⟩,h,⟨z,li,mi,ho⟩⟩:Step)=⟨21,a,b,0,[],⟨0,0⟩,⟨[]⟩,⟨z,li,0,ho⟩⟩)||(!true&&decide (ho≠⟨[]⟩)))=D4 ⟨21,0,0,n,p,⟨le,mo⟩,h,⟨0,0,mi,⟨[]⟩⟩⟩
 unfold D4
 cases p<;>(rw [Bool.eq_iff_iff];simp [default,j4.mk.injEq,j8.mk.injEq,o9.mk.injEq];try (by_cases q1:h=⟨[]⟩<;>by_cases q2:ho=⟨[]⟩<;>simp [q1,q2]<;>omega))
theorem b4Q (a b n le mo z li mi:Int) (p:List Pred) (h ho:u0):I6 ⟨22,a,b,n,p,⟨le,mo⟩,h,⟨z,li,mi,ho⟩⟩=B2 ⟨22,a,b,n,p,⟨le,mo⟩,h,⟨z,li,mi,ho⟩⟩:=by
 show(!decide ((⟨22,a,b,n,p,⟨le,mo⟩,h,⟨z,li,mi,ho⟩⟩:Step)=⟨22,a,b,n,[],⟨0,0⟩,⟨[]⟩,⟨0,0,0,⟨[]⟩⟩⟩)||(!false&&decide (ho≠⟨[]⟩)))=D4 ⟨22,0,0,0,p,⟨le,mo⟩,h,⟨z,li,mi,ho⟩⟩
 unfold D4
 cases p<;>(rw [Bool.eq_iff_iff];simp [default,j4.mk.injEq,j8.mk.injEq,o9.mk.injEq];try (by_cases q1:h=⟨[]⟩<;>by_cases q2:ho=⟨[]⟩<;>simp [q1,q2]<;>omega))
theorem P8 (s:Step) (hk:1≤s.Kind∧s.Kind < 23):I6 s=B2 s:=by
 obtain⟨k,a,b,n,p,⟨le,mo⟩,h,⟨z,li,mi,ho⟩⟩:=s
 dsimp only at hk
 have h22:k=1∨k=2∨k=3∨k=4∨k=5∨k=6∨k=7∨k=8∨k=9∨k=10∨k=11∨k=12∨k=13∨k=14∨k=15∨k=16∨k=17∨k=18∨k=19∨k=20∨k=21∨k=22:=by omega
 rcases h22 with rfl|rfl|rfl|rfl|rfl|rfl|rfl|rfl|rfl|rfl|rfl|rfl|rfl|rfl|rfl|rfl|rfl|rfl|rfl|rfl|rfl|rfl
 ·exact b5N a b n le mo z li mi p h ho
 ·exact b5O a b n le mo z li mi p h ho
 ·exact b5P a b n le mo z li mi p h ho
 ·exact b5Q a b n le mo z li mi p h ho
 ·exact b5R a b n le mo z li mi p h ho
 ·exact b5S a b n le mo z li mi p h ho
 ·exact b5T a b n le mo z li mi p h ho
 ·exact b5U a b n le mo z li mi p h ho
 ·exact b5V a b n le mo z li mi p h ho
 ·exact b4E a b n le mo z li mi p h ho
 ·exact b4F a b n le mo z li mi p h ho
 ·exact b4G a b n le mo z li mi p h ho
 ·exact b4H a b n le mo z li mi p h ho
 ·exact b4I a b n le mo z li mi p h ho
 ·exact b4J a b n le mo z li mi p h ho
 ·exact b4K a b n le mo z li mi p h ho
 ·exact b4L a b n le mo z li mi p h ho
 ·exact b4M a b n le mo z li mi p h ho
 ·exact b4N a b n le mo z li mi p h ho
 ·exact b4O a b n le mo z li mi p h ho
 ·exact b4P a b n le mo z li mi p h ho
 ·exact b4Q a b n le mo z li mi p h ho
def W3 (s:Step):u0×Int:=if (D0 s).2=0 then (⟨(D0 s).1.l ++ [10]⟩,0) else (⟨[]⟩,(D0 s).2)
def W4 (l:List Pred):List UInt8:=Lib.joinTail [59,32] (l.map D3)
theorem a2c (l:List Pred) (j:Nat) (h:j < l.length):W4 (l.take (j+1))=W4 (l.take j)++(59::32::D3 l[j]):=by
 unfold W4 Lib.joinTail
 rw [List.take_succ_eq_append_getElem h,List.map_append,List.map_append,List.flatten_append]
 congr 1
 simp
theorem a2Z (l:List Pred) (h:∀ p∈l,p8 p=true):∀ j,j≤l.length→(W4 (l.take j)).length≤202*j
 | 0,_=>by simp [W4,Lib.joinTail]
 | j+1,hj=>by
  have h1:=a2Z l h j (by omega)
  have h2:=I2 (h _ (List.getElem_mem (show j < l.length by omega)))
  rw [a2c l j (by omega)]
  simp;omega
theorem a2B (l:List Pred) (j:Nat) (hj:j≤l.length) (h:∀ i (hi:i < l.length),i < j→p8 l[i]=true):(W4 (l.take j)).length≤202*j:=by
 have:=a2Z (l.take j) (fun p hp=>by
  obtain⟨i,hi,rfl⟩:=List.getElem_of_mem hp
  rw [List.getElem_take]
  exact h i (by rw [List.length_take] at hi;omega) (by rw [List.length_take] at hi;omega)) j (by rw [List.length_take];omega)
 rwa [List.take_take,Nat.min_self] at this
theorem b1R (s:Step):(B0 s).length≤s.l9.length:=by unfold B0;split<;>simp
theorem a8a {s:Step} (h:s.Kind < 1∨22 < s.Kind):W3 s=(⟨[]⟩,6):=by unfold W3 D0;rw [if_pos (show s.Kind < 1∨23≤s.Kind by omega)];rfl
theorem x6 {s:Step} (hk:1≤s.Kind∧s.Kind < 23) (h:o8 s≠0):W3 s=(⟨[]⟩,o8 s):=by
 unfold W3 D0;rw [if_neg (show ¬(s.Kind < 1∨23≤s.Kind) by omega),if_pos h];simp [h]
theorem a0L (w:List UInt8) (l:List Int) (j:Nat) (hj:j≤l.length) (h:∀ i (hi:i < l.length),i < j→M9 l[i]=false):(G8 w (l.take j)).length≤w.length+17*j:=by
 have:=a1H w (l.take j) (fun n hn=>by
  obtain⟨i,hi,rfl⟩:=List.getElem_of_mem hn
  rw [List.getElem_take]
  exact h i (by rw [List.length_take] at hi;omega) (by rw [List.length_take] at hi;omega)) j (by rw [List.length_take];omega)
 rwa [List.take_take,Nat.min_self] at this
theorem a4r (l:List Fld):∀ s:Step,(a4l l s).l9=s.l9:=by
 induction l with
 | nil=>intro s;rfl
 | cons f l ih=>intro s;show(a4l l (f.lens.set 0 s)).l9=_;rw [ih];cases f<;>rfl
theorem a8b (u:Step) (x:u0):((G4 u).set x u).l9=u.l9:=by unfold G4;split<;>rfl
theorem I3 {s:Step} (h:B2 s=false):B0 s=s.l9:=by
 unfold B0
 split
 ·rfl
 ·rename_i hk
  unfold B2 D4 at h
  simp only [Bool.or_eq_false_iff,decide_eq_false_iff_not] at h
  have h1:=h.1.1.1.2
  have e:(a19 s).l9=s.l9:=by
   unfold a19
   dsimp only
   rw [if_neg hk]
   split
   ·rw [a8b,a4r]
   ·rw [a4r]
  rw [e] at h1
  cases hp:s.l9 with
  | nil=>rfl
  | cons a t=>rw [hp] at h1;simp at h1
theorem b0J (a b:List (List UInt8)):Lib.joinTail [59,32] (a++b)=Lib.joinTail [59,32] a++Lib.joinTail [59,32] b:=by simp [Lib.joinTail]
theorem a2C {s:Step} (h:B0 s=s.l9):L7 s=G8 (U4.getD s.Kind.toNat []) (p9 s)++W4 (B0 s)++(if khl s.Kind=true then 59::32::((G4 s).get s).l else []):=by
 unfold L7 P7
 rw [Lib.join_cons,b0J,h]
 unfold W4
 split
 ·rw [List.append_assoc];simp [Lib.joinTail]
 ·simp [Lib.joinTail]
theorem D1 {s:Step} (hk:1≤s.Kind∧s.Kind < 23) (h:o8 s=0):W3 s=(⟨L7 s ++ [10]⟩,0):=by
 have e:D0 s=(⟨L7 s⟩,0):=by unfold D0;rw [if_neg (show ¬(s.Kind < 1∨23≤s.Kind) by omega),if_neg (show ¬o8 s≠0 by rw [h];simp)]
 unfold W3;rw [e];rfl
theorem a4s (s:Step) (hl:s.l9.length≤4000):y6 gl prog 21 [.v s] (fun r=>r = .t2 (.v (W3 s).1) (.v (W3 s).2)):=by
 refine y6.jn func21 (by kernel_rfl) 113 rfl fun C hC hG => ?_
 refine .q 3 hG fun b1 => ?_
 refine .q 5 hG ?_
 refine .a3h hC .z (.asP 1 a8 .z ?_)
 refine .q 10 hG ?_
 refine .cond (.t a8) (fun hc20 => ?_) (fun hc20 => ?_)
 ·refine .q 6 hG ?_
  refine .e2 a8 a8 a8 ?_
  rw [a8a (by simp at hc20;omega)]
 ·refine .q 2 hG ?_
  have hk:1≤s.Kind∧s.Kind < 23:=(by simp at hc20;omega)
  have hrl:=b1R s
  have hvl:(p9 s).length=(C3 s.Kind).length:=(by simp [p9])
  have hk5:=a0p s.Kind
  have hw9:=a6b s.Kind.toNat
  refine .q 3 hG ?_
  refine .k hG (a4o _) ?_
  refine .q 9 hG ?_
  refine .k hG (a3o s hk) ?_
  refine .q 11 hG ?_
  refine .cond (.t a8) (fun hc29 => ?_) (fun hc29 => ?_)
  ·refine .q 7 hG ?_
   rw [show s.l9=B0 s from(by unfold B0;rw [if_pos hc29])]
   refine .a8J (by kernel_rfl) 19 [[],[],[(33,1)],[],[],[],[(37,5)],[(34,2),(35,3),(36,4),(38,6)],[(32,0),(39,7)],[(40,8)],[(41,9)],[],[(43,11)],[(44,12)],[],[(46,14)],[(47,15)],[(45,13),(48,16)],[(42,10),(49,17)]] a8 (by kernel_rfl) a8 ?_
   refine⟨_,j7.F1 q9 (.t a8) a8,?_⟩
   refine⟨_,j7.C6 j4.l0 (fun x=>x.Kind) a3Z a8 (fun _=>a8) (.t a8) a8,?_⟩
   refine⟨_,j7.F1 A3 (.t a8) a8,?_⟩
   refine⟨_,j7.move (.t a8) a8,?_⟩
   refine⟨_,j7.move (.t a8) a8,?_⟩
   refine⟨_,j7.F1 q9 (.t a8) a8,?_⟩
   refine⟨_,j7.A4 hG (O9 _) (.cons (.t a8) .nil) a8,?_⟩
   refine⟨_,j7.A4 hG (a2A _ _ _ _ hk hvl) (.cons (.t a8) (.cons (.t a8) (.cons (.t a8) (.cons (.t a8) .nil)))) a8,?_⟩
   refine⟨_,j7.A4 hG (a2b _ _) (.cons (.t a8) (.cons (.t a8) .nil)) a8,?_⟩
   refine⟨_,j7.not (.t a8) a8,?_⟩
   refine⟨_,j7.move (.t a8) a8,?_⟩
   refine⟨_,.inl ⟨_,_,a8,a8,fun hg43=>j7.move (.t a8) a8⟩,?_⟩
   refine⟨_,.inl ⟨_,_,a8,a8,fun hg44=>j7.not (.ou a8 (beq_iff_eq.2 hg44)) a8⟩,?_⟩
   refine⟨_,.inl ⟨_,_,a8,a8,fun hg45=>j7.move (.ou a8 (beq_iff_eq.2 hg45)) a8⟩,?_⟩
   refine⟨_,.inr ⟨_,_,_,a8,a8,fun hc46 hg46=>j7.F1 q9 (.t a8) a8⟩,?_⟩
   refine⟨_,.inr ⟨_,_,_,a8,a8,fun hc47 hg47=>j7.A4 hG (O9 _) (.cons (.ou a8 (Bool.and_eq_true_iff.2 ⟨hc47,beq_iff_eq.2 hg47⟩)) .nil) a8⟩,?_⟩
   refine⟨_,.inr ⟨_,_,_,a8,a8,fun hc48 hg48=>j7.b2T (.ou a8 (Bool.and_eq_true_iff.2 ⟨hc48,beq_iff_eq.2 hg48⟩)) (.s [] (by decide) (by decide)) a8⟩,?_⟩
   refine⟨_,.inl ⟨_,_,a8,a8,fun hg49=>j7.K6 (.ou a8 (beq_iff_eq.2 hg49)) (fun hp=>(.ou a8 (Bool.and_eq_true_iff.2 ⟨(beq_iff_eq.2 hg49),beq_iff_eq.2 hp⟩))) a8⟩,?_⟩
   refine⟨_,j7.a2Q (.t a8) (fun hp=>(.ou a8 (beq_iff_eq.2 hp))) a8,?_⟩
   show C4 _ _ _ _ _ [] ((50,_)::(49,_)::(48,_)::(47,_)::(46,_)::(45,_)::(44,_)::(43,_)::(42,_)::(41,_)::(40,_)::(39,_)::(38,_)::(37,_)::(36,_)::(35,_)::(34,_)::(33,_)::(32,_)::_) _
   refine .q 1 hG ?_
   refine .cond (.t a8) (fun hc50 => ?_) (fun hc50 => ?_)
   ·refine .q 6 hG ?_
    refine .e2 a8 a8 a8 ?_
    first|(have e9:o8 s=9:=(by unfold o8;rw [if_pos (show B2 s=true by rw [←P8 s hk];exact hc50)]);rw [x6 hk (by rw [e9];decide),e9];done)|(have e1:o8 s=1:=(by unfold o8;rw [if_neg (by rw [hex];decide),if_pos (List.any_eq_true.2 ⟨(C3 s.Kind)[j]'(by omega),List.getElem_mem _,by have hv:((p9 s)[j]'(by omega))=((C3 s.Kind)[j]'(by omega)).lens.get s:=(by simp [p9]);rw [←hv];unfold M9;rw [Bool.or_comm];exact hc71⟩)]);rw [x6 hk (by rw [e1];decide),e1];done)|(have gp:p8 ((B0 s)[j]'gj)=false:=(by cases hq:p8 ((B0 s)[j]'gj) with|false=>rfl|true=>exact absurd (by rw [u6 hq]) hc95);have e5:o8 s=5:=(by unfold o8;rw [if_neg (by rw [hex];decide),if_neg (by rw [e0];decide),if_pos (List.any_eq_true.2 ⟨_,(by rw [←I3 hex];exact List.getElem_mem gj),by rw [gp];rfl⟩)]);rw [D9 (by rw [gp];decide),x6 hk (by rw [e5];decide),e5];done)|(have e7:o8 s=7:=(by unfold o8;rw [if_neg (by rw [hex];decide),if_neg (by rw [e0];decide),if_neg (by rw [e3];decide),if_pos (by rw [hc101,hc105];rfl)]);rw [x6 hk (by rw [e7];decide),e7];done)|(have e00:o8 s=0:=(by unfold o8;rw [if_neg (by rw [hex];decide),if_neg (by rw [e0];decide),if_neg (by rw [e3];decide),if_neg (by rw [hc101,hc105];decide)]);rw [D1 hk e00,hlt,if_pos hc101];simp;done)|(have e00:o8 s=0:=(by unfold o8;rw [if_neg (by rw [hex];decide),if_neg (by rw [e0];decide),if_neg (by rw [e3];decide),if_neg (by rw [hc101];simp)]);rw [D1 hk e00,hlt,if_neg (by rw [hc101];decide)];simp;done)|rfl
   ·refine .q 2 hG ?_
    have hex:B2 s=false:=(by rw [←P8 s hk];exact hc50)
    refine .q 3 hG ?_
    refine .k hG (a4p _ hk) ?_
    refine .q 8 hG ?_
    refine .C2 (α:=Nat) [(1,_),(5,_),(6,_),(7,_)] (fun j R=>(8,.v (u0.mk (G8 (U4.getD s.Kind.toNat []) ((p9 s).take j))))::(9,.v (j:Int))::R) (fun j => [(true,.fz (ptr b1 0) (.p s))]) (fun j=>j≤(p9 s).length∧∀ i (h:i < (p9 s).length),i < j→M9 (p9 s)[i]=false) (fun j=>(p9 s).length - j) (0) (.c2 a8 a8 (.c2 a8 a8 (.nil _))) ?_ (.c2 a8 a8 (.c2 a8 a8 (.c2 a8 a8 (.nil _)))) (a8) fun j hF => ?_
    ·simp
    obtain⟨h1,h2⟩:=hF
    refine .q 9 hG ⟨fun hc57 => ?_,fun hc57 => ?_⟩
    ·refine .q 8 hG ?_
     refine .ix (by first|omega|(simp;done)|(simp;omega)|(simp at *;omega)) (by first|omega|(simp;done)|(simp;omega)|(simp at *;omega)) ?_
     refine .q 5 hG ?_
     refine .go 65 a8 (.t a8) (fun hg68 => .idx A3 underlying23 (.q a8 hg68) (.q a8 hg68) (by first|omega|(simp;done)|(simp;omega)|(have:=hg68;simp at this;omega)) (by first|omega|(simp;done)|(simp;omega)|(have:=hg68;simp at this;omega)) a8) (.go 65 a8 (.t a8) (fun hg69 => .F1 A3 (.q a8 hg69) a8) (.go 65 a8 (.t a8) (fun hg70 => .lss (.q a8 hg70) (.i a8) a8) (.p (.a2Q (.t a8) (fun hp=>(.q a8 hp)) ?_))))
     refine .q 1 hG ?_
     refine .cond (.t a8) (fun hc71 => ?_) (fun hc71 => ?_)
     ·refine .q 6 hG ?_
      refine .e2 a8 a8 a8 ?_
      first|(have e9:o8 s=9:=(by unfold o8;rw [if_pos (show B2 s=true by rw [←P8 s hk];exact hc50)]);rw [x6 hk (by rw [e9];decide),e9];done)|(have e1:o8 s=1:=(by unfold o8;rw [if_neg (by rw [hex];decide),if_pos (List.any_eq_true.2 ⟨(C3 s.Kind)[j]'(by omega),List.getElem_mem _,by have hv:((p9 s)[j]'(by omega))=((C3 s.Kind)[j]'(by omega)).lens.get s:=(by simp [p9]);rw [←hv];unfold M9;rw [Bool.or_comm];exact hc71⟩)]);rw [x6 hk (by rw [e1];decide),e1];done)|(have gp:p8 ((B0 s)[j]'gj)=false:=(by cases hq:p8 ((B0 s)[j]'gj) with|false=>rfl|true=>exact absurd (by rw [u6 hq]) hc95);have e5:o8 s=5:=(by unfold o8;rw [if_neg (by rw [hex];decide),if_neg (by rw [e0];decide),if_pos (List.any_eq_true.2 ⟨_,(by rw [←I3 hex];exact List.getElem_mem gj),by rw [gp];rfl⟩)]);rw [D9 (by rw [gp];decide),x6 hk (by rw [e5];decide),e5];done)|(have e7:o8 s=7:=(by unfold o8;rw [if_neg (by rw [hex];decide),if_neg (by rw [e0];decide),if_neg (by rw [e3];decide),if_pos (by rw [hc101,hc105];rfl)]);rw [x6 hk (by rw [e7];decide),e7];done)|(have e00:o8 s=0:=(by unfold o8;rw [if_neg (by rw [hex];decide),if_neg (by rw [e0];decide),if_neg (by rw [e3];decide),if_neg (by rw [hc101,hc105];decide)]);rw [D1 hk e00,hlt,if_pos hc101];simp;done)|(have e00:o8 s=0:=(by unfold o8;rw [if_neg (by rw [hex];decide),if_neg (by rw [e0];decide),if_neg (by rw [e3];decide),if_neg (by rw [hc101];simp)]);rw [D1 hk e00,hlt,if_neg (by rw [hc101];decide)];simp;done)|rfl
     ·refine .q 1 hG ?_
      have hfj:M9 ((p9 s)[j]'(by omega))=false:=(by unfold M9;rw [Bool.or_comm];exact hc71)
      have hfr:=hfj
      unfold M9 at hfr
      simp only [Bool.or_eq_false_iff,decide_eq_false_iff_not] at hfr
      have hil:=a2w (n:=(p9 s)[j]'(by omega)) (by omega) (by omega)
      have hnl:(G8 (U4.getD s.Kind.toNat []) ((p9 s).take j)).length≤9+17*5:=(by have:=a0L (U4.getD s.Kind.toNat []) (p9 s) j (by omega) h2;omega)
      refine .q 2 hG ?_
      refine .p (.D8 (.t a8) (.s [32] (by decide) (by decide)) (by first|omega|(simp;done)|(simp;omega)|(simp at *;omega)) ?_)
      refine .q 2 hG ?_
      refine .ix (by first|omega|(simp;done)|(simp;omega)|(simp at *;omega)) (by first|omega|(simp;done)|(simp;omega)|(simp at *;omega)) ?_
      refine .q 1 hG ?_
      refine .k hG (a8U _ (by simp only [Int.toNat_natCast];omega) (by simp only [Int.toNat_natCast];omega)) (.p (.D8 (.t a8) (.t a8) (by first|omega|(simp;done)|(simp;omega)|(simp at *;omega)) ?_))
      refine .q 1 hG ?_
      simp only [Int.toNat_natCast]
      rw [show u0.mk ((u0.mk ((u0.mk (G8 (U4.getD s.Kind.toNat []) ((p9 s).take j))).l++(u0.mk [32]).l)).l++(u0.mk (Lib.itoa ((p9 s)[j]'(by omega)))).l)=u0.mk (G8 (U4.getD s.Kind.toNat []) ((p9 s).take (j+1))) from by rw [a06 _ _ _ (by omega)];simp]
      refine .q 3 hG ?_
      refine .ad (by first|omega|(simp;done)|(simp;omega)|(simp at *;omega)) (by first|omega|(simp;done)|(simp;omega)|(simp at *;omega)) ?_
      refine .q 2 hG ?_
      refine⟨j+1,.c2 rfl rfl (.c2 rfl rfl (.c2 rfl rfl (.nil _))),rfl,?_,by omega⟩
      refine⟨by omega,fun i hi hij => ?_⟩;rcases Nat.lt_or_ge i j with h|h;exact h2 i hi h;(obtain rfl:i=j:=by omega);exact hfj
    ·refine .q 3 hG ?_
     obtain rfl:j=(p9 s).length:=(by omega)
     rw [List.take_length]
     have e0:((C3 s.Kind).any fun f=>M9 (f.lens.get s))=false:=List.any_eq_false.2 (fun f hf=>by obtain⟨i,hi,rfl⟩:=List.getElem_of_mem hf;have hv:(p9 s)[i]'(by omega)=((C3 s.Kind)[i]).lens.get s:=(by simp [p9]);rw [←hv,h2 i (by omega) (by omega)];decide)
     rw [←List.append_nil (G8 (U4.getD s.Kind.toNat []) (p9 s))]
     refine .q 4 hG ?_
     refine .C2 (α:=Nat) [(1,_),(5,_),(7,_)] (fun j R=>(8,.v (u0.mk (G8 (U4.getD s.Kind.toNat []) (p9 s)++W4 ((B0 s).take j))))::(10,.v (j:Int))::R) (fun j => [(true,.fz (ptr b1 0) (.p s))]) (fun j=>j≤(B0 s).length∧∀ i (h:i < (B0 s).length),i < j→p8 (B0 s)[i]=true) (fun j=>(B0 s).length - j) (0) (.c2 a8 a8 (.cons a8 (.nil _))) ?_ (.c2 a8 a8 (.c2 a8 a8 (.cons a8 (.nil _)))) (a8) fun j hF => ?_
     ·simp
     obtain⟨g1,g2⟩:=hF
     refine .q 9 hG ⟨fun hc83 => ?_,fun hc83 => ?_⟩
     ·refine .q 4 hG ?_
      have gj:j < (B0 s).length:=(by omega)
      refine .q 3 hG ?_
      refine .ix (by first|omega|(simp;done)|(simp;omega)|(simp at *;omega)) (by first|omega|(simp;done)|(simp;omega)|(simp at *;omega)) ?_
      refine .q 1 hG ?_
      refine .k hG (a0t _) ?_
      refine .q 5 hG ?_
      simp only [Int.toNat_natCast]
      refine .q 8 hG ⟨fun hc95 => ?_,fun hc95 => ?_⟩
      ·refine .q 7 hG ?_
       refine .e2 a8 a8 a8 ?_
       first|(have e9:o8 s=9:=(by unfold o8;rw [if_pos (show B2 s=true by rw [←P8 s hk];exact hc50)]);rw [x6 hk (by rw [e9];decide),e9];done)|(have e1:o8 s=1:=(by unfold o8;rw [if_neg (by rw [hex];decide),if_pos (List.any_eq_true.2 ⟨(C3 s.Kind)[j]'(by omega),List.getElem_mem _,by have hv:((p9 s)[j]'(by omega))=((C3 s.Kind)[j]'(by omega)).lens.get s:=(by simp [p9]);rw [←hv];unfold M9;rw [Bool.or_comm];exact hc71⟩)]);rw [x6 hk (by rw [e1];decide),e1];done)|(have gp:p8 ((B0 s)[j]'gj)=false:=(by cases hq:p8 ((B0 s)[j]'gj) with|false=>rfl|true=>exact absurd (by rw [u6 hq]) hc95);have e5:o8 s=5:=(by unfold o8;rw [if_neg (by rw [hex];decide),if_neg (by rw [e0];decide),if_pos (List.any_eq_true.2 ⟨_,(by rw [←I3 hex];exact List.getElem_mem gj),by rw [gp];rfl⟩)]);rw [D9 (by rw [gp];decide),x6 hk (by rw [e5];decide),e5];done)|(have e7:o8 s=7:=(by unfold o8;rw [if_neg (by rw [hex];decide),if_neg (by rw [e0];decide),if_neg (by rw [e3];decide),if_pos (by rw [hc101,hc105];rfl)]);rw [x6 hk (by rw [e7];decide),e7];done)|(have e00:o8 s=0:=(by unfold o8;rw [if_neg (by rw [hex];decide),if_neg (by rw [e0];decide),if_neg (by rw [e3];decide),if_neg (by rw [hc101,hc105];decide)]);rw [D1 hk e00,hlt,if_pos hc101];simp;done)|(have e00:o8 s=0:=(by unfold o8;rw [if_neg (by rw [hex];decide),if_neg (by rw [e0];decide),if_neg (by rw [e3];decide),if_neg (by rw [hc101];simp)]);rw [D1 hk e00,hlt,if_neg (by rw [hc101];decide)];simp;done)|rfl
      ·refine .q 1 hG ?_
       have gp:p8 ((B0 s)[j]'gj)=true:=(by cases hq:p8 ((B0 s)[j]'gj) with|true=>rfl|false=>exact absurd (by simp [a03,hq]) hc95)
       rw [u6 gp]
       have gt:=I2 gp
       have gl2:(W4 ((B0 s).take j)).length≤202*j:=a2B _ _ (by omega) g2
       have gn:=a0L (U4.getD s.Kind.toNat []) (p9 s) (p9 s).length (Nat.le_refl _) h2
       rw [List.take_length] at gn
       refine .q 2 hG ?_
       refine .p (.D8 (.t a8) (.s [59,32] (by decide) (by decide)) (by first|omega|(simp;done)|(simp;omega)|(simp at *;omega)) ?_)
       refine .q 1 hG ?_
       refine .p (.D8 (.t a8) (.t a8) (by first|omega|(simp;done)|(simp;omega)|(simp at *;omega)) ?_)
       refine .q 1 hG ?_
       rw [show u0.mk ((u0.mk ((u0.mk (G8 (U4.getD s.Kind.toNat []) (p9 s)++W4 ((B0 s).take j))).l++(u0.mk [59,32]).l)).l++(u0.mk (D3 ((B0 s)[j]'gj))).l)=u0.mk (G8 (U4.getD s.Kind.toNat []) (p9 s)++W4 ((B0 s).take (j+1))) from by rw [a2c _ _ gj];simp]
       refine .q 3 hG ?_
       refine .ad (by first|omega|(simp;done)|(simp;omega)|(simp at *;omega)) (by first|omega|(simp;done)|(simp;omega)|(simp at *;omega)) ?_
       refine .q 2 hG ?_
       refine⟨j+1,.c2 rfl rfl (.c2 rfl rfl (.cons rfl (.nil _))),rfl,?_,by omega⟩
       refine⟨by omega,fun i hi hij => ?_⟩;rcases Nat.lt_or_ge i j with h|h;exact g2 i hi h;(obtain rfl:i=j:=by omega);exact gp
     ·refine .q 3 hG ?_
      obtain rfl:j=(B0 s).length:=(by omega)
      rw [List.take_length]
      have hre:=I3 hex
      have e3:(s.l9.any fun p => !p8 p)=false:=List.any_eq_false.2 (fun p hp=>by rw [←hre] at hp;obtain⟨i,hi,rfl⟩:=List.getElem_of_mem hp;rw [g2 i hi hi];decide)
      have hlt:=a2C hre
      have gl2:=a2B (B0 s) (B0 s).length (Nat.le_refl _) g2
      rw [List.take_length] at gl2
      have gn:=a0L (U4.getD s.Kind.toNat []) (p9 s) (p9 s).length (Nat.le_refl _) h2
      rw [List.take_length] at gn
      refine .q 3 hG ?_
      refine .cond (.t a8) (fun hc101 => ?_) (fun hc101 => ?_)
      ·refine .q 4 hG ?_
       refine .k hG (O9 _) ?_
       refine .k hG (a7O _) ?_
       refine .q 2 hG ?_
       refine .cond (.t a8) (fun hc105 => ?_) (fun hc105 => ?_)
       ·refine .q 6 hG ?_
        refine .e2 a8 a8 a8 ?_
        first|(have e9:o8 s=9:=(by unfold o8;rw [if_pos (show B2 s=true by rw [←P8 s hk];exact hc50)]);rw [x6 hk (by rw [e9];decide),e9];done)|(have e1:o8 s=1:=(by unfold o8;rw [if_neg (by rw [hex];decide),if_pos (List.any_eq_true.2 ⟨(C3 s.Kind)[j]'(by omega),List.getElem_mem _,by have hv:((p9 s)[j]'(by omega))=((C3 s.Kind)[j]'(by omega)).lens.get s:=(by simp [p9]);rw [←hv];unfold M9;rw [Bool.or_comm];exact hc71⟩)]);rw [x6 hk (by rw [e1];decide),e1];done)|(have gp:p8 ((B0 s)[j]'gj)=false:=(by cases hq:p8 ((B0 s)[j]'gj) with|false=>rfl|true=>exact absurd (by rw [u6 hq]) hc95);have e5:o8 s=5:=(by unfold o8;rw [if_neg (by rw [hex];decide),if_neg (by rw [e0];decide),if_pos (List.any_eq_true.2 ⟨_,(by rw [←I3 hex];exact List.getElem_mem gj),by rw [gp];rfl⟩)]);rw [D9 (by rw [gp];decide),x6 hk (by rw [e5];decide),e5];done)|(have e7:o8 s=7:=(by unfold o8;rw [if_neg (by rw [hex];decide),if_neg (by rw [e0];decide),if_neg (by rw [e3];decide),if_pos (by rw [hc101,hc105];rfl)]);rw [x6 hk (by rw [e7];decide),e7];done)|(have e00:o8 s=0:=(by unfold o8;rw [if_neg (by rw [hex];decide),if_neg (by rw [e0];decide),if_neg (by rw [e3];decide),if_neg (by rw [hc101,hc105];decide)]);rw [D1 hk e00,hlt,if_pos hc101];simp;done)|(have e00:o8 s=0:=(by unfold o8;rw [if_neg (by rw [hex];decide),if_neg (by rw [e0];decide),if_neg (by rw [e3];decide),if_neg (by rw [hc101];simp)]);rw [D1 hk e00,hlt,if_neg (by rw [hc101];decide)];simp;done)|rfl
       ·refine .q 1 hG ?_
        have g16:((G4 s).get s).l.length≤16:=(by have h9:u7 ((G4 s).get s)=true:=(by simpa using hc105);unfold u7 at h9;simp at h9;omega)
        refine .q 2 hG ?_
        refine .p (.D8 (.t a8) (.s [59,32] (by decide) (by decide)) (by first|omega|(simp;done)|(simp;omega)|(simp at *;omega)) ?_)
        refine .q 1 hG ?_
        refine .k hG (O9 _) (.p (.D8 (.t a8) (.t a8) (by first|omega|(simp;done)|(simp;omega)|(simp at *;omega)) ?_))
        refine .q 5 hG ?_
        refine .p (.D8 (.t a8) (.s [10] (by decide) (by decide)) (by first|omega|(simp;done)|(simp;omega)|(simp at *;omega)) ?_)
        refine .q 4 hG ?_
        refine .e2 a8 a8 a8 ?_
        first|(have e9:o8 s=9:=(by unfold o8;rw [if_pos (show B2 s=true by rw [←P8 s hk];exact hc50)]);rw [x6 hk (by rw [e9];decide),e9];done)|(have e1:o8 s=1:=(by unfold o8;rw [if_neg (by rw [hex];decide),if_pos (List.any_eq_true.2 ⟨(C3 s.Kind)[j]'(by omega),List.getElem_mem _,by have hv:((p9 s)[j]'(by omega))=((C3 s.Kind)[j]'(by omega)).lens.get s:=(by simp [p9]);rw [←hv];unfold M9;rw [Bool.or_comm];exact hc71⟩)]);rw [x6 hk (by rw [e1];decide),e1];done)|(have gp:p8 ((B0 s)[j]'gj)=false:=(by cases hq:p8 ((B0 s)[j]'gj) with|false=>rfl|true=>exact absurd (by rw [u6 hq]) hc95);have e5:o8 s=5:=(by unfold o8;rw [if_neg (by rw [hex];decide),if_neg (by rw [e0];decide),if_pos (List.any_eq_true.2 ⟨_,(by rw [←I3 hex];exact List.getElem_mem gj),by rw [gp];rfl⟩)]);rw [D9 (by rw [gp];decide),x6 hk (by rw [e5];decide),e5];done)|(have e7:o8 s=7:=(by unfold o8;rw [if_neg (by rw [hex];decide),if_neg (by rw [e0];decide),if_neg (by rw [e3];decide),if_pos (by rw [hc101,hc105];rfl)]);rw [x6 hk (by rw [e7];decide),e7];done)|(have e00:o8 s=0:=(by unfold o8;rw [if_neg (by rw [hex];decide),if_neg (by rw [e0];decide),if_neg (by rw [e3];decide),if_neg (by rw [hc101,hc105];decide)]);rw [D1 hk e00,hlt,if_pos hc101];simp;done)|(have e00:o8 s=0:=(by unfold o8;rw [if_neg (by rw [hex];decide),if_neg (by rw [e0];decide),if_neg (by rw [e3];decide),if_neg (by rw [hc101];simp)]);rw [D1 hk e00,hlt,if_neg (by rw [hc101];decide)];simp;done)|rfl
      ·refine .q 4 hG ?_
       refine .p (.D8 (.t a8) (.s [10] (by decide) (by decide)) (by first|omega|(simp;done)|(simp;omega)|(simp at *;omega)) ?_)
       refine .q 4 hG ?_
       refine .e2 a8 a8 a8 ?_
       first|(have e9:o8 s=9:=(by unfold o8;rw [if_pos (show B2 s=true by rw [←P8 s hk];exact hc50)]);rw [x6 hk (by rw [e9];decide),e9];done)|(have e1:o8 s=1:=(by unfold o8;rw [if_neg (by rw [hex];decide),if_pos (List.any_eq_true.2 ⟨(C3 s.Kind)[j]'(by omega),List.getElem_mem _,by have hv:((p9 s)[j]'(by omega))=((C3 s.Kind)[j]'(by omega)).lens.get s:=(by simp [p9]);rw [←hv];unfold M9;rw [Bool.or_comm];exact hc71⟩)]);rw [x6 hk (by rw [e1];decide),e1];done)|(have gp:p8 ((B0 s)[j]'gj)=false:=(by cases hq:p8 ((B0 s)[j]'gj) with|false=>rfl|true=>exact absurd (by rw [u6 hq]) hc95);have e5:o8 s=5:=(by unfold o8;rw [if_neg (by rw [hex];decide),if_neg (by rw [e0];decide),if_pos (List.any_eq_true.2 ⟨_,(by rw [←I3 hex];exact List.getElem_mem gj),by rw [gp];rfl⟩)]);rw [D9 (by rw [gp];decide),x6 hk (by rw [e5];decide),e5];done)|(have e7:o8 s=7:=(by unfold o8;rw [if_neg (by rw [hex];decide),if_neg (by rw [e0];decide),if_neg (by rw [e3];decide),if_pos (by rw [hc101,hc105];rfl)]);rw [x6 hk (by rw [e7];decide),e7];done)|(have e00:o8 s=0:=(by unfold o8;rw [if_neg (by rw [hex];decide),if_neg (by rw [e0];decide),if_neg (by rw [e3];decide),if_neg (by rw [hc101,hc105];decide)]);rw [D1 hk e00,hlt,if_pos hc101];simp;done)|(have e00:o8 s=0:=(by unfold o8;rw [if_neg (by rw [hex];decide),if_neg (by rw [e0];decide),if_neg (by rw [e3];decide),if_neg (by rw [hc101];simp)]);rw [D1 hk e00,hlt,if_neg (by rw [hc101];decide)];simp;done)|rfl
  ·refine .q 3 hG ?_
   rw [show([]:List j3)=B0 s from(by unfold B0;rw [if_neg (by rw [hc29];decide)])]
   refine .a8J (by kernel_rfl) 19 [[],[],[(33,1)],[],[],[],[(37,5)],[(34,2),(35,3),(36,4),(38,6)],[(32,0),(39,7)],[(40,8)],[(41,9)],[],[(43,11)],[(44,12)],[],[(46,14)],[(47,15)],[(45,13),(48,16)],[(42,10),(49,17)]] a8 (by kernel_rfl) a8 ?_
   refine⟨_,j7.F1 q9 (.t a8) a8,?_⟩
   refine⟨_,j7.C6 j4.l0 (fun x=>x.Kind) a3Z a8 (fun _=>a8) (.t a8) a8,?_⟩
   refine⟨_,j7.F1 A3 (.t a8) a8,?_⟩
   refine⟨_,j7.move (.t a8) a8,?_⟩
   refine⟨_,j7.move (.t a8) a8,?_⟩
   refine⟨_,j7.F1 q9 (.t a8) a8,?_⟩
   refine⟨_,j7.A4 hG (O9 _) (.cons (.t a8) .nil) a8,?_⟩
   refine⟨_,j7.A4 hG (a2A _ _ _ _ hk hvl) (.cons (.t a8) (.cons (.t a8) (.cons (.t a8) (.cons (.t a8) .nil)))) a8,?_⟩
   refine⟨_,j7.A4 hG (a2b _ _) (.cons (.t a8) (.cons (.t a8) .nil)) a8,?_⟩
   refine⟨_,j7.not (.t a8) a8,?_⟩
   refine⟨_,j7.move (.t a8) a8,?_⟩
   refine⟨_,.inl ⟨_,_,a8,a8,fun hg43=>j7.move (.t a8) a8⟩,?_⟩
   refine⟨_,.inl ⟨_,_,a8,a8,fun hg44=>j7.not (.ou a8 (beq_iff_eq.2 hg44)) a8⟩,?_⟩
   refine⟨_,.inl ⟨_,_,a8,a8,fun hg45=>j7.move (.ou a8 (beq_iff_eq.2 hg45)) a8⟩,?_⟩
   refine⟨_,.inr ⟨_,_,_,a8,a8,fun hc46 hg46=>j7.F1 q9 (.t a8) a8⟩,?_⟩
   refine⟨_,.inr ⟨_,_,_,a8,a8,fun hc47 hg47=>j7.A4 hG (O9 _) (.cons (.ou a8 (Bool.and_eq_true_iff.2 ⟨hc47,beq_iff_eq.2 hg47⟩)) .nil) a8⟩,?_⟩
   refine⟨_,.inr ⟨_,_,_,a8,a8,fun hc48 hg48=>j7.b2T (.ou a8 (Bool.and_eq_true_iff.2 ⟨hc48,beq_iff_eq.2 hg48⟩)) (.s [] (by decide) (by decide)) a8⟩,?_⟩
   refine⟨_,.inl ⟨_,_,a8,a8,fun hg49=>j7.K6 (.ou a8 (beq_iff_eq.2 hg49)) (fun hp=>(.ou a8 (Bool.and_eq_true_iff.2 ⟨(beq_iff_eq.2 hg49),beq_iff_eq.2 hp⟩))) a8⟩,?_⟩
   refine⟨_,j7.a2Q (.t a8) (fun hp=>(.ou a8 (beq_iff_eq.2 hp))) a8,?_⟩
   show C4 _ _ _ _ _ [] ((50,_)::(49,_)::(48,_)::(47,_)::(46,_)::(45,_)::(44,_)::(43,_)::(42,_)::(41,_)::(40,_)::(39,_)::(38,_)::(37,_)::(36,_)::(35,_)::(34,_)::(33,_)::(32,_)::_) _
   refine .q 1 hG ?_
   refine .cond (.t a8) (fun hc50 => ?_) (fun hc50 => ?_)
   ·refine .q 6 hG ?_
    refine .e2 a8 a8 a8 ?_
    first|(have e9:o8 s=9:=(by unfold o8;rw [if_pos (show B2 s=true by rw [←P8 s hk];exact hc50)]);rw [x6 hk (by rw [e9];decide),e9];done)|(have e1:o8 s=1:=(by unfold o8;rw [if_neg (by rw [hex];decide),if_pos (List.any_eq_true.2 ⟨(C3 s.Kind)[j]'(by omega),List.getElem_mem _,by have hv:((p9 s)[j]'(by omega))=((C3 s.Kind)[j]'(by omega)).lens.get s:=(by simp [p9]);rw [←hv];unfold M9;rw [Bool.or_comm];exact hc71⟩)]);rw [x6 hk (by rw [e1];decide),e1];done)|(have gp:p8 ((B0 s)[j]'gj)=false:=(by cases hq:p8 ((B0 s)[j]'gj) with|false=>rfl|true=>exact absurd (by rw [u6 hq]) hc95);have e5:o8 s=5:=(by unfold o8;rw [if_neg (by rw [hex];decide),if_neg (by rw [e0];decide),if_pos (List.any_eq_true.2 ⟨_,(by rw [←I3 hex];exact List.getElem_mem gj),by rw [gp];rfl⟩)]);rw [D9 (by rw [gp];decide),x6 hk (by rw [e5];decide),e5];done)|(have e7:o8 s=7:=(by unfold o8;rw [if_neg (by rw [hex];decide),if_neg (by rw [e0];decide),if_neg (by rw [e3];decide),if_pos (by rw [hc101,hc105];rfl)]);rw [x6 hk (by rw [e7];decide),e7];done)|(have e00:o8 s=0:=(by unfold o8;rw [if_neg (by rw [hex];decide),if_neg (by rw [e0];decide),if_neg (by rw [e3];decide),if_neg (by rw [hc101,hc105];decide)]);rw [D1 hk e00,hlt,if_pos hc101];simp;done)|(have e00:o8 s=0:=(by unfold o8;rw [if_neg (by rw [hex];decide),if_neg (by rw [e0];decide),if_neg (by rw [e3];decide),if_neg (by rw [hc101];simp)]);rw [D1 hk e00,hlt,if_neg (by rw [hc101];decide)];simp;done)|rfl
   ·refine .q 2 hG ?_
    have hex:B2 s=false:=(by rw [←P8 s hk];exact hc50)
    refine .q 3 hG ?_
    refine .k hG (a4p _ hk) ?_
    refine .q 8 hG ?_
    refine .C2 (α:=Nat) [(1,_),(5,_),(6,_),(7,_)] (fun j R=>(8,.v (u0.mk (G8 (U4.getD s.Kind.toNat []) ((p9 s).take j))))::(9,.v (j:Int))::R) (fun j => [(true,.fz (ptr b1 0) (.p s))]) (fun j=>j≤(p9 s).length∧∀ i (h:i < (p9 s).length),i < j→M9 (p9 s)[i]=false) (fun j=>(p9 s).length - j) (0) (.c2 a8 a8 (.c2 a8 a8 (.nil _))) ?_ (.c2 a8 a8 (.c2 a8 a8 (.c2 a8 a8 (.nil _)))) (a8) fun j hF => ?_
    ·simp
    obtain⟨h1,h2⟩:=hF
    refine .q 9 hG ⟨fun hc57 => ?_,fun hc57 => ?_⟩
    ·refine .q 8 hG ?_
     refine .ix (by first|omega|(simp;done)|(simp;omega)|(simp at *;omega)) (by first|omega|(simp;done)|(simp;omega)|(simp at *;omega)) ?_
     refine .q 5 hG ?_
     refine .go 65 a8 (.t a8) (fun hg68 => .idx A3 underlying23 (.q a8 hg68) (.q a8 hg68) (by first|omega|(simp;done)|(simp;omega)|(have:=hg68;simp at this;omega)) (by first|omega|(simp;done)|(simp;omega)|(have:=hg68;simp at this;omega)) a8) (.go 65 a8 (.t a8) (fun hg69 => .F1 A3 (.q a8 hg69) a8) (.go 65 a8 (.t a8) (fun hg70 => .lss (.q a8 hg70) (.i a8) a8) (.p (.a2Q (.t a8) (fun hp=>(.q a8 hp)) ?_))))
     refine .q 1 hG ?_
     refine .cond (.t a8) (fun hc71 => ?_) (fun hc71 => ?_)
     ·refine .q 6 hG ?_
      refine .e2 a8 a8 a8 ?_
      first|(have e9:o8 s=9:=(by unfold o8;rw [if_pos (show B2 s=true by rw [←P8 s hk];exact hc50)]);rw [x6 hk (by rw [e9];decide),e9];done)|(have e1:o8 s=1:=(by unfold o8;rw [if_neg (by rw [hex];decide),if_pos (List.any_eq_true.2 ⟨(C3 s.Kind)[j]'(by omega),List.getElem_mem _,by have hv:((p9 s)[j]'(by omega))=((C3 s.Kind)[j]'(by omega)).lens.get s:=(by simp [p9]);rw [←hv];unfold M9;rw [Bool.or_comm];exact hc71⟩)]);rw [x6 hk (by rw [e1];decide),e1];done)|(have gp:p8 ((B0 s)[j]'gj)=false:=(by cases hq:p8 ((B0 s)[j]'gj) with|false=>rfl|true=>exact absurd (by rw [u6 hq]) hc95);have e5:o8 s=5:=(by unfold o8;rw [if_neg (by rw [hex];decide),if_neg (by rw [e0];decide),if_pos (List.any_eq_true.2 ⟨_,(by rw [←I3 hex];exact List.getElem_mem gj),by rw [gp];rfl⟩)]);rw [D9 (by rw [gp];decide),x6 hk (by rw [e5];decide),e5];done)|(have e7:o8 s=7:=(by unfold o8;rw [if_neg (by rw [hex];decide),if_neg (by rw [e0];decide),if_neg (by rw [e3];decide),if_pos (by rw [hc101,hc105];rfl)]);rw [x6 hk (by rw [e7];decide),e7];done)|(have e00:o8 s=0:=(by unfold o8;rw [if_neg (by rw [hex];decide),if_neg (by rw [e0];decide),if_neg (by rw [e3];decide),if_neg (by rw [hc101,hc105];decide)]);rw [D1 hk e00,hlt,if_pos hc101];simp;done)|(have e00:o8 s=0:=(by unfold o8;rw [if_neg (by rw [hex];decide),if_neg (by rw [e0];decide),if_neg (by rw [e3];decide),if_neg (by rw [hc101];simp)]);rw [D1 hk e00,hlt,if_neg (by rw [hc101];decide)];simp;done)|rfl
     ·refine .q 1 hG ?_
      have hfj:M9 ((p9 s)[j]'(by omega))=false:=(by unfold M9;rw [Bool.or_comm];exact hc71)
      have hfr:=hfj
      unfold M9 at hfr
      simp only [Bool.or_eq_false_iff,decide_eq_false_iff_not] at hfr
      have hil:=a2w (n:=(p9 s)[j]'(by omega)) (by omega) (by omega)
      have hnl:(G8 (U4.getD s.Kind.toNat []) ((p9 s).take j)).length≤9+17*5:=(by have:=a0L (U4.getD s.Kind.toNat []) (p9 s) j (by omega) h2;omega)
      refine .q 2 hG ?_
      refine .p (.D8 (.t a8) (.s [32] (by decide) (by decide)) (by first|omega|(simp;done)|(simp;omega)|(simp at *;omega)) ?_)
      refine .q 2 hG ?_
      refine .ix (by first|omega|(simp;done)|(simp;omega)|(simp at *;omega)) (by first|omega|(simp;done)|(simp;omega)|(simp at *;omega)) ?_
      refine .q 1 hG ?_
      refine .k hG (a8U _ (by simp only [Int.toNat_natCast];omega) (by simp only [Int.toNat_natCast];omega)) (.p (.D8 (.t a8) (.t a8) (by first|omega|(simp;done)|(simp;omega)|(simp at *;omega)) ?_))
      refine .q 1 hG ?_
      simp only [Int.toNat_natCast]
      rw [show u0.mk ((u0.mk ((u0.mk (G8 (U4.getD s.Kind.toNat []) ((p9 s).take j))).l++(u0.mk [32]).l)).l++(u0.mk (Lib.itoa ((p9 s)[j]'(by omega)))).l)=u0.mk (G8 (U4.getD s.Kind.toNat []) ((p9 s).take (j+1))) from by rw [a06 _ _ _ (by omega)];simp]
      refine .q 3 hG ?_
      refine .ad (by first|omega|(simp;done)|(simp;omega)|(simp at *;omega)) (by first|omega|(simp;done)|(simp;omega)|(simp at *;omega)) ?_
      refine .q 2 hG ?_
      refine⟨j+1,.c2 rfl rfl (.c2 rfl rfl (.c2 rfl rfl (.nil _))),rfl,?_,by omega⟩
      refine⟨by omega,fun i hi hij => ?_⟩;rcases Nat.lt_or_ge i j with h|h;exact h2 i hi h;(obtain rfl:i=j:=by omega);exact hfj
    ·refine .q 3 hG ?_
     obtain rfl:j=(p9 s).length:=(by omega)
     rw [List.take_length]
     have e0:((C3 s.Kind).any fun f=>M9 (f.lens.get s))=false:=List.any_eq_false.2 (fun f hf=>by obtain⟨i,hi,rfl⟩:=List.getElem_of_mem hf;have hv:(p9 s)[i]'(by omega)=((C3 s.Kind)[i]).lens.get s:=(by simp [p9]);rw [←hv,h2 i (by omega) (by omega)];decide)
     rw [←List.append_nil (G8 (U4.getD s.Kind.toNat []) (p9 s))]
     refine .q 4 hG ?_
     refine .C2 (α:=Nat) [(1,_),(5,_),(7,_)] (fun j R=>(8,.v (u0.mk (G8 (U4.getD s.Kind.toNat []) (p9 s)++W4 ((B0 s).take j))))::(10,.v (j:Int))::R) (fun j => [(true,.fz (ptr b1 0) (.p s))]) (fun j=>j≤(B0 s).length∧∀ i (h:i < (B0 s).length),i < j→p8 (B0 s)[i]=true) (fun j=>(B0 s).length - j) (0) (.c2 a8 a8 (.cons a8 (.nil _))) ?_ (.c2 a8 a8 (.c2 a8 a8 (.cons a8 (.nil _)))) (a8) fun j hF => ?_
     ·simp
     obtain⟨g1,g2⟩:=hF
     refine .q 9 hG ⟨fun hc83 => ?_,fun hc83 => ?_⟩
     ·refine .q 4 hG ?_
      have gj:j < (B0 s).length:=(by omega)
      refine .q 3 hG ?_
      refine .ix (by first|omega|(simp;done)|(simp;omega)|(simp at *;omega)) (by first|omega|(simp;done)|(simp;omega)|(simp at *;omega)) ?_
      refine .q 1 hG ?_
      refine .k hG (a0t _) ?_
      refine .q 5 hG ?_
      simp only [Int.toNat_natCast]
      refine .q 8 hG ⟨fun hc95 => ?_,fun hc95 => ?_⟩
      ·refine .q 7 hG ?_
       refine .e2 a8 a8 a8 ?_
       first|(have e9:o8 s=9:=(by unfold o8;rw [if_pos (show B2 s=true by rw [←P8 s hk];exact hc50)]);rw [x6 hk (by rw [e9];decide),e9];done)|(have e1:o8 s=1:=(by unfold o8;rw [if_neg (by rw [hex];decide),if_pos (List.any_eq_true.2 ⟨(C3 s.Kind)[j]'(by omega),List.getElem_mem _,by have hv:((p9 s)[j]'(by omega))=((C3 s.Kind)[j]'(by omega)).lens.get s:=(by simp [p9]);rw [←hv];unfold M9;rw [Bool.or_comm];exact hc71⟩)]);rw [x6 hk (by rw [e1];decide),e1];done)|(have gp:p8 ((B0 s)[j]'gj)=false:=(by cases hq:p8 ((B0 s)[j]'gj) with|false=>rfl|true=>exact absurd (by rw [u6 hq]) hc95);have e5:o8 s=5:=(by unfold o8;rw [if_neg (by rw [hex];decide),if_neg (by rw [e0];decide),if_pos (List.any_eq_true.2 ⟨_,(by rw [←I3 hex];exact List.getElem_mem gj),by rw [gp];rfl⟩)]);rw [D9 (by rw [gp];decide),x6 hk (by rw [e5];decide),e5];done)|(have e7:o8 s=7:=(by unfold o8;rw [if_neg (by rw [hex];decide),if_neg (by rw [e0];decide),if_neg (by rw [e3];decide),if_pos (by rw [hc101,hc105];rfl)]);rw [x6 hk (by rw [e7];decide),e7];done)|(have e00:o8 s=0:=(by unfold o8;rw [if_neg (by rw [hex];decide),if_neg (by rw [e0];decide),if_neg (by rw [e3];decide),if_neg (by rw [hc101,hc105];decide)]);rw [D1 hk e00,hlt,if_pos hc101];simp;done)|(have e00:o8 s=0:=(by unfold o8;rw [if_neg (by rw [hex];decide),if_neg (by rw [e0];decide),if_neg (by rw [e3];decide),if_neg (by rw [hc101];simp)]);rw [D1 hk e00,hlt,if_neg (by rw [hc101];decide)];simp;done)|rfl
      ·refine .q 1 hG ?_
       have gp:p8 ((B0 s)[j]'gj)=true:=(by cases hq:p8 ((B0 s)[j]'gj) with|true=>rfl|false=>exact absurd (by simp [a03,hq]) hc95)
       rw [u6 gp]
       have gt:=I2 gp
       have gl2:(W4 ((B0 s).take j)).length≤202*j:=a2B _ _ (by omega) g2
       have gn:=a0L (U4.getD s.Kind.toNat []) (p9 s) (p9 s).length (Nat.le_refl _) h2
       rw [List.take_length] at gn
       refine .q 2 hG ?_
       refine .p (.D8 (.t a8) (.s [59,32] (by decide) (by decide)) (by first|omega|(simp;done)|(simp;omega)|(simp at *;omega)) ?_)
       refine .q 1 hG ?_
       refine .p (.D8 (.t a8) (.t a8) (by first|omega|(simp;done)|(simp;omega)|(simp at *;omega)) ?_)
       refine .q 1 hG ?_
       rw [show u0.mk ((u0.mk ((u0.mk (G8 (U4.getD s.Kind.toNat []) (p9 s)++W4 ((B0 s).take j))).l++(u0.mk [59,32]).l)).l++(u0.mk (D3 ((B0 s)[j]'gj))).l)=u0.mk (G8 (U4.getD s.Kind.toNat []) (p9 s)++W4 ((B0 s).take (j+1))) from by rw [a2c _ _ gj];simp]
       refine .q 3 hG ?_
       refine .ad (by first|omega|(simp;done)|(simp;omega)|(simp at *;omega)) (by first|omega|(simp;done)|(simp;omega)|(simp at *;omega)) ?_
       refine .q 2 hG ?_
       refine⟨j+1,.c2 rfl rfl (.c2 rfl rfl (.cons rfl (.nil _))),rfl,?_,by omega⟩
       refine⟨by omega,fun i hi hij => ?_⟩;rcases Nat.lt_or_ge i j with h|h;exact g2 i hi h;(obtain rfl:i=j:=by omega);exact gp
     ·refine .q 3 hG ?_
      obtain rfl:j=(B0 s).length:=(by omega)
      rw [List.take_length]
      have hre:=I3 hex
      have e3:(s.l9.any fun p => !p8 p)=false:=List.any_eq_false.2 (fun p hp=>by rw [←hre] at hp;obtain⟨i,hi,rfl⟩:=List.getElem_of_mem hp;rw [g2 i hi hi];decide)
      have hlt:=a2C hre
      have gl2:=a2B (B0 s) (B0 s).length (Nat.le_refl _) g2
      rw [List.take_length] at gl2
      have gn:=a0L (U4.getD s.Kind.toNat []) (p9 s) (p9 s).length (Nat.le_refl _) h2
      rw [List.take_length] at gn
      refine .q 3 hG ?_
      refine .cond (.t a8) (fun hc101 => ?_) (fun hc101 => ?_)
      ·refine .q 4 hG ?_
       refine .k hG (O9 _) ?_
       refine .k hG (a7O _) ?_
       refine .q 2 hG ?_
       refine .cond (.t a8) (fun hc105 => ?_) (fun hc105 => ?_)
       ·refine .q 6 hG ?_
        refine .e2 a8 a8 a8 ?_
        first|(have e9:o8 s=9:=(by unfold o8;rw [if_pos (show B2 s=true by rw [←P8 s hk];exact hc50)]);rw [x6 hk (by rw [e9];decide),e9];done)|(have e1:o8 s=1:=(by unfold o8;rw [if_neg (by rw [hex];decide),if_pos (List.any_eq_true.2 ⟨(C3 s.Kind)[j]'(by omega),List.getElem_mem _,by have hv:((p9 s)[j]'(by omega))=((C3 s.Kind)[j]'(by omega)).lens.get s:=(by simp [p9]);rw [←hv];unfold M9;rw [Bool.or_comm];exact hc71⟩)]);rw [x6 hk (by rw [e1];decide),e1];done)|(have gp:p8 ((B0 s)[j]'gj)=false:=(by cases hq:p8 ((B0 s)[j]'gj) with|false=>rfl|true=>exact absurd (by rw [u6 hq]) hc95);have e5:o8 s=5:=(by unfold o8;rw [if_neg (by rw [hex];decide),if_neg (by rw [e0];decide),if_pos (List.any_eq_true.2 ⟨_,(by rw [←I3 hex];exact List.getElem_mem gj),by rw [gp];rfl⟩)]);rw [D9 (by rw [gp];decide),x6 hk (by rw [e5];decide),e5];done)|(have e7:o8 s=7:=(by unfold o8;rw [if_neg (by rw [hex];decide),if_neg (by rw [e0];decide),if_neg (by rw [e3];decide),if_pos (by rw [hc101,hc105];rfl)]);rw [x6 hk (by rw [e7];decide),e7];done)|(have e00:o8 s=0:=(by unfold o8;rw [if_neg (by rw [hex];decide),if_neg (by rw [e0];decide),if_neg (by rw [e3];decide),if_neg (by rw [hc101,hc105];decide)]);rw [D1 hk e00,hlt,if_pos hc101];simp;done)|(have e00:o8 s=0:=(by unfold o8;rw [if_neg (by rw [hex];decide),if_neg (by rw [e0];decide),if_neg (by rw [e3];decide),if_neg (by rw [hc101];simp)]);rw [D1 hk e00,hlt,if_neg (by rw [hc101];decide)];simp;done)|rfl
       ·refine .q 1 hG ?_
        have g16:((G4 s).get s).l.length≤16:=(by have h9:u7 ((G4 s).get s)=true:=(by simpa using hc105);unfold u7 at h9;simp at h9;omega)
        refine .q 2 hG ?_
        refine .p (.D8 (.t a8) (.s [59,32] (by decide) (by decide)) (by first|omega|(simp;done)|(simp;omega)|(simp at *;omega)) ?_)
        refine .q 1 hG ?_
        refine .k hG (O9 _) (.p (.D8 (.t a8) (.t a8) (by first|omega|(simp;done)|(simp;omega)|(simp at *;omega)) ?_))
        refine .q 5 hG ?_
        refine .p (.D8 (.t a8) (.s [10] (by decide) (by decide)) (by first|omega|(simp;done)|(simp;omega)|(simp at *;omega)) ?_)
        refine .q 4 hG ?_
        refine .e2 a8 a8 a8 ?_
        first|(have e9:o8 s=9:=(by unfold o8;rw [if_pos (show B2 s=true by rw [←P8 s hk];exact hc50)]);rw [x6 hk (by rw [e9];decide),e9];done)|(have e1:o8 s=1:=(by unfold o8;rw [if_neg (by rw [hex];decide),if_pos (List.any_eq_true.2 ⟨(C3 s.Kind)[j]'(by omega),List.getElem_mem _,by have hv:((p9 s)[j]'(by omega))=((C3 s.Kind)[j]'(by omega)).lens.get s:=(by simp [p9]);rw [←hv];unfold M9;rw [Bool.or_comm];exact hc71⟩)]);rw [x6 hk (by rw [e1];decide),e1];done)|(have gp:p8 ((B0 s)[j]'gj)=false:=(by cases hq:p8 ((B0 s)[j]'gj) with|false=>rfl|true=>exact absurd (by rw [u6 hq]) hc95);have e5:o8 s=5:=(by unfold o8;rw [if_neg (by rw [hex];decide),if_neg (by rw [e0];decide),if_pos (List.any_eq_true.2 ⟨_,(by rw [←I3 hex];exact List.getElem_mem gj),by rw [gp];rfl⟩)]);rw [D9 (by rw [gp];decide),x6 hk (by rw [e5];decide),e5];done)|(have e7:o8 s=7:=(by unfold o8;rw [if_neg (by rw [hex];decide),if_neg (by rw [e0];decide),if_neg (by rw [e3];decide),if_pos (by rw [hc101,hc105];rfl)]);rw [x6 hk (by rw [e7];decide),e7];done)|(have e00:o8 s=0:=(by unfold o8;rw [if_neg (by rw [hex];decide),if_neg (by rw [e0];decide),if_neg (by rw [e3];decide),if_neg (by rw [hc101,hc105];decide)]);rw [D1 hk e00,hlt,if_pos hc101];simp;done)|(have e00:o8 s=0:=(by unfold o8;rw [if_neg (by rw [hex];decide),if_neg (by rw [e0];decide),if_neg (by rw [e3];decide),if_neg (by rw [hc101];simp)]);rw [D1 hk e00,hlt,if_neg (by rw [hc101];decide)];simp;done)|rfl
      ·refine .q 4 hG ?_
       refine .p (.D8 (.t a8) (.s [10] (by decide) (by decide)) (by first|omega|(simp;done)|(simp;omega)|(simp at *;omega)) ?_)
       refine .q 4 hG ?_
       refine .e2 a8 a8 a8 ?_
       first|(have e9:o8 s=9:=(by unfold o8;rw [if_pos (show B2 s=true by rw [←P8 s hk];exact hc50)]);rw [x6 hk (by rw [e9];decide),e9];done)|(have e1:o8 s=1:=(by unfold o8;rw [if_neg (by rw [hex];decide),if_pos (List.any_eq_true.2 ⟨(C3 s.Kind)[j]'(by omega),List.getElem_mem _,by have hv:((p9 s)[j]'(by omega))=((C3 s.Kind)[j]'(by omega)).lens.get s:=(by simp [p9]);rw [←hv];unfold M9;rw [Bool.or_comm];exact hc71⟩)]);rw [x6 hk (by rw [e1];decide),e1];done)|(have gp:p8 ((B0 s)[j]'gj)=false:=(by cases hq:p8 ((B0 s)[j]'gj) with|false=>rfl|true=>exact absurd (by rw [u6 hq]) hc95);have e5:o8 s=5:=(by unfold o8;rw [if_neg (by rw [hex];decide),if_neg (by rw [e0];decide),if_pos (List.any_eq_true.2 ⟨_,(by rw [←I3 hex];exact List.getElem_mem gj),by rw [gp];rfl⟩)]);rw [D9 (by rw [gp];decide),x6 hk (by rw [e5];decide),e5];done)|(have e7:o8 s=7:=(by unfold o8;rw [if_neg (by rw [hex];decide),if_neg (by rw [e0];decide),if_neg (by rw [e3];decide),if_pos (by rw [hc101,hc105];rfl)]);rw [x6 hk (by rw [e7];decide),e7];done)|(have e00:o8 s=0:=(by unfold o8;rw [if_neg (by rw [hex];decide),if_neg (by rw [e0];decide),if_neg (by rw [e3];decide),if_neg (by rw [hc101,hc105];decide)]);rw [D1 hk e00,hlt,if_pos hc101];simp;done)|(have e00:o8 s=0:=(by unfold o8;rw [if_neg (by rw [hex];decide),if_neg (by rw [e0];decide),if_neg (by rw [e3];decide),if_neg (by rw [hc101];simp)]);rw [D1 hk e00,hlt,if_neg (by rw [hc101];decide)];simp;done)|rfl
def M4 (l:List Step):List UInt8:=(l.map fun s=>L7 s ++ [10]).flatten
def P4:List Step→u0×Int
 | []=>(⟨[]⟩,0)
 | s::r=>if (D0 s).2≠0 then (⟨[]⟩,(D0 s).2) else if (P4 r).2≠0 then (⟨[]⟩,(P4 r).2) else (⟨L7 s++10::(P4 r).1.l⟩,0)
theorem a07:∀ (l:List Step),(∀ i (h:i < l.length),(D0 l[i]).2=0)→P4 l=(⟨M4 l⟩,0)
 | [],_=>rfl
 | s::r,h=>by
  have h0:(D0 s).2=0:=h 0 (by simp)
  have h1:=a07 r fun i hi=>h (i+1) (by simp;omega)
  rw [P4,if_neg (by rw [h0];decide),h1,if_neg (by simp)]
  simp [M4]
theorem a1s:∀ (l:List Step) (j:Nat) (hj:j < l.length),(∀ i (h:i < l.length),i < j→(D0 l[i]).2=0)→(D0 l[j]).2≠0→P4 l=(⟨[]⟩,(D0 l[j]).2)
 | [],j,hj,_,_=>by simp at hj
 | s::r,0,_,_,h=>by rw [P4];exact if_pos h
 | s::r,j+1,hj,h,hb=>by
  have h0:(D0 s).2=0:=h 0 (by simp) (by omega)
  have hj2:j < r.length:=by simp at hj;omega
  have h1:=a1s r j hj2 (fun i hi hij=>h (i+1) (by simp;omega) (by omega)) hb
  rw [P4,if_neg (by rw [h0];decide),h1,if_pos (show(D0 (r[j]'hj2)).2≠0 from hb)];rfl
theorem a2d (l:List Step) (j:Nat) (h:j < l.length):M4 (l.take (j+1))=M4 (l.take j)++(L7 l[j] ++ [10]):=by
 unfold M4
 rw [List.take_succ_eq_append_getElem h,List.map_append,List.flatten_append]
 congr 1
 simp
theorem M5 {s:Step} (h:(D0 s).2=0):(1≤s.Kind∧s.Kind < 23)∧o8 s=0∧D0 s=(⟨L7 s⟩,0):=by
 unfold D0 at h ⊢
 split at h
 ·cases h
 ·rename_i h1
  split at h
  ·rename_i h2;exact absurd h h2
  ·rename_i h2
   exact⟨by omega,Decidable.not_not.1 h2,by rw [if_neg h1,if_neg h2]⟩
theorem a5d {s:Step} (h:(D0 s).2=0):W3 s=(⟨L7 s ++ [10]⟩,0):=D1 (M5 h).1 (M5 h).2.1
theorem a6W {s:Step} (h:(D0 s).2≠0):W3 s=(⟨[]⟩,(D0 s).2):=if_neg h
theorem a1I (l:List Step) (h:∀ s∈l,s.l9.length≤4000):∀ j,j≤l.length→(∀ i (hi:i < l.length),i < j→(D0 l[i]).2=0)→(M4 (l.take j)).length≤1000001*j
 | 0,_,_=>by simp [M4]
 | j+1,hj,h2=>by
  have h1:=a1I l h j (by omega) fun i hi hij=>h2 i hi (by omega)
  have hx:=a2x (V6 (M5 (h2 j (by omega) (by omega))).2.1) (h _ (List.getElem_mem (show j < l.length by omega)))
  rw [a2d l j (by omega)]
  simp;omega
theorem K5 (l:List Step) (h:∀ s∈l,s.l9.length≤4000) (hl:l.length≤10000):y6 gl prog 10 [.v l] (fun r=>r = .t2 (.v (P4 l).1) (.v (P4 l).2)):=by
 refine y6.jn func10 (by kernel_rfl) 29 rfl fun C hC hG => ?_
 refine .q 15 hG ?_
 refine .C2 (α:=Nat) [(0,_)] (fun j R=>(4,.v (u0.mk (M4 (l.take j))))::(5,.v (j:Int))::R) (fun j => []) (fun j=>j≤l.length∧∀ i (h:i < l.length),i < j→(D0 l[i]).2=0) (fun j=>l.length - j) (0) (.cons a8 (.nil _)) ?_ (.c2 a8 a8 (.cons a8 (.nil _))) (a8) fun j hF => ?_
 ·simp
 obtain⟨h1,h2⟩:=hF
 refine .q 9 hG ⟨fun hc11 => ?_,fun hc11 => ?_⟩
 ·refine .q 4 hG ?_
  have gj:j < l.length:=(by omega)
  refine .q 3 hG ?_
  refine .ix (by first|omega|(simp;done)|(simp;omega)|(simp at *;omega)) (by first|omega|(simp;done)|(simp;omega)|(simp at *;omega)) ?_
  refine .q 1 hG ?_
  refine .k hG (a4s _ (h _ (List.getElem_mem _))) ?_
  refine .q 5 hG ?_
  simp only [Int.toNat_natCast]
  refine .q 8 hG ⟨fun hc23 => ?_,fun hc23 => ?_⟩
  ·refine .q 7 hG ?_
   refine .e2 a8 a8 a8 ?_
   have gb:(D0 (l[j]'gj)).2≠0:=(fun e=>hc23 (by rw [a5d e]))
   rw [a6W gb,a1s l j gj h2 gb]
  ·refine .q 1 hG ?_
   have gp:(D0 (l[j]'gj)).2=0:=(by cases Int.decEq (D0 (l[j]'gj)).2 0 with|isTrue hq=>exact hq|isFalse hq=>exact absurd (by rw [a6W hq];exact hq) hc23)
   rw [a5d gp]
   have gt:=a2x (V6 (M5 gp).2.1) (h _ (List.getElem_mem gj))
   have gl:=a1I l h j (by omega) h2
   refine .q 3 hG ?_
   refine .p (.D8 (.t a8) (.t a8) (by first|omega|(simp;done)|(simp;omega)|(simp at *;omega)) ?_)
   refine .q 1 hG ?_
   rw [show u0.mk ((u0.mk (M4 (l.take j))).l++(u0.mk (L7 (l[j]'gj) ++ [10])).l)=u0.mk (M4 (l.take (j+1))) from by rw [a2d _ _ gj]]
   refine .q 3 hG ?_
   refine .ad (by first|omega|(simp;done)|(simp;omega)|(simp at *;omega)) (by first|omega|(simp;done)|(simp;omega)|(simp at *;omega)) ?_
   refine .q 2 hG ?_
   refine⟨j+1,.c2 rfl rfl (.cons rfl (.nil _)),rfl,?_,by omega⟩
   refine⟨by omega,fun i hi hij => ?_⟩;rcases Nat.lt_or_ge i j with h|h;exact h2 i hi h;(obtain rfl:i=j:=by omega);exact gp
 ·refine .q 8 hG ?_
  refine .e2 a8 a8 a8 ?_
  obtain rfl:j=l.length:=(by omega)
  rw [List.take_length,a07 l (fun i hi=>h2 i hi hi)]
theorem S1 (a b:List Step):y6 gl prog 13 [.v a,.v b] (fun r=>r = .v (decide (a=b))):=by
 refine y6.jn func13 (by kernel_rfl) 27 rfl fun C hC hG => ?_
 refine .q 6 hG ?_
 refine .a2m 0 a8 fun hl0=>(.a2m 1 a8 fun hl1 => ?_)
 refine .q 8 hG ⟨fun hc10 => ?_,fun hc10 => ?_⟩
 ·refine .q 5 hG ?_
  refine .e1 a8 a8 ?_
  rw [decide_eq_false (fun e=>hc10 (by rw [e]))]
 ·refine .q 3 hG ?_
  have hll:a.length=b.length:=by omega
  refine .q 4 hG ?_
  refine .C2 (α:=Nat) [(0,_),(1,_)] (fun k R=>(5,.v (k:Int))::R) (fun k => []) (fun k=>k≤a.length∧a.take k=b.take k) (fun k=>a.length - k) (0) (.c2 a8 a8 (.nil _)) ?_ (.c2 a8 a8 (.cons a8 (.nil _))) (a8) fun k hF => ?_
  ·simp
  obtain⟨h1,h2⟩:=hF
  refine .q 9 hG ⟨fun hc14 => ?_,fun hc14 => ?_⟩
  ·refine .q 4 hG ?_
   refine .draw (by kernel_rfl) 10 [[],[],[(17,0),(18,1)],[(19,2)],[],[],[(21,4),(22,5)],[(23,6)],[(20,3),(24,7)],[(25,8)]] a8 (by kernel_rfl) a8 ?_
   refine⟨_,j7.move (.t a8) a8,?_⟩
   refine⟨_,j7.move (.t a8) a8,?_⟩
   refine⟨_,j7.idx q9 underlying22 (.t a8) (.t a8) (by first|omega|(simp;done)|(simp;omega)|(simp at *;omega)) (by first|omega|(simp;done)|(simp;omega)|(simp at *;omega)) a8,?_⟩
   refine⟨_,j7.F1 q9 (.t a8) a8,?_⟩
   refine⟨_,j7.move (.t a8) a8,?_⟩
   refine⟨_,j7.move (.t a8) a8,?_⟩
   refine⟨_,j7.idx q9 underlying22 (.t a8) (.t a8) (by first|omega|(simp;done)|(simp;omega)|(simp at *;omega)) (by first|omega|(simp;done)|(simp;omega)|(simp at *;omega)) a8,?_⟩
   refine⟨_,j7.F1 q9 (.t a8) a8,?_⟩
   refine⟨_,j7.A4 hG (a2b _ _) (.cons (.t a8) (.cons (.t a8) .nil)) a8,?_⟩
   refine⟨_,j7.not (.t a8) a8,?_⟩
   show C4 _ _ _ _ _ [] ((26,_)::(25,_)::(24,_)::(23,_)::(22,_)::(21,_)::(20,_)::(19,_)::(18,_)::(17,_)::_) _
   refine .q 1 hG ?_
   refine .cond (.t a8) (fun hc26 => ?_) (fun hc26 => ?_)
   ·refine .q 5 hG ?_
    refine .e1 a8 a8 ?_
    rw [decide_eq_false (a8T (k:=k) (by omega) (by omega) (by simpa using hc26))]
   ·refine .q 3 hG ?_
    refine .ad (by first|omega|(simp;done)|(simp;omega)|(simp at *;omega)) (by first|omega|(simp;done)|(simp;omega)|(simp at *;omega)) ?_
    refine .q 2 hG ?_
    refine⟨k+1,.c2 rfl rfl (.cons rfl (.nil _)),rfl,?_,by omega⟩
    exact⟨by omega,a2y (by omega) (by omega) h2 (by simpa using hc26)⟩
  ·refine .q 6 hG ?_
   refine .e1 a8 a8 ?_
   rw [decide_eq_true (a6U h2 (by omega) hll)]
end Go.Proofs.YtfkbejimghamkaaGreatDoor
