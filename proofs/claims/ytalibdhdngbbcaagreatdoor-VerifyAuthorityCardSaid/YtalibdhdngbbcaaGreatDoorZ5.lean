/- Plain Lean over any program, and walks of this seat's functions: contracts, each proved once (part 5). -/
import Derived.Test.YtalibdhdngbbcaaGreatDoorZ4
set_option maxRecDepth 1000000
set_option synthInstance.maxSize 1000000
set_option synthInstance.maxHeartbeats 10000000
set_option linter.unusedVariables false
set_option linter.unusedSimpArgs false
namespace Go.Proofs.YtalibdhdngbbcaaGreatDoor
open Go.Proofs.Tryz
open Go.Fl Go.Ab Go.Mac Go.Sha
def a2c (b:List UInt8):Nat:=(b.take 7).findIdx fun c => !decide (127 < c)
def a5R:List UInt8→Nat
 | []=>0
 | c::l=>c.toNat % 128+128*a5R l
theorem b4H:∀ l:List UInt8,a5R l < 128^l.length
 | []=>by decide
 | c::l=>by
  have:=b4H l
  rw [List.length_cons,Nat.pow_succ];unfold a5R;omega
def W1 (b:List UInt8):Int×Int×Int :=
 if a2c b=7 then (0,0,5) else if a2c b=b.length then (0,0,3) else
 if (decide (0 < a2c b)&&decide (b.getD (a2c b) 0=0)) then (0,0,5) else
 if 281474976710656 < a5R (b.take (a2c b+1)) then (0,0,1) else ((a5R (b.take (a2c b+1)):Int),(a2c b:Int)+1,0)
theorem b8l (b:List UInt8):a2c b≤7∧a2c b≤b.length:=by
 have h:=List.findIdx_le_length (p:=fun c:UInt8 => !decide (127 < c)) (xs:=b.take 7)
 rw [List.length_take] at h
 unfold a2c;omega
theorem b8m {b:List UInt8} {k:Nat} (h1:k≤7) (h2:k≤b.length) (h3:∀ j (hj:j < b.length),j < k→decide (127 < b[j])=true) (h4:k=7∨k=b.length∨∃ h:k < b.length,decide (127 < b[k])=false):a2c b=k:=by
 unfold a2c
 by_cases e:k < (b.take 7).length
 ·rw [List.findIdx_eq e]
  rw [List.length_take] at e
  refine⟨?_,fun j hj => ?_⟩
  ·rcases h4 with h4|h4|⟨h4,h5⟩
   ·omega
   ·omega
   ·simp only [List.getElem_take];rw [h5];rfl
  ·simp only [List.getElem_take];rw [h3 j (by omega) hj];rfl
 ·rw [List.length_take] at e
  have:(b.take 7).length=k:=by rw [List.length_take];omega
  rw [←this]
  refine List.findIdx_eq_length.2 fun x hx => ?_
  obtain⟨j,hj,rfl⟩:=List.getElem_of_mem hx
  simp only [List.getElem_take]
  rw [List.length_take] at hj
  rw [h3 j (by omega) (by omega)];rfl
theorem b5L {b:List UInt8} {k j:Nat} (hk:k < b.length) (hj:j≤k) (hj2:j < b.length):a5R ((b.take (k+1)).drop j)=128*a5R ((b.take (k+1)).drop (j+1))+b[j].toNat % 128:=by
 have hl:j < (b.take (k+1)).length:=by rw [List.length_take];omega
 rw [List.drop_eq_getElem_cons hl]
 simp only [a5R,List.getElem_take];omega
theorem b4I {b:List UInt8} {k:Nat} (h:k < b.length):b.getD k default=b[k]:=by rw [List.getD_eq_getElem?_getD,List.getElem?_eq_getElem h];rfl
theorem a73 {b:List UInt8} {k j:Nat} (hk:k≤6):a5R ((b.take (k+1)).drop j) < 562949953421312:=by
 refine Nat.lt_of_lt_of_le (b4H _) ?_
 refine Nat.le_trans (Nat.pow_le_pow_right (by decide) (show((b.take (k+1)).drop j).length≤7 by simp;omega)) (by decide)
theorem c0p (b:List UInt8):p6 gl prog 163 [.v b] (fun r=>r = .t3 (.v (W1 b).1) (.v (W1 b).2.1) (.v (W1 b).2.2)):=by
 refine p6.jn func163 (by kernel_rfl) 59 rfl fun C hC hG => ?_
 refine .q 7 hG ?_
 refine .X3 0 a8 fun hl0 => ?_
 refine .q 5 hG ?_
 refine .E1 (α:=Nat) [(0,_)] (fun k R=>(5,.v (k:Int))::R) (fun k => []) (fun k=>k≤7∧k≤b.length∧∀ j (hj:j < b.length),j < k→decide (127 < b[j])=true) (fun k=>7 - k) (0) (.cons a8 (.nil _)) ?_ (.c2 a8 a8 (.nil _)) (a8) fun k hF => ?_
 ·simp
 obtain⟨h1,h2,h3⟩:=hF
 refine .q 14 hG ?_
 refine .go 16 a8 (.t a8) (fun hg19 => .c2j ty5 underlying64 (.q a8 hg19) (.q a8 hg19) (by first|omega|(simp;done)|(simp;omega)|(have:=hg19;simp at this;omega)) (by first|omega|(simp;done)|(simp;omega)|(have:=hg19;simp at this;omega)) a8) ?_
 refine .q 4 hG ?_
 refine .cond (.t a8) (fun hc22 => ?_) (fun hc22 => ?_)
 ·refine .q 2 hG ?_
  have hlt1:k < b.length:=by(simp only [Bool.and_eq_true,decide_eq_true_eq] at hc22;omega)
  have hlt2:k < 7:=by(simp only [Bool.and_eq_true,decide_eq_true_eq] at hc22;omega)
  have hlt3:decide (127 < b[k])=true:=(by rw [←b4I hlt1];simp only [Bool.and_eq_true] at hc22;exact hc22.2)
  refine .q 2 hG ?_
  refine .ad (by first|omega|(simp;done)|(simp;omega)|(simp at *;omega)) (by first|omega|(simp;done)|(simp;omega)|(simp at *;omega)) ?_
  refine .q 2 hG ?_
  refine⟨k+1,.c2 rfl rfl (.nil _),rfl,?_,by omega⟩
  refine⟨by omega,by omega,fun j hj hjk => ?_⟩;rcases Nat.lt_or_ge j k with h|h;exact h3 j hj h;(obtain rfl:j=k:=by omega);exact hlt3
 ·refine .q 3 hG ?_
  have hcl:a2c b=k:=b8m h1 h2 h3 (by rcases Nat.lt_or_ge k 7 with h|h;rcases Nat.lt_or_ge k b.length with h5|h5;right;right;refine⟨h5,?_⟩;(rw [decide_eq_true (show(k:Int) < (b.length:Int) by omega),decide_eq_true (show(k:Int) < 7 by omega)] at hc22;rw [←b4I h5];exact hc22);right;left;omega;left;omega)
  refine .q 5 hG ⟨fun hc26 => ?_,fun hc26 => ?_⟩
  ·refine .q 7 hG ?_
   refine⟨_,.r3 a8 (.tmp a8) (.tmp a8) (.tmp a8),?_⟩
   have e:W1 b=(0,0,5):=(by unfold W1;rw [if_pos (by omega)])
   rw [e]
  ·refine .q 10 hG ⟨fun hc30 => ?_,fun hc30 => ?_⟩
   ·refine .q 7 hG ?_
    refine⟨_,.r3 a8 (.tmp a8) (.tmp a8) (.tmp a8),?_⟩
    have e:W1 b=(0,0,3):=(by unfold W1;rw [if_neg (by omega),if_pos (by omega)])
    rw [e]
   ·refine .q 3 hG ?_
    have hkl:k < b.length:=by omega
    have hgd:b.getD k 0=b[k]:=by rw [List.getD_eq_getElem?_getD,List.getElem?_eq_getElem hkl];rfl
    refine .q 6 hG ?_
    refine .go 33 a8 (.t a8) (fun hg36 => .c2j ty5 underlying64 (.q a8 hg36) (.q a8 hg36) (by first|omega|(simp;done)|(simp;omega)|(have:=hg36;simp at this;omega)) (by first|omega|(simp;done)|(simp;omega)|(have:=hg36;simp at this;omega)) a8) ?_
    refine .q 4 hG ?_
    refine .cond (.t a8) (fun hc39 => ?_) (fun hc39 => ?_)
    ·refine .q 7 hG ?_
     refine⟨_,.r3 a8 (.tmp a8) (.tmp a8) (.tmp a8),?_⟩
     have e:W1 b=(0,0,5):=(by unfold W1;rw [if_neg (by omega),if_neg (by omega),hcl,if_pos (by simp only [Bool.and_eq_true,decide_eq_true_eq] at hc39 ⊢;exact⟨by omega,hc39.2⟩)])
     rw [e]
    ·refine .q 2 hG ?_
     have hcz:(decide (0 < a2c b)&&decide (b.getD (a2c b) 0=0))=false:=(by rw [hcl,←hc39];congr 1;exact decide_eq_decide.2 (by omega))
     refine .q 10 hG ?_
     refine .E1 (α:=Nat) [(0,_),(5,_)] (fun j R=>(6,.v ((a5R ((b.take (k+1)).drop j):Nat):Int))::(7,.v ((j:Int) - 1))::R) (fun j => []) (fun j=>j≤k+1) (fun j=>j) (k+1) (.c2 a8 a8 (.nil _)) ?_ (.cons (congrArg (fun q=>some (AV.v q)) (by simp [a5R])) (.cons (congrArg (fun q=>some (AV.v q)) (by omega)) (.c2 a8 a8 (.nil _)))) (a8) fun j hF => ?_
     ·simp
     refine .q 7 hG ⟨fun hc42 => ?_,fun hc42 => ?_⟩
     ·refine .q 3 hG ?_
      have hj0:1≤j:=by omega
      have hvs:=a73 (b:=b) (k:=k) (j:=j) (by omega)
      refine .q 2 hG ?_
      refine .p (.mul (.i a8) (.t a8) (by first|omega|(simp;done)|(simp;omega)|(simp at *;omega)) (by first|omega|(simp;done)|(simp;omega)|(simp at *;omega)) ?_)
      refine .q 2 hG ?_
      refine .ix (by first|omega|(simp;done)|(simp;omega)|(simp at *;omega)) (by first|omega|(simp;done)|(simp;omega)|(simp at *;omega)) ?_
      refine .q 1 hG ?_
      refine .p (.c1R underlying5 underlying3 (.t a8) (.p (.rem (.t a8) (.i a8) (by first|omega|(simp;done)|(simp;omega)|(simp at *;omega)) (by first|omega|(simp;done)|(simp;omega)|(simp at *;omega)) ?_)))
      refine .ad (by first|omega|(simp;done)|(simp;omega)|(simp at *;omega)) (by first|omega|(simp;done)|(simp;omega)|(simp at *;omega)) ?_
      refine .q 2 hG ?_
      have hs:(128:Int)*((a5R ((b.take (k+1)).drop j):Nat):Int)+((b[((j:Int) - 1).toNat]'(by omega)).toNat:Int) % 128=((a5R ((b.take (k+1)).drop (j - 1)):Nat):Int):=(by have h5:=b5L (b:=b) (k:=k) (j:=j - 1) hkl (by omega) (by omega);rw [show j - 1+1=j by omega] at h5;rw [h5];simp only [show((j:Int) - 1).toNat=j - 1 by omega];omega)
      refine .q 2 hG ?_
      refine .sb (by first|omega|(simp;done)|(simp;omega)|(simp at *;omega)) (by first|omega|(simp;done)|(simp;omega)|(simp at *;omega)) ?_
      refine .q 2 hG ?_
      refine⟨j - 1,.cons (congrArg (fun q=>some (AV.v q)) hs) (.cons (congrArg (fun q=>some (AV.v q)) (by omega)) (.c2 rfl rfl (.nil _))),rfl,?_,by omega⟩
      omega
     ·refine .q 3 hG ?_
      obtain rfl:j=0:=by omega
      rw [List.drop_zero]
      have hvs:=a73 (b:=b) (k:=k) (j:=0) (by omega)
      rw [List.drop_zero] at hvs
      refine .q 5 hG ⟨fun hc55 => ?_,fun hc55 => ?_⟩
      ·refine .q 7 hG ?_
       refine⟨_,.r3 a8 (.tmp a8) (.tmp a8) (.tmp a8),?_⟩
       have e:W1 b=(0,0,1):=(by unfold W1;rw [if_neg (by omega),if_neg (by omega),hcz,if_neg (by decide),hcl,if_pos (by omega)])
       rw [e]
      ·refine .q 5 hG ?_
       refine .ad (by first|omega|(simp;done)|(simp;omega)|(simp at *;omega)) (by first|omega|(simp;done)|(simp;omega)|(simp at *;omega)) ?_
       refine .q 5 hG ?_
       refine⟨_,.r3 a8 (.tmp a8) (.tmp a8) (.tmp a8),?_⟩
       have e:W1 b=((a5R (b.take (k+1)):Int),(k:Int)+1,0):=(by unfold W1;rw [if_neg (by omega),if_neg (by omega),hcz,if_neg (by decide),hcl,if_neg (by omega)])
       rw [e]
theorem b3A (b:List UInt8):0≤(W1 b).2.1∧(W1 b).2.1≤b.length:=by
 have h:=b8l b
 unfold W1
 split
 ·exact⟨Int.le_refl _,Int.natCast_nonneg _⟩
 ·split
  ·exact⟨Int.le_refl _,Int.natCast_nonneg _⟩
  ·split
   ·exact⟨Int.le_refl _,Int.natCast_nonneg _⟩
   ·split
    ·exact⟨Int.le_refl _,Int.natCast_nonneg _⟩
    ·dsimp only;omega
abbrev Rdr:=o7
abbrev rd (w:Value):AV := .ln w (j6.id (α:=Rdr))
def b3B (r:Rdr):Prop:=0≤r.Used∧r.Used≤r.B.length∧r.B.length≤1000000
def a3z (r:Rdr) (e:Int):Rdr:=if r.E=0 then ⟨r.B,r.Used,e⟩ else r
theorem b8n (r:Rdr) (e:Int):(a3z r e).B=r.B:=by unfold a3z;split<;>rfl
theorem b1S (r:Rdr) (e:Int):(a3z r e).Used=r.Used:=by unfold a3z;split<;>rfl
theorem c0q (w:Value) (r:Rdr) (e:Int):G0 gl prog 164 [rd w,.v e] [.ob w r] (fun x Hs=>Hs = [.ob w (a3z r e)]):=by
 refine G0.R1 func164 rfl (by kernel_rfl) 13 rfl rfl _ rfl _ rfl fun C hC hG => ?_
 refine .q 2 hG ?_
 refine .mv a8 (.p (.E5 (.t a8) (.p (.A9 o7.l2 a4r a8 (.t a8) (.p (.S1 (fun x=>x.E) b5r (.t a8) .z (fun _=>a8) (.p (.a9p (.t a8) (.i a8) ?_))))))))
 refine .q 1 hG ?_
 refine .R4 (.t a8) (fun hc8 => ?_) (fun hc8 => ?_)
 ·refine .q 1 hG ?_
  refine .mv a8 (.mv a8 (.p (.E5 (.t a8) (.p (.A9 o7.l2 a4r a8 (.t a8) (.n (.Z0 (fun y x => { x with E:=y }) b5r (.t a8) (.t a8) .z (fun _ _=>a8) ?_)))))))
  refine .q 1 hG ?_
  refine⟨_,.r0 a8,?_⟩
  have e0:a3z r e=⟨r.B,r.Used,e⟩:=if_pos hc8
  refine⟨_,.cons .z (.nil),?_⟩
  rw [e0]
 ·refine .q 1 hG ?_
  refine⟨_,.r0 a8,?_⟩
  have e0:a3z r e=r:=if_neg hc8
  refine⟨_,.cons .z (.nil),?_⟩
  rw [e0]
def rdNum (r:Rdr):Int×Rdr :=
 if r.E≠0 then (0,r) else ((W1 (r.B.drop r.Used.toNat)).1,⟨r.B,r.Used+(W1 (r.B.drop r.Used.toNat)).2.1,(a3z r (W1 (r.B.drop r.Used.toNat)).2.2).E⟩)
theorem b5M (w:Value) (r:Rdr) (h:b3B r):G0 gl prog 139 [rd w] [.ob w r] (fun x Hs=>x = .v (rdNum r).1∧Hs = [.ob w (rdNum r).2]):=by
 obtain⟨h0,h1,h2⟩:=h
 have hu:=b3A (r.B.drop r.Used.toNat)
 have hdl:(r.B.drop r.Used.toNat).length=r.B.length - r.Used.toNat:=List.length_drop
 refine G0.R1 func139 rfl (by kernel_rfl) 38 rfl rfl _ rfl _ rfl fun C hC hG => ?_
 refine .q 2 hG ?_
 refine .p (.assign (.i a8) ?_)
 refine .q 4 hG ?_
 refine .mv a8 (.p (.E5 (.t a8) (.p (.A9 o7.l2 a4r a8 (.t a8) (.p (.S1 (fun x=>x.E) b5r (.t a8) .z (fun _=>a8) (.p (.b0y (.t a8) (.i a8) ?_))))))))
 refine .q 1 hG ?_
 refine .R4 (.t a8) (fun hc10 => ?_) (fun hc10 => ?_)
 ·refine .q 2 hG ?_
  refine .p (.assign (.i a8) ?_)
  refine .q 2 hG ?_
  refine .e1 a8 a8 ?_
  have e0:rdNum r=(0,r):=if_pos hc10
  refine⟨_,.cons .z (.nil),?_⟩
  rw [e0];exact⟨rfl,rfl⟩
 ·refine .q 2 hG ?_
  refine .draw (by kernel_rfl) 17 [[],[(12,0)],[(13,1)],[(14,2)],[],[(16,4)],[(17,5)],[(18,6)],[(15,3),(19,7)],[(20,8)],[(21,9)],[(11,10)],[(11,10)],[(11,10)],[(22,11)],[(23,12)],[(24,13)]] a8 (by kernel_rfl) a8 ?_
  refine⟨_,j5.move (.t a8) a8,?_⟩
  refine⟨_,j5.E5 (.t a8) a8,?_⟩
  refine⟨_,j5.A9 o7.l0 a9C a8 (.t a8) a8,?_⟩
  refine⟨_,j5.S1 (fun x=>x.B) a3J (.t a8) .z (fun _=>a8) a8,?_⟩
  refine⟨_,j5.move (.t a8) a8,?_⟩
  refine⟨_,j5.E5 (.t a8) a8,?_⟩
  refine⟨_,j5.A9 o7.l1 a3f a8 (.t a8) a8,?_⟩
  refine⟨_,j5.S1 (fun x=>x.Used) I6 (.t a8) .z (fun _=>a8) a8,?_⟩
  refine⟨_,j5.c1U ty5 underlying64 (.t a8) (.t a8) (by first|omega|(simp;done)|(simp;omega)|(simp at *;omega)) (by first|omega|(simp;done)|(simp;omega)|(simp at *;omega)) a8,?_⟩
  refine⟨_,j5.p8 hG (c0p _) (.cons (.t a8) .nil) a8,?_⟩
  refine⟨_,j5.move (.t a8) a8,?_⟩
  refine⟨_,j5.L7 (.t a8) a8,?_⟩
  refine⟨_,j5.L8 (.t a8) a8,?_⟩
  refine⟨_,j5.L9 (.t a8) a8,?_⟩
  refine⟨_,j5.assign (.t a8) a8,?_⟩
  refine⟨_,j5.assign (.t a8) a8,?_⟩
  refine⟨_,j5.assign (.t a8) a8,?_⟩
  show D1 _ _ _ _ _ [] ((5,_)::(4,_)::(3,_)::(24,_)::(23,_)::(22,_)::(11,_)::(21,_)::(20,_)::(19,_)::(18,_)::(17,_)::(16,_)::(15,_)::(14,_)::(13,_)::(12,_)::_) _
  refine .q 5 hG ?_
  refine .km hG (c0q _ _ _) .z (by rintro _ _ rfl;exact⟨_,rfl⟩) fun r27 B27 hr27 => ?_
  cases hr27
  refine .q 2 hG ?_
  have hfu:=b1S r (W1 (r.B.drop r.Used.toNat)).2.2
  refine .q 7 hG ?_
  refine .ad (by first|omega|(simp;done)|(simp;omega)|(simp at *;omega)) (by first|omega|(simp;done)|(simp;omega)|(simp at *;omega)) ?_
  refine .q 10 hG ?_
  refine .e1 a8 a8 ?_
  have e0:rdNum r=((W1 (r.B.drop r.Used.toNat)).1,⟨r.B,r.Used+(W1 (r.B.drop r.Used.toNat)).2.1,(a3z r (W1 (r.B.drop r.Used.toNat)).2.2).E⟩):=if_neg hc10
  refine⟨_,.cons .z (.nil),?_⟩
  rw [e0];refine⟨rfl,?_⟩;rw [b8n,b1S]
theorem b8o (w:Value) (r:Rdr) (n:Int) (h:b3B r) (he:r.E=0) (hn0:0≤n) (hn:n≤r.B.length - r.Used):G0 gl prog 162 [rd w,.v n] [.ob w r] (fun x Hs=>x = .v ((r.B.take (r.Used+n).toNat).drop r.Used.toNat)∧Hs = [.ob w (⟨r.B,r.Used+n,r.E⟩:Rdr)]):=by
 obtain⟨h0,h1,h2⟩:=h
 refine G0.R1 func162 rfl (by kernel_rfl) 58 rfl rfl _ rfl _ rfl fun C hC hG => ?_
 refine .q 6 hG ?_
 refine .draw (by kernel_rfl) 19 [[],[(5,0)],[(6,1)],[(7,2)],[(8,3)],[(9,4)],[],[(11,6)],[(12,7)],[(13,8)],[(14,9)],[],[(16,11)],[(17,12)],[(18,13)],[(15,10),(19,14)],[],[(20,15),(21,16)],[(10,5),(22,17)]] a8 (by kernel_rfl) a8 ?_
 refine⟨_,j5.move (.t a8) a8,?_⟩
 refine⟨_,j5.E5 (.t a8) a8,?_⟩
 refine⟨_,j5.A9 o7.l2 a4r a8 (.t a8) a8,?_⟩
 refine⟨_,j5.S1 (fun x=>x.E) b5r (.t a8) .z (fun _=>a8) a8,?_⟩
 refine⟨_,j5.a9p (.t a8) (.i a8) a8,?_⟩
 refine⟨_,j5.move (.t a8) a8,?_⟩
 refine⟨_,⟨_,_,a8,a8,fun hg11=>j5.move (.t a8) a8⟩,?_⟩
 refine⟨_,⟨_,_,a8,a8,fun hg12=>j5.E5 (.q a8 hg12) a8⟩,?_⟩
 refine⟨_,⟨_,_,a8,a8,fun hg13=>j5.A9 o7.l0 a9C a8 (.q a8 hg13) a8⟩,?_⟩
 refine⟨_,⟨_,_,a8,a8,fun hg14=>j5.S1 (fun x=>x.B) a3J (.q a8 hg14) .z (fun _=>a8) a8⟩,?_⟩
 refine⟨_,⟨_,_,a8,a8,fun hg15=>j5.len underlying64 (.q a8 hg15) a8⟩,?_⟩
 refine⟨_,⟨_,_,a8,a8,fun hg16=>j5.move (.t a8) a8⟩,?_⟩
 refine⟨_,⟨_,_,a8,a8,fun hg17=>j5.E5 (.q a8 hg17) a8⟩,?_⟩
 refine⟨_,⟨_,_,a8,a8,fun hg18=>j5.A9 o7.l1 a3f a8 (.q a8 hg18) a8⟩,?_⟩
 refine⟨_,⟨_,_,a8,a8,fun hg19=>j5.S1 (fun x=>x.Used) I6 (.q a8 hg19) .z (fun _=>a8) a8⟩,?_⟩
 refine⟨_,⟨_,_,a8,a8,fun hg20=>j5.sub (.q a8 hg20) (.q a8 hg20) (by first|omega|(simp;done)|(simp;omega)|(have:=hg20;simp at this;omega)) (by first|omega|(simp;done)|(simp;omega)|(have:=hg20;simp at this;omega)) a8⟩,?_⟩
 refine⟨_,⟨_,_,a8,a8,fun hg21=>j5.move (.t a8) a8⟩,?_⟩
 refine⟨_,⟨_,_,a8,a8,fun hg22=>j5.lss (.q a8 hg22) (.q a8 hg22) a8⟩,?_⟩
 refine⟨_,j5.M5 (.t a8) (fun hp=>(.q a8 hp)) a8,?_⟩
 show D1 _ _ _ _ _ [] ((23,_)::(22,_)::(21,_)::(20,_)::(19,_)::(18,_)::(17,_)::(16,_)::(15,_)::(14,_)::(13,_)::(12,_)::(11,_)::(10,_)::(9,_)::(8,_)::(7,_)::(6,_)::(5,_)::_) _
 refine .q 1 hG ?_
 refine .cond (.t a8) (fun hc23=>(by exfalso;simp only [he,Bool.and_eq_true,decide_eq_true_eq] at hc23;omega)) (fun hc23 => ?_)
 refine .q 4 hG ?_
 refine .mv a8 (.p (.E5 (.t a8) (.p (.A9 o7.l2 a4r a8 (.t a8) (.p (.S1 (fun x=>x.E) b5r (.t a8) .z (fun _=>a8) (.p (.b0y (.t a8) (.i a8) ?_))))))))
 refine .q 1 hG ?_
 refine .R4 (.t a8) (fun hc31=>(by exfalso;exact hc31 he)) (fun hc31 => ?_)
 refine .q 3 hG ?_
 refine .mv a8 (.mv a8 (.p (.E5 (.t a8) (.p (.A9 o7.l1 a3f a8 (.t a8) (.p (.S1 (fun x=>x.Used) I6 (.t a8) .z (fun _=>a8) (.mv a8 (.p (.add (.t a8) (.t a8) (by first|omega|(simp;done)|(simp;omega)|(simp at *;omega)) (by first|omega|(simp;done)|(simp;omega)|(simp at *;omega)) (.p (.E5 (.t a8) (.p (.A9 o7.l1 a3f a8 (.t a8) (.n (.Z0 (fun y x => { x with Used:=y }) I6 (.t a8) (.t a8) .z (fun _ _=>a8) ?_))))))))))))))))
 refine .q 2 hG ?_
 refine .draw (by kernel_rfl) 16 [[],[(43,0)],[(44,1)],[(45,2)],[],[(47,4)],[(48,5)],[(49,6)],[],[(50,7),(51,8)],[],[(53,10)],[(54,11)],[(55,12)],[(46,3),(52,9),(56,13)],[(57,14)]] a8 (by kernel_rfl) a8 ?_
 refine⟨_,j5.move (.t a8) a8,?_⟩
 refine⟨_,j5.E5 (.t a8) a8,?_⟩
 refine⟨_,j5.A9 o7.l0 a9C a8 (.t a8) a8,?_⟩
 refine⟨_,j5.S1 (fun x=>x.B) a3J (.t a8) .z (fun _=>a8) a8,?_⟩
 refine⟨_,j5.move (.t a8) a8,?_⟩
 refine⟨_,j5.E5 (.t a8) a8,?_⟩
 refine⟨_,j5.A9 o7.l1 a3f a8 (.t a8) a8,?_⟩
 refine⟨_,j5.S1 (fun x=>x.Used) I6 (.t a8) .z (fun _=>a8) a8,?_⟩
 refine⟨_,j5.move (.t a8) a8,?_⟩
 refine⟨_,j5.sub (.t a8) (.t a8) (by first|omega|(simp;done)|(simp;omega)|(simp at *;omega)) (by first|omega|(simp;done)|(simp;omega)|(simp at *;omega)) a8,?_⟩
 refine⟨_,j5.move (.t a8) a8,?_⟩
 refine⟨_,j5.E5 (.t a8) a8,?_⟩
 refine⟨_,j5.A9 o7.l1 a3f a8 (.t a8) a8,?_⟩
 refine⟨_,j5.S1 (fun x=>x.Used) I6 (.t a8) .z (fun _=>a8) a8,?_⟩
 refine⟨_,j5.c3e ty5 underlying64 (.t a8) (.t a8) (.t a8) (by first|omega|(simp;done)|(simp;omega)|(simp at *;omega)) (by first|omega|(simp;done)|(simp;omega)|(simp at *;omega)) (by first|omega|(simp;done)|(simp;omega)|(simp at *;omega)) a8,?_⟩
 refine⟨_,j5.assign (.t a8) a8,?_⟩
 show D1 _ _ _ _ _ [] ((4,_)::(57,_)::(56,_)::(55,_)::(54,_)::(53,_)::(52,_)::(51,_)::(50,_)::(49,_)::(48,_)::(47,_)::(46,_)::(45,_)::(44,_)::(43,_)::_) _
 refine .q 2 hG ?_
 refine .e1 a8 a8 ?_
 refine⟨_,.cons .z (.nil),?_⟩
 refine⟨congrArg AV.v ?_,a8⟩
 rw [show r.Used+n - n=r.Used by omega]
theorem c2z (w:Value) (r:Rdr) (h:b3B r) (he:r.E=0) (hn:32≤r.B.length - r.Used):G0 gl prog 138 [rd w] [.ob w r] (fun x Hs=>x = .v (a02 (default:Tag) ((r.B.take (r.Used+32).toNat).drop r.Used.toNat))∧Hs = [.ob w (⟨r.B,r.Used+32,r.E⟩:Rdr)]):=by
 have hok:=h
 obtain⟨h0,h1,h2⟩:=h
 refine G0.R1 func138 rfl (by kernel_rfl) 9 rfl rfl _ rfl _ rfl fun C hC hG => ?_
 refine .q 3 hG fun b2 => ?_
 refine .q 4 hG fun b3 => ?_
 refine .q 2 hG ?_
 refine .F3 [c9,j0,c9] (by kernel_rfl) 4 [[],[],[(5,1)],[(4,0),(6,2)]] [2,3] a8 (by kernel_rfl) a8 (by kernel_rfl) (by decide) ?_
 refine⟨_,fun H=>j5.b6Z V2 (.t a8) a8,?_⟩
 refine⟨_,fun H=>j5.move (.t a8) a8,?_⟩
 refine .inl (.inl ?_)
 refine⟨⟨([],j1 [_,c8,_]),a8⟩,?_⟩
 refine B3.a4I hG (b8o _ _ _ hok he (by decide) hn) .z2 (.cons (.t rfl) (.cons (.i rfl) .nil)) (by rintro _ _ ⟨_,rfl⟩;exact⟨_,rfl⟩) fun r6 B6 hr6 => ?_
 obtain⟨rfl,hB⟩:=hr6
 cases hB
 refine⟨⟨([],j1 [_,c8,_]),a8⟩,?_⟩
 refine B3.b7h ty5 underlying64 (.t rfl) .z (.v (.t rfl)) (by first|omega|(simp;done)|(simp;omega)|(simp at *;omega)) ?_
 refine⟨⟨([],j1 [_,c8,_]),a8⟩,?_⟩
 show D1 _ _ _ _ _ [] ((7,_)::(6,_)::(5,_)::(4,_)::_) _
 refine .q 7 hG ?_
 refine⟨_,.r1 a8 (.cell D0 a8 .z1),?_⟩
 refine⟨_,.cons .z2 (.nil),?_⟩
 exact⟨a8,a8⟩
theorem a84 {w:Value} {r r':Rdr} {v:Int} (h:b3B r) (e:rdNum r=(v,r')):G0 gl prog 139 [rd w] [.ob w r] (fun x Hs=>x = .v v∧Hs = [.ob w r']):=by
 have:=b5M w r h
 rw [e] at this;exact this
theorem b0h (a : D6) (c : a99) (t : List UInt8) (k : Tag) (hpl : ∀ x ∈ a.y7, x.Plain.length ≤ 1000000) (ho : K0 a c.Key t = (k.l ++ [0, 150, 1], 0)) :
    p6 gl prog 80 [.v a,.v c,.v t] (fun r=>r = .t3 (.v k) (.v (⟨0,150⟩:B0)) (.v (0:Int))):=by
  have hb:(k.l ++ [0,150,1]).length=35:=by rw [List.length_append,K5.len];rfl
  have ht:(k.l ++ [0,150,1]).take 32=k.l:=List.take_left' k.len
  have hd:(k.l ++ [0,150,1]).drop 32 = [0,150,1]:=List.drop_left' k.len
  have hd2:(k.l ++ [0,150,1]).drop 33 = [150,1]:=by
    rw [show 33=32+1 from rfl,←List.drop_drop,hd];rfl
  have hn1:rdNum ⟨k.l ++ [0,150,1],32,0⟩=(0,⟨k.l ++ [0,150,1],33,0⟩):=by
    unfold rdNum
    rw [if_neg (show ¬((0:Int)≠0) by decide)]
    dsimp only
    rw [show((32:Int).toNat)=32 from rfl,hd];rfl
  have hn2:rdNum ⟨k.l ++ [0,150,1],33,0⟩=(150,⟨k.l ++ [0,150,1],35,0⟩):=by
    unfold rdNum
    rw [if_neg (show ¬((0:Int)≠0) by decide)]
    dsimp only
    rw [show((33:Int).toNat)=33 from rfl,hd2];rfl
  have ok0:b3B ⟨k.l ++ [0,150,1],0,0⟩:=⟨Int.le_refl _,Int.natCast_nonneg _,by dsimp only;omega⟩
  have ok1:b3B ⟨k.l ++ [0,150,1],32,0⟩:=⟨show(0:Int)≤32 by decide,by dsimp only;omega,by dsimp only;omega⟩
  have ok2:b3B ⟨k.l ++ [0,150,1],33,0⟩:=⟨show(0:Int)≤33 by decide,by dsimp only;omega,by dsimp only;omega⟩
  refine p6.jn func80 (by kernel_rfl) 61 rfl fun C hC hG => ?_
  refine .q 3 hG fun b3 => ?_
  refine .q 1 hG fun b4 => ?_
  refine .q 1 hG fun b6 => ?_
  refine .q 1 hG fun b7 => ?_
  refine .q 3 hG ?_
  refine .C1 hC .z3 (.O9 3 a8 .z3 (.C1 hC .z2 (.O9 4 a8 .z2 ?_)))
  refine .q 5 hG ?_
  refine .p (.p8 hG (b9N _ _ _ hpl) (.cons (.t a8) (.cons (.t a8) (.cons (.t a8) .nil))) ?_)
  refine .q 8 hG ?_
  rw [ho]
  refine .q 4 hG ?_
  refine .R4 (.t a8) (fun hc23=>(by exfalso;exact hc23 rfl)) (fun hc23 => ?_)
  refine .q 4 hG ?_
  refine .p (.bS1 o7.l0 a8 c3t c26 (fun c0=>(⟨c0,0,0⟩:o7)) (fun _=>a8) a8 a8 (.t a8) ?_)
  refine .q 1 hG fun b29 => ?_
  refine .q 5 hG ?_
  refine .km hG (c2z _ (⟨k.l ++ [0,150,1],0,0⟩:Rdr) ok0 a8 (by dsimp only;omega)) .z (by rintro _ _ ⟨_,rfl⟩;exact⟨_,rfl⟩) fun r31 B31 hr31 => ?_
  obtain⟨rfl,hB⟩:=hr31
  cases hB
  refine .q 1 hG fun b12 => ?_
  refine .q 5 hG fun b13 => ?_
  refine .q 4 hG ?_
  refine .km hG (a84 ok1 hn1) .z2 (by rintro _ _ ⟨_,rfl⟩;exact⟨_,rfl⟩) fun r33 B33 hr33 => ?_
  obtain⟨rfl,hB⟩:=hr33
  cases hB
  refine .q 6 hG ?_
  refine .km hG (a84 ok2 hn2) .z2 (by rintro _ _ ⟨_,rfl⟩;exact⟨_,rfl⟩) fun r36 B36 hr36 => ?_
  obtain⟨rfl,hB⟩:=hr36
  cases hB
  refine .q 22 hG ?_
  refine .kg hG (a8X _) ?_
  refine .q 3 hG ?_
  refine .cond (.t a8) (fun hc56=>(by exfalso;simp [hb,Z2] at hc56)) (fun hc56 => ?_)
  refine .q 2 hG ?_
  refine .F3 [j0,j0,j0,c9,c9,j0,j0] (by kernel_rfl) 5 [[],[],[(59,0)],[(60,1)],[]] [2,3] a8 (by kernel_rfl) a8 (by kernel_rfl) (by decide) ?_
  refine⟨_,fun H=>j5.Q6 D0 (.t a8) (y4.app .z1) a8,?_⟩
  refine⟨_,fun H=>j5.Q6 b1f (.t a8) (y4.app .z) a8,?_⟩
  refine .inl (.inl ?_)
  refine⟨_,fun H=>j5.assign (.i a8) a8,?_⟩
  refine⟨⟨([],j1 [c8,c8,c8,_,_,c8,c8]),a8⟩,?_⟩
  refine B3.P7 D0 (.t rfl) (.t rfl) .z4 ?_
  refine⟨⟨([],j1 [c8,c8,c8,_,_,c8,c8]),a8⟩,?_⟩
  refine B3.P7 b1f (.t rfl) (.t rfl) .z3 ?_
  refine⟨⟨([],j1 [c8,c8,c8,_,_,c8,c8]),a8⟩,?_⟩
  show D1 _ _ _ _ _ [] ((8,_)::(60,_)::(59,_)::_) _
  refine .q 2 hG ?_
  refine⟨_,.r3 a8 (.cell D0 a8 .z4) (.cell b1f a8 .z3) (.tmp a8),?_⟩
  show AV.t3 (.v (a02 (default:Tag) (((k.l ++ [0,150,1]).take 32).drop 0))) (.v (⟨0,150⟩:B0)) (.v (0:Int))=_
  rw [List.drop_zero,ht,b0e]
abbrev b8p:=A0
def b1T (c:a99) (s:T5):Option b8p:=c.a01.find? fun p=>decide (p.Name=s)
theorem b0i (c:a99) (s:T5):p6 gl prog 81 [.v c,.v s] (fun r=>r = .t2 (.v ((b1T c s).getD default)) (.v (b1T c s).isSome)):=by
 refine p6.jn func81 (by kernel_rfl) 28 rfl fun C hC hG => ?_
 refine .q 3 hG fun b2 => ?_
 refine .q 1 hG fun b4 => ?_
 refine .q 4 hG ?_
 refine .C1 hC .z1 (.O9 2 a8 .z1 (.del (.s .z) ?_))
 refine .q 4 hG ?_
 refine .E1 (α:=Nat) [(1,_),(2,_),(4,_)] (fun k R=>(6,.v (k:Int))::R) (Function.const _ _) (fun k=>k≤c.a01.length∧∀ j (hj:j < c.a01.length),j < k→decide (c.a01[j].Name=s)=false) (fun k=>c.a01.length - k) (0) (.c2 a8 a8 (.cons a8 (.nil _))) ?_ (.c2 a8 a8 (.c2 a8 a8 (.nil _))) (a8) fun k hF => ?_
 ·simp
 obtain⟨h1,h2⟩:=hF
 refine .q 10 hG ⟨fun hc11 => ?_,fun hc11 => ?_⟩
 ·refine .q 8 hG ?_
  refine .ix (by first|omega|(simp;done)|(simp;omega)|(simp at *;omega)) (by first|omega|(simp;done)|(simp;omega)|(simp at *;omega)) ?_
  refine .q 6 hG ⟨fun hc21 => ?_,fun hc21 => ?_⟩
  ·refine .q 5 hG ?_
   refine .ix (by first|omega|(simp;done)|(simp;omega)|(simp at *;omega)) (by first|omega|(simp;done)|(simp;omega)|(simp at *;omega)) (.p (.G8 a4M (.t a8) (.n (.P7 a4M (.t a8) (.t a8) .z (.p (.assign .b ?_))))))
   refine .q 2 hG ?_
   refine⟨_,.r2 a8 (.cell a4M a8 .z) (.tmp a8),?_⟩
   have e:b1T c s=some c.a01[k]:=b3y (by omega) (decide_eq_true hc21) h2
   rw [e];rfl
  ·refine .q 1 hG ?_
   refine .X3 9 a8 fun hl9 => ?_
   refine .q 2 hG ?_
   refine .ad (by first|omega|(simp;done)|(simp;omega)|(simp at *;omega)) (by first|omega|(simp;done)|(simp;omega)|(simp at *;omega)) ?_
   refine .q 2 hG ?_
   refine⟨k+1,.c2 rfl rfl (.c2 rfl rfl (.nil _)),rfl,?_,by omega⟩
   refine⟨by omega,fun j hj hjk => ?_⟩;rcases Nat.lt_or_ge j k with h|h;exact h2 j hj h;(obtain rfl:j=k:=by omega);exact decide_eq_false hc21
 ·refine .q 3 hG ?_
  refine .p (.bS0 (α:=A0) a8 a4M b6R (.n (.P7 a4M (.t a8) (.t a8) .z (.p (.assign .b ?_)))))
  refine .q 2 hG ?_
  refine⟨_,.r2 a8 (.cell a4M a8 .z) (.tmp a8),?_⟩
  have e:b1T c s=none:=b3z fun j hj=>h2 j hj (by omega)
  rw [e];rfl
theorem c3J (p:b8p) (m:Int):p6 gl prog 82 [.v p,.v m] (fun r=>∃ n:Int,0≤n∧n≤150∧r = .v n):=by
 refine p6.jn func82 (by kernel_rfl) 33 rfl fun C hC hG => ?_
 refine .q 3 hG fun b2 => ?_
 refine .q 4 hG ?_
 refine .C1 hC .z (.O9 2 a8 .z ?_)
 refine .q 1 hG ?_
 refine .mv a8 (.p (.lss (.t a8) (.i a8) (.mv a8 (.go 7 a8 (.t a8) (fun hg8 => .move (.t a8) a8) (.go 7 a8 (.t a8) (fun hg9 => .gtr (.q a8 hg9) (.i a8) a8) (.p (.a1r (.t a8) (fun hp=>(.q a8 hp)) (.mv a8 (.go 11 a8 (.t a8) (fun hg12 => .y9 A0.l1 (fun x=>x.b2P) a7f a8 (fun _=>a8) (.t a8) a8) (.go 11 a8 (.t a8) (fun hg13 => .G8 I6 (.q a8 hg13) a8) (.go 11 a8 (.t a8) (fun hg14 => .lss (.q a8 hg14) (.i a8) a8) (.p (.a1r (.t a8) (fun hp=>(.q a8 hp)) (.mv a8 (.go 16 a8 (.t a8) (fun hg17 => .y9 A0.l1 (fun x=>x.b2P) a7f a8 (fun _=>a8) (.t a8) a8) (.go 16 a8 (.t a8) (fun hg18 => .G8 I6 (.q a8 hg18) a8) (.go 16 a8 (.t a8) (fun hg19 => .gtr (.q a8 hg19) (.i a8) a8) (.p (.a1r (.t a8) (fun hp=>(.q a8 hp)) (.mv a8 (.go 21 a8 (.t a8) (fun hg22 => .y9 A0.l1 (fun x=>x.b2P) a7f a8 (fun _=>a8) (.t a8) a8) (.go 21 a8 (.t a8) (fun hg23 => .G8 I6 (.q a8 hg23) a8) (.go 21 a8 (.t a8) (fun hg24 => .move (.t a8) a8) ?_)))))))))))))))))))))))
 refine .go 21 a8 (.t a8) (fun hg25 => .gtr (.q a8 hg25) (.q a8 hg25) a8) (.p (.a1r (.t a8) (fun hp=>(.q a8 hp)) ?_))
 refine .q 1 hG ?_
 refine .cond (.t a8) (fun hc26 => ?_) (fun hc26 => ?_)
 ·refine .q 5 hG ?_
  refine .e1 a8 a8 ?_
  exact⟨0,by decide,by decide,rfl⟩
 ·refine .q 2 hG ?_
  simp only [Bool.or_eq_false_iff,decide_eq_false_iff_not] at hc26
  refine .q 4 hG ?_
  refine .sb (by first|omega|(simp;done)|(simp;omega)|(simp at *;omega)) (by first|omega|(simp;done)|(simp;omega)|(simp at *;omega)) (.p (.quo (.t a8) (.i a8) (by first|omega|(simp;done)|(simp;omega)|(simp at *;omega)) (by first|omega|(simp;done)|(simp;omega)|(simp at *;omega)) (.p (.a5w (.t a8) (.i a8) ?_))))
  refine .q 3 hG ?_
  refine .e1 a8 a8 ?_
  exact⟨_,by omega,by omega,rfl⟩
theorem c0r (a : D6) (c : a99) (t : List UInt8) (s : T5) (m : Int) (k : Tag) (hpl : ∀ x ∈ a.y7, x.Plain.length ≤ 1000000) (ho : K0 a c.Key t = (k.l ++ [0, 150, 1], 0)) (hs : I7 s = true) (hm0 : 0 ≤ m) (hm1 : m ≤ 67108864) (hf : (b1T c s).isSome = true) (ht : t.length ≤ 1000000) :
    p6 gl prog 42 [.v a,.v c,.v t,.v s,.v m] (fun r=>r = .t3 (.v (a5l a k t s).1) (.v (a5l a k t s).2.1) (.v (a5l a k t s).2.2)):=by
  refine p6.jn func42 (by kernel_rfl) 97 rfl fun C hC hG => ?_
  refine .q 3 hG fun b5 => ?_
  refine .q 1 hG fun b6 => ?_
  refine .q 1 hG fun b10 => ?_
  refine .q 1 hG fun b11 => ?_
  refine .q 4 hG ?_
  refine .C1 hC .z2 (.O9 6 a8 .z2 ?_)
  refine .q 2 hG ?_
  refine .k hG (b2W _) ?_
  refine .q 2 hG ?_
  refine .cond (.t a8) (fun hc22=>(by exfalso;simp [hs] at hc22)) (fun hc22 => ?_)
  refine .q 11 hG ?_
  refine .cond (.t a8) (fun hc30=>(by exfalso;(simp at hc30;omega))) (fun hc30 => ?_)
  refine .q 6 hG ?_
  refine .p (.p8 hG (b0h _ _ _ _ hpl ho) (.cons (.t a8) (.cons (.t a8) (.cons (.t a8) .nil))) ?_)
  refine .q 5 hG fun b13 => ?_
  refine .q 1 hG fun b14 => ?_
  refine .q 10 hG ?_
  refine .R4 (.t a8) (fun hc42=>(by exfalso;exact hc42 rfl)) (fun hc42 => ?_)
  refine .q 5 hG ?_
  refine .p (.p8 hG (b0i _ _) (.cons (.t a8) (.cons (.t a8) .nil)) ?_)
  refine .q 4 hG fun b16 => ?_
  refine .q 9 hG ?_
  refine .cond (.t a8) (fun hc53=>(by exfalso;simp [hf] at hc53)) (fun hc53 => ?_)
  refine .q 6 hG ?_
  refine .p (.call hG (c3J _ _) (.cons (.t a8) (.cons (.t a8) .nil)) fun r58 hr58 => ?_)
  obtain⟨n,hn0,hn1,rfl⟩:=hr58
  refine .q 15 hG ?_
  refine .cond (.t a8) (fun hc68=>(by exfalso;(simp at hc68;omega))) (fun hc68 => ?_)
  refine .q 2 hG ?_
  refine .a1f [[j0,j0,j0,j0,j0,j0,j0],[j0,j0,j0,j0,j0,j0,j0],[j0,j0,j0,j0,j0,j0,c9],[j0,j0,j0,j0,j0,j0,c9]] [[j0,j0,j0,j0,j0,j0,j0],[j0,j0,j0,j0,j0,j0,j0],[j0,j0,j0,j0,j0,j0,j0],[j0,j0,j0,j0,j0,j0,j0],[j0,j0,j0,j0,j0,j0,j0],[j0,j0,j0,j0,j0,j0,j0],[j0,j0,j0,j0,j0,j0,j0],[j0,j0,j0,j0,j0,j0,c9],[j0,j0,j0,j0,j0,j0,c9],[],[],[],[j0,j0,j0,j0,j0,j0,c9]] [] [] 3 (by kernel_rfl) 13 [[],[],[],[(74,2)],[(72,0),(73,1),(75,3)],[(76,4)],[(71,5)],[(71,5)],[(71,5)],[],[(77,6)],[(19,9),(78,7)],[(79,8)]] [9,10,11] rfl (by kernel_rfl) rfl (by kernel_rfl) rfl (by decide) (by simp) (fun p hp=>by cases hp) (by kernel_rfl) rfl ?_
  refine⟨_,fun H=>j5.Q6 A6 (.t a8) (y4.app .z6) a8,?_⟩
  refine⟨_,fun H=>j5.Q6 D0 (.t a8) (y4.app .z2) a8,?_⟩
  refine⟨_,fun H=>j5.move (.t a8) a8,?_⟩
  refine⟨_,fun H=>j5.p8 hG (b1E _ ht) (.cons (.t a8) .nil) a8,?_⟩
  refine⟨_,fun H=>j5.p8 hG (a5e _ _ _) (.cons (.t a8) (.cons (.t a8) (.cons (.t a8) .nil))) a8,?_⟩
  refine⟨_,fun H=>j5.move (.t a8) a8,?_⟩
  refine⟨_,fun H=>j5.L7 (.t a8) a8,?_⟩
  refine⟨_,fun H=>j5.L8 (.t a8) a8,?_⟩
  refine⟨_,fun H=>j5.L9 (.t a8) a8,?_⟩
  refine .inl (.inl (.inl ?_))
  refine⟨_,fun H=>j5.assign (.t a8) a8,?_⟩
  refine⟨a8,?_⟩
  refine⟨⟨j1 [c8,c8,c8,c8,c8,c8,c8],a8⟩,fun Ys14 => ?_⟩
  refine B3.alloc D0 fun b19 => ?_
  refine⟨[_],_,a8,?_⟩
  refine⟨⟨j1 [c8,c8,c8,c8,c8,c8,c8],a8⟩,fun Ys14 => ?_⟩
  refine B3.P7 A6 (.t rfl) (.t rfl) (.s (y4.app (y4.app .z6))) ?_
  refine⟨[_],_,a8,?_⟩
  refine⟨⟨j1 [c8,c8,c8,c8,c8,c8,_],a8⟩,fun Ys14 => ?_⟩
  refine B3.P7 D0 (.t rfl) (.t rfl) .z ?_
  refine⟨[_],_,a8,?_⟩
  refine⟨⟨j1 [c8,c8,c8,c8,c8,c8,_],a8⟩,fun ws14 => ?_⟩
  refine⟨⟨j1 [c8,c8,c8,c8,c8,c8,_],a8⟩,fun _ => ?_⟩
  show D1 _ _ _ _ _ [] ((15,_)::(19,_)::(79,_)::(78,_)::(77,_)::(71,_)::(76,_)::(75,_)::(74,_)::(73,_)::(72,_)::_) _
  refine .q 8 hG ⟨fun hc81 => ?_,fun hc81 => ?_⟩
  · refine .q 2 hG ?_
    refine .p (.bS0 (α:=j8) a8 A6 a0B (.p (.bS0 (α:=p5) a8 P9 a8z (.mv a8 (.n (.P7 A6 (.t a8) (.t a8) .z5 (.n (.P7 P9 (.t a8) (.t a8) .z4 (.ag a8 ?_)))))))))
    refine .q 2 hG ?_
    refine⟨_,.r3 a8 (.cell A6 a8 .z5) (.cell P9 a8 .z4) (.tmp a8),?_⟩
    unfold a5l
    rw [O1 hc81]
  · refine .q 2 hG ?_
    refine .draw (by kernel_rfl) 12 [[],[],[],[(86,1),(87,2)],[],[(88,3),(89,4)],[],[(91,6)],[(85,0),(90,5),(92,7)],[(93,8)],[(93,8)],[(93,8)]] a8 (by kernel_rfl) a8 ?_
    refine⟨_,j5.Q6 A6 (.t a8) .z7 a8,?_⟩
    refine⟨_,j5.G1 (α:=UInt8) ty5 underlying64 .nil a8 (by decide) a8,?_⟩
    refine⟨_,j5.move (.t a8) a8,?_⟩
    refine⟨_,j5.Y9 O2 (.inl ⟨_,underlying64⟩) (.t a8) (.v (.t a8)) (by first|omega|(simp;done)|(simp;omega)|(simp at *;omega)) (by first|omega|(simp;done)|(simp;omega)|(simp at *;omega)) a8,?_⟩
    refine⟨_,j5.Q6 D0 (.t a8) .z a8,?_⟩
    refine⟨_,j5.bS2 p5.l0 p5.l2 a8 P9 a8z (fun c0 c2=>(⟨c0,[],c2⟩:p5)) (fun _ _=>a8) a8 a8 a8 (.t a8) (.t a8) a8,?_⟩
    refine⟨_,j5.move (.t a8) a8,?_⟩
    refine⟨_,j5.bS2 j2.l0 j2.l4 a8 R3 a5z (fun c0 c4=>(⟨c0,0,0,0,c4,0⟩:j2)) (fun _ _=>a8) a8 a8 a8 (.i a8) (.t a8) a8,?_⟩
    refine⟨_,j5.p8 hG (a5m _ _ _ (by simp)) (.cons (.t a8) (.cons (.t a8) (.cons (.t a8) .nil))) a8,?_⟩
    refine⟨_,j5.L7 (.t a8) a8,?_⟩
    refine⟨_,j5.L8 (.t a8) a8,?_⟩
    refine⟨_,j5.L9 (.t a8) a8,?_⟩
    show D1 _ _ _ _ _ [_,_,_] ((96,_)::(95,_)::(94,_)::(93,_)::(92,_)::(91,_)::(90,_)::(89,_)::(88,_)::(87,_)::(86,_)::(85,_)::_) _
    refine .n (.P7 A6 (.t a8) (.t a8) .z5 (.n (.P7 P9 (.t a8) (.t a8) .z4 (.ag a8 ?_))))
    refine .q 2 hG ?_
    refine⟨_,.r3 a8 (.cell A6 a8 .z5) (.cell P9 a8 .z4) (.tmp a8),?_⟩
    unfold a5l
    rw [E9 (Decidable.not_not.1 hc81)];rfl
theorem b8q {c:a99} {t:B0} (h:(!Z2 t||decide (c.G5 < 0)||decide (7 < c.G5))=true):(Z2 t&&decide (0≤c.G5)&&decide (c.G5≤7))=false:=by
 simp only [Bool.or_eq_true,Bool.not_eq_true',decide_eq_true_eq] at h
 rcases h with (h|h)|h
 ·rw [h];rfl
 ·rw [decide_eq_false (show ¬0≤c.G5 by omega),Bool.and_false];rfl
 ·rw [decide_eq_false (show ¬c.G5≤7 by omega),Bool.and_false]
theorem b5N {c:a99} {t:B0} (h:(!Z2 t||decide (c.G5 < 0)||decide (7 < c.G5))=false):Z2 t=true∧0≤c.G5∧c.G5≤7:=by
 simp only [Bool.or_eq_false_iff,Bool.not_eq_false',decide_eq_false_iff_not] at h;exact⟨h.1.1,by omega,by omega⟩
theorem b3C {t:B0} (h:Z2 t=true):0≤t.a2P∧t.a2P≤t.a6j∧t.a6j≤150:=by
 unfold Z2 at h;simp only [Bool.and_eq_true,decide_eq_true_eq] at h;omega
theorem b0j {a:D6} {x:o8} (h:x∈(O3 a).1.y7):x∈a.y7:=by
 unfold O3 at h;split at h
 ·cases h
 ·exact h
theorem c0s (a:D6) (c:a99) (t:B0) (h0:0≤a.F4) (hb:∀ x∈a.y7,x.Box.length≤1000000):p6 gl prog 40 [.v a,.v c,.v t] (fun r=>r = .t3 (.v (a3w a c t).1) (.v (a3w a c t).2.1) (.v (a3w a c t).2.2)):=by
 have hb1:∀ x∈(O3 a).1.y7,x.Box.length≤1000000:=fun x hx=>hb x (b0j hx)
 refine p6.jn func40 (by kernel_rfl) 70 rfl fun C hC hG => ?_
 refine .q 3 hG fun b3 => ?_
 refine .q 1 hG fun b4 => ?_
 refine .q 1 hG fun b5 => ?_
 refine .q 1 hG fun b6 => ?_
 refine .q 1 hG fun b7 => ?_
 refine .q 4 hG ?_
 refine .C1 hC .z3 (.O9 4 a8 .z3 (.C1 hC .z2 (.O9 5 a8 .z2 ?_)))
 refine .q 2 hG ?_
 refine .k hG (a8X _) ?_
 refine .q 12 hG ?_
 refine .cond (.t a8) (fun hc24 => ?_) (fun hc24 => ?_)
 ·refine .q 2 hG ?_
  refine .p (.bS0 (α:=j8) a8 A6 a0B (.p (.bS0 (α:=C3) a8 a2U b3W ?_)))
  refine .q 5 hG ?_
  refine⟨_,.r3 a8 (.cell A6 a8 .z1) (.cell a2U a8 .z) (.tmp a8),?_⟩
  unfold a3w
  rw [if_pos (b8q hc24)]
 ·refine .q 2 hG ?_
  obtain⟨htk,hp0,hp7⟩:=b5N hc24
  have htt:=b3C htk
  have hn1:=B1 (n:=t.a2P.toNat) (by omega)
  have hn2:=B1 (n:=t.a6j.toNat) (by omega)
  refine .q 2 hG ?_
  refine .k hG (b2Y _ h0) ?_
  refine .q 5 hG fun b9 => ?_
  refine .q 6 hG ?_
  have hbf:(Z2 t&&decide (0≤c.G5)&&decide (c.G5≤7))=true:=by rw [htk,decide_eq_true hp0,decide_eq_true hp7];rfl
  refine .q 5 hG ⟨fun hc34 => ?_,fun hc34 => ?_⟩
  ·refine .q 2 hG ?_
   refine .p (.bS0 (α:=j8) a8 A6 a0B (.p (.bS0 (α:=C3) a8 a2U b3W ?_)))
   refine .q 6 hG ?_
   refine⟨_,.r3 a8 (.cell A6 a8 .z2) (.cell a2U a8 .z1) (.tmp a8),?_⟩
   unfold a3w
   rw [if_neg (by rw [hbf];decide),O1 hc34]
  ·refine .q 2 hG ?_
   refine .C1 hC .z (.O9 9 rfl .z (.a1f [[j0,j0,j0,j0,j0,j0],[j0,j0,j0,j0,j0,j0],[j0,j0,j0,j0,j0,j0],[j0,j0,j0,j0,j0,j0],[j0,j0,j0,j0,j0,j0],[j0,j0,j0,j0,j0,j0],[j0,j0,j0,j0,j0,c9]] [[j0,j0,j0,j0,j0,j0],[j0,j0,j0,j0,j0,j0],[j0,j0,j0,j0,j0,j0],[j0,j0,j0,j0,j0,j0],[j0,j0,j0,j0,j0,j0],[],[j0,j0,j0,j0,j0,j0],[],[j0,j0,j0,j0,j0,j0],[j0,j0,j0,j0,j0,j0],[j0,j0,j0,j0,j0,j0],[],[j0,j0,j0,j0,j0,j0],[j0,j0,j0,j0,j0,j0],[j0,j0,j0,j0,j0,j0],[],[],[j0,j0,j0,j0,j0,j0],[j0,j0,j0,j0,j0,j0],[j0,j0,j0,j0,j0,c9],[j0,j0,j0,j0,j0,c9],[],[j0,j0,j0,j0,j0,c9],[j0,j0,j0,j0,j0,c9]] [[],[],[],[],[],[17,18,19,20,22,23],[]] [] 6 (by kernel_rfl) 24 [[],[],[(40,1)],[],[(42,3)],[],[],[(44,5),(45,6)],[],[(47,8)],[(48,9)],[(46,7),(49,10)],[],[(51,12)],[(52,13)],[(50,11),(53,14)],[(39,0),(41,2),(43,4),(54,15)],[(55,16)],[(38,17)],[(38,17)],[(38,17)],[(56,18)],[(57,19)],[(58,20)]] [5,7,11,15,16,21] rfl (by kernel_rfl) rfl (by kernel_rfl) rfl (by decide) (by simp) (fun p hp=>by cases hp) (by kernel_rfl) rfl ?_))
   refine⟨_,fun H=>j5.Q6 A6 (.t a8) (y4.app .z5) a8,?_⟩
   refine⟨_,fun H=>j5.y9 u6.l1 (fun x=>x.Key) b6B a8 (fun _=>a8) (.t a8) a8,?_⟩
   refine⟨_,fun H=>j5.G8 D0 (.t a8) a8,?_⟩
   refine⟨_,fun H=>j5.A9 j8.l2 b2z a8 (.t a8) a8,?_⟩
   refine⟨_,fun H=>j5.S1 (fun x=>x.F4) I6 (.t a8) (y4.app .z5) (fun _=>a8) a8,?_⟩
   refine .inl ?_
   refine⟨_,fun H=>j5.V3 (by decide) V2 (.t a8) a8,?_⟩
   refine .inl ?_
   refine⟨_,fun H=>j5.y9 B0.l0 (fun x=>x.a2P) b3X a8 (fun _=>a8) (.t a8) a8,?_⟩
   refine⟨_,fun H=>j5.G8 I6 (.t a8) a8,?_⟩
   refine⟨_,fun H=>j5.p8 hG (E6 _ (by omega) (by omega)) (.cons (.t a8) .nil) a8,?_⟩
   refine .inl ?_
   refine⟨_,fun H=>j5.y9 B0.l1 (fun x=>x.a6j) b3Y a8 (fun _=>a8) (.t a8) a8,?_⟩
   refine⟨_,fun H=>j5.G8 I6 (.t a8) a8,?_⟩
   refine⟨_,fun H=>j5.p8 hG (E6 _ (by omega) (by omega)) (.cons (.t a8) .nil) a8,?_⟩
   refine .inl (.inl (.inl (.inl (.inl (.inl (.inl (.inl (.inl ?_))))))))
   refine⟨a8,?_⟩
   refine⟨⟨j1 [c8,c8,c8,c8,c8,c8],a8⟩,fun Ys6 => ?_⟩
   refine B3.buildSlice (α:=UInt8) ty5 underlying64 .nil rfl (by decide) fun b44 => ?_
   refine⟨[_],_,a8,?_⟩
   refine⟨⟨j1 [c8,c8,c8,c8,c8,c8],a8⟩,fun Ys6 => ?_⟩
   refine B3.append O2 (.inl ⟨_,underlying64⟩) rfl .z (.v (.t rfl)) (by first|omega|(simp;done)|(simp;omega)|(simp at *;omega)) (by first|omega|(simp;done)|(simp;omega)|(simp at *;omega)) (fun w46 => ?_) rfl
   refine⟨[_],_,a8,?_⟩
   refine⟨⟨j1 [c8,c8,c8,c8,c8,c8],a8⟩,fun Ys6 => ?_⟩
   refine B3.append O2 (.inl ⟨_,underlying64⟩) rfl .z (.v (.t rfl)) (by first|omega|(simp;done)|(simp;omega)|(simp at *;omega)) (by first|omega|(simp;done)|(simp;omega)|(simp at *;omega)) (fun w50 => ?_) rfl
   refine⟨[_],_,a8,?_⟩
   refine⟨⟨j1 [c8,c8,c8,c8,c8,c8],a8⟩,fun Ys6 => ?_⟩
   refine B3.append O2 (.inl ⟨_,underlying64⟩) rfl .z (.v (.t rfl)) (by first|omega|(simp;done)|(simp;omega)|(simp at *;omega)) (by first|omega|(simp;done)|(simp;omega)|(simp at *;omega)) (fun w54 => ?_) rfl
   refine⟨[_],_,a8,?_⟩
   refine⟨⟨j1 [c8,c8,c8,c8,c8,c8],a8⟩,fun Ys6 => ?_⟩
   refine B3.y0 hC .z (B3.as 54 rfl .z (B3.ofP (j5.p8 hG (b4t _ _ _ _ hb1) (.cons (.t rfl) (.cons (.t rfl) (.cons (.t rfl) (.cons (.t rfl) .nil)))) ?_)))
   refine⟨[_],_,a8,?_⟩
   refine⟨_,fun H=>j5.move (.t a8) a8,?_⟩
   refine⟨_,fun H=>j5.L7 (.t a8) a8,?_⟩
   refine⟨_,fun H=>j5.L8 (.t a8) a8,?_⟩
   refine⟨_,fun H=>j5.L9 (.t a8) a8,?_⟩
   refine⟨_,fun H=>j5.assign (.t a8) a8,?_⟩
   refine⟨_,fun H=>j5.assign (.t a8) a8,?_⟩
   refine⟨⟨j1 [c8,c8,c8,c8,c8,c8],a8⟩,fun Ys6 => ?_⟩
   refine B3.P7 A6 (.t rfl) (.t rfl) (.s (y4.app (y4.app .z5))) ?_
   refine⟨[_],_,a8,?_⟩
   refine⟨⟨j1 [c8,c8,c8,c8,c8,_],a8⟩,fun ws6 => ?_⟩
   refine⟨⟨j1 [c8,c8,c8,c8,c8,_],a8⟩,fun _ => ?_⟩
   show D1 _ _ _ _ _ [] ((10,_)::(11,_)::(58,_)::(57,_)::(56,_)::(38,_)::(55,_)::(54,_)::(53,_)::(52,_)::(51,_)::(50,_)::(49,_)::(48,_)::(47,_)::(46,_)::(45,_)::(44,_)::(43,_)::(42,_)::(41,_)::(40,_)::(39,_)::_) _
   refine .q 8 hG ⟨fun hc60 => ?_,fun hc60 => ?_⟩
   ·refine .q 2 hG ?_
    refine .p (.bS0 (α:=j8) a8 A6 a0B (.p (.bS0 (α:=C3) a8 a2U b3W (.mv a8 (.n (.P7 A6 (.t a8) (.t a8) .z3 (.n (.P7 a2U (.t a8) (.t a8) .z2 (.ag a8 ?_)))))))))
    refine .q 2 hG ?_
    refine⟨_,.r3 a8 (.cell A6 a8 .z3) (.cell a2U a8 .z2) (.tmp a8),?_⟩
    unfold a3w
    rw [if_neg (by rw [hbf];decide),E9 (Decidable.not_not.1 hc34),O1 (r:=(O4 (O3 a).1 c.Key (O3 a).1.F4 (W0 (O3 a).2.1 t))) hc60];rfl
   ·refine .q 2 hG ?_
    refine .F3 [j0,j0,c9,c9,j0,j0,j0] (by kernel_rfl) 9 [[],[],[(65,1)],[],[],[(66,2),(67,3),(68,4)],[(64,0)],[(69,5)],[]] [6,7] a8 (by kernel_rfl) a8 (by kernel_rfl) (by decide) ?_
    refine⟨_,fun H=>j5.Q6 A6 (.t a8) (y4.app .z6) a8,?_⟩
    refine⟨_,fun H=>j5.y9 u6.l0 (fun x=>x.G5) b6A a8 (fun _=>a8) (.t a8) a8,?_⟩
    refine⟨_,fun H=>j5.G8 I6 (.t a8) a8,?_⟩
    refine⟨_,fun H=>j5.G8 D0 (.t a8) a8,?_⟩
    refine⟨_,fun H=>j5.move (.t a8) a8,?_⟩
    refine⟨_,fun H=>j5.bS3 C3.l0 C3.l1 C3.l2 a8 a2U b3W (fun c0 c1 c2=>(⟨c0,c1,c2⟩:C3)) (fun _ _ _=>a8) a8 a8 a8 a8 (.t a8) (.t a8) (.t a8) a8,?_⟩
    refine .inl (.inl ?_)
    refine⟨_,fun H=>j5.assign (.i a8) a8,?_⟩
    refine⟨⟨([],j1 [c8,c8,_,_,c8,c8,c8]),a8⟩,?_⟩
    refine B3.P7 A6 (.t rfl) (.t rfl) .z3 ?_
    refine⟨⟨([],j1 [c8,c8,_,_,c8,c8,c8]),a8⟩,?_⟩
    refine B3.P7 a2U (.t rfl) (.t rfl) .z2 ?_
    refine⟨⟨([],j1 [c8,c8,_,_,c8,c8,c8]),a8⟩,?_⟩
    show D1 _ _ _ _ _ [] ((8,_)::(69,_)::(68,_)::(67,_)::(66,_)::(65,_)::(64,_)::_) _
    refine .q 2 hG ?_
    refine⟨_,.r3 a8 (.cell A6 a8 .z3) (.cell a2U a8 .z2) (.tmp a8),?_⟩
    unfold a3w
    rw [if_neg (by rw [hbf];decide),E9 (Decidable.not_not.1 hc34),E9 (r:=(O4 (O3 a).1 c.Key (O3 a).1.F4 (W0 (O3 a).2.1 t))) (Decidable.not_not.1 hc60)];rfl
def bnd (B:D6) (leaf:Tag) (r:Rq) (g:Dis):Bnd:=⟨g.p7,g.j9,(u2 B g.Tag (Z1 leaf r)).1⟩
theorem a74 {r:Rq} (h:U8 r=true):(a0s r).length≤14:=by
 have:=a07 h
 have l1:=B1 (n:=r.Gate.toNat) (by omega)
 have l2:=B1 (n:=r.E7.toNat) (by omega)
 unfold a0s;rw [List.length_append];omega
theorem b3D {leaf:Tag} {r:Rq} (h:U8 r=true):(Z1 leaf r).length≤60:=by
 have:=a74 h
 unfold Z1;rw [List.length_append,List.length_append,leaf.len];show 4+_≤_;omega
theorem b8r {r:Rq} (h:U8 r=true):(a2W r).length≤30:=by
 have:=a74 h
 unfold a2W;rw [List.length_append];show 7+_≤_;omega
structure c3K (a:D6) (n:Nat) (leaf:Tag) (r:Rq) (l:List Dis) (c:D6):Prop where
 eq:a2b leaf r a l=(c,l.map (bnd c leaf r),0)
 ok:H3 c (n+l.length)
 le:M6 a c
 boxes:c.y7=a.y7
 looks:∀ g∈l,(u2 c g.Tag (Z1 leaf r)).2=true
 X5:∀ x∈c.G2,x∈a.G2∨∃ g∈l,x.Key=g.Tag∧x.Message=Z1 leaf r
theorem H3.binds (leaf:Tag) {r:Rq} (hr:U8 r=true):∀ (l:List Dis) {a:D6} {n:Nat},H3 a n→n+l.length < 60000→∃ c,c3K a n leaf r l c
 | [],a,n,h,_=>⟨a,rfl,h,M6.refl a,rfl,fun g hg=>(by cases hg),fun x hx=>Or.inl hx⟩
 | d::l,a,n,h,hn=>by
  rw [List.length_cons] at hn
  obtain⟨b,t,s⟩:=h.step (by omega) d.Tag (m:=Z1 leaf r) (by have:=b3D (leaf:=leaf) hr;omega)
  obtain⟨c,q⟩:=H3.binds leaf hr l s.ok (by omega)
  have hl:u2 c d.Tag (Z1 leaf r)=(t,true):=q.le.look s.look
  have e1:a2a a d leaf r=(b,⟨d.p7,d.j9,t⟩,0):=by
   unfold a2a;rw [if_neg (by rw [hr];decide),s.eq,E9 rfl]
  refine⟨c,?_,?_,s.le.trans q.le,q.boxes.trans s.boxes,fun g hg => ?_,fun x hx => ?_⟩
  ·show a0h (a2a a d leaf r) _=_
   rw [e1,E9 rfl];dsimp only
   rw [q.eq,E9 rfl,List.map_cons]
   have:bnd c leaf r d=⟨d.p7,d.j9,t⟩:=by unfold bnd;rw [hl]
   rw [this]
  ·have:=q.ok;rw [List.length_cons];exact this.le (by omega)
  ·rcases List.mem_cons.1 hg with rfl|hg
   ·rw [hl]
   ·exact q.looks g hg
  ·rcases q.X5 x hx with h'|⟨g,hg,h'⟩
   ·rcases s.X5 x h' with h'|h'
    ·exact Or.inl h'
    ·exact Or.inr ⟨d,by simp,h'⟩
   ·exact Or.inr ⟨g,by simp [hg],h'⟩
theorem b3E (l:List Cav):0≤a0q l∧a0q l≤l.length:=by
 have:=V7 l;unfold a0q;omega
theorem b1U (l:List Bnd):a2E l=false↔(l.map (·.p7)).Nodup:=by
 unfold a2E R6 List.Nodup
 rw [List.pairwise_map,List.pairwise_iff_getElem,List.any_eq_false]
 constructor
 ·intro h i j hi hj hij e
  have h1:=h j (List.mem_range.2 hj)
  rw [Bool.not_eq_true,List.any_eq_false] at h1
  have h2:=h1 l[i] (List.mem_take_iff_getElem.2 ⟨i,by omega,rfl⟩)
  rw [b4D hj] at h2
  simp [e] at h2
 ·intro h j hj
  rw [Bool.not_eq_true,List.any_eq_false]
  intro x hx
  obtain⟨i,hi,rfl⟩:=List.mem_take_iff_getElem.1 hx
  have hj':=List.mem_range.1 hj
  rw [b4D hj']
  have:=h i j (by omega) hj' (by omega)
  simpa using this
theorem b0k {A : D6} {root : Epo} {P : Pass} {G : List Dis} {T : List Tag} {n k : Nat} (h : Y6 A root P G T n k) (hk : k ≤ 6) {r : Rq} (hr : U8 r = true) (t : Tag) (f : Dis → Bnd) (hf : ∀ g, (f g).p7 = g.p7 ∧ (f g).j9 = g.j9) :
    M1 ⟨r,P.D4,P.C2,P.l9,t,G.map f⟩=0:=by
  have hncav:=h.a5k
  have hngr:=h.ngr
  have hser:=h.a5n
  have hep:=h.a4T
  have hth:=b3E P.l9
  have hrq:=a07 hr
  have e1:O0 ⟨r,P.D4,P.C2,P.l9,t,G.map f⟩=true:=by
    unfold O0;simp [hr];omega
  have e2:P6 ⟨r,P.D4,P.C2,P.l9,t,G.map f⟩=false:=by
    unfold P6
    simp only [List.any_map,Bool.or_eq_false_iff,decide_eq_false_iff_not,List.any_eq_false,List.length_map]
    refine⟨⟨⟨by omega,by omega⟩,by omega⟩,fun g hg => ?_⟩
    have:=(h.a4i g hg).a6t
    simp only [Function.comp,a08,(hf g).2]
    simpa using this
  have e3:((P.l9.any fun c => !H6 c)||(G.map f).any a2D)=false:=by
    simp only [List.any_map,Bool.or_eq_false_iff,List.any_eq_false]
    refine⟨fun c hc=>by rw [(h.cav c hc).1];decide,fun g hg => ?_⟩
    have h1:=h.a4i g hg
    have h2:(g.j9.any fun p => !y8 p)=false:=List.any_eq_false.2 fun p hp=>by rw [(h1.con p hp).1];decide
    have:=h1.tick
    simp only [Function.comp,a2D,(hf g).1,(hf g).2,h2]
    rw [decide_eq_false (show ¬g.p7.length < 1 by omega),decide_eq_false (show ¬1024 < g.p7.length by omega)];decide
  have e4:(G.map f).any a2X=false:=by
    simp only [List.any_map,List.any_eq_false]
    intro g hg
    have h2:(g.j9.any fun p=>decide (p.Kind=7))=false:=List.any_eq_false.2 fun p hp=>by simpa using ((h.a4i g hg).con p hp).2
    simp only [Function.comp,a2X,(hf g).2,h2];decide
  have e5:a2E (G.map f)=false:=by
    rw [b1U,List.map_map]
    have:((fun d:Bnd=>d.p7)∘f)=fun g:Dis=>g.p7:=funext fun g=>(hf g).1
    rw [this];exact h.nodup
  have e6:(a0v ⟨r,P.D4,P.C2,P.l9,t,G.map f⟩).length≤4096:=by
    have l1:=a0T [1,r.Gate,r.E7,P.D4,P.C2,(P.l9.length:Int)] (by simp;omega)
    have l2:=a1l E0 P.l9 200 fun c hc=>(h.cav c hc).2
    have l3:=B1 (n:=(G.map f).length) (by simp;omega)
    have l4:=a1l J7 (G.map f) 400 fun d hd=>by
      obtain⟨g,hg,rfl⟩:=List.mem_map.1 hd
      have h1:=h.a4i g hg
      have:=h1.tick
      have:=h1.a6t
      have m1:=B1 (n:=(f g).p7.length) (by rw [(hf g).1];omega)
      have m2:=B1 (n:=(f g).j9.length) (by rw [(hf g).2];omega)
      have m3:=a1l u3 g.j9 24 fun p hp=>G9 (L5 (h1.con p hp).1)
      unfold J7 Z8
      rw [(hf g).1] at m1 ⊢
      rw [(hf g).2] at m2 ⊢
      simp only [List.length_append,(f g).Proof.len];omega
    rw [List.length_map] at l3 l4
    simp only [List.length_cons,List.length_nil] at l1
    unfold a0v
    simp only [List.length_append,t.len,List.length_map];omega
  have e0:E8 ⟨r,P.D4,P.C2,P.l9,t,G.map f⟩=0:=by
    unfold E8;dsimp only;simp only [e1,e2,e3,e4,e5,Bool.false_eq_true,Bool.true_eq_false,if_false]
  unfold M1
  rw [e0,if_neg (by decide),if_neg (by omega)]
structure c0t (B:D6) (root:Epo) (P:Pass) (G:List Dis) (T:List Tag) (r:Rq) (t:Tag) (n k:Nat):Prop where
 sc:Y6 B root P G T n k
 rq:U8 r=true
 proof:u2 B P.Tag (a2W r)=(t,true)
 binds:∀ g∈G,(u2 B g.Tag (Z1 P.Tag r)).2=true
 X5:∀ x∈B.G2,(∃ c,x.Message.head?=some c∧c≠114∧c≠98)∨(x.Key=P.Tag∧x.Message=a2W r)∨(∃ g∈G,x.Key=g.Tag∧x.Message=Z1 P.Tag r)
def prB (B:D6) (P:Pass) (G:List Dis) (r:Rq) (t:Tag):Z7:=⟨r,P.D4,P.C2,P.l9,t,G.map (bnd B P.Tag r)⟩
theorem b8s {B:D6} (hf:B.J6=true) {k t:Tag} {m:List UInt8} (h1:u2 B k m=(t,true)):∃ x∈B.G2,x.Key=k∧x.Message=m:=by
 rw [look_eq,if_pos hf] at h1
 obtain⟨x,hx,hx2⟩:=h1
 have ex:=(a8P k m x).1 (List.find?_some hx)
 exact⟨x,List.mem_of_find?_eq_some hx,ex.1,ex.2⟩
theorem b5O {r q:Rq} (hr:U8 r=true) (hq:U8 q=true) (h:a2W r=a2W q):r=q:=by
 have h:=List.append_cancel_left h
 unfold a0s at h
 obtain⟨e1,h⟩:=b1R _ _ _ _ h
 obtain⟨e2,_⟩:=b1R r.E7.toNat q.E7.toNat [] [] (by rw [h])
 have:=a07 hr
 have:=a07 hq
 obtain⟨g,n⟩:=r
 obtain⟨g',n'⟩:=q
 dsimp only at *
 rw [show g=g' by omega,show n=n' by omega]
def a1C (e:Epo) (l:Int):Ring:=⟨[e],l⟩
theorem c2A (e:Epo) (l:Int):a7Z (a1C e l) e.Number=some e:=by
 unfold a7Z a1C;rw [List.find?_cons_of_pos (by simp)]
section
variable {B:D6} {root:Epo} {P:Pass} {G:List Dis} {T:List Tag} {r:Rq} {t:Tag} {n k:Nat}
end
end Go.Proofs.YtalibdhdngbbcaaGreatDoor
namespace Go.Ab
open Go.Fl Go.RowKit
open p2 (rep)
section b5P
variable {P:Program} {C:Ctx} {N:Nat} {σ:x5} {H:j7} {Q:Exit→x5→j7→Prop}
theorem y4.fz {w:Value} {a:AV} {b:Bool} {F:Bool×D8→j7} (hH:y4 H (b,.fz w a) F) {n0:Nat} {I:Im} {L:Lh} (hr:U2 n0 I H L):F8 I a w:=by
 obtain⟨i,X,h1,h2,h3⟩:=hH.get hr
 exact h2.1.2
theorem I9.b5P {α β:Type} {r:p2 α} {s:p2 β} {w:Value} {x:α} {y:β} {b:Bool} {c:Code} {F:Bool×D8→j7} (hH:y4 H (b,.ob w x) F) (h:∀ n0 I L,U2 n0 I H L→∀ cs,r.rep I x cs→s.rep I y cs) (k:I9 P C N c Q σ (F (b,.ob w y))):I9 P C N c Q σ H:=fun ρ I L hs=>by
 obtain⟨i,X,h2,h3,h4⟩:=hH.get hs.heap
 have hset:L.set i X=L:=by
  obtain⟨hi,e⟩:=List.getElem?_eq_some_iff.1 h2
  rw [←e,List.set_getElem_self]
 obtain⟨⟨bb,T,cs,e1,e2,e3⟩,h5⟩:=h3
 have:=h4 I (b,.ob w y) X (Le.refl I) ⟨⟨bb,T,cs,e1,e2,h _ I L hs.heap cs e3⟩,h5⟩
 rw [hset] at this
 exact k ρ I L ⟨hs.env,this,hs.W3⟩
theorem D1.b5P {ops:Array Oper} {α β:Type} {r:p2 α} {s:p2 β} {w:Value} {x:α} {y:β} {b:Bool} {os:List Oper} {F:Bool×D8→j7} (hH:y4 H (b,.ob w x) F) (h:∀ n0 I L,U2 n0 I H L→∀ cs,r.rep I x cs→s.rep I y cs) (k:D1 P C N ops Q os σ (F (b,.ob w y))):D1 P C N ops Q os σ H:=fun ρ I L hs=>by
 obtain⟨i,X,h2,h3,h4⟩:=hH.get hs.heap
 have hset:L.set i X=L:=by
  obtain⟨hi,e⟩:=List.getElem?_eq_some_iff.1 h2
  rw [←e,List.set_getElem_self]
 obtain⟨⟨bb,T,cs,e1,e2,e3⟩,h5⟩:=h3
 have:=h4 I (b,.ob w y) X (Le.refl I) ⟨⟨bb,T,cs,e1,e2,h _ I L hs.heap cs e3⟩,h5⟩
 rw [hset] at this
 exact k ρ I L ⟨hs.env,this,hs.W3⟩
end b5P
section rawOps
variable {P:Program} {C:Ctx} {N:Nat} {σ:x5} {H:j7}
theorem D5.vR {α:Type} {r:p2 α} {t:Nat} {w:Value} {l:List α} {b:Bool} {F:Bool×D8→j7} (ht:F0 σ t=some (.raw w)) (hH:y4 H (b,.fz w (.v l)) F):D5 C σ H (.tmp t) (.v (S3.mk w)):=fun ρ I L hs=>by
 obtain⟨u,h1,rfl⟩:=hs.env t _ ht
 have h:=y4.fz hH hs.heap
 obtain⟨cs,⟨v,e1,h4⟩,e2⟩:=h
 subst e1
 have e2:u=v:=e2
 have o4:u.oneCell'=true:=by rw [e2];obtain⟨xs,⟨a,c,rfl,_⟩,_⟩:=h4;rfl
 exact⟨_,h1,_,⟨a8,o4⟩,a8⟩
theorem EvL.st {α β γ:Type} {ra:p2 α} {rb:p2 β} {rc:p2 γ} {t:Nat} {x:α} {y:β} {E:TypeId} {w:Value} {l:List γ} {g:Bool} {F:Bool×D8→j7} (ht:F0 σ t=some (.v x)) (h:y4 H (g,.own E w l) F) (hc:∀ J n0 L v,U2 n0 J H L→F8 J (.v x) v→F8 J (.v l) w→F8 J (.v y) v):EvL C σ H (.tmp t) (.v y):=fun ρ I L hs=>by
 obtain⟨u,h1,h2⟩:=hs.env t _ ht
 obtain⟨i,X,h3,h4,_⟩:=h.get hs.heap
 exact⟨_,h1,fun J hle hp=>hc J _ L u (hs.heap.mono hle) (h2.mono hle) (S6 h4.1 hle (fun p hpx=>hp p (F7 h3 hpx)))⟩
theorem D1.name {ops:Array Oper} {Q:Exit→x5→j7→Prop} {os:List Oper} (t:Nat) {a:AV} (ht:F0 σ t=some a) (k:∀ w,D1 P C N ops Q os ((t,.raw w)::σ) ((true,.fz w a)::H)):D1 P C N ops Q os σ H:=fun ρ I L hs=>by
 obtain⟨u,h1,h2⟩:=hs.env t _ ht
 refine wpL.pad (k u ρ I ([]::L) ⟨fun s b hb => ?_,⟨[],L,rfl,⟨⟨rfl,h2⟩,fun _ p hp=>by cases hp⟩,hs.heap⟩,hs.W3⟩)
 rw [I8] at hb
 by_cases e:t=s
 ·subst e;simp at hb;subst hb;exact⟨u,h1,rfl⟩
 ·rw [if_neg e] at hb;exact hs.env s b hb
end rawOps
end Go.Ab
namespace Go.Proofs.YtalibdhdngbbcaaGreatDoor
open Go.Proofs.Tryz
open Go.Fl Go.Ab Go.Mac Go.Sha
structure j4 where
 A:j8
 Ring:C7
 C:u6
 Pass:x4
 K8:S3
 Request:u7
 A7:T5
 Minute:Int
def j4.f (x:j4):j8×C7×u6×x4×S3×u7×T5×Int×Unit:=(x.A,x.Ring,x.C,x.Pass,x.K8,x.Request,x.A7,x.Minute,())
instance:Inhabited j4:=⟨⟨default,default,default,default,default,default,default,default⟩⟩
instance:p2 j4:=p2.via j4.f
instance:G4 j4:=G4.via j4.f rfl
def j4.l0:j6 j4 j8:=j6.via j4.f j6.fst (fun x=>x.A) (fun y x => { x with A:=y }) (fun _=>rfl) (fun _ _=>rfl)
def j4.l1:j6 j4 C7:=j6.via j4.f (j6.snd.comp j6.fst) (fun x=>x.Ring) (fun y x => { x with Ring:=y }) (fun _=>rfl) (fun _ _=>rfl)
def j4.l2:j6 j4 u6:=j6.via j4.f (j6.snd.comp (j6.snd.comp j6.fst)) (fun x=>x.C) (fun y x => { x with C:=y }) (fun _=>rfl) (fun _ _=>rfl)
def j4.l3:j6 j4 x4:=j6.via j4.f (j6.snd.comp (j6.snd.comp (j6.snd.comp j6.fst))) (fun x=>x.Pass) (fun y x => { x with Pass:=y }) (fun _=>rfl) (fun _ _=>rfl)
def j4.l4:j6 j4 S3:=j6.via j4.f (j6.snd.comp (j6.snd.comp (j6.snd.comp (j6.snd.comp j6.fst)))) (fun x=>x.K8) (fun y x => { x with K8:=y }) (fun _=>rfl) (fun _ _=>rfl)
def j4.l5:j6 j4 u7:=j6.via j4.f (j6.snd.comp (j6.snd.comp (j6.snd.comp (j6.snd.comp (j6.snd.comp j6.fst))))) (fun x=>x.Request) (fun y x => { x with Request:=y }) (fun _=>rfl) (fun _ _=>rfl)
def j4.l6:j6 j4 T5:=j6.via j4.f (j6.snd.comp (j6.snd.comp (j6.snd.comp (j6.snd.comp (j6.snd.comp (j6.snd.comp j6.fst)))))) (fun x=>x.A7) (fun y x => { x with A7:=y }) (fun _=>rfl) (fun _ _=>rfl)
def j4.l7:j6 j4 Int:=j6.via j4.f (j6.snd.comp (j6.snd.comp (j6.snd.comp (j6.snd.comp (j6.snd.comp (j6.snd.comp (j6.snd.comp j6.fst))))))) (fun x=>x.Minute) (fun y x => { x with Minute:=y }) (fun _=>rfl) (fun _ _=>rfl)
theorem c1k:F1 prog 38 S3 := .ok (by kernel_rfl)
theorem c3L:F1 prog 42 j4 := .ok (by kernel_rfl)
abbrev Scn:=u1
def b8t (s:Scn) (u:Value):j4:=⟨s.A,s.Ring,s.C,s.Pass,⟨u⟩,s.Request,s.A7,s.Minute⟩
theorem b5R {s:Scn} {u:Value} {I:Im} {cs:List Value} (h:p2.rep I (b8t s u) cs) (hg:F8 I (.v s.K8) u):p2.rep I s cs:=by
 obtain⟨c1,r1,rfl,h1,c2,r2,rfl,h2,c3,r3,rfl,h3,c4,r4,rfl,h4,c5,r5,rfl,⟨rfl,_⟩,h6⟩:=h
 obtain⟨_,⟨v,rfl,h5⟩,rfl⟩:=hg
 exact⟨c1,_,a8,h1,c2,_,a8,h2,c3,_,a8,h3,c4,_,a8,h4,_,_,a8,⟨_,a8,h5⟩,h6⟩
theorem as3 {α:Type} [p2 α] {P:Program} {f:FuncId} {ag:List AV} {x:D6×α×Int} {b:D6} {y:α} {e:Int} (h:p6 gl P f ag (fun r=>r = .t3 (.v x.1) (.v x.2.1) (.v x.2.2))) (hx:x=(b,y,e)):p6 gl P f ag (fun r=>r = .t3 (.v b) (.v y) (.v e)):=by
 subst hx;exact h
abbrev b3F:T5:=⟨[97,110,110]⟩
structure a6Z (A:D6) (root:Epo) (P:Pass) (G:List Dis) (k:Nat):Prop where
 ex:∃ T n,Y6 A root P G T n k∧n≤4+10*k
 b4J:a2Y A
theorem a86 {A:D6} {root:Epo} {P:Pass} {G:List Dis} {k:Nat} (h:a6Z A root P G k) (hk:k < 6) {l:List Pred} (hl:l.length≤1) (hp:∀ p∈l,y8 p=true):∃ B Q,a0x A P l=(B,Q,0)∧a6Z B root Q G (k+1):=by
 obtain⟨T,n,hs,hn⟩:=h.ex
 rcases l with _|⟨p,l⟩
 ·exact⟨A,P,rfl,⟨T,n,hs.wide (Nat.le_refl _) (Nat.le_succ _),by omega⟩,h.b4J⟩
 ·obtain rfl:l = []:=List.length_eq_zero_iff.1 (by simpa using hl)
  obtain⟨B,Q,U,e,h2,h3,_⟩:=hs.first (by omega) (by omega) (hp p (by simp)) h.b4J
  refine⟨B,Q,?_,⟨U,n+2,h2,by omega⟩,h3⟩
  unfold a0x;rw [e,E9 rfl];rfl
set_option maxHeartbeats 1000000 in
theorem b5S (w:Value) (d:o0) (wide:Bool) (hd:H9 d):G0 gl prog 13 [dk w,.v wide] [.ob w d] (fun r Hs=>∃ s:Scn,∃ root k,(a6Z s.A root s.Pass s.K8 k∧k≤5∧root.Number=2∧s.Ring=a1C root 3∧U8 s.Request=true∧s.A7=b3F)∧∃ d',H9 d'∧r = .v s∧Hs = [.ob w d']):=by
 refine G0.a6n func13 rfl (by kernel_rfl) 176 rfl rfl _ rfl _ rfl fun C hC hG => ?_
 refine .q 3 hG fun b4 => ?_
 refine .q 3 hG ?_
 refine .h (.alloc c3L fun b5 => ?_)
 refine .q 2 hG ?_
 refine .a0Q 123 Dis ?_
 refine .q 2 hG ?_
 refine .km hG (F6 _ _ _ (by first|assumption|exact y3 _) (by first|omega|(simp;done)|(simp;omega)|(simp at *;omega)) (by first|omega|(simp;done)|(simp;omega)|(simp at *;omega))) .z3 (by rintro _ _ ⟨_,_,_,_,_,_,rfl⟩;exact⟨_,rfl⟩) fun r15 B15 hr15 => ?_
 obtain⟨v15,d15,h015,h115,hd15,rfl,hB⟩:=hr15
 cases hB
 refine .q 2 hG ?_
 refine .km hG (b2Z _ _ (by first|assumption|exact y3 _)) .z3 (by rintro _ _ ⟨_,_,_,_,rfl⟩;exact⟨_,rfl⟩) fun r18 B18 hr18 => ?_
 obtain⟨k18,d18,hd18,rfl,hB⟩:=hr18
 cases hB
 refine .p (.p8 hG (c2d _ _) (.cons (.t a8) (.cons (.t a8) .nil)) (.p (.A9 j4.l0 P0 a8 (.t a8) (.n (.Z0 (fun y x => { x with A:=y }) A6 (.t a8) (.t a8) .z1 (fun _ _=>a8) ?_)))))
 refine .q 3 hG ?_
 refine .h (.alloc D0 fun b6 => .h (.alloc D0 fun b7 => ?_))
 refine .q 3 hG ?_
 refine .p (.A9 j4.l0 P0 a8 (.t a8) (.p (.S1 (fun x=>x.A) A6 (.t a8) .z3 (fun _=>a8) (.p (.p8 hG (b2Y _ (Int.le_refl 0)) (.cons (.t a8) .nil) ?_)))))
 have hk0:=(H3.new (decide (v15=0)) k18 0).b0c (by decide)
 obtain⟨kb,kt,ks⟩:=hk0
 rw [ks.eq]
 dsimp only
 refine .mv a8 (.p (.L7 (.t a8) (.p (.L8 (.t a8) (.p (.L9 (.t a8) (.p (.A9 j4.l0 P0 a8 (.t a8) (.n (.Z0 (fun y x => { x with A:=y }) A6 (.t a8) (.t a8) .z3 (fun _ _=>a8) (.n (.P7 D0 (.t a8) (.t a8) .z1 ?_))))))))))))
 refine .q 3 hG ?_
 refine .p (.A9 j4.l0 P0 a8 (.t a8) (.p (.S1 (fun x=>x.A) A6 (.t a8) .z3 (fun _=>a8) (.p (.p8 hG (b2Y _ ks.ok.a5f) (.cons (.t a8) .nil) ?_)))))
 have hk0:=ks.ok.b0c (by decide)
 obtain⟨kb2,kt2,ks2⟩:=hk0
 rw [ks2.eq]
 dsimp only
 refine .mv a8 (.p (.L7 (.t a8) (.p (.L8 (.t a8) (.p (.L9 (.t a8) (.p (.A9 j4.l0 P0 a8 (.t a8) (.n (.Z0 (fun y x => { x with A:=y }) A6 (.t a8) (.t a8) .z3 (fun _ _=>a8) (.n (.P7 D0 (.t a8) (.t a8) .z ?_))))))))))))
 refine .q 3 hG ?_
 refine .p (.Q6 D0 (.t a8) .z (.p (.bS2 u4.l0 u4.l1 a8 b1e c1M (fun c0 c1=>(⟨c0,c1⟩:u4)) (fun _ _=>a8) a8 a8 a8 (.i a8) (.t a8) ?_)))
 refine .bs a8 (by decide) fun b39=>(.y0 hC .z (.as 39 a8 .z (.p (.bS2 C7.l0 C7.l1 a8 b9G c20 (fun c0 c1=>(⟨c0,c1⟩:C7)) (fun _ _=>a8) a8 a8 a8 (.t a8) (.i a8) (.p (.A9 j4.l1 b6D a8 (.t a8) (.n (.Z0 (fun y x => { x with Ring:=y }) b9G (.t a8) (.t a8) .z4 (fun _ _=>a8) (.drop ?_)))))))))
 refine .q 3 hG ?_
 refine .p (.A9 j4.l6 b2E a8 (.t a8) (.n (.Z0 (fun y x => { x with A7:=y }) ty9 (.t a8) (.s [97,110,110] (by decide) (by decide)) .z3 (fun _ _=>a8) ?_)))
 refine .q 3 hG ?_
 refine .mv a8 (.h (.a4I hG (F6 _ _ _ (by first|assumption|exact y3 _) (by first|omega|(simp;done)|(simp;omega)|(simp at *;omega)) (by first|omega|(simp;done)|(simp;omega)|(simp at *;omega))) .z5 (.cons (.t a8) (.cons (.i a8) .nil)) (by rintro _ _ ⟨_,_,_,_,_,_,rfl⟩;exact⟨_,rfl⟩) fun r44 B44 hr44 => ?_))
 obtain⟨v44,d44,h044,h144,hd44,rfl,hB⟩:=hr44
 cases hB
 refine .p (.A9 j4.l7 b6F a8 (.t a8) (.n (.Z0 (fun y x => { x with Minute:=y }) I6 (.t a8) (.t a8) .z3 (fun _ _=>a8) ?_)))
 refine .q 2 hG ?_
 refine .F3 [j0,j0,j0,j0,j0,c9] (by kernel_rfl) 13 [[],[(46,0)],[],[],[(49,3)],[(50,4)],[(51,5)],[(52,6)],[(53,7)],[],[(54,8),(55,9)],[(47,1),(48,2),(56,10)],[]] [1,4,5,6,7,8,10,11] a8 (by kernel_rfl) a8 (by kernel_rfl) (by decide) ?_
 refine⟨_,fun H=>j5.move (.t a8) a8,?_⟩
 refine .inl ?_
 refine⟨_,fun H=>j5.Q6 D0 (.t a8) (y4.app .z1) a8,?_⟩
 refine⟨_,fun H=>j5.move (.t a8) a8,?_⟩
 refine .inl (.inl (.inl (.inl (.inl ?_))))
 refine⟨_,fun H=>j5.bS2 A0.l0 A0.l1 a8 a4M b6R (fun c0 c1=>(⟨c0,c1⟩:A0)) (fun _ _=>a8) a8 a8 a8 (.s [98,111,98] (by decide) (by decide)) (.i a8) a8,?_⟩
 refine .inl (.inl ?_)
 refine⟨_,fun H=>j5.A9 j4.l2 b2C a8 (.t a8) a8,?_⟩
 refine⟨⟨([],j1 [c8,c8,c8,c8,c8,_]),a8⟩,?_⟩
 refine B3.a4I hG (F6 _ _ _ (by first|assumption|exact y3 _) (by first|omega|(simp;done)|(simp;omega)|(simp at *;omega)) (by first|omega|(simp;done)|(simp;omega)|(simp at *;omega))) .z5 (.cons (.t rfl) (.cons (.i rfl) .nil)) (by rintro _ _ ⟨_,_,_,_,_,_,rfl⟩;exact⟨_,rfl⟩) fun r47 B47 hr47 => ?_
 obtain⟨v47,d47,h047,h147,hd47,rfl,hB⟩:=hr47
 cases hB
 refine⟨⟨([],j1 [c8,c8,c8,c8,c8,_]),a8⟩,?_⟩
 refine B3.a4I hG (F6 _ _ _ (by first|assumption|exact y3 _) (by first|omega|(simp;done)|(simp;omega)|(simp at *;omega)) (by first|omega|(simp;done)|(simp;omega)|(simp at *;omega))) .z5 (.cons (.t rfl) (.cons (.i rfl) .nil)) (by rintro _ _ ⟨_,_,_,_,_,_,rfl⟩;exact⟨_,rfl⟩) fun r50 B50 hr50 => ?_
 obtain⟨v50,d50,h050,h150,hd50,rfl,hB⟩:=hr50
 cases hB
 refine⟨⟨([],j1 [c8,c8,c8,c8,c8,_]),a8⟩,?_⟩
 refine B3.ofP (j5.neg (.t rfl) (by first|omega|(simp;done)|(simp;omega)|(simp at *;omega)) ?_)
 refine⟨⟨([],j1 [c8,c8,c8,c8,c8,_]),a8⟩,?_⟩
 refine B3.ofP (j5.mul (.t rfl) (.i rfl) (by first|omega|(simp;done)|(simp;omega)|(simp at *;omega)) (by first|omega|(simp;done)|(simp;omega)|(simp at *;omega)) ?_)
 refine⟨⟨([],j1 [c8,c8,c8,c8,c8,_]),a8⟩,?_⟩
 refine B3.ofP (j5.mul (.t rfl) (.i rfl) (by first|omega|(simp;done)|(simp;omega)|(simp at *;omega)) (by first|omega|(simp;done)|(simp;omega)|(simp at *;omega)) ?_)
 refine⟨⟨([],j1 [c8,c8,c8,c8,c8,_]),a8⟩,?_⟩
 refine B3.ofP (j5.bS2 A0.l0 A0.l1 rfl a4M b6R (fun c0 c1=>(⟨c0,c1⟩:A0)) (fun _ _=>rfl) rfl rfl rfl (.s [97,110,110] (by decide) (by decide)) (.t rfl) ?_)
 refine⟨⟨([],j1 [c8,c8,c8,c8,c8,_]),a8⟩,?_⟩
 refine B3.ofP (j5.G1 (α:=A0) a4M underlying32 (.cons (.t rfl) (.cons (.t rfl) .nil)) rfl (by decide) ?_)
 refine⟨⟨([],j1 [c8,c8,c8,c8,c8,_]),a8⟩,?_⟩
 refine B3.ofP (j5.bS3 u6.l0 u6.l1 u6.l2 rfl b7p c4e (fun c0 c1 c2=>(⟨c0,c1,c2⟩:u6)) (fun _ _ _=>rfl) rfl rfl rfl rfl (.t rfl) (.t rfl) (.c rfl) ?_)
 refine⟨⟨([],j1 [c8,c8,c8,c8,c8,_]),a8⟩,?_⟩
 show D1 _ _ _ _ _ [_] ((58,_)::(57,_)::(56,_)::(55,_)::(54,_)::(53,_)::(52,_)::(51,_)::(50,_)::(49,_)::(48,_)::(47,_)::(46,_)::_) _
 refine .n (.Z0 (fun y x => { x with C:=y }) b7p (.t a8) (.t a8) .z3 (fun _ _=>a8) ?_)
 refine .q 3 hG ?_
 refine .mv a8 ?_
 refine .km hG (F6 _ _ _ (by first|assumption|exact y3 _) (by first|omega|(simp;done)|(simp;omega)|(simp at *;omega)) (by first|omega|(simp;done)|(simp;omega)|(simp at *;omega))) .z5 (by rintro _ _ ⟨_,_,_,_,_,_,rfl⟩;exact⟨_,rfl⟩) fun r60 B60 hr60 => ?_
 obtain⟨v60,d60,h060,h160,hd60,rfl,hB⟩:=hr60
 cases hB
 refine .q 1 hG ?_
 refine .km hG (a7k _ _ _ _ (by first|assumption|exact y3 _) (by first|omega|(simp;done)|(simp;omega)|(simp at *;omega)) (by first|omega|(simp;done)|(simp;omega)|(simp at *;omega)) (by first|omega|(simp;done)|(simp;omega)|(simp at *;omega))) .z5 (by rintro _ _ ⟨_,_,_,_,_,_,rfl⟩;exact⟨_,rfl⟩) fun r62 B62 hr62 => ?_
 obtain⟨v62,d62,h062,h162,hd62,rfl,hB⟩:=hr62
 cases hB
 refine .p (.bS2 u7.l0 u7.l1 a8 a8r c21 (fun c0 c1=>(⟨c0,c1⟩:u7)) (fun _ _=>a8) a8 a8 a8 (.t a8) (.t a8) (.p (.A9 j4.l5 b6E a8 (.t a8) (.n (.Z0 (fun y x => { x with Request:=y }) a8r (.t a8) (.t a8) .z3 (fun _ _=>a8) ?_)))))
 refine .q 2 hG ?_
 refine .a1f [[j0,j0,j0,j0,j0,j0],[j0,j0,j0,j0,j0,c9],[j0,j0,j0,c9,j0,c9],[j0,j0,j0,c9,j0,c9]] [[j0,j0,j0,j0,j0,c9],[j0,j0,j0,j0,j0,c9],[j0,j0,j0,j0,j0,c9],[j0,j0,j0,j0,j0,c9],[j0,j0,j0,j0,j0,c9],[j0,j0,j0,j0,j0,c9],[j0,j0,j0,j0,j0,c9],[j0,j0,j0,j0,j0,j0],[],[j0,j0,j0,j0,j0,c9],[j0,j0,j0,j0,j0,c9],[j0,j0,j0,j0,j0,c9],[j0,j0,j0,c9,j0,c9],[j0,j0,j0,c9,j0,c9],[j0,j0,j0,j0,j0,c9],[],[j0,j0,j0,c9,j0,c9],[]] [[],[9,10,11,12,13],[],[]] [] 3 (by kernel_rfl) 18 [[],[(66,0)],[],[(68,2)],[(69,3)],[(70,4)],[(71,5)],[],[(73,7)],[(67,1),(72,6),(74,8)],[(75,9)],[(65,10)],[(65,10)],[(65,10)],[],[(79,14),(76,11)],[],[(80,16),(77,12)]] [8,15,17] rfl (by kernel_rfl) rfl (by kernel_rfl) rfl (by decide) (by simp) (fun p hp=>by cases hp) (by kernel_rfl) rfl ?_
 refine⟨_,fun H=>j5.A9 j4.l0 P0 a8 (.t a8) a8,?_⟩
 refine⟨_,fun H=>j5.S1 (fun x=>x.A) A6 (.t a8) (y4.app .z3) (fun _=>a8) a8,?_⟩
 refine⟨_,fun H=>j5.A9 j4.l1 b6D a8 (.t a8) a8,?_⟩
 refine⟨_,fun H=>j5.c3c C7.l0 b2A a8 (.t a8) a8,?_⟩
 refine⟨_,fun H=>j5.S1 (fun x=>x.Ring.Live) c15 (.t a8) (y4.app .z3) (fun _=>a8) a8,?_⟩
 refine⟨_,fun H=>j5.idx b1e underlying29 (.t a8) (.i a8) (by first|omega|(simp;done)|(simp;omega)|(simp at *;omega)) (by first|omega|(simp;done)|(simp;omega)|(simp at *;omega)) a8,?_⟩
 refine⟨_,fun H=>j5.G8 b1e (.t a8) a8,?_⟩
 refine⟨_,fun H=>j5.move (.t a8) a8,?_⟩
 refine .inl (.inl (.inl (.inl (.inl (.inl ?_)))))
 refine⟨_,fun H=>j5.A9 j4.l0 P0 a8 (.t a8) a8,?_⟩
 refine .inl ?_
 refine⟨_,fun H=>j5.A9 j4.l3 a3Q a8 (.t a8) a8,?_⟩
 refine .inl ?_
 refine⟨a8,?_⟩
 refine⟨⟨j1 [c8,c8,c8,c8,c8,c8],a8⟩,fun Ys11 => ?_⟩
 refine B3.a4I hG (a7k _ _ _ _ (by first|assumption|exact y3 _) (by first|omega|(simp;done)|(simp;omega)|(simp at *;omega)) (by first|omega|(simp;done)|(simp;omega)|(simp at *;omega)) (by first|omega|(simp;done)|(simp;omega)|(simp at *;omega))) (y4.app (y4.app .z5)) (.cons (.t rfl) (.cons (.i rfl) (.cons (.i rfl) .nil))) (by rintro _ _ ⟨_,_,_,_,_,_,rfl⟩;exact⟨_,rfl⟩) fun r74 B74 hr74 => ?_
 obtain⟨v74,d74,h074,h174,hd74,rfl,hB⟩:=hr74
 cases hB
 have hst:=Y6.start (decide (v15=0)) k18 (root:=⟨2,kt2⟩) ⟨(by decide:(1:Int)≤2),(by decide:(2:Int)≤2)⟩ ks2.ok (by rw [ks2.X5,ks.X5]) (by rw [ks2.boxes,ks.boxes]) (n:=v74) (by omega) (by omega)
 obtain⟨mB,mP,mT,me,hS,hH,hF0,hser⟩:=hst
 refine⟨[],_,a8,?_⟩
 refine⟨_,fun H=>j5.p8 hG (as3 (b7T _ _ _) me) (.cons (.t a8) (.cons (.t a8) (.cons (.t a8) .nil))) a8,?_⟩
 refine⟨_,fun H=>j5.move (.t a8) a8,?_⟩
 refine⟨_,fun H=>j5.L7 (.t a8) a8,?_⟩
 refine⟨_,fun H=>j5.L8 (.t a8) a8,?_⟩
 refine⟨_,fun H=>j5.L9 (.t a8) a8,?_⟩
 refine⟨⟨j1 [c8,c8,c8,c8,c8,_],a8⟩,fun Ys11 => ?_⟩
 refine B3.Z0 (fun y x => { x with A:=y }) A6 (.t rfl) (.t rfl) (y4.app (y4.app .z3)) (fun _ _=>rfl) ?_
 refine⟨[],_,a8,?_⟩
 refine⟨⟨j1 [c8,c8,c8,_,c8,_],a8⟩,fun Ys11 => ?_⟩
 refine B3.Z0 (fun y x => { x with Pass:=y }) R2 (.t rfl) (.t rfl) (y4.app (y4.app .z3)) (fun _ _=>rfl) ?_
 refine⟨[],_,a8,?_⟩
 refine⟨⟨j1 [c8,c8,c8,_,c8,_],a8⟩,fun ws11 => ?_⟩
 refine⟨⟨j1 [c8,c8,c8,_,c8,_],a8⟩,fun _ => ?_⟩
 show D1 _ _ _ _ _ [] ((80,_)::(79,_)::(78,_)::(77,_)::(76,_)::(65,_)::(75,_)::(74,_)::(73,_)::(72,_)::(71,_)::(70,_)::(69,_)::(68,_)::(67,_)::(66,_)::_) _
 have hrq:U8 (⟨v60,v62⟩:Rq)=true:=(by unfold U8;simp;omega)
 refine .q 5 hG ?_
 refine .km hG (F6 _ _ _ (by first|assumption|exact y3 _) (by first|omega|(simp;done)|(simp;omega)|(simp at *;omega)) (by first|omega|(simp;done)|(simp;omega)|(simp at *;omega))) .z5 (by rintro _ _ ⟨_,_,_,_,_,_,rfl⟩;exact⟨_,rfl⟩) fun r82 B82 hr82 => ?_
 obtain⟨v82,d82,h082,h182,hd82,rfl,hB⟩:=hr82
 cases hB
 refine .q 3 hG ?_
 refine .E1 (α:=Nat×Scn×Value×o0) [(0,_),(1,_),(4,_),(5,_)] (fun x R=>(8,.v (x.1:Int))::R) (fun x => [(true,.ob (ptr b7 0) kt2),(true,.ob (ptr b6 0) kt),(true,.own 123 x.2.2.1 x.2.1.K8),(true,.ob (ptr b5 0) (b8t x.2.1 x.2.2.1)),(true,.ob (ptr b4 0) (default:Scn)),(false,.ob w x.2.2.2)]) (fun x=>x.1≤5∧H9 x.2.2.2∧a6Z x.2.1.A ⟨2,kt2⟩ x.2.1.Pass x.2.1.K8 (5 - x.1)∧x.2.1.Ring=a1C ⟨2,kt2⟩ 3∧x.2.1.C=⟨v47,kt,[⟨b3F,-v50*365*1440⟩,⟨⟨[98,111,98]⟩,0⟩]⟩∧x.2.1.Request=⟨v60,v62⟩∧x.2.1.A7=b3F∧x.2.1.Minute=v44) (fun x=>x.1) ((v82.toNat,⟨mB,⟨[⟨2,kt2⟩],3⟩,⟨v47,kt,[⟨b3F,-v50*365*1440⟩,⟨⟨[98,111,98]⟩,0⟩]⟩,mP,[],⟨v60,v62⟩,b3F,v44⟩,.slice none 0 0,d82)) (.c2 a8 a8 (.c2 a8 a8 (.nil _))) ?_ (.cons (congrArg (fun q=>some (AV.v q)) (by dsimp only;omega)) (.c2 a8 a8 (.c2 a8 a8 (.nil _)))) (a8) fun x hF => ?_
 ·exact⟨by dsimp only;omega,by assumption,⟨⟨mT,4,hS.wide (Nat.le_refl _) (Nat.zero_le _),by omega⟩,hH⟩,rfl,rfl,rfl,rfl,rfl⟩
 obtain⟨i,s,gu,e⟩:=x
 obtain⟨f1,f2,f3,f4,f5,f6,f7,f8⟩:=hF
 dsimp only at f1 f2 f3 f4 f5 f6 f7 f8 ⊢
 refine .q 2 hG ?_
 have hcv:s.Pass.l9.length≤5:=(by obtain⟨T,n,hs,hn⟩:=f3.ex;have:=hs.a5k;omega)
 refine .q 5 hG ⟨fun hc84 => ?_,fun hc84 => ?_⟩
 ·refine .q 7 hG ?_
  refine .km hG (F6 _ _ _ (by first|assumption|exact y3 _) (by first|omega|(simp;done)|(simp;omega)|(simp at *;omega)) (by first|omega|(simp;done)|(simp;omega)|(simp at *;omega))) .z5 (by rintro _ _ ⟨_,_,_,_,_,_,rfl⟩;exact⟨_,rfl⟩) fun r88 B88 hr88 => ?_
  obtain⟨v88,d88,h088,h188,hd88,rfl,hB⟩:=hr88
  cases hB
  refine .q 3 hG ⟨fun hc89 => ?_,fun hc89 => ?_⟩
  ·refine .q 3 hG ?_
   refine .km hG (W8 _ _ _ (by assumption)) .z5 (by rintro _ _ ⟨_,_,_,_,_,_,rfl⟩;exact⟨_,rfl⟩) fun r91 B91 hr91 => ?_
   obtain⟨p91,hp91,hk91,d91,hd91,rfl,hB⟩:=hr91
   cases hB
   refine .bs a8 (by decide) fun b92 => ?_
   refine .q 7 hG ?_
   refine .cond (.t a8) (fun hc93 => ?_) (fun hc93 => ?_)
   ·refine .q 1 hG ?_
    refine .mv a8 (.p (.A9 j4.l6 b2E a8 (.t a8) (.p (.S1 (fun x=>x.A7) ty9 (.t a8) .z4 (fun _=>a8) ?_))))
    refine .km hG (b1A _ _ _ s.A7 (by assumption) (by decide) (by decide) (by rw [f7];decide)) .z6 (by rintro _ _ ⟨_,_,_,_,_,_,rfl⟩;exact⟨_,rfl⟩) fun r97 B97 hr97 => ?_
    obtain⟨l97,hl97,hp97,d97,hd97,rfl,hB⟩:=hr97
    cases hB
    refine .q 3 hG ?_
    refine .drop ?_
    have hna:=a86 f3 (by omega) (l:=l97) (by omega) hp97
    obtain⟨nB,nQ,ne,nS⟩:=hna
    refine .q 1 hG ?_
    refine .p (.A9 j4.l0 P0 a8 (.t a8) (.p (.S1 (fun x=>x.A) A6 (.t a8) .z3 (fun _=>a8) (.p (.A9 j4.l3 a3Q a8 (.t a8) (.p (.S1 (fun x=>x.Pass) R2 (.t a8) .z3 (fun _=>a8) (.mv a8 (.p (.p8 hG (as3 (b1G _ _ _ (by(try simp);omega)) ne) (.cons (.t a8) (.cons (.t a8) (.cons (.t a8) .nil))) (.mv a8 (.p (.L7 (.t a8) (.p (.L8 (.t a8) (.p (.L9 (.t a8) (.p (.A9 j4.l0 P0 a8 (.t a8) (.n (.Z0 (fun y x => { x with A:=y }) A6 (.t a8) (.t a8) .z3 (fun _ _=>a8) (.p (.A9 j4.l3 a3Q a8 (.t a8) (.n (.Z0 (fun y x => { x with Pass:=y }) R2 (.t a8) (.t a8) .z3 (fun _ _=>a8) ?_)))))))))))))))))))))))))
    have hsc:a6Z nB ⟨2,kt2⟩ nQ s.K8 (5 - (i - 1)):=(by rw [show 5 - (i - 1)=5 - i+1 by omega];exact nS)
    refine .q 4 hG ?_
    refine .sb (by first|omega|(simp;done)|(simp;omega)|(simp at *;omega)) (by first|omega|(simp;done)|(simp;omega)|(simp at *;omega)) ?_
    refine .q 2 hG ?_
    refine⟨(i - 1,⟨nB,s.Ring,s.C,nQ,s.K8,s.Request,s.A7,s.Minute⟩,gu,_),.cons (congrArg (fun q=>some (AV.v q)) (by dsimp only;omega)) (.c2 rfl rfl (.c2 rfl rfl (.nil _))),rfl,?_,by dsimp only;omega⟩
    exact⟨by dsimp only;omega,by assumption,hsc,f4,f5,f6,f7,f8⟩
   ·refine .q 2 hG ?_
    refine .y0 hC .z (.as 9 a8 .z (.drop ?_))
    have hna:=a86 f3 (by omega) (l := [p91]) (Nat.le_refl 1) (by simpa using hp91)
    obtain⟨nB,nQ,ne,nS⟩:=hna
    refine .q 1 hG ?_
    refine .p (.A9 j4.l0 P0 a8 (.t a8) (.p (.S1 (fun x=>x.A) A6 (.t a8) .z3 (fun _=>a8) (.p (.A9 j4.l3 a3Q a8 (.t a8) (.p (.S1 (fun x=>x.Pass) R2 (.t a8) .z3 (fun _=>a8) (.mv a8 (.p (.p8 hG (as3 (b1G _ _ _ (by(try simp);omega)) ne) (.cons (.t a8) (.cons (.t a8) (.cons (.t a8) .nil))) (.mv a8 (.p (.L7 (.t a8) (.p (.L8 (.t a8) (.p (.L9 (.t a8) (.p (.A9 j4.l0 P0 a8 (.t a8) (.n (.Z0 (fun y x => { x with A:=y }) A6 (.t a8) (.t a8) .z3 (fun _ _=>a8) (.p (.A9 j4.l3 a3Q a8 (.t a8) (.n (.Z0 (fun y x => { x with Pass:=y }) R2 (.t a8) (.t a8) .z3 (fun _ _=>a8) ?_)))))))))))))))))))))))))
    have hsc:a6Z nB ⟨2,kt2⟩ nQ s.K8 (5 - (i - 1)):=(by rw [show 5 - (i - 1)=5 - i+1 by omega];exact nS)
    refine .q 4 hG ?_
    refine .sb (by first|omega|(simp;done)|(simp;omega)|(simp at *;omega)) (by first|omega|(simp;done)|(simp;omega)|(simp at *;omega)) ?_
    refine .q 2 hG ?_
    refine⟨(i - 1,⟨nB,s.Ring,s.C,nQ,s.K8,s.Request,s.A7,s.Minute⟩,gu,_),.cons (congrArg (fun q=>some (AV.v q)) (by dsimp only;omega)) (.c2 rfl rfl (.c2 rfl rfl (.nil _))),rfl,?_,by dsimp only;omega⟩
    exact⟨by dsimp only;omega,by assumption,hsc,f4,f5,f6,f7,f8⟩
  ·refine .q 2 hG ?_
   obtain⟨T,n,hs,hn⟩:=f3.ex
   have hco:=hs.c4O (by omega) (by omega) f3.b4J (c:=s.C) (by rw [f5];exact h047) (by rw [f5];show v47≤7;omega) s.A7 (by rw [f7];decide)
   obtain⟨A1,bl,e1,ok1,A2,P2,e2,ho,ok2,hbt,A3,g,U,e3,hs3,hh3,hfr3,hgc⟩:=hco
   refine .q 2 hG fun b10 => ?_
   refine .q 3 hG ?_
   refine .p (.A9 j4.l0 P0 a8 (.t a8) (.p (.S1 (fun x=>x.A) A6 (.t a8) .z4 (fun _=>a8) (.p (.A9 j4.l2 b2C a8 (.t a8) (.p (.S1 (fun x=>x.C) b7p (.t a8) .z4 (fun _=>a8) (.p (.bS1 B0.l1 a8 b1f c24 (fun c1=>(⟨0,c1⟩:B0)) (fun _=>a8) a8 a8 (.i a8) (.p (.p8 hG (as3 (c0s _ _ _ hs.ok.a5f hs.ok.c1d) e1) (.cons (.t a8) (.cons (.t a8) (.cons (.t a8) .nil))) (.mv a8 (.p (.L7 (.t a8) (.p (.L8 (.t a8) (.p (.L9 (.t a8) (.p (.A9 j4.l0 P0 a8 (.t a8) (.n (.Z0 (fun y x => { x with A:=y }) A6 (.t a8) (.t a8) .z4 (fun _ _=>a8) (.n (.P7 a2U (.t a8) (.t a8) .z ?_))))))))))))))))))))))))
   refine .q 3 hG ?_
   refine .p (.A9 j4.l0 P0 a8 (.t a8) (.p (.S1 (fun x=>x.A) A6 (.t a8) .z4 (fun _=>a8) (.p (.A9 j4.l3 a3Q a8 (.t a8) (.p (.S1 (fun x=>x.Pass) R2 (.t a8) .z4 (fun _=>a8) (.p (.Q6 a2U (.t a8) .z (.p (.p8 hG (as3 (c3F _ _ _ (by(try dsimp only);omega) ok1.c1d (by omega)) e2) (.cons (.t a8) (.cons (.t a8) (.cons (.t a8) .nil))) (.mv a8 (.p (.L7 (.t a8) (.p (.L8 (.t a8) (.p (.L9 (.t a8) (.p (.A9 j4.l0 P0 a8 (.t a8) (.n (.Z0 (fun y x => { x with A:=y }) A6 (.t a8) (.t a8) .z4 (fun _ _=>a8) (.p (.A9 j4.l3 a3Q a8 (.t a8) (.n (.Z0 (fun y x => { x with Pass:=y }) R2 (.t a8) (.t a8) .z4 (fun _ _=>a8) ?_))))))))))))))))))))))))))
   refine .q 3 hG ?_
   refine .h (.alloc P9 fun b11 => ?_)
   refine .q 3 hG ?_
   refine .p (.A9 j4.l0 P0 a8 (.t a8) (.p (.S1 (fun x=>x.A) A6 (.t a8) .z5 (fun _=>a8) (.p (.A9 j4.l2 b2C a8 (.t a8) (.p (.S1 (fun x=>x.C) b7p (.t a8) .z5 (fun _=>a8) (.p (.A9 C3.l2 a9A a8 (.t a8) (.p (.S1 (fun x=>x.p7) a3J (.t a8) .z1 (fun _=>a8) (.p (.A9 j4.l6 b2E a8 (.t a8) (.p (.S1 (fun x=>x.A7) ty9 (.t a8) .z5 (fun _=>a8) (.p (.A9 j4.l7 b6F a8 (.t a8) (.p (.S1 (fun x=>x.Minute) I6 (.t a8) .z5 (fun _=>a8) (.p (.p8 hG (as3 (c0r _ _ _ s.A7 s.Minute bl.Key ok2.b9U ho (by rw [f7];decide) (by rw [f8];omega) (by rw [f8];omega) (by rw [f5,f7];rfl) (by omega)) e3) (.cons (.t a8) (.cons (.t a8) (.cons (.t a8) (.cons (.t a8) (.cons (.t a8) .nil))))) (.mv a8 (.p (.L7 (.t a8) (.p (.L8 (.t a8) (.p (.L9 (.t a8) (.p (.A9 j4.l0 P0 a8 (.t a8) (.n (.Z0 (fun y x => { x with A:=y }) A6 (.t a8) (.t a8) .z5 (fun _ _=>a8) (.n (.P7 P9 (.t a8) (.t a8) .z ?_))))))))))))))))))))))))))))))))))
   refine .q 4 hG ?_
   refine .mv a8 ?_
   refine .km hG (F6 _ _ _ (by first|assumption|exact y3 _) (by first|omega|(simp;done)|(simp;omega)|(simp at *;omega)) (by first|omega|(simp;done)|(simp;omega)|(simp at *;omega))) .z7 (by rintro _ _ ⟨_,_,_,_,_,_,rfl⟩;exact⟨_,rfl⟩) fun r150 B150 hr150 => ?_
   obtain⟨v150,d150,h0150,h1150,hd150,rfl,hB⟩:=hr150
   cases hB
   refine .q 3 hG ?_
   refine .E1 (α:=Nat×D6×Dis×o0) [(0,_),(1,_),(4,_),(5,_),(8,_),(11,_)] (fun y R=>(12,.v (y.1:Int))::R) (fun y => [(true,.ob (ptr b11 0) y.2.2.1),(true,.ob (ptr b10 0) bl),(true,.ob (ptr b7 0) kt2),(true,.ob (ptr b6 0) kt),(true,.own 123 gu s.K8),(true,.ob (ptr b5 0) (b8t ⟨y.2.1,s.Ring,s.C,P2,s.K8,s.Request,s.A7,s.Minute⟩ gu)),(true,.ob (ptr b4 0) (default:Scn)),(false,.ob w y.2.2.2)]) (fun y=>y.1≤2∧H9 y.2.2.2∧(∃ T n,Y6 y.2.1 ⟨2,kt2⟩ P2 (s.K8 ++ [y.2.2.1]) T n (5 - i+1)∧n+y.1≤4+10*(5 - i+1))∧a2Y y.2.1∧y.2.2.1.j9.length+y.1≤3) (fun y=>y.1) ((v150.toNat,A3,g,d150)) (.c2 a8 a8 (.c2 a8 a8 (.c2 a8 a8 (.nil _)))) ?_ (.cons (congrArg (fun q=>some (AV.v q)) (by dsimp only;omega)) (.c2 a8 a8 (.c2 a8 a8 (.c2 a8 a8 (.nil _))))) (a8) fun y hF => ?_
   ·exact⟨by dsimp only;omega,by assumption,⟨U,n+8,hs3,by dsimp only;omega⟩,hh3,by dsimp only;omega⟩
   obtain⟨j,A4,g4,e4⟩:=y
   obtain⟨q1,q2,q3,q4,q5⟩:=hF
   dsimp only at q1 q2 q3 q4 q5 ⊢
   refine .q 7 hG ⟨fun hc152 => ?_,fun hc152 => ?_⟩
   ·refine .q 6 hG ?_
    refine .km hG (W8 _ _ _ (by assumption)) .z7 (by rintro _ _ ⟨_,_,_,_,_,_,rfl⟩;exact⟨_,rfl⟩) fun r156 B156 hr156 => ?_
    obtain⟨p156,hp156,hk156,d156,hd156,rfl,hB⟩:=hr156
    cases hB
    refine .q 1 hG fun b13 => ?_
    refine .q 7 hG ?_
    refine .cond (.t a8) (fun hc157 => ?_) (fun hc157 => ?_)
    ·refine .q 1 hG ?_
     refine .p (.bS3 j2.l0 j2.l2 j2.l3 a8 R3 a5z (fun c0 c2 c3=>(⟨c0,0,c2,c3,⟨[]⟩,0⟩:j2)) (fun _ _ _=>a8) a8 a8 a8 a8 (.i a8) (.i a8) (.i a8) ?_)
     refine .q 2 hG ?_
     obtain⟨T4,n4,hs4,hn4⟩:=q3
     have hre:=hs4.restrict (by omega) q4 (p:=⟨4,0,0,3000,⟨[]⟩,0⟩) (by decide) (by decide) (by omega)
     obtain⟨rB,rd,re,rs,rh,rf,rc⟩:=hre
     refine .q 1 hG ?_
     refine .p (.A9 j4.l0 P0 a8 (.t a8) (.p (.S1 (fun x=>x.A) A6 (.t a8) .z6 (fun _=>a8) (.p (.Q6 P9 (.t a8) .z1 (.p (.Q6 R3 (.t a8) .z (.p (.p8 hG (as3 (a5m _ _ _ (by omega)) re) (.cons (.t a8) (.cons (.t a8) (.cons (.t a8) .nil))) (.mv a8 (.p (.L7 (.t a8) (.p (.L8 (.t a8) (.p (.L9 (.t a8) (.p (.A9 j4.l0 P0 a8 (.t a8) (.n (.Z0 (fun y x => { x with A:=y }) A6 (.t a8) (.t a8) .z6 (fun _ _=>a8) (.n (.P7 P9 (.t a8) (.t a8) .z1 (.drop ?_)))))))))))))))))))))))
     refine .q 3 hG ?_
     refine .sb (by first|omega|(simp;done)|(simp;omega)|(simp at *;omega)) (by first|omega|(simp;done)|(simp;omega)|(simp at *;omega)) ?_
     refine .q 2 hG ?_
     refine⟨(j - 1,rB,rd,_),.cons (congrArg (fun q=>some (AV.v q)) (by dsimp only;omega)) (.c2 rfl rfl (.c2 rfl rfl (.c2 rfl rfl (.nil _)))),rfl,?_,by dsimp only;omega⟩
     exact⟨by dsimp only;omega,by assumption,⟨T4,n4+1,rs,by dsimp only;omega⟩,rh,by dsimp only;omega⟩
    ·refine .q 1 hG ?_
     obtain⟨T4,n4,hs4,hn4⟩:=q3
     have hre:=hs4.restrict (by omega) q4 (p:=p156) hp156 (hk156 rfl) (by omega)
     obtain⟨rB,rd,re,rs,rh,rf,rc⟩:=hre
     refine .q 1 hG ?_
     refine .p (.A9 j4.l0 P0 a8 (.t a8) (.p (.S1 (fun x=>x.A) A6 (.t a8) .z6 (fun _=>a8) (.p (.Q6 P9 (.t a8) .z1 (.p (.Q6 R3 (.t a8) .z (.p (.p8 hG (as3 (a5m _ _ _ (by omega)) re) (.cons (.t a8) (.cons (.t a8) (.cons (.t a8) .nil))) (.mv a8 (.p (.L7 (.t a8) (.p (.L8 (.t a8) (.p (.L9 (.t a8) (.p (.A9 j4.l0 P0 a8 (.t a8) (.n (.Z0 (fun y x => { x with A:=y }) A6 (.t a8) (.t a8) .z6 (fun _ _=>a8) (.n (.P7 P9 (.t a8) (.t a8) .z1 (.drop ?_)))))))))))))))))))))))
     refine .q 3 hG ?_
     refine .sb (by first|omega|(simp;done)|(simp;omega)|(simp at *;omega)) (by first|omega|(simp;done)|(simp;omega)|(simp at *;omega)) ?_
     refine .q 2 hG ?_
     refine⟨(j - 1,rB,rd,_),.cons (congrArg (fun q=>some (AV.v q)) (by dsimp only;omega)) (.c2 rfl rfl (.c2 rfl rfl (.c2 rfl rfl (.nil _)))),rfl,?_,by dsimp only;omega⟩
     exact⟨by dsimp only;omega,by assumption,⟨T4,n4+1,rs,by dsimp only;omega⟩,rh,by dsimp only;omega⟩
   ·refine .q 1 hG ?_
    obtain⟨T4,n4,hs4,hn4⟩:=q3
    have hgl:s.K8.length≤6:=(by have:=hs4.ngr;rw [List.length_append] at this;omega)
    have hsc:a6Z A4 ⟨2,kt2⟩ P2 (s.K8 ++ [g4]) (5 - (i - 1)):=(by rw [show 5 - (i - 1)=5 - i+1 by omega];exact⟨⟨T4,n4,hs4,by omega⟩,q4⟩)
    refine .q 1 hG ?_
    refine .p (.A9 j4.l4 b2D a8 (.t a8) (.p (.ldR (fun x=>x.K8) c1k (.t a8) .z5 (fun _=>a8) ?_)))
    refine .q 1 hG ?_
    refine .bs a8 (by decide) fun b172 => .h (.append c4G (.inl ⟨_,underlying38⟩) a8 .z5 (.own a8 .z) (by first|omega|(simp;done)|(simp;omega)|(simp at *;omega)) (by first|omega|(simp;done)|(simp;omega)|(simp at *;omega)) (fun w173 => .p (.A9 j4.l4 b2D a8 (.t a8) (.n (.Z0 (fun y x => { x with K8:=y }) c1k (.t a8) (.b9E a8 .z5) .z6 (fun _ _=>a8) ?_)))) a8)
    refine .drop (.drop (.drop ?_))
    refine .q 3 hG ?_
    refine .sb (by first|omega|(simp;done)|(simp;omega)|(simp at *;omega)) (by first|omega|(simp;done)|(simp;omega)|(simp at *;omega)) ?_
    refine .q 2 hG ?_
    refine⟨(i - 1,⟨A4,s.Ring,s.C,P2,s.K8 ++ [g4],s.Request,s.A7,s.Minute⟩,w173,_),.cons (congrArg (fun q=>some (AV.v q)) (by dsimp only;omega)) (.c2 rfl rfl (.c2 rfl rfl (.nil _))),rfl,?_,by dsimp only;omega⟩
    exact⟨by dsimp only;omega,by assumption,hsc,f4,f5,f6,f7,f8⟩
 ·refine .q 2 hG ?_
  refine .y0 hC .z2 (.b5P .z3 (fun n0 I L hr cs hc=>b5R hc (y4.fz .z2 hr)) (.conv 5 (.ln (ptr b5 0) (j6.id (α:=Scn))) a8 (fun _ _ _ _ _ h=>h) ?_))
  refine .q 5 hG ?_
  refine⟨_,.r1 a8 (.cell b7q a8 .z4),?_⟩
  exact⟨5,s,⟨2,kt2⟩,5 - i,⟨f3,by omega,rfl,f4,by rw [f6];exact hrq,f7⟩,_,f2,rfl,rfl⟩
structure x9 where
 Request:u7
 D4:Int
 C2:Int
 l9:S3
 Proof:(K5 32 UInt8)
 j3:S3
def x9.f (x:x9):u7×Int×Int×S3×(K5 32 UInt8)×S3×Unit:=(x.Request,x.D4,x.C2,x.l9,x.Proof,x.j3,())
instance:Inhabited x9:=⟨⟨default,default,default,default,default,default⟩⟩
instance:p2 x9:=p2.via x9.f
instance:G4 x9:=G4.via x9.f rfl
def x9.l0:j6 x9 u7:=j6.via x9.f j6.fst (fun x=>x.Request) (fun y x => { x with Request:=y }) (fun _=>rfl) (fun _ _=>rfl)
def x9.l1:j6 x9 Int:=j6.via x9.f (j6.snd.comp j6.fst) (fun x=>x.D4) (fun y x => { x with D4:=y }) (fun _=>rfl) (fun _ _=>rfl)
def x9.l2:j6 x9 Int:=j6.via x9.f (j6.snd.comp (j6.snd.comp j6.fst)) (fun x=>x.C2) (fun y x => { x with C2:=y }) (fun _=>rfl) (fun _ _=>rfl)
def x9.l3:j6 x9 S3:=j6.via x9.f (j6.snd.comp (j6.snd.comp (j6.snd.comp j6.fst))) (fun x=>x.l9) (fun y x => { x with l9:=y }) (fun _=>rfl) (fun _ _=>rfl)
def x9.l4:j6 x9 (K5 32 UInt8):=j6.via x9.f (j6.snd.comp (j6.snd.comp (j6.snd.comp (j6.snd.comp j6.fst)))) (fun x=>x.Proof) (fun y x => { x with Proof:=y }) (fun _=>rfl) (fun _ _=>rfl)
def x9.l5:j6 x9 S3:=j6.via x9.f (j6.snd.comp (j6.snd.comp (j6.snd.comp (j6.snd.comp (j6.snd.comp j6.fst))))) (fun x=>x.j3) (fun y x => { x with j3:=y }) (fun _=>rfl) (fun _ _=>rfl)
theorem b8v:F1 prog 43 S3 := .ok (by kernel_rfl)
theorem b4K:F1 prog 45 x9 := .ok (by kernel_rfl)
def b4L (b:Z7) (uc ud:Value):x9:=⟨b.Request,b.D4,b.C2,⟨uc⟩,b.Proof,⟨ud⟩⟩
theorem a88 {b:Z7} {uc ud:Value} {I:Im} {cs:List Value} (h:p2.rep I (b4L b uc ud) cs) (hc:F8 I (.v b.l9) uc) (hd:F8 I (.v b.j3) ud):p2.rep I b cs:=by
 obtain⟨c1,r1,rfl,h1,c2,r2,rfl,h2,c3,r3,rfl,h3,c4,r4,rfl,⟨rfl,_⟩,c5,r5,rfl,h5,c6,r6,rfl,⟨rfl,_⟩,h6⟩:=h
 obtain⟨_,⟨v,rfl,h7⟩,rfl⟩:=hc
 obtain⟨_,⟨v',rfl,h8⟩,rfl⟩:=hd
 exact⟨c1,_,a8,h1,c2,_,a8,h2,c3,_,a8,h3,_,_,a8,⟨_,a8,h7⟩,c5,_,a8,h5,_,_,a8,⟨_,a8,h8⟩,h6⟩
theorem c0u {b:Z7} {uc ud:Value} {I:Im} {u:Value} (h:F8 I (.v (b4L b uc ud)) u) (hc:F8 I (.v b.l9) uc) (hd:F8 I (.v b.j3) ud):F8 I (.v b) u:=by
 obtain⟨cs,h1,h2⟩:=h
 exact⟨cs,a88 h1 hc hd,h2⟩
theorem a3A {α β γ:Type} [Inhabited β] [Inhabited γ] (r:D6×α×Int) (f:D6→α→D6×β×Int) (g:D6→β→D6×γ×Int):a0h (a0h r f) g=a0h r fun b x=>a0h (f b x) g:=by
 by_cases h:r.2.2=0
 ·rw [E9 h,E9 h]
 ·rw [O1 h,O1 h,O1 (r:=(default,default,r.2.2)) h]
theorem a8a (leaf:Tag) (r:Rq) (d:Dis):∀ (l:List Dis) (a:D6),a2b leaf r a (l ++ [d])=a0h (a2b leaf r a l) fun b y=>a0h (a2a b d leaf r) fun c x=>(c,y ++ [x],0)
 | [],a=>by
  rw [show a2b leaf r a []=(a,[],0) from rfl,E9 (r:=(a,([]:List Bnd),(0:Int))) rfl];rfl
 | e::l,a=>by
  show a0h (a2a a e leaf r) (fun b x=>a0h (a2b leaf r b (l ++ [d])) fun c y=>(c,x::y,0))=a0h (a0h (a2a a e leaf r) fun b x=>a0h (a2b leaf r b l) fun c y=>(c,x::y,0)) _
  rw [a3A]
  refine congrArg _ (funext fun b=>funext fun x => ?_)
  rw [a8a leaf r d l,a3A,a3A]
  refine congrArg _ (funext fun c=>funext fun y => ?_)
  rw [E9 (r:=(c,x::y,(0:Int))) rfl,a3A];rfl
structure a5S (leaf:Tag) (r:Rq) (a:D6) (l:List Dis):Prop where
 ok:∀ i,i≤l.length→(a2b leaf r a (l.take i)).2.2=0
def bA (leaf:Tag) (r:Rq) (a:D6) (l:List Dis) (i:Nat):D6:=(a2b leaf r a (l.take i)).1
def bY (leaf:Tag) (r:Rq) (a:D6) (l:List Dis) (i:Nat):List Bnd:=(a2b leaf r a (l.take i)).2.1
theorem a5S.step {leaf:Tag} {r:Rq} {a:D6} {l:List Dis} (h:a5S leaf r a l) {i:Nat} (hi:i < l.length):∃ y,a2a (bA leaf r a l i) l[i] leaf r=(bA leaf r a l (i+1),y,0)∧bY leaf r a l (i+1)=bY leaf r a l i ++ [y]:=by
 have h1:=h.ok i (by omega)
 have h2:=h.ok (i+1) hi
 unfold bA bY
 rw [List.take_succ_eq_append_getElem hi,a8a,E9 h1] at h2 ⊢
 by_cases h3:(a2a (a2b leaf r a (l.take i)).1 l[i] leaf r).2.2=0
 ·rw [E9 h3]
  exact⟨_,Prod.ext a8 (Prod.ext a8 h3),a8⟩
 ·rw [O1 h3] at h2;exact absurd h2 h3
theorem b8w {leaf:Tag} {r:Rq} {a:D6} {l:List Dis} (h:a5S leaf r a l):∀ i,i≤l.length→(bY leaf r a l i).length=i
 | 0,_=>rfl
 | i+1,hi=>by
  obtain⟨y,_,e⟩:=h.step (show i < l.length by omega)
  rw [e,List.length_append,b8w h i (by omega)];rfl
abbrev bd0 (d:Dis):Bnd:=⟨d.p7,d.j9,default⟩
theorem c0v {α β:Type} (f:α→β) (l:List α) (k:Nat) (h:k < l.length):(l.take k).map f ++ [f l[k]]=(l.take (k+1)).map f:=by
 rw [List.take_succ_eq_append_getElem h,List.map_append];rfl
theorem b8x {Y:List Bnd} {l:List Dis} {i:Nat} (y:Bnd) (hY:Y.length=i) (h:i < l.length):(Y++(l.drop i).map bd0).set i y=(Y ++ [y])++(l.drop (i+1)).map bd0:=by
 rw [List.drop_eq_getElem_cons h,List.map_cons,List.set_append_right _ _ (by omega),show i - Y.length=0 by omega,List.set_cons_zero,List.append_assoc];rfl
theorem b5T (a : D6) (p : Pass) (l : List Dis) (r : Rq) (hl : p.l9.length ≤ 1000000) (hl2 : l.length ≤ 1000000) {b : D6} {t : Tag} (h0 : M1 (b7N p l r) = 0) (h1 : G6 a p.Tag (a2W r) = (b, t, 0)) (h2 : a5S p.Tag r b l) (hr : U8 r = true) :
    p6 gl prog 32 [.v a,.v p,.v l,.v r] (fun x=>x = .t3 (.v (bA p.Tag r b l l.length)) (.v (⟨r,p.D4,p.C2,p.l9,t,bY p.Tag r b l l.length⟩:Z7)) (.v (0:Int))):=by
  refine p6.jn func32 (by kernel_rfl) 101 rfl fun C hC hG => ?_
  refine .q 3 hG fun b4 => ?_
  refine .q 1 hG fun b5 => ?_
  refine .q 1 hG fun b7 => ?_
  refine .q 1 hG fun b8 => ?_
  refine .q 1 hG fun b9 => ?_
  refine .q 11 hG ?_
  refine .name 23 a8 fun w23=>(.p (.bS4 x9.l0 x9.l1 x9.l2 x9.l3 a8 b4K c4f (fun c0 c1 c2 c3=>(⟨c0,c1,c2,c3,default,default⟩:x9)) (fun _ _ _ _=>a8) a8 a8 a8 a8 a8 (.t a8) (.t a8) (.t a8) (.vR a8 .z) (.h (.alloc b4K fun b11 => .n (.P7 b4K (.t a8) (.t a8) .z (.a0Q 66 Bnd ?_))))))
  refine .q 3 hG ?_
  refine .X3 2 a8 fun hl2' => ?_
  refine .q 4 hG ?_
  refine .E1 (α:=Nat×Value) [(2,_),(4,_),(5,_),(7,_),(8,_),(9,_),(11,_)] (fun x R=>(12,.v (x.1:Int))::R) (fun x => [(true,.own 66 x.2 ((l.take x.1).map bd0)),(true,.ob (ptr b11 0) (b4L ⟨r,p.D4,p.C2,p.l9,default,[]⟩ w23 x.2)),(true,.fz w23 (.v p.l9)),(true,.ob (ptr b9 0) (default:Z7)),(true,.ob (ptr b8 0) (default:D6)),(true,.ob (ptr b7 0) r),(true,.ob (ptr b5 0) p),(true,.ob (ptr b4 0) a)]) (fun x=>x.1≤l.length) (fun x=>l.length - x.1) ((0,.slice none 0 0)) (.c2 a8 a8 (.c2 a8 a8 (.c2 a8 a8 (.cons a8 (.nil _))))) ?_ (.c2 a8 a8 (.c2 a8 a8 (.c2 a8 a8 (.c2 a8 a8 (.nil _))))) (a8) fun x hF => ?_
  · simp
  obtain⟨i,gu⟩:=x
  dsimp only at hF ⊢
  refine .q 9 hG ⟨fun hc28 => ?_,fun hc28 => ?_⟩
  · refine .q 3 hG ?_
    refine .F3 [c9,j0,j0,j0,j0,j0,j0,j0] (by kernel_rfl) 16 [[],[(31,0)],[],[],[(33,2),(34,3)],[(35,4)],[(36,5)],[],[],[(38,7),(39,8)],[(40,9)],[(41,10)],[(37,6),(42,11)],[(43,12)],[(32,1),(44,13)],[]] [1,14] a8 (by kernel_rfl) a8 (by kernel_rfl) (by decide) ?_
    refine⟨_,fun H=>j5.A9 x9.l5 a6c a8 (.t a8) a8,?_⟩
    refine .inl ?_
    refine⟨_,fun H=>j5.move (.t a8) a8,?_⟩
    refine⟨_,fun H=>j5.move (.t a8) a8,?_⟩
    refine⟨_,fun H=>j5.idx P9 underlying38 (.t a8) (.t a8) (by first|omega|(simp;done)|(simp;omega)|(simp at *;omega)) (by first|omega|(simp;done)|(simp;omega)|(simp at *;omega)) a8,?_⟩
    refine⟨_,fun H=>j5.y9 p5.l0 (fun x=>x.p7) b3Z a8 (fun _=>a8) (.t a8) a8,?_⟩
    refine⟨_,fun H=>j5.G8 a3J (.t a8) a8,?_⟩
    refine⟨_,fun H=>j5.move (.t a8) a8,?_⟩
    refine⟨_,fun H=>j5.move (.t a8) a8,?_⟩
    refine⟨_,fun H=>j5.idx P9 underlying38 (.t a8) (.t a8) (by first|omega|(simp;done)|(simp;omega)|(simp at *;omega)) (by first|omega|(simp;done)|(simp;omega)|(simp at *;omega)) a8,?_⟩
    refine⟨_,fun H=>j5.y9 p5.l1 (fun x=>x.j9) a5A a8 (fun _=>a8) (.t a8) a8,?_⟩
    refine⟨_,fun H=>j5.G8 b1c (.t a8) a8,?_⟩
    refine⟨_,fun H=>j5.bS2 x6.l0 x6.l1 a8 a4D b9a (fun c0 c1=>(⟨c0,c1,default⟩:x6)) (fun _ _=>a8) a8 a8 a8 (.t a8) (.t a8) a8,?_⟩
    refine⟨_,fun H=>j5.G1 (α:=x6) a4D underlying43 (.cons (.t a8) .nil) a8 (by decide) a8,?_⟩
    refine .inl ?_
    refine⟨_,fun H=>j5.A9 x9.l5 a6c a8 (.t a8) a8,?_⟩
    refine⟨⟨([],j1 [_,c8,c8,c8,c8,c8,c8,c8]),a8⟩,?_⟩
    refine B3.ofP (j5.ldR (fun x=>x.j3) b8v (.t rfl) .z1 (fun _=>rfl) ?_)
    refine⟨⟨([],j1 [_,c8,c8,c8,c8,c8,c8,c8]),a8⟩,?_⟩
    refine B3.append c4H (.inl ⟨_,underlying43⟩) rfl .z (.v (.c rfl)) (by first|omega|(simp;done)|(simp;omega)|(simp at *;omega)) (by first|omega|(simp;done)|(simp;omega)|(simp at *;omega)) (fun w45 => ?_) rfl
    refine⟨⟨([],j1 [_,c8,c8,c8,c8,c8,c8,c8]),a8⟩,?_⟩
    show D1 _ _ _ _ _ [_] ((46,_)::(45,_)::(44,_)::(43,_)::(42,_)::(41,_)::(40,_)::(39,_)::(38,_)::(37,_)::(36,_)::(35,_)::(34,_)::(33,_)::(32,_)::(31,_)::_) _
    refine .n (.Z0 (fun y x => { x with j3:=y }) b8v (.t a8) (.b9E a8 .z) .z1 (fun _ _=>a8) ?_)
    refine .q 3 hG ?_
    refine .ad (by first|omega|(simp;done)|(simp;omega)|(simp at *;omega)) (by first|omega|(simp;done)|(simp;omega)|(simp at *;omega)) ?_
    refine .q 2 hG ?_
    refine⟨(i+1,w45),.c2 rfl rfl (.c2 rfl rfl (.c2 rfl rfl (.c2 rfl rfl (.nil _)))),congrArg (fun q => [(true,D8.own _ _ q),_,_,_,_,_,_,_]) (c0v bd0 l i (by omega)),?_,by dsimp only;omega⟩
    dsimp only;omega
  · refine .q 3 hG ?_
    obtain rfl:i=l.length:=(by omega)
    rw [List.take_length]
    refine .q 1 hG ?_
    refine .p (.Q6 b4K (.t a8) .z1 (.p (.c05 hG (b8k (b7N p l r) hl) (.cons (.st a8 .z (fun J n0 L v hr hx hd=>c0u (b:=b7N p l r) hx (y4.fz .z2 hr) hd)) .nil) .v ?_)))
    refine .q 7 hG ?_
    refine .R4 (.t a8) (fun hc50=>(by exfalso;exact hc50 h0)) (fun hc50 => ?_)
    refine .q 2 hG ?_
    refine .a1f [[j0,j0,j0,j0,j0,j0,j0,j0],[j0,j0,j0,j0,j0,j0,j0,j0],[j0,j0,j0,j0,j0,j0,j0,c9],[j0,j0,j0,j0,j0,j0,j0,c9]] [[j0,j0,j0,j0,j0,j0,j0,j0],[j0,j0,j0,j0,j0,j0,j0,j0],[j0,j0,j0,j0,j0,j0,j0,j0],[j0,j0,j0,j0,j0,j0,j0,j0],[j0,j0,j0,j0,j0,j0,j0,j0],[j0,j0,j0,j0,j0,j0,j0,j0],[j0,j0,j0,j0,j0,j0,j0,j0],[j0,j0,j0,j0,j0,j0,j0,j0],[j0,j0,j0,j0,j0,j0,j0,c9],[j0,j0,j0,j0,j0,j0,j0,c9],[],[],[],[j0,j0,j0,j0,j0,j0,j0,c9]] [] [] 3 (by kernel_rfl) 14 [[],[],[(56,1)],[],[(58,3)],[(55,0),(57,2),(59,4)],[(60,5)],[(54,6)],[(54,6)],[(54,6)],[],[(61,7)],[(14,10),(62,8)],[(63,9)]] [10,11,12] rfl (by kernel_rfl) rfl (by kernel_rfl) rfl (by decide) (by simp) (fun p hp=>by cases hp) (by kernel_rfl) rfl ?_
    refine⟨_,fun H=>j5.Q6 A6 (.t a8) (y4.app .z7) a8,?_⟩
    refine⟨_,fun H=>j5.A9 x4.l3 a6a a8 (.t a8) a8,?_⟩
    refine⟨_,fun H=>j5.S1 (fun x=>x.Tag) D0 (.t a8) (y4.app .z6) (fun _=>a8) a8,?_⟩
    refine⟨_,fun H=>j5.Q6 a8r (.t a8) (y4.app .z5) a8,?_⟩
    refine⟨_,fun H=>j5.p8 hG (b7R _ hr) (.cons (.t a8) .nil) a8,?_⟩
    refine⟨_,fun H=>j5.p8 hG (as3 (a5e _ _ _) h1) (.cons (.t a8) (.cons (.t a8) (.cons (.t a8) .nil))) a8,?_⟩
    refine⟨_,fun H=>j5.move (.t a8) a8,?_⟩
    refine⟨_,fun H=>j5.L7 (.t a8) a8,?_⟩
    refine⟨_,fun H=>j5.L8 (.t a8) a8,?_⟩
    refine⟨_,fun H=>j5.L9 (.t a8) a8,?_⟩
    refine .inl (.inl (.inl ?_))
    refine⟨_,fun H=>j5.assign (.t a8) a8,?_⟩
    refine⟨a8,?_⟩
    refine⟨⟨j1 [c8,c8,c8,c8,c8,c8,c8,c8],a8⟩,fun Ys9 => ?_⟩
    refine B3.alloc D0 fun b14 => ?_
    refine⟨[_],_,a8,?_⟩
    refine⟨⟨j1 [c8,c8,c8,c8,c8,c8,c8,c8],a8⟩,fun Ys9 => ?_⟩
    refine B3.P7 A6 (.t rfl) (.t rfl) (.s (y4.app (y4.app .z7))) ?_
    refine⟨[_],_,a8,?_⟩
    refine⟨⟨j1 [c8,c8,c8,c8,c8,c8,c8,_],a8⟩,fun Ys9 => ?_⟩
    refine B3.P7 D0 (.t rfl) (.t rfl) .z ?_
    refine⟨[_],_,a8,?_⟩
    refine⟨⟨j1 [c8,c8,c8,c8,c8,c8,c8,_],a8⟩,fun ws9 => ?_⟩
    refine⟨⟨j1 [c8,c8,c8,c8,c8,c8,c8,_],a8⟩,fun _ => ?_⟩
    show D1 _ _ _ _ _ [] ((15,_)::(14,_)::(63,_)::(62,_)::(61,_)::(54,_)::(60,_)::(59,_)::(58,_)::(57,_)::(56,_)::(55,_)::_) _
    refine .q 7 hG ?_
    refine .R4 (.t a8) (fun hc65=>(by exfalso;exact hc65 rfl)) (fun hc65 => ?_)
    refine .q 3 hG ?_
    refine .p (.Q6 D0 (.t a8) .z (.p (.A9 x9.l4 a9v a8 (.t a8) (.n (.Z0 (fun y x => { x with Proof:=y }) D0 (.t a8) (.t a8) .z2 (fun _ _=>a8) ?_)))))
    refine .q 4 hG ?_
    refine .p (.assign (.i a8) ?_)
    refine .q 2 hG ?_
    refine .E1 (α:=Nat) [(2,_),(4,_),(5,_),(7,_),(8,_),(9,_),(11,_)] (fun k R=>(16,.v (k:Int))::R) (fun k => [(true,.ob (ptr b14 0) t),(true,.own 66 gu (bY p.Tag r b l k++(l.drop k).map bd0)),(true,.ob (ptr b11 0) (b4L ⟨r,p.D4,p.C2,p.l9,t,[]⟩ w23 gu)),(true,.fz w23 (.v p.l9)),(true,.ob (ptr b9 0) (default:Z7)),(true,.ob (ptr b8 0) (default:D6)),(true,.ob (ptr b7 0) r),(true,.ob (ptr b5 0) p),(true,.ob (ptr b4 0) (bA p.Tag r b l k))]) (fun k=>k≤l.length) (fun k=>l.length - k) (0) (.c2 a8 a8 (.c2 a8 a8 (.c2 a8 a8 (.cons a8 (.nil _))))) ?_ (.c2 a8 a8 (.c2 a8 a8 (.c2 a8 a8 (.c2 a8 a8 (.nil _))))) (a8) fun k hF => ?_
    · simp
    refine .q 9 hG ⟨fun hc74 => ?_,fun hc74 => ?_⟩
    · refine .q 4 hG ?_
      have hYl:=b8w h2 k (by omega)
      have hst:=h2.step (i:=k) (by omega)
      obtain⟨y,hbe,hye⟩:=hst
      have hDl:(bY p.Tag r b l k++(l.drop k).map bd0).length=l.length:=(by rw [List.length_append,hYl,List.length_map,List.length_drop];omega)
      have hse:(bY p.Tag r b l k++(l.drop k).map bd0).set k y=bY p.Tag r b l (k+1)++(l.drop (k+1)).map bd0:=(by rw [b8x y hYl (by omega),hye])
      refine .a1f [[j0,j0,j0,j0,j0,j0,j0,j0,j0],[j0,j0,j0,j0,j0,j0,j0,j0,c9],[j0,c9,j0,j0,j0,j0,j0,j0,c9]] [[j0,j0,j0,j0,j0,j0,j0,j0,c9],[j0,j0,j0,j0,j0,j0,j0,j0,c9],[j0,j0,j0,j0,j0,j0,j0,j0,c9],[j0,j0,j0,j0,j0,j0,j0,j0,j0],[j0,j0,j0,j0,j0,j0,j0,j0,j0],[j0,j0,j0,j0,j0,j0,j0,j0,j0],[j0,j0,j0,j0,j0,j0,j0,j0,j0],[j0,j0,j0,j0,j0,j0,j0,j0,j0],[j0,j0,j0,j0,j0,j0,j0,j0,j0],[j0,j0,j0,j0,j0,j0,j0,j0,j0],[j0,j0,j0,j0,j0,j0,j0,j0,j0],[j0,j0,j0,j0,j0,j0,j0,j0,j0],[j0,j0,j0,j0,j0,j0,j0,j0,j0],[j0,j0,j0,j0,j0,j0,j0,j0,j0],[j0,j0,j0,j0,j0,j0,j0,j0,c9],[j0,c9,j0,j0,j0,j0,j0,j0,c9],[],[j0,j0,j0,j0,j0,j0,j0,j0,c9],[],[j0,c9,j0,j0,j0,j0,j0,j0,c9]] [] [] 2 (by kernel_rfl) 20 [[],[(78,0)],[],[],[],[],[(82,4),(83,5)],[(84,6)],[],[(86,8)],[],[(81,3),(85,7),(87,9),(88,10)],[(89,11)],[(77,12)],[(77,12)],[(77,12)],[(90,13)],[(79,1),(80,2)],[(93,17),(91,14)],[(92,15)]] [16,18] rfl (by kernel_rfl) rfl (by kernel_rfl) rfl (by decide) (by simp) (fun p hp=>by cases hp) (by kernel_rfl) rfl ?_
      refine⟨_,fun H=>j5.A9 x9.l5 a6c a8 (.t a8) a8,?_⟩
      refine⟨_,fun H=>j5.ldR (fun x=>x.j3) b8v (.t a8) (y4.app .z2) (fun _=>a8) a8,?_⟩
      refine⟨_,fun H=>j5.move (.t a8) a8,?_⟩
      refine⟨_,fun H=>j5.Q6 A6 (.t a8) (y4.app .z8) a8,?_⟩
      refine⟨_,fun H=>j5.move (.t a8) a8,?_⟩
      refine⟨_,fun H=>j5.move (.t a8) a8,?_⟩
      refine⟨_,fun H=>j5.idx P9 underlying38 (.t a8) (.t a8) (by first|omega|(simp;done)|(simp;omega)|(simp at *;omega)) (by first|omega|(simp;done)|(simp;omega)|(simp at *;omega)) a8,?_⟩
      refine⟨_,fun H=>j5.G8 P9 (.t a8) a8,?_⟩
      refine⟨_,fun H=>j5.A9 x4.l3 a6a a8 (.t a8) a8,?_⟩
      refine⟨_,fun H=>j5.S1 (fun x=>x.Tag) D0 (.t a8) (y4.app .z7) (fun _=>a8) a8,?_⟩
      refine⟨_,fun H=>j5.Q6 a8r (.t a8) (y4.app .z6) a8,?_⟩
      refine⟨_,fun H=>j5.p8 hG (as3 (c2q _ _ _ _) hbe) (.cons (.t a8) (.cons (.t a8) (.cons (.t a8) (.cons (.t a8) .nil)))) a8,?_⟩
      refine⟨_,fun H=>j5.move (.t a8) a8,?_⟩
      refine⟨_,fun H=>j5.L7 (.t a8) a8,?_⟩
      refine⟨_,fun H=>j5.L8 (.t a8) a8,?_⟩
      refine⟨_,fun H=>j5.L9 (.t a8) a8,?_⟩
      refine .inl ?_
      refine⟨_,fun H=>j5.a2w a4D underlying43 a8 (y4.app .z1) (.t a8) (by first|omega|(simp;done)|(simp;omega)|(simp at *;omega)) (by first|omega|(simp;done)|(simp;omega)|(simp at *;omega)) a8,?_⟩
      refine .inl ?_
      refine⟨_,fun H=>j5.assign (.t a8) a8,?_⟩
      refine⟨a8,?_⟩
      refine⟨⟨j1 [c8,c8,c8,c8,c8,c8,c8,c8,c8],a8⟩,fun Ys16 => ?_⟩
      refine B3.P7 A6 (.t rfl) (.t rfl) (y4.app (y4.app .z8)) ?_
      refine⟨[],_,a8,?_⟩
      refine⟨⟨j1 [c8,c8,c8,c8,c8,c8,c8,c8,_],a8⟩,fun Ys16 => ?_⟩
      refine B3.b9B a4D (.t rfl) (.t rfl) (y4.app (y4.app .z1)) (by first|omega|(simp;done)|(simp;omega)|(simp at *;omega)) ?_
      refine⟨[],_,a8,?_⟩
      refine⟨⟨j1 [c8,_,c8,c8,c8,c8,c8,c8,_],a8⟩,fun ws16 => ?_⟩
      refine⟨⟨j1 [c8,_,c8,c8,c8,c8,c8,c8,_],a8⟩,fun _ => ?_⟩
      show D1 _ _ _ _ _ [] ((15,_)::(93,_)::(92,_)::(91,_)::(90,_)::(77,_)::(89,_)::(88,_)::(87,_)::(86,_)::(85,_)::(84,_)::(83,_)::(82,_)::(81,_)::(80,_)::(79,_)::(78,_)::_) _
      refine .q 6 hG ?_
      refine .R4 (.t a8) (fun hc95=>(by exfalso;exact hc95 rfl)) (fun hc95 => ?_)
      refine .q 3 hG ?_
      refine .ad (by first|omega|(simp;done)|(simp;omega)|(simp at *;omega)) (by first|omega|(simp;done)|(simp;omega)|(simp at *;omega)) ?_
      refine .q 2 hG ?_
      refine⟨k+1,.c2 rfl rfl (.c2 rfl rfl (.c2 rfl rfl (.c2 rfl rfl (.nil _)))),congrArg (fun q => [_,(true,D8.own _ _ q),_,_,_,_,_,_,_]) hse,?_,by omega⟩
      omega
    · refine .q 2 hG ?_
      obtain rfl:k=l.length:=(by omega)
      rw [List.drop_length,List.map_nil,List.append_nil]
      refine .y0 hC .z1 (.b5P .z2 (fun n0 I L hr cs hc=>a88 (b:=⟨r,p.D4,p.C2,p.l9,t,bY p.Tag r b l l.length⟩) hc (y4.fz .z3 hr) (y4.fz .z1 hr)) (.conv 11 (.ln (ptr b11 0) (j6.id (α:=Z7))) a8 (fun _ _ _ _ _ h=>h) (.F3 [j0,j0,j0,j0,c9,c9,j0,j0,j0] (by kernel_rfl) 5 [[],[],[(99,0)],[(100,1)],[]] [2,3] a8 (by kernel_rfl) a8 (by kernel_rfl) (by decide) ?_)))
      refine⟨_,fun H=>j5.Q6 A6 (.t a8) (y4.app .z8) a8,?_⟩
      refine⟨_,fun H=>j5.Q6 a5H (.t a8) (y4.app .z2) a8,?_⟩
      refine .inl (.inl ?_)
      refine⟨_,fun H=>j5.assign (.i a8) a8,?_⟩
      refine⟨⟨([],j1 [c8,c8,c8,c8,_,_,c8,c8,c8]),a8⟩,?_⟩
      refine B3.P7 A6 (.t rfl) (.t rfl) .z5 ?_
      refine⟨⟨([],j1 [c8,c8,c8,c8,_,_,c8,c8,c8]),a8⟩,?_⟩
      refine B3.P7 a5H (.t rfl) (.t rfl) .z4 ?_
      refine⟨⟨([],j1 [c8,c8,c8,c8,_,_,c8,c8,c8]),a8⟩,?_⟩
      show D1 _ _ _ _ _ [] ((10,_)::(100,_)::(99,_)::_) _
      refine .q 2 hG ?_
      refine⟨_,.r3 a8 (.cell A6 a8 .z5) (.cell a5H a8 .z4) (.tmp a8),?_⟩
      rfl
theorem c2B (e:Epo) (b:Z7):p6 gl prog 63 [.v e,.p b] (fun r=>r = .v (decide (e.Number=b.D4))):=by
 refine p6.jn func63 (by kernel_rfl) 9 rfl fun C hC hG => ?_
 refine .q 3 hG fun b2 => ?_
 refine .q 12 hG ?_
 refine .e1 a8 a8 ?_
 rfl
theorem c0w {p:Tag×Bool} {t:Tag} {e:Int} (h:(!(p.2&&decide (p.1=t))||decide (e≠0))=true):p≠(t,true)∨e≠0:=by
 rcases Bool.or_eq_true_iff.1 h with h|h
 ·exact Or.inl (c0n (c2x h))
 ·exact Or.inr (of_decide_eq_true h)
theorem b8y {p:Tag×Bool} {t:Tag} {e:Int} (h:(!(p.2&&decide (p.1=t))||decide (e≠0))=false):p=(t,true)∧e=0:=by
 obtain⟨h1,h2⟩:=Bool.or_eq_false_iff.1 h
 exact⟨c0m (c2y h1),by simpa using h2⟩
structure c2C (A:D6) (P:Pass) (G:List Dis) (r:Rq) (b:D6) (t:Tag) (B:D6):Prop where
 chk:M1 (b7N P G r)=0
 mac:G6 A P.Tag (a2W r)=(b,t,0)
 to:a5S P.Tag r b G
 alg:bA P.Tag r b G G.length=B
 dis:bY P.Tag r b G G.length=G.map (bnd B P.Tag r)
theorem Y6.c3M {A : D6} {root : Epo} {P : Pass} {G : List Dis} {T : List Tag} {n k : Nat} (h : Y6 A root P G T n k) (hn : n < 1000) (hk : k ≤ 6) (hh : a2Y A) {r : Rq} (hr : U8 r = true) :
    ∃ b t B,c2C A P G r b t B∧c0t B root P G T r t (n+7) k∧M6 A B:=by
  have hg:=h.ngr
  obtain⟨b,t,s⟩:=h.ok.step (by omega) P.Tag (m:=a2W r) (by have:=b8r hr;omega)
  obtain⟨c,q⟩:=s.ok.binds P.Tag hr G (by omega)
  have hc:M1 (b7N P G r)=0:=b0k h hk hr default (fun d=>⟨d.p7,d.j9,default⟩) fun g=>⟨rfl,rfl⟩
  refine⟨b,t,c,⟨hc,s.eq,⟨fun i hi => ?_⟩,?_,?_⟩,⟨h.mac (s.le.trans q.le) (q.ok.le (by omega)) (q.boxes.trans s.boxes),hr,q.le.look s.look,q.looks,fun x hx => ?_⟩,s.le.trans q.le⟩
  · obtain⟨c',q'⟩:=s.ok.binds P.Tag hr (G.take i) (by rw [List.length_take];omega)
    rw [q'.eq]
  · unfold bA;rw [List.take_length,q.eq]
  · unfold bY;rw [List.take_length,q.eq]
  · rcases q.X5 x hx with h'|h'
    · rcases s.X5 x h' with h'|h'
      · exact Or.inl (hh x h')
      · exact Or.inr (Or.inl h')
    · exact Or.inr (Or.inr h')
theorem c2C.c {A:D6} {P:Pass} {G:List Dis} {r:Rq} {b:D6} {t:Tag} {B:D6} (h:c2C A P G r b t B) (hl:P.l9.length≤1000000) (hl2:G.length≤1000000) (hr:U8 r=true):p6 gl prog 32 [.v A,.v P,.v G,.v r] (fun x=>x = .t3 (.v B) (.v (prB B P G r t)) (.v (0:Int))) :=
 (b5T A P G r hl hl2 h.chk h.mac h.to hr).mono fun x hx=>by rw [hx,h.alg,h.dis];rfl
structure c0x (s:Scn) (b:Z7):Prop where
 ex:∃ root T t n k,c0t s.A root s.Pass s.K8 T s.Request t n k∧n≤61∧k≤5∧root.Number=2∧s.Ring=a1C root 3∧b=prB s.A s.Pass s.K8 s.Request t
 a4k:s.A7=b3F
abbrev scn (w:Value):AV := .ln w (j6.id (α:=Scn))
theorem b8z (w:Value) (s:Scn) (root:Epo) (k:Nat) (h:a6Z s.A root s.Pass s.K8 k) (hk:k≤5) (h2:root.Number=2) (hg:s.Ring=a1C root 3) (hr:U8 s.Request=true) (hh:s.A7=b3F):G0 gl prog 14 [scn w] [.ob w s] (fun r Hs=>∃ s':Scn,∃ b,c0x s' b∧r = .v b∧Hs = [.ob w s']):=by
 obtain⟨T,n,hs,hn⟩:=h.ex
 obtain⟨b,t,B,hp,hB,hle⟩:=hs.c3M (by omega) (by omega) h.b4J hr
 have h5:=hs.a5k
 have h6:=hs.ngr
 refine G0.R1 func14 rfl (by kernel_rfl) 32 rfl rfl _ rfl _ rfl fun C hC hG => ?_
 refine .q 3 hG fun b2 => ?_
 refine .q 2 hG ?_
 refine .c3k [j0,j0] [(21,(⟨j8,inferInstance,default⟩:AT)),(22,(⟨u9,inferInstance,default⟩:AT))] (by kernel_rfl) 26 [[],[(7,0)],[(8,1)],[(9,2)],[],[(11,4)],[(12,5)],[(13,6)],[],[(15,8)],[(16,9)],[(17,10)],[],[(19,12)],[(20,13)],[(21,14)],[(10,3),(14,7),(18,11),(22,15)],[(23,16)],[(6,17)],[(6,17)],[(6,17)],[],[],[(3,21),(24,18)],[(4,22),(25,19)],[(26,20)]] [23,24] rfl (by kernel_rfl) rfl (by kernel_rfl) (by decide) (by simp) (List.forall_mem_cons.2 ⟨fun o ho=>by obtain rfl:=Option.some.inj (show some _=some o from ho);exact⟨rfl,fun _ _=>B3.alloc A6 fun b=>⟨b,rfl,rfl⟩⟩,(List.forall_mem_cons.2 ⟨fun o ho=>by obtain rfl:=Option.some.inj (show some _=some o from ho);exact⟨rfl,fun _ _=>B3.alloc a5H fun b=>⟨b,rfl,rfl⟩⟩,(fun p hp=>by cases hp)⟩)⟩) ?_
 refine⟨_,fun H=>j5.move (.t a8) a8,?_⟩
 refine⟨_,fun H=>j5.E5 (.t a8) a8,?_⟩
 refine⟨_,fun H=>j5.A9 u1.l0 P0 a8 (.t a8) a8,?_⟩
 refine⟨_,fun H=>j5.S1 (fun x=>x.A) A6 (.t a8) (y4.app .z1) (fun _=>a8) a8,?_⟩
 refine⟨_,fun H=>j5.move (.t a8) a8,?_⟩
 refine⟨_,fun H=>j5.E5 (.t a8) a8,?_⟩
 refine⟨_,fun H=>j5.A9 u1.l3 a3Q a8 (.t a8) a8,?_⟩
 refine⟨_,fun H=>j5.S1 (fun x=>x.Pass) R2 (.t a8) (y4.app .z1) (fun _=>a8) a8,?_⟩
 refine⟨_,fun H=>j5.move (.t a8) a8,?_⟩
 refine⟨_,fun H=>j5.E5 (.t a8) a8,?_⟩
 refine⟨_,fun H=>j5.A9 u1.l4 b2D a8 (.t a8) a8,?_⟩
 refine⟨_,fun H=>j5.S1 (fun x=>x.K8) c4E (.t a8) (y4.app .z1) (fun _=>a8) a8,?_⟩
 refine⟨_,fun H=>j5.move (.t a8) a8,?_⟩
 refine⟨_,fun H=>j5.E5 (.t a8) a8,?_⟩
 refine⟨_,fun H=>j5.A9 u1.l5 b6E a8 (.t a8) a8,?_⟩
 refine⟨_,fun H=>j5.S1 (fun x=>x.Request) a8r (.t a8) (y4.app .z1) (fun _=>a8) a8,?_⟩
 refine⟨_,fun H=>j5.p8 hG (hp.c (by omega) (by omega) hr) (.cons (.t a8) (.cons (.t a8) (.cons (.t a8) (.cons (.t a8) .nil)))) a8,?_⟩
 refine⟨_,fun H=>j5.move (.t a8) a8,?_⟩
 refine⟨_,fun H=>j5.L7 (.t a8) a8,?_⟩
 refine⟨_,fun H=>j5.L8 (.t a8) a8,?_⟩
 refine⟨_,fun H=>j5.L9 (.t a8) a8,?_⟩
 refine .inl (.inl (.inl (.inl ?_)))
 refine⟨_,fun H=>j5.assign (.t a8) a8,?_⟩
 refine⟨a8,fun ws1 => ?_⟩
 refine⟨⟨([_,_],j1 [c8,c8]),a8⟩,?_⟩
 refine B3.P7 A6 (.t rfl) (.t rfl) .z ?_
 refine⟨⟨([_,_],j1 [c8,c8]),a8⟩,?_⟩
 refine B3.P7 a5H (.t rfl) (.t rfl) .z1 ?_
 refine⟨⟨([_,_],j1 [c8,c8]),a8⟩,?_⟩
 show D1 _ _ _ _ _ [] ((5,_)::(4,_)::(3,_)::(26,_)::(25,_)::(24,_)::(6,_)::(23,_)::(22,_)::(21,_)::(20,_)::(19,_)::(18,_)::(17,_)::(16,_)::(15,_)::(14,_)::(13,_)::(12,_)::(11,_)::(10,_)::(9,_)::(8,_)::(7,_)::_) _
 refine .q 3 hG ?_
 refine .mv a8 (.p (.Q6 A6 (.t a8) .z (.p (.E5 (.t a8) (.p (.A9 u1.l0 P0 a8 (.t a8) (.n (.Z0 (fun y x => { x with A:=y }) A6 (.t a8) (.t a8) .z3 (fun _ _=>a8) ?_))))))))
 refine .q 3 hG ?_
 refine .p (.Q6 a5H (.t a8) .z1 (.n (.P7 a5H (.t a8) (.t a8) .z2 ?_)))
 refine .q 2 hG ?_
 refine⟨_,.r1 a8 (.cell a5H a8 .z2),?_⟩
 refine⟨_,.cons .z3 (.nil),?_⟩
 exact⟨⟨B,s.Ring,s.C,s.Pass,s.K8,s.Request,s.A7,s.Minute⟩,_,⟨⟨root,T,t,n+7,k,hB,by omega,hk,h2,hg,rfl⟩,hh⟩,rfl,rfl⟩
theorem c2D (deck:List Int) (wide:Bool):G0 gl prog 4 [.v deck,.v wide] [] (fun r Hs=>∃ s:Scn,∃ b,∃ p d,(c0x s b∧H9 d)∧r = .t3 (.v s) (.v b) (dk p)∧Hs = [.ob p d]):=by
 refine G0.R1 func4 rfl (by kernel_rfl) 19 rfl rfl _ rfl _ rfl fun C hC hG => ?_
 refine .q 3 hG fun b4 => ?_
 refine .q 1 hG fun b5 => ?_
 refine .p (.assign .raw ?_)
 refine .q 4 hG ?_
 refine .k0 hG (a8M _) fun r11 Hs11 hr11 => ?_
 obtain⟨b11,rfl,rfl⟩:=hr11
 show D1 _ _ _ _ _ _ _ ((true,_)::_)
 refine .q 6 hG ?_
 refine .km hG (b5S _ _ _ (by first|assumption|exact y3 _)) .z (by rintro _ _ ⟨_,_,_,_,_,_,_,rfl⟩;exact⟨_,rfl⟩) fun r14 B14 hr14 => ?_
 obtain⟨s14,root14,k14,⟨hs1,hs2,hs3,hs4,hs5,hs6⟩,d14,hd14,rfl,hB⟩:=hr14
 cases hB
 refine .q 1 hG fun b8 => ?_
 refine .q 4 hG ?_
 refine .km hG (b8z _ _ _ _ hs1 hs2 hs3 hs4 hs5 hs6) .z (by rintro _ _ ⟨_,_,_,_,rfl⟩;exact⟨_,rfl⟩) fun r15 B15 hr15 => ?_
 obtain⟨s15,b15',hm15,rfl,hB⟩:=hr15
 cases hB
 refine .q 1 hG fun b9 => ?_
 refine .q 3 hG ?_
 refine .F3 [j0,j0,j0,c9,c9] (by kernel_rfl) 6 [[],[],[],[(16,0)],[(17,1)],[(18,2)]] [3,4] a8 (by kernel_rfl) a8 (by kernel_rfl) (by decide) ?_
 refine⟨_,fun H=>j5.Q6 b7q (.t a8) (y4.app .z1) a8,?_⟩
 refine⟨_,fun H=>j5.Q6 a5H (.t a8) (y4.app .z) a8,?_⟩
 refine⟨_,fun H=>j5.move (.t a8) a8,?_⟩
 refine .inl (.inl ?_)
 refine⟨_,fun H=>j5.assign (.t a8) a8,?_⟩
 refine⟨⟨([],j1 [c8,c8,c8,_,_]),a8⟩,?_⟩
 refine B3.P7 b7q (.t rfl) (.t rfl) .z4 ?_
 refine⟨⟨([],j1 [c8,c8,c8,_,_]),a8⟩,?_⟩
 refine B3.P7 a5H (.t rfl) (.t rfl) .z3 ?_
 refine⟨⟨([],j1 [c8,c8,c8,_,_]),a8⟩,?_⟩
 show D1 _ _ _ _ _ [] ((6,_)::(18,_)::(17,_)::(16,_)::_) _
 refine .q 2 hG ?_
 refine⟨_,.r3 a8 (.cell b7q a8 .z4) (.cell a5H a8 .z3) (.tmp a8),?_⟩
 refine⟨_,.cons .z2 (.nil),?_⟩
 exact⟨s15,b15',_,d14,⟨hm15,hd14⟩,a8,a8⟩
structure Tb (N:Nat) (b:Z7):Prop where
 cav:b.l9.length≤N
 dis:b.j3.length≤N
 con:∀ d∈b.j3,d.j9.length≤N
 F9:0≤b.Request.E7∧b.Request.E7≤281474976710656+N
theorem c2E (a : D6) (g : Ring) (b : Z7) (root : Epo) (T N : List Tag) (hf : a.J6 = true) (hc : b.l9 = []) (hd : b.j3 = []) (h0 : M1 b = 0) (he : a7Z g b.D4 = some root) (ht : a16 a root b.C2 b.l9 = (T, 0)) (hT : T.length = 1) (hN : a18 a T = (N, 0)) :
    p6 gl prog 33 [.v a,.v g,.v b] (fun r=>r=if a0u a (T.getLastD default) b.Request=(b.Proof,true) then .t2 (.v (⟨N,T.getLastD default⟩:A5)) (.v (0:Int)) else .t2 (.v (default:A5)) (.v (19:Int))):=by
  have hl:b.l9.length=0:=by rw [hc];rfl
  refine p6.jn func33 (by kernel_rfl) 111 rfl fun C hC hG => ?_
  refine .q 3 hG fun b3 => ?_
  refine .q 1 hG fun b4 => ?_
  refine .q 1 hG fun b5 => ?_
  refine .q 1 hG fun b6 => ?_
  refine .q 4 hG ?_
  refine .C1 hC .z3 (.O9 3 a8 .z3 (.C1 hC .z2 (.O9 4 a8 .z2 (.C1 hC .z1 (.O9 5 a8 .z1 (.del (.s .z) (.del (.s .z) (.del (.s .z) ?_))))))))
  refine .q 2 hG ?_
  refine .k hG (b4F _ (by omega)) ?_
  refine .q 7 hG ?_
  refine .R4 (.t a8) (fun hc22=>(by exfalso;exact hc22 h0)) (fun hc22 => ?_)
  refine .q 5 hG ?_
  refine .p (.a9N hG (fun x=>c2B x _) (.cons (.t a8) .nil) (.p (.p8 hG (b3x _ _) (.cons (.t a8) (.cons (.t a8) .nil)) ?_)))
  refine .q 8 hG ?_
  refine .R4 (.t rfl) (fun hc30=>(by exfalso;rw [show a7Z g b.D4=none from b4v (fun h=>by omega)] at he;cases he)) (fun hc30 => ?_)
  refine .q 2 hG ?_
  have hi0:0≤idx g.Live (fun e=>decide (e.Number=b.D4)):=Int.not_lt.1 hc30
  have hi1:=b7y hi0
  obtain rfl:g.Live[(idx g.Live (fun e=>decide (e.Number=b.D4))).toNat]=root:=Option.some.inj ((b4u hi0 (by omega)).symm.trans he)
  refine .draw (by kernel_rfl) 16 [[],[],[(34,1)],[],[(35,2),(36,3)],[(37,4)],[],[(39,6)],[],[(41,8)],[(33,0),(38,5),(40,7),(42,9)],[(43,10)],[(32,11)],[(32,11)],[(44,12)],[(45,13)]] a8 (by kernel_rfl) a8 ?_
  refine⟨_,j5.G8 A6 (.t a8) a8,?_⟩
  refine⟨_,j5.y9 C7.l0 (fun x=>x.Live) b2A a8 (fun _=>a8) (.t a8) a8,?_⟩
  refine⟨_,j5.G8 c15 (.t a8) a8,?_⟩
  refine⟨_,j5.move (.t a8) a8,?_⟩
  refine⟨_,j5.idx b1e underlying29 (.t a8) (.t a8) (by first|omega|(simp;done)|(simp;omega)|(simp at *;omega)) (by first|omega|(simp;done)|(simp;omega)|(simp at *;omega)) a8,?_⟩
  refine⟨_,j5.G8 b1e (.t a8) a8,?_⟩
  refine⟨_,j5.y9 u9.l2 (fun x=>x.C2) b6G a8 (fun _=>a8) (.t a8) a8,?_⟩
  refine⟨_,j5.G8 I6 (.t a8) a8,?_⟩
  refine⟨_,j5.y9 u9.l3 (fun x=>x.l9) a6b a8 (fun _=>a8) (.t a8) a8,?_⟩
  refine⟨_,j5.G8 a9T (.t a8) a8,?_⟩
  refine⟨_,j5.p8 hG (c2p _ (b7z _ hf) _ _ _ (by omega)) (.cons (.t a8) (.cons (.t a8) (.cons (.t a8) (.cons (.t a8) .nil)))) a8,?_⟩
  refine⟨_,j5.move (.t a8) a8,?_⟩
  refine⟨_,j5.a7E (.t a8) a8,?_⟩
  refine⟨_,j5.a7F (.t a8) a8,?_⟩
  refine⟨_,j5.assign (.t a8) a8,?_⟩
  refine⟨_,j5.assign (.t a8) a8,?_⟩
  show D1 _ _ _ _ _ [] ((11,_)::(10,_)::(45,_)::(44,_)::(32,_)::(43,_)::(42,_)::(41,_)::(40,_)::(39,_)::(38,_)::(37,_)::(36,_)::(35,_)::(34,_)::(33,_)::_) _
  refine .q 7 hG ?_
  refine .R4 (.t rfl) (fun hc47=>(by exfalso;exact hc47 (by rw [show a16 a g.Live[(idx g.Live (fun e=>decide (e.Number=b.D4))).toNat] b.C2 b.l9=(T,0) from ht]))) (fun hc47 => ?_)
  refine .q 2 hG ?_
  rw [show a16 a g.Live[(idx g.Live (fun e=>decide (e.Number=b.D4))).toNat] b.C2 b.l9=(T,0) from ht]
  refine .q 4 hG ?_
  refine .sb (by first|omega|(simp;done)|(simp;omega)|(simp at *;omega)) (by first|omega|(simp;done)|(simp;omega)|(simp at *;omega)) ?_
  refine .ix (by first|omega|(simp;done)|(simp;omega)|(simp at *;omega)) (by first|omega|(simp;done)|(simp;omega)|(simp at *;omega)) ?_
  refine .q 2 hG fun b12 => ?_
  refine .q 3 hG ?_
  rw [b1y (s:=T) (by omega)]
  refine .q 5 hG ?_
  refine .p (.p8 hG (b5C _ (b7z _ hf) _ _) (.cons (.t a8) (.cons (.t a8) (.cons (.t a8) .nil))) ?_)
  refine .q 4 hG fun b13 => ?_
  refine .q 7 hG ?_
  refine .p (.p8 hG (b9T _ (b7z _ hf) _ (by show T.length≤_;omega)) (.cons (.t rfl) (.cons (.t rfl) .nil)) ?_)
  refine .q 8 hG ?_
  rw [hN]
  refine .C1 hC .z1 (.O9 12 a8 .z1 (.C1 hC .z (.O9 13 a8 .z (.del .z (.del .z ?_)))))
  refine .q 5 hG ?_
  refine .p (.p8 hG (c0l _ _ _) (.cons (.t a8) (.cons (.t a8) (.cons (.t a8) .nil))) ?_)
  refine .q 6 hG ?_
  refine .cond (.t a8) (fun hc78 => ?_) (fun hc78 => ?_)
  · refine .q 2 hG ?_
    refine .p (.bS0 (α:=A5) a8 a8L c0W ?_)
    refine .q 4 hG ?_
    refine⟨_,.r2 a8 (.cell a8L a8 .z) (.tmp a8),?_⟩
    rw [if_neg fun h=>(c0w (p:=a0u a (T.getLastD default) b.Request) hc78).elim (fun h2=>h2 h) fun h2=>h2 rfl]
  · refine .q 3 hG ?_
    obtain⟨hp,hn⟩:=b8y (p:=a0u a (T.getLastD default) b.Request) hc78
    refine .q 7 hG ?_
    refine .E1 (α:=Nat) [(3,_),(5,_),(6,_),(10,_),(12,_),(15,_),(81,_),(82,_)] (fun i R=>(83,.v (i:Int))::R) (Function.const _ _) (fun i=>i=0) (fun i=>0) (0) (.c2 a8 a8 (.c2 a8 a8 (.c2 a8 a8 (.c2 a8 a8 (.nil _))))) ?_ (.c2 a8 a8 (.c2 a8 a8 (.c2 a8 a8 (.c2 a8 a8 (.cons a8 (.nil _)))))) (a8) fun i hF => ?_
    · rfl
    refine .q 5 hG ?_
    refine .R4 (.t a8) (fun hc84=>(by exfalso;omega)) (fun hc84 => ?_)
    refine .q 5 hG ?_
    refine .k hG (c0o _) ?_
    refine .q 1 hG ?_
    refine .cond (.t a8) (fun hc106=>(by exfalso;have:a6w b=true:=hc106;unfold a6w at this;rw [hd] at this;cases this)) (fun hc106 => ?_)
    refine .q 5 hG ?_
    refine .p (.bS2 A5.l0 A5.l1 a8 a8L c0W (fun c0 c1=>(⟨c0,c1⟩:A5)) (fun _ _=>a8) a8 a8 a8 (.t a8) (.t a8) (.n (.P7 a8L (.t a8) (.t a8) .z (.p (.assign (.i a8) ?_)))))
    refine .q 2 hG ?_
    refine⟨_,.r2 a8 (.cell a8L a8 .z) (.tmp a8),?_⟩
    rw [if_pos hp]
abbrev c4P:Tag:=(j6.idx 0 (by decide)).set 7 default
abbrev c3N:Epo:=⟨1,c4P⟩
theorem c0t.bare {B : D6} {root : Epo} {P : Pass} {T : List Tag} {r : Rq} {t : Tag} {n k : Nat} (h : c0t B root P [] T r t n k) (hk : k ≤ 6) (hf : B.J6 = true) (hc : P.l9 = []) (l : Int) : ∃ N : List Tag, N.length = 1 ∧ ∀ q, U8 q = true →
    p6 gl prog 33 [.v B,.v (a1C root l),.v (⟨q,P.D4,P.C2,P.l9,t,[]⟩:Z7)] (fun x=>x=if q=r then .t2 (.v (⟨N,P.Tag⟩:A5)) (.v (0:Int)) else .t2 (.v (default:A5)) (.v (19:Int))):=by
  have hn:=h.sc.a4T
  have hs:=h.sc.a5n
  have hr:K6 root.Number P.C2=true:=by unfold K6;simp;omega
  have ht:=b8a (a:=B) hr (List.all_eq_true.2 fun c hc=>(h.sc.cav c hc).1) h.sc.walk
  have hN:=b3t h.sc.nodes
  have hN2:=b5I.2 h.sc.nodes
  have hT:T.length=1:=by rw [h.sc.a7X,hc];rfl
  have hl:T.getLastD default=P.Tag:=by rw [←h.sc.leaf,getLastD_cons (by omega)]
  refine⟨(a18 B T).1,by rw [hN,hT],fun q hq => ?_⟩
  have h0:=b0k h.sc hk hq t (fun d=>⟨d.p7,d.j9,default⟩) fun g=>⟨rfl,rfl⟩
  have he:a7Z (a1C root l) P.D4=some root:=by rw [h.sc.a4T.1];exact c2A _ _
  refine(c2E B (a1C root l) ⟨q,P.D4,P.C2,P.l9,t,[]⟩ root T (a18 B T).1 hf hc a8 h0 he ht hT (by rw [←hN2])).mono fun x hx => ?_
  rw [hx,hl]
  have e:a0u B P.Tag q=(t,true)↔q=r:=by
    unfold a0u
    rw [if_pos hq]
    refine⟨fun hp => ?_,fun e=>by rw [e];exact h.proof⟩
    refine Decidable.byContradiction fun hne => ?_
    obtain⟨y,hy,hyk,hym⟩:=b8s hf hp
    rcases h.X5 y hy with ⟨c,hc,hc1,hc2⟩|⟨h1,h2⟩|⟨g,hg,_⟩
    · rw [hym] at hc;exact absurd (Option.some.inj hc).symm hc1
    · exact hne (b5O hq h.rq (hym.symm.trans h2))
    · cases hg
  by_cases hq2:q=r
  · rw [if_pos (e.2 hq2),if_pos hq2]
  · rw [if_neg (fun x=>hq2 (e.1 x)),if_neg hq2]
theorem a89:p6 gl prog 12 [] (fun r=>r = .v true):=by
 have h0:=Y6.start true default (root:=c3N) ⟨(by decide:(1:Int)≤1),(by decide:(1:Int)≤2)⟩ (A:=⟨true,default,0,[],[]⟩) (H3.new true default 2) rfl rfl (n:=1) (by decide) (by decide)
 obtain⟨A1,P,T,e1,hs,hh,hf,hser⟩:=h0
 have hp:=hs.c3M (by decide) (by decide) hh (r:=⟨1,1⟩) (by decide)
 obtain⟨b,t,B,hp,hB,hle⟩:=hp
 have hfree:B.J6=true:=hle.free.trans hf
 have hcv:=hB.sc.a5k
 have hc0:P.l9 = []:=List.length_eq_zero_iff.1 (by omega)
 obtain⟨N,hN,hv⟩:=hB.bare (by decide) hfree hc0 1
 refine p6.jn func12 (by kernel_rfl) 66 rfl fun C hC hG => ?_
 refine .q 6 hG ?_
 refine .p (.bS1 j8.l0 a8 A6 a0B (fun c0=>(⟨c0,default,0,[],[]⟩:j8)) (fun _=>a8) a8 a8 .b (.p (.U1 _ D0 V2 (.cons (j6.idx 0 (by decide)) _ a8 (.u8 7 a8) .nil) a8 (.p (.bS2 u4.l0 u4.l1 a8 b1e c1M (fun c0 c1=>(⟨c0,c1⟩:u4)) (fun _ _=>a8) a8 a8 a8 (.i a8) (.t a8) (.p (.p8 hG (as3 (b7T _ _ _) e1) (.cons (.t a8) (.cons (.t a8) (.cons (.i a8) .nil))) ?_)))))))
 refine .q 5 hG fun b1 => ?_
 refine .q 1 hG fun b2 => ?_
 refine .q 8 hG ?_
 refine .p (.bS2 u7.l0 u7.l1 a8 a8r c21 (fun c0 c1=>(⟨c0,c1⟩:u7)) (fun _ _=>a8) a8 a8 a8 (.i a8) (.i a8) (.p (.p8 hG (hp.c (by omega) (by decide) (by decide)) (.cons (.t a8) (.cons (.t a8) (.cons .b5k (.cons (.t a8) .nil)))) ?_)))
 refine .q 5 hG fun b4 => ?_
 refine .q 6 hG ?_
 refine .p (.U1 _ D0 V2 (.cons (j6.idx 0 (by decide)) _ a8 (.u8 7 a8) .nil) a8 (.p (.bS2 u4.l0 u4.l1 a8 b1e c1M (fun c0 c1=>(⟨c0,c1⟩:u4)) (fun _ _=>a8) a8 a8 a8 (.i a8) (.t a8) ?_)))
 refine .bs a8 (by decide) fun b29=>(.y0 hC .z (.as 29 a8 .z (.p (.bS2 C7.l0 C7.l1 a8 b9G c20 (fun c0 c1=>(⟨c0,c1⟩:C7)) (fun _ _=>a8) a8 a8 a8 (.t a8) (.i a8) ?_))))
 refine .q 1 hG fun b6 => ?_
 refine .q 7 hG ?_
 refine .p (.p8 hG ((hv ⟨1,1⟩ (by decide)).mono fun x hx=>by rw [hx,if_pos rfl]) (.cons (.t rfl) (.cons (.t rfl) (.cons (.t rfl) .nil))) ?_)
 refine .q 4 hG fun b7 => ?_
 refine .q 14 hG ?_
 refine .p (.p8 hG ((hv ⟨1,2⟩ (by decide)).mono fun x hx=>by rw [hx,if_neg (by decide)]) (.cons (.t rfl) (.cons (.t rfl) (.cons (.t rfl) .nil))) ?_)
 refine .q 4 hG fun b9 => ?_
 refine .q 22 hG ?_
 refine .go 59 a8 (.t a8) (fun hg64 => .a8I underlying24 sz5 underlying5 b5f (.q a8 hg64) (.q a8 hg64) a8) ?_
 refine .q 4 hG ?_
 refine .e1 a8 a8 ?_
 simp [hN]
end Go.Proofs.YtalibdhdngbbcaaGreatDoor
namespace Go.Ab
open Go.Fl Go.RowKit
open p2 (rep)
structure Fn1 (P:Program) (α β:Type) where
 o:Option (α→β)
instance {P:Program} {α β:Type}:Inhabited (Fn1 P α β):=⟨⟨none⟩⟩
def c4Q (P:Program) {α β:Type} [p2 α] [p2 β] (I:Im) (x:Option (α→β)) (u:Value):Prop:=match x with
 | none=>u = .nilFunc
 | some g=>Clo P (fun x:α => [.v x]) (fun x => .v (g x)) I u
instance {P:Program} {α β:Type} [p2 α] [p2 β]:p2 (Fn1 P α β) where
 size:=1
 agg:=false
 rep I x cs:=∃ u,cs = [u]∧c4Q P I x.o u
 len h:=by obtain⟨u,h,_⟩:=h;simp [h]
 mono hle h:=by
  obtain⟨u,h1,h2⟩:=h
  refine⟨u,h1,?_⟩
  rename_i x _
  cases hx:x.o with
  | none=>rw [hx] at h2;exact h2
  | some g=>rw [hx] at h2;exact Clo.mono hle h2
 one _:=rfl
 flat h:=by
  obtain⟨u,rfl,h2⟩:=h
  rename_i x
  cases hx:x.o with
  | none=>rw [hx] at h2;obtain rfl:u = .nilFunc:=h2;rfl
  | some g=>rw [hx] at h2;obtain⟨f,fi,ca,rfl,_⟩:=h2;rfl
instance {P:Program} {α β:Type} [p2 α] [p2 β]:G4 (Fn1 P α β):=⟨[.nilFunc],fun _=>⟨_,rfl,rfl⟩⟩
section
variable {P:Program} {C:Ctx} {N:Nat} {σ:x5} {H:j7} {G:Gl} {f:FuncId} {d:Option Nat} {args:Array Operand} {tys:Array TypeId} {ty:TypeId} {ps:String} {af:Array Edge} {g:Option (Nat×Bool)} {K:AV→Prop}
theorem j5.a5r (hG : G.p C.I0) {α β : Type} [p2 α] [p2 β] (g1 : α → β) {caps : List AV} (h : ∀ x, p6 G P f (caps ++ [.v x]) (fun r => r = .v (g1 x))) (hv : a2v C σ H args.toList caps) (k : K (.v (Fn1.mk (P := P) (some g1)))) :
    j5 P N C ⟨d,.makeFunc (.func f) args #[],ty,ps,af,g⟩ σ H K := .H5 (.v (Fn1.mk (P:=P) (some g1))) (fun ρ I L hs=>fun a w ha hm=>by
      obtain⟨vs,h1,h2⟩:=hv.get hs
      have e:=ha.evL h1
      have hargs:args.map a.eval=vs.toArray:=by rw [←e];cases args;simp
      refine⟨.func (.func f) vs.toArray #[],⟨_,⟨_,rfl,f,vs.toArray,#[],rfl,fun J hle i ws hw => ?_⟩,rfl⟩,by simp [execOp,Instr.makeFunc,hargs]⟩
      have h3:=h i J (vs++ws) (G.mono (hs.W3.trans hle) hG) ((h2.mono hle).append hw)
      simp only [List.append_toArray,Array.append_empty]
      exact h3.mono fun v K _ ⟨x,h4,h5⟩=>h5▸h4) k
theorem j5.c0y {α β : Type} [p2 α] [p2 β] {v : Fn1 P α β} {g1 : α → β} {x : α} {t : Nat} {a : Operand} (ht : F0 σ t = some (.v v)) (hv : v.o = some g1) (ha : D5 C σ H a (.v x)) (k : K (.v (g1 x))) :
    j5 P N C ⟨d,.call ⟨.value (.tmp t),#[a],tys⟩,ty,ps,af,g⟩ σ H K:=fun ρ I L hs=>by
  obtain⟨u,h1,cs,⟨u',rfl,h2⟩,h3⟩:=hs.env t _ ht
  obtain rfl:u=u':=h3
  rw [hv] at h2
  obtain⟨f,fi,ca,rfl,h2⟩:=h2
  obtain⟨vs,h3,h4⟩:=(a2v.cons ha .nil).get hs
  exact OpX.c07 (F := .tmp t) h1 h3 (h2 I (Le.refl I) x vs h4) fun v J hle h5=>⟨rfl,_,h5,k⟩
end
theorem D1.conv {P:Program} {C:Ctx} {N:Nat} {ops:Array Oper} {σ:x5} {H:j7} {Q:Exit→x5→j7→Prop} (t:Nat) {a:AV} (a':AV) {l:List Oper} (ht:F0 σ t=some a) (h:∀ I u,F8 I a u→F8 I a' u) (k:D1 P C N ops Q l ((t,a')::σ) H):D1 P C N ops Q l σ H:=fun ρ I L hs=>by
 refine k ρ I L ⟨fun s b hb => ?_,hs.heap,hs.W3⟩
 rw [I8] at hb
 by_cases e:t=s
 ·subst e;simp at hb;subst hb
  obtain⟨u,h1,h2⟩:=hs.env t _ ht
  exact⟨u,h1,h I u h2⟩
 ·rw [if_neg e] at hb;exact hs.env s b hb
theorem c2G {α:Type} {l:List α} {k:Int} {n:Nat} (e:k=(n:Int)) (h:k.toNat < l.length):l[k.toNat]=l[n]'(by subst e;simpa using h):=by subst e;simp
end Go.Ab
namespace Go.Proofs.YtalibdhdngbbcaaGreatDoor
open Go.Proofs.Tryz
open Go.Fl Go.Ab Go.Mac Go.Sha
abbrev Cx:=x7
abbrev Rd:=A8
def W2 (c:Cx):Rd:=⟨c.a1w,c.a1x,c.Minute,c.A7⟩
def U7 (c:Cx):Bool:=decide (0≤c.a1w)&&decide (c.a1w≤63)&&decide (0≤c.a1x)&&decide (c.a1x≤31)&&decide (0≤c.Minute)&&decide (c.Minute≤67108864)&&I7 c.A7
def Q2 (k:Int) (r:Rd) (q:Pred):Bool :=
 if k=1 then decide ((q.Mask >>> UInt64.ofNat r.a1w.toNat) &&& 1=1)
 else if k=2 then decide ((q.Mask >>> UInt64.ofNat r.a1x.toNat) &&& 1=1)
 else if k=3 then decide ((q.Mask >>> UInt64.ofNat (r.Minute/1440 % 7).toNat) &&& 1=1)
 else if k=4 then decide (q.p3≤r.Minute)&&decide (r.Minute≤q.To)
 else if k=5 then (if q.p3≤q.To then decide (q.p3≤r.Minute % 1440)&&decide (r.Minute % 1440≤q.To) else decide (q.p3≤r.Minute % 1440)||decide (r.Minute % 1440≤q.To))
 else if k=6 then decide (q.Name=r.A7)
 else true
def M3 (p:Pred) (c:Cx):Bool:=y8 p&&U7 c&&Q2 p.Kind (W2 c) p
theorem c1m (s:T5):y8 ⟨6,0,0,0,s,0⟩=I7 s:=by unfold y8;simp
theorem c0z (r:Rd) (p:Pred) (h0:0≤r.a1w) (h1:r.a1w≤63):p6 gl prog 102 [.v r,.v p] (fun x=>x = .v (Q2 1 r p)):=by
 refine p6.jn func102 (by kernel_rfl) 12 rfl fun C hC hG => ?_
 refine .q 3 hG fun b2 => ?_
 refine .q 1 hG fun b3 => ?_
 refine .q 8 hG ?_
 refine .p (.a3q (.t a8) (.t a8) (by first|omega|(simp;done)|(simp;omega)|(simp at *;omega)) (by first|omega|(simp;done)|(simp;omega)|(simp at *;omega)) ?_)
 refine .q 5 hG ?_
 refine .e1 a8 a8 ?_
 rfl
theorem c0A (r:Rd) (p:Pred) (h0:0≤r.a1x) (h1:r.a1x≤31):p6 gl prog 103 [.v r,.v p] (fun x=>x = .v (Q2 2 r p)):=by
 refine p6.jn func103 (by kernel_rfl) 12 rfl fun C hC hG => ?_
 refine .q 3 hG fun b2 => ?_
 refine .q 1 hG fun b3 => ?_
 refine .q 8 hG ?_
 refine .p (.a3q (.t a8) (.t a8) (by first|omega|(simp;done)|(simp;omega)|(simp at *;omega)) (by first|omega|(simp;done)|(simp;omega)|(simp at *;omega)) ?_)
 refine .q 5 hG ?_
 refine .e1 a8 a8 ?_
 rfl
theorem c0B (r:Rd) (p:Pred) (h0:0≤r.Minute):p6 gl prog 104 [.v r,.v p] (fun x=>x = .v (Q2 3 r p)):=by
 refine p6.jn func104 (by kernel_rfl) 14 rfl fun C hC hG => ?_
 refine .q 3 hG fun b2 => ?_
 refine .q 1 hG fun b3 => ?_
 refine .q 8 hG ?_
 refine .p (.quo (.t a8) (.i a8) (by first|omega|(simp;done)|(simp;omega)|(simp at *;omega)) (by first|omega|(simp;done)|(simp;omega)|(simp at *;omega)) (.p (.rem (.t a8) (.i a8) (by first|omega|(simp;done)|(simp;omega)|(simp at *;omega)) (by first|omega|(simp;done)|(simp;omega)|(simp at *;omega)) (.p (.a3q (.t a8) (.t a8) (by first|omega|(simp;done)|(simp;omega)|(simp at *;omega)) (by first|omega|(simp;done)|(simp;omega)|(simp at *;omega)) ?_)))))
 refine .q 5 hG ?_
 refine .e1 a8 a8 ?_
 rfl
theorem c0C (r:Rd) (p:Pred):p6 gl prog 105 [.v r,.v p] (fun x=>x = .v (Q2 4 r p)):=by
 refine p6.jn func105 (by kernel_rfl) 17 rfl fun C hC hG => ?_
 refine .q 3 hG fun b2 => ?_
 refine .q 1 hG fun b3 => ?_
 refine .q 19 hG ?_
 refine .e1 a8 a8 ?_
 rfl
theorem b8A (r:Rd) (p:Pred) (h0:0≤r.Minute):p6 gl prog 106 [.v r,.v p] (fun x=>x = .v (Q2 5 r p)):=by
 refine p6.jn func106 (by kernel_rfl) 34 rfl fun C hC hG => ?_
 refine .q 3 hG fun b2 => ?_
 refine .q 1 hG fun b3 => ?_
 refine .q 6 hG ?_
 refine .p (.rem (.t a8) (.i a8) (by first|omega|(simp;done)|(simp;omega)|(simp at *;omega)) (by first|omega|(simp;done)|(simp;omega)|(simp at *;omega)) ?_)
 refine .q 12 hG ⟨fun hc13 => ?_,fun hc13 => ?_⟩
 ·refine .q 15 hG ?_
  refine .e1 a8 a8 ?_
  unfold Q2;rw [if_neg (by decide),if_neg (by decide),if_neg (by decide),if_neg (by decide),if_pos rfl,if_pos hc13]
 ·refine .q 16 hG ?_
  refine .e1 a8 a8 ?_
  unfold Q2;rw [if_neg (by decide),if_neg (by decide),if_neg (by decide),if_neg (by decide),if_pos rfl,if_neg hc13]
theorem b5U (r:Rd) (p:Pred):p6 gl prog 107 [.v r,.v p] (fun x=>x = .v (Q2 6 r p)):=by
 refine p6.jn func107 (by kernel_rfl) 10 rfl fun C hC hG => ?_
 refine .q 3 hG fun b2 => ?_
 refine .q 1 hG fun b3 => ?_
 refine .q 12 hG ?_
 refine .e1 a8 a8 ?_
 rfl
theorem b8B (r:Rd) (p:Pred):p6 gl prog 108 [.v r,.v p] (fun x=>x = .v (Q2 7 r p)):=by
 refine p6.jn func108 (by kernel_rfl) 5 rfl fun C hC hG => ?_
 refine .q 3 hG fun b2 => ?_
 refine .q 1 hG fun b3 => ?_
 refine .q 7 hG ?_
 refine .e1 a8 a8 ?_
 rfl
theorem b0l (c:Cx):p6 gl prog 24 [.v c] (fun r=>r = .v (U7 c)):=by
 refine p6.jn func24 (by kernel_rfl) 37 rfl fun C hC hG => ?_
 refine .q 3 hG fun b1 => ?_
 refine .q 3 hG ?_
 refine .C1 hC .z (.O9 1 a8 .z ?_)
 refine .q 32 hG ?_
 refine .go 31 a8 (.t a8) (fun hg34 => .bS2 j2.l0 j2.l4 a8 R3 a5z (fun c0 c4=>(⟨c0,0,0,0,c4,0⟩:j2)) (fun _ _=>a8) a8 a8 a8 (.i a8) (.q a8 hg34) a8) ?_
 refine .kg hG (V6 _) ?_
 refine .q 4 hG ?_
 refine .e1 a8 a8 ?_
 refine congrArg AV.v ?_
 unfold U7
 rw [c1m]
theorem b3G {c:Cx} (h:U7 c=true):0≤c.a1w∧c.a1w≤63∧0≤c.a1x∧c.a1x≤31∧0≤c.Minute∧c.Minute≤67108864:=by
 unfold U7 at h
 simp only [Bool.and_eq_true,decide_eq_true_eq] at h
 omega
theorem b5V {p:Pred} (h:y8 p=true):p.Kind=1∨p.Kind=2∨p.Kind=3∨p.Kind=4∨p.Kind=5∨p.Kind=6∨p.Kind=7:=by
 unfold y8 at h
 by_cases h1:p.Kind=1∨p.Kind=2∨p.Kind=3
 ·omega
 rw [if_neg h1] at h
 by_cases h4:p.Kind=4
 ·omega
 by_cases h5:p.Kind=5
 ·omega
 by_cases h6:p.Kind=6
 ·omega
 by_cases h7:p.Kind=7
 ·omega
 rw [if_neg h4,if_neg h5,if_neg h6,if_neg h7] at h;cases h
abbrev HF:=Fn1 prog Pred Bool
theorem c4R:F1 prog 80 HF := .ok (by kernel_rfl)
theorem c1n:F1 prog 184 (K5 8 HF) := .ok (by kernel_rfl)
instance:TyJ prog 184 (K5 8 HF):=⟨c1n⟩
theorem c0D (p:Pred) (c:Cx):p6 gl prog 55 [.v p,.v c] (fun r=>r = .v (M3 p c)):=by
 refine p6.jn func55 (by kernel_rfl) 37 rfl fun C hC hG => ?_
 refine .q 3 hG fun b2 => ?_
 refine .q 1 hG fun b3 => ?_
 refine .q 4 hG ?_
 refine .C1 hC .z (.O9 3 a8 .z (.C1 hC .z1 (.O9 2 a8 .z1 ?_)))
 refine .q 2 hG ?_
 refine .k hG (V6 _) ?_
 refine .q 3 hG ?_
 refine .kg hG (b0l _) ?_
 refine .q 3 hG ?_
 refine .cond (.t a8) (fun hc14 => ?_) (fun hc14 => ?_)
 ·refine .q 5 hG ?_
  refine .e1 a8 a8 ?_
  refine congrArg AV.v (Eq.symm ?_)
  unfold M3
  simp at hc14
  cases hp:y8 p<;>simp_all
 ·refine .q 2 hG ?_
  have hq:y8 p=true∧U7 c=true:=by simp at hc14;exact hc14
  have hk:=b5V hq.1
  have hx:=b3G hq.2
  refine .q 2 hG ?_
  refine .conv 15 (.v (W2 c)) a8 (fun _ _ h=>h) ?_
  refine .q 1 hG fun b5 => ?_
  refine .q 5 hG ?_
  refine .p (.a5r hG (Q2 1 (W2 c)) (fun x=>c0z _ x hx.1 hx.2.1) (.cons (.t a8) .nil) ?_)
  refine .q 1 hG ?_
  refine .p (.a5r hG (Q2 2 (W2 c)) (fun x=>c0A _ x hx.2.2.1 hx.2.2.2.1) (.cons (.t a8) .nil) ?_)
  refine .q 1 hG ?_
  refine .p (.a5r hG (Q2 3 (W2 c)) (fun x=>c0B _ x hx.2.2.2.2.1) (.cons (.t a8) .nil) ?_)
  refine .q 1 hG ?_
  refine .p (.a5r hG (Q2 4 (W2 c)) (fun x=>c0C _ x) (.cons (.t a8) .nil) ?_)
  refine .q 1 hG ?_
  refine .p (.a5r hG (Q2 5 (W2 c)) (fun x=>b8A _ x hx.2.2.2.2.1) (.cons (.t a8) .nil) ?_)
  refine .q 1 hG ?_
  refine .p (.a5r hG (Q2 6 (W2 c)) (fun x=>b5U _ x) (.cons (.t a8) .nil) ?_)
  refine .q 1 hG ?_
  refine .p (.a5r hG (Q2 7 (W2 c)) (fun x=>b8B _ x) (.cons (.t a8) .nil) (.p (.U1 _ c1n c0X (.cons (j6.idx 1 (by decide)) _ a8 (.t a8) (.cons (j6.idx 2 (by decide)) _ a8 (.t a8) (.cons (j6.idx 3 (by decide)) _ a8 (.t a8) (.cons (j6.idx 4 (by decide)) _ a8 (.t a8) (.cons (j6.idx 5 (by decide)) _ a8 (.t a8) (.cons (j6.idx 6 (by decide)) _ a8 (.t a8) (.cons (j6.idx 7 (by decide)) _ a8 (.t a8) .nil))))))) a8 ?_)))
  refine .q 1 hG fun b6 => ?_
  refine .q 3 hG ?_
  refine .C1 hC .z (.O9 6 a8 .z (.draw (by kernel_rfl) 7 [[],[(31,0)],[(32,1)],[(33,2)],[],[(34,3),(35,4)],[(36,5)]] a8 (by kernel_rfl) a8 ?_))
  refine⟨_,j5.y9 j2.l0 (fun x=>x.Kind) a7x a8 (fun _=>a8) (.t a8) a8,?_⟩
  refine⟨_,j5.G8 I6 (.t a8) a8,?_⟩
  refine⟨_,j5.b9w c0X (.t a8) (.t a8) (by first|omega|(simp;done)|(simp;omega)|(simp at *;omega)) (by first|omega|(simp;done)|(simp;omega)|(simp at *;omega)) a8,?_⟩
  refine⟨_,j5.G8 c4R (.t a8) a8,?_⟩
  refine⟨_,j5.G8 R3 (.t a8) a8,?_⟩
  refine⟨_,j5.c0y (g1:=Q2 p.Kind (W2 c)) a8 (by rcases hk with e|e|e|e|e|e|e<;>(rw [c2G e];exact congrArg (fun k=>some (Q2 k (W2 c))) e.symm)) (.t a8) a8,?_⟩
  refine⟨_,j5.assign (.t a8) a8,?_⟩
  show D1 _ _ _ _ _ [] ((4,_)::(36,_)::(35,_)::(34,_)::(33,_)::(32,_)::(31,_)::_) _
  refine .q 2 hG ?_
  refine .e1 a8 a8 ?_
  refine congrArg AV.v (Eq.symm ?_)
  unfold M3
  rw [hq.1,hq.2];rfl
def b1V (l:List Pred) (c:Cx):Int:=if l.all (fun p=>M3 p c) then 0 else (l.findIdx (fun p => !M3 p c):Nat)
theorem b8C {l:List Pred} {c:Cx} (h:l.all (fun p=>M3 p c)=true):b1V l c=0:=by unfold b1V;rw [if_pos h]
theorem b8D {l:List Pred} {c:Cx} (k:Nat) (hk:k < l.length) (h:(l.take k).all (fun p=>M3 p c)=true) (hn:M3 l[k] c=false):b1V l c=k∧l.all (fun p=>M3 p c)=false:=by
 have ha:l.all (fun p=>M3 p c)=false:=List.all_eq_false.2 ⟨l[k],List.getElem_mem hk,by simp [hn]⟩
 refine⟨?_,ha⟩
 unfold b1V
 rw [if_neg (by rw [ha];decide)]
 have:l.findIdx (fun p => !M3 p c)=k:=by
  rw [List.findIdx_eq hk]
  refine⟨by simp [hn],fun j hj => ?_⟩
  have h2:=List.all_eq_true.1 h l[j] (by rw [List.mem_take_iff_getElem];exact⟨j,by omega,rfl⟩)
  simp [h2]
 rw [this]
theorem c1o (l:List Pred) (c:Cx):p6 gl prog 29 [.v l,.v c] (fun r=>r = .t2 (.v (b1V l c)) (.v (l.all fun p=>M3 p c))):=by
 refine p6.jn func29 (by kernel_rfl) 21 rfl fun C hC hG => ?_
 refine .q 3 hG fun b3 => ?_
 refine .q 5 hG ?_
 refine .C1 hC .z (.O9 3 a8 .z (.X3 0 a8 fun hl=>(.drop ?_)))
 refine .q 6 hG ?_
 refine .E1 (α:=Nat) [(3,_),(8,_),(9,_)] (fun k R=>(10,.v (k:Int))::R) (fun k => []) (fun k=>k≤l.length∧(l.take k).all (fun p=>M3 p c)=true) (fun k=>l.length - k) (0) (.c2 a8 a8 (.cons a8 (.nil _))) ?_ (.c2 a8 a8 (.c2 a8 a8 (.nil _))) (a8) fun k hF => ?_
 ·simp
 obtain⟨h1,h2⟩:=hF
 refine .q 6 hG ⟨fun hc11 => ?_,fun hc11 => ?_⟩
 ·refine .q 6 hG ?_
  refine .ix (by first|omega|(simp;done)|(simp;omega)|(simp at *;omega)) (by first|omega|(simp;done)|(simp;omega)|(simp at *;omega)) ?_
  refine .q 2 hG fun b7 => ?_
  refine .q 4 hG ?_
  refine .C1 hC .z (.O9 7 a8 .z (.drop ?_))
  refine .q 3 hG ?_
  refine .p (.p8 hG (c0D _ _) (.cons (.t a8) (.cons (.t a8) .nil)) ?_)
  refine .q 2 hG ?_
  refine .cond (.t a8) (fun hc18 => ?_) (fun hc18 => ?_)
  ·refine .q 7 hG ?_
   refine .e2 a8 a8 a8 ?_
   have ha:=b8D k (by omega) h2 (by simpa using hc18)
   rw [ha.1,ha.2]
  ·refine .q 2 hG ?_
   refine .ad (by first|omega|(simp;done)|(simp;omega)|(simp at *;omega)) (by first|omega|(simp;done)|(simp;omega)|(simp at *;omega)) ?_
   refine .q 2 hG ?_
   refine⟨k+1,.c2 rfl rfl (.c2 rfl rfl (.nil _)),rfl,?_,by omega⟩
   refine⟨by omega,?_⟩;rw [all_succ _ _ _ (by omega),h2];simpa using hc18
 ·refine .q 7 hG ?_
  refine .e2 a8 a8 a8 ?_
  rw [List.take_of_length_le (by omega)] at h2
  rw [b8C h2,h2]
def a61 (b:Z7) (c:Cx):Int:=if M1 b≠0 then M1 b else if U7 c=false then 1 else if ((P5 b.l9).all fun p=>M3 p c)=false then 22 else if (b.j3.all fun d=>d.j9.all fun p=>M3 p c)=false then 23 else 0
theorem a9a (b:Z7) (c:Cx) (hl:b.l9.length≤1000000):p6 gl prog 11 [.v b,.v c] (fun r=>r = .v (a61 b c)):=by
 refine p6.jn func11 (by kernel_rfl) 47 rfl fun C hC hG => ?_
 refine .q 3 hG fun b2 => ?_
 refine .q 1 hG fun b3 => ?_
 refine .q 4 hG ?_
 refine .C1 hC .z (.O9 3 a8 .z (.C1 hC .z1 (.O9 2 a8 .z1 (.drop (.drop ?_)))))
 refine .q 2 hG ?_
 refine .k hG (b4F _ hl) ?_
 refine .q 8 hG ⟨fun hc15 => ?_,fun hc15 => ?_⟩
 ·refine .q 6 hG ?_
  refine .e1 a8 a8 ?_
  unfold a61
  rw [if_pos hc15]
 ·refine .q 5 hG ?_
  refine .k hG (b0l _) ?_
  refine .q 2 hG ?_
  refine .cond (.t a8) (fun hc19 => ?_) (fun hc19 => ?_)
  ·refine .q 5 hG ?_
   refine .e1 a8 a8 ?_
   unfold a61
   rw [if_neg hc15,if_pos (by simpa using hc19)]
  ·refine .q 3 hG ?_
   refine .draw (by kernel_rfl) 10 [[],[(21,0)],[(22,1)],[],[(23,2),(24,3)],[(25,4)],[(20,5)],[(20,5)],[(26,6)],[(27,7)]] a8 (by kernel_rfl) a8 ?_
   refine⟨_,j5.y9 u9.l3 (fun x=>x.l9) a6b a8 (fun _=>a8) (.t a8) a8,?_⟩
   refine⟨_,j5.G8 a9T (.t a8) a8,?_⟩
   refine⟨_,j5.p8 hG (a6T _ hl) (.cons (.t a8) .nil) a8,?_⟩
   refine⟨_,j5.G8 a9U (.t a8) a8,?_⟩
   refine⟨_,j5.p8 hG (c1o _ _) (.cons (.t a8) (.cons (.t a8) .nil)) a8,?_⟩
   refine⟨_,j5.move (.t a8) a8,?_⟩
   refine⟨_,j5.a7E (.t a8) a8,?_⟩
   refine⟨_,j5.a7F (.t a8) a8,?_⟩
   refine⟨_,j5.assign (.t a8) a8,?_⟩
   refine⟨_,j5.assign (.t a8) a8,?_⟩
   show D1 _ _ _ _ _ [] ((7,_)::(6,_)::(27,_)::(26,_)::(20,_)::(25,_)::(24,_)::(23,_)::(22,_)::(21,_)::_) _
   refine .q 6 hG ?_
   refine .cond (.t a8) (fun hc29 => ?_) (fun hc29 => ?_)
   ·refine .q 5 hG ?_
    refine .e1 a8 a8 ?_
    unfold a61
    rw [if_neg hc15,if_neg (by simpa using hc19),if_pos (by simpa using hc29)]
   ·refine .q 10 hG ?_
    refine .E1 (α:=Nat) [(3,_),(31,_),(32,_)] (fun k R=>(33,.v (k:Int))::R) (fun k => []) (fun k=>k≤b.j3.length∧((b.j3.take k).all fun d=>d.j9.all fun p=>M3 p c)=true) (fun k=>b.j3.length - k) (0) (.c2 a8 a8 (.cons a8 (.nil _))) ?_ (.c2 a8 a8 (.c2 a8 a8 (.nil _))) (a8) fun k hF => ?_
    ·simp
    obtain⟨h1,h2⟩:=hF
    refine .q 6 hG ⟨fun hc34 => ?_,fun hc34 => ?_⟩
    ·refine .q 5 hG ?_
     refine .ix (by first|omega|(simp;done)|(simp;omega)|(simp at *;omega)) (by first|omega|(simp;done)|(simp;omega)|(simp at *;omega)) ?_
     refine .q 2 hG fun b9 => ?_
     refine .q 3 hG ?_
     refine .C1 hC .z (.O9 9 a8 .z (.drop (.X3 31 a8 fun hl31 => ?_)))
     refine .q 4 hG ?_
     refine .p (.p8 hG (c1o _ _) (.cons (.t a8) (.cons (.t a8) .nil)) ?_)
     refine .q 11 hG ?_
     refine .cond (.t a8) (fun hc45 => ?_) (fun hc45 => ?_)
     ·refine .q 5 hG ?_
      refine .e1 a8 a8 ?_
      unfold a61
      rw [if_neg hc15,if_neg (by simpa using hc19),if_neg (by simpa using hc29),if_pos (List.all_eq_false.2 ⟨b.j3[k],List.getElem_mem _,by simpa using hc45⟩)]
     ·refine .q 2 hG ?_
      refine .ad (by first|omega|(simp;done)|(simp;omega)|(simp at *;omega)) (by first|omega|(simp;done)|(simp;omega)|(simp at *;omega)) ?_
      refine .q 2 hG ?_
      refine⟨k+1,.c2 rfl rfl (.c2 rfl rfl (.nil _)),rfl,?_,by omega⟩
      refine⟨by omega,?_⟩;rw [all_succ _ _ _ (by omega),h2];simpa using hc45
    ·refine .q 6 hG ?_
     refine .e1 a8 a8 ?_
     rw [List.take_of_length_le (by omega)] at h2
     unfold a61
     rw [if_neg hc15,if_neg (by simpa using hc19),if_neg (by simpa using hc29),if_neg (by rw [h2];decide)]
theorem a8b (w:Value) (d:o0) (hd:H9 d):G0 gl prog 6 [dk w] [.ob w d] (fun r Hs=>∃ c:Cx,∃ d',H9 d'∧r = .v c∧Hs = [.ob w d']):=by
 refine G0.R1 func6 rfl (by kernel_rfl) 15 rfl rfl _ rfl _ rfl fun C hC hG => ?_
 refine .q 3 hG fun b2 => ?_
 refine .q 4 hG ?_
 refine .km hG (F6 _ _ _ (by first|assumption|exact y3 _) (by first|omega|(simp;done)|(simp;omega)|(simp at *;omega)) (by first|omega|(simp;done)|(simp;omega)|(simp at *;omega))) .z1 (by rintro _ _ ⟨_,_,_,_,_,_,rfl⟩;exact⟨_,rfl⟩) fun r4 B4 hr4 => ?_
 obtain⟨v4,d4,h04,h14,hd4,rfl,hB⟩:=hr4
 cases hB
 refine .q 1 hG ?_
 refine .km hG (a7k _ _ _ _ (by first|assumption|exact y3 _) (by first|omega|(simp;done)|(simp;omega)|(simp at *;omega)) (by first|omega|(simp;done)|(simp;omega)|(simp at *;omega)) (by first|omega|(simp;done)|(simp;omega)|(simp at *;omega))) .z1 (by rintro _ _ ⟨_,_,_,_,_,_,rfl⟩;exact⟨_,rfl⟩) fun r6 B6 hr6 => ?_
 obtain⟨v6,d6,h06,h16,hd6,rfl,hB⟩:=hr6
 cases hB
 have hm1:v4*v6≤3*v6:=Int.mul_le_mul_of_nonneg_right (by omega) (by omega)
 have hm0:0≤v4*v6:=Int.mul_nonneg (by omega) (by omega)
 refine .p (.mul (.t a8) (.t a8) (by first|omega|(simp;done)|(simp;omega)|(simp at *;omega)) (by first|omega|(simp;done)|(simp;omega)|(simp at *;omega)) ?_)
 refine .q 1 hG ?_
 refine .km hG (F6 _ _ _ (by first|assumption|exact y3 _) (by first|omega|(simp;done)|(simp;omega)|(simp at *;omega)) (by first|omega|(simp;done)|(simp;omega)|(simp at *;omega))) .z1 (by rintro _ _ ⟨_,_,_,_,_,_,rfl⟩;exact⟨_,rfl⟩) fun r9 B9 hr9 => ?_
 obtain⟨v9,d9,h09,h19,hd9,rfl,hB⟩:=hr9
 cases hB
 refine .q 1 hG ?_
 refine .km hG (Y5 _ _ (by assumption)) .z1 (by rintro _ _ ⟨_,_,_,_,_,_,rfl⟩;exact⟨_,rfl⟩) fun r11 B11 hr11 => ?_
 obtain⟨v11,h011,h111,d11,hd11,rfl,hB⟩:=hr11
 cases hB
 refine .q 1 hG ?_
 refine .km hG (b1s _ _ (by assumption)) .z1 (by rintro _ _ ⟨_,_,_,_,_,rfl⟩;exact⟨_,rfl⟩) fun r13 B13 hr13 => ?_
 obtain⟨s13,hs13,d13,hd13,rfl,hB⟩:=hr13
 cases hB
 refine .p (.bS4 x7.l0 x7.l1 x7.l2 x7.l3 a8 a9U c22 (fun c0 c1 c2 c3=>(⟨c0,c1,c2,c3⟩:x7)) (fun _ _ _ _=>a8) a8 a8 a8 a8 a8 (.t a8) (.t a8) (.t a8) (.t a8) ?_)
 refine .q 3 hG ?_
 refine⟨_,.r1 a8 (.cell a9U a8 .z),?_⟩
 refine⟨_,.cons .z1 (.nil),?_⟩
 exact⟨_,_,hd13,a8,a8⟩
open Go.Fl Go.Ab Go.Mac
abbrev Sp:=u0
def inS (s:Sp) (m:Int):Prop:=s.p3≤m∧m≤s.To
def inL (l:List Sp) (m:Int):Prop:=∃ s∈l,inS s m
structure Canon (l:List Sp):Prop where
 ne:∀ s∈l,s.p3≤s.To
 gap:l.Pairwise fun s t=>s.To+1 < t.p3
theorem Canon.nil:Canon []:=⟨by simp,.nil⟩
theorem Canon.one {s:Sp} (h:s.p3≤s.To):Canon [s]:=⟨by simpa using h,by simp⟩
theorem Canon.cons {s:Sp} {r:List Sp} (h:Canon (s::r)):s.p3≤s.To∧(∀ t∈r,s.To+1 < t.p3)∧Canon r :=
 ⟨h.ne s (by simp),(List.pairwise_cons.1 h.gap).1,⟨fun t ht=>h.ne t (by simp [ht]),(List.pairwise_cons.1 h.gap).2⟩⟩
theorem a6y:∀ {a b:List Sp},Canon a→Canon b→(∀ m,inL a m↔inL b m)→a=b
 | [],[],_,_,_=>rfl
 | [],t::q,_,hb,h=>by
  obtain⟨s,hs,_⟩:=(h t.p3).2 ⟨t,by simp,Int.le_refl _,hb.cons.1⟩
  cases hs
 | s::r,[],ha,_,h=>by
  obtain⟨t,ht,_⟩:=(h s.p3).1 ⟨s,by simp,Int.le_refl _,ha.cons.1⟩
  cases ht
 | s::r,t::q,ha,hb,h=>by
  obtain⟨h1,h2,h3⟩:=ha.cons
  obtain⟨k1,k2,k3⟩:=hb.cons
  have lo:∀ {x:Sp} {l:List Sp} {m:Int},(∀ y∈l,x.To+1 < y.p3)→x.p3≤x.To→inL (x::l) m→x.p3≤m∧(m≤x.To∨(x.To+1 < m∧inL l m)):=fun {x l m} hl hx hm=>by
   obtain⟨y,hy,hy2⟩:=hm
   have h9:=hy2.1
   rcases List.mem_cons.1 hy with rfl|hy
   ·exact⟨hy2.1,.inl hy2.2⟩
   ·have:=hl y hy
    exact⟨by omega,.inr ⟨by omega,y,hy,hy2⟩⟩
  have e1:s.p3=t.p3:=by
   have a1:=(lo k2 k1 ((h s.p3).1 ⟨s,by simp,Int.le_refl _,h1⟩)).1
   have a2:=(lo h2 h1 ((h t.p3).2 ⟨t,by simp,Int.le_refl _,k1⟩)).1
   omega
  have e2:s.To=t.To:=by
   rcases Int.lt_trichotomy s.To t.To with hlt|he|hgt
   ·rcases (lo h2 h1 ((h (s.To+1)).2 ⟨t,by simp,by omega,by omega⟩)).2 with h4|h4<;>omega
   ·exact he
   ·rcases (lo k2 k1 ((h (t.To+1)).1 ⟨s,by simp,by omega,by omega⟩)).2 with h4|h4<;>omega
  have e3:s=t:=by cases s;cases t;simp only at e1 e2;subst e1;subst e2;rfl
  subst e3
  have hr:∀ m,inL r m↔inL q m:=fun m=>by
   constructor
   ·rintro⟨y,hy,hy2⟩
    have:=h2 y hy
    have h9:=hy2.1
    rcases (lo k2 k1 ((h m).1 ⟨y,by simp [hy],hy2⟩)).2 with h4|h4
    ·omega
    ·exact h4.2
   ·rintro⟨y,hy,hy2⟩
    have:=k2 y hy
    have h9:=hy2.1
    rcases (lo h2 h1 ((h m).2 ⟨y,by simp [hy],hy2⟩)).2 with h4|h4
    ·omega
    ·exact h4.2
  rw [a6y h3 k3 hr]
def a7b (x y:Sp):Option Sp:=if max x.p3 y.p3≤min x.To y.To then some ⟨max x.p3 y.p3,min x.To y.To⟩ else none
def T1 (a b:List Sp):List Sp:=a.flatMap fun x=>b.filterMap (a7b x)
theorem a0g {x y z:Sp} (h:a7b x y=some z):z.p3=max x.p3 y.p3∧z.To=min x.To y.To∧z.p3≤z.To:=by
 unfold a7b at h
 split at h
 ·cases h;exact⟨rfl,rfl,by assumption⟩
 ·cases h
theorem a5s (a b:List Sp) (m:Int):inL (T1 a b) m↔inL a m∧inL b m:=by
 constructor
 ·rintro⟨z,hz,h1,h2⟩
  obtain⟨x,hx,hz⟩:=List.mem_flatMap.1 hz
  obtain⟨y,hy,hz⟩:=List.mem_filterMap.1 hz
  obtain⟨e1,e2,_⟩:=a0g hz
  exact⟨⟨x,hx,by omega,by omega⟩,⟨y,hy,by omega,by omega⟩⟩
 ·rintro⟨⟨x,hx,h1,h2⟩,⟨y,hy,h3,h4⟩⟩
  refine⟨⟨max x.p3 y.p3,min x.To y.To⟩,List.mem_flatMap.2 ⟨x,hx,List.mem_filterMap.2 ⟨y,hy,?_⟩⟩,?_,?_⟩
  ·unfold a7b;rw [if_pos (by omega)]
  ·show max x.p3 y.p3≤m;omega
  ·show m≤min x.To y.To;omega
theorem a5T {a b:List Sp} (ha:Canon a) (hb:Canon b):Canon (T1 a b):=by
 refine⟨fun z hz => ?_,?_⟩
 ·obtain⟨x,hx,hz⟩:=List.mem_flatMap.1 hz
  obtain⟨y,hy,hz⟩:=List.mem_filterMap.1 hz
  exact(a0g hz).2.2
 ·refine List.pairwise_flatMap.2 ⟨fun x hx => ?_,ha.gap.imp_of_mem fun {x1 x2} h1 h2 hx z1 hz1 z2 hz2 => ?_⟩
  ·refine List.pairwise_filterMap.2 (hb.gap.imp fun {y1 y2} hy z1 hz1 z2 hz2 => ?_)
   have e1:=a0g hz1
   have e2:=a0g hz2
   omega
  ·obtain⟨y1,_,hz1⟩:=List.mem_filterMap.1 hz1
   obtain⟨y2,_,hz2⟩:=List.mem_filterMap.1 hz2
   have e1:=a0g hz1
   have e2:=a0g hz2
   omega
def Y1 (out:List Sp) (s:Sp):List Sp :=
 match out.getLast? with
 | none => [s]
 | some t=>if s.p3≤t.To+1 then out.dropLast ++ [⟨t.p3,max t.To s.To⟩] else out ++ [s]
theorem a0X (s:Sp):Y1 [] s = [s]:=rfl
theorem a2q (out:List Sp) (t s:Sp):Y1 (out ++ [t]) s=if s.p3≤t.To+1 then out ++ [⟨t.p3,max t.To s.To⟩] else out ++ [t] ++ [s]:=by
 unfold Y1
 rw [List.getLast?_append]
 simp
theorem a3B {out:List Sp} {t:Sp}:Canon (out ++ [t])↔Canon out∧t.p3≤t.To∧∀ s∈out,s.To+1 < t.p3:=by
 constructor
 ·intro h
  have h2:=List.pairwise_append.1 h.gap
  exact⟨⟨fun s hs=>h.ne s (by simp [hs]),h2.1⟩,h.ne t (by simp),fun s hs=>h2.2.2 s hs t (by simp)⟩
 ·rintro⟨h1,h2,h3⟩
  refine⟨fun s hs => ?_,List.pairwise_append.2 ⟨h1.gap,by simp,fun s hs u hu => ?_⟩⟩
  ·rcases List.mem_append.1 hs with h|h
   ·exact h1.ne s h
   ·rw [List.mem_singleton.1 h];exact h2
  ·rw [List.mem_singleton.1 hu];exact h3 s hs
structure b0m (out:List Sp) (lo:Int):Prop where
 canon:Canon out
 lo:∀ s∈out,s.p3≤lo
theorem b3H {out:List Sp} {lo:Int} {s:Sp} (h:b0m out lo) (hs:lo≤s.p3) (hs2:s.p3≤s.To):b0m (Y1 out s) s.p3∧∀ m,inL (Y1 out s) m↔inL out m∨inS s m:=by
 rcases List.eq_nil_or_concat out with rfl|⟨r,t,rfl⟩
 ·refine⟨⟨Canon.one hs2,by simp [a0X]⟩,fun m => ?_⟩
  constructor
  ·rintro⟨x,hx,hm⟩;rw [a0X] at hx;rw [List.mem_singleton.1 hx] at hm;exact .inr hm
  ·rintro (⟨x,hx,_⟩|hm)
   ·cases hx
   ·exact⟨s,by simp [a0X],hm⟩
 ·simp only [List.concat_eq_append] at h ⊢
  rw [a2q]
  obtain⟨c1,c2,c3⟩:=a3B.1 h.canon
  have ht:=h.lo t (by simp)
  split
  ·rename_i hle
   refine⟨⟨a3B.2 ⟨c1,by show t.p3≤max t.To s.To;omega,c3⟩,fun x hx => ?_⟩,fun m => ?_⟩
   ·rcases List.mem_append.1 hx with hx|hx
    ·have:=h.lo x (by simp [hx]);omega
    ·rw [List.mem_singleton.1 hx];show t.p3≤s.p3;omega
   ·constructor
    ·rintro⟨x,hx,hm1,hm2⟩
     rcases List.mem_append.1 hx with hx|hx
     ·exact .inl ⟨x,by simp [hx],hm1,hm2⟩
     ·rw [List.mem_singleton.1 hx] at hm1 hm2
      have hm1:t.p3≤m:=hm1
      have hm2:m≤max t.To s.To:=hm2
      by_cases h5:m≤t.To
      ·exact .inl ⟨t,by simp,hm1,h5⟩
      ·exact .inr ⟨by omega,by omega⟩
    ·rintro (⟨x,hx,hm⟩|hm)
     ·rcases List.mem_append.1 hx with hx|hx
      ·exact⟨x,by simp [hx],hm⟩
      ·rw [List.mem_singleton.1 hx] at hm
       exact⟨⟨t.p3,max t.To s.To⟩,by simp,hm.1,by have:=hm.2;show m≤max t.To s.To;omega⟩
     ·exact⟨⟨t.p3,max t.To s.To⟩,by simp,by have:=hm.1;show t.p3≤m;omega,by have:=hm.2;show m≤max t.To s.To;omega⟩
  ·rename_i hgt
   refine⟨⟨a3B.2 ⟨h.canon,hs2,fun x hx => ?_⟩,fun x hx => ?_⟩,fun m => ?_⟩
   ·rcases List.mem_append.1 hx with hx|hx
    ·have:=c3 x hx;omega
    ·rw [List.mem_singleton.1 hx];omega
   ·rcases List.mem_append.1 hx with hx|hx
    ·have:=h.lo x hx;omega
    ·rw [List.mem_singleton.1 hx];exact Int.le_refl _
   ·constructor
    ·rintro⟨x,hx,hm⟩
     rcases List.mem_append.1 hx with hx|hx
     ·exact .inl ⟨x,hx,hm⟩
     ·rw [List.mem_singleton.1 hx] at hm;exact .inr hm
    ·rintro (⟨x,hx,hm⟩|hm)
     ·exact⟨x,List.mem_append.2 (.inl hx),hm⟩
     ·exact⟨s,by simp,hm⟩
def O6 (l:List Sp):List Sp:=l.foldl Y1 []
theorem a9b:∀ (l:List Sp) (out:List Sp) (lo:Int),b0m out lo→(∀ s∈l,lo≤s.p3∧s.p3≤s.To)→l.Pairwise (fun s t=>s.p3≤t.p3)→Canon (l.foldl Y1 out)∧∀ m,inL (l.foldl Y1 out) m↔inL out m∨inL l m
 | [],out,lo,h,_,_=>⟨h.canon,fun m=>⟨.inl,fun h=>h.elim id fun ⟨s,hs,_⟩=>by cases hs⟩⟩
 | s::l,out,lo,h,hl,hp=>by
  obtain⟨h1,h2⟩:=b3H h (hl s (by simp)).1 (hl s (by simp)).2
  have hp2:=List.pairwise_cons.1 hp
  obtain⟨h3,h4⟩:=a9b l _ _ h1 (fun t ht=>⟨hp2.1 t ht,(hl t (by simp [ht])).2⟩) hp2.2
  refine⟨h3,fun m => ?_⟩
  rw [List.foldl_cons,h4 m,h2 m]
  constructor
  ·rintro ((h5|h5)|⟨t,ht,h5⟩)
   ·exact .inl h5
   ·exact .inr ⟨s,by simp,h5⟩
   ·exact .inr ⟨t,by simp [ht],h5⟩
  ·rintro (h5|⟨t,ht,h5⟩)
   ·exact .inl (.inl h5)
   ·rcases List.mem_cons.1 ht with rfl|ht
    ·exact .inl (.inr h5)
    ·exact .inr ⟨t,ht,h5⟩
theorem b1W {l:List Sp} (hl:∀ s∈l,s.p3≤s.To) (hp:l.Pairwise fun s t=>s.p3≤t.p3):Canon (O6 l)∧∀ m,inL (O6 l) m↔inL l m:=by
 cases l with
 | nil=>exact⟨Canon.nil,fun m=>Iff.rfl⟩
 | cons s l =>
  have hp2:=List.pairwise_cons.1 hp
  obtain⟨h3,h4⟩:=a9b (s::l) [] s.p3 ⟨Canon.nil,by simp⟩ (fun t ht=>⟨by rcases List.mem_cons.1 ht with rfl|h;exact Int.le_refl _;exact hp2.1 t h,hl t ht⟩) hp
  exact⟨h3,fun m=>by rw [show O6 (s::l)=(s::l).foldl Y1 [] from rfl,h4 m];exact⟨fun h=>h.elim (fun ⟨x,hx,_⟩=>by cases hx) id,.inr⟩⟩
def a3C (l:List Sp):List Sp:=O6 (l.mergeSort fun s t=>decide (s.p3≤t.p3))
theorem a4z {l:List Sp} (hl:∀ s∈l,s.p3≤s.To):Canon (a3C l)∧∀ m,inL (a3C l) m↔inL l m:=by
 have h1:=List.pairwise_mergeSort (le:=fun s t:Sp=>decide (s.p3≤t.p3)) (fun a b c h1 h2=>by simp only [decide_eq_true_eq] at *;omega) (fun a b=>by simp only [Bool.or_eq_true,decide_eq_true_eq];omega) l
 have h2:=b1W (l:=l.mergeSort fun s t=>decide (s.p3≤t.p3)) (fun s hs=>hl s (List.mem_mergeSort.1 hs)) (h1.imp fun h=>by simpa using h)
 refine⟨h2.1,fun m=>(h2.2 m).trans ?_⟩
 exact⟨fun ⟨s,hs,h⟩=>⟨s,List.mem_mergeSort.1 hs,h⟩,fun ⟨s,hs,h⟩=>⟨s,List.mem_mergeSort.2 hs,h⟩⟩
theorem b5W {l q:List Sp} (hl:∀ s∈l,s.p3≤s.To) (hq:∀ s,s∈q↔s∈l) (hp:q.Pairwise fun s t=>s.p3≤t.p3):O6 q=a3C l:=by
 have h1:=b1W (l:=q) (fun s hs=>hl s ((hq s).1 hs)) hp
 have h2:=a4z hl
 refine a6y h1.1 h2.1 fun m => ?_
 rw [h1.2,h2.2]
 exact⟨fun ⟨s,hs,h⟩=>⟨s,(hq s).1 hs,h⟩,fun ⟨s,hs,h⟩=>⟨s,(hq s).2 hs,h⟩⟩
abbrev Au:=l8
def bt (m:UInt64) (i:Int):Prop:=m.toNat.testBit i.toNat=true
instance (m:UInt64) (i:Int):Decidable (bt m i):=by unfold bt;infer_instance
def P8 (a:Au) (d:Int):List Sp:=if d < a.p3/1440∨d>a.To/1440∨¬bt a.T7 (d % 7) then [] else T1 a.E3 [⟨max (a.p3 - d*1440) 0,min (a.To - d*1440) 1439⟩]
def atT (a:Au) (m:Int):Prop:=a.p3≤m∧m≤a.To∧bt a.T7 (m/1440 % 7)∧inL a.E3 (m % 1440)
structure a1m (a:Au):Prop where
 a2d:0≤a.p3
 a4U:a.p3≤67108864
 to0:0≤a.To
 to1:a.To≤67108864
 canon:Canon a.E3
 day:∀ s∈a.E3,0≤s.p3∧s.To < 1440
theorem a4A {a:Au} (h:a1m a) (d t:Int):inL (P8 a d) t↔0≤t∧t < 1440∧atT a (d*1440+t):=by
 have e1:∀ t:Int,0≤t→t < 1440→(d*1440+t)/1440=d∧(d*1440+t) % 1440=t:=fun t h0 h1=>by omega
 unfold P8 atT
 constructor
 ·intro hm
  split at hm
  ·obtain⟨s,hs,_⟩:=hm;cases hs
  ·rename_i hc
   obtain⟨h1,s,hs,h2,h3⟩:=(a5s _ _ _).1 hm
   rw [List.mem_singleton.1 hs] at h2 h3
   have h2:max (a.p3 - d*1440) 0≤t:=h2
   have h3:t≤min (a.To - d*1440) 1439:=h3
   have ⟨e2,e3⟩:=e1 t (by omega) (by omega)
   refine⟨by omega,by omega,by omega,by omega,?_,by rw [e3];exact h1⟩
   rw [e2]
   exact Decidable.byContradiction fun h=>hc (.inr (.inr h))
 ·rintro⟨h0,h1,h2,h3,h4,h5⟩
  have ⟨e2,e3⟩:=e1 t h0 h1
  rw [e2] at h4
  rw [e3] at h5
  rw [if_neg (fun hc=>hc.elim (fun h=>by omega) fun hc=>hc.elim (fun h=>by omega) fun hc=>hc h4),a5s]
  exact⟨h5,_,List.mem_singleton.2 rfl,by show max (a.p3 - d*1440) 0≤t;omega,by show t≤min (a.To - d*1440) 1439;omega⟩
theorem a8c {a:Au} (h:a1m a) (d:Int):Canon (P8 a d):=by
 unfold P8
 split
 ·exact Canon.nil
 ·by_cases hc:max (a.p3 - d*1440) 0≤min (a.To - d*1440) 1439
  ·exact a5T h.canon (Canon.one hc)
  ·have:T1 a.E3 [⟨max (a.p3 - d*1440) 0,min (a.To - d*1440) 1439⟩] = []:=by
    refine List.eq_nil_iff_forall_not_mem.2 fun z hz => ?_
    obtain⟨x,hx,hz⟩:=List.mem_flatMap.1 hz
    obtain⟨y,hy,hz⟩:=List.mem_filterMap.1 hz
    rw [List.mem_singleton.1 hy] at hz
    have e:=a0g hz
    have e1:z.p3=max x.p3 (max (a.p3 - d*1440) 0):=e.1
    have e2:z.To=min x.To (min (a.To - d*1440) 1439):=e.2.1
    omega
   rw [this]
   exact Canon.nil
theorem b4M (t:Int):¬inL [] t:=fun ⟨_,hs,_⟩=>by cases hs
theorem Canon.ends {l:List Sp} (h:Canon l) (hl:l ≠ []):inL l (l.headD ⟨0,0⟩).p3∧inL l (l.getLastD ⟨0,0⟩).To∧∀ t,inL l t→(l.headD ⟨0,0⟩).p3≤t∧t≤(l.getLastD ⟨0,0⟩).To:=by
 have hh:∀ t,inL l t→(l.headD ⟨0,0⟩).p3≤t:=by
  cases l with
  | nil=>exact absurd rfl hl
  | cons s r =>
   rintro t ⟨x,hx,h1,h2⟩
   rcases List.mem_cons.1 hx with rfl|hx
   ·exact h1
   ·have:=h.cons.2.1 x hx;have:=h.cons.1;show s.p3≤t;omega
 have ht:inL l (l.getLastD ⟨0,0⟩).To∧∀ t,inL l t→t≤(l.getLastD ⟨0,0⟩).To:=by
  rcases List.eq_nil_or_concat l with rfl|⟨r,s,rfl⟩
  ·exact absurd rfl hl
  ·simp only [List.concat_eq_append] at h ⊢
   have e:((r ++ [s]).getLastD ⟨0,0⟩)=s:=by simp
   rw [e]
   obtain⟨c1,c2,c3⟩:=a3B.1 h
   refine⟨⟨s,by simp,c2,Int.le_refl _⟩,?_⟩
   rintro t ⟨x,hx,h1,h2⟩
   rcases List.mem_append.1 hx with hx|hx
   ·have:=c3 x hx;omega
   ·rw [List.mem_singleton.1 hx] at h2;exact h2
 refine⟨?_,ht.1,fun t h=>⟨hh t h,ht.2 t h⟩⟩
 cases l with
 | nil=>exact absurd rfl hl
 | cons s r=>exact⟨s,by simp,Int.le_refl _,h.cons.1⟩
def U3 (a:Au) (o:Au) (d:Int):Au :=
 if P8 a d = [] then o else { o with T7:=o.T7 ||| ((1:UInt64) <<< UInt64.ofNat (d % 7).toNat),p3:=min o.p3 (d*1440+((P8 a d).headD ⟨0,0⟩).p3),To:=max o.To (d*1440+((P8 a d).getLastD ⟨0,0⟩).To),E3:=a3C (o.E3++P8 a d) }
structure ClI (a:Au) (V:Int→Prop) (o:Au):Prop where
 bits:o.T7.toNat < 128
 days:∀ i:Int,0≤i→i < 7→(bt o.T7 i↔∃ e t,V e∧inL (P8 a e) t∧e % 7=i)
 canon:Canon o.E3
 a4V:∀ t,inL o.E3 t↔∃ e,V e∧inL (P8 a e) t
 lo:∀ e t,V e→inL (P8 a e) t→o.p3≤e*1440+t∧e*1440+t≤o.To
 ends:(o.p3=67108865∧o.To = -1∧∀ e t,V e→¬inL (P8 a e) t)∨((∃ e t,V e∧inL (P8 a e) t∧o.p3=e*1440+t)∧∃ e t,V e∧inL (P8 a e) t∧o.To=e*1440+t)
theorem c3O {m:UInt64} {i j:Int} (h0:0≤i) (h1:i < 7) (h2:0≤j) (h3:j < 7):bt (m ||| ((1:UInt64) <<< UInt64.ofNat i.toNat)) j↔bt m j∨i=j:=by
 obtain⟨n,rfl⟩:=Int.eq_ofNat_of_zero_le h0
 obtain⟨k,rfl⟩:=Int.eq_ofNat_of_zero_le h2
 unfold bt
 rw [UInt64.toNat_or,Nat.testBit_or,UInt64.toNat_shiftLeft]
 have e:(UInt64.ofNat (n:Int).toNat).toNat % 64=n:=by simp;omega
 rw [e]
 have e2:(1:UInt64).toNat <<< n % 2^64=2^n:=by
  show 1 <<< n % 2^64=2^n
  rw [Nat.one_shiftLeft]
  exact Nat.mod_eq_of_lt (Nat.pow_lt_pow_right (by decide) (by omega))
 rw [e2,Nat.testBit_two_pow]
 simp [Int.ofNat_inj]
theorem c3P {m:UInt64} {i:Int} (h:m.toNat < 128) (h0:0≤i) (h1:i < 7):(m ||| ((1:UInt64) <<< UInt64.ofNat i.toNat)).toNat < 128:=by
 obtain⟨n,rfl⟩:=Int.eq_ofNat_of_zero_le h0
 rw [UInt64.toNat_or,UInt64.toNat_shiftLeft]
 have e:(UInt64.ofNat (n:Int).toNat).toNat % 64=n:=by simp;omega
 rw [e]
 have e2:(1:UInt64).toNat <<< n % 2^64=2^n:=by
  show 1 <<< n % 2^64=2^n
  rw [Nat.one_shiftLeft]
  exact Nat.mod_eq_of_lt (Nat.pow_lt_pow_right (by decide) (by omega))
 rw [e2]
 exact Nat.or_lt_two_pow (n:=7) h (Nat.pow_lt_pow_right (by decide) (by omega))
theorem ClI.step {a:Au} (ha:a1m a) {V:Int→Prop} {o:Au} (h:ClI a V o) (d:Int):ClI a (fun e=>V e∨e=d) (U3 a o d):=by
 unfold U3
 split
 ·rename_i he
  have hn:∀ e t,(V e∨e=d)→inL (P8 a e) t→V e:=fun e t hv ht=>hv.elim id fun h=>by subst h;rw [he] at ht;exact(b4M t ht).elim
  refine⟨h.bits,fun i h0 h1=>(h.days i h0 h1).trans ?_,h.canon,fun t=>(h.a4V t).trans ?_,fun e t hv ht=>h.lo e t (hn e t hv ht) ht,?_⟩
  ·exact⟨fun ⟨e,t,h1,h2⟩=>⟨e,t,.inl h1,h2⟩,fun ⟨e,t,h1,h2⟩=>⟨e,t,hn e t h1 h2.1,h2⟩⟩
  ·exact⟨fun ⟨e,h1,h2⟩=>⟨e,.inl h1,h2⟩,fun ⟨e,h1,h2⟩=>⟨e,hn e t h1 h2,h2⟩⟩
  ·rcases h.ends with ⟨h1,h2,h3⟩|⟨⟨e,t,h1,h2,h3⟩,f,u,h4,h5,h6⟩
   ·exact .inl ⟨h1,h2,fun e t hv ht=>h3 e t (hn e t hv ht) ht⟩
   ·exact .inr ⟨⟨e,t,.inl h1,h2,h3⟩,f,u,.inl h4,h5,h6⟩
 ·rename_i hne
  have hc:=a8c ha d
  obtain⟨x1,x2,x3⟩:=hc.ends hne
  have hcf:=a4z (l:=o.E3++P8 a d) fun s hs=>(List.mem_append.1 hs).elim (h.canon.ne s) (hc.ne s)
  have d0:0≤d % 7:=by omega
  have d1:d % 7 < 7:=by omega
  have r1:=(a4A ha d _).1 x1
  have r2:=(a4A ha d _).1 x2
  refine⟨c3P h.bits d0 d1,fun i h0 h1=>(c3O d0 d1 h0 h1).trans ?_,hcf.1,fun t=>(hcf.2 t).trans ?_,fun e t hv ht => ?_,.inr ⟨?_,?_⟩⟩
  ·rw [h.days i h0 h1]
   constructor
   ·rintro (⟨e,t,h1,h2⟩|rfl)
    ·exact⟨e,t,.inl h1,h2⟩
    ·exact⟨d,_,.inr a8,x1,a8⟩
   ·rintro⟨e,t,h1|rfl,h2,h3⟩
    ·exact .inl ⟨e,t,h1,h2,h3⟩
    ·exact .inr h3
  ·have ha2:inL (o.E3++P8 a d) t↔inL o.E3 t∨inL (P8 a d) t:=by
    constructor
    ·rintro⟨s,hs,h2⟩
     exact(List.mem_append.1 hs).elim (fun h => .inl ⟨s,h,h2⟩) fun h => .inr ⟨s,h,h2⟩
    ·rintro (⟨s,hs,h2⟩|⟨s,hs,h2⟩)
     ·exact⟨s,List.mem_append.2 (.inl hs),h2⟩
     ·exact⟨s,List.mem_append.2 (.inr hs),h2⟩
   rw [ha2,h.a4V]
   constructor
   ·rintro (⟨e,h1,h2⟩|h2)
    ·exact⟨e,.inl h1,h2⟩
    ·exact⟨d,.inr a8,h2⟩
   ·rintro⟨e,h1|rfl,h2⟩
    ·exact .inl ⟨e,h1,h2⟩
    ·exact .inr h2
  ·show min o.p3 (d*1440+((P8 a d).headD ⟨0,0⟩).p3)≤_∧_≤max o.To (d*1440+((P8 a d).getLastD ⟨0,0⟩).To)
   rcases hv with hv|rfl
   ·have:=h.lo e t hv ht;omega
   ·have:=x3 t ht;omega
  ·show ∃ e t,_∧_∧min o.p3 (d*1440+((P8 a d).headD ⟨0,0⟩).p3)=_
   rcases h.ends with ⟨h1,h2,h3⟩|⟨⟨e,t,h1,h2,h3⟩,_⟩
   ·refine⟨d,_,.inr a8,x1,?_⟩
    have:=r1.2.2.2.1
    have:=ha.to1
    omega
   ·by_cases hle:o.p3≤d*1440+((P8 a d).headD ⟨0,0⟩).p3
    ·exact⟨e,t,.inl h1,h2,by omega⟩
    ·exact⟨d,_,.inr rfl,x1,by omega⟩
  ·show ∃ e t,_∧_∧max o.To (d*1440+((P8 a d).getLastD ⟨0,0⟩).To)=_
   rcases h.ends with ⟨h1,h2,h3⟩|⟨_,⟨e,t,h1,h2,h3⟩⟩
   ·refine⟨d,_,.inr a8,x2,?_⟩
    have:=r2.2.2.1
    have:=ha.a2d
    omega
   ·by_cases hle:d*1440+((P8 a d).getLastD ⟨0,0⟩).To≤o.To
    ·exact⟨e,t,.inl h1,h2,by omega⟩
    ·exact⟨d,_,.inr rfl,x2,by omega⟩
def vis (first last e:Int):Prop:=first≤e∧e≤last∧(e≤first+8∨last - 8≤e)
def Y7 (first last d:Int):Int:=if d>first+8∧d < last - 8 then last - 8 else d
def R9 (a:Au) (first last:Int):Nat→Int→Au→Au
 | 0,_,o=>o
 | n+1,d,o=>if d≤last then R9 a first last n (Y7 first last d+1) (U3 a o (Y7 first last d)) else o
theorem ClI.congr {a:Au} {V W:Int→Prop} {o:Au} (h:ClI a V o) (hv:∀ e,V e↔W e):ClI a W o:=by
 have:V=W:=funext fun e=>propext (hv e)
 rw [←this];exact h
theorem a9c {a:Au} (ha:a1m a) (first last:Int):∀ (n:Nat) (d:Int) (o:Au),last+1 - d≤n→first≤d→(d≤first+9∨last - 8≤d)→ClI a (fun e=>vis first last e∧e < d) o→ClI a (vis first last) (R9 a first last n d o)
 | 0,d,o,hn,hd,_,h=>h.congr fun e=>by unfold vis;omega
 | n+1,d,o,hn,hd,hd2,h=>by
  unfold R9
  split
  ·rename_i hle
   have hx:d≤Y7 first last d∧Y7 first last d≤last∧(Y7 first last d≤first+8∨last - 8≤Y7 first last d)∧∀ e,d≤e→e < Y7 first last d→¬vis first last e:=by
    unfold Y7 vis
    split
    ·exact⟨by omega,by omega,by omega,fun e _ _=>by omega⟩
    ·exact⟨by omega,by omega,by omega,fun e _ _=>by omega⟩
   refine a9c ha first last n _ _ (by omega) (by omega) (by omega) ((h.step ha (Y7 first last d)).congr fun e => ?_)
   constructor
   ·rintro (⟨h1,h2⟩|rfl)
    ·exact⟨h1,by omega⟩
    ·exact⟨⟨by omega,by omega,by omega⟩,by omega⟩
   ·rintro⟨h1,h2⟩
    by_cases h3:e=Y7 first last d
    ·exact .inr h3
    ·by_cases h4:e < d
     ·exact .inl ⟨h1,h4⟩
     ·exact(hx.2.2.2 e (by omega) (by omega) h1).elim
  ·exact h.congr fun e=>by unfold vis;omega
theorem ClI.zero (a:Au) (z l:UInt64) (w:T5):ClI a (fun _=>False) ⟨false,z,l,0,67108865,-1,[],w⟩:=by
 refine⟨by show(0:UInt64).toNat < 128;decide,fun i _ _=>⟨fun h => ?_,fun ⟨_,_,h,_⟩=>h.elim⟩,Canon.nil,fun t=>⟨fun h=>(b4M t h).elim,fun ⟨_,h,_⟩=>h.elim⟩,fun _ _ h=>h.elim,.inl ⟨rfl,rfl,fun _ _ h=>h.elim⟩⟩
 unfold bt at h
 rw [show(0:UInt64).toNat=0 from rfl,Nat.zero_testBit] at h
 cases h
theorem a9d {a:Au} {e f:Int} (h1:a.p3/1440 < e) (h2:e < a.To/1440) (h3:a.p3/1440 < f) (h4:f < a.To/1440) (h5:e % 7=f % 7):P8 a e=P8 a f:=by
 unfold P8
 have c:∀ x:Int,a.p3/1440 < x→x < a.To/1440→max (a.p3 - x*1440) 0=0∧min (a.To - x*1440) 1439=1439:=fun x h1 h2=>by omega
 have ⟨c1,c2⟩:=c e h1 h2
 have ⟨c3,c4⟩:=c f h3 h4
 rw [c1,c2,c3,c4,h5]
 have i1:¬e < a.p3/1440:=by omega
 have i2:¬e>a.To/1440:=by omega
 have i3:¬f < a.p3/1440:=by omega
 have i4:¬f>a.To/1440:=by omega
 simp only [i1,i2,i3,i4,false_or]
structure a0y (a o:Au):Prop where
 bits:o.T7.toNat < 128
 days:∀ i:Int,0≤i→i < 7→(bt o.T7 i↔∃ m,atT a m∧m/1440 % 7=i)
 canon:Canon o.E3
 a4V:∀ t,inL o.E3 t↔∃ m,atT a m∧m % 1440=t
 lo:∀ m,atT a m→o.p3≤m∧m≤o.To
 ends:(o.p3=67108865∧o.To = -1∧∀ m,¬atT a m)∨(atT a o.p3∧atT a o.To)
theorem ClI.closed {a o:Au} (ha:a1m a) (h:ClI a (vis (a.p3/1440) (a.To/1440)) o):a0y a o:=by
 have at0:∀ m,atT a m→inL (P8 a (m/1440)) (m % 1440):=fun m hm=>(a4A ha _ _).2 ⟨by omega,by omega,by rw [show m/1440*1440+m % 1440=m by omega];exact hm⟩
 have at1:∀ e t,inL (P8 a e) t→atT a (e*1440+t)∧(e*1440+t)/1440=e∧(e*1440+t) % 1440=t:=fun e t ht=>by
  have:=(a4A ha e t).1 ht
  exact⟨this.2.2,by omega,by omega⟩
 have day0:∀ m,atT a m→a.p3/1440≤m/1440∧m/1440≤a.To/1440:=fun m hm=>by have:=hm.1;have:=hm.2.1;omega
 have like:∀ m,atT a m→(∃ e,vis (a.p3/1440) (a.To/1440) e∧e≤m/1440∧inL (P8 a e) (m % 1440)∧e % 7=m/1440 % 7)∧∃ e,vis (a.p3/1440) (a.To/1440) e∧m/1440≤e∧inL (P8 a e) (m % 1440)∧e % 7=m/1440 % 7:=fun m hm=>by
  have h1:=at0 m hm
  have h2:=day0 m hm
  by_cases hv:m/1440≤a.p3/1440+8∨a.To/1440 - 8≤m/1440
  ·exact⟨⟨_,⟨h2.1,h2.2,hv⟩,Int.le_refl _,h1,a8⟩,_,⟨h2.1,h2.2,hv⟩,Int.le_refl _,h1,a8⟩
  ·have g1:P8 a (a.p3/1440+1+(m/1440 - (a.p3/1440+1)) % 7)=P8 a (m/1440):=a9d (by omega) (by omega) (by omega) (by omega) (by omega)
   have g2:P8 a (a.To/1440 - 1 - (a.To/1440 - 1 - m/1440) % 7)=P8 a (m/1440):=a9d (by omega) (by omega) (by omega) (by omega) (by omega)
   exact⟨⟨a.p3/1440+1+(m/1440 - (a.p3/1440+1)) % 7,⟨by omega,by omega,by omega⟩,by omega,by rw [g1];exact h1,by omega⟩,a.To/1440 - 1 - (a.To/1440 - 1 - m/1440) % 7,⟨by omega,by omega,by omega⟩,by omega,by rw [g2];exact h1,by omega⟩
 refine⟨h.bits,fun i h0 h1=>(h.days i h0 h1).trans ⟨?_,?_⟩,h.canon,fun t=>(h.a4V t).trans ⟨?_,?_⟩,fun m hm => ?_,?_⟩
 ·rintro⟨e,t,hv,ht,he⟩
  have:=at1 e t ht
  exact⟨_,this.1,by rw [this.2.1];exact he⟩
 ·rintro⟨m,hm,he⟩
  obtain⟨⟨e,hv,_,ht,h7⟩,_⟩:=like m hm
  exact⟨e,_,hv,ht,h7.trans he⟩
 ·rintro⟨e,hv,ht⟩
  have:=at1 e t ht
  exact⟨_,this.1,this.2.2⟩
 ·rintro⟨m,hm,rfl⟩
  obtain⟨⟨e,hv,_,ht,h7⟩,_⟩:=like m hm
  exact⟨e,hv,ht⟩
 ·obtain⟨⟨e,hv,he,ht,_⟩,f,hw,hf,hu,_⟩:=like m hm
  have:=h.lo e _ hv ht
  have:=h.lo f _ hw hu
  omega
 ·rcases h.ends with ⟨h1,h2,h3⟩|⟨⟨e,t,hv,ht,h1⟩,f,u,hw,hu,h2⟩
  ·refine .inl ⟨h1,h2,fun m hm => ?_⟩
   obtain⟨⟨e,hv,_,ht,_⟩,_⟩:=like m hm
   exact h3 e _ hv ht
  ·exact .inr ⟨by rw [h1];exact(at1 e t ht).1,by rw [h2];exact(at1 f u hu).1⟩
theorem b8E {m n:UInt64} (hm:m.toNat < 128) (hn:n.toNat < 128) (h:∀ i:Int,0≤i→i < 7→(bt m i↔bt n i)):m=n:=by
 apply UInt64.toNat_inj.1
 apply Nat.eq_of_testBit_eq
 intro i
 by_cases hi:i < 7
 ·have:=h i (by omega) (by omega)
  unfold bt at this
  simp only [Int.toNat_natCast] at this
  exact Bool.eq_iff_iff.2 this
 ·have p:2^7≤2^i:=Nat.pow_le_pow_right (by decide) (by omega)
  rw [Nat.testBit_lt_two_pow (by omega),Nat.testBit_lt_two_pow (by omega)]
theorem a0y.det {a b o q:Au} (h:a0y a o) (k:a0y b q) (ht:∀ m,atT a m↔atT b m):o.T7=q.T7∧o.p3=q.p3∧o.To=q.To∧o.E3=q.E3:=by
 have e:atT a=atT b:=funext fun m=>propext (ht m)
 have hft:o.p3=q.p3∧o.To=q.To:=by
  rcases h.ends with ⟨h1,h2,h3⟩|⟨h1,h2⟩<;>rcases k.ends with ⟨k1,k2,k3⟩|⟨k1,k2⟩
  ·omega
  ·exact(h3 _ ((ht _).2 k1)).elim
  ·exact(k3 _ ((ht _).1 h1)).elim
  ·have:=k.lo _ ((ht _).1 h1);have:=k.lo _ ((ht _).1 h2);have:=h.lo _ ((ht _).2 k1);have:=h.lo _ ((ht _).2 k2);omega
 refine⟨b8E h.bits k.bits fun i h0 h1 => ?_,hft.1,hft.2,a6y h.canon k.canon fun t => ?_⟩
 ·rw [h.days i h0 h1,k.days i h0 h1,e]
 ·rw [h.a4V,k.a4V,e]
theorem a0y.same {a o:Au} (h:a0y a o) (m:Int):atT o m↔atT a m:=by
 constructor
 ·rintro⟨h1,h2,h3,h4⟩
  have hne:atT a o.p3∧atT a o.To:=h.ends.resolve_left fun ⟨e1,e2,_⟩=>by omega
  obtain⟨m1,k1,k2⟩:=(h.days _ (by omega) (by omega)).1 h3
  obtain⟨m2,l1,l2⟩:=(h.a4V _).1 h4
  refine⟨Int.le_trans hne.1.1 h1,Int.le_trans h2 hne.2.2.1,?_,?_⟩
  ·rw [←k2];exact k1.2.2.1
  ·rw [←l2];exact l1.2.2.2
 ·intro hm
  exact⟨(h.lo m hm).1,(h.lo m hm).2,(h.days _ (by omega) (by omega)).2 ⟨m,hm,a8⟩,(h.a4V _).2 ⟨m,hm,a8⟩⟩
theorem a0y.ok {a o:Au} (ha:a1m a) (h:a0y a o) (hne:0≤o.To):a1m o:=by
 have hx:atT a o.p3∧atT a o.To:=h.ends.resolve_left fun ⟨e1,e2,_⟩=>by omega
 have:=ha.a2d;have:=ha.to1;have:=hx.1.1;have:=hx.1.2.1;have:=hx.2.1;have:=hx.2.2.1
 refine⟨by omega,by omega,by omega,by omega,h.canon,fun s hs => ?_⟩
 have hn:=h.canon.ne s hs
 obtain⟨m1,_,k1⟩:=(h.a4V s.p3).1 ⟨s,hs,Int.le_refl _,hn⟩
 obtain⟨m2,_,k2⟩:=(h.a4V s.To).1 ⟨s,hs,hn,Int.le_refl _⟩
 omega
def a8d:Au:=⟨true,0,0,0,0,0,[],⟨[]⟩⟩
def M8 (a:Au):Au:=R9 a (a.p3/1440) (a.To/1440) (a.To/1440+1 - a.p3/1440).toNat (a.p3/1440) ⟨false,a.L4,a.K3,0,67108865,-1,[],a.A7⟩
def I5 (a:Au):Au:=if (M8 a).To < 0∨a.L4=0∨a.K3=0 then a8d else M8 a
theorem a6z {a:Au} (ha:a1m a):a0y a (M8 a) :=
 (a9c ha _ _ _ _ _ (by omega) (Int.le_refl _) (by omega) ((ClI.zero a a.L4 a.K3 a.A7).congr fun e=>⟨False.elim,fun h=>by have h1:=h.1.1;have h2:=h.2;omega⟩)).closed ha
theorem b1X (a o:Au) (d:Int):(U3 a o d).a2x=o.a2x∧(U3 a o d).L4=o.L4∧(U3 a o d).K3=o.K3∧(U3 a o d).A7=o.A7:=by
 unfold U3;split<;>exact⟨rfl,rfl,rfl,rfl⟩
theorem a4l (a:Au) (f l:Int):∀ (n:Nat) (d:Int) (o:Au),(R9 a f l n d o).a2x=o.a2x∧(R9 a f l n d o).L4=o.L4∧(R9 a f l n d o).K3=o.K3∧(R9 a f l n d o).A7=o.A7
 | 0,_,_=>⟨rfl,rfl,rfl,rfl⟩
 | n+1,d,o=>by
  unfold R9
  split
  ·have h1:=a4l a f l n (Y7 f l d+1) (U3 a o (Y7 f l d))
   have h2:=b1X a o (Y7 f l d)
   exact⟨h1.1.trans h2.1,h1.2.1.trans h2.2.1,h1.2.2.1.trans h2.2.2.1,h1.2.2.2.trans h2.2.2.2⟩
  ·exact⟨a8,a8,a8,a8⟩
theorem a4m (a:Au):(M8 a).a2x=false∧(M8 a).L4=a.L4∧(M8 a).K3=a.K3∧(M8 a).A7=a.A7:=a4l a _ _ _ _ _
theorem c4S {a b:Au} (h1:a.a2x=b.a2x∧a.L4=b.L4∧a.K3=b.K3∧a.A7=b.A7) (h2:a.T7=b.T7∧a.p3=b.p3∧a.To=b.To∧a.E3=b.E3):a=b:=by
 cases a;cases b
 obtain⟨rfl,rfl,rfl,rfl⟩:=h1
 obtain⟨rfl,rfl,rfl,rfl⟩:=h2
 rfl
theorem b0n {a:Au} (ha:a1m a) (hn:¬((M8 a).To < 0∨a.L4=0∨a.K3=0)):I5 (M8 a)=M8 a∧a1m (M8 a):=by
 have h:=a6z ha
 have hk:=a4m a
 have ho:=h.ok ha (by omega)
 have h2:=a6z ho
 have hk2:=a4m (M8 a)
 have e:M8 (M8 a)=M8 a:=c4S ⟨hk2.1.trans hk.1.symm,hk2.2⟩ (h2.det h fun m=>h.same m)
 unfold I5
 rw [e,hk.2.1,hk.2.2.1,if_neg hn]
 exact⟨a8,ho⟩
theorem c0F {a:Au} (ha:a1m a) {m:Int} (h0:0≤m):((P8 a (m/1440)).any fun s=>decide (s.p3≤m % 1440)&&decide (m % 1440≤s.To))=true↔atT a m:=by
 have e:inL (P8 a (m/1440)) (m % 1440)↔atT a m:=(a4A ha _ _).trans ⟨fun h=>by have:=h.2.2;rwa [show m/1440*1440+m % 1440=m by omega] at this,fun h=>⟨by omega,by omega,by rwa [show m/1440*1440+m % 1440=m by omega]⟩⟩
 rw [←e,List.any_eq_true]
 exact⟨fun ⟨s,hs,h⟩=>⟨s,hs,by simp only [Bool.and_eq_true,decide_eq_true_eq] at h;exact h⟩,fun ⟨s,hs,h⟩=>⟨s,hs,by simp only [Bool.and_eq_true,decide_eq_true_eq];exact h⟩⟩
theorem b3I {s:T5} (h:I7 s=true):s≠⟨[]⟩:=by
 rintro rfl
 unfold I7 at h
 simp at h
theorem a4B {m:UInt64} {i:Int} (h0:0≤i) (h1:i < 64):((m >>> UInt64.ofNat i.toNat) &&& 1=1)↔m.toNat.testBit i.toNat=true:=by
 rw [←UInt64.toNat_inj,UInt64.toNat_and,UInt64.toNat_shiftRight]
 have e:(UInt64.ofNat i.toNat).toNat % 64=i.toNat:=by simp;omega
 rw [e]
 show(m.toNat >>> i.toNat) &&& 1=1↔_
 rw [Nat.and_one_is_mod,Nat.testBit,Nat.one_and_eq_mod_two]
 simp
def a0z (a:Au) (c:Cx):Prop:=bt a.L4 c.a1w∧bt a.K3 c.a1x∧(a.A7=⟨[]⟩∨a.A7=c.A7)∧atT a c.Minute
def a4n (f t:Int):List Sp:=if f≤t then [⟨f,t⟩] else a3C [⟨0,t⟩,⟨f,1439⟩]
def L3 (a:Au) (p:Pred):Au :=
 if p.Kind=1 then { a with L4:=a.L4 &&& p.Mask }
 else if p.Kind=2 then { a with K3:=a.K3 &&& p.Mask }
 else if p.Kind=3 then { a with T7:=a.T7 &&& p.Mask }
 else if p.Kind=4 then { a with p3:=max a.p3 p.p3,To:=min a.To p.To }
 else if p.Kind=5 then { a with E3:=T1 a.E3 (a4n p.p3 p.To) }
 else if p.Kind=6 then { a with L4:=if a.A7≠⟨[]⟩∧a.A7≠p.Name then 0 else a.L4,A7:=p.Name }
 else a
structure O7 (a:Au):Prop where
 Y2:a1m a
 some:a.a2x=false
 lines:a.K3.toNat < 4294967296
 bits:a.T7.toNat < 128
 a4k:a.A7=⟨[]⟩∨I7 a.A7=true
abbrev O7.a2d {a:Au} (h:O7 a):=h.Y2.a2d
abbrev O7.a4U {a:Au} (h:O7 a):=h.Y2.a4U
abbrev O7.to0 {a:Au} (h:O7 a):=h.Y2.to0
abbrev O7.to1 {a:Au} (h:O7 a):=h.Y2.to1
abbrev O7.canon {a:Au} (h:O7 a):=h.Y2.canon
abbrev O7.day {a:Au} (h:O7 a):=h.Y2.day
theorem b3J {m n:UInt64} {i:Int}:bt (m &&& n) i↔bt m i∧bt n i:=by
 unfold bt;rw [UInt64.toNat_and,Nat.testBit_and,Bool.and_eq_true]
theorem b0o (i:Int):¬bt 0 i:=by
 unfold bt;rw [show(0:UInt64).toNat=0 from rfl,Nat.zero_testBit];decide
theorem a9e {f t:Int} (h0:0≤f) (h1:f < 1440) (h2:0≤t) (h3:t < 1440):Canon (a4n f t)∧(∀ s∈a4n f t,0≤s.p3∧s.To < 1440)∧∀ m,0≤m→m < 1440→(inL (a4n f t) m↔if f≤t then f≤m∧m≤t else f≤m∨m≤t):=by
 unfold a4n
 by_cases hc:f≤t
 ·simp only [if_pos hc]
  refine⟨Canon.one hc,fun s hs=>by rw [List.mem_singleton.1 hs];exact⟨h0,h3⟩,fun m _ _=>⟨fun ⟨s,hs,h⟩=>by rw [List.mem_singleton.1 hs] at h;exact h,fun h=>⟨⟨f,t⟩,by simp,h⟩⟩⟩
 ·simp only [if_neg hc]
  have hl:∀ s ∈ [(⟨0,t⟩:Sp),⟨f,1439⟩],s.p3≤s.To:=by
   intro s hs
   simp only [List.mem_cons,List.not_mem_nil,or_false] at hs
   rcases hs with rfl|rfl
   ·exact h2
   ·show f≤1439;omega
  have hk:=a4z hl
  have hm:∀ m,inL [(⟨0,t⟩:Sp),⟨f,1439⟩] m↔(0≤m∧m≤t)∨(f≤m∧m≤1439):=fun m=>by
   constructor
   ·rintro⟨s,hs,h⟩
    simp only [List.mem_cons,List.not_mem_nil,or_false] at hs
    rcases hs with rfl|rfl
    ·exact .inl h
    ·exact .inr h
   ·rintro (h|h)
    ·exact⟨⟨0,t⟩,by simp,h⟩
    ·exact⟨⟨f,1439⟩,by simp,h⟩
  refine⟨hk.1,fun s hs => ?_,fun m h4 h5 => ?_⟩
  ·have hn:=hk.1.ne s hs
   have a1:=(hm _).1 ((hk.2 s.p3).1 ⟨s,hs,Int.le_refl _,hn⟩)
   have a2:=(hm _).1 ((hk.2 s.To).1 ⟨s,hs,hn,Int.le_refl _⟩)
   omega
  ·rw [hk.2,hm];omega
theorem b5Z {a b:List Sp} (ha:∀ s∈a,0≤s.p3∧s.To < 1440):∀ s∈T1 a b,0≤s.p3∧s.To < 1440:=fun z hz=>by
 obtain⟨x,hx,hz⟩:=List.mem_flatMap.1 hz
 obtain⟨y,hy,hz⟩:=List.mem_filterMap.1 hz
 have:=a0g hz
 have:=ha x hx
 omega
theorem b1Y {a:Au} (ha:O7 a) {p:Pred} (hp:y8 p=true):O7 (L3 a p)∧∀ c,U7 c=true→(a0z (L3 a p) c↔a0z a c∧Q2 p.Kind (W2 c) p=true):=by
 unfold y8 at hp
 unfold L3 Q2 a0z atT
 have hx:∀ c,U7 c=true→0≤c.a1w∧c.a1w < 64∧0≤c.a1x∧c.a1x < 64∧0≤c.Minute∧I7 c.A7=true:=fun c hc=>by
  unfold U7 at hc
  simp only [Bool.and_eq_true,decide_eq_true_eq] at hc
  exact⟨by omega,by omega,by omega,by omega,by omega,hc.2⟩
 by_cases k1:p.Kind=1
 ·simp only [k1,if_true]
  refine⟨⟨⟨ha.a2d,ha.a4U,ha.to0,ha.to1,ha.canon,ha.day⟩,ha.some,ha.lines,ha.bits,ha.a4k⟩,fun c hc => ?_⟩
  have:=hx c hc
  rw [decide_eq_true_eq,a4B (by exact this.1) (by exact this.2.1),b3J]
  show _↔_∧bt p.Mask c.a1w
  exact⟨fun ⟨⟨h1,h2⟩,h3⟩=>⟨⟨h1,h3⟩,h2⟩,fun ⟨⟨h1,h3⟩,h2⟩=>⟨⟨h1,h2⟩,h3⟩⟩
 by_cases k2:p.Kind=2
 ·simp only [k2,if_true,if_neg (show ¬(2:Int)=1 by decide)]
  refine⟨⟨⟨ha.a2d,ha.a4U,ha.to0,ha.to1,ha.canon,ha.day⟩,ha.some,?_,ha.bits,ha.a4k⟩,fun c hc => ?_⟩
  ·show(a.K3 &&& p.Mask).toNat < _
   rw [UInt64.toNat_and];exact Nat.lt_of_le_of_lt Nat.and_le_left ha.lines
  ·have:=hx c hc
   rw [decide_eq_true_eq,a4B (by exact this.2.2.1) (by exact this.2.2.2.1),b3J]
   show _↔_∧bt p.Mask c.a1x
   exact⟨fun ⟨h0,⟨h1,h2⟩,h3⟩=>⟨⟨h0,h1,h3⟩,h2⟩,fun ⟨⟨h0,h1,h3⟩,h2⟩=>⟨h0,⟨h1,h2⟩,h3⟩⟩
 by_cases k3:p.Kind=3
 ·simp only [k3,if_true,if_neg (show ¬(3:Int)=1 by decide),if_neg (show ¬(3:Int)=2 by decide)]
  refine⟨⟨⟨ha.a2d,ha.a4U,ha.to0,ha.to1,ha.canon,ha.day⟩,ha.some,ha.lines,?_,ha.a4k⟩,fun c hc => ?_⟩
  ·show(a.T7 &&& p.Mask).toNat < _
   rw [UInt64.toNat_and];exact Nat.lt_of_le_of_lt Nat.and_le_left ha.bits
  ·have:=hx c hc
   rw [decide_eq_true_eq,a4B (by omega) (by omega),b3J]
   show _↔_∧bt p.Mask (c.Minute/1440 % 7)
   exact⟨fun ⟨h0,h1,h2,h3,h4,⟨h5,h6⟩,h7⟩=>⟨⟨h0,h1,h2,h3,h4,h5,h7⟩,h6⟩,fun ⟨⟨h0,h1,h2,h3,h4,h5,h7⟩,h6⟩=>⟨h0,h1,h2,h3,h4,⟨h5,h6⟩,h7⟩⟩
 by_cases k4:p.Kind=4
 ·simp only [k4,if_true,if_neg (show ¬(4:Int)=1 by decide),if_neg (show ¬(4:Int)=2 by decide),if_neg (show ¬(4:Int)=3 by decide)]
  rw [if_neg (by omega),if_pos k4] at hp
  simp only [Bool.and_eq_true,decide_eq_true_eq] at hp
  have:=ha.a2d;have:=ha.a4U;have:=ha.to0;have:=ha.to1
  refine⟨⟨⟨?_,?_,?_,?_,ha.canon,ha.day⟩,ha.some,ha.lines,ha.bits,ha.a4k⟩,fun c hc => ?_⟩
  ·show 0≤max a.p3 p.p3;omega
  ·show max a.p3 p.p3≤_;omega
  ·show 0≤min a.To p.To;omega
  ·show min a.To p.To≤_;omega
  ·simp only [Bool.and_eq_true,decide_eq_true_eq]
   show _↔_∧p.p3≤c.Minute∧c.Minute≤p.To
   constructor
   ·rintro⟨h0,h1,h2,h3,h4,h5⟩
    exact⟨⟨h0,h1,h2,by omega,by omega,h5⟩,by omega,by omega⟩
   ·rintro⟨⟨h0,h1,h2,h3,h4,h5⟩,h6,h7⟩
    exact⟨h0,h1,h2,by omega,by omega,h5⟩
 by_cases k5:p.Kind=5
 ·simp only [k5,if_true,if_neg (show ¬(5:Int)=1 by decide),if_neg (show ¬(5:Int)=2 by decide),if_neg (show ¬(5:Int)=3 by decide),if_neg (show ¬(5:Int)=4 by decide)]
  rw [if_neg (by omega),if_neg k4,if_pos k5] at hp
  simp only [Bool.and_eq_true,decide_eq_true_eq] at hp
  have hd:=a9e hp.1.1.1.1 hp.1.1.1.2 hp.1.1.2 hp.1.2
  refine⟨⟨⟨ha.a2d,ha.a4U,ha.to0,ha.to1,a5T ha.canon hd.1,b5Z ha.day⟩,ha.some,ha.lines,ha.bits,ha.a4k⟩,fun c hc => ?_⟩
  have hq:=hd.2.2 (c.Minute % 1440) (by omega) (by omega)
  have e:((if p.p3≤p.To then decide (p.p3≤(W2 c).Minute % 1440)&&decide ((W2 c).Minute % 1440≤p.To) else decide (p.p3≤(W2 c).Minute % 1440)||decide ((W2 c).Minute % 1440≤p.To))=true)↔inL (a4n p.p3 p.To) (c.Minute % 1440):=by
   rw [hq]
   by_cases hc:p.p3≤p.To
   ·rw [if_pos hc,if_pos hc,Bool.and_eq_true,decide_eq_true_eq,decide_eq_true_eq];exact Iff.rfl
   ·rw [if_neg hc,if_neg hc,Bool.or_eq_true,decide_eq_true_eq,decide_eq_true_eq];exact Iff.rfl
  rw [e]
  simp only [a5s]
  exact⟨fun ⟨h0,h1,h2,h3,h4,h5,h6,h7⟩=>⟨⟨h0,h1,h2,h3,h4,h5,h6⟩,h7⟩,fun ⟨⟨h0,h1,h2,h3,h4,h5,h6⟩,h7⟩=>⟨h0,h1,h2,h3,h4,h5,h6,h7⟩⟩
 by_cases k6:p.Kind=6
 ·simp only [k6,if_true,if_neg (show ¬(6:Int)=1 by decide),if_neg (show ¬(6:Int)=2 by decide),if_neg (show ¬(6:Int)=3 by decide),if_neg (show ¬(6:Int)=4 by decide),if_neg (show ¬(6:Int)=5 by decide)]
  rw [if_neg (by omega),if_neg k4,if_neg k5,if_pos k6] at hp
  simp only [Bool.and_eq_true,decide_eq_true_eq] at hp
  refine⟨⟨⟨ha.a2d,ha.a4U,ha.to0,ha.to1,ha.canon,ha.day⟩,ha.some,ha.lines,ha.bits,.inr hp.1⟩,fun c hc => ?_⟩
  rw [decide_eq_true_eq]
  have hne:=b3I hp.1
  show _↔_∧p.Name=c.A7
  by_cases hh:a.A7≠⟨[]⟩∧a.A7≠p.Name
  ·simp only [if_pos hh]
   exact⟨fun h=>(b0o _ h.1).elim,fun ⟨⟨_,_,h2,_⟩,h3⟩=>(hh.2 ((h2.resolve_left hh.1).trans h3.symm)).elim⟩
  ·simp only [if_neg hh]
   constructor
   ·rintro⟨h0,h1,h2,h3⟩
    have h4:=h2.resolve_left hne
    exact⟨⟨h0,h1,Decidable.byContradiction fun h5=>hh ⟨fun h6=>h5 (.inl h6),fun h6=>h5 (.inr (h6.trans h4))⟩,h3⟩,h4⟩
   ·rintro⟨⟨h0,h1,h2,h3⟩,h4⟩
    exact⟨h0,h1,.inr h4,h3⟩
 ·simp only [if_neg k1,if_neg k2,if_neg k3,if_neg k4,if_neg k5,if_neg k6]
  exact⟨ha,fun c _=>by simp⟩
def a27:Au:=⟨false,18446744073709551615,4294967295,127,0,67108864,[⟨0,1439⟩],⟨[]⟩⟩
theorem b4N:O7 a27 :=
 ⟨⟨by decide,by decide,by decide,by decide,Canon.one (by decide),fun s hs=>by rw [List.mem_singleton.1 hs];decide⟩,rfl,by decide,by decide,.inl rfl⟩
theorem b1Z {c:Cx} (hc:U7 c=true):a0z a27 c:=by
 unfold U7 at hc
 simp only [Bool.and_eq_true,decide_eq_true_eq] at hc
 have b:∀ (k:Nat) (m:UInt64) (i:Int),m.toNat=2^k - 1→0≤i→i < k→bt m i:=fun k m i h h0 h1=>by
  unfold bt;rw [h,Nat.testBit_two_pow_sub_one];simp;omega
 refine⟨b 64 _ _ (by decide) (by omega) (by omega),b 32 _ _ (by decide) (by omega) (by omega),.inl rfl,by show 0≤c.Minute;omega,by show c.Minute≤67108864;omega,b 7 _ _ (by decide) (by omega) (by omega),⟨⟨0,1439⟩,by simp [a27],by show 0≤c.Minute % 1440;omega,by show c.Minute % 1440≤1439;omega⟩⟩
def T3 (l:List Pred):Au:=l.foldl L3 a27
theorem a2e:∀ (l:List Pred) (a:Au),O7 a→(∀ p∈l,y8 p=true)→O7 (l.foldl L3 a)∧∀ c,U7 c=true→(a0z (l.foldl L3 a) c↔a0z a c∧∀ p∈l,Q2 p.Kind (W2 c) p=true)
 | [],a,ha,_=>⟨ha,fun c _=>by simp⟩
 | p::l,a,ha,hl=>by
  have h1:=b1Y ha (hl p (by simp))
  have h2:=a2e l _ h1.1 fun q hq=>hl q (by simp [hq])
  refine⟨h2.1,fun c hc => ?_⟩
  rw [List.foldl_cons,h2.2 c hc,h1.2 c hc]
  simp [and_assoc]
theorem b6a {a:Au} (ha:O7 a):I5 a=a8d∧(∀ c,U7 c=true→¬a0z a c)∨(O7 (I5 a)∧0≤(I5 a).p3∧(I5 a).p3≤(I5 a).To∧I5 (I5 a)=I5 a∧∀ c,a0z (I5 a) c↔a0z a c):=by
 have h:=a6z ha.Y2
 have hk:=a4m a
 by_cases hn:(M8 a).To < 0∨a.L4=0∨a.K3=0
 ·refine .inl ⟨if_pos hn,fun c _ ⟨h1,h2,_,h4⟩ => ?_⟩
  rcases hn with hn|hn|hn
  ·have:=h.lo _ h4
   rcases h.ends with ⟨_,_,h3⟩|⟨_,h3⟩
   ·exact h3 _ h4
   ·have:=h3.1;have:=ha.a2d;omega
  ·rw [hn] at h1;exact b0o _ h1
  ·rw [hn] at h2;exact b0o _ h2
 ·have e:I5 a=M8 a:=if_neg hn
  rw [e]
  have h2:=b0n ha.Y2 hn
  have hx:atT a (M8 a).p3∧atT a (M8 a).To:=h.ends.resolve_left fun ⟨e1,e2,_⟩=>by omega
  refine .inr ⟨⟨h2.2,hk.1,by rw [hk.2.2.1];exact ha.lines,h.bits,by rw [hk.2.2.2];exact ha.a4k⟩,h2.2.a2d,(h.lo _ hx.2).1,h2.1,fun c => ?_⟩
  unfold a0z
  rw [hk.2.1,hk.2.2.1,hk.2.2.2,h.same]
theorem c1p {l:List Pred} (hl:∀ p∈l,y8 p=true):(I5 (T3 l)=a8d∧∀ c,U7 c=true→∃ p∈l,M3 p c=false)∨(O7 (I5 (T3 l))∧0≤(I5 (T3 l)).p3∧(I5 (T3 l)).p3≤(I5 (T3 l)).To∧I5 (I5 (T3 l))=I5 (T3 l)∧∀ c,U7 c=true→(a0z (I5 (T3 l)) c↔∀ p∈l,M3 p c=true)):=by
 have h:=a2e l a27 b4N hl
 have e:∀ c,U7 c=true→(a0z (T3 l) c↔∀ p∈l,M3 p c=true):=fun c hc=>by
  rw [show T3 l=l.foldl L3 a27 from rfl,h.2 c hc]
  refine⟨fun ⟨_,h1⟩ p hp=>by unfold M3;rw [hl p hp,hc,h1 p hp];rfl,fun h1=>⟨b1Z hc,fun p hp => ?_⟩⟩
  have:=h1 p hp
  unfold M3 at this
  simp only [Bool.and_eq_true] at this
  exact this.2
 rcases b6a h.1 with ⟨h1,h2⟩|⟨h1,h2,h3,h4,h5⟩
 ·refine .inl ⟨h1,fun c hc => ?_⟩
  have h6:=h2 c hc
  rw [show l.foldl L3 a27=T3 l from rfl,e c hc] at h6
  exact Classical.byContradiction fun h7=>h6 fun p hp=>by
   cases h8:M3 p c with
   | true=>rfl
   | false=>exact(h7 ⟨p,hp,h8⟩).elim
 ·exact .inr ⟨h1,h2,h3,h4,fun c hc=>(h5 c).trans (e c hc)⟩
theorem c2I:p6 gl prog 19 [] (fun r=>r = .v a27):=by
 refine p6.jn func19 (by kernel_rfl) 4 rfl fun C hC hG => ?_
 refine .q 3 hG fun b0 => ?_
 refine .q 3 hG ?_
 refine .p (.bS2 u0.l0 u0.l1 a8 a2z b5g (fun c0 c1=>(⟨c0,c1⟩:u0)) (fun _ _=>a8) a8 a8 a8 (.i a8) (.i a8) ?_)
 refine .bs a8 (by decide) fun b2=>(.y0 hC .z (.as 2 a8 .z (.p (.bS5 l8.l1 l8.l2 l8.l3 l8.l5 l8.l6 a8 R5 b6K (fun c1 c2 c3 c5 c6=>(⟨false,c1,c2,c3,0,c5,c6,⟨[]⟩⟩:l8)) (fun _ _ _ _ _=>a8) a8 a8 a8 a8 a8 a8 (.u64 18446744073709551615 a8) (.u64 4294967295 a8) (.u64 127 a8) (.i a8) (.t a8) ?_))))
 refine .q 3 hG ?_
 refine⟨_,.r1 a8 (.cell R5 a8 .z1),?_⟩
 rfl
theorem b8F:p6 gl prog 49 [] (fun r=>r = .v a8d):=by
 refine p6.jn func49 (by kernel_rfl) 2 rfl fun C hC hG => ?_
 refine .q 3 hG fun b0 => ?_
 refine .q 3 hG ?_
 refine .p (.bS1 l8.l0 a8 R5 b6K (fun c0=>(⟨c0,0,0,0,0,0,[],⟨[]⟩⟩:l8)) (fun _=>a8) a8 a8 .b ?_)
 refine .q 3 hG ?_
 refine⟨_,.r1 a8 (.cell R5 a8 .z),?_⟩
 rfl
theorem b8G (s:T5):p6 gl prog 51 [.v s] (fun r=>r = .v (I7 s)):=by
 refine p6.jn func51 (by kernel_rfl) 6 rfl fun C hC hG => ?_
 refine .q 7 hG ?_
 refine .p (.bS2 j2.l0 j2.l4 a8 R3 a5z (fun c0 c4=>(⟨c0,0,0,0,c4,0⟩:j2)) (fun _ _=>a8) a8 a8 a8 (.i a8) (.t a8) ?_)
 refine .k hG (V6 _) ?_
 refine .q 3 hG ?_
 refine .e1 a8 a8 ?_
 exact congrArg AV.v (c1m s)
theorem b3K (a b:List Sp):(T1 a b).length≤a.length*b.length:=by
 unfold T1
 induction a with
 | nil=>simp
 | cons x a ih =>
  have h:=List.length_filterMap_le (a7b x) b
  rw [List.flatMap_cons,List.length_append,List.length_cons,Nat.succ_mul]
  omega
theorem b6b {a b:List Sp} (ha:a.length≤1000) (hb:b.length≤800):(T1 a b).length≤800000:=Nat.le_trans (b3K a b) (Nat.mul_le_mul ha hb)
theorem a9f {a b:List Sp} {i j:Nat} (hi:i < a.length) (hj:j < b.length):(b.take (j+1)).filterMap (a7b a[i])=(b.take j).filterMap (a7b a[i])++if max a[i].p3 b[j].p3≤min a[i].To b[j].To then [⟨max a[i].p3 b[j].p3,min a[i].To b[j].To⟩] else []:=by
 rw [List.take_succ_eq_append_getElem hj,List.filterMap_append]
 congr 1
 show List.filterMap (a7b a[i]) [b[j]]=_
 unfold a7b
 split<;>simp_all
theorem b2a {a b:List Sp} {i:Nat} (hi:i < a.length):T1 (a.take (i+1)) b=T1 (a.take i) b++(b.take b.length).filterMap (a7b a[i]):=by
 unfold T1
 rw [List.take_succ_eq_append_getElem hi,List.flatMap_append,List.take_length]
 simp
theorem b2b (a b:List Sp) (ha:a.length≤1000) (hb:b.length≤800):p6 gl prog 46 [.v a,.v b] (fun r=>r = .v (T1 a b)):=by
 refine p6.jn func46 (by kernel_rfl) 46 rfl fun C hC hG => ?_
 refine .q 6 hG ?_
 refine .p (.assign .raw ?_)
 refine .q 3 hG ?_
 refine .a0Q 89 Sp ?_
 refine .q 6 hG ?_
 refine .E1 (α:=Nat×Value) [(1,_),(11,_),(12,_)] (fun x R=>(5,.raw x.2)::(13,.v (x.1:Int))::R) (fun x => [(true,.own 89 x.2 (T1 (a.take x.1) b))]) (fun x=>x.1≤a.length) (fun x=>a.length - x.1) ((0,.slice none 0 0)) (.c2 a8 a8 (.cons a8 (.nil _))) ?_ (.c2 a8 a8 (.c2 a8 a8 (.cons a8 (.nil _)))) (a8) fun x hF => ?_
 ·simp
 obtain⟨i,w⟩:=x
 dsimp only at hF ⊢
 have hc1:=b6b (a:=a.take i) (by simp;omega) hb
 refine .q 6 hG ⟨fun hc14 => ?_,fun hc14 => ?_⟩
 ·refine .q 5 hG ?_
  refine .ix (by first|omega|(simp;done)|(simp;omega)|(simp at *;omega)) (by first|omega|(simp;done)|(simp;omega)|(simp at *;omega)) ?_
  refine .q 2 hG fun b7 => ?_
  refine .q 3 hG ?_
  refine .C1 hC .z (.O9 7 a8 .z (.drop ?_))
  refine .q 4 hG ?_
  simp only [Int.toNat_natCast]
  refine .q 2 hG ?_
  refine .E1 (α:=Nat×Value) [(1,_),(7,_),(11,_),(12,_),(13,_),(17,_),(18,_)] (fun y R=>(5,.raw y.2)::(19,.v (y.1:Int))::R) (fun y => [(true,.own 89 y.2 (T1 (a.take i) b++(b.take y.1).filterMap (a7b a[i])))]) (fun y=>y.1≤b.length) (fun y=>b.length - y.1) ((0,w)) (.c2 a8 a8 (.c2 a8 a8 (.c2 a8 a8 (.cons a8 (.nil _))))) ?_ (.c2 a8 a8 (.c2 a8 a8 (.c2 a8 a8 (.c2 a8 a8 (.cons a8 (.nil _)))))) (congrArg (fun q => [(true,D8.own _ _ q)]) (by simp)) fun y hF => ?_
  ·simp
  obtain⟨j,u⟩:=y
  dsimp only at hF ⊢
  have hc2:=List.length_filterMap_le (a7b a[i]) (b.take j)
  refine .q 6 hG ⟨fun hc20 => ?_,fun hc20 => ?_⟩
  ·refine .q 5 hG ?_
   refine .ix (by first|omega|(simp;done)|(simp;omega)|(simp at *;omega)) (by first|omega|(simp;done)|(simp;omega)|(simp at *;omega)) ?_
   refine .q 2 hG fun b9 => ?_
   refine .q 3 hG ?_
   refine .C1 hC .z (.O9 9 a8 .z (.drop ?_))
   refine .q 5 hG ?_
   refine .p (.a8i (.t a8) (.t a8) ?_)
   refine .q 4 hG ?_
   refine .p (.a5w (.t a8) (.t a8) (.p (.bS2 u0.l0 u0.l1 a8 a2z b5g (fun c0 c1=>(⟨c0,c1⟩:u0)) (fun _ _=>a8) a8 a8 a8 (.t a8) (.t a8) ?_)))
   refine .q 1 hG fun b10 => ?_
   refine .q 3 hG ?_
   refine .C1 hC .z (.O9 10 a8 .z (.drop ?_))
   refine .q 8 hG ⟨fun hc38 => ?_,fun hc38 => ?_⟩
   ·refine .q 3 hG ?_
    refine .bs a8 (by decide) fun b41 => ?_
    refine .ap (by first|omega|(simp;done)|(simp;omega)|(simp at *;omega)) (by first|omega|(simp;done)|(simp;omega)|(simp at *;omega)) fun w42 => ?_
    refine .q 1 hG ?_
    refine .drop ?_
    refine .q 2 hG ?_
    refine .ad (by first|omega|(simp;done)|(simp;omega)|(simp at *;omega)) (by first|omega|(simp;done)|(simp;omega)|(simp at *;omega)) ?_
    refine .q 2 hG ?_
    refine⟨(j+1,_),.c2 rfl rfl (.c2 rfl rfl (.c2 rfl rfl (.c2 rfl rfl (.cons rfl (.nil _))))),congrArg (fun q => [(true,D8.own _ _ q)]) (by simp only [Int.toNat_natCast] at *;rw [a9f (by omega) (by omega)];first|rw [if_pos (by assumption),List.append_assoc]|rw [if_neg (by assumption),List.append_nil]),?_,by dsimp only;omega⟩
    dsimp only;omega
   ·refine .q 2 hG ?_
    refine .ad (by first|omega|(simp;done)|(simp;omega)|(simp at *;omega)) (by first|omega|(simp;done)|(simp;omega)|(simp at *;omega)) ?_
    refine .q 2 hG ?_
    refine⟨(j+1,_),.c2 rfl rfl (.c2 rfl rfl (.c2 rfl rfl (.c2 rfl rfl (.cons rfl (.nil _))))),congrArg (fun q => [(true,D8.own _ _ q)]) (by simp only [Int.toNat_natCast] at *;rw [a9f (by omega) (by omega)];first|rw [if_pos (by assumption),List.append_assoc]|rw [if_neg (by assumption),List.append_nil]),?_,by dsimp only;omega⟩
    dsimp only;omega
  ·refine .q 2 hG ?_
   refine .ad (by first|omega|(simp;done)|(simp;omega)|(simp at *;omega)) (by first|omega|(simp;done)|(simp;omega)|(simp at *;omega)) ?_
   refine .q 2 hG ?_
   refine⟨(i+1,_),.c2 rfl rfl (.c2 rfl rfl (.cons rfl (.nil _))),congrArg (fun q => [(true,D8.own _ _ q)]) (by dsimp only;rw [b2a (by omega),show j=b.length by omega]),?_,by dsimp only;omega⟩
   dsimp only;omega
 ·refine .q 2 hG ?_
  refine .y0 hC .z (.as 5 a8 .z ?_)
  refine .q 5 hG ?_
  refine .e1 a8 a8 ?_
  refine congrArg AV.v ?_
  rw [show i=a.length by omega,List.take_length]
theorem b3L (x:UInt64):x &&& 1=0↔¬(x &&& 1=1):=by
 rw [←UInt64.toNat_inj,←UInt64.toNat_inj,UInt64.toNat_and]
 show x.toNat &&& 1=0↔¬(x.toNat &&& 1=1)
 rw [Nat.and_one_is_mod]
 omega
theorem b2c (a:Au) (d:Int):(decide (d < a.p3/1440)||decide (a.To/1440 < d)||decide (a.T7 >>> UInt64.ofNat (d % 7).toNat &&& 1=0))=true↔(d < a.p3/1440∨d>a.To/1440∨¬bt a.T7 (d % 7)):=by
 simp only [Bool.or_eq_true,decide_eq_true_eq]
 rw [b3L,a4B (by omega) (by omega),or_assoc]
 exact Iff.rfl
theorem b8H (a:Au) (d:Int) (ha:a1m a) (hl:a.E3.length≤1000) (h0:0≤d) (h1:d≤100000):p6 gl prog 26 [.v a,.v d] (fun r=>r = .v (P8 a d)):=by
 have hf0:=ha.a2d
 have hf1:=ha.a4U
 have ht0:=ha.to0
 have ht1:=ha.to1
 refine p6.jn func26 (by kernel_rfl) 43 rfl fun C hC hG => ?_
 refine .q 3 hG fun b2 => ?_
 refine .q 4 hG ?_
 refine .C1 hC .z (.O9 2 a8 .z ?_)
 refine .q 4 hG ?_
 refine .p (.quo (.t a8) (.i a8) (by first|omega|(simp;done)|(simp;omega)|(simp at *;omega)) (by first|omega|(simp;done)|(simp;omega)|(simp at *;omega)) ?_)
 refine .q 5 hG ?_
 refine .go 10 a8 (.t a8) (fun hg14 => .quo (.q a8 hg14) (.i a8) (by first|omega|(simp;done)|(simp;omega)|(have:=hg14;simp at this;omega)) (by first|omega|(simp;done)|(simp;omega)|(have:=hg14;simp at this;omega)) a8) ?_
 refine .q 6 hG ?_
 refine .go 17 a8 (.t a8) (fun hg21 => .rem (.q a8 hg21) (.i a8) (by first|omega|(simp;done)|(simp;omega)|(have:=hg21;simp at this;omega)) (by first|omega|(simp;done)|(simp;omega)|(have:=hg21;simp at this;omega)) a8) (.go 17 a8 (.t a8) (fun hg22 => .a3q (.q a8 hg22) (.q a8 hg22) (by first|omega|(simp;done)|(simp;omega)|(have:=hg22;simp at this;omega)) (by first|omega|(simp;done)|(simp;omega)|(have:=hg22;simp at this;omega)) a8) ?_)
 refine .q 4 hG ?_
 refine .cond (.t a8) (fun hc25 => ?_) (fun hc25 => ?_)
 ·refine .q 5 hG ?_
  refine .e1 a8 a8 ?_
  exact congrArg AV.v (if_pos ((b2c a d).1 hc25)).symm
 ·refine .q 8 hG ?_
  refine .p (.mul (.t a8) (.i a8) (by first|omega|(simp;done)|(simp;omega)|(simp at *;omega)) (by first|omega|(simp;done)|(simp;omega)|(simp at *;omega)) ?_)
  refine .sb (by first|omega|(simp;done)|(simp;omega)|(simp at *;omega)) (by first|omega|(simp;done)|(simp;omega)|(simp at *;omega)) (.p (.a8i (.t a8) (.i a8) ?_))
  refine .q 3 hG ?_
  refine .p (.mul (.t a8) (.i a8) (by first|omega|(simp;done)|(simp;omega)|(simp at *;omega)) (by first|omega|(simp;done)|(simp;omega)|(simp at *;omega)) ?_)
  refine .sb (by first|omega|(simp;done)|(simp;omega)|(simp at *;omega)) (by first|omega|(simp;done)|(simp;omega)|(simp at *;omega)) (.p (.a5w (.t a8) (.i a8) (.p (.bS2 u0.l0 u0.l1 a8 a2z b5g (fun c0 c1=>(⟨c0,c1⟩:u0)) (fun _ _=>a8) a8 a8 a8 (.t a8) (.t a8) ?_))))
  refine .bs a8 (by decide) fun b41=>(.y0 hC .z (.as 41 a8 .z (.p (.p8 hG (b2b _ _ hl (by simp)) (.cons (.t a8) (.cons (.t a8) .nil)) ?_))))
  refine .q 3 hG ?_
  refine .e1 a8 a8 ?_
  exact congrArg AV.v (if_neg fun h=>by rw [(b2c a d).2 h] at hc25;cases hc25).symm
theorem b8I (l:List Sp):p6 gl prog 88 [.v l,.v l] (fun r=>r = .v true):=by
 refine p6.jn func88 (by kernel_rfl) 26 rfl fun C hC hG => ?_
 refine .q 6 hG ?_
 refine .X3 0 a8 fun hl0 => ?_
 refine .q 8 hG ⟨fun hc10 => ?_,fun hc10 => ?_⟩
 ·refine .q 5 hG ?_
  refine .e1 a8 a8 ?_
  exact absurd rfl hc10
 ·refine .q 9 hG ?_
  refine .E1 (α:=Nat) [(0,_),(1,_),(12,_)] (fun k R=>(13,.v (k:Int))::R) (fun k => []) (fun k=>k≤l.length) (fun k=>l.length - k) (0) (.c2 a8 a8 (.cons a8 (.nil _))) ?_ (.c2 a8 a8 (.c2 a8 a8 (.nil _))) (a8) fun k hF => ?_
  ·simp
  refine .q 6 hG ⟨fun hc14 => ?_,fun hc14 => ?_⟩
  ·refine .q 9 hG ?_
   refine .draw (by kernel_rfl) 9 [[],[],[(16,0),(17,1)],[(18,2)],[],[],[(20,4),(21,5)],[(22,6)],[(19,3),(23,7)]] a8 (by kernel_rfl) a8 ?_
   refine⟨_,j5.move (.t a8) a8,?_⟩
   refine⟨_,j5.move (.t a8) a8,?_⟩
   refine⟨_,j5.idx a2z underlying55 (.t a8) (.t a8) (by first|omega|(simp;done)|(simp;omega)|(simp at *;omega)) (by first|omega|(simp;done)|(simp;omega)|(simp at *;omega)) a8,?_⟩
   refine⟨_,j5.G8 a2z (.t a8) a8,?_⟩
   refine⟨_,j5.move (.t a8) a8,?_⟩
   refine⟨_,j5.move (.t a8) a8,?_⟩
   refine⟨_,j5.idx a2z underlying55 (.t a8) (.t a8) (by first|omega|(simp;done)|(simp;omega)|(simp at *;omega)) (by first|omega|(simp;done)|(simp;omega)|(simp at *;omega)) a8,?_⟩
   refine⟨_,j5.G8 a2z (.t a8) a8,?_⟩
   refine⟨_,j5.c4M c3B (by decide) a8 (by kernel_rfl) (.t a8) (.t a8) a8,?_⟩
   show D1 _ _ _ _ _ [] ((24,_)::(23,_)::(22,_)::(21,_)::(20,_)::(19,_)::(18,_)::(17,_)::(16,_)::_) _
   refine .q 1 hG ?_
   refine .cond (.t a8) (fun hc24 => ?_) (fun hc24 => ?_)
   ·refine .q 2 hG ?_
    refine .p (.assign .b ?_)
    refine .q 2 hG ?_
    refine .e1 a8 a8 ?_
    simp at hc24
   ·refine .q 2 hG ?_
    refine .ad (by first|omega|(simp;done)|(simp;omega)|(simp at *;omega)) (by first|omega|(simp;done)|(simp;omega)|(simp at *;omega)) ?_
    refine .q 2 hG ?_
    refine⟨k+1,.c2 rfl rfl (.c2 rfl rfl (.nil _)),rfl,?_,by omega⟩
    omega
  ·refine .q 6 hG ?_
   refine .e1 a8 a8 ?_
   rfl
theorem a9g (a:Au):p6 gl prog 50 [.v a,.v a] (fun r=>r = .v true):=by
 refine p6.jn func50 (by kernel_rfl) 59 rfl fun C hC hG => ?_
 refine .q 3 hG fun b2 => ?_
 refine .q 1 hG fun b3 => ?_
 refine .q 3 hG ?_
 refine .C1 hC .z (.O9 3 a8 .z (.C1 hC .z1 (.O9 2 a8 .z1 ?_)))
 refine .q 5 hG ?_
 refine .p (.b7c underlying4 (.t a8) (.t a8) ?_)
 refine .q 47 hG ?_
 refine .go 52 a8 (.t a8) (fun hg57 => .p8 hG (b8I _) (.cons (.q a8 hg57) (.cons (.q a8 hg57) .nil)) a8) ?_
 refine .q 4 hG ?_
 refine .e1 a8 a8 ?_
 simp
theorem c0G (s:Sp) (c:Cx) (h0:0≤c.Minute):p6 gl prog 27 [.v s,.p c] (fun r=>r = .v (decide (s.p3≤c.Minute % 1440)&&decide (c.Minute % 1440≤s.To))):=by
 refine p6.jn func27 (by kernel_rfl) 18 rfl fun C hC hG => ?_
 refine .q 3 hG fun b2 => ?_
 refine .q 3 hG ?_
 refine .C1 hC .z (.O9 2 a8 .z ?_)
 refine .q 3 hG ?_
 refine .p (.rem (.t a8) (.i a8) (by first|omega|(simp;done)|(simp;omega)|(simp at *;omega)) (by first|omega|(simp;done)|(simp;omega)|(simp at *;omega)) ?_)
 refine .q 6 hG ?_
 refine .go 10 a8 (.t a8) (fun hg13 => .rem (.q a8 hg13) (.i a8) (by first|omega|(simp;done)|(simp;omega)|(have:=hg13;simp at this;omega)) (by first|omega|(simp;done)|(simp;omega)|(have:=hg13;simp at this;omega)) a8) ?_
 refine .q 7 hG ?_
 refine .e1 a8 a8 ?_
 rfl
theorem b6c (l:List Sp) (p:Sp→Bool):p6 gl prog 52 [.v l,.a6k prog p] (fun r=>r = .v (idx l p)):=by
 refine p6.jn func52 (by kernel_rfl) 19 rfl fun C hC hG => ?_
 refine .q 6 hG ?_
 refine .X3 0 a8 fun hl0 => ?_
 refine .q 6 hG ?_
 refine .E1 (α:=Nat) [(0,_),(1,_),(7,_)] (fun k R=>(8,.v (k:Int))::R) (fun k => []) (fun k=>k≤l.length∧∀ j (hj:j < l.length),j < k→p l[j]=false) (fun k=>l.length - k) (0) (.c2 a8 a8 (.cons a8 (.nil _))) ?_ (.c2 a8 a8 (.c2 a8 a8 (.nil _))) (a8) fun k hF => ?_
 ·simp
 obtain⟨h1,h2⟩:=hF
 refine .q 6 hG ⟨fun hc9 => ?_,fun hc9 => ?_⟩
 ·refine .q 13 hG ?_
  refine .ix (by first|omega|(simp;done)|(simp;omega)|(simp at *;omega)) (by first|omega|(simp;done)|(simp;omega)|(simp at *;omega)) ?_
  refine .q 1 hG ?_
  refine .p (.a2Q a8 (.t a8) ?_)
  refine .q 1 hG ?_
  refine .cond (.t a8) (fun hc16 => ?_) (fun hc16 => ?_)
  ·refine .q 6 hG ?_
   refine .e1 a8 a8 ?_
   rw [a6o (by omega) (by simpa using hc16) h2]
  ·refine .q 2 hG ?_
   refine .ad (by first|omega|(simp;done)|(simp;omega)|(simp at *;omega)) (by first|omega|(simp;done)|(simp;omega)|(simp at *;omega)) ?_
   refine .q 2 hG ?_
   refine⟨k+1,.c2 rfl rfl (.c2 rfl rfl (.nil _)),rfl,?_,by omega⟩
   refine⟨by omega,fun j hj hjk => ?_⟩;rcases Nat.lt_or_ge j k with h|h;exact h2 j hj h;(obtain rfl:j=k:=by omega);simpa using hc16
 ·refine .q 3 hG ?_
  refine .p (.assign (.i a8) ?_)
  refine .q 2 hG ?_
  refine .e1 a8 a8 ?_
  rw [a10 fun j hj=>h2 j hj (by omega)]
theorem b0p (l:List Sp) (p:Sp→Bool):p6 gl prog 25 [.v l,.a6k prog p] (fun r=>r = .v (l.any p)):=by
 refine p6.jn func25 (by kernel_rfl) 9 rfl fun C hC hG => ?_
 refine .q 8 hG ?_
 refine .p (.p8 hG (b6c _ _) (.cons (.t a8) (.cons (.t a8) .nil)) ?_)
 refine .q 4 hG ?_
 refine .e1 a8 a8 ?_
 rw [a7l]
theorem a4C:∀ {l:List Sp} {lo:Int},Canon l→(∀ s∈l,lo≤s.p3∧s.To < 1440)→lo≤1440→2*(l.length:Int)≤1441 - lo
 | [],lo,_,_,h=>by simp;omega
 | s::r,lo,h,hl,h2=>by
  obtain⟨c1,c2,c3⟩:=h.cons
  have h3:=hl s (by simp)
  by_cases hr:r = []
  ·subst hr;simp;omega
  ·obtain⟨t,ht⟩:=List.exists_mem_of_ne_nil r hr
   have:=c2 t ht
   have:=(hl t (by simp [ht])).2
   have:=c3.ne t ht
   have:=a4C (lo:=s.To+2) c3 (fun t ht=>⟨by have:=c2 t ht;omega,(hl t (by simp [ht])).2⟩) (by omega)
   simp only [List.length_cons]
   omega
theorem a1m.len {a:Au} (h:a1m a):a.E3.length≤720:=by
 have:=a4C (lo:=0) h.canon h.day (by decide)
 omega
def c0H (a:Au) (c:Cx):Bool:=decide (a.L4 >>> UInt64.ofNat c.a1w.toNat &&& 1=0)||decide (a.K3 >>> UInt64.ofNat c.a1x.toNat &&& 1=0)||decide (a.A7≠⟨[]⟩)&&decide (a.A7≠c.A7)||decide (c.Minute < a.p3)||decide (a.To < c.Minute)
def M7 (a:Au) (c:Cx):Bool := !a.a2x&&U7 c && !c0H a c&&(P8 a (c.Minute/1440)).any fun s=>decide (s.p3≤c.Minute % 1440)&&decide (c.Minute % 1440≤s.To)
theorem b0q {a:Au} {c:Cx} (ha:a1m a) (hn:a.a2x=false):M7 a c=true↔U7 c=true∧a0z a c:=by
 by_cases hc:U7 c=true
 ·have hx:=b3G hc
  unfold M7 c0H a0z
  simp only [hn,hc,Bool.and_eq_true,Bool.not_eq_true',Bool.or_eq_false_iff,decide_eq_false_iff_not,Bool.and_eq_false_iff,Bool.not_false,true_and]
  rw [c0F ha (by omega),b3L,b3L,a4B (by omega) (by omega),a4B (by omega) (by omega)]
  unfold bt
  simp only [Decidable.not_not]
  constructor
  ·rintro⟨⟨⟨⟨⟨h1,h2⟩,h3⟩,h4⟩,h5⟩,h6⟩
   exact⟨h1,h2,h3,h6⟩
  ·rintro⟨h1,h2,h3,h6⟩
   exact⟨⟨⟨⟨⟨h1,h2⟩,h3⟩,by have:=h6.1;omega⟩,by have:=h6.2.1;omega⟩,h6⟩
 ·constructor
  ·intro h
   unfold M7 at h
   simp only [Bool.and_eq_true] at h
   exact absurd h.1.1.2 hc
  ·exact fun h=>absurd h.1 hc
theorem a8e (a:Au) (c:Cx) (hv:p6 gl prog 23 [.v a] (fun r=>r = .v true)) (ha:a.a2x=false→a1m a):p6 gl prog 10 [.v a,.v c] (fun r=>r = .v (M7 a c)):=by
 refine p6.jn func10 (by kernel_rfl) 66 rfl fun C hC hG => ?_
 refine .q 3 hG fun b2 => ?_
 refine .q 1 hG fun b3 => ?_
 refine .q 4 hG ?_
 refine .C1 hC .z (.O9 3 a8 .z (.C1 hC .z1 (.O9 2 a8 .z1 ?_)))
 refine .q 2 hG ?_
 refine .k hG (hv) ?_
 refine .q 7 hG ?_
 refine .kg hG (b0l _) ?_
 refine .q 3 hG ?_
 refine .cond (.t a8) (fun hc16 => ?_) (fun hc16 => ?_)
 ·refine .q 5 hG ?_
  refine .e1 a8 a8 ?_
  refine congrArg AV.v (Eq.symm ?_)
  unfold M7
  cases hn:a.a2x<;>simp_all
 ·refine .q 3 hG ?_
  have hq:a.a2x=false∧U7 c=true:=by simp at hc16;exact hc16
  have hao:=ha hq.1
  have hx:=b3G hq.2
  refine .q 5 hG ?_
  refine .p (.a3q (.t a8) (.t a8) (by first|omega|(simp;done)|(simp;omega)|(simp at *;omega)) (by first|omega|(simp;done)|(simp;omega)|(simp at *;omega)) ?_)
  refine .q 7 hG ?_
  refine .go 24 a8 (.t a8) (fun hg29 => .a3q (.q a8 hg29) (.q a8 hg29) (by first|omega|(simp;done)|(simp;omega)|(have:=hg29;simp at this;omega)) (by first|omega|(simp;done)|(simp;omega)|(have:=hg29;simp at this;omega)) a8) ?_
  refine .q 7 hG ?_
  refine .goU 33 a8 (.t a8) (fun hg37 => .move (.q a8 hg37) a8) (.gn 37 a8 a8 (fun hc38 hg38 => .y9 l8.l7 (fun x=>x.A7) b2F a8 (fun _=>a8) (.t a8) a8) (.gn 37 a8 a8 (fun hc39 hg39 => .G8 ty9 (.ou a8 (Bool.and_eq_true_iff.2 ⟨hc39,beq_iff_eq.2 hg39⟩)) a8) (.gn 37 a8 a8 (fun hc40 hg40 => .y9 x7.l3 (fun x=>x.A7) b6H a8 (fun _=>a8) (.t a8) a8) (.gn 37 a8 a8 (fun hc41 hg41 => .G8 ty9 (.ou a8 (Bool.and_eq_true_iff.2 ⟨hc41,beq_iff_eq.2 hg41⟩)) a8) (.gn 37 a8 a8 (fun hc42 hg42 => .c3f (.ou a8 (Bool.and_eq_true_iff.2 ⟨hc42,beq_iff_eq.2 hg42⟩)) (.ou a8 (Bool.and_eq_true_iff.2 ⟨hc42,beq_iff_eq.2 hg42⟩)) a8) (.go 33 a8 (.t a8) (fun hg43 => .M5 (.ou a8 (beq_iff_eq.2 hg43)) (fun hp=>(.ou a8 (Bool.and_eq_true_iff.2 ⟨(beq_iff_eq.2 hg43),beq_iff_eq.2 hp⟩))) a8) ?_))))))
  refine .q 16 hG ?_
  refine .cond (.t a8) (fun hc58 => ?_) (fun hc58 => ?_)
  ·refine .q 5 hG ?_
   refine .e1 a8 a8 ?_
   refine congrArg AV.v (Eq.symm ?_)
   have ho:c0H a c=true:=hc58
   unfold M7
   rw [ho]
   simp
  ·refine .q 6 hG ?_
   refine .p (.quo (.t a8) (.i a8) (by first|omega|(simp;done)|(simp;omega)|(simp at *;omega)) (by first|omega|(simp;done)|(simp;omega)|(simp at *;omega)) (.p (.p8 hG (b8H _ _ hao (Nat.le_trans hao.len (by decide)) (by omega) (by omega)) (.cons (.t a8) (.cons (.t a8) .nil)) (.p (.a9N hG (fun x=>c0G x _ (by omega)) (.cons (.t a8) .nil) (.p (.p8 hG (b0p _ _) (.cons (.t a8) (.cons (.t a8) .nil)) ?_)))))))
   refine .q 3 hG ?_
   refine .e1 a8 a8 ?_
   refine congrArg AV.v (Eq.symm ?_)
   have ho:c0H a c=false:=hc58
   unfold M7
   rw [ho,hq.1,hq.2]
   rfl
end Go.Proofs.YtalibdhdngbbcaaGreatDoor
