/- Plain Lean over any program, and walks of this seat's functions: contracts, each proved once (part 6). -/
import Derived.Test.YtmmclghiidoldaaGreatDoorZ5
set_option maxRecDepth 1000000
set_option synthInstance.maxSize 1000000
set_option synthInstance.maxHeartbeats 10000000
set_option linter.unusedVariables false
set_option linter.unusedSimpArgs false
namespace Go.Proofs.YtmmclghiidoldaaGreatDoor
open Go.Proofs.Tryz
open Go.Fl Go.Ab Go.Mac Go.Sha
def a2G (b:List UInt8):Nat:=(b.take 7).findIdx fun c => !decide (127 < c)
def a6s:List UInt8→Nat
 | []=>0
 | c::l=>c.toNat % 128+128*a6s l
theorem b5D:∀ l:List UInt8,a6s l < 128^l.length
 | []=>by decide
 | c::l=>by
  have:=b5D l
  rw [List.length_cons,Nat.pow_succ];unfold a6s;omega
def Z9 (b:List UInt8):Int×Int×Int :=
 if a2G b=7 then (0,0,5) else if a2G b=b.length then (0,0,3) else
 if (decide (0 < a2G b)&&decide (b.getD (a2G b) 0=0)) then (0,0,5) else
 if 281474976710656 < a6s (b.take (a2G b+1)) then (0,0,1) else ((a6s (b.take (a2G b+1)):Int),(a2G b:Int)+1,0)
theorem b8T (b:List UInt8):a2G b≤7∧a2G b≤b.length:=by
 have h:=List.findIdx_le_length (p:=fun c:UInt8 => !decide (127 < c)) (xs:=b.take 7)
 rw [List.length_take] at h
 unfold a2G;omega
theorem b8U {b:List UInt8} {k:Nat} (h1:k≤7) (h2:k≤b.length) (h3:∀ j (hj:j < b.length),j < k→decide (127 < b[j])=true) (h4:k=7∨k=b.length∨∃ h:k < b.length,decide (127 < b[k])=false):a2G b=k:=by
 unfold a2G
 by_cases e:k < (b.take 7).length
 ·rw [List.findIdx_eq e]
  rw [List.length_take] at e
  refine⟨?_,fun j hj => ?_⟩
  ·rcases h4 with h4|h4|⟨h4,h5⟩
   ·omega
   ·omega
   ·simp only [List.getElem_take];rw [h5];rfl
  ·simp only [List.getElem_take];rw [h3 j (by omega) hj];rfl
 ·rw [List.length_take] at e
  have:(b.take 7).length=k:=by rw [List.length_take];omega
  rw [←this]
  refine List.findIdx_eq_length.2 fun x hx => ?_
  obtain⟨j,hj,rfl⟩:=List.getElem_of_mem hx
  simp only [List.getElem_take]
  rw [List.length_take] at hj
  rw [h3 j (by omega) (by omega)];rfl
theorem b6H {b:List UInt8} {k j:Nat} (hk:k < b.length) (hj:j≤k) (hj2:j < b.length):a6s ((b.take (k+1)).drop j)=128*a6s ((b.take (k+1)).drop (j+1))+b[j].toNat % 128:=by
 have hl:j < (b.take (k+1)).length:=by rw [List.length_take];omega
 rw [List.drop_eq_getElem_cons hl]
 simp only [a6s,List.getElem_take];omega
theorem b5E {b:List UInt8} {k:Nat} (h:k < b.length):b.getD k default=b[k]:=by rw [List.getD_eq_getElem?_getD,List.getElem?_eq_getElem h];rfl
theorem a8N {b:List UInt8} {k j:Nat} (hk:k≤6):a6s ((b.take (k+1)).drop j) < 562949953421312:=by
 refine Nat.lt_of_lt_of_le (b5D _) ?_
 refine Nat.le_trans (Nat.pow_le_pow_right (by decide) (show((b.take (k+1)).drop j).length≤7 by simp;omega)) (by decide)
theorem c0S (b:List UInt8):p4 gl prog 208 [.v b] (fun r=>r = .t3 (.v (Z9 b).1) (.v (Z9 b).2.1) (.v (Z9 b).2.2)):=by
 refine p4.jn func208 (by kernel_rfl) 59 rfl fun C hC hG => ?_
 refine .q 7 hG ?_
 refine .T3 0 a8 fun hl0 => ?_
 refine .q 5 hG ?_
 refine .D8 (α:=Nat) [(0,_)] (fun k R=>(5,.v (k:Int))::R) (fun k => []) (fun k=>k≤7∧k≤b.length∧∀ j (hj:j < b.length),j < k→decide (127 < b[j])=true) (fun k=>7 - k) (0) (.cons a8 (.nil _)) ?_ (.c2 a8 a8 (.nil _)) (a8) fun k hF => ?_
 ·simp
 obtain⟨h1,h2,h3⟩:=hF
 refine .q 14 hG ?_
 refine .go 16 a8 (.t a8) (fun hg19 => .c3H ty5 underlying86 (.q a8 hg19) (.q a8 hg19) (by first|omega|(simp;omega)|(have:=hg19;simp at this;omega)) (by first|omega|(simp;omega)|(have:=hg19;simp at this;omega)) a8) ?_
 refine .q 4 hG ?_
 refine .cond (.t a8) (fun hc22 => ?_) (fun hc22 => ?_)
 ·refine .q 2 hG ?_
  have hlt1:k < b.length:=by(simp only [Bool.and_eq_true,decide_eq_true_eq] at hc22;omega)
  have hlt2:k < 7:=by(simp only [Bool.and_eq_true,decide_eq_true_eq] at hc22;omega)
  have hlt3:decide (127 < b[k])=true:=(by rw [←b5E hlt1];simp only [Bool.and_eq_true] at hc22;exact hc22.2)
  refine .q 2 hG ?_
  refine .ad (by omega) (by omega) ?_
  refine .q 2 hG ?_
  refine⟨k+1,.c2 rfl rfl (.nil _),rfl,?_,by omega⟩
  refine⟨by omega,by omega,fun j hj hjk => ?_⟩;rcases Nat.lt_or_ge j k with h|h;exact h3 j hj h;(obtain rfl:j=k:=by omega);exact hlt3
 ·refine .q 3 hG ?_
  have hcl:a2G b=k:=b8U h1 h2 h3 (by rcases Nat.lt_or_ge k 7 with h|h;rcases Nat.lt_or_ge k b.length with h5|h5;right;right;refine⟨h5,?_⟩;(rw [decide_eq_true (show(k:Int) < (b.length:Int) by omega),decide_eq_true (show(k:Int) < 7 by omega)] at hc22;rw [←b5E h5];exact hc22);right;left;omega;left;omega)
  refine .q 5 hG ⟨fun hc26 => ?_,fun hc26 => ?_⟩
  ·refine .q 7 hG ?_
   refine⟨_,.r3 a8 (.tmp a8) (.tmp a8) (.tmp a8),?_⟩
   have e:Z9 b=(0,0,5):=(by unfold Z9;rw [if_pos (by omega)])
   rw [e]
  ·refine .q 10 hG ⟨fun hc30 => ?_,fun hc30 => ?_⟩
   ·refine .q 7 hG ?_
    refine⟨_,.r3 a8 (.tmp a8) (.tmp a8) (.tmp a8),?_⟩
    have e:Z9 b=(0,0,3):=(by unfold Z9;rw [if_neg (by omega),if_pos (by omega)])
    rw [e]
   ·refine .q 3 hG ?_
    have hkl:k < b.length:=by omega
    have hgd:b.getD k 0=b[k]:=by rw [List.getD_eq_getElem?_getD,List.getElem?_eq_getElem hkl];rfl
    refine .q 6 hG ?_
    refine .go 33 a8 (.t a8) (fun hg36 => .c3H ty5 underlying86 (.q a8 hg36) (.q a8 hg36) (by first|omega|(simp;omega)|(have:=hg36;simp at this;omega)) (by first|omega|(simp;omega)|(have:=hg36;simp at this;omega)) a8) ?_
    refine .q 4 hG ?_
    refine .cond (.t a8) (fun hc39 => ?_) (fun hc39 => ?_)
    ·refine .q 7 hG ?_
     refine⟨_,.r3 a8 (.tmp a8) (.tmp a8) (.tmp a8),?_⟩
     have e:Z9 b=(0,0,5):=(by unfold Z9;rw [if_neg (by omega),if_neg (by omega),hcl,if_pos (by simp only [Bool.and_eq_true,decide_eq_true_eq] at hc39 ⊢;exact⟨by omega,hc39.2⟩)])
     rw [e]
    ·refine .q 2 hG ?_
     have hcz:(decide (0 < a2G b)&&decide (b.getD (a2G b) 0=0))=false:=(by rw [hcl,←hc39];congr 1;exact decide_eq_decide.2 (by omega))
     refine .q 10 hG ?_
     refine .D8 (α:=Nat) [(0,_),(5,_)] (fun j R=>(6,.v ((a6s ((b.take (k+1)).drop j):Nat):Int))::(7,.v ((j:Int) - 1))::R) (fun j => []) (fun j=>j≤k+1) (fun j=>j) (k+1) (.c2 a8 a8 (.nil _)) ?_ (.cons (congrArg (fun q=>some (AV.v q)) (by simp [a6s])) (.cons (congrArg (fun q=>some (AV.v q)) (by omega)) (.c2 a8 a8 (.nil _)))) (a8) fun j hF => ?_
     ·simp
     refine .q 7 hG ⟨fun hc42 => ?_,fun hc42 => ?_⟩
     ·refine .q 3 hG ?_
      have hj0:1≤j:=by omega
      have hvs:=a8N (b:=b) (k:=k) (j:=j) (by omega)
      refine .q 2 hG ?_
      refine .p (.mul (.i a8) (.t a8) (by omega) (by omega) ?_)
      refine .q 2 hG ?_
      refine .ix (by omega) (by omega) ?_
      refine .q 1 hG ?_
      refine .p (.c11 underlying5 underlying3 (.t a8) (.p (.rem (.t a8) (.i a8) (by omega) (by omega) ?_)))
      refine .ad (by omega) (by omega) ?_
      refine .q 2 hG ?_
      have hs:(128:Int)*((a6s ((b.take (k+1)).drop j):Nat):Int)+((b[((j:Int) - 1).toNat]'(by omega)).toNat:Int) % 128=((a6s ((b.take (k+1)).drop (j - 1)):Nat):Int):=(by have h5:=b6H (b:=b) (k:=k) (j:=j - 1) hkl (by omega) (by omega);rw [show j - 1+1=j by omega] at h5;rw [h5];simp only [show((j:Int) - 1).toNat=j - 1 by omega];omega)
      refine .q 2 hG ?_
      refine .sb (by omega) (by omega) ?_
      refine .q 2 hG ?_
      refine⟨j - 1,.cons (congrArg (fun q=>some (AV.v q)) hs) (.cons (congrArg (fun q=>some (AV.v q)) (by omega)) (.c2 rfl rfl (.nil _))),rfl,?_,by omega⟩
      omega
     ·refine .q 3 hG ?_
      obtain rfl:j=0:=by omega
      rw [List.drop_zero]
      have hvs:=a8N (b:=b) (k:=k) (j:=0) (by omega)
      rw [List.drop_zero] at hvs
      refine .q 5 hG ⟨fun hc55 => ?_,fun hc55 => ?_⟩
      ·refine .q 7 hG ?_
       refine⟨_,.r3 a8 (.tmp a8) (.tmp a8) (.tmp a8),?_⟩
       have e:Z9 b=(0,0,1):=(by unfold Z9;rw [if_neg (by omega),if_neg (by omega),hcz,if_neg (by decide),hcl,if_pos (by omega)])
       rw [e]
      ·refine .q 5 hG ?_
       refine .ad (by omega) (by omega) ?_
       refine .q 5 hG ?_
       refine⟨_,.r3 a8 (.tmp a8) (.tmp a8) (.tmp a8),?_⟩
       have e:Z9 b=((a6s (b.take (k+1)):Int),(k:Int)+1,0):=(by unfold Z9;rw [if_neg (by omega),if_neg (by omega),hcz,if_neg (by decide),hcl,if_neg (by omega)])
       rw [e]
theorem b4r (b:List UInt8):0≤(Z9 b).2.1∧(Z9 b).2.1≤b.length:=by
 have h:=b8T b
 unfold Z9
 split
 ·exact⟨Int.le_refl _,Int.natCast_nonneg _⟩
 ·split
  ·exact⟨Int.le_refl _,Int.natCast_nonneg _⟩
  ·split
   ·exact⟨Int.le_refl _,Int.natCast_nonneg _⟩
   ·split
    ·exact⟨Int.le_refl _,Int.natCast_nonneg _⟩
    ·dsimp only;omega
abbrev Rdr:=m7
abbrev rd (w:Value):AV := .ln w (j9.id (α:=Rdr))
def b4s (r:Rdr):Prop:=0≤r.Used∧r.Used≤r.B.length∧r.B.length≤1000000
def a36 (r:Rdr) (e:Int):Rdr:=if r.E=0 then ⟨r.B,r.Used,e⟩ else r
theorem b8V (r:Rdr) (e:Int):(a36 r e).B=r.B:=by unfold a36;split<;>rfl
theorem b2B (r:Rdr) (e:Int):(a36 r e).Used=r.Used:=by unfold a36;split<;>rfl
theorem c0T (w:Value) (r:Rdr) (e:Int):E4 gl prog 209 [rd w,.v e] [.ob w r] (fun x Hs=>Hs = [.ob w (a36 r e)]):=by
 refine E4.P8 func209 rfl (by kernel_rfl) 13 rfl rfl _ rfl _ rfl fun C hC hG => ?_
 refine .q 2 hG ?_
 refine .mv a8 (.p (.F1 (.t a8) (.p (.A9 m7.l2 a4U a8 (.t a8) (.p (.ldF (fun x=>x.E) b6g (.t a8) .z (fun _=>a8) (.p (.b2Q (.t a8) (.i a8) ?_))))))))
 refine .q 1 hG ?_
 refine .K8 (.t a8) (fun hc8 => ?_) (fun hc8 => ?_)
 ·refine .q 1 hG ?_
  refine .mv a8 (.mv a8 (.p (.F1 (.t a8) (.p (.A9 m7.l2 a4U a8 (.t a8) (.n (.stF (fun y x => { x with E:=y }) b6g (.t a8) (.t a8) .z (fun _ _=>a8) ?_)))))))
  refine .q 1 hG ?_
  refine⟨_,.r0 a8,?_⟩
  have e0:a36 r e=⟨r.B,r.Used,e⟩:=if_pos hc8
  refine⟨_,.cons .z (.nil),?_⟩
  rw [e0]
 ·refine .q 1 hG ?_
  refine⟨_,.r0 a8,?_⟩
  have e0:a36 r e=r:=if_neg hc8
  refine⟨_,.cons .z (.nil),?_⟩
  rw [e0]
def rdNum (r:Rdr):Int×Rdr :=
 if r.E≠0 then (0,r) else ((Z9 (r.B.drop r.Used.toNat)).1,⟨r.B,r.Used+(Z9 (r.B.drop r.Used.toNat)).2.1,(a36 r (Z9 (r.B.drop r.Used.toNat)).2.2).E⟩)
theorem b6I (w:Value) (r:Rdr) (h:b4s r):E4 gl prog 185 [rd w] [.ob w r] (fun x Hs=>x = .v (rdNum r).1∧Hs = [.ob w (rdNum r).2]):=by
 obtain⟨h0,h1,h2⟩:=h
 have hu:=b4r (r.B.drop r.Used.toNat)
 have hdl:(r.B.drop r.Used.toNat).length=r.B.length - r.Used.toNat:=List.length_drop
 refine E4.P8 func185 rfl (by kernel_rfl) 38 rfl rfl _ rfl _ rfl fun C hC hG => ?_
 refine .q 2 hG ?_
 refine .p (.assign (.i a8) ?_)
 refine .q 4 hG ?_
 refine .mv a8 (.p (.F1 (.t a8) (.p (.A9 m7.l2 a4U a8 (.t a8) (.p (.ldF (fun x=>x.E) b6g (.t a8) .z (fun _=>a8) (.p (.a7D (.t a8) (.i a8) ?_))))))))
 refine .q 1 hG ?_
 refine .K8 (.t a8) (fun hc10 => ?_) (fun hc10 => ?_)
 ·refine .q 2 hG ?_
  refine .p (.assign (.i a8) ?_)
  refine .q 2 hG ?_
  refine .e1 a8 a8 ?_
  have e0:rdNum r=(0,r):=if_pos hc10
  refine⟨_,.cons .z (.nil),?_⟩
  rw [e0];exact⟨rfl,rfl⟩
 ·refine .q 2 hG ?_
  refine .draw (by kernel_rfl) 17 [[],[(12,0)],[(13,1)],[(14,2)],[],[(16,4)],[(17,5)],[(18,6)],[(15,3),(19,7)],[(20,8)],[(21,9)],[(11,10)],[(11,10)],[(11,10)],[(22,11)],[(23,12)],[(24,13)]] a8 (by kernel_rfl) a8 ?_
  refine⟨_,j6.move (.t a8) a8,?_⟩
  refine⟨_,j6.F1 (.t a8) a8,?_⟩
  refine⟨_,j6.A9 m7.l0 a98 a8 (.t a8) a8,?_⟩
  refine⟨_,j6.ldF (fun x=>x.B) a3y (.t a8) .z (fun _=>a8) a8,?_⟩
  refine⟨_,j6.move (.t a8) a8,?_⟩
  refine⟨_,j6.F1 (.t a8) a8,?_⟩
  refine⟨_,j6.A9 m7.l1 a3M a8 (.t a8) a8,?_⟩
  refine⟨_,j6.ldF (fun x=>x.Used) P5 (.t a8) .z (fun _=>a8) a8,?_⟩
  refine⟨_,j6.b7J ty5 underlying86 (.t a8) (.t a8) (by omega) (by omega) a8,?_⟩
  refine⟨_,j6.o8 hG (c0S _) (.cons (.t a8) .nil) a8,?_⟩
  refine⟨_,j6.move (.t a8) a8,?_⟩
  refine⟨_,j6.O3 (.t a8) a8,?_⟩
  refine⟨_,j6.O4 (.t a8) a8,?_⟩
  refine⟨_,j6.O5 (.t a8) a8,?_⟩
  refine⟨_,j6.assign (.t a8) a8,?_⟩
  refine⟨_,j6.assign (.t a8) a8,?_⟩
  refine⟨_,j6.assign (.t a8) a8,?_⟩
  show D0 _ _ _ _ _ [] ((5,_)::(4,_)::(3,_)::(24,_)::(23,_)::(22,_)::(11,_)::(21,_)::(20,_)::(19,_)::(18,_)::(17,_)::(16,_)::(15,_)::(14,_)::(13,_)::(12,_)::_) _
  refine .q 5 hG ?_
  refine .km hG (c0T _ _ _) .z (by rintro _ _ rfl;exact⟨_,rfl⟩) fun r27 B27 hr27 => ?_
  cases hr27
  refine .q 2 hG ?_
  have hfu:=b2B r (Z9 (r.B.drop r.Used.toNat)).2.2
  refine .q 7 hG ?_
  refine .ad (by omega) (by omega) ?_
  refine .q 10 hG ?_
  refine .e1 a8 a8 ?_
  have e0:rdNum r=((Z9 (r.B.drop r.Used.toNat)).1,⟨r.B,r.Used+(Z9 (r.B.drop r.Used.toNat)).2.1,(a36 r (Z9 (r.B.drop r.Used.toNat)).2.2).E⟩):=if_neg hc10
  refine⟨_,.cons .z (.nil),?_⟩
  rw [e0];refine⟨rfl,?_⟩;rw [b8V,b2B]
theorem b8W (w:Value) (r:Rdr) (n:Int) (h:b4s r) (he:r.E=0) (hn0:0≤n) (hn:n≤r.B.length - r.Used):E4 gl prog 207 [rd w,.v n] [.ob w r] (fun x Hs=>x = .v ((r.B.take (r.Used+n).toNat).drop r.Used.toNat)∧Hs = [.ob w (⟨r.B,r.Used+n,r.E⟩:Rdr)]):=by
 obtain⟨h0,h1,h2⟩:=h
 refine E4.P8 func207 rfl (by kernel_rfl) 58 rfl rfl _ rfl _ rfl fun C hC hG => ?_
 refine .q 6 hG ?_
 refine .draw (by kernel_rfl) 19 [[],[(5,0)],[(6,1)],[(7,2)],[(8,3)],[(9,4)],[],[(11,6)],[(12,7)],[(13,8)],[(14,9)],[],[(16,11)],[(17,12)],[(18,13)],[(15,10),(19,14)],[],[(20,15),(21,16)],[(10,5),(22,17)]] a8 (by kernel_rfl) a8 ?_
 refine⟨_,j6.move (.t a8) a8,?_⟩
 refine⟨_,j6.F1 (.t a8) a8,?_⟩
 refine⟨_,j6.A9 m7.l2 a4U a8 (.t a8) a8,?_⟩
 refine⟨_,j6.ldF (fun x=>x.E) b6g (.t a8) .z (fun _=>a8) a8,?_⟩
 refine⟨_,j6.b2Q (.t a8) (.i a8) a8,?_⟩
 refine⟨_,j6.move (.t a8) a8,?_⟩
 refine⟨_,⟨_,_,a8,a8,fun hg11=>j6.move (.t a8) a8⟩,?_⟩
 refine⟨_,⟨_,_,a8,a8,fun hg12=>j6.F1 (.q a8 hg12) a8⟩,?_⟩
 refine⟨_,⟨_,_,a8,a8,fun hg13=>j6.A9 m7.l0 a98 a8 (.q a8 hg13) a8⟩,?_⟩
 refine⟨_,⟨_,_,a8,a8,fun hg14=>j6.ldF (fun x=>x.B) a3y (.q a8 hg14) .z (fun _=>a8) a8⟩,?_⟩
 refine⟨_,⟨_,_,a8,a8,fun hg15=>j6.len underlying86 (.q a8 hg15) a8⟩,?_⟩
 refine⟨_,⟨_,_,a8,a8,fun hg16=>j6.move (.t a8) a8⟩,?_⟩
 refine⟨_,⟨_,_,a8,a8,fun hg17=>j6.F1 (.q a8 hg17) a8⟩,?_⟩
 refine⟨_,⟨_,_,a8,a8,fun hg18=>j6.A9 m7.l1 a3M a8 (.q a8 hg18) a8⟩,?_⟩
 refine⟨_,⟨_,_,a8,a8,fun hg19=>j6.ldF (fun x=>x.Used) P5 (.q a8 hg19) .z (fun _=>a8) a8⟩,?_⟩
 refine⟨_,⟨_,_,a8,a8,fun hg20=>j6.sub (.q a8 hg20) (.q a8 hg20) (by first|omega|(simp;omega)|(have:=hg20;simp at this;omega)) (by first|omega|(simp;omega)|(have:=hg20;simp at this;omega)) a8⟩,?_⟩
 refine⟨_,⟨_,_,a8,a8,fun hg21=>j6.move (.t a8) a8⟩,?_⟩
 refine⟨_,⟨_,_,a8,a8,fun hg22=>j6.lss (.q a8 hg22) (.q a8 hg22) a8⟩,?_⟩
 refine⟨_,j6.T5 (.t a8) (fun hp=>(.q a8 hp)) a8,?_⟩
 show D0 _ _ _ _ _ [] ((23,_)::(22,_)::(21,_)::(20,_)::(19,_)::(18,_)::(17,_)::(16,_)::(15,_)::(14,_)::(13,_)::(12,_)::(11,_)::(10,_)::(9,_)::(8,_)::(7,_)::(6,_)::(5,_)::_) _
 refine .q 1 hG ?_
 refine .cond (.t a8) (fun hc23=>(by exfalso;simp only [he,Bool.and_eq_true,decide_eq_true_eq] at hc23;omega)) (fun hc23 => ?_)
 refine .q 4 hG ?_
 refine .mv a8 (.p (.F1 (.t a8) (.p (.A9 m7.l2 a4U a8 (.t a8) (.p (.ldF (fun x=>x.E) b6g (.t a8) .z (fun _=>a8) (.p (.a7D (.t a8) (.i a8) ?_))))))))
 refine .q 1 hG ?_
 refine .K8 (.t a8) (fun hc31=>(by exfalso;exact hc31 he)) (fun hc31 => ?_)
 refine .q 3 hG ?_
 refine .mv a8 (.mv a8 (.p (.F1 (.t a8) (.p (.A9 m7.l1 a3M a8 (.t a8) (.p (.ldF (fun x=>x.Used) P5 (.t a8) .z (fun _=>a8) (.mv a8 (.p (.add (.t a8) (.t a8) (by omega) (by omega) (.p (.F1 (.t a8) (.p (.A9 m7.l1 a3M a8 (.t a8) (.n (.stF (fun y x => { x with Used:=y }) P5 (.t a8) (.t a8) .z (fun _ _=>a8) ?_))))))))))))))))
 refine .q 2 hG ?_
 refine .draw (by kernel_rfl) 16 [[],[(43,0)],[(44,1)],[(45,2)],[],[(47,4)],[(48,5)],[(49,6)],[],[(50,7),(51,8)],[],[(53,10)],[(54,11)],[(55,12)],[(46,3),(52,9),(56,13)],[(57,14)]] a8 (by kernel_rfl) a8 ?_
 refine⟨_,j6.move (.t a8) a8,?_⟩
 refine⟨_,j6.F1 (.t a8) a8,?_⟩
 refine⟨_,j6.A9 m7.l0 a98 a8 (.t a8) a8,?_⟩
 refine⟨_,j6.ldF (fun x=>x.B) a3y (.t a8) .z (fun _=>a8) a8,?_⟩
 refine⟨_,j6.move (.t a8) a8,?_⟩
 refine⟨_,j6.F1 (.t a8) a8,?_⟩
 refine⟨_,j6.A9 m7.l1 a3M a8 (.t a8) a8,?_⟩
 refine⟨_,j6.ldF (fun x=>x.Used) P5 (.t a8) .z (fun _=>a8) a8,?_⟩
 refine⟨_,j6.move (.t a8) a8,?_⟩
 refine⟨_,j6.sub (.t a8) (.t a8) (by simp<;>omega) (by simp<;>omega) a8,?_⟩
 refine⟨_,j6.move (.t a8) a8,?_⟩
 refine⟨_,j6.F1 (.t a8) a8,?_⟩
 refine⟨_,j6.A9 m7.l1 a3M a8 (.t a8) a8,?_⟩
 refine⟨_,j6.ldF (fun x=>x.Used) P5 (.t a8) .z (fun _=>a8) a8,?_⟩
 refine⟨_,j6.c3h ty5 underlying86 (.t a8) (.t a8) (.t a8) (by simp<;>omega) (by omega) (by simp<;>omega) a8,?_⟩
 refine⟨_,j6.assign (.t a8) a8,?_⟩
 show D0 _ _ _ _ _ [] ((4,_)::(57,_)::(56,_)::(55,_)::(54,_)::(53,_)::(52,_)::(51,_)::(50,_)::(49,_)::(48,_)::(47,_)::(46,_)::(45,_)::(44,_)::(43,_)::_) _
 refine .q 2 hG ?_
 refine .e1 a8 a8 ?_
 refine⟨_,.cons .z (.nil),?_⟩
 refine⟨congrArg AV.v ?_,a8⟩
 rw [show r.Used+n - n=r.Used by omega]
theorem c2E (w:Value) (r:Rdr) (h:b4s r) (he:r.E=0) (hn:32≤r.B.length - r.Used):E4 gl prog 184 [rd w] [.ob w r] (fun x Hs=>x = .v (S0 (default:Tag) ((r.B.take (r.Used+32).toNat).drop r.Used.toNat))∧Hs = [.ob w (⟨r.B,r.Used+32,r.E⟩:Rdr)]):=by
 have hok:=h
 obtain⟨h0,h1,h2⟩:=h
 refine E4.P8 func184 rfl (by kernel_rfl) 9 rfl rfl _ rfl _ rfl fun C hC hG => ?_
 refine .q 3 hG fun b2 => ?_
 refine .q 4 hG fun b3 => ?_
 refine .q 2 hG ?_
 refine .D7 [j0,j1,j0] (by kernel_rfl) 4 [[],[],[(5,1)],[(4,0),(6,2)]] [2,3] a8 (by kernel_rfl) a8 (by kernel_rfl) (by decide) ?_
 refine⟨_,fun H=>j6.b7K M6 (.t a8) a8,?_⟩
 refine⟨_,fun H=>j6.move (.t a8) a8,?_⟩
 refine .inl (.inl ?_)
 refine⟨⟨([],j2 [_,c8,_]),a8⟩,?_⟩
 refine A0.a1m hG (b8W _ _ _ hok he (by decide) hn) .z2 (.cons (.t rfl) (.cons (.i rfl) .nil)) (by rintro _ _ ⟨_,rfl⟩;exact⟨_,rfl⟩) fun r6 B6 hr6 => ?_
 obtain⟨rfl,hB⟩:=hr6
 cases hB
 refine⟨⟨([],j2 [_,c8,_]),a8⟩,?_⟩
 refine A0.b7R ty5 underlying86 (.t rfl) .z (.v (.t rfl)) (by simp<;>omega) ?_
 refine⟨⟨([],j2 [_,c8,_]),a8⟩,?_⟩
 show D0 _ _ _ _ _ [] ((7,_)::(6,_)::(5,_)::(4,_)::_) _
 refine .q 7 hG ?_
 refine⟨_,.r1 a8 (.cell A5 a8 .z1),?_⟩
 refine⟨_,.cons .z2 (.nil),?_⟩
 exact⟨a8,a8⟩
theorem a9N {w:Value} {r r':Rdr} {v:Int} (h:b4s r) (e:rdNum r=(v,r')):E4 gl prog 185 [rd w] [.ob w r] (fun x Hs=>x = .v v∧Hs = [.ob w r']):=by
 have:=b6I w r h
 rw [e] at this;exact this
theorem b0U (a : C9) (c : b0I) (t : List UInt8) (k : Tag) (hpl : ∀ x ∈ a.x9, x.Plain.length ≤ 1000000) (ho : C4 a c.Key t = (k.l ++ [0, 150, 1], 0)) :
    p4 gl prog 141 [.v a,.v c,.v t] (fun r=>r = .t3 (.v k) (.v (⟨0,150⟩:B0)) (.v (0:Int))):=by
  have hb:(k.l ++ [0,150,1]).length=35:=by rw [List.length_append,I8.len];rfl
  have ht:(k.l ++ [0,150,1]).take 32=k.l:=List.take_left' k.len
  have hd:(k.l ++ [0,150,1]).drop 32 = [0,150,1]:=List.drop_left' k.len
  have hd2:(k.l ++ [0,150,1]).drop 33 = [150,1]:=by
    rw [show 33=32+1 from rfl,←List.drop_drop,hd];rfl
  have hn1:rdNum ⟨k.l ++ [0,150,1],32,0⟩=(0,⟨k.l ++ [0,150,1],33,0⟩):=by
    unfold rdNum
    rw [if_neg (show ¬((0:Int)≠0) by decide)]
    dsimp only
    rw [show((32:Int).toNat)=32 from rfl,hd];rfl
  have hn2:rdNum ⟨k.l ++ [0,150,1],33,0⟩=(150,⟨k.l ++ [0,150,1],35,0⟩):=by
    unfold rdNum
    rw [if_neg (show ¬((0:Int)≠0) by decide)]
    dsimp only
    rw [show((33:Int).toNat)=33 from rfl,hd2];rfl
  have ok0:b4s ⟨k.l ++ [0,150,1],0,0⟩:=⟨Int.le_refl _,Int.natCast_nonneg _,by dsimp only;omega⟩
  have ok1:b4s ⟨k.l ++ [0,150,1],32,0⟩:=⟨show(0:Int)≤32 by decide,by dsimp only;omega,by dsimp only;omega⟩
  have ok2:b4s ⟨k.l ++ [0,150,1],33,0⟩:=⟨show(0:Int)≤33 by decide,by dsimp only;omega,by dsimp only;omega⟩
  refine p4.jn func141 (by kernel_rfl) 61 rfl fun C hC hG => ?_
  refine .q 3 hG fun b3 => ?_
  refine .q 1 hG fun b4 => ?_
  refine .q 1 hG fun b6 => ?_
  refine .q 1 hG fun b7 => ?_
  refine .q 3 hG ?_
  refine .y6 hC .z3 (.L6 3 a8 .z3 (.y6 hC .z2 (.L6 4 a8 .z2 ?_)))
  refine .q 5 hG ?_
  refine .p (.o8 hG (c0u _ _ _ hpl) (.cons (.t a8) (.cons (.t a8) (.cons (.t a8) .nil))) ?_)
  refine .q 8 hG ?_
  rw [ho]
  refine .q 4 hG ?_
  refine .K8 (.t a8) (fun hc23=>(by exfalso;exact hc23 rfl)) (fun hc23 => ?_)
  refine .q 4 hG ?_
  refine .p (.bS1 m7.l0 a8 c3A c29 (fun c0=>(⟨c0,0,0⟩:m7)) (fun _=>a8) a8 a8 (.t a8) ?_)
  refine .q 1 hG fun b29 => ?_
  refine .q 5 hG ?_
  refine .km hG (c2E _ (⟨k.l ++ [0,150,1],0,0⟩:Rdr) ok0 a8 (by dsimp only;omega)) .z (by rintro _ _ ⟨_,rfl⟩;exact⟨_,rfl⟩) fun r31 B31 hr31 => ?_
  obtain⟨rfl,hB⟩:=hr31
  cases hB
  refine .q 1 hG fun b12 => ?_
  refine .q 5 hG fun b13 => ?_
  refine .q 4 hG ?_
  refine .km hG (a9N ok1 hn1) .z2 (by rintro _ _ ⟨_,rfl⟩;exact⟨_,rfl⟩) fun r33 B33 hr33 => ?_
  obtain⟨rfl,hB⟩:=hr33
  cases hB
  refine .q 6 hG ?_
  refine .km hG (a9N ok2 hn2) .z2 (by rintro _ _ ⟨_,rfl⟩;exact⟨_,rfl⟩) fun r36 B36 hr36 => ?_
  obtain⟨rfl,hB⟩:=hr36
  cases hB
  refine .q 22 hG ?_
  refine .kg hG (a9J _) ?_
  refine .q 3 hG ?_
  refine .cond (.t a8) (fun hc56=>(by exfalso;simp [hb,a0C] at hc56)) (fun hc56 => ?_)
  refine .q 2 hG ?_
  refine .D7 [j1,j1,j1,j0,j0,j1,j1] (by kernel_rfl) 5 [[],[],[(59,0)],[(60,1)],[]] [2,3] a8 (by kernel_rfl) a8 (by kernel_rfl) (by decide) ?_
  refine⟨_,fun H=>j6.S4 A5 (.t a8) (u4.app .z1) a8,?_⟩
  refine⟨_,fun H=>j6.S4 b1K (.t a8) (u4.app .z) a8,?_⟩
  refine .inl (.inl ?_)
  refine⟨_,fun H=>j6.assign (.i a8) a8,?_⟩
  refine⟨⟨([],j2 [c8,c8,c8,_,_,c8,c8]),a8⟩,?_⟩
  refine A0.R6 A5 (.t rfl) (.t rfl) .z4 ?_
  refine⟨⟨([],j2 [c8,c8,c8,_,_,c8,c8]),a8⟩,?_⟩
  refine A0.R6 b1K (.t rfl) (.t rfl) .z3 ?_
  refine⟨⟨([],j2 [c8,c8,c8,_,_,c8,c8]),a8⟩,?_⟩
  show D0 _ _ _ _ _ [] ((8,_)::(60,_)::(59,_)::_) _
  refine .q 2 hG ?_
  refine⟨_,.r3 a8 (.cell A5 a8 .z4) (.cell b1K a8 .z3) (.tmp a8),?_⟩
  show AV.t3 (.v (S0 (default:Tag) (((k.l ++ [0,150,1]).take 32).drop 0))) (.v (⟨0,150⟩:B0)) (.v (0:Int))=_
  rw [List.drop_zero,ht,a6q]
abbrev b8X:=y8
def b2C (c:b0I) (s:Y4):Option b8X:=c.a1I.find? fun p=>decide (p.Name=s)
theorem b0V (c:b0I) (s:Y4):p4 gl prog 142 [.v c,.v s] (fun r=>r = .t2 (.v ((b2C c s).getD default)) (.v (b2C c s).isSome)):=by
 refine p4.jn func142 (by kernel_rfl) 28 rfl fun C hC hG => ?_
 refine .q 3 hG fun b2 => ?_
 refine .q 1 hG fun b4 => ?_
 refine .q 4 hG ?_
 refine .y6 hC .z1 (.L6 2 a8 .z1 (.del (.s .z) ?_))
 refine .q 4 hG ?_
 refine .D8 (α:=Nat) [(1,_),(2,_),(4,_)] (fun k R=>(6,.v (k:Int))::R) (Function.const _ _) (fun k=>k≤c.a1I.length∧∀ j (hj:j < c.a1I.length),j < k→decide (c.a1I[j].Name=s)=false) (fun k=>c.a1I.length - k) (0) (.c2 a8 a8 (.cons a8 (.nil _))) ?_ (.c2 a8 a8 (.c2 a8 a8 (.nil _))) (a8) fun k hF => ?_
 ·simp
 obtain⟨h1,h2⟩:=hF
 refine .q 10 hG ⟨fun hc11 => ?_,fun hc11 => ?_⟩
 ·refine .q 8 hG ?_
  refine .ix (by omega) (by omega) ?_
  refine .q 6 hG ⟨fun hc21 => ?_,fun hc21 => ?_⟩
  ·refine .q 5 hG ?_
   refine .ix (by omega) (by omega) (.p (.G6 a5j (.t a8) (.n (.R6 a5j (.t a8) (.t a8) .z (.p (.assign .b ?_))))))
   refine .q 2 hG ?_
   refine⟨_,.r2 a8 (.cell a5j a8 .z) (.tmp a8),?_⟩
   have e:b2C c s=some c.a1I[k]:=a8L (by omega) (decide_eq_true hc21) h2
   rw [e];rfl
  ·refine .q 1 hG ?_
   refine .T3 9 a8 fun hl9 => ?_
   refine .q 2 hG ?_
   refine .ad (by omega) (by omega) ?_
   refine .q 2 hG ?_
   refine⟨k+1,.c2 rfl rfl (.c2 rfl rfl (.nil _)),rfl,?_,by omega⟩
   refine⟨by omega,fun j hj hjk => ?_⟩;rcases Nat.lt_or_ge j k with h|h;exact h2 j hj h;(obtain rfl:j=k:=by omega);exact decide_eq_false hc21
 ·refine .q 3 hG ?_
  refine .p (.bS0 (α:=y8) a8 a5j b7A (.n (.R6 a5j (.t a8) (.t a8) .z (.p (.assign .b ?_)))))
  refine .q 2 hG ?_
  refine⟨_,.r2 a8 (.cell a5j a8 .z) (.tmp a8),?_⟩
  have e:b2C c s=none:=a8M fun j hj=>h2 j hj (by omega)
  rw [e];rfl
theorem c3R (p:b8X) (m:Int):p4 gl prog 143 [.v p,.v m] (fun r=>∃ n:Int,0≤n∧n≤150∧r = .v n):=by
 refine p4.jn func143 (by kernel_rfl) 33 rfl fun C hC hG => ?_
 refine .q 3 hG fun b2 => ?_
 refine .q 4 hG ?_
 refine .y6 hC .z (.L6 2 a8 .z ?_)
 refine .q 1 hG ?_
 refine .mv a8 (.p (.lss (.t a8) (.i a8) (.mv a8 (.go 7 a8 (.t a8) (fun hg8 => .move (.t a8) a8) (.go 7 a8 (.t a8) (fun hg9 => .gtr (.q a8 hg9) (.i a8) a8) (.p (.a3Q (.t a8) (fun hp=>(.q a8 hp)) (.mv a8 (.go 11 a8 (.t a8) (fun hg12 => .A7 y8.l1 (fun x=>x.b3s) a7O a8 (fun _=>a8) (.t a8) a8) (.go 11 a8 (.t a8) (fun hg13 => .G6 P5 (.q a8 hg13) a8) (.go 11 a8 (.t a8) (fun hg14 => .lss (.q a8 hg14) (.i a8) a8) (.p (.a3Q (.t a8) (fun hp=>(.q a8 hp)) (.mv a8 (.go 16 a8 (.t a8) (fun hg17 => .A7 y8.l1 (fun x=>x.b3s) a7O a8 (fun _=>a8) (.t a8) a8) (.go 16 a8 (.t a8) (fun hg18 => .G6 P5 (.q a8 hg18) a8) (.go 16 a8 (.t a8) (fun hg19 => .gtr (.q a8 hg19) (.i a8) a8) (.p (.a3Q (.t a8) (fun hp=>(.q a8 hp)) (.mv a8 (.go 21 a8 (.t a8) (fun hg22 => .A7 y8.l1 (fun x=>x.b3s) a7O a8 (fun _=>a8) (.t a8) a8) (.go 21 a8 (.t a8) (fun hg23 => .G6 P5 (.q a8 hg23) a8) (.go 21 a8 (.t a8) (fun hg24 => .move (.t a8) a8) ?_)))))))))))))))))))))))
 refine .go 21 a8 (.t a8) (fun hg25 => .gtr (.q a8 hg25) (.q a8 hg25) a8) (.p (.a3Q (.t a8) (fun hp=>(.q a8 hp)) ?_))
 refine .q 1 hG ?_
 refine .cond (.t a8) (fun hc26 => ?_) (fun hc26 => ?_)
 ·refine .q 5 hG ?_
  refine .e1 a8 a8 ?_
  exact⟨0,by decide,by decide,rfl⟩
 ·refine .q 2 hG ?_
  simp only [Bool.or_eq_false_iff,decide_eq_false_iff_not] at hc26
  refine .q 4 hG ?_
  refine .sb (by omega) (by omega) (.p (.quo (.t a8) (.i a8) (by omega) (by omega) (.p (.a9V (.t a8) (.i a8) ?_))))
  refine .q 3 hG ?_
  refine .e1 a8 a8 ?_
  exact⟨_,by omega,by omega,rfl⟩
theorem c0U (a : C9) (c : b0I) (t : List UInt8) (s : Y4) (m : Int) (k : Tag) (hpl : ∀ x ∈ a.x9, x.Plain.length ≤ 1000000) (ho : C4 a c.Key t = (k.l ++ [0, 150, 1], 0)) (hs : Q3 s = true) (hm0 : 0 ≤ m) (hm1 : m ≤ 67108864) (hf : (b2C c s).isSome = true) (ht : t.length ≤ 1000000) :
    p4 gl prog 82 [.v a,.v c,.v t,.v s,.v m] (fun r=>r = .t3 (.v (a5Q a k t s).1) (.v (a5Q a k t s).2.1) (.v (a5Q a k t s).2.2)):=by
  refine p4.jn func82 (by kernel_rfl) 97 rfl fun C hC hG => ?_
  refine .q 3 hG fun b5 => ?_
  refine .q 1 hG fun b6 => ?_
  refine .q 1 hG fun b10 => ?_
  refine .q 1 hG fun b11 => ?_
  refine .q 4 hG ?_
  refine .y6 hC .z2 (.L6 6 a8 .z2 ?_)
  refine .q 2 hG ?_
  refine .k hG (b0w _) ?_
  refine .q 2 hG ?_
  refine .cond (.t a8) (fun hc22=>(by exfalso;simp [hs] at hc22)) (fun hc22 => ?_)
  refine .q 11 hG ?_
  refine .cond (.t a8) (fun hc30=>(by exfalso;(simp at hc30;omega))) (fun hc30 => ?_)
  refine .q 6 hG ?_
  refine .p (.o8 hG (b0U _ _ _ _ hpl ho) (.cons (.t a8) (.cons (.t a8) (.cons (.t a8) .nil))) ?_)
  refine .q 5 hG fun b13 => ?_
  refine .q 1 hG fun b14 => ?_
  refine .q 10 hG ?_
  refine .K8 (.t a8) (fun hc42=>(by exfalso;exact hc42 rfl)) (fun hc42 => ?_)
  refine .q 5 hG ?_
  refine .p (.o8 hG (b0V _ _) (.cons (.t a8) (.cons (.t a8) .nil)) ?_)
  refine .q 4 hG fun b16 => ?_
  refine .q 9 hG ?_
  refine .cond (.t a8) (fun hc53=>(by exfalso;simp [hf] at hc53)) (fun hc53 => ?_)
  refine .q 6 hG ?_
  refine .p (.call hG (c3R _ _) (.cons (.t a8) (.cons (.t a8) .nil)) fun r58 hr58 => ?_)
  obtain⟨n,hn0,hn1,rfl⟩:=hr58
  refine .q 15 hG ?_
  refine .cond (.t a8) (fun hc68=>(by exfalso;(simp at hc68;omega))) (fun hc68 => ?_)
  refine .q 2 hG ?_
  refine .a0O [[j1,j1,j1,j1,j1,j1,j1],[j1,j1,j1,j1,j1,j1,j1],[j1,j1,j1,j1,j1,j1,j0],[j1,j1,j1,j1,j1,j1,j0]] [[j1,j1,j1,j1,j1,j1,j1],[j1,j1,j1,j1,j1,j1,j1],[j1,j1,j1,j1,j1,j1,j1],[j1,j1,j1,j1,j1,j1,j1],[j1,j1,j1,j1,j1,j1,j1],[j1,j1,j1,j1,j1,j1,j1],[j1,j1,j1,j1,j1,j1,j1],[j1,j1,j1,j1,j1,j1,j0],[j1,j1,j1,j1,j1,j1,j0],[],[],[],[j1,j1,j1,j1,j1,j1,j0]] [] [] 3 (by kernel_rfl) 13 [[],[],[],[(74,2)],[(72,0),(73,1),(75,3)],[(76,4)],[(71,5)],[(71,5)],[(71,5)],[],[(77,6)],[(19,9),(78,7)],[(79,8)]] [9,10,11] rfl (by kernel_rfl) rfl (by kernel_rfl) rfl (by decide) (by simp) (fun p hp=>by cases hp) (by kernel_rfl) rfl ?_
  refine⟨_,fun H=>j6.S4 y9 (.t a8) (u4.app .z6) a8,?_⟩
  refine⟨_,fun H=>j6.S4 A5 (.t a8) (u4.app .z2) a8,?_⟩
  refine⟨_,fun H=>j6.move (.t a8) a8,?_⟩
  refine⟨_,fun H=>j6.o8 hG (a7s _ ht) (.cons (.t a8) .nil) a8,?_⟩
  refine⟨_,fun H=>j6.o8 hG (a5G _ _ _) (.cons (.t a8) (.cons (.t a8) (.cons (.t a8) .nil))) a8,?_⟩
  refine⟨_,fun H=>j6.move (.t a8) a8,?_⟩
  refine⟨_,fun H=>j6.O3 (.t a8) a8,?_⟩
  refine⟨_,fun H=>j6.O4 (.t a8) a8,?_⟩
  refine⟨_,fun H=>j6.O5 (.t a8) a8,?_⟩
  refine .inl (.inl (.inl ?_))
  refine⟨_,fun H=>j6.assign (.t a8) a8,?_⟩
  refine⟨a8,?_⟩
  refine⟨⟨j2 [c8,c8,c8,c8,c8,c8,c8],a8⟩,fun Ys14 => ?_⟩
  refine A0.alloc A5 fun b19 => ?_
  refine⟨[_],_,a8,?_⟩
  refine⟨⟨j2 [c8,c8,c8,c8,c8,c8,c8],a8⟩,fun Ys14 => ?_⟩
  refine A0.R6 y9 (.t rfl) (.t rfl) (.s (u4.app (u4.app .z6))) ?_
  refine⟨[_],_,a8,?_⟩
  refine⟨⟨j2 [c8,c8,c8,c8,c8,c8,_],a8⟩,fun Ys14 => ?_⟩
  refine A0.R6 A5 (.t rfl) (.t rfl) .z ?_
  refine⟨[_],_,a8,?_⟩
  refine⟨⟨j2 [c8,c8,c8,c8,c8,c8,_],a8⟩,fun ws14 => ?_⟩
  refine⟨⟨j2 [c8,c8,c8,c8,c8,c8,_],a8⟩,fun _ => ?_⟩
  show D0 _ _ _ _ _ [] ((15,_)::(19,_)::(79,_)::(78,_)::(77,_)::(71,_)::(76,_)::(75,_)::(74,_)::(73,_)::(72,_)::_) _
  refine .q 8 hG ⟨fun hc81 => ?_,fun hc81 => ?_⟩
  · refine .q 2 hG ?_
    refine .p (.bS0 (α:=m0) a8 y9 a1i (.p (.bS0 (α:=p6) a8 S7 a9j (.mv a8 (.n (.R6 y9 (.t a8) (.t a8) .z5 (.n (.R6 S7 (.t a8) (.t a8) .z4 (.ag a8 ?_)))))))))
    refine .q 2 hG ?_
    refine⟨_,.r3 a8 (.cell y9 a8 .z5) (.cell S7 a8 .z4) (.tmp a8),?_⟩
    unfold a5Q
    rw [Q1 hc81]
  · refine .q 2 hG ?_
    refine .draw (by kernel_rfl) 12 [[],[],[],[(86,1),(87,2)],[],[(88,3),(89,4)],[],[(91,6)],[(85,0),(90,5),(92,7)],[(93,8)],[(93,8)],[(93,8)]] a8 (by kernel_rfl) a8 ?_
    refine⟨_,j6.S4 y9 (.t a8) .z7 a8,?_⟩
    refine⟨_,j6.E7 (α:=UInt8) ty5 underlying86 .nil a8 (by decide) a8,?_⟩
    refine⟨_,j6.move (.t a8) a8,?_⟩
    refine⟨_,j6.a0z P3 (.inl ⟨_,underlying86⟩) (.t a8) (.v (.t a8)) (by simp<;>omega) (by simp<;>omega) a8,?_⟩
    refine⟨_,j6.S4 A5 (.t a8) .z a8,?_⟩
    refine⟨_,j6.bS2 p6.l0 p6.l2 a8 S7 a9j (fun c0 c2=>(⟨c0,[],c2⟩:p6)) (fun _ _=>a8) a8 a8 a8 (.t a8) (.t a8) a8,?_⟩
    refine⟨_,j6.move (.t a8) a8,?_⟩
    refine⟨_,j6.bS2 j3.l0 j3.l4 a8 Q2 a6G (fun c0 c4=>(⟨c0,0,0,0,c4,0⟩:j3)) (fun _ _=>a8) a8 a8 a8 (.i a8) (.t a8) a8,?_⟩
    refine⟨_,j6.o8 hG (a5R _ _ _ (by simp)) (.cons (.t a8) (.cons (.t a8) (.cons (.t a8) .nil))) a8,?_⟩
    refine⟨_,j6.O3 (.t a8) a8,?_⟩
    refine⟨_,j6.O4 (.t a8) a8,?_⟩
    refine⟨_,j6.O5 (.t a8) a8,?_⟩
    show D0 _ _ _ _ _ [_,_,_] ((96,_)::(95,_)::(94,_)::(93,_)::(92,_)::(91,_)::(90,_)::(89,_)::(88,_)::(87,_)::(86,_)::(85,_)::_) _
    refine .n (.R6 y9 (.t a8) (.t a8) .z5 (.n (.R6 S7 (.t a8) (.t a8) .z4 (.ag a8 ?_))))
    refine .q 2 hG ?_
    refine⟨_,.r3 a8 (.cell y9 a8 .z5) (.cell S7 a8 .z4) (.tmp a8),?_⟩
    unfold a5Q
    rw [F6 (Decidable.not_not.1 hc81)];rfl
theorem b8Y {c:b0I} {t:B0} (h:(!a0C t||decide (c.G7 < 0)||decide (7 < c.G7))=true):(a0C t&&decide (0≤c.G7)&&decide (c.G7≤7))=false:=by
 simp only [Bool.or_eq_true,Bool.not_eq_true',decide_eq_true_eq] at h
 rcases h with (h|h)|h
 ·rw [h];rfl
 ·rw [decide_eq_false (show ¬0≤c.G7 by omega),Bool.and_false];rfl
 ·rw [decide_eq_false (show ¬c.G7≤7 by omega),Bool.and_false]
theorem b6J {c:b0I} {t:B0} (h:(!a0C t||decide (c.G7 < 0)||decide (7 < c.G7))=false):a0C t=true∧0≤c.G7∧c.G7≤7:=by
 simp only [Bool.or_eq_false_iff,Bool.not_eq_false',decide_eq_false_iff_not] at h;exact⟨h.1.1,by omega,by omega⟩
theorem b4t {t:B0} (h:a0C t=true):0≤t.a3u∧t.a3u≤t.a6M∧t.a6M≤150:=by
 unfold a0C at h;simp only [Bool.and_eq_true,decide_eq_true_eq] at h;omega
theorem b0W {a:C9} {x:m9} (h:x∈(Q4 a).1.x9):x∈a.x9:=by
 unfold Q4 at h;split at h
 ·cases h
 ·exact h
theorem c0V (a:C9) (c:b0I) (t:B0) (h0:0≤a.F7) (hb:∀ x∈a.x9,x.Y5.length≤1000000):p4 gl prog 80 [.v a,.v c,.v t] (fun r=>r = .t3 (.v (a32 a c t).1) (.v (a32 a c t).2.1) (.v (a32 a c t).2.2)):=by
 have hb1:∀ x∈(Q4 a).1.x9,x.Y5.length≤1000000:=fun x hx=>hb x (b0W hx)
 refine p4.jn func80 (by kernel_rfl) 70 rfl fun C hC hG => ?_
 refine .q 3 hG fun b3 => ?_
 refine .q 1 hG fun b4 => ?_
 refine .q 1 hG fun b5 => ?_
 refine .q 1 hG fun b6 => ?_
 refine .q 1 hG fun b7 => ?_
 refine .q 4 hG ?_
 refine .y6 hC .z3 (.L6 4 a8 .z3 (.y6 hC .z2 (.L6 5 a8 .z2 ?_)))
 refine .q 2 hG ?_
 refine .k hG (a9J _) ?_
 refine .q 12 hG ?_
 refine .cond (.t a8) (fun hc24 => ?_) (fun hc24 => ?_)
 ·refine .q 2 hG ?_
  refine .p (.bS0 (α:=m0) a8 y9 a1i (.p (.bS0 (α:=C3) a8 a3z b4G ?_)))
  refine .q 5 hG ?_
  refine⟨_,.r3 a8 (.cell y9 a8 .z1) (.cell a3z a8 .z) (.tmp a8),?_⟩
  unfold a32
  rw [if_pos (b8Y hc24)]
 ·refine .q 2 hG ?_
  obtain⟨htk,hp0,hp7⟩:=b6J hc24
  have htt:=b4t htk
  have hn1:=B1 (n:=t.a3u.toNat) (by omega)
  have hn2:=B1 (n:=t.a6M.toNat) (by omega)
  refine .q 2 hG ?_
  refine .k hG (b3H _ h0) ?_
  refine .q 5 hG fun b9 => ?_
  refine .q 6 hG ?_
  have hbf:(a0C t&&decide (0≤c.G7)&&decide (c.G7≤7))=true:=by rw [htk,decide_eq_true hp0,decide_eq_true hp7];rfl
  refine .q 5 hG ⟨fun hc34 => ?_,fun hc34 => ?_⟩
  ·refine .q 2 hG ?_
   refine .p (.bS0 (α:=m0) a8 y9 a1i (.p (.bS0 (α:=C3) a8 a3z b4G ?_)))
   refine .q 6 hG ?_
   refine⟨_,.r3 a8 (.cell y9 a8 .z2) (.cell a3z a8 .z1) (.tmp a8),?_⟩
   unfold a32
   rw [if_neg (by rw [hbf];decide),Q1 hc34]
  ·refine .q 2 hG ?_
   refine .y6 hC .z (.L6 9 rfl .z (.a0O [[j1,j1,j1,j1,j1,j1],[j1,j1,j1,j1,j1,j1],[j1,j1,j1,j1,j1,j1],[j1,j1,j1,j1,j1,j1],[j1,j1,j1,j1,j1,j1],[j1,j1,j1,j1,j1,j1],[j1,j1,j1,j1,j1,j0]] [[j1,j1,j1,j1,j1,j1],[j1,j1,j1,j1,j1,j1],[j1,j1,j1,j1,j1,j1],[j1,j1,j1,j1,j1,j1],[j1,j1,j1,j1,j1,j1],[],[j1,j1,j1,j1,j1,j1],[],[j1,j1,j1,j1,j1,j1],[j1,j1,j1,j1,j1,j1],[j1,j1,j1,j1,j1,j1],[],[j1,j1,j1,j1,j1,j1],[j1,j1,j1,j1,j1,j1],[j1,j1,j1,j1,j1,j1],[],[],[j1,j1,j1,j1,j1,j1],[j1,j1,j1,j1,j1,j1],[j1,j1,j1,j1,j1,j0],[j1,j1,j1,j1,j1,j0],[],[j1,j1,j1,j1,j1,j0],[j1,j1,j1,j1,j1,j0]] [[],[],[],[],[],[17,18,19,20,22,23],[]] [] 6 (by kernel_rfl) 24 [[],[],[(40,1)],[],[(42,3)],[],[],[(44,5),(45,6)],[],[(47,8)],[(48,9)],[(46,7),(49,10)],[],[(51,12)],[(52,13)],[(50,11),(53,14)],[(39,0),(41,2),(43,4),(54,15)],[(55,16)],[(38,17)],[(38,17)],[(38,17)],[(56,18)],[(57,19)],[(58,20)]] [5,7,11,15,16,21] rfl (by kernel_rfl) rfl (by kernel_rfl) rfl (by decide) (by simp) (fun p hp=>by cases hp) (by kernel_rfl) rfl ?_))
   refine⟨_,fun H=>j6.S4 y9 (.t a8) (u4.app .z5) a8,?_⟩
   refine⟨_,fun H=>j6.A7 u9.l1 (fun x=>x.Key) b7q a8 (fun _=>a8) (.t a8) a8,?_⟩
   refine⟨_,fun H=>j6.G6 A5 (.t a8) a8,?_⟩
   refine⟨_,fun H=>j6.A9 m0.l2 b3f a8 (.t a8) a8,?_⟩
   refine⟨_,fun H=>j6.ldF (fun x=>x.F7) P5 (.t a8) (u4.app .z5) (fun _=>a8) a8,?_⟩
   refine .inl ?_
   refine⟨_,fun H=>j6.O6 (by decide) M6 (.t a8) a8,?_⟩
   refine .inl ?_
   refine⟨_,fun H=>j6.A7 B0.l0 (fun x=>x.a3u) b4H a8 (fun _=>a8) (.t a8) a8,?_⟩
   refine⟨_,fun H=>j6.G6 P5 (.t a8) a8,?_⟩
   refine⟨_,fun H=>j6.o8 hG (F3 _ (by omega) (by omega)) (.cons (.t a8) .nil) a8,?_⟩
   refine .inl ?_
   refine⟨_,fun H=>j6.A7 B0.l1 (fun x=>x.a6M) b4I a8 (fun _=>a8) (.t a8) a8,?_⟩
   refine⟨_,fun H=>j6.G6 P5 (.t a8) a8,?_⟩
   refine⟨_,fun H=>j6.o8 hG (F3 _ (by omega) (by omega)) (.cons (.t a8) .nil) a8,?_⟩
   refine .inl (.inl (.inl (.inl (.inl (.inl (.inl (.inl (.inl ?_))))))))
   refine⟨a8,?_⟩
   refine⟨⟨j2 [c8,c8,c8,c8,c8,c8],a8⟩,fun Ys6 => ?_⟩
   refine A0.buildSlice (α:=UInt8) ty5 underlying86 .nil rfl (by decide) fun b44 => ?_
   refine⟨[_],_,a8,?_⟩
   refine⟨⟨j2 [c8,c8,c8,c8,c8,c8],a8⟩,fun Ys6 => ?_⟩
   refine A0.append P3 (.inl ⟨_,underlying86⟩) rfl .z (.v (.t rfl)) (by simp) (by simp) (fun w46 => ?_) rfl
   refine⟨[_],_,a8,?_⟩
   refine⟨⟨j2 [c8,c8,c8,c8,c8,c8],a8⟩,fun Ys6 => ?_⟩
   refine A0.append P3 (.inl ⟨_,underlying86⟩) rfl .z (.v (.t rfl)) (by simp<;>omega) (by simp<;>omega) (fun w50 => ?_) rfl
   refine⟨[_],_,a8,?_⟩
   refine⟨⟨j2 [c8,c8,c8,c8,c8,c8],a8⟩,fun Ys6 => ?_⟩
   refine A0.append P3 (.inl ⟨_,underlying86⟩) rfl .z (.v (.t rfl)) (by simp<;>omega) (by simp<;>omega) (fun w54 => ?_) rfl
   refine⟨[_],_,a8,?_⟩
   refine⟨⟨j2 [c8,c8,c8,c8,c8,c8],a8⟩,fun Ys6 => ?_⟩
   refine A0.u0 hC .z (A0.as 54 rfl .z (A0.ofP (j6.o8 hG (b5q _ _ _ _ hb1) (.cons (.t rfl) (.cons (.t rfl) (.cons (.t rfl) (.cons (.t rfl) .nil)))) ?_)))
   refine⟨[_],_,a8,?_⟩
   refine⟨_,fun H=>j6.move (.t a8) a8,?_⟩
   refine⟨_,fun H=>j6.O3 (.t a8) a8,?_⟩
   refine⟨_,fun H=>j6.O4 (.t a8) a8,?_⟩
   refine⟨_,fun H=>j6.O5 (.t a8) a8,?_⟩
   refine⟨_,fun H=>j6.assign (.t a8) a8,?_⟩
   refine⟨_,fun H=>j6.assign (.t a8) a8,?_⟩
   refine⟨⟨j2 [c8,c8,c8,c8,c8,c8],a8⟩,fun Ys6 => ?_⟩
   refine A0.R6 y9 (.t rfl) (.t rfl) (.s (u4.app (u4.app .z5))) ?_
   refine⟨[_],_,a8,?_⟩
   refine⟨⟨j2 [c8,c8,c8,c8,c8,_],a8⟩,fun ws6 => ?_⟩
   refine⟨⟨j2 [c8,c8,c8,c8,c8,_],a8⟩,fun _ => ?_⟩
   show D0 _ _ _ _ _ [] ((10,_)::(11,_)::(58,_)::(57,_)::(56,_)::(38,_)::(55,_)::(54,_)::(53,_)::(52,_)::(51,_)::(50,_)::(49,_)::(48,_)::(47,_)::(46,_)::(45,_)::(44,_)::(43,_)::(42,_)::(41,_)::(40,_)::(39,_)::_) _
   refine .q 8 hG ⟨fun hc60 => ?_,fun hc60 => ?_⟩
   ·refine .q 2 hG ?_
    refine .p (.bS0 (α:=m0) a8 y9 a1i (.p (.bS0 (α:=C3) a8 a3z b4G (.mv a8 (.n (.R6 y9 (.t a8) (.t a8) .z3 (.n (.R6 a3z (.t a8) (.t a8) .z2 (.ag a8 ?_)))))))))
    refine .q 2 hG ?_
    refine⟨_,.r3 a8 (.cell y9 a8 .z3) (.cell a3z a8 .z2) (.tmp a8),?_⟩
    unfold a32
    rw [if_neg (by rw [hbf];decide),F6 (Decidable.not_not.1 hc34),Q1 (r:=(Q5 (Q4 a).1 c.Key (Q4 a).1.F7 (Z7 (Q4 a).2.1 t))) hc60];rfl
   ·refine .q 2 hG ?_
    refine .D7 [j1,j1,j0,j0,j1,j1,j1] (by kernel_rfl) 9 [[],[],[(65,1)],[],[],[(66,2),(67,3),(68,4)],[(64,0)],[(69,5)],[]] [6,7] a8 (by kernel_rfl) a8 (by kernel_rfl) (by decide) ?_
    refine⟨_,fun H=>j6.S4 y9 (.t a8) (u4.app .z6) a8,?_⟩
    refine⟨_,fun H=>j6.A7 u9.l0 (fun x=>x.G7) b7p a8 (fun _=>a8) (.t a8) a8,?_⟩
    refine⟨_,fun H=>j6.G6 P5 (.t a8) a8,?_⟩
    refine⟨_,fun H=>j6.G6 A5 (.t a8) a8,?_⟩
    refine⟨_,fun H=>j6.move (.t a8) a8,?_⟩
    refine⟨_,fun H=>j6.bS3 C3.l0 C3.l1 C3.l2 a8 a3z b4G (fun c0 c1 c2=>(⟨c0,c1,c2⟩:C3)) (fun _ _ _=>a8) a8 a8 a8 a8 (.t a8) (.t a8) (.t a8) a8,?_⟩
    refine .inl (.inl ?_)
    refine⟨_,fun H=>j6.assign (.i a8) a8,?_⟩
    refine⟨⟨([],j2 [c8,c8,_,_,c8,c8,c8]),a8⟩,?_⟩
    refine A0.R6 y9 (.t rfl) (.t rfl) .z3 ?_
    refine⟨⟨([],j2 [c8,c8,_,_,c8,c8,c8]),a8⟩,?_⟩
    refine A0.R6 a3z (.t rfl) (.t rfl) .z2 ?_
    refine⟨⟨([],j2 [c8,c8,_,_,c8,c8,c8]),a8⟩,?_⟩
    show D0 _ _ _ _ _ [] ((8,_)::(69,_)::(68,_)::(67,_)::(66,_)::(65,_)::(64,_)::_) _
    refine .q 2 hG ?_
    refine⟨_,.r3 a8 (.cell y9 a8 .z3) (.cell a3z a8 .z2) (.tmp a8),?_⟩
    unfold a32
    rw [if_neg (by rw [hbf];decide),F6 (Decidable.not_not.1 hc34),F6 (r:=(Q5 (Q4 a).1 c.Key (Q4 a).1.F7 (Z7 (Q4 a).2.1 t))) (Decidable.not_not.1 hc60)];rfl
theorem ofNat_inj {a b:Nat} (ha:a < 256) (hb:b < 256) (h:UInt8.ofNat a=UInt8.ofNat b):a=b:=by
 have:=congrArg UInt8.toNat h
 simp at this;omega
theorem b2D:∀ (a b:Nat) (s t:List UInt8),J6 a++s=J6 b++t→a=b∧s=t:=by
 intro a
 induction a using Nat.strongRecOn with
 | _ a ih =>
  intro b s t h
  by_cases ha:a < 128
  ·by_cases hb:b < 128
   ·rw [a2d ha,a2d hb] at h
    simp only [List.cons_append,List.nil_append,List.cons.injEq] at h
    exact⟨ofNat_inj (by omega) (by omega) h.1,h.2⟩
   ·rw [a2d ha,a3X hb] at h
    simp only [List.cons_append,List.nil_append,List.cons.injEq] at h
    have:=ofNat_inj (by omega) (by omega) h.1
    omega
  ·by_cases hb:b < 128
   ·rw [a3X ha,a2d hb] at h
    simp only [List.cons_append,List.nil_append,List.cons.injEq] at h
    have:=ofNat_inj (by omega) (by omega) h.1
    omega
   ·rw [a3X ha,a3X hb] at h
    simp only [List.cons_append,List.cons.injEq] at h
    have h1:=ofNat_inj (by omega) (by omega) h.1
    obtain⟨h2,h3⟩:=ih (a/128) (by omega) (b/128) s t h.2
    exact⟨by omega,h3⟩
def bnd (B:C9) (leaf:Tag) (r:Rq) (g:Dis):Bnd:=⟨g.l9,g.l8,(m6 B g.Tag (W6 leaf r)).1⟩
theorem a8O {r:Rq} (h:U5 r=true):(a1c r).length≤14:=by
 have:=a1d h
 have l1:=B1 (n:=r.Gate.toNat) (by omega)
 have l2:=B1 (n:=r.E0.toNat) (by omega)
 unfold a1c;rw [List.length_append];omega
theorem b4u {leaf:Tag} {r:Rq} (h:U5 r=true):(W6 leaf r).length≤60:=by
 have:=a8O h
 unfold W6;rw [List.length_append,List.length_append,leaf.len];show 4+_≤_;omega
theorem b9a {r:Rq} (h:U5 r=true):(a2X r).length≤30:=by
 have:=a8O h
 unfold a2X;rw [List.length_append];show 7+_≤_;omega
structure c3S (a:C9) (n:Nat) (leaf:Tag) (r:Rq) (l:List Dis) (c:C9):Prop where
 eq:a2F leaf r a l=(c,l.map (bnd c leaf r),0)
 ok:H6 c (n+l.length)
 le:P6 a c
 boxes:c.x9=a.x9
 looks:∀ g∈l,(m6 c g.Tag (W6 leaf r)).2=true
 a0n:∀ x∈c.G4,x∈a.G4∨∃ g∈l,x.Key=g.Tag∧x.Message=W6 leaf r
theorem H6.binds (leaf:Tag) {r:Rq} (hr:U5 r=true):∀ (l:List Dis) {a:C9} {n:Nat},H6 a n→n+l.length < 60000→∃ c,c3S a n leaf r l c
 | [],a,n,h,_=>⟨a,rfl,h,P6.refl a,rfl,fun g hg=>(by cases hg),fun x hx=>Or.inl hx⟩
 | d::l,a,n,h,hn=>by
  rw [List.length_cons] at hn
  obtain⟨b,t,s⟩:=h.step (by omega) d.Tag (m:=W6 leaf r) (by have:=b4u (leaf:=leaf) hr;omega)
  obtain⟨c,q⟩:=H6.binds leaf hr l s.ok (by omega)
  have hl:m6 c d.Tag (W6 leaf r)=(t,true):=q.le.look s.look
  have e1:a2E a d leaf r=(b,⟨d.l9,d.l8,t⟩,0):=by
   unfold a2E;rw [if_neg (by rw [hr];decide),s.eq,F6 rfl]
  refine⟨c,?_,?_,s.le.trans q.le,q.boxes.trans s.boxes,fun g hg => ?_,fun x hx => ?_⟩
  ·show a0U (a2E a d leaf r) _=_
   rw [e1,F6 rfl];dsimp only
   rw [q.eq,F6 rfl,List.map_cons]
   have:bnd c leaf r d=⟨d.l9,d.l8,t⟩:=by unfold bnd;rw [hl]
   rw [this]
  ·have:=q.ok;rw [List.length_cons];exact this.le (by omega)
  ·rcases List.mem_cons.1 hg with rfl|hg
   ·rw [hl]
   ·exact q.looks g hg
  ·rcases q.a0n x hx with h'|⟨g,hg,h'⟩
   ·rcases s.a0n x h' with h'|h'
    ·exact Or.inl h'
    ·exact Or.inr ⟨d,by simp,h'⟩
   ·exact Or.inr ⟨g,by simp [hg],h'⟩
theorem b4v (l:List Cav):0≤a1a l∧a1a l≤l.length:=by
 have:=a0Q l;unfold a1a;omega
theorem b2E (l:List Bnd):a3l l=false↔(l.map (·.l9)).Nodup:=by
 unfold a3l V0 List.Nodup
 rw [List.pairwise_map,List.pairwise_iff_getElem,List.any_eq_false]
 constructor
 ·intro h i j hi hj hij e
  have h1:=h j (List.mem_range.2 hj)
  rw [Bool.not_eq_true,List.any_eq_false] at h1
  have h2:=h1 l[i] (List.mem_take_iff_getElem.2 ⟨i,by omega,rfl⟩)
  rw [a47 hj] at h2
  simp [e] at h2
 ·intro h j hj
  rw [Bool.not_eq_true,List.any_eq_false]
  intro x hx
  obtain⟨i,hi,rfl⟩:=List.mem_take_iff_getElem.1 hx
  have hj':=List.mem_range.1 hj
  rw [a47 hj']
  have:=h i j (by omega) hj' (by omega)
  simpa using this
theorem b0X {A : C9} {root : Epo} {P : Pass} {G : List Dis} {T : List Tag} {n k : Nat} (h : a0i A root P G T n k) (hk : k ≤ 6) {r : Rq} (hr : U5 r = true) (t : Tag) (f : Dis → Bnd) (hf : ∀ g, (f g).l9 = g.l9 ∧ (f g).l8 = g.l8) :
    K7 ⟨r,P.D3,P.A6,P.j8,t,G.map f⟩=0:=by
  have hncav:=h.a4I
  have hngr:=h.ngr
  have hser:=h.a5S
  have hep:=h.a4N
  have hth:=b4v P.j8
  have hrq:=a1d hr
  have e1:P0 ⟨r,P.D3,P.A6,P.j8,t,G.map f⟩=true:=by
    unfold P0;simp [hr];omega
  have e2:S3 ⟨r,P.D3,P.A6,P.j8,t,G.map f⟩=false:=by
    unfold S3
    simp only [List.any_map,Bool.or_eq_false_iff,decide_eq_false_iff_not,List.any_eq_false,List.length_map]
    refine⟨⟨⟨by omega,by omega⟩,by omega⟩,fun g hg => ?_⟩
    have:=(h.a3E g hg).a7J
    simp only [Function.comp,a1K,(hf g).2]
    simpa using this
  have e3:((P.j8.any fun c => !I5 c)||(G.map f).any a3k)=false:=by
    simp only [List.any_map,Bool.or_eq_false_iff,List.any_eq_false]
    refine⟨fun c hc=>by rw [(h.cav c hc).1];decide,fun g hg => ?_⟩
    have h1:=h.a3E g hg
    have h2:(g.l8.any fun p => !y5 p)=false:=List.any_eq_false.2 fun p hp=>by rw [(h1.con p hp).1];decide
    have:=h1.tick
    simp only [Function.comp,a3k,(hf g).1,(hf g).2,h2]
    rw [decide_eq_false (show ¬g.l9.length < 1 by omega),decide_eq_false (show ¬1024 < g.l9.length by omega)];decide
  have e4:(G.map f).any a3D=false:=by
    simp only [List.any_map,List.any_eq_false]
    intro g hg
    have h2:(g.l8.any fun p=>decide (p.Kind=7))=false:=List.any_eq_false.2 fun p hp=>by simpa using ((h.a3E g hg).con p hp).2
    simp only [Function.comp,a3D,(hf g).2,h2];decide
  have e5:a3l (G.map f)=false:=by
    rw [b2E,List.map_map]
    have:((fun d:Bnd=>d.l9)∘f)=fun g:Dis=>g.l9:=funext fun g=>(hf g).1
    rw [this];exact h.nodup
  have e6:(a1e ⟨r,P.D3,P.A6,P.j8,t,G.map f⟩).length≤4096:=by
    have l1:=a1z [1,r.Gate,r.E0,P.D3,P.A6,(P.j8.length:Int)] (by simp;omega)
    have l2:=a10 E8 P.j8 200 fun c hc=>(h.cav c hc).2
    have l3:=B1 (n:=(G.map f).length) (by simp;omega)
    have l4:=a10 K3 (G.map f) 400 fun d hd=>by
      obtain⟨g,hg,rfl⟩:=List.mem_map.1 hd
      have h1:=h.a3E g hg
      have:=h1.tick
      have:=h1.a7J
      have m1:=B1 (n:=(f g).l9.length) (by rw [(hf g).1];omega)
      have m2:=B1 (n:=(f g).l8.length) (by rw [(hf g).2];omega)
      have m3:=a10 u6 g.l8 24 fun p hp=>H5 (O1 (h1.con p hp).1)
      unfold K3 a0K
      rw [(hf g).1] at m1 ⊢
      rw [(hf g).2] at m2 ⊢
      simp only [List.length_append,(f g).Proof.len];omega
    rw [List.length_map] at l3 l4
    simp only [List.length_cons,List.length_nil] at l1
    unfold a1e
    simp only [List.length_append,t.len,List.length_map];omega
  have e0:F5 ⟨r,P.D3,P.A6,P.j8,t,G.map f⟩=0:=by
    unfold F5;dsimp only;simp only [e1,e2,e3,e4,e5,Bool.false_eq_true,Bool.true_eq_false,if_false]
  unfold K7
  rw [e0,if_neg (by decide),if_neg (by omega)]
structure b0Y (B:C9) (root:Epo) (P:Pass) (G:List Dis) (T:List Tag) (r:Rq) (t:Tag) (n k:Nat):Prop where
 sc:a0i B root P G T n k
 rq:U5 r=true
 proof:m6 B P.Tag (a2X r)=(t,true)
 binds:∀ g∈G,(m6 B g.Tag (W6 P.Tag r)).2=true
 a0n:∀ x∈B.G4,(∃ c,x.Message.head?=some c∧c≠114∧c≠98)∨(x.Key=P.Tag∧x.Message=a2X r)∨(∃ g∈G,x.Key=g.Tag∧x.Message=W6 P.Tag r)
def prB (B:C9) (P:Pass) (G:List Dis) (r:Rq) (t:Tag):P9:=⟨r,P.D3,P.A6,P.j8,t,G.map (bnd B P.Tag r)⟩
theorem b2F:∀ {X:List Bnd} {d:Bnd},(X.map (·.l9)).Nodup→d∈X→a23 X d.l9=some d
 | [],g,_,h=>by cases h
 | e::X,d,hn,h=>by
  unfold a23
  rw [List.map_cons,List.nodup_cons] at hn
  by_cases q:e.l9=d.l9
  ·rw [List.find?_cons_of_pos (by simpa using q)]
   rcases List.mem_cons.1 h with rfl|h
   ·rfl
   ·exact absurd (List.mem_map.2 ⟨d,h,q.symm⟩) hn.1
  ·rw [List.find?_cons_of_neg (by simpa using q)]
   rcases List.mem_cons.1 h with rfl|h
   ·exact absurd rfl q
   ·exact b2F hn.2 h
theorem b9b {f:Dis→Bnd} (hf:∀ g,(f g).l9=g.l9) (G:List Dis):(G.map f).map (·.l9)=G.map (·.l9):=by
 rw [List.map_map]
 have:((fun d:Bnd=>d.l9)∘f)=fun g:Dis=>g.l9:=funext hf
 rw [this]
theorem b6K {f:Dis→Bnd} (hf:∀ g,(f g).l9=g.l9) {G:List Dis} {g:Dis} (hn:(G.map (·.l9)).Nodup) (h:g∈G):a23 (G.map f) g.l9=some (f g):=by
 rw [←hf g]
 exact b2F (by rw [b9b hf];exact hn) (List.mem_map.2 ⟨g,h,rfl⟩)
theorem a0i.last {A:C9} {root:Epo} {P:Pass} {G:List Dis} {T:List Tag} {n k:Nat} (h:a0i A root P G T n k):T.getLastD default=P.Tag:=by
 have h1:=h.leaf
 rwa [getLastD_cons (by have:=h.a6Y;omega)] at h1
theorem b6A.ver {B:C9} {root:Epo} {P:Pass} {G:List Dis} {T:List Tag} {r:Rq} {t:Tag} {n k:Nat} (h:b0Y B root P G T r t n k) {c:Cav} {s:Tag} (hc:b6A B G s c) {x:P9} (hx:x.Request=r) (hd:∀ g∈G,a23 x.j4 g.l9=some (bnd B P.Tag r g)):b8I B x c s P.Tag:=by
 obtain⟨key,bk,g,h1,h2,h3,h4,h5⟩:=hc.th
 refine⟨key,bk,bnd B P.Tag r g,g.Tag,h2,h3,by rw [←h4];exact hd g h1,?_,?_⟩
 ·rw [←h4];exact h5
 ·rw [hx];exact Prod.ext rfl (h.binds g h1)
theorem b0Y.ver {B:C9} {root:Epo} {P:Pass} {G:List Dis} {T:List Tag} {r:Rq} {t:Tag} {n k:Nat} (h:b0Y B root P G T r t n k) (hk:k≤6):c1A B root.Key (prB B P G r t) T:=by
 refine⟨b0X h.sc hk h.rq t (bnd B P.Tag r) fun g=>⟨rfl,rfl⟩,h.sc.walk,h.sc.a6Y,h.sc.nodes,by rw [h.sc.last];exact h.proof,fun i hi h3 => ?_,?_⟩
 ·rw [h.sc.last]
  exact(h.sc.a7u i hi h3).ver h a8 fun g hg=>b6K (fun _=>a8) h.sc.nodup hg
 ·refine List.any_eq_false.2 fun d hd => ?_
  obtain⟨g,hg,rfl⟩:=List.mem_map.1 hd
  obtain⟨c,hc,h1,h2⟩:=(h.sc.a3E g hg).cav
  have:(P.j8.any fun c=>c.Q9&&decide (c.l9=g.l9))=true:=List.any_eq_true.2 ⟨c,hc,by rw [h1,h2];simp⟩
  show ¬(!(P.j8.any fun c=>c.Q9&&decide (c.l9=g.l9)))=true
  rw [this];decide
theorem b9c {B:C9} (hf:B.K1=true) {k t:Tag} {m:List UInt8} (h1:m6 B k m=(t,true)):∃ x∈B.G4,x.Key=k∧x.Message=m:=by
 rw [look_eq,if_pos hf] at h1
 obtain⟨x,hx,hx2⟩:=h1
 have ex:=(a9w k m x).1 (List.find?_some hx)
 exact⟨x,List.mem_of_find?_eq_some hx,ex.1,ex.2⟩
theorem b6L {r q:Rq} (hr:U5 r=true) (hq:U5 q=true) (h:a2X r=a2X q):r=q:=by
 have h:=List.append_cancel_left h
 unfold a1c at h
 obtain⟨e1,h⟩:=b2D _ _ _ _ h
 obtain⟨e2,_⟩:=b2D r.E0.toNat q.E0.toNat [] [] (by rw [h])
 have:=a1d hr
 have:=a1d hq
 obtain⟨g,n⟩:=r
 obtain⟨g',n'⟩:=q
 dsimp only at *
 rw [show g=g' by omega,show n=n' by omega]
def a2g (e:Epo) (l:Int):Ring:=⟨[e],l⟩
theorem b9d (e:Epo) (l:Int):a34 (a2g e l) e.Number=some e:=by
 unfold a34 a2g;rw [List.find?_cons_of_pos (by simp)]
section
variable {B:C9} {root:Epo} {P:Pass} {G:List Dis} {T:List Tag} {r:Rq} {t:Tag} {n k:Nat}
theorem b0Y.c2F (h:b0Y B root P G T r t n k) (hk:k≤6) (l:Int):∃ v,a7K B (a2g root l) (prB B P G r t)=(v,0)∧v.a8q.length=P.j8.length+1∧v.b3t=P.Tag:=by
 refine⟨_,b8J (root:=root) (by rw [show(prB B P G r t).D3=root.Number from h.sc.a4N.1];exact b9d _ _) (h.ver hk),?_,h.sc.last⟩
 have:=b4i h.sc.nodes
 rw [h.sc.a6Y] at this;exact this
end
end Go.Proofs.YtmmclghiidoldaaGreatDoor
namespace Go.Ab
open Go.Fl Go.RowKit
open o7 (rep)
section a3m
variable {P:Program} {C:Ctx} {N:Nat} {σ:x7} {H:j7} {Q:Exit→x7→j7→Prop}
theorem u4.fz {w:Value} {a:AV} {b:Bool} {F:Bool×D6→j7} (hH:u4 H (b,.fz w a) F) {n0:Nat} {I:Im} {L:Lh} (hr:U0 n0 I H L):E1 I a w:=by
 obtain⟨i,X,h1,h2,h3⟩:=hH.get hr
 exact h2.1.2
theorem J0.a3m {α β:Type} {r:o7 α} {s:o7 β} {w:Value} {x:α} {y:β} {b:Bool} {c:Code} {F:Bool×D6→j7} (hH:u4 H (b,.ob w x) F) (h:∀ n0 I L,U0 n0 I H L→∀ cs,r.rep I x cs→s.rep I y cs) (k:J0 P C N c Q σ (F (b,.ob w y))):J0 P C N c Q σ H:=fun ρ I L hs=>by
 obtain⟨i,X,h2,h3,h4⟩:=hH.get hs.heap
 have hset:L.set i X=L:=by
  obtain⟨hi,e⟩:=List.getElem?_eq_some_iff.1 h2
  rw [←e,List.set_getElem_self]
 obtain⟨⟨bb,T,cs,e1,e2,e3⟩,h5⟩:=h3
 have:=h4 I (b,.ob w y) X (Le.refl I) ⟨⟨bb,T,cs,e1,e2,h _ I L hs.heap cs e3⟩,h5⟩
 rw [hset] at this
 exact k ρ I L ⟨hs.env,this,hs.U6⟩
end a3m
section rawOps
variable {P:Program} {C:Ctx} {N:Nat} {σ:x7} {H:j7}
theorem E6.vR {α:Type} {r:o7 α} {t:Nat} {w:Value} {l:List α} {b:Bool} {F:Bool×D6→j7} (ht:E9 σ t=some (.raw w)) (hH:u4 H (b,.fz w (.v l)) F):E6 C σ H (.tmp t) (.v (V3.mk w)):=fun ρ I L hs=>by
 obtain⟨u,h1,rfl⟩:=hs.env t _ ht
 have h:=u4.fz hH hs.heap
 obtain⟨cs,⟨v,e1,h4⟩,e2⟩:=h
 subst e1
 have e2:u=v:=e2
 have o4:u.oneCell'=true:=by rw [e2];obtain⟨xs,⟨a,c,rfl,_⟩,_⟩:=h4;rfl
 exact⟨_,h1,_,⟨a8,o4⟩,a8⟩
theorem EvL.st {α β γ:Type} {ra:o7 α} {rb:o7 β} {rc:o7 γ} {t:Nat} {x:α} {y:β} {E:TypeId} {w:Value} {l:List γ} {g:Bool} {F:Bool×D6→j7} (ht:E9 σ t=some (.v x)) (h:u4 H (g,.own E w l) F) (hc:∀ J n0 L v,U0 n0 J H L→E1 J (.v x) v→E1 J (.v l) w→E1 J (.v y) v):EvL C σ H (.tmp t) (.v y):=fun ρ I L hs=>by
 obtain⟨u,h1,h2⟩:=hs.env t _ ht
 obtain⟨i,X,h3,h4,_⟩:=h.get hs.heap
 exact⟨_,h1,fun J hle hp=>hc J _ L u (hs.heap.mono hle) (h2.mono hle) (W2 h4.1 hle (fun p hpx=>hp p (D2 h3 hpx)))⟩
theorem D0.name {ops:Array Oper} {Q:Exit→x7→j7→Prop} {os:List Oper} (t:Nat) {a:AV} (ht:E9 σ t=some a) (k:∀ w,D0 P C N ops Q os ((t,.raw w)::σ) ((true,.fz w a)::H)):D0 P C N ops Q os σ H:=fun ρ I L hs=>by
 obtain⟨u,h1,h2⟩:=hs.env t _ ht
 refine wpL.pad (k u ρ I ([]::L) ⟨fun s b hb => ?_,⟨[],L,rfl,⟨⟨rfl,h2⟩,fun _ p hp=>by cases hp⟩,hs.heap⟩,hs.U6⟩)
 rw [I9] at hb
 by_cases e:t=s
 ·subst e;simp at hb;subst hb;exact⟨u,h1,rfl⟩
 ·rw [if_neg e] at hb;exact hs.env s b hb
end rawOps
end Go.Ab
namespace Go.Proofs.YtmmclghiidoldaaGreatDoor
open Go.Proofs.Tryz
open Go.Fl Go.Ab Go.Mac Go.Sha
theorem a1h {l:List Pred} {p:Pred} (h:∀ q∈l,y5 q=true) (hp:y5 p=true):∀ q∈l ++ [p],y5 q=true:=fun q hq=>by
 rcases List.mem_append.1 hq with h'|h'
 ·exact h q h'
 ·rw [List.mem_singleton.1 h'];exact hp
theorem b2G (w:Value) (d:m5) (n:Int) (s:Y4) (hd:G1 d) (h0:0≤n) (h1:n≤1000) (hs:Q3 s=true):E4 gl prog 78 [dk w,.v n,.v s] [.ob w d] (fun r Hs=>∃ l:List Pred,(l.length:Int)≤n∧(∀ p∈l,y5 p=true)∧∃ d',G1 d'∧r = .v l∧Hs = [.ob w d']):=by
 refine E4.a5B func78 rfl (by kernel_rfl) 58 rfl rfl _ rfl _ rfl fun C hC hG => ?_
 refine .q 6 hG ?_
 refine .p (.assign .raw ?_)
 refine .q 3 hG ?_
 refine .a0H 97 Pred ?_
 refine .q 3 hG ?_
 refine .ad (by omega) (by omega) ?_
 refine .km hG (F0 _ _ _ (by first|assumption|exact x4 _) (by omega) (by omega)) .z1 (by rintro _ _ ⟨_,_,_,_,_,_,rfl⟩;exact⟨_,rfl⟩) fun r12 B12 hr12 => ?_
 obtain⟨v12,d12,h012,h112,hd12,rfl,hB⟩:=hr12
 cases hB
 refine .q 3 hG ?_
 refine .D8 (α:=Nat×Value×List Pred×m5) [(0,_),(2,_)] (fun x R=>(7,.raw x.2.1)::(8,.v (x.1:Int))::R) (fun x => [(true,.own 97 x.2.1 x.2.2.1),(false,.ob w x.2.2.2)]) (fun x=>(x.1:Int)+x.2.2.1.length≤n∧G1 x.2.2.2∧∀ p∈x.2.2.1,y5 p=true) (fun x=>x.1) ((v12.toNat,.slice none 0 0,[],d12)) (.c2 a8 a8 (.nil _)) ?_ (.cons a8 (.cons (congrArg (fun q=>some (AV.v q)) (by dsimp only;omega)) (.c2 a8 a8 (.nil _)))) (a8) fun x hF => ?_
 ·exact⟨by dsimp only;simp;omega,by assumption,by simp⟩
 obtain⟨k,v,b,e⟩:=x
 obtain⟨h2,h3,h4⟩:=hF
 dsimp only at h2 h3 h4 ⊢
 refine .q 7 hG ⟨fun hc14 => ?_,fun hc14 => ?_⟩
 ·refine .q 6 hG ?_
  refine .km hG (F0 _ _ _ (by first|assumption|exact x4 _) (by omega) (by omega)) .z1 (by rintro _ _ ⟨_,_,_,_,_,_,rfl⟩;exact⟨_,rfl⟩) fun r18 B18 hr18 => ?_
  obtain⟨v18,d18,h018,h118,hd18,rfl,hB⟩:=hr18
  cases hB
  refine .q 8 hG ⟨fun hc19 => ?_,fun hc19 => ?_⟩
  ·refine .q 2 hG ?_
   refine .p (.bS2 j3.l0 j3.l1 a8 Q2 a6G (fun c0 c1=>(⟨c0,c1,0,0,⟨[]⟩,0⟩:j3)) (fun _ _=>a8) a8 a8 a8 (.i a8) (.u64 7 a8) ?_)
   refine .bs a8 (by decide) fun b23 => ?_
   refine .ap (by simp<;>omega) (by simp<;>omega) fun w24 => ?_
   refine .q 1 hG ?_
   refine .drop ?_
   refine .q 3 hG ?_
   refine .sb (by omega) (by omega) ?_
   refine .q 2 hG ?_
   refine⟨(k - 1,_,_,_),.cons rfl (.cons (congrArg (fun q=>some (AV.v q)) (by dsimp only;omega)) (.c2 rfl rfl (.nil _))),rfl,?_,by dsimp only;omega⟩
   first|(exfalso;omega)|(exfalso;simp_all;done)|(exfalso;simp at *;omega)|exact⟨by dsimp only;simp;omega,by assumption,a1h h4 (by first|assumption|exact Q6 hs|exact I4 (by omega) (by omega) (by omega)|exact L8 (by omega) (by omega)|exact E5 (Or.inl rfl) (by decide))⟩
  ·refine .q 6 hG ⟨fun hc25 => ?_,fun hc25 => ?_⟩
   ·refine .q 3 hG ?_
    refine .km hG (F0 _ _ _ (by first|assumption|exact x4 _) (by omega) (by omega)) .z1 (by rintro _ _ ⟨_,_,_,_,_,_,rfl⟩;exact⟨_,rfl⟩) fun r29 B29 hr29 => ?_
    obtain⟨v29,d29,h029,h129,hd29,rfl,hB⟩:=hr29
    cases hB
    refine .ad (by omega) (by omega) (.p (.bS3 j3.l0 j3.l2 j3.l3 a8 Q2 a6G (fun c0 c2 c3=>(⟨c0,0,c2,c3,⟨[]⟩,0⟩:j3)) (fun _ _ _=>a8) a8 a8 a8 a8 (.i a8) (.i a8) (.t a8) ?_))
    refine .bs a8 (by decide) fun b32 => ?_
    refine .ap (by simp<;>omega) (by simp<;>omega) fun w33 => ?_
    refine .q 1 hG ?_
    refine .drop ?_
    refine .q 3 hG ?_
    refine .sb (by omega) (by omega) ?_
    refine .q 2 hG ?_
    refine⟨(k - 1,_,_,_),.cons rfl (.cons (congrArg (fun q=>some (AV.v q)) (by dsimp only;omega)) (.c2 rfl rfl (.nil _))),rfl,?_,by dsimp only;omega⟩
    first|(exfalso;omega)|(exfalso;simp_all;done)|(exfalso;simp at *;omega)|exact⟨by dsimp only;simp;omega,by assumption,a1h h4 (by first|assumption|exact Q6 hs|exact I4 (by omega) (by omega) (by omega)|exact L8 (by omega) (by omega)|exact E5 (Or.inl rfl) (by decide))⟩
   ·refine .q 6 hG ⟨fun hc34 => ?_,fun hc34 => ?_⟩
    ·refine .q 3 hG ?_
     refine .p (.bS2 j3.l0 j3.l4 a8 Q2 a6G (fun c0 c4=>(⟨c0,0,0,0,c4,0⟩:j3)) (fun _ _=>a8) a8 a8 a8 (.i a8) (.t a8) ?_)
     refine .bs a8 (by decide) fun b39 => ?_
     refine .ap (by simp<;>omega) (by simp<;>omega) fun w40 => ?_
     refine .q 1 hG ?_
     refine .drop ?_
     refine .q 3 hG ?_
     refine .sb (by omega) (by omega) ?_
     refine .q 2 hG ?_
     refine⟨(k - 1,_,_,_),.cons rfl (.cons (congrArg (fun q=>some (AV.v q)) (by dsimp only;omega)) (.c2 rfl rfl (.nil _))),rfl,?_,by dsimp only;omega⟩
     first|(exfalso;omega)|(exfalso;simp_all;done)|(exfalso;simp at *;omega)|exact⟨by dsimp only;simp;omega,by assumption,a1h h4 (by first|assumption|exact Q6 hs|exact I4 (by omega) (by omega) (by omega)|exact L8 (by omega) (by omega)|exact E5 (Or.inl rfl) (by decide))⟩
    ·refine .q 6 hG ?_
     refine .cond (.t a8) (fun hc41 => ?_) (fun hc41 => ?_)
     ·refine .q 1 hG ?_
      refine .cond (.t a8) (fun hc41 => ?_) (fun hc41 => ?_)
      ·refine .q 3 hG ?_
       refine .km hG (F0 _ _ _ (by first|assumption|exact x4 _) (by omega) (by omega)) .z1 (by rintro _ _ ⟨_,_,_,_,_,_,rfl⟩;exact⟨_,rfl⟩) fun r46 B46 hr46 => ?_
       obtain⟨v46,d46,h046,h146,hd46,rfl,hB⟩:=hr46
       cases hB
       refine .p (.bS2 j3.l0 j3.l5 a8 Q2 a6G (fun c0 c5=>(⟨c0,0,0,0,⟨[]⟩,c5⟩:j3)) (fun _ _=>a8) a8 a8 a8 (.i a8) (.t a8) ?_)
       refine .bs a8 (by decide) fun b48 => ?_
       refine .ap (by simp<;>omega) (by simp<;>omega) fun w49 => ?_
       refine .q 1 hG ?_
       refine .drop ?_
       refine .q 3 hG ?_
       refine .sb (by omega) (by omega) ?_
       refine .q 2 hG ?_
       refine⟨(k - 1,_,_,_),.cons rfl (.cons (congrArg (fun q=>some (AV.v q)) (by dsimp only;omega)) (.c2 rfl rfl (.nil _))),rfl,?_,by dsimp only;omega⟩
       first|(exfalso;omega)|(exfalso;simp_all;done)|(exfalso;simp at *;omega)|exact⟨by dsimp only;simp;omega,by assumption,a1h h4 (by first|assumption|exact Q6 hs|exact I4 (by omega) (by omega) (by omega)|exact L8 (by omega) (by omega)|exact E5 (Or.inl rfl) (by decide))⟩
      ·refine .q 6 hG ⟨fun hc50 => ?_,fun hc50 => ?_⟩
       ·refine .q 3 hG ?_
        refine .km hG (R5 _ _ _ (by assumption)) .z1 (by rintro _ _ ⟨_,_,_,_,_,_,rfl⟩;exact⟨_,rfl⟩) fun r54 B54 hr54 => ?_
        obtain⟨p54,hp54,hk54,d54,hd54,rfl,hB⟩:=hr54
        cases hB
        refine .bs a8 (by decide) fun b55 => ?_
        refine .ap (by simp<;>omega) (by simp<;>omega) fun w56 => ?_
        refine .q 1 hG ?_
        refine .drop ?_
        refine .q 3 hG ?_
        refine .sb (by omega) (by omega) ?_
        refine .q 2 hG ?_
        refine⟨(k - 1,_,_,_),.cons rfl (.cons (congrArg (fun q=>some (AV.v q)) (by dsimp only;omega)) (.c2 rfl rfl (.nil _))),rfl,?_,by dsimp only;omega⟩
        first|(exfalso;omega)|(exfalso;simp_all;done)|(exfalso;simp at *;omega)|exact⟨by dsimp only;simp;omega,by assumption,a1h h4 (by first|assumption|exact Q6 hs|exact I4 (by omega) (by omega) (by omega)|exact L8 (by omega) (by omega)|exact E5 (Or.inl rfl) (by decide))⟩
       ·refine .q 3 hG ?_
        refine .sb (by omega) (by omega) ?_
        refine .q 2 hG ?_
        refine⟨(k - 1,_,_,_),.cons rfl (.cons (congrArg (fun q=>some (AV.v q)) (by dsimp only;omega)) (.c2 rfl rfl (.nil _))),rfl,?_,by dsimp only;omega⟩
        first|(exfalso;omega)|(exfalso;simp_all;done)|(exfalso;simp at *;omega)|exact⟨by dsimp only;simp;omega,by assumption,a1h h4 (by first|assumption|exact Q6 hs|exact I4 (by omega) (by omega) (by omega)|exact L8 (by omega) (by omega)|exact E5 (Or.inl rfl) (by decide))⟩
     ·refine .q 4 hG ?_
      refine .cond (.t a8) (fun hc41 => ?_) (fun hc41 => ?_)
      ·refine .q 3 hG ?_
       refine .km hG (F0 _ _ _ (by first|assumption|exact x4 _) (by omega) (by omega)) .z1 (by rintro _ _ ⟨_,_,_,_,_,_,rfl⟩;exact⟨_,rfl⟩) fun r46 B46 hr46 => ?_
       obtain⟨v46,d46,h046,h146,hd46,rfl,hB⟩:=hr46
       cases hB
       refine .p (.bS2 j3.l0 j3.l5 a8 Q2 a6G (fun c0 c5=>(⟨c0,0,0,0,⟨[]⟩,c5⟩:j3)) (fun _ _=>a8) a8 a8 a8 (.i a8) (.t a8) ?_)
       refine .bs a8 (by decide) fun b48 => ?_
       refine .ap (by simp<;>omega) (by simp<;>omega) fun w49 => ?_
       refine .q 1 hG ?_
       refine .drop ?_
       refine .q 3 hG ?_
       refine .sb (by omega) (by omega) ?_
       refine .q 2 hG ?_
       refine⟨(k - 1,_,_,_),.cons rfl (.cons (congrArg (fun q=>some (AV.v q)) (by dsimp only;omega)) (.c2 rfl rfl (.nil _))),rfl,?_,by dsimp only;omega⟩
       first|(exfalso;omega)|(exfalso;simp_all;done)|(exfalso;simp at *;omega)|exact⟨by dsimp only;simp;omega,by assumption,a1h h4 (by first|assumption|exact Q6 hs|exact I4 (by omega) (by omega) (by omega)|exact L8 (by omega) (by omega)|exact E5 (Or.inl rfl) (by decide))⟩
      ·refine .q 6 hG ⟨fun hc50 => ?_,fun hc50 => ?_⟩
       ·refine .q 3 hG ?_
        refine .km hG (R5 _ _ _ (by assumption)) .z1 (by rintro _ _ ⟨_,_,_,_,_,_,rfl⟩;exact⟨_,rfl⟩) fun r54 B54 hr54 => ?_
        obtain⟨p54,hp54,hk54,d54,hd54,rfl,hB⟩:=hr54
        cases hB
        refine .bs a8 (by decide) fun b55 => ?_
        refine .ap (by simp<;>omega) (by simp<;>omega) fun w56 => ?_
        refine .q 1 hG ?_
        refine .drop ?_
        refine .q 3 hG ?_
        refine .sb (by omega) (by omega) ?_
        refine .q 2 hG ?_
        refine⟨(k - 1,_,_,_),.cons rfl (.cons (congrArg (fun q=>some (AV.v q)) (by dsimp only;omega)) (.c2 rfl rfl (.nil _))),rfl,?_,by dsimp only;omega⟩
        first|(exfalso;omega)|(exfalso;simp_all;done)|(exfalso;simp at *;omega)|exact⟨by dsimp only;simp;omega,by assumption,a1h h4 (by first|assumption|exact Q6 hs|exact I4 (by omega) (by omega) (by omega)|exact L8 (by omega) (by omega)|exact E5 (Or.inl rfl) (by decide))⟩
       ·refine .q 3 hG ?_
        refine .sb (by omega) (by omega) ?_
        refine .q 2 hG ?_
        refine⟨(k - 1,_,_,_),.cons rfl (.cons (congrArg (fun q=>some (AV.v q)) (by dsimp only;omega)) (.c2 rfl rfl (.nil _))),rfl,?_,by dsimp only;omega⟩
        first|(exfalso;omega)|(exfalso;simp_all;done)|(exfalso;simp at *;omega)|exact⟨by dsimp only;simp;omega,by assumption,a1h h4 (by first|assumption|exact Q6 hs|exact I4 (by omega) (by omega) (by omega)|exact L8 (by omega) (by omega)|exact E5 (Or.inl rfl) (by decide))⟩
 ·refine .q 2 hG ?_
  refine .u0 hC .z (.as 7 a8 .z ?_)
  refine .q 5 hG ?_
  refine .e1 a8 a8 ?_
  exact⟨1,_,by omega,h4,_,h3,rfl,rfl⟩
structure j5 where
 A:m0
 Ring:C8
 C:u9
 Pass:x6
 L7:V3
 Request:u3
 G0:Y4
 Minute:Int
def j5.f (x:j5):m0×C8×u9×x6×V3×u3×Y4×Int×Unit:=(x.A,x.Ring,x.C,x.Pass,x.L7,x.Request,x.G0,x.Minute,())
instance:Inhabited j5:=⟨⟨default,default,default,default,default,default,default,default⟩⟩
instance:o7 j5:=o7.via j5.f
instance:H4 j5:=H4.via j5.f rfl
def j5.l0:j9 j5 m0:=j9.via j5.f j9.fst (fun x=>x.A) (fun y x => { x with A:=y }) (fun _=>rfl) (fun _ _=>rfl)
def j5.l1:j9 j5 C8:=j9.via j5.f (j9.snd.comp j9.fst) (fun x=>x.Ring) (fun y x => { x with Ring:=y }) (fun _=>rfl) (fun _ _=>rfl)
def j5.l2:j9 j5 u9:=j9.via j5.f (j9.snd.comp (j9.snd.comp j9.fst)) (fun x=>x.C) (fun y x => { x with C:=y }) (fun _=>rfl) (fun _ _=>rfl)
def j5.l3:j9 j5 x6:=j9.via j5.f (j9.snd.comp (j9.snd.comp (j9.snd.comp j9.fst))) (fun x=>x.Pass) (fun y x => { x with Pass:=y }) (fun _=>rfl) (fun _ _=>rfl)
def j5.l4:j9 j5 V3:=j9.via j5.f (j9.snd.comp (j9.snd.comp (j9.snd.comp (j9.snd.comp j9.fst)))) (fun x=>x.L7) (fun y x => { x with L7:=y }) (fun _=>rfl) (fun _ _=>rfl)
def j5.l5:j9 j5 u3:=j9.via j5.f (j9.snd.comp (j9.snd.comp (j9.snd.comp (j9.snd.comp (j9.snd.comp j9.fst))))) (fun x=>x.Request) (fun y x => { x with Request:=y }) (fun _=>rfl) (fun _ _=>rfl)
def j5.l6:j9 j5 Y4:=j9.via j5.f (j9.snd.comp (j9.snd.comp (j9.snd.comp (j9.snd.comp (j9.snd.comp (j9.snd.comp j9.fst)))))) (fun x=>x.G0) (fun y x => { x with G0:=y }) (fun _=>rfl) (fun _ _=>rfl)
def j5.l7:j9 j5 Int:=j9.via j5.f (j9.snd.comp (j9.snd.comp (j9.snd.comp (j9.snd.comp (j9.snd.comp (j9.snd.comp (j9.snd.comp j9.fst))))))) (fun x=>x.Minute) (fun y x => { x with Minute:=y }) (fun _=>rfl) (fun _ _=>rfl)
theorem c1D:G2 prog 44 V3 := .ok (by kernel_rfl)
theorem c3U:G2 prog 46 j5 := .ok (by kernel_rfl)
abbrev Scn:=p5
def b9e (s:Scn) (u:Value):j5:=⟨s.A,s.Ring,s.C,s.Pass,⟨u⟩,s.Request,s.G0,s.Minute⟩
theorem b6N {s:Scn} {u:Value} {I:Im} {cs:List Value} (h:o7.rep I (b9e s u) cs) (hg:E1 I (.v s.L7) u):o7.rep I s cs:=by
 obtain⟨c1,r1,rfl,h1,c2,r2,rfl,h2,c3,r3,rfl,h3,c4,r4,rfl,h4,c5,r5,rfl,⟨rfl,_⟩,h6⟩:=h
 obtain⟨_,⟨v,rfl,h5⟩,rfl⟩:=hg
 exact⟨c1,_,a8,h1,c2,_,a8,h2,c3,_,a8,h3,c4,_,a8,h4,_,_,a8,⟨_,a8,h5⟩,h6⟩
theorem as3 {α:Type} [o7 α] {P:Program} {f:FuncId} {ag:List AV} {x:C9×α×Int} {b:C9} {y:α} {e:Int} (h:p4 gl P f ag (fun r=>r = .t3 (.v x.1) (.v x.2.1) (.v x.2.2))) (hx:x=(b,y,e)):p4 gl P f ag (fun r=>r = .t3 (.v b) (.v y) (.v e)):=by
 subst hx;exact h
abbrev b4w:Y4:=⟨[97,110,110]⟩
structure a7A (A:C9) (root:Epo) (P:Pass) (G:List Dis) (k:Nat):Prop where
 ex:∃ T n,a0i A root P G T n k∧n≤4+10*k
 b5F:a3F A
theorem a9O {A:C9} {root:Epo} {P:Pass} {G:List Dis} {k:Nat} (h:a7A A root P G k) (hk:k < 6) {l:List Pred} (hl:l.length≤1) (hp:∀ p∈l,y5 p=true):∃ B Q,a1f A P l=(B,Q,0)∧a7A B root Q G (k+1):=by
 obtain⟨T,n,hs,hn⟩:=h.ex
 rcases l with _|⟨p,l⟩
 ·exact⟨A,P,rfl,⟨T,n,hs.wide (Nat.le_refl _) (Nat.le_succ _),by omega⟩,h.b5F⟩
 ·obtain rfl:l = []:=List.length_eq_zero_iff.1 (by simpa using hl)
  obtain⟨B,Q,U,e,h2,h3,_⟩:=hs.first (by omega) (by omega) (hp p (by simp)) h.b5F
  refine⟨B,Q,?_,⟨U,n+2,h2,by omega⟩,h3⟩
  unfold a1f;rw [e,F6 rfl];rfl
set_option maxHeartbeats 1000000 in
theorem b6O (w:Value) (d:m5) (wide:Bool) (hd:G1 d):E4 gl prog 30 [dk w,.v wide] [.ob w d] (fun r Hs=>∃ s:Scn,∃ root k,(a7A s.A root s.Pass s.L7 k∧k≤5∧root.Number=2∧s.Ring=a2g root 3∧U5 s.Request=true∧s.G0=b4w)∧∃ d',G1 d'∧r = .v s∧Hs = [.ob w d']):=by
 refine E4.a5B func30 rfl (by kernel_rfl) 176 rfl rfl _ rfl _ rfl fun C hC hG => ?_
 refine .q 3 hG fun b4 => ?_
 refine .q 3 hG ?_
 refine .h (.alloc c3U fun b5 => ?_)
 refine .q 2 hG ?_
 refine .a0H 139 Dis ?_
 refine .q 2 hG ?_
 refine .km hG (F0 _ _ _ (by first|assumption|exact x4 _) (by omega) (by omega)) .z3 (by rintro _ _ ⟨_,_,_,_,_,_,rfl⟩;exact⟨_,rfl⟩) fun r15 B15 hr15 => ?_
 obtain⟨v15,d15,h015,h115,hd15,rfl,hB⟩:=hr15
 cases hB
 refine .q 2 hG ?_
 refine .km hG (b3I _ _ (by first|assumption|exact x4 _)) .z3 (by rintro _ _ ⟨_,_,_,_,rfl⟩;exact⟨_,rfl⟩) fun r18 B18 hr18 => ?_
 obtain⟨k18,d18,hd18,rfl,hB⟩:=hr18
 cases hB
 refine .p (.o8 hG (c2m _ _) (.cons (.t a8) (.cons (.t a8) .nil)) (.p (.A9 j5.l0 R8 a8 (.t a8) (.n (.stF (fun y x => { x with A:=y }) y9 (.t a8) (.t a8) .z1 (fun _ _=>a8) ?_)))))
 refine .q 3 hG ?_
 refine .h (.alloc A5 fun b6 => .h (.alloc A5 fun b7 => ?_))
 refine .q 3 hG ?_
 refine .p (.A9 j5.l0 R8 a8 (.t a8) (.p (.ldF (fun x=>x.A) y9 (.t a8) .z3 (fun _=>a8) (.p (.o8 hG (b3H _ (Int.le_refl 0)) (.cons (.t a8) .nil) ?_)))))
 have hk0:=(H6.new (decide (v15=0)) k18 0).b0M (by decide)
 obtain⟨kb,kt,ks⟩:=hk0
 rw [ks.eq]
 dsimp only
 refine .mv a8 (.p (.O3 (.t a8) (.p (.O4 (.t a8) (.p (.O5 (.t a8) (.p (.A9 j5.l0 R8 a8 (.t a8) (.n (.stF (fun y x => { x with A:=y }) y9 (.t a8) (.t a8) .z3 (fun _ _=>a8) (.n (.R6 A5 (.t a8) (.t a8) .z1 ?_))))))))))))
 refine .q 3 hG ?_
 refine .p (.A9 j5.l0 R8 a8 (.t a8) (.p (.ldF (fun x=>x.A) y9 (.t a8) .z3 (fun _=>a8) (.p (.o8 hG (b3H _ ks.ok.a5I) (.cons (.t a8) .nil) ?_)))))
 have hk0:=ks.ok.b0M (by decide)
 obtain⟨kb2,kt2,ks2⟩:=hk0
 rw [ks2.eq]
 dsimp only
 refine .mv a8 (.p (.O3 (.t a8) (.p (.O4 (.t a8) (.p (.O5 (.t a8) (.p (.A9 j5.l0 R8 a8 (.t a8) (.n (.stF (fun y x => { x with A:=y }) y9 (.t a8) (.t a8) .z3 (fun _ _=>a8) (.n (.R6 A5 (.t a8) (.t a8) .z ?_))))))))))))
 refine .q 3 hG ?_
 refine .p (.S4 A5 (.t a8) .z (.p (.bS2 u7.l0 u7.l1 a8 b1J c1S (fun c0 c1=>(⟨c0,c1⟩:u7)) (fun _ _=>a8) a8 a8 a8 (.i a8) (.t a8) ?_)))
 refine .bs a8 (by decide) fun b39=>(.u0 hC .z (.as 39 a8 .z (.p (.bS2 C8.l0 C8.l1 a8 c0j c26 (fun c0 c1=>(⟨c0,c1⟩:C8)) (fun _ _=>a8) a8 a8 a8 (.t a8) (.i a8) (.p (.A9 j5.l1 b7r a8 (.t a8) (.n (.stF (fun y x => { x with Ring:=y }) c0j (.t a8) (.t a8) .z4 (fun _ _=>a8) (.drop ?_)))))))))
 refine .q 3 hG ?_
 refine .p (.A9 j5.l6 a92 a8 (.t a8) (.n (.stF (fun y x => { x with G0:=y }) ty9 (.t a8) (.s [97,110,110] (by decide) (by decide)) .z3 (fun _ _=>a8) ?_)))
 refine .q 3 hG ?_
 refine .mv a8 (.h (.a1m hG (F0 _ _ _ (by first|assumption|exact x4 _) (by omega) (by omega)) .z5 (.cons (.t a8) (.cons (.i a8) .nil)) (by rintro _ _ ⟨_,_,_,_,_,_,rfl⟩;exact⟨_,rfl⟩) fun r44 B44 hr44 => ?_))
 obtain⟨v44,d44,h044,h144,hd44,rfl,hB⟩:=hr44
 cases hB
 refine .p (.A9 j5.l7 b7t a8 (.t a8) (.n (.stF (fun y x => { x with Minute:=y }) P5 (.t a8) (.t a8) .z3 (fun _ _=>a8) ?_)))
 refine .q 2 hG ?_
 refine .D7 [j1,j1,j1,j1,j1,j0] (by kernel_rfl) 13 [[],[(46,0)],[],[],[(49,3)],[(50,4)],[(51,5)],[(52,6)],[(53,7)],[],[(54,8),(55,9)],[(47,1),(48,2),(56,10)],[]] [1,4,5,6,7,8,10,11] a8 (by kernel_rfl) a8 (by kernel_rfl) (by decide) ?_
 refine⟨_,fun H=>j6.move (.t a8) a8,?_⟩
 refine .inl ?_
 refine⟨_,fun H=>j6.S4 A5 (.t a8) (u4.app .z1) a8,?_⟩
 refine⟨_,fun H=>j6.move (.t a8) a8,?_⟩
 refine .inl (.inl (.inl (.inl (.inl ?_))))
 refine⟨_,fun H=>j6.bS2 y8.l0 y8.l1 a8 a5j b7A (fun c0 c1=>(⟨c0,c1⟩:y8)) (fun _ _=>a8) a8 a8 a8 (.s [98,111,98] (by decide) (by decide)) (.i a8) a8,?_⟩
 refine .inl (.inl ?_)
 refine⟨_,fun H=>j6.A9 j5.l2 b3g a8 (.t a8) a8,?_⟩
 refine⟨⟨([],j2 [c8,c8,c8,c8,c8,_]),a8⟩,?_⟩
 refine A0.a1m hG (F0 _ _ _ (by first|assumption|exact x4 _) (by omega) (by omega)) .z5 (.cons (.t rfl) (.cons (.i rfl) .nil)) (by rintro _ _ ⟨_,_,_,_,_,_,rfl⟩;exact⟨_,rfl⟩) fun r47 B47 hr47 => ?_
 obtain⟨v47,d47,h047,h147,hd47,rfl,hB⟩:=hr47
 cases hB
 refine⟨⟨([],j2 [c8,c8,c8,c8,c8,_]),a8⟩,?_⟩
 refine A0.a1m hG (F0 _ _ _ (by first|assumption|exact x4 _) (by omega) (by omega)) .z5 (.cons (.t rfl) (.cons (.i rfl) .nil)) (by rintro _ _ ⟨_,_,_,_,_,_,rfl⟩;exact⟨_,rfl⟩) fun r50 B50 hr50 => ?_
 obtain⟨v50,d50,h050,h150,hd50,rfl,hB⟩:=hr50
 cases hB
 refine⟨⟨([],j2 [c8,c8,c8,c8,c8,_]),a8⟩,?_⟩
 refine A0.ofP (j6.neg (.t rfl) (by omega) ?_)
 refine⟨⟨([],j2 [c8,c8,c8,c8,c8,_]),a8⟩,?_⟩
 refine A0.ofP (j6.mul (.t rfl) (.i rfl) (by omega) (by omega) ?_)
 refine⟨⟨([],j2 [c8,c8,c8,c8,c8,_]),a8⟩,?_⟩
 refine A0.ofP (j6.mul (.t rfl) (.i rfl) (by omega) (by omega) ?_)
 refine⟨⟨([],j2 [c8,c8,c8,c8,c8,_]),a8⟩,?_⟩
 refine A0.ofP (j6.bS2 y8.l0 y8.l1 rfl a5j b7A (fun c0 c1=>(⟨c0,c1⟩:y8)) (fun _ _=>rfl) rfl rfl rfl (.s [97,110,110] (by decide) (by decide)) (.t rfl) ?_)
 refine⟨⟨([],j2 [c8,c8,c8,c8,c8,_]),a8⟩,?_⟩
 refine A0.ofP (j6.E7 (α:=y8) a5j underlying39 (.cons (.t rfl) (.cons (.t rfl) .nil)) rfl (by decide) ?_)
 refine⟨⟨([],j2 [c8,c8,c8,c8,c8,_]),a8⟩,?_⟩
 refine A0.ofP (j6.bS3 u9.l0 u9.l1 u9.l2 rfl b8b c4l (fun c0 c1 c2=>(⟨c0,c1,c2⟩:u9)) (fun _ _ _=>rfl) rfl rfl rfl rfl (.t rfl) (.t rfl) (.c rfl) ?_)
 refine⟨⟨([],j2 [c8,c8,c8,c8,c8,_]),a8⟩,?_⟩
 show D0 _ _ _ _ _ [_] ((58,_)::(57,_)::(56,_)::(55,_)::(54,_)::(53,_)::(52,_)::(51,_)::(50,_)::(49,_)::(48,_)::(47,_)::(46,_)::_) _
 refine .n (.stF (fun y x => { x with C:=y }) b8b (.t a8) (.t a8) .z3 (fun _ _=>a8) ?_)
 refine .q 3 hG ?_
 refine .mv a8 ?_
 refine .km hG (F0 _ _ _ (by first|assumption|exact x4 _) (by omega) (by omega)) .z5 (by rintro _ _ ⟨_,_,_,_,_,_,rfl⟩;exact⟨_,rfl⟩) fun r60 B60 hr60 => ?_
 obtain⟨v60,d60,h060,h160,hd60,rfl,hB⟩:=hr60
 cases hB
 refine .q 1 hG ?_
 refine .km hG (a43 _ _ _ _ (by first|assumption|exact x4 _) (by omega) (by omega) (by omega)) .z5 (by rintro _ _ ⟨_,_,_,_,_,_,rfl⟩;exact⟨_,rfl⟩) fun r62 B62 hr62 => ?_
 obtain⟨v62,d62,h062,h162,hd62,rfl,hB⟩:=hr62
 cases hB
 refine .p (.bS2 u3.l0 u3.l1 a8 a8v c25 (fun c0 c1=>(⟨c0,c1⟩:u3)) (fun _ _=>a8) a8 a8 a8 (.t a8) (.t a8) (.p (.A9 j5.l5 b7s a8 (.t a8) (.n (.stF (fun y x => { x with Request:=y }) a8v (.t a8) (.t a8) .z3 (fun _ _=>a8) ?_)))))
 refine .q 2 hG ?_
 refine .a0O [[j1,j1,j1,j1,j1,j1],[j1,j1,j1,j1,j1,j0],[j1,j1,j1,j0,j1,j0],[j1,j1,j1,j0,j1,j0]] [[j1,j1,j1,j1,j1,j0],[j1,j1,j1,j1,j1,j0],[j1,j1,j1,j1,j1,j0],[j1,j1,j1,j1,j1,j0],[j1,j1,j1,j1,j1,j0],[j1,j1,j1,j1,j1,j0],[j1,j1,j1,j1,j1,j0],[j1,j1,j1,j1,j1,j1],[],[j1,j1,j1,j1,j1,j0],[j1,j1,j1,j1,j1,j0],[j1,j1,j1,j1,j1,j0],[j1,j1,j1,j0,j1,j0],[j1,j1,j1,j0,j1,j0],[j1,j1,j1,j1,j1,j0],[],[j1,j1,j1,j0,j1,j0],[]] [[],[9,10,11,12,13],[],[]] [] 3 (by kernel_rfl) 18 [[],[(66,0)],[],[(68,2)],[(69,3)],[(70,4)],[(71,5)],[],[(73,7)],[(67,1),(72,6),(74,8)],[(75,9)],[(65,10)],[(65,10)],[(65,10)],[],[(79,14),(76,11)],[],[(80,16),(77,12)]] [8,15,17] rfl (by kernel_rfl) rfl (by kernel_rfl) rfl (by decide) (by simp) (fun p hp=>by cases hp) (by kernel_rfl) rfl ?_
 refine⟨_,fun H=>j6.A9 j5.l0 R8 a8 (.t a8) a8,?_⟩
 refine⟨_,fun H=>j6.ldF (fun x=>x.A) y9 (.t a8) (u4.app .z3) (fun _=>a8) a8,?_⟩
 refine⟨_,fun H=>j6.A9 j5.l1 b7r a8 (.t a8) a8,?_⟩
 refine⟨_,fun H=>j6.c0a C8.l0 b3e a8 (.t a8) a8,?_⟩
 refine⟨_,fun H=>j6.ldF (fun x=>x.Ring.Live) c2g (.t a8) (u4.app .z3) (fun _=>a8) a8,?_⟩
 refine⟨_,fun H=>j6.idx b1J underlying30 (.t a8) (.i a8) (by omega) (by simp) a8,?_⟩
 refine⟨_,fun H=>j6.G6 b1J (.t a8) a8,?_⟩
 refine⟨_,fun H=>j6.move (.t a8) a8,?_⟩
 refine .inl (.inl (.inl (.inl (.inl (.inl ?_)))))
 refine⟨_,fun H=>j6.A9 j5.l0 R8 a8 (.t a8) a8,?_⟩
 refine .inl ?_
 refine⟨_,fun H=>j6.A9 j5.l3 a4r a8 (.t a8) a8,?_⟩
 refine .inl ?_
 refine⟨a8,?_⟩
 refine⟨⟨j2 [c8,c8,c8,c8,c8,c8],a8⟩,fun Ys11 => ?_⟩
 refine A0.a1m hG (a43 _ _ _ _ (by first|assumption|exact x4 _) (by omega) (by omega) (by omega)) (u4.app (u4.app .z5)) (.cons (.t rfl) (.cons (.i rfl) (.cons (.i rfl) .nil))) (by rintro _ _ ⟨_,_,_,_,_,_,rfl⟩;exact⟨_,rfl⟩) fun r74 B74 hr74 => ?_
 obtain⟨v74,d74,h074,h174,hd74,rfl,hB⟩:=hr74
 cases hB
 have hst:=a0i.start (decide (v15=0)) k18 (root:=⟨2,kt2⟩) ⟨(by decide:(1:Int)≤2),(by decide:(2:Int)≤2)⟩ ks2.ok (by rw [ks2.a0n,ks.a0n]) (by rw [ks2.boxes,ks.boxes]) (n:=v74) (by omega) (by omega)
 obtain⟨mB,mP,mT,me,hS,hH,hF0,hser⟩:=hst
 refine⟨[],_,a8,?_⟩
 refine⟨_,fun H=>j6.o8 hG (as3 (b8B _ _ _) me) (.cons (.t a8) (.cons (.t a8) (.cons (.t a8) .nil))) a8,?_⟩
 refine⟨_,fun H=>j6.move (.t a8) a8,?_⟩
 refine⟨_,fun H=>j6.O3 (.t a8) a8,?_⟩
 refine⟨_,fun H=>j6.O4 (.t a8) a8,?_⟩
 refine⟨_,fun H=>j6.O5 (.t a8) a8,?_⟩
 refine⟨⟨j2 [c8,c8,c8,c8,c8,_],a8⟩,fun Ys11 => ?_⟩
 refine A0.stF (fun y x => { x with A:=y }) y9 (.t rfl) (.t rfl) (u4.app (u4.app .z3)) (fun _ _=>rfl) ?_
 refine⟨[],_,a8,?_⟩
 refine⟨⟨j2 [c8,c8,c8,_,c8,_],a8⟩,fun Ys11 => ?_⟩
 refine A0.stF (fun y x => { x with Pass:=y }) U4 (.t rfl) (.t rfl) (u4.app (u4.app .z3)) (fun _ _=>rfl) ?_
 refine⟨[],_,a8,?_⟩
 refine⟨⟨j2 [c8,c8,c8,_,c8,_],a8⟩,fun ws11 => ?_⟩
 refine⟨⟨j2 [c8,c8,c8,_,c8,_],a8⟩,fun _ => ?_⟩
 show D0 _ _ _ _ _ [] ((80,_)::(79,_)::(78,_)::(77,_)::(76,_)::(65,_)::(75,_)::(74,_)::(73,_)::(72,_)::(71,_)::(70,_)::(69,_)::(68,_)::(67,_)::(66,_)::_) _
 have hrq:U5 (⟨v60,v62⟩:Rq)=true:=(by unfold U5;simp;omega)
 refine .q 5 hG ?_
 refine .km hG (F0 _ _ _ (by first|assumption|exact x4 _) (by omega) (by omega)) .z5 (by rintro _ _ ⟨_,_,_,_,_,_,rfl⟩;exact⟨_,rfl⟩) fun r82 B82 hr82 => ?_
 obtain⟨v82,d82,h082,h182,hd82,rfl,hB⟩:=hr82
 cases hB
 refine .q 3 hG ?_
 refine .D8 (α:=Nat×Scn×Value×m5) [(0,_),(1,_),(4,_),(5,_)] (fun x R=>(8,.v (x.1:Int))::R) (fun x => [(true,.ob (ptr b7 0) kt2),(true,.ob (ptr b6 0) kt),(true,.own 139 x.2.2.1 x.2.1.L7),(true,.ob (ptr b5 0) (b9e x.2.1 x.2.2.1)),(true,.ob (ptr b4 0) (default:Scn)),(false,.ob w x.2.2.2)]) (fun x=>x.1≤5∧G1 x.2.2.2∧a7A x.2.1.A ⟨2,kt2⟩ x.2.1.Pass x.2.1.L7 (5 - x.1)∧x.2.1.Ring=a2g ⟨2,kt2⟩ 3∧x.2.1.C=⟨v47,kt,[⟨b4w,-v50*365*1440⟩,⟨⟨[98,111,98]⟩,0⟩]⟩∧x.2.1.Request=⟨v60,v62⟩∧x.2.1.G0=b4w∧x.2.1.Minute=v44) (fun x=>x.1) ((v82.toNat,⟨mB,⟨[⟨2,kt2⟩],3⟩,⟨v47,kt,[⟨b4w,-v50*365*1440⟩,⟨⟨[98,111,98]⟩,0⟩]⟩,mP,[],⟨v60,v62⟩,b4w,v44⟩,.slice none 0 0,d82)) (.c2 a8 a8 (.c2 a8 a8 (.nil _))) ?_ (.cons (congrArg (fun q=>some (AV.v q)) (by dsimp only;omega)) (.c2 a8 a8 (.c2 a8 a8 (.nil _)))) (a8) fun x hF => ?_
 ·exact⟨by dsimp only;omega,by assumption,⟨⟨mT,4,hS.wide (Nat.le_refl _) (Nat.zero_le _),by omega⟩,hH⟩,rfl,rfl,rfl,rfl,rfl⟩
 obtain⟨i,s,gu,e⟩:=x
 obtain⟨f1,f2,f3,f4,f5,f6,f7,f8⟩:=hF
 dsimp only at f1 f2 f3 f4 f5 f6 f7 f8 ⊢
 refine .q 2 hG ?_
 have hcv:s.Pass.j8.length≤5:=(by obtain⟨T,n,hs,hn⟩:=f3.ex;have:=hs.a4I;omega)
 refine .q 5 hG ⟨fun hc84 => ?_,fun hc84 => ?_⟩
 ·refine .q 7 hG ?_
  refine .km hG (F0 _ _ _ (by first|assumption|exact x4 _) (by omega) (by omega)) .z5 (by rintro _ _ ⟨_,_,_,_,_,_,rfl⟩;exact⟨_,rfl⟩) fun r88 B88 hr88 => ?_
  obtain⟨v88,d88,h088,h188,hd88,rfl,hB⟩:=hr88
  cases hB
  refine .q 3 hG ⟨fun hc89 => ?_,fun hc89 => ?_⟩
  ·refine .q 3 hG ?_
   refine .km hG (R5 _ _ _ (by assumption)) .z5 (by rintro _ _ ⟨_,_,_,_,_,_,rfl⟩;exact⟨_,rfl⟩) fun r91 B91 hr91 => ?_
   obtain⟨p91,hp91,hk91,d91,hd91,rfl,hB⟩:=hr91
   cases hB
   refine .bs a8 (by decide) fun b92 => ?_
   refine .q 7 hG ?_
   refine .cond (.t a8) (fun hc93 => ?_) (fun hc93 => ?_)
   ·refine .q 1 hG ?_
    refine .mv a8 (.p (.A9 j5.l6 a92 a8 (.t a8) (.p (.ldF (fun x=>x.G0) ty9 (.t a8) .z4 (fun _=>a8) ?_))))
    refine .km hG (b2G _ _ _ s.G0 (by assumption) (by decide) (by decide) (by rw [f7];decide)) .z6 (by rintro _ _ ⟨_,_,_,_,_,_,rfl⟩;exact⟨_,rfl⟩) fun r97 B97 hr97 => ?_
    obtain⟨l97,hl97,hp97,d97,hd97,rfl,hB⟩:=hr97
    cases hB
    refine .q 3 hG ?_
    refine .drop ?_
    have hna:=a9O f3 (by omega) (l:=l97) (by omega) hp97
    obtain⟨nB,nQ,ne,nS⟩:=hna
    refine .q 1 hG ?_
    refine .p (.A9 j5.l0 R8 a8 (.t a8) (.p (.ldF (fun x=>x.A) y9 (.t a8) .z3 (fun _=>a8) (.p (.A9 j5.l3 a4r a8 (.t a8) (.p (.ldF (fun x=>x.Pass) U4 (.t a8) .z3 (fun _=>a8) (.mv a8 (.p (.o8 hG (as3 (b2l _ _ _ (by(try simp);omega)) ne) (.cons (.t a8) (.cons (.t a8) (.cons (.t a8) .nil))) (.mv a8 (.p (.O3 (.t a8) (.p (.O4 (.t a8) (.p (.O5 (.t a8) (.p (.A9 j5.l0 R8 a8 (.t a8) (.n (.stF (fun y x => { x with A:=y }) y9 (.t a8) (.t a8) .z3 (fun _ _=>a8) (.p (.A9 j5.l3 a4r a8 (.t a8) (.n (.stF (fun y x => { x with Pass:=y }) U4 (.t a8) (.t a8) .z3 (fun _ _=>a8) ?_)))))))))))))))))))))))))
    have hsc:a7A nB ⟨2,kt2⟩ nQ s.L7 (5 - (i - 1)):=(by rw [show 5 - (i - 1)=5 - i+1 by omega];exact nS)
    refine .q 4 hG ?_
    refine .sb (by omega) (by omega) ?_
    refine .q 2 hG ?_
    refine⟨(i - 1,⟨nB,s.Ring,s.C,nQ,s.L7,s.Request,s.G0,s.Minute⟩,gu,_),.cons (congrArg (fun q=>some (AV.v q)) (by dsimp only;omega)) (.c2 rfl rfl (.c2 rfl rfl (.nil _))),rfl,?_,by dsimp only;omega⟩
    exact⟨by dsimp only;omega,by assumption,hsc,f4,f5,f6,f7,f8⟩
   ·refine .q 2 hG ?_
    refine .u0 hC .z (.as 9 a8 .z (.drop ?_))
    have hna:=a9O f3 (by omega) (l := [p91]) (Nat.le_refl 1) (by simpa using hp91)
    obtain⟨nB,nQ,ne,nS⟩:=hna
    refine .q 1 hG ?_
    refine .p (.A9 j5.l0 R8 a8 (.t a8) (.p (.ldF (fun x=>x.A) y9 (.t a8) .z3 (fun _=>a8) (.p (.A9 j5.l3 a4r a8 (.t a8) (.p (.ldF (fun x=>x.Pass) U4 (.t a8) .z3 (fun _=>a8) (.mv a8 (.p (.o8 hG (as3 (b2l _ _ _ (by(try simp);omega)) ne) (.cons (.t a8) (.cons (.t a8) (.cons (.t a8) .nil))) (.mv a8 (.p (.O3 (.t a8) (.p (.O4 (.t a8) (.p (.O5 (.t a8) (.p (.A9 j5.l0 R8 a8 (.t a8) (.n (.stF (fun y x => { x with A:=y }) y9 (.t a8) (.t a8) .z3 (fun _ _=>a8) (.p (.A9 j5.l3 a4r a8 (.t a8) (.n (.stF (fun y x => { x with Pass:=y }) U4 (.t a8) (.t a8) .z3 (fun _ _=>a8) ?_)))))))))))))))))))))))))
    have hsc:a7A nB ⟨2,kt2⟩ nQ s.L7 (5 - (i - 1)):=(by rw [show 5 - (i - 1)=5 - i+1 by omega];exact nS)
    refine .q 4 hG ?_
    refine .sb (by omega) (by omega) ?_
    refine .q 2 hG ?_
    refine⟨(i - 1,⟨nB,s.Ring,s.C,nQ,s.L7,s.Request,s.G0,s.Minute⟩,gu,_),.cons (congrArg (fun q=>some (AV.v q)) (by dsimp only;omega)) (.c2 rfl rfl (.c2 rfl rfl (.nil _))),rfl,?_,by dsimp only;omega⟩
    exact⟨by dsimp only;omega,by assumption,hsc,f4,f5,f6,f7,f8⟩
  ·refine .q 2 hG ?_
   obtain⟨T,n,hs,hn⟩:=f3.ex
   have hco:=hs.c4V (by omega) (by omega) f3.b5F (c:=s.C) (by rw [f5];exact h047) (by rw [f5];show v47≤7;omega) s.G0 (by rw [f7];decide)
   obtain⟨A1,bl,e1,ok1,A2,P2,e2,ho,ok2,hbt,A3,g,U,e3,hs3,hh3,hfr3,hgc⟩:=hco
   refine .q 2 hG fun b10 => ?_
   refine .q 3 hG ?_
   refine .p (.A9 j5.l0 R8 a8 (.t a8) (.p (.ldF (fun x=>x.A) y9 (.t a8) .z4 (fun _=>a8) (.p (.A9 j5.l2 b3g a8 (.t a8) (.p (.ldF (fun x=>x.C) b8b (.t a8) .z4 (fun _=>a8) (.p (.bS1 B0.l1 a8 b1K c28 (fun c1=>(⟨0,c1⟩:B0)) (fun _=>a8) a8 a8 (.i a8) (.p (.o8 hG (as3 (c0V _ _ _ hs.ok.a5I hs.ok.c1u) e1) (.cons (.t a8) (.cons (.t a8) (.cons (.t a8) .nil))) (.mv a8 (.p (.O3 (.t a8) (.p (.O4 (.t a8) (.p (.O5 (.t a8) (.p (.A9 j5.l0 R8 a8 (.t a8) (.n (.stF (fun y x => { x with A:=y }) y9 (.t a8) (.t a8) .z4 (fun _ _=>a8) (.n (.R6 a3z (.t a8) (.t a8) .z ?_))))))))))))))))))))))))
   refine .q 3 hG ?_
   refine .p (.A9 j5.l0 R8 a8 (.t a8) (.p (.ldF (fun x=>x.A) y9 (.t a8) .z4 (fun _=>a8) (.p (.A9 j5.l3 a4r a8 (.t a8) (.p (.ldF (fun x=>x.Pass) U4 (.t a8) .z4 (fun _=>a8) (.p (.S4 a3z (.t a8) .z (.p (.o8 hG (as3 (c3M _ _ _ (by(try dsimp only);omega) ok1.c1u (by omega)) e2) (.cons (.t a8) (.cons (.t a8) (.cons (.t a8) .nil))) (.mv a8 (.p (.O3 (.t a8) (.p (.O4 (.t a8) (.p (.O5 (.t a8) (.p (.A9 j5.l0 R8 a8 (.t a8) (.n (.stF (fun y x => { x with A:=y }) y9 (.t a8) (.t a8) .z4 (fun _ _=>a8) (.p (.A9 j5.l3 a4r a8 (.t a8) (.n (.stF (fun y x => { x with Pass:=y }) U4 (.t a8) (.t a8) .z4 (fun _ _=>a8) ?_))))))))))))))))))))))))))
   refine .q 3 hG ?_
   refine .h (.alloc S7 fun b11 => ?_)
   refine .q 3 hG ?_
   refine .p (.A9 j5.l0 R8 a8 (.t a8) (.p (.ldF (fun x=>x.A) y9 (.t a8) .z5 (fun _=>a8) (.p (.A9 j5.l2 b3g a8 (.t a8) (.p (.ldF (fun x=>x.C) b8b (.t a8) .z5 (fun _=>a8) (.p (.A9 C3.l2 a96 a8 (.t a8) (.p (.ldF (fun x=>x.l9) a3y (.t a8) .z1 (fun _=>a8) (.p (.A9 j5.l6 a92 a8 (.t a8) (.p (.ldF (fun x=>x.G0) ty9 (.t a8) .z5 (fun _=>a8) (.p (.A9 j5.l7 b7t a8 (.t a8) (.p (.ldF (fun x=>x.Minute) P5 (.t a8) .z5 (fun _=>a8) (.p (.o8 hG (as3 (c0U _ _ _ s.G0 s.Minute bl.Key ok2.b0K ho (by rw [f7];decide) (by rw [f8];omega) (by rw [f8];omega) (by rw [f5,f7];rfl) (by omega)) e3) (.cons (.t a8) (.cons (.t a8) (.cons (.t a8) (.cons (.t a8) (.cons (.t a8) .nil))))) (.mv a8 (.p (.O3 (.t a8) (.p (.O4 (.t a8) (.p (.O5 (.t a8) (.p (.A9 j5.l0 R8 a8 (.t a8) (.n (.stF (fun y x => { x with A:=y }) y9 (.t a8) (.t a8) .z5 (fun _ _=>a8) (.n (.R6 S7 (.t a8) (.t a8) .z ?_))))))))))))))))))))))))))))))))))
   refine .q 4 hG ?_
   refine .mv a8 ?_
   refine .km hG (F0 _ _ _ (by first|assumption|exact x4 _) (by omega) (by omega)) .z7 (by rintro _ _ ⟨_,_,_,_,_,_,rfl⟩;exact⟨_,rfl⟩) fun r150 B150 hr150 => ?_
   obtain⟨v150,d150,h0150,h1150,hd150,rfl,hB⟩:=hr150
   cases hB
   refine .q 3 hG ?_
   refine .D8 (α:=Nat×C9×Dis×m5) [(0,_),(1,_),(4,_),(5,_),(8,_),(11,_)] (fun y R=>(12,.v (y.1:Int))::R) (fun y => [(true,.ob (ptr b11 0) y.2.2.1),(true,.ob (ptr b10 0) bl),(true,.ob (ptr b7 0) kt2),(true,.ob (ptr b6 0) kt),(true,.own 139 gu s.L7),(true,.ob (ptr b5 0) (b9e ⟨y.2.1,s.Ring,s.C,P2,s.L7,s.Request,s.G0,s.Minute⟩ gu)),(true,.ob (ptr b4 0) (default:Scn)),(false,.ob w y.2.2.2)]) (fun y=>y.1≤2∧G1 y.2.2.2∧(∃ T n,a0i y.2.1 ⟨2,kt2⟩ P2 (s.L7 ++ [y.2.2.1]) T n (5 - i+1)∧n+y.1≤4+10*(5 - i+1))∧a3F y.2.1∧y.2.2.1.l8.length+y.1≤3) (fun y=>y.1) ((v150.toNat,A3,g,d150)) (.c2 a8 a8 (.c2 a8 a8 (.c2 a8 a8 (.nil _)))) ?_ (.cons (congrArg (fun q=>some (AV.v q)) (by dsimp only;omega)) (.c2 a8 a8 (.c2 a8 a8 (.c2 a8 a8 (.nil _))))) (a8) fun y hF => ?_
   ·exact⟨by dsimp only;omega,by assumption,⟨U,n+8,hs3,by dsimp only;omega⟩,hh3,by dsimp only;omega⟩
   obtain⟨j,A4,g4,e4⟩:=y
   obtain⟨q1,q2,q3,q4,q5⟩:=hF
   dsimp only at q1 q2 q3 q4 q5 ⊢
   refine .q 7 hG ⟨fun hc152 => ?_,fun hc152 => ?_⟩
   ·refine .q 6 hG ?_
    refine .km hG (R5 _ _ _ (by assumption)) .z7 (by rintro _ _ ⟨_,_,_,_,_,_,rfl⟩;exact⟨_,rfl⟩) fun r156 B156 hr156 => ?_
    obtain⟨p156,hp156,hk156,d156,hd156,rfl,hB⟩:=hr156
    cases hB
    refine .q 1 hG fun b13 => ?_
    refine .q 7 hG ?_
    refine .cond (.t a8) (fun hc157 => ?_) (fun hc157 => ?_)
    ·refine .q 1 hG ?_
     refine .p (.bS3 j3.l0 j3.l2 j3.l3 a8 Q2 a6G (fun c0 c2 c3=>(⟨c0,0,c2,c3,⟨[]⟩,0⟩:j3)) (fun _ _ _=>a8) a8 a8 a8 a8 (.i a8) (.i a8) (.i a8) ?_)
     refine .q 2 hG ?_
     obtain⟨T4,n4,hs4,hn4⟩:=q3
     have hre:=hs4.restrict (by omega) q4 (p:=⟨4,0,0,3000,⟨[]⟩,0⟩) (by decide) (by decide) (by omega)
     obtain⟨rB,rd,re,rs,rh,rf,rc⟩:=hre
     refine .q 1 hG ?_
     refine .p (.A9 j5.l0 R8 a8 (.t a8) (.p (.ldF (fun x=>x.A) y9 (.t a8) .z6 (fun _=>a8) (.p (.S4 S7 (.t a8) .z1 (.p (.S4 Q2 (.t a8) .z (.p (.o8 hG (as3 (a5R _ _ _ (by omega)) re) (.cons (.t a8) (.cons (.t a8) (.cons (.t a8) .nil))) (.mv a8 (.p (.O3 (.t a8) (.p (.O4 (.t a8) (.p (.O5 (.t a8) (.p (.A9 j5.l0 R8 a8 (.t a8) (.n (.stF (fun y x => { x with A:=y }) y9 (.t a8) (.t a8) .z6 (fun _ _=>a8) (.n (.R6 S7 (.t a8) (.t a8) .z1 (.drop ?_)))))))))))))))))))))))
     refine .q 3 hG ?_
     refine .sb (by omega) (by omega) ?_
     refine .q 2 hG ?_
     refine⟨(j - 1,rB,rd,_),.cons (congrArg (fun q=>some (AV.v q)) (by dsimp only;omega)) (.c2 rfl rfl (.c2 rfl rfl (.c2 rfl rfl (.nil _)))),rfl,?_,by dsimp only;omega⟩
     exact⟨by dsimp only;omega,by assumption,⟨T4,n4+1,rs,by dsimp only;omega⟩,rh,by dsimp only;omega⟩
    ·refine .q 1 hG ?_
     obtain⟨T4,n4,hs4,hn4⟩:=q3
     have hre:=hs4.restrict (by omega) q4 (p:=p156) hp156 (hk156 rfl) (by omega)
     obtain⟨rB,rd,re,rs,rh,rf,rc⟩:=hre
     refine .q 1 hG ?_
     refine .p (.A9 j5.l0 R8 a8 (.t a8) (.p (.ldF (fun x=>x.A) y9 (.t a8) .z6 (fun _=>a8) (.p (.S4 S7 (.t a8) .z1 (.p (.S4 Q2 (.t a8) .z (.p (.o8 hG (as3 (a5R _ _ _ (by omega)) re) (.cons (.t a8) (.cons (.t a8) (.cons (.t a8) .nil))) (.mv a8 (.p (.O3 (.t a8) (.p (.O4 (.t a8) (.p (.O5 (.t a8) (.p (.A9 j5.l0 R8 a8 (.t a8) (.n (.stF (fun y x => { x with A:=y }) y9 (.t a8) (.t a8) .z6 (fun _ _=>a8) (.n (.R6 S7 (.t a8) (.t a8) .z1 (.drop ?_)))))))))))))))))))))))
     refine .q 3 hG ?_
     refine .sb (by omega) (by omega) ?_
     refine .q 2 hG ?_
     refine⟨(j - 1,rB,rd,_),.cons (congrArg (fun q=>some (AV.v q)) (by dsimp only;omega)) (.c2 rfl rfl (.c2 rfl rfl (.c2 rfl rfl (.nil _)))),rfl,?_,by dsimp only;omega⟩
     exact⟨by dsimp only;omega,by assumption,⟨T4,n4+1,rs,by dsimp only;omega⟩,rh,by dsimp only;omega⟩
   ·refine .q 1 hG ?_
    obtain⟨T4,n4,hs4,hn4⟩:=q3
    have hgl:s.L7.length≤6:=(by have:=hs4.ngr;rw [List.length_append] at this;omega)
    have hsc:a7A A4 ⟨2,kt2⟩ P2 (s.L7 ++ [g4]) (5 - (i - 1)):=(by rw [show 5 - (i - 1)=5 - i+1 by omega];exact⟨⟨T4,n4,hs4,by omega⟩,q4⟩)
    refine .q 1 hG ?_
    refine .p (.A9 j5.l4 b3h a8 (.t a8) (.p (.ldR (fun x=>x.L7) c1D (.t a8) .z5 (fun _=>a8) ?_)))
    refine .q 1 hG ?_
    refine .bs a8 (by decide) fun b172 => .h (.append c4O (.inl ⟨_,underlying44⟩) a8 .z5 (.own a8 .z) (by simp<;>omega) (by simp<;>omega) (fun w173 => .p (.A9 j5.l4 b3h a8 (.t a8) (.n (.stF (fun y x => { x with L7:=y }) c1D (.t a8) (.b3C a8 .z5) .z6 (fun _ _=>a8) ?_)))) a8)
    refine .drop (.drop (.drop ?_))
    refine .q 3 hG ?_
    refine .sb (by omega) (by omega) ?_
    refine .q 2 hG ?_
    refine⟨(i - 1,⟨A4,s.Ring,s.C,P2,s.L7 ++ [g4],s.Request,s.G0,s.Minute⟩,w173,_),.cons (congrArg (fun q=>some (AV.v q)) (by dsimp only;omega)) (.c2 rfl rfl (.c2 rfl rfl (.nil _))),rfl,?_,by dsimp only;omega⟩
    exact⟨by dsimp only;omega,by assumption,hsc,f4,f5,f6,f7,f8⟩
 ·refine .q 2 hG ?_
  refine .u0 hC .z2 (.a3m .z3 (fun n0 I L hr cs hc=>b6N hc (u4.fz .z2 hr)) (.conv 5 (.ln (ptr b5 0) (j9.id (α:=Scn))) a8 (fun _ _ _ _ _ h=>h) ?_))
  refine .q 5 hG ?_
  refine⟨_,.r1 a8 (.cell b8c a8 .z4),?_⟩
  exact⟨5,s,⟨2,kt2⟩,5 - i,⟨f3,by omega,rfl,f4,by rw [f6];exact hrq,f7⟩,_,f2,rfl,rfl⟩
structure m8 where
 Request:u3
 D3:Int
 A6:Int
 j8:V3
 Proof:(I8 32 UInt8)
 j4:V3
def m8.f (x:m8):u3×Int×Int×V3×(I8 32 UInt8)×V3×Unit:=(x.Request,x.D3,x.A6,x.j8,x.Proof,x.j4,())
instance:Inhabited m8:=⟨⟨default,default,default,default,default,default⟩⟩
instance:o7 m8:=o7.via m8.f
instance:H4 m8:=H4.via m8.f rfl
def m8.l0:j9 m8 u3:=j9.via m8.f j9.fst (fun x=>x.Request) (fun y x => { x with Request:=y }) (fun _=>rfl) (fun _ _=>rfl)
def m8.l1:j9 m8 Int:=j9.via m8.f (j9.snd.comp j9.fst) (fun x=>x.D3) (fun y x => { x with D3:=y }) (fun _=>rfl) (fun _ _=>rfl)
def m8.l2:j9 m8 Int:=j9.via m8.f (j9.snd.comp (j9.snd.comp j9.fst)) (fun x=>x.A6) (fun y x => { x with A6:=y }) (fun _=>rfl) (fun _ _=>rfl)
def m8.l3:j9 m8 V3:=j9.via m8.f (j9.snd.comp (j9.snd.comp (j9.snd.comp j9.fst))) (fun x=>x.j8) (fun y x => { x with j8:=y }) (fun _=>rfl) (fun _ _=>rfl)
def m8.l4:j9 m8 (I8 32 UInt8):=j9.via m8.f (j9.snd.comp (j9.snd.comp (j9.snd.comp (j9.snd.comp j9.fst)))) (fun x=>x.Proof) (fun y x => { x with Proof:=y }) (fun _=>rfl) (fun _ _=>rfl)
def m8.l5:j9 m8 V3:=j9.via m8.f (j9.snd.comp (j9.snd.comp (j9.snd.comp (j9.snd.comp (j9.snd.comp j9.fst))))) (fun x=>x.j4) (fun y x => { x with j4:=y }) (fun _=>rfl) (fun _ _=>rfl)
theorem a4b:G2 prog 24 V3 := .ok (by kernel_rfl)
theorem a3H:G2 prog 27 V3 := .ok (by kernel_rfl)
theorem b5G:G2 prog 29 m8 := .ok (by kernel_rfl)
def Y2 (b:P9) (uc ud:Value):m8:=⟨b.Request,b.D3,b.A6,⟨uc⟩,b.Proof,⟨ud⟩⟩
theorem a64 {b:P9} {uc ud:Value} {I:Im} {cs:List Value} (h:o7.rep I (Y2 b uc ud) cs) (hc:E1 I (.v b.j8) uc) (hd:E1 I (.v b.j4) ud):o7.rep I b cs:=by
 obtain⟨c1,r1,rfl,h1,c2,r2,rfl,h2,c3,r3,rfl,h3,c4,r4,rfl,⟨rfl,_⟩,c5,r5,rfl,h5,c6,r6,rfl,⟨rfl,_⟩,h6⟩:=h
 obtain⟨_,⟨v,rfl,h7⟩,rfl⟩:=hc
 obtain⟨_,⟨v',rfl,h8⟩,rfl⟩:=hd
 exact⟨c1,_,a8,h1,c2,_,a8,h2,c3,_,a8,h3,_,_,a8,⟨_,a8,h7⟩,c5,_,a8,h5,_,_,a8,⟨_,a8,h8⟩,h6⟩
theorem c0W {b:P9} {uc ud:Value} {I:Im} {u:Value} (h:E1 I (.v (Y2 b uc ud)) u) (hc:E1 I (.v b.j8) uc) (hd:E1 I (.v b.j4) ud):E1 I (.v b) u:=by
 obtain⟨cs,h1,h2⟩:=h
 exact⟨cs,a64 h1 hc hd,h2⟩
theorem a38 {α β γ:Type} [Inhabited β] [Inhabited γ] (r:C9×α×Int) (f:C9→α→C9×β×Int) (g:C9→β→C9×γ×Int):a0U (a0U r f) g=a0U r fun b x=>a0U (f b x) g:=by
 by_cases h:r.2.2=0
 ·rw [F6 h,F6 h]
 ·rw [Q1 h,Q1 h,Q1 (r:=(default,default,r.2.2)) h]
theorem a8P (leaf:Tag) (r:Rq) (d:Dis):∀ (l:List Dis) (a:C9),a2F leaf r a (l ++ [d])=a0U (a2F leaf r a l) fun b y=>a0U (a2E b d leaf r) fun c x=>(c,y ++ [x],0)
 | [],a=>by
  rw [show a2F leaf r a []=(a,[],0) from rfl,F6 (r:=(a,([]:List Bnd),(0:Int))) rfl];rfl
 | e::l,a=>by
  show a0U (a2E a e leaf r) (fun b x=>a0U (a2F leaf r b (l ++ [d])) fun c y=>(c,x::y,0))=a0U (a0U (a2E a e leaf r) fun b x=>a0U (a2F leaf r b l) fun c y=>(c,x::y,0)) _
  rw [a38]
  refine congrArg _ (funext fun b=>funext fun x => ?_)
  rw [a8P leaf r d l,a38,a38]
  refine congrArg _ (funext fun c=>funext fun y => ?_)
  rw [F6 (r:=(c,x::y,(0:Int))) rfl,a38];rfl
structure a6t (leaf:Tag) (r:Rq) (a:C9) (l:List Dis):Prop where
 ok:∀ i,i≤l.length→(a2F leaf r a (l.take i)).2.2=0
def bA (leaf:Tag) (r:Rq) (a:C9) (l:List Dis) (i:Nat):C9:=(a2F leaf r a (l.take i)).1
def bY (leaf:Tag) (r:Rq) (a:C9) (l:List Dis) (i:Nat):List Bnd:=(a2F leaf r a (l.take i)).2.1
theorem a6t.step {leaf:Tag} {r:Rq} {a:C9} {l:List Dis} (h:a6t leaf r a l) {i:Nat} (hi:i < l.length):∃ y,a2E (bA leaf r a l i) l[i] leaf r=(bA leaf r a l (i+1),y,0)∧bY leaf r a l (i+1)=bY leaf r a l i ++ [y]:=by
 have h1:=h.ok i (by omega)
 have h2:=h.ok (i+1) hi
 unfold bA bY
 rw [List.take_succ_eq_append_getElem hi,a8P,F6 h1] at h2 ⊢
 by_cases h3:(a2E (a2F leaf r a (l.take i)).1 l[i] leaf r).2.2=0
 ·rw [F6 h3]
  exact⟨_,Prod.ext a8 (Prod.ext a8 h3),a8⟩
 ·rw [Q1 h3] at h2;exact absurd h2 h3
theorem b9g {leaf:Tag} {r:Rq} {a:C9} {l:List Dis} (h:a6t leaf r a l):∀ i,i≤l.length→(bY leaf r a l i).length=i
 | 0,_=>rfl
 | i+1,hi=>by
  obtain⟨y,_,e⟩:=h.step (show i < l.length by omega)
  rw [e,List.length_append,b9g h i (by omega)];rfl
abbrev bd0 (d:Dis):Bnd:=⟨d.l9,d.l8,default⟩
theorem c0X {α β:Type} (f:α→β) (l:List α) (k:Nat) (h:k < l.length):(l.take k).map f ++ [f l[k]]=(l.take (k+1)).map f:=by
 rw [List.take_succ_eq_append_getElem h,List.map_append];rfl
theorem b9h {Y:List Bnd} {l:List Dis} {i:Nat} (y:Bnd) (hY:Y.length=i) (h:i < l.length):(Y++(l.drop i).map bd0).set i y=(Y ++ [y])++(l.drop (i+1)).map bd0:=by
 rw [List.drop_eq_getElem_cons h,List.map_cons,List.set_append_right _ _ (by omega),show i - Y.length=0 by omega,List.set_cons_zero,List.append_assoc];rfl
theorem b6P (a : C9) (p : Pass) (l : List Dis) (r : Rq) (hl : p.j8.length ≤ 1000000) (hl2 : l.length ≤ 1000000) {b : C9} {t : Tag} (h0 : K7 (b8v p l r) = 0) (h1 : G9 a p.Tag (a2X r) = (b, t, 0)) (h2 : a6t p.Tag r b l) (hr : U5 r = true) :
    p4 gl prog 29 [.v a,.v p,.v l,.v r] (fun x=>x = .t3 (.v (bA p.Tag r b l l.length)) (.v (⟨r,p.D3,p.A6,p.j8,t,bY p.Tag r b l l.length⟩:P9)) (.v (0:Int))):=by
  refine p4.jn func29 (by kernel_rfl) 101 rfl fun C hC hG => ?_
  refine .q 3 hG fun b4 => ?_
  refine .q 1 hG fun b5 => ?_
  refine .q 1 hG fun b7 => ?_
  refine .q 1 hG fun b8 => ?_
  refine .q 1 hG fun b9 => ?_
  refine .q 11 hG ?_
  refine .name 23 a8 fun w23=>(.p (.bS4 m8.l0 m8.l1 m8.l2 m8.l3 a8 b5G c4k (fun c0 c1 c2 c3=>(⟨c0,c1,c2,c3,default,default⟩:m8)) (fun _ _ _ _=>a8) a8 a8 a8 a8 a8 (.t a8) (.t a8) (.t a8) (.vR a8 .z) (.h (.alloc b5G fun b11 => .n (.R6 b5G (.t a8) (.t a8) .z (.a0H 88 Bnd ?_))))))
  refine .q 3 hG ?_
  refine .T3 2 a8 fun hl2' => ?_
  refine .q 4 hG ?_
  refine .D8 (α:=Nat×Value) [(2,_),(4,_),(5,_),(7,_),(8,_),(9,_),(11,_)] (fun x R=>(12,.v (x.1:Int))::R) (fun x => [(true,.own 88 x.2 ((l.take x.1).map bd0)),(true,.ob (ptr b11 0) (Y2 ⟨r,p.D3,p.A6,p.j8,default,[]⟩ w23 x.2)),(true,.fz w23 (.v p.j8)),(true,.ob (ptr b9 0) (default:P9)),(true,.ob (ptr b8 0) (default:C9)),(true,.ob (ptr b7 0) r),(true,.ob (ptr b5 0) p),(true,.ob (ptr b4 0) a)]) (fun x=>x.1≤l.length) (fun x=>l.length - x.1) ((0,.slice none 0 0)) (.c2 a8 a8 (.c2 a8 a8 (.c2 a8 a8 (.cons a8 (.nil _))))) ?_ (.c2 a8 a8 (.c2 a8 a8 (.c2 a8 a8 (.c2 a8 a8 (.nil _))))) (a8) fun x hF => ?_
  · simp
  obtain⟨i,gu⟩:=x
  dsimp only at hF ⊢
  refine .q 9 hG ⟨fun hc28 => ?_,fun hc28 => ?_⟩
  · refine .q 3 hG ?_
    refine .D7 [j0,j1,j1,j1,j1,j1,j1,j1] (by kernel_rfl) 16 [[],[(31,0)],[],[],[(33,2),(34,3)],[(35,4)],[(36,5)],[],[],[(38,7),(39,8)],[(40,9)],[(41,10)],[(37,6),(42,11)],[(43,12)],[(32,1),(44,13)],[]] [1,14] a8 (by kernel_rfl) a8 (by kernel_rfl) (by decide) ?_
    refine⟨_,fun H=>j6.A9 m8.l5 Z0 a8 (.t a8) a8,?_⟩
    refine .inl ?_
    refine⟨_,fun H=>j6.move (.t a8) a8,?_⟩
    refine⟨_,fun H=>j6.move (.t a8) a8,?_⟩
    refine⟨_,fun H=>j6.idx S7 underlying44 (.t a8) (.t a8) (by omega) (by omega) a8,?_⟩
    refine⟨_,fun H=>j6.A7 p6.l0 (fun x=>x.l9) b4F a8 (fun _=>a8) (.t a8) a8,?_⟩
    refine⟨_,fun H=>j6.G6 a3y (.t a8) a8,?_⟩
    refine⟨_,fun H=>j6.move (.t a8) a8,?_⟩
    refine⟨_,fun H=>j6.move (.t a8) a8,?_⟩
    refine⟨_,fun H=>j6.idx S7 underlying44 (.t a8) (.t a8) (by omega) (by omega) a8,?_⟩
    refine⟨_,fun H=>j6.A7 p6.l1 (fun x=>x.l8) a55 a8 (fun _=>a8) (.t a8) a8,?_⟩
    refine⟨_,fun H=>j6.G6 a7I (.t a8) a8,?_⟩
    refine⟨_,fun H=>j6.bS2 p9.l0 p9.l1 a8 a05 b5W (fun c0 c1=>(⟨c0,c1,default⟩:p9)) (fun _ _=>a8) a8 a8 a8 (.t a8) (.t a8) a8,?_⟩
    refine⟨_,fun H=>j6.E7 (α:=p9) a05 underlying27 (.cons (.t a8) .nil) a8 (by decide) a8,?_⟩
    refine .inl ?_
    refine⟨_,fun H=>j6.A9 m8.l5 Z0 a8 (.t a8) a8,?_⟩
    refine⟨⟨([],j2 [_,c8,c8,c8,c8,c8,c8,c8]),a8⟩,?_⟩
    refine A0.ofP (j6.ldR (fun x=>x.j4) a3H (.t rfl) .z1 (fun _=>rfl) ?_)
    refine⟨⟨([],j2 [_,c8,c8,c8,c8,c8,c8,c8]),a8⟩,?_⟩
    refine A0.append c2h (.inl ⟨_,underlying27⟩) rfl .z (.v (.c rfl)) (by simp<;>omega) (by simp<;>omega) (fun w45 => ?_) rfl
    refine⟨⟨([],j2 [_,c8,c8,c8,c8,c8,c8,c8]),a8⟩,?_⟩
    show D0 _ _ _ _ _ [_] ((46,_)::(45,_)::(44,_)::(43,_)::(42,_)::(41,_)::(40,_)::(39,_)::(38,_)::(37,_)::(36,_)::(35,_)::(34,_)::(33,_)::(32,_)::(31,_)::_) _
    refine .n (.stF (fun y x => { x with j4:=y }) a3H (.t a8) (.b3C a8 .z) .z1 (fun _ _=>a8) ?_)
    refine .q 3 hG ?_
    refine .ad (by omega) (by omega) ?_
    refine .q 2 hG ?_
    refine⟨(i+1,w45),.c2 rfl rfl (.c2 rfl rfl (.c2 rfl rfl (.c2 rfl rfl (.nil _)))),congrArg (fun q => [(true,D6.own _ _ q),_,_,_,_,_,_,_]) (c0X bd0 l i (by omega)),?_,by dsimp only;omega⟩
    dsimp only;omega
  · refine .q 3 hG ?_
    obtain rfl:i=l.length:=(by omega)
    rw [List.take_length]
    refine .q 1 hG ?_
    refine .p (.S4 b5G (.t a8) .z1 (.p (.c1i hG (b2A (b8v p l r) hl) (.cons (.st a8 .z (fun J n0 L v hr hx hd=>c0W (b:=b8v p l r) hx (u4.fz .z2 hr) hd)) .nil) .v ?_)))
    refine .q 7 hG ?_
    refine .K8 (.t a8) (fun hc50=>(by exfalso;exact hc50 h0)) (fun hc50 => ?_)
    refine .q 2 hG ?_
    refine .a0O [[j1,j1,j1,j1,j1,j1,j1,j1],[j1,j1,j1,j1,j1,j1,j1,j1],[j1,j1,j1,j1,j1,j1,j1,j0],[j1,j1,j1,j1,j1,j1,j1,j0]] [[j1,j1,j1,j1,j1,j1,j1,j1],[j1,j1,j1,j1,j1,j1,j1,j1],[j1,j1,j1,j1,j1,j1,j1,j1],[j1,j1,j1,j1,j1,j1,j1,j1],[j1,j1,j1,j1,j1,j1,j1,j1],[j1,j1,j1,j1,j1,j1,j1,j1],[j1,j1,j1,j1,j1,j1,j1,j1],[j1,j1,j1,j1,j1,j1,j1,j1],[j1,j1,j1,j1,j1,j1,j1,j0],[j1,j1,j1,j1,j1,j1,j1,j0],[],[],[],[j1,j1,j1,j1,j1,j1,j1,j0]] [] [] 3 (by kernel_rfl) 14 [[],[],[(56,1)],[],[(58,3)],[(55,0),(57,2),(59,4)],[(60,5)],[(54,6)],[(54,6)],[(54,6)],[],[(61,7)],[(14,10),(62,8)],[(63,9)]] [10,11,12] rfl (by kernel_rfl) rfl (by kernel_rfl) rfl (by decide) (by simp) (fun p hp=>by cases hp) (by kernel_rfl) rfl ?_
    refine⟨_,fun H=>j6.S4 y9 (.t a8) (u4.app .z7) a8,?_⟩
    refine⟨_,fun H=>j6.A9 x6.l3 a6F a8 (.t a8) a8,?_⟩
    refine⟨_,fun H=>j6.ldF (fun x=>x.Tag) A5 (.t a8) (u4.app .z6) (fun _=>a8) a8,?_⟩
    refine⟨_,fun H=>j6.S4 a8v (.t a8) (u4.app .z5) a8,?_⟩
    refine⟨_,fun H=>j6.o8 hG (b8x _ hr) (.cons (.t a8) .nil) a8,?_⟩
    refine⟨_,fun H=>j6.o8 hG (as3 (a5G _ _ _) h1) (.cons (.t a8) (.cons (.t a8) (.cons (.t a8) .nil))) a8,?_⟩
    refine⟨_,fun H=>j6.move (.t a8) a8,?_⟩
    refine⟨_,fun H=>j6.O3 (.t a8) a8,?_⟩
    refine⟨_,fun H=>j6.O4 (.t a8) a8,?_⟩
    refine⟨_,fun H=>j6.O5 (.t a8) a8,?_⟩
    refine .inl (.inl (.inl ?_))
    refine⟨_,fun H=>j6.assign (.t a8) a8,?_⟩
    refine⟨a8,?_⟩
    refine⟨⟨j2 [c8,c8,c8,c8,c8,c8,c8,c8],a8⟩,fun Ys9 => ?_⟩
    refine A0.alloc A5 fun b14 => ?_
    refine⟨[_],_,a8,?_⟩
    refine⟨⟨j2 [c8,c8,c8,c8,c8,c8,c8,c8],a8⟩,fun Ys9 => ?_⟩
    refine A0.R6 y9 (.t rfl) (.t rfl) (.s (u4.app (u4.app .z7))) ?_
    refine⟨[_],_,a8,?_⟩
    refine⟨⟨j2 [c8,c8,c8,c8,c8,c8,c8,_],a8⟩,fun Ys9 => ?_⟩
    refine A0.R6 A5 (.t rfl) (.t rfl) .z ?_
    refine⟨[_],_,a8,?_⟩
    refine⟨⟨j2 [c8,c8,c8,c8,c8,c8,c8,_],a8⟩,fun ws9 => ?_⟩
    refine⟨⟨j2 [c8,c8,c8,c8,c8,c8,c8,_],a8⟩,fun _ => ?_⟩
    show D0 _ _ _ _ _ [] ((15,_)::(14,_)::(63,_)::(62,_)::(61,_)::(54,_)::(60,_)::(59,_)::(58,_)::(57,_)::(56,_)::(55,_)::_) _
    refine .q 7 hG ?_
    refine .K8 (.t a8) (fun hc65=>(by exfalso;exact hc65 rfl)) (fun hc65 => ?_)
    refine .q 3 hG ?_
    refine .p (.S4 A5 (.t a8) .z (.p (.A9 m8.l4 a8c a8 (.t a8) (.n (.stF (fun y x => { x with Proof:=y }) A5 (.t a8) (.t a8) .z2 (fun _ _=>a8) ?_)))))
    refine .q 4 hG ?_
    refine .p (.assign (.i a8) ?_)
    refine .q 2 hG ?_
    refine .D8 (α:=Nat) [(2,_),(4,_),(5,_),(7,_),(8,_),(9,_),(11,_)] (fun k R=>(16,.v (k:Int))::R) (fun k => [(true,.ob (ptr b14 0) t),(true,.own 88 gu (bY p.Tag r b l k++(l.drop k).map bd0)),(true,.ob (ptr b11 0) (Y2 ⟨r,p.D3,p.A6,p.j8,t,[]⟩ w23 gu)),(true,.fz w23 (.v p.j8)),(true,.ob (ptr b9 0) (default:P9)),(true,.ob (ptr b8 0) (default:C9)),(true,.ob (ptr b7 0) r),(true,.ob (ptr b5 0) p),(true,.ob (ptr b4 0) (bA p.Tag r b l k))]) (fun k=>k≤l.length) (fun k=>l.length - k) (0) (.c2 a8 a8 (.c2 a8 a8 (.c2 a8 a8 (.cons a8 (.nil _))))) ?_ (.c2 a8 a8 (.c2 a8 a8 (.c2 a8 a8 (.c2 a8 a8 (.nil _))))) (a8) fun k hF => ?_
    · simp
    refine .q 9 hG ⟨fun hc74 => ?_,fun hc74 => ?_⟩
    · refine .q 4 hG ?_
      have hYl:=b9g h2 k (by omega)
      have hst:=h2.step (i:=k) (by omega)
      obtain⟨y,hbe,hye⟩:=hst
      have hDl:(bY p.Tag r b l k++(l.drop k).map bd0).length=l.length:=(by rw [List.length_append,hYl,List.length_map,List.length_drop];omega)
      have hse:(bY p.Tag r b l k++(l.drop k).map bd0).set k y=bY p.Tag r b l (k+1)++(l.drop (k+1)).map bd0:=(by rw [b9h y hYl (by omega),hye])
      refine .a0O [[j1,j1,j1,j1,j1,j1,j1,j1,j1],[j1,j1,j1,j1,j1,j1,j1,j1,j0],[j1,j0,j1,j1,j1,j1,j1,j1,j0]] [[j1,j1,j1,j1,j1,j1,j1,j1,j0],[j1,j1,j1,j1,j1,j1,j1,j1,j0],[j1,j1,j1,j1,j1,j1,j1,j1,j0],[j1,j1,j1,j1,j1,j1,j1,j1,j1],[j1,j1,j1,j1,j1,j1,j1,j1,j1],[j1,j1,j1,j1,j1,j1,j1,j1,j1],[j1,j1,j1,j1,j1,j1,j1,j1,j1],[j1,j1,j1,j1,j1,j1,j1,j1,j1],[j1,j1,j1,j1,j1,j1,j1,j1,j1],[j1,j1,j1,j1,j1,j1,j1,j1,j1],[j1,j1,j1,j1,j1,j1,j1,j1,j1],[j1,j1,j1,j1,j1,j1,j1,j1,j1],[j1,j1,j1,j1,j1,j1,j1,j1,j1],[j1,j1,j1,j1,j1,j1,j1,j1,j1],[j1,j1,j1,j1,j1,j1,j1,j1,j0],[j1,j0,j1,j1,j1,j1,j1,j1,j0],[],[j1,j1,j1,j1,j1,j1,j1,j1,j0],[],[j1,j0,j1,j1,j1,j1,j1,j1,j0]] [] [] 2 (by kernel_rfl) 20 [[],[(78,0)],[],[],[],[],[(82,4),(83,5)],[(84,6)],[],[(86,8)],[],[(81,3),(85,7),(87,9),(88,10)],[(89,11)],[(77,12)],[(77,12)],[(77,12)],[(90,13)],[(79,1),(80,2)],[(93,17),(91,14)],[(92,15)]] [16,18] rfl (by kernel_rfl) rfl (by kernel_rfl) rfl (by decide) (by simp) (fun p hp=>by cases hp) (by kernel_rfl) rfl ?_
      refine⟨_,fun H=>j6.A9 m8.l5 Z0 a8 (.t a8) a8,?_⟩
      refine⟨_,fun H=>j6.ldR (fun x=>x.j4) a3H (.t a8) (u4.app .z2) (fun _=>a8) a8,?_⟩
      refine⟨_,fun H=>j6.move (.t a8) a8,?_⟩
      refine⟨_,fun H=>j6.S4 y9 (.t a8) (u4.app .z8) a8,?_⟩
      refine⟨_,fun H=>j6.move (.t a8) a8,?_⟩
      refine⟨_,fun H=>j6.move (.t a8) a8,?_⟩
      refine⟨_,fun H=>j6.idx S7 underlying44 (.t a8) (.t a8) (by omega) (by omega) a8,?_⟩
      refine⟨_,fun H=>j6.G6 S7 (.t a8) a8,?_⟩
      refine⟨_,fun H=>j6.A9 x6.l3 a6F a8 (.t a8) a8,?_⟩
      refine⟨_,fun H=>j6.ldF (fun x=>x.Tag) A5 (.t a8) (u4.app .z7) (fun _=>a8) a8,?_⟩
      refine⟨_,fun H=>j6.S4 a8v (.t a8) (u4.app .z6) a8,?_⟩
      refine⟨_,fun H=>j6.o8 hG (as3 (c2u _ _ _ _) hbe) (.cons (.t a8) (.cons (.t a8) (.cons (.t a8) (.cons (.t a8) .nil)))) a8,?_⟩
      refine⟨_,fun H=>j6.move (.t a8) a8,?_⟩
      refine⟨_,fun H=>j6.O3 (.t a8) a8,?_⟩
      refine⟨_,fun H=>j6.O4 (.t a8) a8,?_⟩
      refine⟨_,fun H=>j6.O5 (.t a8) a8,?_⟩
      refine .inl ?_
      refine⟨_,fun H=>j6.V2 a05 underlying27 a8 (u4.app .z1) (.t a8) (by omega) (by omega) a8,?_⟩
      refine .inl ?_
      refine⟨_,fun H=>j6.assign (.t a8) a8,?_⟩
      refine⟨a8,?_⟩
      refine⟨⟨j2 [c8,c8,c8,c8,c8,c8,c8,c8,c8],a8⟩,fun Ys16 => ?_⟩
      refine A0.R6 y9 (.t rfl) (.t rfl) (u4.app (u4.app .z8)) ?_
      refine⟨[],_,a8,?_⟩
      refine⟨⟨j2 [c8,c8,c8,c8,c8,c8,c8,c8,_],a8⟩,fun Ys16 => ?_⟩
      refine A0.b0m a05 (.t rfl) (.t rfl) (u4.app (u4.app .z1)) (by omega) ?_
      refine⟨[],_,a8,?_⟩
      refine⟨⟨j2 [c8,_,c8,c8,c8,c8,c8,c8,_],a8⟩,fun ws16 => ?_⟩
      refine⟨⟨j2 [c8,_,c8,c8,c8,c8,c8,c8,_],a8⟩,fun _ => ?_⟩
      show D0 _ _ _ _ _ [] ((15,_)::(93,_)::(92,_)::(91,_)::(90,_)::(77,_)::(89,_)::(88,_)::(87,_)::(86,_)::(85,_)::(84,_)::(83,_)::(82,_)::(81,_)::(80,_)::(79,_)::(78,_)::_) _
      refine .q 6 hG ?_
      refine .K8 (.t a8) (fun hc95=>(by exfalso;exact hc95 rfl)) (fun hc95 => ?_)
      refine .q 3 hG ?_
      refine .ad (by omega) (by omega) ?_
      refine .q 2 hG ?_
      refine⟨k+1,.c2 rfl rfl (.c2 rfl rfl (.c2 rfl rfl (.c2 rfl rfl (.nil _)))),congrArg (fun q => [_,(true,D6.own _ _ q),_,_,_,_,_,_,_]) hse,?_,by omega⟩
      omega
    · refine .q 2 hG ?_
      obtain rfl:k=l.length:=(by omega)
      rw [List.drop_length,List.map_nil,List.append_nil]
      refine .u0 hC .z1 (.a3m .z2 (fun n0 I L hr cs hc=>a64 (b:=⟨r,p.D3,p.A6,p.j8,t,bY p.Tag r b l l.length⟩) hc (u4.fz .z3 hr) (u4.fz .z1 hr)) (.conv 11 (.ln (ptr b11 0) (j9.id (α:=P9))) a8 (fun _ _ _ _ _ h=>h) (.D7 [j1,j1,j1,j1,j0,j0,j1,j1,j1] (by kernel_rfl) 5 [[],[],[(99,0)],[(100,1)],[]] [2,3] a8 (by kernel_rfl) a8 (by kernel_rfl) (by decide) ?_)))
      refine⟨_,fun H=>j6.S4 y9 (.t a8) (u4.app .z8) a8,?_⟩
      refine⟨_,fun H=>j6.S4 U3 (.t a8) (u4.app .z2) a8,?_⟩
      refine .inl (.inl ?_)
      refine⟨_,fun H=>j6.assign (.i a8) a8,?_⟩
      refine⟨⟨([],j2 [c8,c8,c8,c8,_,_,c8,c8,c8]),a8⟩,?_⟩
      refine A0.R6 y9 (.t rfl) (.t rfl) .z5 ?_
      refine⟨⟨([],j2 [c8,c8,c8,c8,_,_,c8,c8,c8]),a8⟩,?_⟩
      refine A0.R6 U3 (.t rfl) (.t rfl) .z4 ?_
      refine⟨⟨([],j2 [c8,c8,c8,c8,_,_,c8,c8,c8]),a8⟩,?_⟩
      show D0 _ _ _ _ _ [] ((10,_)::(100,_)::(99,_)::_) _
      refine .q 2 hG ?_
      refine⟨_,.r3 a8 (.cell y9 a8 .z5) (.cell U3 a8 .z4) (.tmp a8),?_⟩
      rfl
theorem c2G (e:Epo) (b:P9):p4 gl prog 37 [.v e,.p b] (fun r=>r = .v (decide (e.Number=b.D3))):=by
 refine p4.jn func37 (by kernel_rfl) 9 rfl fun C hC hG => ?_
 refine .q 3 hG fun b2 => ?_
 refine .q 12 hG ?_
 refine .e1 a8 a8 ?_
 rfl
theorem b4x {c:Cav} (h:I5 c=true):c.l9.length≤1024:=by
 cases h3:c.Q9 with
 | false=>rw [(a2W h h3).2.2.1];decide
 | true=>exact(a2V h h3).2.2.2.2.1
theorem c0Y {p:Tag×Bool} {t:Tag} {e:Int} (h:(!(p.2&&decide (p.1=t))||decide (e≠0))=true):p≠(t,true)∨e≠0:=by
 rcases Bool.or_eq_true_iff.1 h with h|h
 ·exact Or.inl (b5C (b4p h))
 ·exact Or.inr (of_decide_eq_true h)
theorem b9i {p:Tag×Bool} {t:Tag} {e:Int} (h:(!(p.2&&decide (p.1=t))||decide (e≠0))=false):p=(t,true)∧e=0:=by
 obtain⟨h1,h2⟩:=Bool.or_eq_false_iff.1 h
 exact⟨b5B (b4q h1),by simpa using h2⟩
theorem b9j {a:C9} {b:P9} {T:List Tag} {i:Nat} (h:i < b.j8.length) (h3:b.j8[i].Q9=false):thE a b T i=0:=by
 unfold thE;rw [a47 h,if_neg (by rw [h3];decide)]
theorem b9k {a:C9} {b:P9} {T:List Tag} {i:Nat} (h:i < b.j8.length) (hT:i < T.length) (h3:b.j8[i].Q9=true):thE a b T i=Z8 a b b.j8[i] T[i] (T.getLastD default):=by
 unfold thE;rw [a47 h,a47 hT,if_pos h3]
theorem b9l (a:C9) (g:Ring) (b:P9) (hpl:∀ x∈a.x9,x.Plain.length≤1000000) (hl:b.j8.length≤1000000):p4 gl prog 13 [.v a,.v g,.v b] (fun r=>r = .t2 (.v (a7K a g b).1) (.v (a7K a g b).2)):=by
 refine p4.jn func13 (by kernel_rfl) 111 rfl fun C hC hG => ?_
 refine .q 3 hG fun b3 => ?_
 refine .q 1 hG fun b4 => ?_
 refine .q 1 hG fun b5 => ?_
 refine .q 1 hG fun b6 => ?_
 refine .q 4 hG ?_
 refine .y6 hC .z3 (.L6 3 a8 .z3 (.y6 hC .z2 (.L6 4 a8 .z2 (.y6 hC .z1 (.L6 5 a8 .z1 (.del (.s .z) (.del (.s .z) (.del (.s .z) ?_))))))))
 refine .q 2 hG ?_
 refine .k hG (b5y _ hl) ?_
 refine .q 8 hG ⟨fun hc22 => ?_,fun hc22 => ?_⟩
 ·refine .q 2 hG ?_
  refine .p (.bS0 (α:=y4) a8 a4i b3i ?_)
  refine .q 5 hG ?_
  refine⟨_,.r2 a8 (.cell a4i a8 .z) (.tmp a8),?_⟩
  rw [c2w hc22]
 ·refine .q 2 hG ?_
  have h0:K7 b=0:=Decidable.not_not.1 hc22
  have hb:=a62 h0
  refine .q 3 hG ?_
  refine .p (.b0n hG (fun x=>c2G x _) (.cons (.t a8) .nil) (.p (.o8 hG (b4n _ _) (.cons (.t a8) (.cons (.t a8) .nil)) ?_)))
  refine .q 9 hG ⟨fun hc30 => ?_,fun hc30 => ?_⟩
  ·refine .q 2 hG ?_
   refine .p (.bS0 (α:=y4) a8 a4i b3i ?_)
   refine .q 4 hG ?_
   refine⟨_,.r2 a8 (.cell a4i a8 .z) (.tmp a8),?_⟩
   rw [c3N h0 (b0D (show ¬0≤idx g.Live (fun e=>decide (e.Number=b.D3)) from fun hx=>absurd hc30 (Int.not_lt.2 hx)))]
  ·refine .q 2 hG ?_
   have hi0:0≤idx g.Live (fun e=>decide (e.Number=b.D3)):=Int.not_lt.1 hc30
   have hi1:=b3J hi0
   have he:a34 g b.D3=some g.Live[(idx g.Live (fun e=>decide (e.Number=b.D3))).toNat]:=b0C hi0 (by omega)
   rw [b0O h0 he]
   refine .draw (by kernel_rfl) 16 [[],[],[(34,1)],[],[(35,2),(36,3)],[(37,4)],[],[(39,6)],[],[(41,8)],[(33,0),(38,5),(40,7),(42,9)],[(43,10)],[(32,11)],[(32,11)],[(44,12)],[(45,13)]] a8 (by kernel_rfl) a8 ?_
   refine⟨_,j6.G6 y9 (.t a8) a8,?_⟩
   refine⟨_,j6.A7 C8.l0 (fun x=>x.Live) b3e a8 (fun _=>a8) (.t a8) a8,?_⟩
   refine⟨_,j6.G6 c2g (.t a8) a8,?_⟩
   refine⟨_,j6.move (.t a8) a8,?_⟩
   refine⟨_,j6.idx b1J underlying30 (.t a8) (.t a8) (by omega) (by omega) a8,?_⟩
   refine⟨_,j6.G6 b1J (.t a8) a8,?_⟩
   refine⟨_,j6.A7 u1.l2 (fun x=>x.A6) b3d a8 (fun _=>a8) (.t a8) a8,?_⟩
   refine⟨_,j6.G6 P5 (.t a8) a8,?_⟩
   refine⟨_,j6.A7 u1.l3 (fun x=>x.j8) W0 a8 (fun _=>a8) (.t a8) a8,?_⟩
   refine⟨_,j6.G6 a86 (.t a8) a8,?_⟩
   refine⟨_,j6.o8 hG (c2t _ _ _ _ (by have:=hb.a4I;omega)) (.cons (.t a8) (.cons (.t a8) (.cons (.t a8) (.cons (.t a8) .nil)))) a8,?_⟩
   refine⟨_,j6.move (.t a8) a8,?_⟩
   refine⟨_,j6.a03 (.t a8) a8,?_⟩
   refine⟨_,j6.a04 (.t a8) a8,?_⟩
   refine⟨_,j6.assign (.t a8) a8,?_⟩
   refine⟨_,j6.assign (.t a8) a8,?_⟩
   show D0 _ _ _ _ _ [] ((11,_)::(10,_)::(45,_)::(44,_)::(32,_)::(43,_)::(42,_)::(41,_)::(40,_)::(39,_)::(38,_)::(37,_)::(36,_)::(35,_)::(34,_)::(33,_)::_) _
   refine .q 8 hG ⟨fun hc47 => ?_,fun hc47 => ?_⟩
   ·refine .q 2 hG ?_
    refine .p (.bS0 (α:=y4) a8 a4i b3i ?_)
    refine .q 4 hG ?_
    refine⟨_,.r2 a8 (.cell a4i a8 .z) (.tmp a8),?_⟩
    rw [c3O hc47]
   ·refine .q 2 hG ?_
    obtain⟨T,hw,hT,ht⟩:=b4j (Decidable.not_not.1 hc47)
    rw [b0P ht]
    rw [show X7 a g.Live[(idx g.Live (fun e=>decide (e.Number=b.D3))).toNat] b.A6 b.j8=(T,0) from ht]
    refine .q 4 hG ?_
    refine .sb (by omega) (by simp<;>omega) ?_
    refine .ix (by simp<;>omega) (by omega) ?_
    refine .q 2 hG fun b12 => ?_
    refine .q 3 hG ?_
    rw [b2f (s:=T) (by omega)]
    refine .q 5 hG ?_
    refine .p (.o8 hG (b6w _ _ _) (.cons (.t a8) (.cons (.t a8) (.cons (.t a8) .nil))) ?_)
    refine .q 4 hG fun b13 => ?_
    refine .q 7 hG ?_
    refine .p (.o8 hG (c0A _ _ (by show T.length≤_;have:=hb.a4I;omega)) (.cons (.t rfl) (.cons (.t rfl) .nil)) ?_)
    refine .q 8 hG ?_
    refine .y6 hC .z1 (.L6 12 a8 .z1 (.y6 hC .z (.L6 13 a8 .z (.del .z (.del .z ?_)))))
    refine .q 5 hG ?_
    refine .p (.o8 hG (b5A _ _ _) (.cons (.t a8) (.cons (.t a8) (.cons (.t a8) .nil))) ?_)
    refine .q 6 hG ?_
    refine .cond (.t a8) (fun hc78 => ?_) (fun hc78 => ?_)
    ·refine .q 2 hG ?_
     refine .p (.bS0 (α:=y4) a8 a4i b3i ?_)
     refine .q 4 hG ?_
     refine⟨_,.r2 a8 (.cell a4i a8 .z) (.tmp a8),?_⟩
     rw [if_pos (c0Y (p:=a0B a (T.getLastD default) b.Request) hc78)]
    ·refine .q 3 hG ?_
     obtain⟨hp,hn⟩:=b9i (p:=a0B a (T.getLastD default) b.Request) hc78
     rw [if_neg (by rintro (h|h);exact h hp;exact h hn)]
     refine .q 7 hG ?_
     refine .D8 (α:=Nat) [(3,_),(5,_),(6,_),(10,_),(12,_),(15,_),(81,_),(82,_)] (fun i R=>(83,.v (i:Int))::R) (Function.const _ _) (fun i=>i≤b.j8.length∧a1g (thE a b T) i=0) (fun i=>b.j8.length - i) (0) (.c2 a8 a8 (.c2 a8 a8 (.c2 a8 a8 (.c2 a8 a8 (.nil _))))) ?_ (.c2 a8 a8 (.c2 a8 a8 (.c2 a8 a8 (.c2 a8 a8 (.cons a8 (.nil _)))))) (a8) fun i hF => ?_
     ·exact⟨Nat.zero_le _,a8⟩
     obtain⟨h1,h2⟩:=hF
     refine .q 1 hG ?_
     refine .T3 81 a8 fun hl81 => ?_
     refine .q 5 hG ⟨fun hc84 => ?_,fun hc84 => ?_⟩
     ·refine .q 6 hG ?_
      refine .ix (by omega) (by omega) ?_
      refine .q 2 hG fun b17 => ?_
      refine .q 5 hG ?_
      have hi:i < b.j8.length:=by omega
      refine .y6 hC .z (.L6 17 a8 .z (.del .z ?_))
      refine .q 5 hG ?_
      refine .cond (.t a8) (fun hc90 => ?_) (fun hc90 => ?_)
      ·refine .q 1 hG ?_
       have hth:thE a b T i=0:=b9j hi (b4p hc90)
       refine .q 1 hG ?_
       refine .ad (by omega) (by omega) ?_
       refine .q 2 hG ?_
       refine⟨i+1,.c2 rfl rfl (.c2 rfl rfl (.c2 rfl rfl (.c2 rfl rfl (.cons rfl (.nil _))))),rfl,?_,by omega⟩
       exact⟨by omega,by rw [a25,h2,if_neg (by decide),hth]⟩
      ·refine .q 2 hG ?_
       have h3:b.j8[i].Q9=true:=b4q hc90
       refine .draw (by kernel_rfl) 10 [[],[],[],[],[],[(94,3),(95,4)],[(96,5)],[],[(91,0),(92,1),(93,2),(97,6),(98,7)],[(99,8)]] a8 (by kernel_rfl) a8 ?_
       refine⟨_,j6.G6 y9 (.t a8) a8,?_⟩
       refine⟨_,j6.G6 U3 (.t a8) a8,?_⟩
       refine⟨_,j6.G6 a1v (.t a8) a8,?_⟩
       refine⟨_,j6.move (.t a8) a8,?_⟩
       refine⟨_,j6.move (.t a8) a8,?_⟩
       refine⟨_,j6.idx A5 underlying54 (.t a8) (.t a8) (by omega) (by simp<;>omega) a8,?_⟩
       refine⟨_,j6.G6 A5 (.t a8) a8,?_⟩
       refine⟨_,j6.G6 A5 (.t a8) a8,?_⟩
       refine⟨_,j6.o8 hG (c2C _ _ _ _ _ hpl (b4x (hb.cav _ (List.getElem_mem _)))) (.cons (.t a8) (.cons (.t a8) (.cons (.t a8) (.cons (.t a8) (.cons (.t a8) .nil))))) a8,?_⟩
       refine⟨_,j6.assign (.t a8) a8,?_⟩
       show D0 _ _ _ _ _ [] ((18,_)::(99,_)::(98,_)::(97,_)::(96,_)::(95,_)::(94,_)::(93,_)::(92,_)::(91,_)::_) _
       refine .q 7 hG ⟨fun hc101 => ?_,fun hc101 => ?_⟩
       ·refine .q 2 hG ?_
        refine .p (.bS0 (α:=y4) a8 a4i b3i (.mv a8 (.n (.R6 a4i (.t a8) (.t a8) .z (.ag a8 ?_)))))
        refine .q 2 hG ?_
        refine⟨_,.r2 a8 (.cell a4i a8 .z) (.tmp a8),?_⟩
        have hth:thE a b T i=Z8 a b b.j8[i] T[i] (T.getLastD default):=b9k hi (by omega) h3
        have hne:thE a b T i≠0:=(by rw [hth];exact hc101)
        rw [b6C hi h2 hne,if_pos hne,hth];rfl
       ·refine .q 1 hG ?_
        have hth:thE a b T i=0:=(by rw [b9k hi (by omega) h3];exact Decidable.not_not.1 hc101)
        refine .q 1 hG ?_
        refine .ad (by omega) (by omega) ?_
        refine .q 2 hG ?_
        refine⟨i+1,.c2 rfl rfl (.c2 rfl rfl (.c2 rfl rfl (.c2 rfl rfl (.cons rfl (.nil _))))),rfl,?_,by omega⟩
        exact⟨by omega,by rw [a25,h2,if_neg (by decide),hth]⟩
     ·refine .q 3 hG ?_
      obtain rfl:i=b.j8.length:=by omega
      rw [if_neg (by rw [h2];decide)]
      refine .q 2 hG ?_
      refine .k hG (c0R _) ?_
      refine .q 1 hG ?_
      refine .cond (.t a8) (fun hc106 => ?_) (fun hc106 => ?_)
      ·refine .q 2 hG ?_
       refine .p (.bS0 (α:=y4) a8 a4i b3i (.n (.R6 a4i (.t a8) (.t a8) .z (.p (.assign (.i a8) ?_)))))
       refine .q 2 hG ?_
       refine⟨_,.r2 a8 (.cell a4i a8 .z) (.tmp a8),?_⟩
       rw [if_pos hc106]
      ·refine .q 5 hG ?_
       refine .p (.bS2 y4.l0 y4.l1 a8 a4i b3i (fun c0 c1=>(⟨c0,c1⟩:y4)) (fun _ _=>a8) a8 a8 a8 (.t a8) (.t a8) (.n (.R6 a4i (.t a8) (.t a8) .z (.p (.assign (.i a8) ?_)))))
       refine .q 2 hG ?_
       refine⟨_,.r2 a8 (.cell a4i a8 .z) (.tmp a8),?_⟩
       rw [if_neg (by rw [hc106];decide)]
structure c2H (A:C9) (P:Pass) (G:List Dis) (r:Rq) (b:C9) (t:Tag) (B:C9):Prop where
 chk:K7 (b8v P G r)=0
 mac:G9 A P.Tag (a2X r)=(b,t,0)
 to:a6t P.Tag r b G
 alg:bA P.Tag r b G G.length=B
 dis:bY P.Tag r b G G.length=G.map (bnd B P.Tag r)
theorem a0i.c3V {A : C9} {root : Epo} {P : Pass} {G : List Dis} {T : List Tag} {n k : Nat} (h : a0i A root P G T n k) (hn : n < 1000) (hk : k ≤ 6) (hh : a3F A) {r : Rq} (hr : U5 r = true) :
    ∃ b t B,c2H A P G r b t B∧b0Y B root P G T r t (n+7) k∧P6 A B:=by
  have hg:=h.ngr
  obtain⟨b,t,s⟩:=h.ok.step (by omega) P.Tag (m:=a2X r) (by have:=b9a hr;omega)
  obtain⟨c,q⟩:=s.ok.binds P.Tag hr G (by omega)
  have hc:K7 (b8v P G r)=0:=b0X h hk hr default (fun d=>⟨d.l9,d.l8,default⟩) fun g=>⟨rfl,rfl⟩
  refine⟨b,t,c,⟨hc,s.eq,⟨fun i hi => ?_⟩,?_,?_⟩,⟨h.mac (s.le.trans q.le) (q.ok.le (by omega)) (q.boxes.trans s.boxes),hr,q.le.look s.look,q.looks,fun x hx => ?_⟩,s.le.trans q.le⟩
  · obtain⟨c',q'⟩:=s.ok.binds P.Tag hr (G.take i) (by rw [List.length_take];omega)
    rw [q'.eq]
  · unfold bA;rw [List.take_length,q.eq]
  · unfold bY;rw [List.take_length,q.eq]
  · rcases q.a0n x hx with h'|h'
    · rcases s.a0n x h' with h'|h'
      · exact Or.inl (hh x h')
      · exact Or.inr (Or.inl h')
    · exact Or.inr (Or.inr h')
theorem c2H.c {A:C9} {P:Pass} {G:List Dis} {r:Rq} {b:C9} {t:Tag} {B:C9} (h:c2H A P G r b t B) (hl:P.j8.length≤1000000) (hl2:G.length≤1000000) (hr:U5 r=true):p4 gl prog 29 [.v A,.v P,.v G,.v r] (fun x=>x = .t3 (.v B) (.v (prB B P G r t)) (.v (0:Int))) :=
 (b6P A P G r hl hl2 h.chk h.mac h.to hr).mono fun x hx=>by rw [hx,h.alg,h.dis];rfl
structure c0Z (s:Scn) (b:P9):Prop where
 ex:∃ root T t n k,b0Y s.A root s.Pass s.L7 T s.Request t n k∧n≤61∧k≤5∧root.Number=2∧s.Ring=a2g root 3∧b=prB s.A s.Pass s.L7 s.Request t
 c4X:s.G0=b4w
abbrev scn (w:Value):AV := .ln w (j9.id (α:=Scn))
theorem b9m (w:Value) (s:Scn) (root:Epo) (k:Nat) (h:a7A s.A root s.Pass s.L7 k) (hk:k≤5) (h2:root.Number=2) (hg:s.Ring=a2g root 3) (hr:U5 s.Request=true) (hh:s.G0=b4w):E4 gl prog 31 [scn w] [.ob w s] (fun r Hs=>∃ s':Scn,∃ b,c0Z s' b∧r = .v b∧Hs = [.ob w s']):=by
 obtain⟨T,n,hs,hn⟩:=h.ex
 obtain⟨b,t,B,hp,hB,hle⟩:=hs.c3V (by omega) (by omega) h.b5F hr
 have h5:=hs.a4I
 have h6:=hs.ngr
 refine E4.P8 func31 rfl (by kernel_rfl) 32 rfl rfl _ rfl _ rfl fun C hC hG => ?_
 refine .q 3 hG fun b2 => ?_
 refine .q 2 hG ?_
 refine .c3l [j1,j1] [(21,(⟨m0,inferInstance,default⟩:AT)),(22,(⟨u1,inferInstance,default⟩:AT))] (by kernel_rfl) 26 [[],[(7,0)],[(8,1)],[(9,2)],[],[(11,4)],[(12,5)],[(13,6)],[],[(15,8)],[(16,9)],[(17,10)],[],[(19,12)],[(20,13)],[(21,14)],[(10,3),(14,7),(18,11),(22,15)],[(23,16)],[(6,17)],[(6,17)],[(6,17)],[],[],[(3,21),(24,18)],[(4,22),(25,19)],[(26,20)]] [23,24] rfl (by kernel_rfl) rfl (by kernel_rfl) (by decide) (by simp) (List.forall_mem_cons.2 ⟨fun o ho=>by obtain rfl:=Option.some.inj (show some _=some o from ho);exact⟨rfl,fun _ _=>A0.alloc y9 fun b=>⟨b,rfl,rfl⟩⟩,(List.forall_mem_cons.2 ⟨fun o ho=>by obtain rfl:=Option.some.inj (show some _=some o from ho);exact⟨rfl,fun _ _=>A0.alloc U3 fun b=>⟨b,rfl,rfl⟩⟩,(fun p hp=>by cases hp)⟩)⟩) ?_
 refine⟨_,fun H=>j6.move (.t a8) a8,?_⟩
 refine⟨_,fun H=>j6.F1 (.t a8) a8,?_⟩
 refine⟨_,fun H=>j6.A9 p5.l0 R8 a8 (.t a8) a8,?_⟩
 refine⟨_,fun H=>j6.ldF (fun x=>x.A) y9 (.t a8) (u4.app .z1) (fun _=>a8) a8,?_⟩
 refine⟨_,fun H=>j6.move (.t a8) a8,?_⟩
 refine⟨_,fun H=>j6.F1 (.t a8) a8,?_⟩
 refine⟨_,fun H=>j6.A9 p5.l3 a4r a8 (.t a8) a8,?_⟩
 refine⟨_,fun H=>j6.ldF (fun x=>x.Pass) U4 (.t a8) (u4.app .z1) (fun _=>a8) a8,?_⟩
 refine⟨_,fun H=>j6.move (.t a8) a8,?_⟩
 refine⟨_,fun H=>j6.F1 (.t a8) a8,?_⟩
 refine⟨_,fun H=>j6.A9 p5.l4 b3h a8 (.t a8) a8,?_⟩
 refine⟨_,fun H=>j6.ldF (fun x=>x.L7) c4L (.t a8) (u4.app .z1) (fun _=>a8) a8,?_⟩
 refine⟨_,fun H=>j6.move (.t a8) a8,?_⟩
 refine⟨_,fun H=>j6.F1 (.t a8) a8,?_⟩
 refine⟨_,fun H=>j6.A9 p5.l5 b7s a8 (.t a8) a8,?_⟩
 refine⟨_,fun H=>j6.ldF (fun x=>x.Request) a8v (.t a8) (u4.app .z1) (fun _=>a8) a8,?_⟩
 refine⟨_,fun H=>j6.o8 hG (hp.c (by omega) (by omega) hr) (.cons (.t a8) (.cons (.t a8) (.cons (.t a8) (.cons (.t a8) .nil)))) a8,?_⟩
 refine⟨_,fun H=>j6.move (.t a8) a8,?_⟩
 refine⟨_,fun H=>j6.O3 (.t a8) a8,?_⟩
 refine⟨_,fun H=>j6.O4 (.t a8) a8,?_⟩
 refine⟨_,fun H=>j6.O5 (.t a8) a8,?_⟩
 refine .inl (.inl (.inl (.inl ?_)))
 refine⟨_,fun H=>j6.assign (.t a8) a8,?_⟩
 refine⟨a8,fun ws1 => ?_⟩
 refine⟨⟨([_,_],j2 [c8,c8]),a8⟩,?_⟩
 refine A0.R6 y9 (.t rfl) (.t rfl) .z ?_
 refine⟨⟨([_,_],j2 [c8,c8]),a8⟩,?_⟩
 refine A0.R6 U3 (.t rfl) (.t rfl) .z1 ?_
 refine⟨⟨([_,_],j2 [c8,c8]),a8⟩,?_⟩
 show D0 _ _ _ _ _ [] ((5,_)::(4,_)::(3,_)::(26,_)::(25,_)::(24,_)::(6,_)::(23,_)::(22,_)::(21,_)::(20,_)::(19,_)::(18,_)::(17,_)::(16,_)::(15,_)::(14,_)::(13,_)::(12,_)::(11,_)::(10,_)::(9,_)::(8,_)::(7,_)::_) _
 refine .q 3 hG ?_
 refine .mv a8 (.p (.S4 y9 (.t a8) .z (.p (.F1 (.t a8) (.p (.A9 p5.l0 R8 a8 (.t a8) (.n (.stF (fun y x => { x with A:=y }) y9 (.t a8) (.t a8) .z3 (fun _ _=>a8) ?_))))))))
 refine .q 3 hG ?_
 refine .p (.S4 U3 (.t a8) .z1 (.n (.R6 U3 (.t a8) (.t a8) .z2 ?_)))
 refine .q 2 hG ?_
 refine⟨_,.r1 a8 (.cell U3 a8 .z2),?_⟩
 refine⟨_,.cons .z3 (.nil),?_⟩
 exact⟨⟨B,s.Ring,s.C,s.Pass,s.L7,s.Request,s.G0,s.Minute⟩,_,⟨⟨root,T,t,n+7,k,hB,by omega,hk,h2,hg,rfl⟩,hh⟩,rfl,rfl⟩
theorem c2I (deck:List Int) (wide:Bool):E4 gl prog 10 [.v deck,.v wide] [] (fun r Hs=>∃ s:Scn,∃ b,∃ p d,(c0Z s b∧G1 d)∧r = .t3 (.v s) (.v b) (dk p)∧Hs = [.ob p d]):=by
 refine E4.P8 func10 rfl (by kernel_rfl) 19 rfl rfl _ rfl _ rfl fun C hC hG => ?_
 refine .q 3 hG fun b4 => ?_
 refine .q 1 hG fun b5 => ?_
 refine .p (.assign .raw ?_)
 refine .q 4 hG ?_
 refine .k0 hG (a9t _) fun r11 Hs11 hr11 => ?_
 obtain⟨b11,rfl,rfl⟩:=hr11
 show D0 _ _ _ _ _ _ _ ((true,_)::_)
 refine .q 6 hG ?_
 refine .km hG (b6O _ _ _ (by first|assumption|exact x4 _)) .z (by rintro _ _ ⟨_,_,_,_,_,_,_,rfl⟩;exact⟨_,rfl⟩) fun r14 B14 hr14 => ?_
 obtain⟨s14,root14,k14,⟨hs1,hs2,hs3,hs4,hs5,hs6⟩,d14,hd14,rfl,hB⟩:=hr14
 cases hB
 refine .q 1 hG fun b8 => ?_
 refine .q 4 hG ?_
 refine .km hG (b9m _ _ _ _ hs1 hs2 hs3 hs4 hs5 hs6) .z (by rintro _ _ ⟨_,_,_,_,rfl⟩;exact⟨_,rfl⟩) fun r15 B15 hr15 => ?_
 obtain⟨s15,b15',hm15,rfl,hB⟩:=hr15
 cases hB
 refine .q 1 hG fun b9 => ?_
 refine .q 3 hG ?_
 refine .D7 [j1,j1,j1,j0,j0] (by kernel_rfl) 6 [[],[],[],[(16,0)],[(17,1)],[(18,2)]] [3,4] a8 (by kernel_rfl) a8 (by kernel_rfl) (by decide) ?_
 refine⟨_,fun H=>j6.S4 b8c (.t a8) (u4.app .z1) a8,?_⟩
 refine⟨_,fun H=>j6.S4 U3 (.t a8) (u4.app .z) a8,?_⟩
 refine⟨_,fun H=>j6.move (.t a8) a8,?_⟩
 refine .inl (.inl ?_)
 refine⟨_,fun H=>j6.assign (.t a8) a8,?_⟩
 refine⟨⟨([],j2 [c8,c8,c8,_,_]),a8⟩,?_⟩
 refine A0.R6 b8c (.t rfl) (.t rfl) .z4 ?_
 refine⟨⟨([],j2 [c8,c8,c8,_,_]),a8⟩,?_⟩
 refine A0.R6 U3 (.t rfl) (.t rfl) .z3 ?_
 refine⟨⟨([],j2 [c8,c8,c8,_,_]),a8⟩,?_⟩
 show D0 _ _ _ _ _ [] ((6,_)::(18,_)::(17,_)::(16,_)::_) _
 refine .q 2 hG ?_
 refine⟨_,.r3 a8 (.cell b8c a8 .z4) (.cell U3 a8 .z3) (.tmp a8),?_⟩
 refine⟨_,.cons .z2 (.nil),?_⟩
 exact⟨s15,b15',_,d14,⟨hm15,hd14⟩,a8,a8⟩
def C5 (x:m8) (c:List Cav) (d:List Bnd):P9:=⟨x.Request,x.D3,x.A6,c,x.Proof,d⟩
theorem K5 {x:m8} {c:List Cav} {d:List Bnd} {I:Im} {cs:List Value} (h:o7.rep I x cs) (hc:E1 I (.v c) x.j8.v) (hd:E1 I (.v d) x.j4.v):o7.rep I (C5 x c d) cs :=
 a64 (b:=C5 x c d) (uc:=x.j8.v) (ud:=x.j4.v) h hc hd
theorem b9n (b:P9) (I:Im) (u:Value) (h:E1 I (.v b) u):∃ x y,E1 I (.v (Y2 b x y)) u∧E1 I (.v b.j8) x∧E1 I (.v b.j4) y:=by
 obtain⟨cs,⟨c1,r1,rfl,h1,c2,r2,rfl,h2,c3,r3,rfl,h3,c4,r4,rfl,h4,c5,r5,rfl,h5,c6,r6,rfl,h6,h7⟩,rfl⟩:=h
 obtain⟨v4,rfl,h4⟩:=h4
 obtain⟨v6,rfl,h6⟩:=h6
 have o4:v4.oneCell'=true:=by obtain⟨xs,⟨a,c,rfl,_⟩,_⟩:=h4;rfl
 have o6:v6.oneCell'=true:=by obtain⟨xs,⟨a,c,rfl,_⟩,_⟩:=h6;rfl
 exact⟨v4,v6,⟨_,⟨c1,_,a8,h1,c2,_,a8,h2,c3,_,a8,h3,_,_,a8,⟨a8,o4⟩,c5,_,a8,h5,_,_,a8,⟨a8,o6⟩,h7⟩,a8⟩,⟨_,⟨v4,a8,h4⟩,a8⟩,⟨_,⟨v6,a8,h6⟩,a8⟩⟩
structure Tb (N:Nat) (b:P9):Prop where
 cav:b.j8.length≤N
 dis:b.j4.length≤N
 con:∀ d∈b.j4,d.l8.length≤N
 F9:0≤b.Request.E0∧b.Request.E0≤281474976710656+N
theorem T7 {N:Nat} {D:List Bnd} (h:∀ d∈D,d.l8.length≤N):∀ d∈D,d.l8.length≤N+1:=fun d hd=>Nat.le_succ_of_le (h d hd)
theorem T8 {N:Nat} {D:List Bnd} (h:∀ d∈D,d.l8.length≤N) (k:Nat):∀ d∈D.take k,d.l8.length≤N+1:=fun d hd=>Nat.le_succ_of_le (h d (List.mem_of_mem_take hd))
theorem I6 {N:Nat} {D:List Bnd} (h:∀ d∈D,d.l8.length≤N) {k:Nat} {x:Bnd} (hx:x.l8.length≤N+1):∀ d∈D.set k x,d.l8.length≤N+1:=fun d hd=>by
 rcases List.mem_or_eq_of_mem_set hd with h'|h'
 ·exact Nat.le_succ_of_le (h d h')
 ·rw [h'];exact hx
theorem a0a {N:Nat} {D:List Bnd} (h:∀ d∈D,d.l8.length≤N) {x:Bnd} (hx:x.l8.length≤N+1):∀ d∈D ++ [x],d.l8.length≤N+1:=fun d hd=>by
 rcases List.mem_append.1 hd with h'|h'
 ·exact Nat.le_succ_of_le (h d h')
 ·rw [List.mem_singleton.1 h'];exact hx
theorem b4y (w:Value) (d:m5) (b:P9) (t:Tag) (N:Nat) (hd:G1 d) (hb:Tb N b) (hN:N≤1000):E4 gl prog 11 [.v b,dk w,.v t] [.ob w d] (fun r Hs=>∃ y:P9,Tb (N+1) y∧∃ d',G1 d'∧r = .v y∧Hs = [.ob w d']):=by
 obtain⟨hb1,hb2,hb3,hb4⟩:=hb
 refine E4.P8 func11 rfl (by kernel_rfl) 164 rfl rfl _ rfl _ rfl fun C hC hG => ?_
 refine .q 1 hG ?_
 refine .c3m 0 (fun uc ud => .v (Y2 b uc ud)) (b9n b) a8 fun uc ud => ?_
 refine .q 2 hG fun b3 => ?_
 refine .q 1 hG fun b5 => ?_
 refine .q 1 hG fun b6 => ?_
 refine .q 3 hG ?_
 refine .h (.buildSlice (α:=o5) a1v underlying24 .nil a8 (by decide) fun b11 => .p (.A9 m8.l3 W0 a8 (.t a8) (.p (.ldR (fun x=>x.j8) a4b (.t a8) .z3 (fun _=>a8) (.h (.append c0k (.inl ⟨_,underlying24⟩) a8 .z (.v (.fzA a8 .z4)) (by simp<;>omega) (by simp<;>omega) (fun w14 => .p (.A9 m8.l3 W0 a8 (.t a8) (.n (.stF (fun y x => { x with j8:=y }) a4b (.t a8) (.b3C a8 .z) .z3 (fun _ _=>a8) ?_)))) a8))))))
 refine .q 3 hG ?_
 refine .h (.buildSlice (α:=p9) a05 underlying27 .nil a8 (by decide) fun b16 => .p (.A9 m8.l5 Z0 a8 (.t a8) (.p (.ldR (fun x=>x.j4) a3H (.t a8) .z4 (fun _=>a8) (.h (.append c2h (.inl ⟨_,underlying27⟩) a8 .z (.v (.fzA a8 .z6)) (by simp<;>omega) (by simp<;>omega) (fun w19 => .p (.A9 m8.l5 Z0 a8 (.t a8) (.n (.stF (fun y x => { x with j4:=y }) a3H (.t a8) (.b3C a8 .z) .z4 (fun _ _=>a8) ?_)))) a8))))))
 refine .q 2 hG ?_
 have hcl:([]++b.j8).length=b.j8.length:=rfl
 have hdl:([]++b.j4).length=b.j4.length:=rfl
 refine .q 1 hG ?_
 refine .p (.A9 m8.l3 W0 a8 (.t a8) (.p (.ldR (fun x=>x.j8) a4b (.t a8) .z4 (fun _=>a8) (.p (.a4v underlying24 a8 .z1 (.ag a8 ?_))))))
 refine .q 3 hG ?_
 refine .p (.A9 m8.l5 Z0 a8 (.t a8) (.p (.ldR (fun x=>x.j4) a3H (.t a8) .z4 (fun _=>a8) (.p (.a4v underlying27 a8 .z ?_)))))
 refine .q 6 hG ?_
 refine .km hG (F0 _ _ _ (by first|assumption|exact x4 _) (by omega) (by omega)) .z7 (by rintro _ _ ⟨_,_,_,_,_,_,rfl⟩;exact⟨_,rfl⟩) fun r28 B28 hr28 => ?_
 obtain⟨v28,d28,h028,h128,hd28,rfl,hB⟩:=hr28
 cases hB
 refine .q 8 hG ⟨fun hc29 => ?_,fun hc29 => ?_⟩
 ·have hrn:(Y2 b uc ud).Request.E0=b.Request.E0:=rfl
  refine .q 1 hG ?_
  refine .p (.A9 m8.l0 b3c a8 (.t a8) (.p (.c0a u3.l1 a9Y a8 (.t a8) (.p (.ldF (fun x=>x.Request.E0) P5 (.t a8) .z4 (fun _=>a8) (.p (.add (.t a8) (.i a8) (by simp<;>omega) (by simp<;>omega) (.p (.A9 m8.l0 b3c a8 (.t a8) (.p (.c0a u3.l1 a9Y a8 (.t a8) ?_)))))))))))
  refine .n (.stF (fun y x => { x with Request.E0:=y }) P5 (.t a8) (.t a8) .z4 (fun _ _=>a8) ?_)
  refine .q 2 hG ?_
  refine .u0 hC .z1 (.u0 hC .z (.a3m .z4 (fun n0 I L hr cs hc=>K5 hc (u4.fz .z1 hr) (u4.fz .z hr)) (.conv 3 (.ln (ptr b3 0) (j9.id (α:=P9))) a8 (fun _ _ _ _ _ h=>h) ?_)))
  refine .q 5 hG ?_
  refine⟨_,.r1 a8 (.cell U3 a8 .z2),?_⟩
  refine⟨_,.cons .z7 (.nil),?_⟩
  exact⟨_,⟨by first|simpa [C5] using Nat.le_succ_of_le hb1|(simp [C5];omega),by first|simpa [C5] using Nat.le_succ_of_le hb2|(simp [C5];omega),by first|exact T7 hb3|exact T8 hb3 _|exact a0a hb3 (Nat.zero_le _)|exact I6 hb3 (by have hq:=hce;exact Nat.le_succ_of_le hq)|exact I6 hb3 (by have hq:=hcd;show(([]++_) ++ [_]).length≤_;rw [List.nil_append,List.length_append];exact Nat.succ_le_succ hq),by first|(simp [C5,Y2];omega)⟩,_,by assumption,rfl,rfl⟩
 ·refine .q 6 hG ⟨fun hc37 => ?_,fun hc37 => ?_⟩
  ·refine .q 2 hG ?_
   refine .km hG (a43 _ _ _ _ (by first|assumption|exact x4 _) (by omega) (by omega) (by omega)) .z7 (by rintro _ _ ⟨_,_,_,_,_,_,rfl⟩;exact⟨_,rfl⟩) fun r40 B40 hr40 => ?_
   obtain⟨v40,d40,h040,h140,hd40,rfl,hB⟩:=hr40
   cases hB
   refine .p (.A9 m8.l1 b7o a8 (.t a8) (.n (.stF (fun y x => { x with D3:=y }) P5 (.t a8) (.t a8) .z4 (fun _ _=>a8) ?_)))
   refine .q 2 hG ?_
   refine .u0 hC .z1 (.u0 hC .z (.a3m .z4 (fun n0 I L hr cs hc=>K5 hc (u4.fz .z1 hr) (u4.fz .z hr)) (.conv 3 (.ln (ptr b3 0) (j9.id (α:=P9))) a8 (fun _ _ _ _ _ h=>h) ?_)))
   refine .q 5 hG ?_
   refine⟨_,.r1 a8 (.cell U3 a8 .z2),?_⟩
   refine⟨_,.cons .z7 (.nil),?_⟩
   exact⟨_,⟨by first|simpa [C5] using Nat.le_succ_of_le hb1|(simp [C5];omega),by first|simpa [C5] using Nat.le_succ_of_le hb2|(simp [C5];omega),by first|exact T7 hb3|exact T8 hb3 _|exact a0a hb3 (Nat.zero_le _)|exact I6 hb3 (by have hq:=hce;exact Nat.le_succ_of_le hq)|exact I6 hb3 (by have hq:=hcd;show(([]++_) ++ [_]).length≤_;rw [List.nil_append,List.length_append];exact Nat.succ_le_succ hq),by first|(simp [C5,Y2];omega)⟩,_,by assumption,rfl,rfl⟩
  ·refine .q 6 hG ⟨fun hc42 => ?_,fun hc42 => ?_⟩
   ·refine .q 2 hG ?_
    refine .km hG (a43 _ _ _ _ (by first|assumption|exact x4 _) (by omega) (by omega) (by omega)) .z7 (by rintro _ _ ⟨_,_,_,_,_,_,rfl⟩;exact⟨_,rfl⟩) fun r45 B45 hr45 => ?_
    obtain⟨v45,d45,h045,h145,hd45,rfl,hB⟩:=hr45
    cases hB
    refine .p (.A9 m8.l2 b3d a8 (.t a8) (.n (.stF (fun y x => { x with A6:=y }) P5 (.t a8) (.t a8) .z4 (fun _ _=>a8) ?_)))
    refine .q 2 hG ?_
    refine .u0 hC .z1 (.u0 hC .z (.a3m .z4 (fun n0 I L hr cs hc=>K5 hc (u4.fz .z1 hr) (u4.fz .z hr)) (.conv 3 (.ln (ptr b3 0) (j9.id (α:=P9))) a8 (fun _ _ _ _ _ h=>h) ?_)))
    refine .q 5 hG ?_
    refine⟨_,.r1 a8 (.cell U3 a8 .z2),?_⟩
    refine⟨_,.cons .z7 (.nil),?_⟩
    exact⟨_,⟨by first|simpa [C5] using Nat.le_succ_of_le hb1|(simp [C5];omega),by first|simpa [C5] using Nat.le_succ_of_le hb2|(simp [C5];omega),by first|exact T7 hb3|exact T8 hb3 _|exact a0a hb3 (Nat.zero_le _)|exact I6 hb3 (by have hq:=hce;exact Nat.le_succ_of_le hq)|exact I6 hb3 (by have hq:=hcd;show(([]++_) ++ [_]).length≤_;rw [List.nil_append,List.length_append];exact Nat.succ_le_succ hq),by first|(simp [C5,Y2];omega)⟩,_,by assumption,rfl,rfl⟩
   ·refine .q 6 hG ⟨fun hc47 => ?_,fun hc47 => ?_⟩
    ·refine .q 1 hG ?_
     refine .p (.S4 A5 (.t a8) .z3 (.p (.A9 m8.l4 a8c a8 (.t a8) (.n (.stF (fun y x => { x with Proof:=y }) A5 (.t a8) (.t a8) .z4 (fun _ _=>a8) ?_)))))
     refine .q 2 hG ?_
     refine .u0 hC .z1 (.u0 hC .z (.a3m .z4 (fun n0 I L hr cs hc=>K5 hc (u4.fz .z1 hr) (u4.fz .z hr)) (.conv 3 (.ln (ptr b3 0) (j9.id (α:=P9))) a8 (fun _ _ _ _ _ h=>h) ?_)))
     refine .q 5 hG ?_
     refine⟨_,.r1 a8 (.cell U3 a8 .z2),?_⟩
     refine⟨_,.cons .z7 (.nil),?_⟩
     exact⟨_,⟨by first|simpa [C5] using Nat.le_succ_of_le hb1|(simp [C5];omega),by first|simpa [C5] using Nat.le_succ_of_le hb2|(simp [C5];omega),by first|exact T7 hb3|exact T8 hb3 _|exact a0a hb3 (Nat.zero_le _)|exact I6 hb3 (by have hq:=hce;exact Nat.le_succ_of_le hq)|exact I6 hb3 (by have hq:=hcd;show(([]++_) ++ [_]).length≤_;rw [List.nil_append,List.length_append];exact Nat.succ_le_succ hq),by first|(simp [C5,Y2];omega)⟩,_,by assumption,rfl,rfl⟩
    ·refine .q 6 hG ⟨fun hc51 => ?_,fun hc51 => ?_⟩
     ·refine .u0 hC .z1 ?_
      refine .q 1 hG ?_
      refine .p (.A9 m8.l3 W0 a8 (.t a8) (.p (.ldR (fun x=>x.j8) a4b (.t a8) .z4 (fun _=>a8) ?_)))
      refine .q 1 hG ?_
      refine .sb (by omega) (by omega) (.p (.b5T (.t a8) (.i a8) (.p (.b6b a1v underlying24 (.fzA a8 .z1) (.t a8) (by omega) (by omega) (.name 58 a8 fun w58=>(.p (.A9 m8.l3 W0 a8 (.t a8) (.n (.stF (fun y x => { x with j8:=y }) a4b (.t a8) (.vR a8 .z) .z5 (fun _ _=>a8) ?_)))))))))
      refine .q 2 hG ?_
      refine .u0 hC .z1 (.a3m .z5 (fun n0 I L hr cs hc=>K5 hc (u4.fz .z hr) (u4.fz .z1 hr)) (.conv 3 (.ln (ptr b3 0) (j9.id (α:=P9))) a8 (fun _ _ _ _ _ h=>h) ?_))
      refine .q 5 hG ?_
      refine⟨_,.r1 a8 (.cell U3 a8 .z3),?_⟩
      refine⟨_,.cons .z8 (.nil),?_⟩
      exact⟨_,⟨by first|simpa [C5] using Nat.le_succ_of_le hb1|(simp [C5];omega),by first|simpa [C5] using Nat.le_succ_of_le hb2|(simp [C5];omega),by first|exact T7 hb3|exact T8 hb3 _|exact a0a hb3 (Nat.zero_le _)|exact I6 hb3 (by have hq:=hce;exact Nat.le_succ_of_le hq)|exact I6 hb3 (by have hq:=hcd;show(([]++_) ++ [_]).length≤_;rw [List.nil_append,List.length_append];exact Nat.succ_le_succ hq),by first|(simp [C5,Y2];omega)⟩,_,by assumption,rfl,rfl⟩
     ·refine .q 6 hG ⟨fun hc60 => ?_,fun hc60 => ?_⟩
      ·refine .D7 [j1,j0,j1,j1,j1,j1,j1,j0] (by kernel_rfl) 7 [[],[(62,0)],[],[(64,2)],[(65,3)],[(63,1),(66,4)],[]] [3,4,5] a8 (by kernel_rfl) a8 (by kernel_rfl) (by decide) ?_
       refine⟨_,fun H=>j6.A9 m8.l3 W0 a8 (.t a8) a8,?_⟩
       refine⟨_,fun H=>j6.ldR (fun x=>x.j8) a4b (.t a8) (u4.app .z4) (fun _=>a8) a8,?_⟩
       refine⟨_,fun H=>j6.move (.t a8) a8,?_⟩
       refine .inl (.inl (.inl ?_))
       refine⟨_,fun H=>j6.A9 m8.l3 W0 a8 (.t a8) a8,?_⟩
       refine⟨⟨([],j2 [c8,_,c8,c8,c8,c8,c8,_]),a8⟩,?_⟩
       refine A0.a1m hG (a5o _ _ (by assumption)) .z7 (.cons (.t rfl) .nil) (by rintro _ _ ⟨_,_,_,_,rfl⟩;exact⟨_,rfl⟩) fun r65 B65 hr65 => ?_
       obtain⟨c65,d65,hd65,rfl,hB⟩:=hr65
       cases hB
       refine⟨⟨([],j2 [c8,_,c8,c8,c8,c8,c8,_]),a8⟩,?_⟩
       refine A0.ofP (j6.E7 (α:=o5) a1v underlying24 (.cons (.t rfl) .nil) rfl (by decide) ?_)
       refine⟨⟨([],j2 [c8,_,c8,c8,c8,c8,c8,_]),a8⟩,?_⟩
       refine A0.append c0k (.inl ⟨_,underlying24⟩) rfl .z1 (.v (.c rfl)) (by simp<;>omega) (by simp<;>omega) (fun w67 => ?_) rfl
       refine⟨⟨([],j2 [c8,_,c8,c8,c8,c8,c8,_]),a8⟩,?_⟩
       show D0 _ _ _ _ _ [_] ((68,_)::(67,_)::(66,_)::(65,_)::(64,_)::(63,_)::(62,_)::_) _
       refine .n (.stF (fun y x => { x with j8:=y }) a4b (.t a8) (.b3C a8 .z1) .z4 (fun _ _=>a8) ?_)
       refine .q 2 hG ?_
       refine .u0 hC .z1 (.u0 hC .z (.a3m .z4 (fun n0 I L hr cs hc=>K5 hc (u4.fz .z1 hr) (u4.fz .z hr)) (.conv 3 (.ln (ptr b3 0) (j9.id (α:=P9))) a8 (fun _ _ _ _ _ h=>h) ?_)))
       refine .q 5 hG ?_
       refine⟨_,.r1 a8 (.cell U3 a8 .z2),?_⟩
       refine⟨_,.cons .z7 (.nil),?_⟩
       exact⟨_,⟨by first|simpa [C5] using Nat.le_succ_of_le hb1|(simp [C5];omega),by first|simpa [C5] using Nat.le_succ_of_le hb2|(simp [C5];omega),by first|exact T7 hb3|exact T8 hb3 _|exact a0a hb3 (Nat.zero_le _)|exact I6 hb3 (by have hq:=hce;exact Nat.le_succ_of_le hq)|exact I6 hb3 (by have hq:=hcd;show(([]++_) ++ [_]).length≤_;rw [List.nil_append,List.length_append];exact Nat.succ_le_succ hq),by first|(simp [C5,Y2];omega)⟩,_,by assumption,rfl,rfl⟩
      ·refine .q 6 hG ⟨fun hc69 => ?_,fun hc69 => ?_⟩
       ·refine .q 6 hG ⟨fun hc72 => ?_,fun hc72 => ?_⟩
        ·refine .q 4 hG ?_
         refine .sb (by omega) (by omega) ?_
         refine .km hG (F0 _ _ _ (by first|assumption|exact x4 _) (by omega) (by omega)) .z7 (by rintro _ _ ⟨_,_,_,_,_,_,rfl⟩;exact⟨_,rfl⟩) fun r76 B76 hr76 => ?_
         obtain⟨v76,d76,h076,h176,hd76,rfl,hB⟩:=hr76
         cases hB
         refine .q 2 hG ?_
         refine .a0O [[j1,j1,j1,j1,j1,j1,j1,j1],[j1,j1,j1,j1,j1,j1,j1,j1],[j1,j0,j1,j1,j1,j1,j1,j1],[j1,j0,j1,j1,j1,j1,j1,j1],[j1,j0,j1,j1,j1,j1,j1,j1]] [[j1,j1,j1,j1,j1,j1,j1,j1],[j1,j1,j1,j1,j1,j1,j1,j1],[j1,j1,j1,j1,j1,j1,j1,j1],[j1,j0,j1,j1,j1,j1,j1,j1],[j1,j0,j1,j1,j1,j1,j1,j1],[j1,j0,j1,j1,j1,j1,j1,j1],[j1,j0,j1,j1,j1,j1,j1,j1],[j1,j1,j1,j1,j1,j1,j1,j1],[j1,j1,j1,j1,j1,j1,j1,j1],[j1,j1,j1,j1,j1,j1,j1,j1],[j1,j1,j1,j1,j1,j1,j1,j1],[j1,j1,j1,j1,j1,j1,j1,j1],[j1,j1,j1,j1,j1,j1,j1,j1],[j1,j0,j1,j1,j1,j1,j1,j1],[j1,j0,j1,j1,j1,j1,j1,j1],[j1,j0,j1,j1,j1,j1,j1,j1],[j1,j1,j1,j1,j1,j1,j1,j1],[],[j1,j1,j1,j1,j1,j1,j1,j1],[],[],[]] [] [] 4 (by kernel_rfl) 22 [[],[(77,0)],[],[],[(80,3)],[],[(82,5)],[],[(84,7)],[],[(86,9)],[(85,8),(87,10)],[(88,11)],[],[(90,13)],[],[(91,14),(92,15)],[(93,16)],[(78,1),(79,2)],[(95,18),(89,12)],[(81,4),(83,6)],[(96,20),(94,17)]] [17,19,20,21] rfl (by kernel_rfl) rfl (by kernel_rfl) rfl (by decide) (by simp) (fun p hp=>by cases hp) (by kernel_rfl) rfl ?_
         refine⟨_,fun H=>j6.A9 m8.l3 W0 a8 (.t a8) a8,?_⟩
         refine⟨_,fun H=>j6.ldR (fun x=>x.j8) a4b (.t a8) (u4.app .z4) (fun _=>a8) a8,?_⟩
         refine⟨_,fun H=>j6.move (.t a8) a8,?_⟩
         refine⟨_,fun H=>j6.A9 m8.l3 W0 a8 (.t a8) a8,?_⟩
         refine⟨_,fun H=>j6.ldR (fun x=>x.j8) a4b (.t a8) (u4.app .z4) (fun _=>a8) a8,?_⟩
         refine⟨_,fun H=>j6.move (.t a8) a8,?_⟩
         refine⟨_,fun H=>j6.add (.t a8) (.i a8) (by omega) (by omega) a8,?_⟩
         refine⟨_,fun H=>j6.A9 m8.l3 W0 a8 (.t a8) a8,?_⟩
         refine⟨_,fun H=>j6.ldR (fun x=>x.j8) a4b (.t a8) (u4.app .z4) (fun _=>a8) a8,?_⟩
         refine⟨_,fun H=>j6.move (.t a8) a8,?_⟩
         refine⟨_,fun H=>j6.add (.t a8) (.i a8) (by omega) (by omega) a8,?_⟩
         refine⟨_,fun H=>j6.V2 a1v underlying24 a8 (u4.app .z1) (.t a8) (by omega) (by omega) a8,?_⟩
         refine⟨_,fun H=>j6.b1B a1v (.t a8) (u4.app .z1) (by omega) a8,?_⟩
         refine⟨_,fun H=>j6.A9 m8.l3 W0 a8 (.t a8) a8,?_⟩
         refine⟨_,fun H=>j6.ldR (fun x=>x.j8) a4b (.t a8) (u4.app .z4) (fun _=>a8) a8,?_⟩
         refine⟨_,fun H=>j6.move (.t a8) a8,?_⟩
         refine⟨_,fun H=>j6.V2 a1v underlying24 a8 (u4.app .z1) (.t a8) (by omega) (by omega) a8,?_⟩
         refine .inl ?_
         refine⟨_,fun H=>j6.V2 a1v underlying24 a8 (u4.app .z1) (.t a8) (by omega) (by omega) a8,?_⟩
         refine .inl (.inl (.inl ?_))
         refine⟨a8,?_⟩
         refine⟨⟨j2 [c8,c8,c8,c8,c8,c8,c8,c8],a8⟩,fun Ys21 => ?_⟩
         refine A0.ofP (j6.b1B a1v (.t rfl) (u4.app (u4.app .z1)) (by omega) ?_)
         refine⟨[],_,a8,?_⟩
         refine⟨⟨j2 [c8,c8,c8,c8,c8,c8,c8,c8],a8⟩,fun Ys21 => ?_⟩
         refine A0.b0m a1v (.t rfl) (.t rfl) (u4.app (u4.app .z1)) (by omega) ?_
         refine⟨[],_,a8,?_⟩
         refine⟨⟨j2 [c8,_,c8,c8,c8,c8,c8,c8],a8⟩,fun Ys21 => ?_⟩
         refine A0.ofP (j6.V2 a1v underlying24 rfl (u4.app (u4.app .z1)) (.t rfl) (by omega) (by simp<;>omega) ?_)
         refine⟨[],_,a8,?_⟩
         refine⟨⟨j2 [c8,_,c8,c8,c8,c8,c8,c8],a8⟩,fun Ys21 => ?_⟩
         refine A0.b0m a1v (.t rfl) (.t rfl) (u4.app (u4.app .z1)) (by simp<;>omega) ?_
         refine⟨[],_,a8,?_⟩
         refine⟨⟨j2 [c8,_,c8,c8,c8,c8,c8,c8],a8⟩,fun ws21 => ?_⟩
         refine⟨⟨j2 [c8,_,c8,c8,c8,c8,c8,c8],a8⟩,fun _ => ?_⟩
         show D0 _ _ _ _ _ [] ((96,_)::(95,_)::(94,_)::(93,_)::(92,_)::(91,_)::(90,_)::(89,_)::(88,_)::(87,_)::(86,_)::(85,_)::(84,_)::(83,_)::(82,_)::(81,_)::(80,_)::(79,_)::(78,_)::(77,_)::_) _
         refine .q 2 hG ?_
         refine .u0 hC .z1 (.u0 hC .z (.a3m .z4 (fun n0 I L hr cs hc=>K5 hc (u4.fz .z1 hr) (u4.fz .z hr)) (.conv 3 (.ln (ptr b3 0) (j9.id (α:=P9))) a8 (fun _ _ _ _ _ h=>h) ?_)))
         refine .q 5 hG ?_
         refine⟨_,.r1 a8 (.cell U3 a8 .z2),?_⟩
         refine⟨_,.cons .z7 (.nil),?_⟩
         exact⟨_,⟨by first|simpa [C5] using Nat.le_succ_of_le hb1|(simp [C5];omega),by first|simpa [C5] using Nat.le_succ_of_le hb2|(simp [C5];omega),by first|exact T7 hb3|exact T8 hb3 _|exact a0a hb3 (Nat.zero_le _)|exact I6 hb3 (by have hq:=hce;exact Nat.le_succ_of_le hq)|exact I6 hb3 (by have hq:=hcd;show(([]++_) ++ [_]).length≤_;rw [List.nil_append,List.length_append];exact Nat.succ_le_succ hq),by first|(simp [C5,Y2];omega)⟩,_,by assumption,rfl,rfl⟩
        ·refine .q 2 hG ?_
         refine .u0 hC .z1 (.u0 hC .z (.a3m .z4 (fun n0 I L hr cs hc=>K5 hc (u4.fz .z1 hr) (u4.fz .z hr)) (.conv 3 (.ln (ptr b3 0) (j9.id (α:=P9))) a8 (fun _ _ _ _ _ h=>h) ?_)))
         refine .q 5 hG ?_
         refine⟨_,.r1 a8 (.cell U3 a8 .z2),?_⟩
         refine⟨_,.cons .z7 (.nil),?_⟩
         exact⟨_,⟨by first|simpa [C5] using Nat.le_succ_of_le hb1|(simp [C5];omega),by first|simpa [C5] using Nat.le_succ_of_le hb2|(simp [C5];omega),by first|exact T7 hb3|exact T8 hb3 _|exact a0a hb3 (Nat.zero_le _)|exact I6 hb3 (by have hq:=hce;exact Nat.le_succ_of_le hq)|exact I6 hb3 (by have hq:=hcd;show(([]++_) ++ [_]).length≤_;rw [List.nil_append,List.length_append];exact Nat.succ_le_succ hq),by first|(simp [C5,Y2];omega)⟩,_,by assumption,rfl,rfl⟩
       ·refine .q 6 hG ⟨fun hc97 => ?_,fun hc97 => ?_⟩
        ·refine .q 6 hG ⟨fun hc100 => ?_,fun hc100 => ?_⟩
         ·refine .D7 [j1,j1,j1,j1,j1,j1,j1,j0] (by kernel_rfl) 8 [[],[(101,0)],[],[],[(103,2),(104,3)],[],[(106,5)],[(102,1),(105,4)]] [4,6,7] a8 (by kernel_rfl) a8 (by kernel_rfl) (by decide) ?_
          refine⟨_,fun H=>j6.A9 m8.l3 W0 a8 (.t a8) a8,?_⟩
          refine⟨_,fun H=>j6.ldR (fun x=>x.j8) a4b (.t a8) (u4.app .z4) (fun _=>a8) a8,?_⟩
          refine⟨_,fun H=>j6.move (.t a8) a8,?_⟩
          refine⟨_,fun H=>j6.move (.t a8) a8,?_⟩
          refine .inl ?_
          refine⟨_,fun H=>j6.move (.t a8) a8,?_⟩
          refine .inl (.inl ?_)
          refine⟨⟨([],j2 [c8,c8,c8,c8,c8,c8,c8,_]),a8⟩,?_⟩
          refine A0.a1m hG (F0 _ _ _ (by first|assumption|exact x4 _) (by omega) (by omega)) .z7 (.cons (.t rfl) (.cons (.t rfl) .nil)) (by rintro _ _ ⟨_,_,_,_,_,_,rfl⟩;exact⟨_,rfl⟩) fun r105 B105 hr105 => ?_
          obtain⟨v105,d105,h0105,h1105,hd105,rfl,hB⟩:=hr105
          cases hB
          refine⟨⟨([],j2 [c8,c8,c8,c8,c8,c8,c8,_]),a8⟩,?_⟩
          refine A0.a1m hG (a5o _ _ (by assumption)) .z7 (.cons (.t rfl) .nil) (by rintro _ _ ⟨_,_,_,_,rfl⟩;exact⟨_,rfl⟩) fun r107 B107 hr107 => ?_
          obtain⟨c107,d107,hd107,rfl,hB⟩:=hr107
          cases hB
          refine⟨⟨([],j2 [c8,c8,c8,c8,c8,c8,c8,_]),a8⟩,?_⟩
          refine A0.ofP (j6.V2 a1v underlying24 rfl .z1 (.t rfl) (by omega) (by omega) ?_)
          refine⟨⟨([],j2 [c8,c8,c8,c8,c8,c8,c8,_]),a8⟩,?_⟩
          show D0 _ _ _ _ _ [_] ((108,_)::(107,_)::(106,_)::(105,_)::(104,_)::(103,_)::(102,_)::(101,_)::_) _
          refine .n (.b0m a1v (.t a8) (.t a8) .z1 (by omega) ?_)
          refine .q 2 hG ?_
          refine .u0 hC .z1 (.u0 hC .z (.a3m .z4 (fun n0 I L hr cs hc=>K5 hc (u4.fz .z1 hr) (u4.fz .z hr)) (.conv 3 (.ln (ptr b3 0) (j9.id (α:=P9))) a8 (fun _ _ _ _ _ h=>h) ?_)))
          refine .q 5 hG ?_
          refine⟨_,.r1 a8 (.cell U3 a8 .z2),?_⟩
          refine⟨_,.cons .z7 (.nil),?_⟩
          exact⟨_,⟨by first|simpa [C5] using Nat.le_succ_of_le hb1|(simp [C5];omega),by first|simpa [C5] using Nat.le_succ_of_le hb2|(simp [C5];omega),by first|exact T7 hb3|exact T8 hb3 _|exact a0a hb3 (Nat.zero_le _)|exact I6 hb3 (by have hq:=hce;exact Nat.le_succ_of_le hq)|exact I6 hb3 (by have hq:=hcd;show(([]++_) ++ [_]).length≤_;rw [List.nil_append,List.length_append];exact Nat.succ_le_succ hq),by first|(simp [C5,Y2];omega)⟩,_,by assumption,rfl,rfl⟩
         ·refine .q 2 hG ?_
          refine .u0 hC .z1 (.u0 hC .z (.a3m .z4 (fun n0 I L hr cs hc=>K5 hc (u4.fz .z1 hr) (u4.fz .z hr)) (.conv 3 (.ln (ptr b3 0) (j9.id (α:=P9))) a8 (fun _ _ _ _ _ h=>h) ?_)))
          refine .q 5 hG ?_
          refine⟨_,.r1 a8 (.cell U3 a8 .z2),?_⟩
          refine⟨_,.cons .z7 (.nil),?_⟩
          exact⟨_,⟨by first|simpa [C5] using Nat.le_succ_of_le hb1|(simp [C5];omega),by first|simpa [C5] using Nat.le_succ_of_le hb2|(simp [C5];omega),by first|exact T7 hb3|exact T8 hb3 _|exact a0a hb3 (Nat.zero_le _)|exact I6 hb3 (by have hq:=hce;exact Nat.le_succ_of_le hq)|exact I6 hb3 (by have hq:=hcd;show(([]++_) ++ [_]).length≤_;rw [List.nil_append,List.length_append];exact Nat.succ_le_succ hq),by first|(simp [C5,Y2];omega)⟩,_,by assumption,rfl,rfl⟩
        ·refine .q 6 hG ⟨fun hc109 => ?_,fun hc109 => ?_⟩
         ·refine .u0 hC .z ?_
          refine .q 1 hG ?_
          refine .p (.A9 m8.l5 Z0 a8 (.t a8) (.p (.ldR (fun x=>x.j4) a3H (.t a8) .z4 (fun _=>a8) ?_)))
          refine .q 1 hG ?_
          refine .sb (by omega) (by omega) (.p (.b5T (.t a8) (.i a8) (.p (.b6b a05 underlying27 (.fzA a8 .z) (.t a8) (by omega) (by omega) (.name 116 a8 fun w116=>(.p (.A9 m8.l5 Z0 a8 (.t a8) (.n (.stF (fun y x => { x with j4:=y }) a3H (.t a8) (.vR a8 .z) .z5 (fun _ _=>a8) ?_)))))))))
          refine .q 2 hG ?_
          refine .u0 hC .z2 (.a3m .z5 (fun n0 I L hr cs hc=>K5 hc (u4.fz .z2 hr) (u4.fz .z hr)) (.conv 3 (.ln (ptr b3 0) (j9.id (α:=P9))) a8 (fun _ _ _ _ _ h=>h) ?_))
          refine .q 5 hG ?_
          refine⟨_,.r1 a8 (.cell U3 a8 .z3),?_⟩
          refine⟨_,.cons .z8 (.nil),?_⟩
          exact⟨_,⟨by first|simpa [C5] using Nat.le_succ_of_le hb1|(simp [C5];omega),by first|simpa [C5] using Nat.le_succ_of_le hb2|(simp [C5];omega),by first|exact T7 hb3|exact T8 hb3 _|exact a0a hb3 (Nat.zero_le _)|exact I6 hb3 (by have hq:=hce;exact Nat.le_succ_of_le hq)|exact I6 hb3 (by have hq:=hcd;show(([]++_) ++ [_]).length≤_;rw [List.nil_append,List.length_append];exact Nat.succ_le_succ hq),by first|(simp [C5,Y2];omega)⟩,_,by assumption,rfl,rfl⟩
         ·refine .q 6 hG ⟨fun hc118 => ?_,fun hc118 => ?_⟩
          ·refine .q 6 hG ⟨fun hc121 => ?_,fun hc121 => ?_⟩
           ·refine .D7 [j1,j1,j1,j1,j1,j1,j1,j0] (by kernel_rfl) 8 [[],[(122,0)],[],[],[(124,2),(125,3)],[],[(123,1),(126,4)],[(128,6)]] [4,6,7] a8 (by kernel_rfl) a8 (by kernel_rfl) (by decide) ?_
            refine⟨_,fun H=>j6.A9 m8.l5 Z0 a8 (.t a8) a8,?_⟩
            refine⟨_,fun H=>j6.ldR (fun x=>x.j4) a3H (.t a8) (u4.app .z4) (fun _=>a8) a8,?_⟩
            refine⟨_,fun H=>j6.move (.t a8) a8,?_⟩
            refine⟨_,fun H=>j6.move (.t a8) a8,?_⟩
            refine .inl ?_
            refine⟨_,fun H=>j6.S4 A5 (.t a8) (u4.app .z3) a8,?_⟩
            refine .inl (.inl ?_)
            refine⟨⟨([],j2 [c8,c8,c8,c8,c8,c8,c8,_]),a8⟩,?_⟩
            refine A0.a1m hG (F0 _ _ _ (by first|assumption|exact x4 _) (by omega) (by omega)) .z7 (.cons (.t rfl) (.cons (.t rfl) .nil)) (by rintro _ _ ⟨_,_,_,_,_,_,rfl⟩;exact⟨_,rfl⟩) fun r126 B126 hr126 => ?_
            obtain⟨v126,d126,h0126,h1126,hd126,rfl,hB⟩:=hr126
            cases hB
            refine⟨⟨([],j2 [c8,c8,c8,c8,c8,c8,c8,_]),a8⟩,?_⟩
            refine A0.ofP (j6.V2 a05 underlying27 rfl .z (.t rfl) (by omega) (by omega) ?_)
            refine⟨⟨([],j2 [c8,c8,c8,c8,c8,c8,c8,_]),a8⟩,?_⟩
            refine A0.ofP (j6.c12 p9.l2 b7x rfl (.t rfl) ?_)
            refine⟨⟨([],j2 [c8,c8,c8,c8,c8,c8,c8,_]),a8⟩,?_⟩
            show D0 _ _ _ _ _ [_] ((129,_)::(128,_)::(127,_)::(126,_)::(125,_)::(124,_)::(123,_)::(122,_)::_) _
            refine .n (.stE A5 (.t a8) (.t a8) .z (by omega) ?_)
            have hce:=hb3 (b.j4[v126.toNat]'(by simp at *;omega)) (List.getElem_mem _)
            refine .q 2 hG ?_
            refine .u0 hC .z1 (.u0 hC .z (.a3m .z4 (fun n0 I L hr cs hc=>K5 hc (u4.fz .z1 hr) (u4.fz .z hr)) (.conv 3 (.ln (ptr b3 0) (j9.id (α:=P9))) a8 (fun _ _ _ _ _ h=>h) ?_)))
            refine .q 5 hG ?_
            refine⟨_,.r1 a8 (.cell U3 a8 .z2),?_⟩
            refine⟨_,.cons .z7 (.nil),?_⟩
            exact⟨_,⟨by first|simpa [C5] using Nat.le_succ_of_le hb1|(simp [C5];omega),by first|simpa [C5] using Nat.le_succ_of_le hb2|(simp [C5];omega),by first|exact T7 hb3|exact T8 hb3 _|exact a0a hb3 (Nat.zero_le _)|exact I6 hb3 (by have hq:=hce;exact Nat.le_succ_of_le hq)|exact I6 hb3 (by have hq:=hcd;show(([]++_) ++ [_]).length≤_;rw [List.nil_append,List.length_append];exact Nat.succ_le_succ hq),by first|(simp [C5,Y2];omega)⟩,_,by assumption,rfl,rfl⟩
           ·refine .q 2 hG ?_
            refine .u0 hC .z1 (.u0 hC .z (.a3m .z4 (fun n0 I L hr cs hc=>K5 hc (u4.fz .z1 hr) (u4.fz .z hr)) (.conv 3 (.ln (ptr b3 0) (j9.id (α:=P9))) a8 (fun _ _ _ _ _ h=>h) ?_)))
            refine .q 5 hG ?_
            refine⟨_,.r1 a8 (.cell U3 a8 .z2),?_⟩
            refine⟨_,.cons .z7 (.nil),?_⟩
            exact⟨_,⟨by first|simpa [C5] using Nat.le_succ_of_le hb1|(simp [C5];omega),by first|simpa [C5] using Nat.le_succ_of_le hb2|(simp [C5];omega),by first|exact T7 hb3|exact T8 hb3 _|exact a0a hb3 (Nat.zero_le _)|exact I6 hb3 (by have hq:=hce;exact Nat.le_succ_of_le hq)|exact I6 hb3 (by have hq:=hcd;show(([]++_) ++ [_]).length≤_;rw [List.nil_append,List.length_append];exact Nat.succ_le_succ hq),by first|(simp [C5,Y2];omega)⟩,_,by assumption,rfl,rfl⟩
          ·refine .q 6 hG ⟨fun hc130 => ?_,fun hc130 => ?_⟩
           ·refine .q 6 hG ⟨fun hc133 => ?_,fun hc133 => ?_⟩
            ·refine .q 4 hG ?_
             refine .km hG (F0 _ _ _ (by first|assumption|exact x4 _) (by omega) (by omega)) .z7 (by rintro _ _ ⟨_,_,_,_,_,_,rfl⟩;exact⟨_,rfl⟩) fun r136 B136 hr136 => ?_
             obtain⟨v136,d136,h0136,h1136,hd136,rfl,hB⟩:=hr136
             cases hB
             refine .q 2 hG ?_
             have hcd:((j9.id.comp p9.l1).get (b.j4[v136.toNat]'(by simp at *;omega))).length≤N:=hb3 _ (List.getElem_mem _)
             refine .D7 [j1,j1,j1,j1,j1,j1,j1,j0] (by kernel_rfl) 17 [[],[(137,0)],[],[],[],[(141,4)],[],[(142,5),(143,6)],[(144,7)],[(145,8)],[(140,3),(146,9)],[],[(148,11)],[(149,12)],[(147,10),(150,13)],[(138,1),(139,2)],[(152,15)]] [3,10,12,13,14] a8 (by kernel_rfl) a8 (by kernel_rfl) (by decide) ?_
             refine⟨_,fun H=>j6.A9 m8.l5 Z0 a8 (.t a8) a8,?_⟩
             refine⟨_,fun H=>j6.ldR (fun x=>x.j4) a3H (.t a8) (u4.app .z4) (fun _=>a8) a8,?_⟩
             refine⟨_,fun H=>j6.move (.t a8) a8,?_⟩
             refine .inl ?_
             refine⟨_,fun H=>j6.A9 m8.l5 Z0 a8 (.t a8) a8,?_⟩
             refine⟨_,fun H=>j6.ldR (fun x=>x.j4) a3H (.t a8) (u4.app .z4) (fun _=>a8) a8,?_⟩
             refine⟨_,fun H=>j6.move (.t a8) a8,?_⟩
             refine⟨_,fun H=>j6.V2 a05 underlying27 a8 (u4.app .z) (.t a8) (by omega) (by omega) a8,?_⟩
             refine⟨_,fun H=>j6.c12 p9.l1 a4s a8 (.t a8) a8,?_⟩
             refine⟨_,fun H=>j6.ldE a7I (.t a8) (u4.app .z) (by omega) a8,?_⟩
             refine .inl ?_
             refine⟨_,fun H=>j6.move (.t a8) a8,?_⟩
             refine .inl (.inl (.inl ?_))
             refine⟨_,fun H=>j6.V2 a05 underlying27 a8 (u4.app .z) (.t a8) (by omega) (by omega) a8,?_⟩
             refine⟨_,fun H=>j6.c12 p9.l1 a4s a8 (.t a8) a8,?_⟩
             refine⟨⟨([],j2 [c8,c8,c8,c8,c8,c8,c8,_]),a8⟩,?_⟩
             refine A0.buildSlice (α:=j3) Q2 underlying83 .nil rfl (by decide) fun b140 => ?_
             refine⟨⟨([_],j2 [c8,c8,c8,c8,c8,c8,c8,_]),a8⟩,?_⟩
             refine A0.append b8d (.inl ⟨_,underlying83⟩) rfl .z (.v (.t rfl)) (by simp<;>omega) (by simp<;>omega) (fun w147 => ?_) rfl
             refine⟨⟨([_],j2 [c8,c8,c8,c8,c8,c8,c8,_]),a8⟩,?_⟩
             refine A0.a1m hG (R5 _ _ _ (by assumption)) .z8 (.cons (.t rfl) (.cons .b .nil)) (by rintro _ _ ⟨_,_,_,_,_,_,rfl⟩;exact⟨_,rfl⟩) fun r149 B149 hr149 => ?_
             obtain⟨p149,hp149,hk149,d149,hd149,rfl,hB⟩:=hr149
             cases hB
             refine⟨⟨([_],j2 [c8,c8,c8,c8,c8,c8,c8,_]),a8⟩,?_⟩
             refine A0.ofP (j6.E7 (α:=j3) Q2 underlying83 (.cons (.t rfl) .nil) rfl (by decide) ?_)
             refine⟨⟨([_],j2 [c8,c8,c8,c8,c8,c8,c8,_]),a8⟩,?_⟩
             refine A0.append b8d (.inl ⟨_,underlying83⟩) rfl .z (.v (.c rfl)) (by simp<;>omega) (by simp<;>omega) (fun w151 => ?_) rfl
             refine⟨⟨([_],j2 [c8,c8,c8,c8,c8,c8,c8,_]),a8⟩,?_⟩
             show D0 _ _ _ _ _ [_] ((153,_)::(152,_)::(151,_)::(150,_)::(149,_)::(148,_)::(147,_)::(146,_)::(145,_)::(144,_)::(143,_)::(142,_)::(141,_)::(140,_)::(139,_)::(138,_)::(137,_)::_) _
             refine .u0 hC .z (.as 151 a8 .z (.n (.stE a7I (.t a8) (.t a8) .z1 (by omega) ?_)))
             refine .q 2 hG ?_
             refine .u0 hC .z2 (.u0 hC .z1 (.a3m .z5 (fun n0 I L hr cs hc=>K5 hc (u4.fz .z2 hr) (u4.fz .z1 hr)) (.conv 3 (.ln (ptr b3 0) (j9.id (α:=P9))) a8 (fun _ _ _ _ _ h=>h) ?_)))
             refine .q 5 hG ?_
             refine⟨_,.r1 a8 (.cell U3 a8 .z3),?_⟩
             refine⟨_,.cons .z8 (.nil),?_⟩
             exact⟨_,⟨by first|simpa [C5] using Nat.le_succ_of_le hb1|(simp [C5];omega),by first|simpa [C5] using Nat.le_succ_of_le hb2|(simp [C5];omega),by first|exact T7 hb3|exact T8 hb3 _|exact a0a hb3 (Nat.zero_le _)|exact I6 hb3 (by have hq:=hce;exact Nat.le_succ_of_le hq)|exact I6 hb3 (by have hq:=hcd;show(([]++_) ++ [_]).length≤_;rw [List.nil_append,List.length_append];exact Nat.succ_le_succ hq),by first|(simp [C5,Y2];omega)⟩,_,by assumption,rfl,rfl⟩
            ·refine .q 2 hG ?_
             refine .u0 hC .z1 (.u0 hC .z (.a3m .z4 (fun n0 I L hr cs hc=>K5 hc (u4.fz .z1 hr) (u4.fz .z hr)) (.conv 3 (.ln (ptr b3 0) (j9.id (α:=P9))) a8 (fun _ _ _ _ _ h=>h) ?_)))
             refine .q 5 hG ?_
             refine⟨_,.r1 a8 (.cell U3 a8 .z2),?_⟩
             refine⟨_,.cons .z7 (.nil),?_⟩
             exact⟨_,⟨by first|simpa [C5] using Nat.le_succ_of_le hb1|(simp [C5];omega),by first|simpa [C5] using Nat.le_succ_of_le hb2|(simp [C5];omega),by first|exact T7 hb3|exact T8 hb3 _|exact a0a hb3 (Nat.zero_le _)|exact I6 hb3 (by have hq:=hce;exact Nat.le_succ_of_le hq)|exact I6 hb3 (by have hq:=hcd;show(([]++_) ++ [_]).length≤_;rw [List.nil_append,List.length_append];exact Nat.succ_le_succ hq),by first|(simp [C5,Y2];omega)⟩,_,by assumption,rfl,rfl⟩
           ·refine .q 6 hG ⟨fun hc154 => ?_,fun hc154 => ?_⟩
            ·refine .q 1 hG ?_
             refine .p (.A9 m8.l5 Z0 a8 (.t a8) (.p (.ldR (fun x=>x.j4) a3H (.t a8) .z4 (fun _=>a8) ?_)))
             refine .bs a8 (by decide) fun b158=>(.u0 hC .z (.as 158 a8 .z (.p (.bS1 p9.l0 a8 a05 b5W (fun c0=>(⟨c0,[],default⟩:p9)) (fun _=>a8) a8 a8 (.t a8) ?_))))
             refine .bs a8 (by decide) fun b160 => ?_
             refine .ap (by simp<;>omega) (by simp<;>omega) fun w161 => .p (.A9 m8.l5 Z0 a8 (.t a8) (.n (.stF (fun y x => { x with j4:=y }) a3H (.t a8) (.b3C a8 .z2) .z6 (fun _ _=>a8) ?_)))
             refine .q 2 hG ?_
             refine .u0 hC .z3 (.u0 hC .z2 (.a3m .z6 (fun n0 I L hr cs hc=>K5 hc (u4.fz .z3 hr) (u4.fz .z2 hr)) (.conv 3 (.ln (ptr b3 0) (j9.id (α:=P9))) a8 (fun _ _ _ _ _ h=>h) ?_)))
             refine .q 5 hG ?_
             refine⟨_,.r1 a8 (.cell U3 a8 .z4),?_⟩
             refine⟨_,.cons .z9 (.nil),?_⟩
             exact⟨_,⟨by first|simpa [C5] using Nat.le_succ_of_le hb1|(simp [C5];omega),by first|simpa [C5] using Nat.le_succ_of_le hb2|(simp [C5];omega),by first|exact T7 hb3|exact T8 hb3 _|exact a0a hb3 (Nat.zero_le _)|exact I6 hb3 (by have hq:=hce;exact Nat.le_succ_of_le hq)|exact I6 hb3 (by have hq:=hcd;show(([]++_) ++ [_]).length≤_;rw [List.nil_append,List.length_append];exact Nat.succ_le_succ hq),by first|(simp [C5,Y2];omega)⟩,_,by assumption,rfl,rfl⟩
            ·refine .q 2 hG ?_
             refine .u0 hC .z1 (.u0 hC .z (.a3m .z4 (fun n0 I L hr cs hc=>K5 hc (u4.fz .z1 hr) (u4.fz .z hr)) (.conv 3 (.ln (ptr b3 0) (j9.id (α:=P9))) a8 (fun _ _ _ _ _ h=>h) ?_)))
             refine .q 5 hG ?_
             refine⟨_,.r1 a8 (.cell U3 a8 .z2),?_⟩
             refine⟨_,.cons .z7 (.nil),?_⟩
             exact⟨_,⟨by first|simpa [C5] using Nat.le_succ_of_le hb1|(simp [C5];omega),by first|simpa [C5] using Nat.le_succ_of_le hb2|(simp [C5];omega),by first|exact T7 hb3|exact T8 hb3 _|exact a0a hb3 (Nat.zero_le _)|exact I6 hb3 (by have hq:=hce;exact Nat.le_succ_of_le hq)|exact I6 hb3 (by have hq:=hcd;show(([]++_) ++ [_]).length≤_;rw [List.nil_append,List.length_append];exact Nat.succ_le_succ hq),by first|(simp [C5,Y2];omega)⟩,_,by assumption,rfl,rfl⟩
abbrev c4Y:Tag:=(j9.idx 0 (by decide)).set 7 default
abbrev c3W:Epo:=⟨1,c4Y⟩
theorem a9P {a:C9} {g:Ring} {b:P9} {v:y4} {e:Int} (hpl:∀ x∈a.x9,x.Plain.length≤1000000) (hl:b.j8.length≤1000000) (h:a7K a g b=(v,e)):p4 gl prog 13 [.v a,.v g,.v b] (fun r=>r = .t2 (.v v) (.v e)) :=
 (b9l a g b hpl hl).mono fun r hr=>by rw [hr,h]
theorem b0Y.other {B : C9} {root : Epo} {P : Pass} {G : List Dis} {T : List Tag} {r : Rq} {t : Tag} {n k : Nat} (h : b0Y B root P G T r t n k) (hk : k ≤ 6) (hf : B.K1 = true) (l : Int) {q : Rq} (hq : U5 q = true) (hne : q ≠ r) :
    a7K B (a2g root l) ⟨q,P.D3,P.A6,P.j8,t,G.map (bnd B P.Tag r)⟩=(default,19):=by
  have hc:=b0X h.sc hk hq t (bnd B P.Tag r) fun g=>⟨rfl,rfl⟩
  have hb:=a62 hc
  have he:a34 (a2g root l) P.D3=some root:=by rw [h.sc.a4N.1];exact b9d _ _
  rw [b0O (root:=root) hc he]
  have hn:=h.sc.a4N
  have hs:=h.sc.a5S
  have hr:J7 root.Number P.A6=true:=by unfold J7;simp;omega
  have ht:=b2u (a:=B) hr (List.all_eq_true.2 fun c hc=>(h.sc.cav c hc).1) h.sc.walk
  rw [b0P (b:=⟨q,P.D3,P.A6,P.j8,t,G.map (bnd B P.Tag r)⟩) ht,if_pos]
  refine Or.inl fun hp => ?_
  unfold a0B at hp
  dsimp only at hp
  rw [if_pos hq] at hp
  obtain⟨y,hy,hyk,hym⟩:=b9c hf hp
  rcases h.a0n y hy with ⟨c,hc,hc1,hc2⟩|⟨h1,h2⟩|⟨g,_,_,h2⟩
  · rw [hym] at hc;exact absurd (Option.some.inj hc).symm hc1
  · exact hne (b6L hq h.rq (hym.symm.trans h2))
  · rw [hym] at h2;exact absurd (congrArg List.head? h2) (by simp [a2X,W6])
theorem a9Q:p4 gl prog 9 [] (fun r=>r = .v true):=by
 have h0:=a0i.start true default (root:=c3W) ⟨(by decide:(1:Int)≤1),(by decide:(1:Int)≤2)⟩ (A:=⟨true,default,0,[],[]⟩) (H6.new true default 2) rfl rfl (n:=1) (by decide) (by decide)
 obtain⟨A1,P,T,e1,hs,hh,hf,hser⟩:=h0
 have hp:=hs.c3V (by decide) (by decide) hh (r:=⟨1,1⟩) (by decide)
 obtain⟨b,t,B,hp,hB,hle⟩:=hp
 have hfree:B.K1=true:=hle.free.trans hf
 obtain⟨v,hv,hvn,hvl⟩:=hB.c2F (by decide) 1
 have hw:=hB.other (by decide) hfree 1 (q:=⟨1,2⟩) (by decide) (by decide)
 have hpl:=hB.sc.ok.b0K
 have hcv:=hB.sc.a4I
 have hc0:P.j8 = []:=List.length_eq_zero_iff.1 (by omega)
 refine p4.jn func9 (by kernel_rfl) 66 rfl fun C hC hG => ?_
 refine .q 6 hG ?_
 refine .p (.bS1 m0.l0 a8 y9 a1i (fun c0=>(⟨c0,default,0,[],[]⟩:m0)) (fun _=>a8) a8 a8 .b (.p (.M8 _ A5 M6 (.cons (j9.idx 0 (by decide)) _ a8 (.u8 7 a8) .nil) a8 (.p (.bS2 u7.l0 u7.l1 a8 b1J c1S (fun c0 c1=>(⟨c0,c1⟩:u7)) (fun _ _=>a8) a8 a8 a8 (.i a8) (.t a8) (.p (.o8 hG (as3 (b8B _ _ _) e1) (.cons (.t a8) (.cons (.t a8) (.cons (.i a8) .nil))) ?_)))))))
 refine .q 5 hG fun b1 => ?_
 refine .q 1 hG fun b2 => ?_
 refine .q 8 hG ?_
 refine .p (.bS2 u3.l0 u3.l1 a8 a8v c25 (fun c0 c1=>(⟨c0,c1⟩:u3)) (fun _ _=>a8) a8 a8 a8 (.i a8) (.i a8) (.p (.o8 hG (hp.c (by omega) (by decide) (by decide)) (.cons (.t a8) (.cons (.t a8) (.cons .b3q (.cons (.t a8) .nil)))) ?_)))
 refine .q 5 hG fun b4 => ?_
 refine .q 6 hG ?_
 refine .p (.M8 _ A5 M6 (.cons (j9.idx 0 (by decide)) _ a8 (.u8 7 a8) .nil) a8 (.p (.bS2 u7.l0 u7.l1 a8 b1J c1S (fun c0 c1=>(⟨c0,c1⟩:u7)) (fun _ _=>a8) a8 a8 a8 (.i a8) (.t a8) ?_)))
 refine .bs a8 (by decide) fun b29=>(.u0 hC .z (.as 29 a8 .z (.p (.bS2 C8.l0 C8.l1 a8 c0j c26 (fun c0 c1=>(⟨c0,c1⟩:C8)) (fun _ _=>a8) a8 a8 a8 (.t a8) (.i a8) ?_))))
 refine .q 1 hG fun b6 => ?_
 refine .q 7 hG ?_
 refine .p (.o8 hG (a9P hpl (by show P.j8.length≤_;omega) hv) (.cons (.t rfl) (.cons (.t rfl) (.cons (.t rfl) .nil))) ?_)
 refine .q 4 hG fun b7 => ?_
 refine .q 14 hG ?_
 refine .p (.o8 hG (a9P hpl (by show P.j8.length≤_;omega) hw) (.cons (.t rfl) (.cons (.t rfl) (.cons (.t rfl) .nil))) ?_)
 refine .q 4 hG fun b9 => ?_
 refine .q 22 hG ?_
 refine .go 59 a8 (.t a8) (fun hg64 => .a8p underlying26 sz5 underlying5 b3b (.q a8 hg64) (.q a8 hg64) a8) ?_
 refine .q 4 hG ?_
 refine .e1 a8 a8 ?_
 simp [hvn,hvl,hc0]
theorem c0Z.facts {s:Scn} {b:P9} (h:c0Z s b):(∀ x∈s.A.x9,x.Plain.length≤1000000)∧Tb 100 b:=by
 obtain⟨root,T,t,n,k,hp,hn,hk,h2,hg,rfl⟩:=h.ex
 have h1:=hp.sc.a4I
 have h3:=hp.sc.ngr
 have hr:=a1d hp.rq
 refine⟨hp.sc.ok.b0K,⟨by show s.Pass.j8.length≤_;omega,by show(s.L7.map _).length≤_;simp;omega,fun d hd => ?_,?_⟩⟩
 ·obtain⟨g,hg,rfl⟩:=List.mem_map.1 hd
  have:=(hp.sc.a3E g hg).a7J
  show g.l8.length≤100;omega
 ·show 0≤s.Request.E0∧s.Request.E0≤_;omega
end Go.Proofs.YtmmclghiidoldaaGreatDoor
namespace Go.Ab
open Go.Fl Go.RowKit
open o7 (rep)
structure Fn1 (P:Program) (α β:Type) where
 o:Option (α→β)
instance {P:Program} {α β:Type}:Inhabited (Fn1 P α β):=⟨⟨none⟩⟩
def c4Z (P:Program) {α β:Type} [o7 α] [o7 β] (I:Im) (x:Option (α→β)) (u:Value):Prop:=match x with
 | none=>u = .nilFunc
 | some g=>Clo P (fun x:α => [.v x]) (fun x => .v (g x)) I u
instance {P:Program} {α β:Type} [o7 α] [o7 β]:o7 (Fn1 P α β) where
 size:=1
 agg:=false
 rep I x cs:=∃ u,cs = [u]∧c4Z P I x.o u
 len h:=by obtain⟨u,h,_⟩:=h;simp [h]
 mono hle h:=by
  obtain⟨u,h1,h2⟩:=h
  refine⟨u,h1,?_⟩
  rename_i x _
  cases hx:x.o with
  | none=>rw [hx] at h2;exact h2
  | some g=>rw [hx] at h2;exact Clo.mono hle h2
 one _:=rfl
 flat h:=by
  obtain⟨u,rfl,h2⟩:=h
  rename_i x
  cases hx:x.o with
  | none=>rw [hx] at h2;obtain rfl:u = .nilFunc:=h2;rfl
  | some g=>rw [hx] at h2;obtain⟨f,fi,ca,rfl,_⟩:=h2;rfl
instance {P:Program} {α β:Type} [o7 α] [o7 β]:H4 (Fn1 P α β):=⟨[.nilFunc],fun _=>⟨_,rfl,rfl⟩⟩
section
variable {P:Program} {C:Ctx} {N:Nat} {σ:x7} {H:j7} {G:Gl} {f:FuncId} {d:Option Nat} {args:Array Operand} {tys:Array TypeId} {ty:TypeId} {ps:String} {af:Array Edge} {g:Option (Nat×Bool)} {K:AV→Prop}
theorem j6.a5W (hG : G.p C.I0) {α β : Type} [o7 α] [o7 β] (g1 : α → β) {caps : List AV} (h : ∀ x, p4 G P f (caps ++ [.v x]) (fun r => r = .v (g1 x))) (hv : a19 C σ H args.toList caps) (k : K (.v (Fn1.mk (P := P) (some g1)))) :
    j6 P N C ⟨d,.makeFunc (.func f) args #[],ty,ps,af,g⟩ σ H K := .C0 (.v (Fn1.mk (P:=P) (some g1))) (fun ρ I L hs=>fun a w ha hm=>by
      obtain⟨vs,h1,h2⟩:=hv.get hs
      have e:=ha.evL h1
      have hargs:args.map a.eval=vs.toArray:=by rw [←e];cases args;simp
      refine⟨.func (.func f) vs.toArray #[],⟨_,⟨_,rfl,f,vs.toArray,#[],rfl,fun J hle i ws hw => ?_⟩,rfl⟩,by simp [execOp,Instr.makeFunc,hargs]⟩
      have h3:=h i J (vs++ws) (G.mono (hs.U6.trans hle) hG) ((h2.mono hle).append hw)
      simp only [List.append_toArray,Array.append_empty]
      exact h3.mono fun v K _ ⟨x,h4,h5⟩=>h5▸h4) k
theorem j6.c00 {α β : Type} [o7 α] [o7 β] {v : Fn1 P α β} {g1 : α → β} {x : α} {t : Nat} {a : Operand} (ht : E9 σ t = some (.v v)) (hv : v.o = some g1) (ha : E6 C σ H a (.v x)) (k : K (.v (g1 x))) :
    j6 P N C ⟨d,.call ⟨.value (.tmp t),#[a],tys⟩,ty,ps,af,g⟩ σ H K:=fun ρ I L hs=>by
  obtain⟨u,h1,cs,⟨u',rfl,h2⟩,h3⟩:=hs.env t _ ht
  obtain rfl:u=u':=h3
  rw [hv] at h2
  obtain⟨f,fi,ca,rfl,h2⟩:=h2
  obtain⟨vs,h3,h4⟩:=(a19.cons ha .nil).get hs
  exact OpX.c1l (F := .tmp t) h1 h3 (h2 I (Le.refl I) x vs h4) fun v J hle h5=>⟨rfl,_,h5,k⟩
end
theorem Fl.H7.b2H {P:Program} {N:Nat} {ρ:Env} {I:Im} {L:Lh} {φ:Value→Prop} {d:Option Nat} {x y:Operand} {T T2:TypeId} {ty:TypeId} {ps:String} {af:Array Edge} {g:Option (Nat×Bool)} {m n:UInt64} (hx:ev ρ x=some (Fl.u64 m)) (hy:ev ρ y=some (Fl.u64 n)) (hn:n.toNat≠0) (k:φ (Fl.u64 (m % n))):H7 P N ⟨d,.binOp .rem T x y T2,ty,ps,af,g⟩ ρ I L φ :=
 .mk k fun a w ha _=>by
  have h0:((m.toNat:Int).tmod n.toNat)=((m % n).toNat:Int):=by rw [UInt64.toNat_mod,Int.tmod_eq_emod_of_nonneg (by omega)];rfl
  have h1:(n.toNat:Int)≠0:=by omega
  simp [execOp,ha.ev hx,ha.ev hy,eqGuard,binOp,Op.intDiv,Fl.u64,wrap_u64,h0,h1]
  try omega
theorem j6.b2H {P : Program} {C : Ctx} {N : Nat} {σ : x7} {H : j7} {K : AV → Prop} {d : Option Nat} {ty : TypeId} {ps : String} {af : Array Edge} {g : Option (Nat × Bool)} {x y : Operand} {T T2 : TypeId} {m n : UInt64} (hx : E6 C σ H x (.v m)) (hy : E6 C σ H y (.v n)) (hn : n.toNat ≠ 0) (k : K (.v (m % n))) :
    j6 P N C ⟨d,.binOp .rem T x y T2,ty,ps,af,g⟩ σ H K := .C0 (.v (m % n)) (fun ρ I L hs=>Fl.H7.b2H (hx.a1j hs) (hy.a1j hs) hn ⟨_,rfl,rfl⟩) k
theorem D0.conv {P:Program} {C:Ctx} {N:Nat} {ops:Array Oper} {σ:x7} {H:j7} {Q:Exit→x7→j7→Prop} (t:Nat) {a:AV} (a':AV) {l:List Oper} (ht:E9 σ t=some a) (h:∀ I u,E1 I a u→E1 I a' u) (k:D0 P C N ops Q l ((t,a')::σ) H):D0 P C N ops Q l σ H:=fun ρ I L hs=>by
 refine k ρ I L ⟨fun s b hb => ?_,hs.heap,hs.U6⟩
 rw [I9] at hb
 by_cases e:t=s
 ·subst e;simp at hb;subst hb
  obtain⟨u,h1,h2⟩:=hs.env t _ ht
  exact⟨u,h1,h I u h2⟩
 ·rw [if_neg e] at hb;exact hs.env s b hb
theorem c2K {α:Type} {l:List α} {k:Int} {n:Nat} (e:k=(n:Int)) (h:k.toNat < l.length):l[k.toNat]=l[n]'(by subst e;simpa using h):=by subst e;simp
end Go.Ab
namespace Go.Proofs.YtmmclghiidoldaaGreatDoor
open Go.Proofs.Tryz
open Go.Fl Go.Ab Go.Mac Go.Sha
abbrev Cx:=y1
abbrev Rd:=A8
def a2H (c:Cx):Rd:=⟨c.a3S,c.a3t,c.Minute,c.G0⟩
def a6u (c:Cx):Bool:=decide (0≤c.a3S)&&decide (c.a3S≤63)&&decide (0≤c.a3t)&&decide (c.a3t≤31)&&decide (0≤c.Minute)&&decide (c.Minute≤67108864)&&Q3 c.G0
def W8 (k:Int) (r:Rd) (q:Pred):Bool :=
 if k=1 then decide ((q.Mask >>> UInt64.ofNat r.a3S.toNat) &&& 1=1)
 else if k=2 then decide ((q.Mask >>> UInt64.ofNat r.a3t.toNat) &&& 1=1)
 else if k=3 then decide ((q.Mask >>> UInt64.ofNat (r.Minute/1440 % 7).toNat) &&& 1=1)
 else if k=4 then decide (q.P1≤r.Minute)&&decide (r.Minute≤q.To)
 else if k=5 then (if q.P1≤q.To then decide (q.P1≤r.Minute % 1440)&&decide (r.Minute % 1440≤q.To) else decide (q.P1≤r.Minute % 1440)||decide (r.Minute % 1440≤q.To))
 else if k=6 then decide (q.Name=r.G0)
 else true
def L9 (p:Pred) (c:Cx):Bool:=y5 p&&a6u c&&W8 p.Kind (a2H c) p
theorem c3X (s:Y4):y5 ⟨6,0,0,0,s,0⟩=Q3 s:=by unfold y5;simp
theorem c01 (r:Rd) (p:Pred) (h0:0≤r.a3S) (h1:r.a3S≤63):p4 gl prog 171 [.v r,.v p] (fun x=>x = .v (W8 1 r p)):=by
 refine p4.jn func171 (by kernel_rfl) 12 rfl fun C hC hG => ?_
 refine .q 3 hG fun b2 => ?_
 refine .q 1 hG fun b3 => ?_
 refine .q 8 hG ?_
 refine .p (.a6U (.t a8) (.t a8) (by omega) (by omega) ?_)
 refine .q 5 hG ?_
 refine .e1 a8 a8 ?_
 rfl
theorem c02 (r:Rd) (p:Pred) (h0:0≤r.a3t) (h1:r.a3t≤31):p4 gl prog 172 [.v r,.v p] (fun x=>x = .v (W8 2 r p)):=by
 refine p4.jn func172 (by kernel_rfl) 12 rfl fun C hC hG => ?_
 refine .q 3 hG fun b2 => ?_
 refine .q 1 hG fun b3 => ?_
 refine .q 8 hG ?_
 refine .p (.a6U (.t a8) (.t a8) (by omega) (by omega) ?_)
 refine .q 5 hG ?_
 refine .e1 a8 a8 ?_
 rfl
theorem c03 (r:Rd) (p:Pred) (h0:0≤r.Minute):p4 gl prog 173 [.v r,.v p] (fun x=>x = .v (W8 3 r p)):=by
 refine p4.jn func173 (by kernel_rfl) 14 rfl fun C hC hG => ?_
 refine .q 3 hG fun b2 => ?_
 refine .q 1 hG fun b3 => ?_
 refine .q 8 hG ?_
 refine .p (.quo (.t a8) (.i a8) (by omega) (by omega) (.p (.rem (.t a8) (.i a8) (by omega) (by omega) (.p (.a6U (.t a8) (.t a8) (by omega) (by omega) ?_)))))
 refine .q 5 hG ?_
 refine .e1 a8 a8 ?_
 rfl
theorem c04 (r:Rd) (p:Pred):p4 gl prog 174 [.v r,.v p] (fun x=>x = .v (W8 4 r p)):=by
 refine p4.jn func174 (by kernel_rfl) 17 rfl fun C hC hG => ?_
 refine .q 3 hG fun b2 => ?_
 refine .q 1 hG fun b3 => ?_
 refine .q 19 hG ?_
 refine .e1 a8 a8 ?_
 rfl
theorem b9o (r:Rd) (p:Pred) (h0:0≤r.Minute):p4 gl prog 175 [.v r,.v p] (fun x=>x = .v (W8 5 r p)):=by
 refine p4.jn func175 (by kernel_rfl) 34 rfl fun C hC hG => ?_
 refine .q 3 hG fun b2 => ?_
 refine .q 1 hG fun b3 => ?_
 refine .q 6 hG ?_
 refine .p (.rem (.t a8) (.i a8) (by omega) (by omega) ?_)
 refine .q 12 hG ⟨fun hc13 => ?_,fun hc13 => ?_⟩
 ·refine .q 15 hG ?_
  refine .e1 a8 a8 ?_
  unfold W8;rw [if_neg (by decide),if_neg (by decide),if_neg (by decide),if_neg (by decide),if_pos rfl,if_pos hc13]
 ·refine .q 16 hG ?_
  refine .e1 a8 a8 ?_
  unfold W8;rw [if_neg (by decide),if_neg (by decide),if_neg (by decide),if_neg (by decide),if_pos rfl,if_neg hc13]
theorem b6Q (r:Rd) (p:Pred):p4 gl prog 176 [.v r,.v p] (fun x=>x = .v (W8 6 r p)):=by
 refine p4.jn func176 (by kernel_rfl) 10 rfl fun C hC hG => ?_
 refine .q 3 hG fun b2 => ?_
 refine .q 1 hG fun b3 => ?_
 refine .q 12 hG ?_
 refine .e1 a8 a8 ?_
 rfl
theorem b9p (r:Rd) (p:Pred):p4 gl prog 177 [.v r,.v p] (fun x=>x = .v (W8 7 r p)):=by
 refine p4.jn func177 (by kernel_rfl) 5 rfl fun C hC hG => ?_
 refine .q 3 hG fun b2 => ?_
 refine .q 1 hG fun b3 => ?_
 refine .q 7 hG ?_
 refine .e1 a8 a8 ?_
 rfl
theorem b5H (c:Cx):p4 gl prog 57 [.v c] (fun r=>r = .v (a6u c)):=by
 refine p4.jn func57 (by kernel_rfl) 37 rfl fun C hC hG => ?_
 refine .q 3 hG fun b1 => ?_
 refine .q 3 hG ?_
 refine .y6 hC .z (.L6 1 a8 .z ?_)
 refine .q 32 hG ?_
 refine .go 31 a8 (.t a8) (fun hg34 => .bS2 j3.l0 j3.l4 a8 Q2 a6G (fun c0 c4=>(⟨c0,0,0,0,c4,0⟩:j3)) (fun _ _=>a8) a8 a8 a8 (.i a8) (.q a8 hg34) a8) ?_
 refine .kg hG (a1W _) ?_
 refine .q 4 hG ?_
 refine .e1 a8 a8 ?_
 refine congrArg AV.v ?_
 unfold a6u
 rw [c3X]
theorem b2I (c:Cx):p4 gl prog 60 [.v c] (fun r=>r = .v (a6u c)):=by
 refine p4.jn func60 (by kernel_rfl) 36 rfl fun C hC hG => ?_
 refine .q 3 hG fun b1 => ?_
 refine .q 3 hG ?_
 refine .y6 hC .z (.L6 1 a8 .z ?_)
 refine .q 32 hG ?_
 refine .kg hG (b0w _) ?_
 refine .q 4 hG ?_
 refine .e1 a8 a8 ?_
 rfl
theorem b9q {c:Cx} (h:a6u c=true):0≤c.a3S∧c.a3S≤63∧0≤c.a3t∧c.a3t≤31∧0≤c.Minute∧c.Minute≤67108864:=by
 unfold a6u at h
 simp only [Bool.and_eq_true,decide_eq_true_eq] at h
 omega
theorem a9R {p:Pred} (h:y5 p=true):p.Kind=1∨p.Kind=2∨p.Kind=3∨p.Kind=4∨p.Kind=5∨p.Kind=6∨p.Kind=7:=by
 unfold y5 at h
 by_cases h1:p.Kind=1∨p.Kind=2∨p.Kind=3
 ·omega
 rw [if_neg h1] at h
 by_cases h4:p.Kind=4
 ·omega
 by_cases h5:p.Kind=5
 ·omega
 by_cases h6:p.Kind=6
 ·omega
 by_cases h7:p.Kind=7
 ·omega
 rw [if_neg h4,if_neg h5,if_neg h6,if_neg h7] at h;cases h
theorem c40 (m:UInt64):(m % 2=1)↔(m &&& 1=1):=by
 rw [←UInt64.toNat_inj,←UInt64.toNat_inj,UInt64.toNat_mod,UInt64.toNat_and]
 show m.toNat % 2=1↔m.toNat &&& 1=1
 rw [Nat.and_one_is_mod]
abbrev HF:=Fn1 prog Pred Bool
theorem c3Y:G2 prog 126 HF := .ok (by kernel_rfl)
theorem c1F:G2 prog 232 (I8 8 HF) := .ok (by kernel_rfl)
instance:TyJ prog 232 (I8 8 HF):=⟨c1F⟩
theorem c2L {v:Int} (h0:0≤v) (h1:v≤63):(UInt64.ofInt v).toNat=v.toNat:=by rw [ofInt_ofNat h0,UInt64.toNat_ofNat'];omega
theorem b4z (m:UInt64) {v:Int} (h0:0≤v):decide ((m >>> UInt64.ofNat v.toNat) &&& 1=1)=decide ((m >>> UInt64.ofInt v) % 2=1):=by rw [←ofInt_ofNat h0];exact decide_eq_decide.2 (c40 _).symm
theorem c05 (p:Pred) (c:Cx):p4 gl prog 118 [.v p,.v c] (fun r=>r = .v (L9 p c)):=by
 refine p4.jn func118 (by kernel_rfl) 37 rfl fun C hC hG => ?_
 refine .q 3 hG fun b2 => ?_
 refine .q 1 hG fun b3 => ?_
 refine .q 4 hG ?_
 refine .y6 hC .z (.L6 3 a8 .z (.y6 hC .z1 (.L6 2 a8 .z1 ?_)))
 refine .q 2 hG ?_
 refine .k hG (a1W _) ?_
 refine .q 3 hG ?_
 refine .kg hG (b5H _) ?_
 refine .q 3 hG ?_
 refine .cond (.t a8) (fun hc14 => ?_) (fun hc14 => ?_)
 ·refine .q 5 hG ?_
  refine .e1 a8 a8 ?_
  refine congrArg AV.v (Eq.symm ?_)
  unfold L9
  simp at hc14
  cases hp:y5 p<;>simp_all
 ·refine .q 2 hG ?_
  have hq:y5 p=true∧a6u c=true:=by simp at hc14;exact hc14
  have hk:=a9R hq.1
  have hx:=b9q hq.2
  refine .q 2 hG ?_
  refine .conv 15 (.v (a2H c)) a8 (fun _ _ h=>h) ?_
  refine .q 1 hG fun b5 => ?_
  refine .q 5 hG ?_
  refine .p (.a5W hG (W8 1 (a2H c)) (fun x=>c01 _ x hx.1 hx.2.1) (.cons (.t a8) .nil) ?_)
  refine .q 1 hG ?_
  refine .p (.a5W hG (W8 2 (a2H c)) (fun x=>c02 _ x hx.2.2.1 hx.2.2.2.1) (.cons (.t a8) .nil) ?_)
  refine .q 1 hG ?_
  refine .p (.a5W hG (W8 3 (a2H c)) (fun x=>c03 _ x hx.2.2.2.2.1) (.cons (.t a8) .nil) ?_)
  refine .q 1 hG ?_
  refine .p (.a5W hG (W8 4 (a2H c)) (fun x=>c04 _ x) (.cons (.t a8) .nil) ?_)
  refine .q 1 hG ?_
  refine .p (.a5W hG (W8 5 (a2H c)) (fun x=>b9o _ x hx.2.2.2.2.1) (.cons (.t a8) .nil) ?_)
  refine .q 1 hG ?_
  refine .p (.a5W hG (W8 6 (a2H c)) (fun x=>b6Q _ x) (.cons (.t a8) .nil) ?_)
  refine .q 1 hG ?_
  refine .p (.a5W hG (W8 7 (a2H c)) (fun x=>b9p _ x) (.cons (.t a8) .nil) (.p (.M8 _ c1F c1f (.cons (j9.idx 1 (by decide)) _ a8 (.t a8) (.cons (j9.idx 2 (by decide)) _ a8 (.t a8) (.cons (j9.idx 3 (by decide)) _ a8 (.t a8) (.cons (j9.idx 4 (by decide)) _ a8 (.t a8) (.cons (j9.idx 5 (by decide)) _ a8 (.t a8) (.cons (j9.idx 6 (by decide)) _ a8 (.t a8) (.cons (j9.idx 7 (by decide)) _ a8 (.t a8) .nil))))))) a8 ?_)))
  refine .q 1 hG fun b6 => ?_
  refine .q 3 hG ?_
  refine .y6 hC .z (.L6 6 a8 .z (.draw (by kernel_rfl) 7 [[],[(31,0)],[(32,1)],[(33,2)],[],[(34,3),(35,4)],[(36,5)]] a8 (by kernel_rfl) a8 ?_))
  refine⟨_,j6.A7 j3.l0 (fun x=>x.Kind) a8e a8 (fun _=>a8) (.t a8) a8,?_⟩
  refine⟨_,j6.G6 P5 (.t a8) a8,?_⟩
  refine⟨_,j6.b9Z c1f (.t a8) (.t a8) (by omega) (by omega) a8,?_⟩
  refine⟨_,j6.G6 c3Y (.t a8) a8,?_⟩
  refine⟨_,j6.G6 Q2 (.t a8) a8,?_⟩
  refine⟨_,j6.c00 (g1:=W8 p.Kind (a2H c)) a8 (by rcases hk with e|e|e|e|e|e|e<;>(rw [c2K e];exact congrArg (fun k=>some (W8 k (a2H c))) e.symm)) (.t a8) a8,?_⟩
  refine⟨_,j6.assign (.t a8) a8,?_⟩
  show D0 _ _ _ _ _ [] ((4,_)::(36,_)::(35,_)::(34,_)::(33,_)::(32,_)::(31,_)::_) _
  refine .q 2 hG ?_
  refine .e1 a8 a8 ?_
  refine congrArg AV.v (Eq.symm ?_)
  unfold L9
  rw [hq.1,hq.2];rfl
theorem b9r (p:Pred) (c:Cx):p4 gl prog 120 [.v p,.v c] (fun r=>r = .v (L9 p c)):=by
 refine p4.jn func120 (by kernel_rfl) 99 rfl fun C hC hG => ?_
 refine .q 3 hG fun b2 => ?_
 refine .q 1 hG fun b3 => ?_
 refine .q 4 hG ?_
 refine .y6 hC .z (.L6 3 a8 .z (.y6 hC .z1 (.L6 2 a8 .z1 ?_)))
 refine .q 2 hG ?_
 refine .k hG (a0f _) ?_
 refine .q 3 hG ?_
 refine .kg hG (b2I _) ?_
 refine .q 3 hG ?_
 refine .cond (.t a8) (fun hc13 => ?_) (fun hc13 => ?_)
 ·refine .q 5 hG ?_
  refine .e1 a8 a8 ?_
  refine congrArg AV.v (Eq.symm ?_)
  unfold L9
  simp at hc13
  cases hp:y5 p<;>simp_all
 ·refine .q 3 hG ?_
  have hq:y5 p=true∧a6u c=true:=by simp at hc13;exact hc13
  have hk:=a9R hq.1
  have hx:=b9q hq.2
  refine .q 11 hG ⟨fun hc16 => ?_,fun hc16 => ?_⟩
  ·refine .q 1 hG ?_
   have z1:=c2L hx.1 hx.2.1
   refine .q 6 hG ?_
   refine .p (.a52 (.t a8) (.t a8) (by omega) (by omega) (.p (.b2H (.t a8) (.u64 2 a8) (by decide) ?_)))
   refine .q 4 hG ?_
   refine .e1 a8 a8 ?_
   refine congrArg AV.v (Eq.symm ?_)
   unfold L9
   rw [hq.1,hq.2,hc16];exact b4z _ hx.1
  ·refine .q 6 hG ⟨fun hc26 => ?_,fun hc26 => ?_⟩
   ·refine .q 1 hG ?_
    have z2:=c2L hx.2.2.1 (v:=c.a3t) (by omega)
    refine .q 6 hG ?_
    refine .p (.a52 (.t a8) (.t a8) (by omega) (by omega) (.p (.b2H (.t a8) (.u64 2 a8) (by decide) ?_)))
    refine .q 4 hG ?_
    refine .e1 a8 a8 ?_
    refine congrArg AV.v (Eq.symm ?_)
    unfold L9
    rw [hq.1,hq.2,hc26];exact b4z _ hx.2.2.1
   ·refine .q 6 hG ⟨fun hc36 => ?_,fun hc36 => ?_⟩
    ·refine .q 1 hG ?_
     have z3:=c2L (v:=c.Minute/1440 % 7) (by omega) (by omega)
     refine .q 5 hG ?_
     refine .p (.quo (.t a8) (.i a8) (by omega) (by omega) (.p (.rem (.t a8) (.i a8) (by omega) (by omega) ?_)))
     refine .q 1 hG ?_
     refine .p (.a52 (.t a8) (.t a8) (by omega) (by omega) (.p (.b2H (.t a8) (.u64 2 a8) (by decide) ?_)))
     refine .q 4 hG ?_
     refine .e1 a8 a8 ?_
     refine congrArg AV.v (Eq.symm ?_)
     unfold L9
     rw [hq.1,hq.2,hc36];exact b4z _ (by omega)
    ·refine .q 6 hG ⟨fun hc48 => ?_,fun hc48 => ?_⟩
     ·refine .q 17 hG ?_
      refine .e1 a8 a8 ?_
      refine congrArg AV.v (Eq.symm ?_)
      unfold L9
      rw [hq.1,hq.2,hc48];rfl
     ·refine .q 6 hG ⟨fun hc62 => ?_,fun hc62 => ?_⟩
      ·refine .q 4 hG ?_
       refine .p (.rem (.t a8) (.i a8) (by omega) (by omega) ?_)
       refine .q 12 hG ⟨fun hc71 => ?_,fun hc71 => ?_⟩
       ·refine .q 15 hG ?_
        refine .e1 a8 a8 ?_
        refine congrArg AV.v (Eq.symm ?_)
        unfold L9
        rw [hq.1,hq.2,hc62];exact if_pos hc71
       ·refine .q 16 hG ?_
        refine .e1 a8 a8 ?_
        refine congrArg AV.v (Eq.symm ?_)
        unfold L9
        rw [hq.1,hq.2,hc62];exact if_neg hc71
      ·refine .q 6 hG ⟨fun hc92 => ?_,fun hc92 => ?_⟩
       ·refine .q 10 hG ?_
        refine .e1 a8 a8 ?_
        refine congrArg AV.v (Eq.symm ?_)
        unfold L9
        rw [hq.1,hq.2,hc92];exact decide_eq_decide.2 eq_comm
       ·refine .q 6 hG ?_
        refine .e1 a8 a8 ?_
        refine congrArg AV.v (Eq.symm ?_)
        unfold L9
        rw [hq.1,hq.2,show p.Kind=7 by omega];rfl
def a9S (l:List Pred) (c:Cx):Int:=if l.all (fun p=>L9 p c) then 0 else (l.findIdx (fun p => !L9 p c):Nat)
theorem b2J {l:List Pred} {c:Cx} (h:l.all (fun p=>L9 p c)=true):a9S l c=0:=by unfold a9S;rw [if_pos h]
theorem b2K {l:List Pred} {c:Cx} (k:Nat) (hk:k < l.length) (h:(l.take k).all (fun p=>L9 p c)=true) (hn:L9 l[k] c=false):a9S l c=k∧l.all (fun p=>L9 p c)=false:=by
 have ha:l.all (fun p=>L9 p c)=false:=List.all_eq_false.2 ⟨l[k],List.getElem_mem hk,by simp [hn]⟩
 refine⟨?_,ha⟩
 unfold a9S
 rw [if_neg (by rw [ha];decide)]
 have:l.findIdx (fun p => !L9 p c)=k:=by
  rw [List.findIdx_eq hk]
  refine⟨by simp [hn],fun j hj => ?_⟩
  have h2:=List.all_eq_true.1 h l[j] (by rw [List.mem_take_iff_getElem];exact⟨j,by omega,rfl⟩)
  simp [h2]
 rw [this]
theorem c1G (l:List Pred) (c:Cx):p4 gl prog 58 [.v l,.v c] (fun r=>r = .t2 (.v (a9S l c)) (.v (l.all fun p=>L9 p c))):=by
 refine p4.jn func58 (by kernel_rfl) 21 rfl fun C hC hG => ?_
 refine .q 3 hG fun b3 => ?_
 refine .q 5 hG ?_
 refine .y6 hC .z (.L6 3 a8 .z (.T3 0 a8 fun hl=>(.drop ?_)))
 refine .q 6 hG ?_
 refine .D8 (α:=Nat) [(3,_),(8,_),(9,_)] (fun k R=>(10,.v (k:Int))::R) (fun k => []) (fun k=>k≤l.length∧(l.take k).all (fun p=>L9 p c)=true) (fun k=>l.length - k) (0) (.c2 a8 a8 (.cons a8 (.nil _))) ?_ (.c2 a8 a8 (.c2 a8 a8 (.nil _))) (a8) fun k hF => ?_
 ·simp
 obtain⟨h1,h2⟩:=hF
 refine .q 6 hG ⟨fun hc11 => ?_,fun hc11 => ?_⟩
 ·refine .q 6 hG ?_
  refine .ix (by omega) (by omega) ?_
  refine .q 2 hG fun b7 => ?_
  refine .q 4 hG ?_
  refine .y6 hC .z (.L6 7 a8 .z (.drop ?_))
  refine .q 3 hG ?_
  refine .p (.o8 hG (c05 _ _) (.cons (.t a8) (.cons (.t a8) .nil)) ?_)
  refine .q 2 hG ?_
  refine .cond (.t a8) (fun hc18 => ?_) (fun hc18 => ?_)
  ·refine .q 7 hG ?_
   refine .e2 a8 a8 a8 ?_
   have ha:=b2K k (by omega) h2 (by simpa using hc18)
   rw [ha.1,ha.2]
  ·refine .q 2 hG ?_
   refine .ad (by omega) (by omega) ?_
   refine .q 2 hG ?_
   refine⟨k+1,.c2 rfl rfl (.c2 rfl rfl (.nil _)),rfl,?_,by omega⟩
   refine⟨by omega,?_⟩;rw [all_succ _ _ _ (by omega),h2];simpa using hc18
 ·refine .q 7 hG ?_
  refine .e2 a8 a8 a8 ?_
  rw [List.take_of_length_le (by omega)] at h2
  rw [b2J h2,h2]
theorem b9s (l:List Pred) (c:Cx):p4 gl prog 61 [.v l,.v c] (fun r=>r = .t2 (.v (a9S l c)) (.v (l.all fun p=>L9 p c))):=by
 refine p4.jn func61 (by kernel_rfl) 21 rfl fun C hC hG => ?_
 refine .q 3 hG fun b3 => ?_
 refine .q 5 hG ?_
 refine .y6 hC .z (.L6 3 a8 .z (.T3 0 a8 fun hl=>(.drop ?_)))
 refine .q 4 hG ?_
 refine .D8 (α:=Nat) [(0,_),(3,_)] (fun k R=>(6,.v (k:Int))::R) (fun k => []) (fun k=>k≤l.length∧(l.take k).all (fun p=>L9 p c)=true) (fun k=>l.length - k) (0) (.c2 a8 a8 (.nil _)) ?_ (.c2 a8 a8 (.cons a8 (.nil _))) (a8) fun k hF => ?_
 ·simp
 obtain⟨h1,h2⟩:=hF
 refine .q 9 hG ⟨fun hc10 => ?_,fun hc10 => ?_⟩
 ·refine .q 4 hG ?_
  refine .draw (by kernel_rfl) 7 [[],[],[(13,0),(14,1)],[(15,2)],[],[(16,3),(17,4)],[(18,5)]] a8 (by kernel_rfl) a8 ?_
  refine⟨_,j6.move (.t a8) a8,?_⟩
  refine⟨_,j6.move (.t a8) a8,?_⟩
  refine⟨_,j6.idx Q2 underlying83 (.t a8) (.t a8) (by omega) (by omega) a8,?_⟩
  refine⟨_,j6.G6 Q2 (.t a8) a8,?_⟩
  refine⟨_,j6.G6 a8w (.t a8) a8,?_⟩
  refine⟨_,j6.o8 hG (b9r _ _) (.cons (.t a8) (.cons (.t a8) .nil)) a8,?_⟩
  refine⟨_,j6.not (.t a8) a8,?_⟩
  show D0 _ _ _ _ _ [] ((19,_)::(18,_)::(17,_)::(16,_)::(15,_)::(14,_)::(13,_)::_) _
  refine .q 1 hG ?_
  refine .cond (.t a8) (fun hc19 => ?_) (fun hc19 => ?_)
  ·refine .q 7 hG ?_
   refine .e2 a8 a8 a8 ?_
   have ha:=b2K k (by omega) h2 (by simpa using hc19)
   rw [ha.1,ha.2]
  ·refine .q 3 hG ?_
   refine .ad (by omega) (by omega) ?_
   refine .q 2 hG ?_
   refine⟨k+1,.c2 rfl rfl (.cons rfl (.nil _)),rfl,?_,by omega⟩
   refine⟨by omega,?_⟩;rw [all_succ _ _ _ (by omega),h2];simpa using hc19
 ·refine .q 7 hG ?_
  refine .e2 a8 a8 a8 ?_
  rw [List.take_of_length_le (by omega)] at h2
  rw [b2J h2,h2]
def a4c (b:P9) (c:Cx):Int:=if K7 b≠0 then K7 b else if a6u c=false then 1 else if ((a0h b.j8).all fun p=>L9 p c)=false then 22 else if (b.j4.all fun d=>d.l8.all fun p=>L9 p c)=false then 23 else 0
theorem a9T (b:P9) (c:Cx) (hl:b.j8.length≤1000000):p4 gl prog 20 [.v b,.v c] (fun r=>r = .v (a4c b c)):=by
 refine p4.jn func20 (by kernel_rfl) 47 rfl fun C hC hG => ?_
 refine .q 3 hG fun b2 => ?_
 refine .q 1 hG fun b3 => ?_
 refine .q 4 hG ?_
 refine .y6 hC .z (.L6 3 a8 .z (.y6 hC .z1 (.L6 2 a8 .z1 (.drop (.drop ?_)))))
 refine .q 2 hG ?_
 refine .k hG (b5y _ hl) ?_
 refine .q 8 hG ⟨fun hc15 => ?_,fun hc15 => ?_⟩
 ·refine .q 6 hG ?_
  refine .e1 a8 a8 ?_
  unfold a4c
  rw [if_pos hc15]
 ·refine .q 5 hG ?_
  refine .k hG (b5H _) ?_
  refine .q 2 hG ?_
  refine .cond (.t a8) (fun hc19 => ?_) (fun hc19 => ?_)
  ·refine .q 5 hG ?_
   refine .e1 a8 a8 ?_
   unfold a4c
   rw [if_neg hc15,if_pos (by simpa using hc19)]
  ·refine .q 3 hG ?_
   refine .draw (by kernel_rfl) 10 [[],[(21,0)],[(22,1)],[],[(23,2),(24,3)],[(25,4)],[(20,5)],[(20,5)],[(26,6)],[(27,7)]] a8 (by kernel_rfl) a8 ?_
   refine⟨_,j6.A7 u1.l3 (fun x=>x.j8) W0 a8 (fun _=>a8) (.t a8) a8,?_⟩
   refine⟨_,j6.G6 a86 (.t a8) a8,?_⟩
   refine⟨_,j6.o8 hG (a7r _ hl) (.cons (.t a8) .nil) a8,?_⟩
   refine⟨_,j6.G6 a8w (.t a8) a8,?_⟩
   refine⟨_,j6.o8 hG (c1G _ _) (.cons (.t a8) (.cons (.t a8) .nil)) a8,?_⟩
   refine⟨_,j6.move (.t a8) a8,?_⟩
   refine⟨_,j6.a03 (.t a8) a8,?_⟩
   refine⟨_,j6.a04 (.t a8) a8,?_⟩
   refine⟨_,j6.assign (.t a8) a8,?_⟩
   refine⟨_,j6.assign (.t a8) a8,?_⟩
   show D0 _ _ _ _ _ [] ((7,_)::(6,_)::(27,_)::(26,_)::(20,_)::(25,_)::(24,_)::(23,_)::(22,_)::(21,_)::_) _
   refine .q 6 hG ?_
   refine .cond (.t a8) (fun hc29 => ?_) (fun hc29 => ?_)
   ·refine .q 5 hG ?_
    refine .e1 a8 a8 ?_
    unfold a4c
    rw [if_neg hc15,if_neg (by simpa using hc19),if_pos (by simpa using hc29)]
   ·refine .q 10 hG ?_
    refine .D8 (α:=Nat) [(3,_),(31,_),(32,_)] (fun k R=>(33,.v (k:Int))::R) (fun k => []) (fun k=>k≤b.j4.length∧((b.j4.take k).all fun d=>d.l8.all fun p=>L9 p c)=true) (fun k=>b.j4.length - k) (0) (.c2 a8 a8 (.cons a8 (.nil _))) ?_ (.c2 a8 a8 (.c2 a8 a8 (.nil _))) (a8) fun k hF => ?_
    ·simp
    obtain⟨h1,h2⟩:=hF
    refine .q 6 hG ⟨fun hc34 => ?_,fun hc34 => ?_⟩
    ·refine .q 5 hG ?_
     refine .ix (by omega) (by omega) ?_
     refine .q 2 hG fun b9 => ?_
     refine .q 3 hG ?_
     refine .y6 hC .z (.L6 9 a8 .z (.drop (.T3 31 a8 fun hl31 => ?_)))
     refine .q 4 hG ?_
     refine .p (.o8 hG (c1G _ _) (.cons (.t a8) (.cons (.t a8) .nil)) ?_)
     refine .q 11 hG ?_
     refine .cond (.t a8) (fun hc45 => ?_) (fun hc45 => ?_)
     ·refine .q 5 hG ?_
      refine .e1 a8 a8 ?_
      unfold a4c
      rw [if_neg hc15,if_neg (by simpa using hc19),if_neg (by simpa using hc29),if_pos (List.all_eq_false.2 ⟨b.j4[k],List.getElem_mem _,by simpa using hc45⟩)]
     ·refine .q 2 hG ?_
      refine .ad (by omega) (by omega) ?_
      refine .q 2 hG ?_
      refine⟨k+1,.c2 rfl rfl (.c2 rfl rfl (.nil _)),rfl,?_,by omega⟩
      refine⟨by omega,?_⟩;rw [all_succ _ _ _ (by omega),h2];simpa using hc45
    ·refine .q 6 hG ?_
     refine .e1 a8 a8 ?_
     rw [List.take_of_length_le (by omega)] at h2
     unfold a4c
     rw [if_neg hc15,if_neg (by simpa using hc19),if_neg (by simpa using hc29),if_neg (by rw [h2];decide)]
theorem a8Q (b:P9) (c:Cx) (hl:b.j8.length≤1000000):p4 gl prog 21 [.v b,.v c] (fun r=>r = .v (a4c b c)):=by
 refine p4.jn func21 (by kernel_rfl) 49 rfl fun C hC hG => ?_
 refine .q 3 hG fun b2 => ?_
 refine .q 1 hG fun b3 => ?_
 refine .q 4 hG ?_
 refine .y6 hC .z (.L6 3 a8 .z (.y6 hC .z1 (.L6 2 a8 .z1 (.drop (.drop ?_)))))
 refine .q 2 hG ?_
 refine .k hG (b2A _ hl) ?_
 refine .q 8 hG ⟨fun hc14 => ?_,fun hc14 => ?_⟩
 ·refine .q 6 hG ?_
  refine .e1 a8 a8 ?_
  unfold a4c
  rw [if_pos hc14]
 ·refine .q 5 hG ?_
  refine .k hG (b2I _) ?_
  refine .q 2 hG ?_
  refine .cond (.t a8) (fun hc18 => ?_) (fun hc18 => ?_)
  ·refine .q 5 hG ?_
   refine .e1 a8 a8 ?_
   unfold a4c
   rw [if_neg hc14,if_pos (by simpa using hc18)]
  ·refine .q 3 hG ?_
   refine .draw (by kernel_rfl) 10 [[],[(20,0)],[(21,1)],[],[(22,2),(23,3)],[(24,4)],[(19,5)],[(19,5)],[(25,6)],[(26,7)]] a8 (by kernel_rfl) a8 ?_
   refine⟨_,j6.A7 u1.l3 (fun x=>x.j8) W0 a8 (fun _=>a8) (.t a8) a8,?_⟩
   refine⟨_,j6.G6 a86 (.t a8) a8,?_⟩
   refine⟨_,j6.o8 hG (a9F _ hl) (.cons (.t a8) .nil) a8,?_⟩
   refine⟨_,j6.G6 a8w (.t a8) a8,?_⟩
   refine⟨_,j6.o8 hG (b9s _ _) (.cons (.t a8) (.cons (.t a8) .nil)) a8,?_⟩
   refine⟨_,j6.move (.t a8) a8,?_⟩
   refine⟨_,j6.a03 (.t a8) a8,?_⟩
   refine⟨_,j6.a04 (.t a8) a8,?_⟩
   refine⟨_,j6.assign (.t a8) a8,?_⟩
   refine⟨_,j6.assign (.t a8) a8,?_⟩
   show D0 _ _ _ _ _ [] ((7,_)::(6,_)::(26,_)::(25,_)::(19,_)::(24,_)::(23,_)::(22,_)::(21,_)::(20,_)::_) _
   refine .q 6 hG ?_
   refine .cond (.t a8) (fun hc28 => ?_) (fun hc28 => ?_)
   ·refine .q 5 hG ?_
    refine .e1 a8 a8 ?_
    unfold a4c
    rw [if_neg hc14,if_neg (by simpa using hc18),if_pos (by simpa using hc28)]
   ·refine .q 7 hG ?_
    refine .D8 (α:=Nat) [(2,_),(3,_)] (fun k R=>(8,.v (k:Int))::R) (fun k => []) (fun k=>k≤b.j4.length∧((b.j4.take k).all fun d=>d.l8.all fun p=>L9 p c)=true) (fun k=>b.j4.length - k) (0) (.c2 a8 a8 (.nil _)) ?_ (.c2 a8 a8 (.cons a8 (.nil _))) (a8) fun k hF => ?_
    ·simp
    obtain⟨h1,h2⟩:=hF
    refine .q 10 hG ⟨fun hc33 => ?_,fun hc33 => ?_⟩
    ·refine .q 4 hG ?_
     refine .T3 31 a8 fun hl31=>(.draw (by kernel_rfl) 13 [[],[(37,0)],[],[(38,1),(39,2)],[(40,3)],[(41,4)],[],[(42,5),(43,6)],[(44,7)],[(36,8)],[(36,8)],[(45,9)],[(46,10)]] a8 (by kernel_rfl) a8 ?_)
     refine⟨_,j6.A7 u1.l5 (fun x=>x.j4) Z0 a8 (fun _=>a8) (.t a8) a8,?_⟩
     refine⟨_,j6.G6 c0i (.t a8) a8,?_⟩
     refine⟨_,j6.move (.t a8) a8,?_⟩
     refine⟨_,j6.idx a05 underlying27 (.t a8) (.t a8) (by omega) (by omega) a8,?_⟩
     refine⟨_,j6.A7 p9.l1 (fun x=>x.l8) a4s a8 (fun _=>a8) (.t a8) a8,?_⟩
     refine⟨_,j6.G6 a7I (.t a8) a8,?_⟩
     refine⟨_,j6.G6 a8w (.t a8) a8,?_⟩
     refine⟨_,j6.o8 hG (b9s _ _) (.cons (.t a8) (.cons (.t a8) .nil)) a8,?_⟩
     refine⟨_,j6.move (.t a8) a8,?_⟩
     refine⟨_,j6.a03 (.t a8) a8,?_⟩
     refine⟨_,j6.a04 (.t a8) a8,?_⟩
     refine⟨_,j6.assign (.t a8) a8,?_⟩
     refine⟨_,j6.assign (.t a8) a8,?_⟩
     show D0 _ _ _ _ _ [] ((10,_)::(9,_)::(46,_)::(45,_)::(36,_)::(44,_)::(43,_)::(42,_)::(41,_)::(40,_)::(39,_)::(38,_)::(37,_)::_) _
     refine .q 6 hG ?_
     refine .cond (.t a8) (fun hc48 => ?_) (fun hc48 => ?_)
     ·refine .q 5 hG ?_
      refine .e1 a8 a8 ?_
      unfold a4c
      rw [if_neg hc14,if_neg (by simpa using hc18),if_neg (by simpa using hc28),if_pos (List.all_eq_false.2 ⟨b.j4[k],List.getElem_mem _,by simpa using hc48⟩)]
     ·refine .q 3 hG ?_
      refine .ad (by omega) (by omega) ?_
      refine .q 2 hG ?_
      refine⟨k+1,.c2 rfl rfl (.cons rfl (.nil _)),rfl,?_,by omega⟩
      refine⟨by omega,?_⟩;rw [all_succ _ _ _ (by omega),h2];simpa using hc48
    ·refine .q 6 hG ?_
     refine .e1 a8 a8 ?_
     rw [List.take_of_length_le (by omega)] at h2
     unfold a4c
     rw [if_neg hc14,if_neg (by simpa using hc18),if_neg (by simpa using hc28),if_neg (by rw [h2];decide)]
end Go.Proofs.YtmmclghiidoldaaGreatDoor
