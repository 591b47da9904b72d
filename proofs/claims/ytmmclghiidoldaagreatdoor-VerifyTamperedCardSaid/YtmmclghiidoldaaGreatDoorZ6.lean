/- Plain Lean over any program, and walks of this seat's functions: contracts, each proved once (part 6). -/
import Derived.Test.YtmmclghiidoldaaGreatDoorZ5
set_option maxRecDepth 1000000
set_option synthInstance.maxSize 1000000
set_option synthInstance.maxHeartbeats 10000000
set_option linter.unusedVariables false
set_option linter.unusedSimpArgs false
namespace Go.Proofs.YtmmclghiidoldaaGreatDoor
open Go.Proofs.Tryz
open Go.Fl Go.Ab Go.Mac Go.Sha
def a2O (b:List UInt8):Nat:=(b.take 7).findIdx fun c => !decide (127 < c)
def a6E:List UInt8→Nat
 | []=>0
 | c::l=>c.toNat % 128+128*a6E l
theorem b5K:∀ l:List UInt8,a6E l < 128^l.length
 | []=>by decide
 | c::l=>by
  have:=b5K l
  rw [List.length_cons,Nat.pow_succ];unfold a6E;omega
def a0i (b:List UInt8):Int×Int×Int :=
 if a2O b=7 then (0,0,5) else if a2O b=b.length then (0,0,3) else
 if (decide (0 < a2O b)&&decide (b.getD (a2O b) 0=0)) then (0,0,5) else
 if 281474976710656 < a6E (b.take (a2O b+1)) then (0,0,1) else ((a6E (b.take (a2O b+1)):Int),(a2O b:Int)+1,0)
theorem b8T (b:List UInt8):a2O b≤7∧a2O b≤b.length:=by
 have h:=List.findIdx_le_length (p:=fun c:UInt8 => !decide (127 < c)) (xs:=b.take 7)
 rw [List.length_take] at h
 unfold a2O;omega
theorem b8U {b:List UInt8} {k:Nat} (h1:k≤7) (h2:k≤b.length) (h3:∀ j (hj:j < b.length),j < k→decide (127 < b[j])=true) (h4:k=7∨k=b.length∨∃ h:k < b.length,decide (127 < b[k])=false):a2O b=k:=by
 unfold a2O
 by_cases e:k < (b.take 7).length
 ·rw [List.findIdx_eq e]
  rw [List.length_take] at e
  refine⟨?_,fun j hj => ?_⟩
  ·rcases h4 with h4|h4|⟨h4,h5⟩
   ·omega
   ·omega
   ·simp only [List.getElem_take];rw [h5];rfl
  ·simp only [List.getElem_take];rw [h3 j (by omega) hj];rfl
 ·rw [List.length_take] at e
  have:(b.take 7).length=k:=by rw [List.length_take];omega
  rw [←this]
  refine List.findIdx_eq_length.2 fun x hx => ?_
  obtain⟨j,hj,rfl⟩:=List.getElem_of_mem hx
  simp only [List.getElem_take]
  rw [List.length_take] at hj
  rw [h3 j (by omega) (by omega)];rfl
theorem b6N {b:List UInt8} {k j:Nat} (hk:k < b.length) (hj:j≤k) (hj2:j < b.length):a6E ((b.take (k+1)).drop j)=128*a6E ((b.take (k+1)).drop (j+1))+b[j].toNat % 128:=by
 have hl:j < (b.take (k+1)).length:=by rw [List.length_take];omega
 rw [List.drop_eq_getElem_cons hl]
 simp only [a6E,List.getElem_take];omega
theorem b5L {b:List UInt8} {k:Nat} (h:k < b.length):b.getD k default=b[k]:=by rw [List.getD_eq_getElem?_getD,List.getElem?_eq_getElem h];rfl
theorem a84 {b:List UInt8} {k j:Nat} (hk:k≤6):a6E ((b.take (k+1)).drop j) < 562949953421312:=by
 refine Nat.lt_of_lt_of_le (b5K _) ?_
 refine Nat.le_trans (Nat.pow_le_pow_right (by decide) (show((b.take (k+1)).drop j).length≤7 by simp;omega)) (by decide)
theorem c0I (b:List UInt8):u1 gl prog 208 [.v b] (fun r=>r = .t3 (.v (a0i b).1) (.v (a0i b).2.1) (.v (a0i b).2.2)):=by
 refine u1.jn func208 (by kernel_rfl) 59 rfl fun C hC hG => ?_
 refine .q 7 hG ?_
 refine .S0 0 a8 fun hl0 => ?_
 refine .q 5 hG ?_
 refine .E3 (α:=Nat) [(0,_)] (fun k R=>(5,.v (k:Int))::R) (fun k => []) (fun k=>k≤7∧k≤b.length∧∀ j (hj:j < b.length),j < k→decide (127 < b[j])=true) (fun k=>7 - k) (0) (.cons a8 (.nil _)) ?_ (.c2 a8 a8 (.nil _)) (a8) fun k hF => ?_
 ·simp
 obtain⟨h1,h2,h3⟩:=hF
 refine .q 14 hG ?_
 refine .go 16 a8 (.t a8) (fun hg19 => .c3r ty5 underlying86 (.q a8 hg19) (.q a8 hg19) (by first|omega|(simp;omega)|(have:=hg19;simp at this;omega)) (by first|omega|(simp;omega)|(have:=hg19;simp at this;omega)) a8) ?_
 refine .q 4 hG ?_
 refine .cond (.t a8) (fun hc22 => ?_) (fun hc22 => ?_)
 ·refine .q 2 hG ?_
  have hlt1:k < b.length:=by(simp only [Bool.and_eq_true,decide_eq_true_eq] at hc22;omega)
  have hlt2:k < 7:=by(simp only [Bool.and_eq_true,decide_eq_true_eq] at hc22;omega)
  have hlt3:decide (127 < b[k])=true:=(by rw [←b5L hlt1];simp only [Bool.and_eq_true] at hc22;exact hc22.2)
  refine .q 2 hG ?_
  refine .ad (by omega) (by omega) ?_
  refine .q 2 hG ?_
  refine⟨k+1,.c2 rfl rfl (.nil _),rfl,?_,by omega⟩
  refine⟨by omega,by omega,fun j hj hjk => ?_⟩;rcases Nat.lt_or_ge j k with h|h;exact h3 j hj h;(obtain rfl:j=k:=by omega);exact hlt3
 ·refine .q 3 hG ?_
  have hcl:a2O b=k:=b8U h1 h2 h3 (by rcases Nat.lt_or_ge k 7 with h|h;rcases Nat.lt_or_ge k b.length with h5|h5;right;right;refine⟨h5,?_⟩;(rw [decide_eq_true (show(k:Int) < (b.length:Int) by omega),decide_eq_true (show(k:Int) < 7 by omega)] at hc22;rw [←b5L h5];exact hc22);right;left;omega;left;omega)
  refine .q 5 hG ⟨fun hc26 => ?_,fun hc26 => ?_⟩
  ·refine .q 7 hG ?_
   refine⟨_,.r3 a8 (.tmp a8) (.tmp a8) (.tmp a8),?_⟩
   have e:a0i b=(0,0,5):=(by unfold a0i;rw [if_pos (by omega)])
   rw [e]
  ·refine .q 10 hG ⟨fun hc30 => ?_,fun hc30 => ?_⟩
   ·refine .q 7 hG ?_
    refine⟨_,.r3 a8 (.tmp a8) (.tmp a8) (.tmp a8),?_⟩
    have e:a0i b=(0,0,3):=(by unfold a0i;rw [if_neg (by omega),if_pos (by omega)])
    rw [e]
   ·refine .q 3 hG ?_
    have hkl:k < b.length:=by omega
    have hgd:b.getD k 0=b[k]:=by rw [List.getD_eq_getElem?_getD,List.getElem?_eq_getElem hkl];rfl
    refine .q 6 hG ?_
    refine .go 33 a8 (.t a8) (fun hg36 => .c3r ty5 underlying86 (.q a8 hg36) (.q a8 hg36) (by first|omega|(simp;omega)|(have:=hg36;simp at this;omega)) (by first|omega|(simp;omega)|(have:=hg36;simp at this;omega)) a8) ?_
    refine .q 4 hG ?_
    refine .cond (.t a8) (fun hc39 => ?_) (fun hc39 => ?_)
    ·refine .q 7 hG ?_
     refine⟨_,.r3 a8 (.tmp a8) (.tmp a8) (.tmp a8),?_⟩
     have e:a0i b=(0,0,5):=(by unfold a0i;rw [if_neg (by omega),if_neg (by omega),hcl,if_pos (by simp only [Bool.and_eq_true,decide_eq_true_eq] at hc39 ⊢;exact⟨by omega,hc39.2⟩)])
     rw [e]
    ·refine .q 2 hG ?_
     have hcz:(decide (0 < a2O b)&&decide (b.getD (a2O b) 0=0))=false:=(by rw [hcl,←hc39];congr 1;exact decide_eq_decide.2 (by omega))
     refine .q 10 hG ?_
     refine .E3 (α:=Nat) [(0,_),(5,_)] (fun j R=>(6,.v ((a6E ((b.take (k+1)).drop j):Nat):Int))::(7,.v ((j:Int) - 1))::R) (fun j => []) (fun j=>j≤k+1) (fun j=>j) (k+1) (.c2 a8 a8 (.nil _)) ?_ (.cons (congrArg (fun q=>some (AV.v q)) (by simp [a6E])) (.cons (congrArg (fun q=>some (AV.v q)) (by omega)) (.c2 a8 a8 (.nil _)))) (a8) fun j hF => ?_
     ·simp
     refine .q 7 hG ⟨fun hc42 => ?_,fun hc42 => ?_⟩
     ·refine .q 3 hG ?_
      have hj0:1≤j:=by omega
      have hvs:=a84 (b:=b) (k:=k) (j:=j) (by omega)
      refine .q 2 hG ?_
      refine .p (.mul (.i a8) (.t a8) (by omega) (by omega) ?_)
      refine .q 2 hG ?_
      refine .ix (by omega) (by omega) ?_
      refine .q 1 hG ?_
      refine .p (.c1I underlying5 underlying3 (.t a8) (.p (.rem (.t a8) (.i a8) (by omega) (by omega) ?_)))
      refine .ad (by omega) (by omega) ?_
      refine .q 2 hG ?_
      have hs:(128:Int)*((a6E ((b.take (k+1)).drop j):Nat):Int)+((b[((j:Int) - 1).toNat]'(by omega)).toNat:Int) % 128=((a6E ((b.take (k+1)).drop (j - 1)):Nat):Int):=(by have h5:=b6N (b:=b) (k:=k) (j:=j - 1) hkl (by omega) (by omega);rw [show j - 1+1=j by omega] at h5;rw [h5];simp only [show((j:Int) - 1).toNat=j - 1 by omega];omega)
      refine .q 2 hG ?_
      refine .sb (by omega) (by omega) ?_
      refine .q 2 hG ?_
      refine⟨j - 1,.cons (congrArg (fun q=>some (AV.v q)) hs) (.cons (congrArg (fun q=>some (AV.v q)) (by omega)) (.c2 rfl rfl (.nil _))),rfl,?_,by omega⟩
      omega
     ·refine .q 3 hG ?_
      obtain rfl:j=0:=by omega
      rw [List.drop_zero]
      have hvs:=a84 (b:=b) (k:=k) (j:=0) (by omega)
      rw [List.drop_zero] at hvs
      refine .q 5 hG ⟨fun hc55 => ?_,fun hc55 => ?_⟩
      ·refine .q 7 hG ?_
       refine⟨_,.r3 a8 (.tmp a8) (.tmp a8) (.tmp a8),?_⟩
       have e:a0i b=(0,0,1):=(by unfold a0i;rw [if_neg (by omega),if_neg (by omega),hcz,if_neg (by decide),hcl,if_pos (by omega)])
       rw [e]
      ·refine .q 5 hG ?_
       refine .ad (by omega) (by omega) ?_
       refine .q 5 hG ?_
       refine⟨_,.r3 a8 (.tmp a8) (.tmp a8) (.tmp a8),?_⟩
       have e:a0i b=((a6E (b.take (k+1)):Int),(k:Int)+1,0):=(by unfold a0i;rw [if_neg (by omega),if_neg (by omega),hcz,if_neg (by decide),hcl,if_neg (by omega)])
       rw [e]
theorem b4z (b:List UInt8):0≤(a0i b).2.1∧(a0i b).2.1≤b.length:=by
 have h:=b8T b
 unfold a0i
 split
 ·exact⟨Int.le_refl _,Int.natCast_nonneg _⟩
 ·split
  ·exact⟨Int.le_refl _,Int.natCast_nonneg _⟩
  ·split
   ·exact⟨Int.le_refl _,Int.natCast_nonneg _⟩
   ·split
    ·exact⟨Int.le_refl _,Int.natCast_nonneg _⟩
    ·dsimp only;omega
abbrev Rdr:=m7
abbrev rd (w:Value):AV := .ln w (l9.id (α:=Rdr))
def b4A (r:Rdr):Prop:=0≤r.Used∧r.Used≤r.B.length∧r.B.length≤1000000
def a4d (r:Rdr) (e:Int):Rdr:=if r.E=0 then ⟨r.B,r.Used,e⟩ else r
theorem b8V (r:Rdr) (e:Int):(a4d r e).B=r.B:=by unfold a4d;split<;>rfl
theorem b2J (r:Rdr) (e:Int):(a4d r e).Used=r.Used:=by unfold a4d;split<;>rfl
theorem c0J (w:Value) (r:Rdr) (e:Int):F5 gl prog 209 [rd w,.v e] [.ob w r] (fun x Hs=>Hs = [.ob w (a4d r e)]):=by
 refine F5.Q4 func209 rfl (by kernel_rfl) 13 rfl rfl _ rfl _ rfl fun C hC hG => ?_
 refine .q 2 hG ?_
 refine .mv a8 (.p (.F3 (.t a8) (.p (.B0 m7.l2 a45 a8 (.t a8) (.p (.ldF (fun x=>x.E) b6l (.t a8) .z (fun _=>a8) (.p (.b1r (.t a8) (.i a8) ?_))))))))
 refine .q 1 hG ?_
 refine .M1 (.t a8) (fun hc8 => ?_) (fun hc8 => ?_)
 ·refine .q 1 hG ?_
  refine .mv a8 (.mv a8 (.p (.F3 (.t a8) (.p (.B0 m7.l2 a45 a8 (.t a8) (.n (.stF (fun y x => { x with E:=y }) b6l (.t a8) (.t a8) .z (fun _ _=>a8) ?_)))))))
  refine .q 1 hG ?_
  refine⟨_,.r0 a8,?_⟩
  have e0:a4d r e=⟨r.B,r.Used,e⟩:=if_pos hc8
  refine⟨_,.cons .z (.nil),?_⟩
  rw [e0]
 ·refine .q 1 hG ?_
  refine⟨_,.r0 a8,?_⟩
  have e0:a4d r e=r:=if_neg hc8
  refine⟨_,.cons .z (.nil),?_⟩
  rw [e0]
def rdNum (r:Rdr):Int×Rdr :=
 if r.E≠0 then (0,r) else ((a0i (r.B.drop r.Used.toNat)).1,⟨r.B,r.Used+(a0i (r.B.drop r.Used.toNat)).2.1,(a4d r (a0i (r.B.drop r.Used.toNat)).2.2).E⟩)
theorem b6O (w:Value) (r:Rdr) (h:b4A r):F5 gl prog 185 [rd w] [.ob w r] (fun x Hs=>x = .v (rdNum r).1∧Hs = [.ob w (rdNum r).2]):=by
 obtain⟨h0,h1,h2⟩:=h
 have hu:=b4z (r.B.drop r.Used.toNat)
 have hdl:(r.B.drop r.Used.toNat).length=r.B.length - r.Used.toNat:=List.length_drop
 refine F5.Q4 func185 rfl (by kernel_rfl) 38 rfl rfl _ rfl _ rfl fun C hC hG => ?_
 refine .q 2 hG ?_
 refine .p (.assign (.i a8) ?_)
 refine .q 4 hG ?_
 refine .mv a8 (.p (.F3 (.t a8) (.p (.B0 m7.l2 a45 a8 (.t a8) (.p (.ldF (fun x=>x.E) b6l (.t a8) .z (fun _=>a8) (.p (.a98 (.t a8) (.i a8) ?_))))))))
 refine .q 1 hG ?_
 refine .M1 (.t a8) (fun hc10 => ?_) (fun hc10 => ?_)
 ·refine .q 2 hG ?_
  refine .p (.assign (.i a8) ?_)
  refine .q 2 hG ?_
  refine .e1 a8 a8 ?_
  have e0:rdNum r=(0,r):=if_pos hc10
  refine⟨_,.cons .z (.nil),?_⟩
  rw [e0];exact⟨rfl,rfl⟩
 ·refine .q 2 hG ?_
  refine .draw (by kernel_rfl) 17 [[],[(12,0)],[(13,1)],[(14,2)],[],[(16,4)],[(17,5)],[(18,6)],[(15,3),(19,7)],[(20,8)],[(21,9)],[(11,10)],[(11,10)],[(11,10)],[(22,11)],[(23,12)],[(24,13)]] a8 (by kernel_rfl) a8 ?_
  refine⟨_,j6.move (.t a8) a8,?_⟩
  refine⟨_,j6.F3 (.t a8) a8,?_⟩
  refine⟨_,j6.B0 m7.l0 b0l a8 (.t a8) a8,?_⟩
  refine⟨_,j6.ldF (fun x=>x.B) a3E (.t a8) .z (fun _=>a8) a8,?_⟩
  refine⟨_,j6.move (.t a8) a8,?_⟩
  refine⟨_,j6.F3 (.t a8) a8,?_⟩
  refine⟨_,j6.B0 m7.l1 a3S a8 (.t a8) a8,?_⟩
  refine⟨_,j6.ldF (fun x=>x.Used) R3 (.t a8) .z (fun _=>a8) a8,?_⟩
  refine⟨_,j6.b7K ty5 underlying86 (.t a8) (.t a8) (by omega) (by omega) a8,?_⟩
  refine⟨_,j6.o9 hG (c0I _) (.cons (.t a8) .nil) a8,?_⟩
  refine⟨_,j6.move (.t a8) a8,?_⟩
  refine⟨_,j6.O7 (.t a8) a8,?_⟩
  refine⟨_,j6.O8 (.t a8) a8,?_⟩
  refine⟨_,j6.O9 (.t a8) a8,?_⟩
  refine⟨_,j6.assign (.t a8) a8,?_⟩
  refine⟨_,j6.assign (.t a8) a8,?_⟩
  refine⟨_,j6.assign (.t a8) a8,?_⟩
  show D6 _ _ _ _ _ [] ((5,_)::(4,_)::(3,_)::(24,_)::(23,_)::(22,_)::(11,_)::(21,_)::(20,_)::(19,_)::(18,_)::(17,_)::(16,_)::(15,_)::(14,_)::(13,_)::(12,_)::_) _
  refine .q 5 hG ?_
  refine .h (.C6 hG (c0J _ _ _) .z (.cons (.t a8) (.cons (.t a8) .nil)) (by rintro _ _ rfl;exact⟨_,rfl⟩) fun r27 B27 hr27 => ?_)
  cases hr27
  refine .q 2 hG ?_
  have hfu:=b2J r (a0i (r.B.drop r.Used.toNat)).2.2
  refine .q 7 hG ?_
  refine .ad (by omega) (by omega) ?_
  refine .q 10 hG ?_
  refine .e1 a8 a8 ?_
  have e0:rdNum r=((a0i (r.B.drop r.Used.toNat)).1,⟨r.B,r.Used+(a0i (r.B.drop r.Used.toNat)).2.1,(a4d r (a0i (r.B.drop r.Used.toNat)).2.2).E⟩):=if_neg hc10
  refine⟨_,.cons .z (.nil),?_⟩
  rw [e0];refine⟨rfl,?_⟩;rw [b8V,b2J]
theorem b8W (w:Value) (r:Rdr) (n:Int) (h:b4A r) (he:r.E=0) (hn0:0≤n) (hn:n≤r.B.length - r.Used):F5 gl prog 207 [rd w,.v n] [.ob w r] (fun x Hs=>x = .v ((r.B.take (r.Used+n).toNat).drop r.Used.toNat)∧Hs = [.ob w (⟨r.B,r.Used+n,r.E⟩:Rdr)]):=by
 obtain⟨h0,h1,h2⟩:=h
 refine F5.Q4 func207 rfl (by kernel_rfl) 58 rfl rfl _ rfl _ rfl fun C hC hG => ?_
 refine .q 6 hG ?_
 refine .draw (by kernel_rfl) 19 [[],[(5,0)],[(6,1)],[(7,2)],[(8,3)],[(9,4)],[],[(11,6)],[(12,7)],[(13,8)],[(14,9)],[],[(16,11)],[(17,12)],[(18,13)],[(15,10),(19,14)],[],[(20,15),(21,16)],[(10,5),(22,17)]] a8 (by kernel_rfl) a8 ?_
 refine⟨_,j6.move (.t a8) a8,?_⟩
 refine⟨_,j6.F3 (.t a8) a8,?_⟩
 refine⟨_,j6.B0 m7.l2 a45 a8 (.t a8) a8,?_⟩
 refine⟨_,j6.ldF (fun x=>x.E) b6l (.t a8) .z (fun _=>a8) a8,?_⟩
 refine⟨_,j6.b1r (.t a8) (.i a8) a8,?_⟩
 refine⟨_,j6.move (.t a8) a8,?_⟩
 refine⟨_,⟨_,_,a8,a8,fun hg11=>j6.move (.t a8) a8⟩,?_⟩
 refine⟨_,⟨_,_,a8,a8,fun hg12=>j6.F3 (.q a8 hg12) a8⟩,?_⟩
 refine⟨_,⟨_,_,a8,a8,fun hg13=>j6.B0 m7.l0 b0l a8 (.q a8 hg13) a8⟩,?_⟩
 refine⟨_,⟨_,_,a8,a8,fun hg14=>j6.ldF (fun x=>x.B) a3E (.q a8 hg14) .z (fun _=>a8) a8⟩,?_⟩
 refine⟨_,⟨_,_,a8,a8,fun hg15=>j6.len underlying86 (.q a8 hg15) a8⟩,?_⟩
 refine⟨_,⟨_,_,a8,a8,fun hg16=>j6.move (.t a8) a8⟩,?_⟩
 refine⟨_,⟨_,_,a8,a8,fun hg17=>j6.F3 (.q a8 hg17) a8⟩,?_⟩
 refine⟨_,⟨_,_,a8,a8,fun hg18=>j6.B0 m7.l1 a3S a8 (.q a8 hg18) a8⟩,?_⟩
 refine⟨_,⟨_,_,a8,a8,fun hg19=>j6.ldF (fun x=>x.Used) R3 (.q a8 hg19) .z (fun _=>a8) a8⟩,?_⟩
 refine⟨_,⟨_,_,a8,a8,fun hg20=>j6.sub (.q a8 hg20) (.q a8 hg20) (by first|omega|(simp;omega)|(have:=hg20;simp at this;omega)) (by first|omega|(simp;omega)|(have:=hg20;simp at this;omega)) a8⟩,?_⟩
 refine⟨_,⟨_,_,a8,a8,fun hg21=>j6.move (.t a8) a8⟩,?_⟩
 refine⟨_,⟨_,_,a8,a8,fun hg22=>j6.lss (.q a8 hg22) (.q a8 hg22) a8⟩,?_⟩
 refine⟨_,j6.T8 (.t a8) (fun hp=>(.q a8 hp)) a8,?_⟩
 show D6 _ _ _ _ _ [] ((23,_)::(22,_)::(21,_)::(20,_)::(19,_)::(18,_)::(17,_)::(16,_)::(15,_)::(14,_)::(13,_)::(12,_)::(11,_)::(10,_)::(9,_)::(8,_)::(7,_)::(6,_)::(5,_)::_) _
 refine .q 1 hG ?_
 refine .cond (.t a8) (fun hc23=>(by exfalso;simp only [he,Bool.and_eq_true,decide_eq_true_eq] at hc23;omega)) (fun hc23 => ?_)
 refine .q 4 hG ?_
 refine .mv a8 (.p (.F3 (.t a8) (.p (.B0 m7.l2 a45 a8 (.t a8) (.p (.ldF (fun x=>x.E) b6l (.t a8) .z (fun _=>a8) (.p (.a98 (.t a8) (.i a8) ?_))))))))
 refine .q 1 hG ?_
 refine .M1 (.t a8) (fun hc31=>(by exfalso;exact hc31 he)) (fun hc31 => ?_)
 refine .q 3 hG ?_
 refine .mv a8 (.mv a8 (.p (.F3 (.t a8) (.p (.B0 m7.l1 a3S a8 (.t a8) (.p (.ldF (fun x=>x.Used) R3 (.t a8) .z (fun _=>a8) (.mv a8 (.p (.add (.t a8) (.t a8) (by omega) (by omega) (.p (.F3 (.t a8) (.p (.B0 m7.l1 a3S a8 (.t a8) (.n (.stF (fun y x => { x with Used:=y }) R3 (.t a8) (.t a8) .z (fun _ _=>a8) ?_))))))))))))))))
 refine .q 2 hG ?_
 refine .draw (by kernel_rfl) 16 [[],[(43,0)],[(44,1)],[(45,2)],[],[(47,4)],[(48,5)],[(49,6)],[],[(50,7),(51,8)],[],[(53,10)],[(54,11)],[(55,12)],[(46,3),(52,9),(56,13)],[(57,14)]] a8 (by kernel_rfl) a8 ?_
 refine⟨_,j6.move (.t a8) a8,?_⟩
 refine⟨_,j6.F3 (.t a8) a8,?_⟩
 refine⟨_,j6.B0 m7.l0 b0l a8 (.t a8) a8,?_⟩
 refine⟨_,j6.ldF (fun x=>x.B) a3E (.t a8) .z (fun _=>a8) a8,?_⟩
 refine⟨_,j6.move (.t a8) a8,?_⟩
 refine⟨_,j6.F3 (.t a8) a8,?_⟩
 refine⟨_,j6.B0 m7.l1 a3S a8 (.t a8) a8,?_⟩
 refine⟨_,j6.ldF (fun x=>x.Used) R3 (.t a8) .z (fun _=>a8) a8,?_⟩
 refine⟨_,j6.move (.t a8) a8,?_⟩
 refine⟨_,j6.sub (.t a8) (.t a8) (by simp<;>omega) (by simp<;>omega) a8,?_⟩
 refine⟨_,j6.move (.t a8) a8,?_⟩
 refine⟨_,j6.F3 (.t a8) a8,?_⟩
 refine⟨_,j6.B0 m7.l1 a3S a8 (.t a8) a8,?_⟩
 refine⟨_,j6.ldF (fun x=>x.Used) R3 (.t a8) .z (fun _=>a8) a8,?_⟩
 refine⟨_,j6.c2U ty5 underlying86 (.t a8) (.t a8) (.t a8) (by simp<;>omega) (by omega) (by simp<;>omega) a8,?_⟩
 refine⟨_,j6.assign (.t a8) a8,?_⟩
 show D6 _ _ _ _ _ [] ((4,_)::(57,_)::(56,_)::(55,_)::(54,_)::(53,_)::(52,_)::(51,_)::(50,_)::(49,_)::(48,_)::(47,_)::(46,_)::(45,_)::(44,_)::(43,_)::_) _
 refine .q 2 hG ?_
 refine .e1 a8 a8 ?_
 refine⟨_,.cons .z (.nil),?_⟩
 refine⟨congrArg AV.v ?_,a8⟩
 rw [show r.Used+n - n=r.Used by omega]
theorem c2k (w:Value) (r:Rdr) (h:b4A r) (he:r.E=0) (hn:32≤r.B.length - r.Used):F5 gl prog 184 [rd w] [.ob w r] (fun x Hs=>x = .v (S3 (default:Tag) ((r.B.take (r.Used+32).toNat).drop r.Used.toNat))∧Hs = [.ob w (⟨r.B,r.Used+32,r.E⟩:Rdr)]):=by
 have hok:=h
 obtain⟨h0,h1,h2⟩:=h
 refine F5.Q4 func184 rfl (by kernel_rfl) 9 rfl rfl _ rfl _ rfl fun C hC hG => ?_
 refine .q 3 hG fun b2 => ?_
 refine .q 4 hG fun b3 => ?_
 refine .q 2 hG ?_
 refine .E0 [j0,j1,j0] (by kernel_rfl) 4 [[],[],[(5,1)],[(4,0),(6,2)]] [2,3] a8 (by kernel_rfl) a8 (by kernel_rfl) (by decide) ?_
 refine⟨_,fun H=>j6.b7L O1 (.t a8) a8,?_⟩
 refine⟨_,fun H=>j6.move (.t a8) a8,?_⟩
 refine .inl (.inl ?_)
 refine⟨⟨([],j2 [_,c8,_]),a8⟩,?_⟩
 refine A6.C6 hG (b8W _ _ _ hok he (by decide) hn) .z2 (.cons (.t rfl) (.cons (.i rfl) .nil)) (by rintro _ _ ⟨_,rfl⟩;exact⟨_,rfl⟩) fun r6 B6 hr6 => ?_
 obtain⟨rfl,hB⟩:=hr6
 cases hB
 refine⟨⟨([],j2 [_,c8,_]),a8⟩,?_⟩
 refine A6.b7T ty5 underlying86 (.t rfl) .z (.v (.t rfl)) (by simp<;>omega) ?_
 refine⟨⟨([],j2 [_,c8,_]),a8⟩,?_⟩
 show D6 _ _ _ _ _ [] ((7,_)::(6,_)::(5,_)::(4,_)::_) _
 refine .q 7 hG ?_
 refine⟨_,.r1 a8 (.cell A5 a8 .z1),?_⟩
 refine⟨_,.cons .z2 (.nil),?_⟩
 exact⟨a8,a8⟩
theorem a90 {w:Value} {r r':Rdr} {v:Int} (h:b4A r) (e:rdNum r=(v,r')):F5 gl prog 185 [rd w] [.ob w r] (fun x Hs=>x = .v v∧Hs = [.ob w r']):=by
 have:=b6O w r h
 rw [e] at this;exact this
theorem b1g (a : D3) (c : b0S) (t : List UInt8) (k : Tag) (hpl : ∀ x ∈ a.y2, x.Plain.length ≤ 1000000) (ho : C5 a c.Key t = (k.l ++ [0, 150, 1], 0)) :
    u1 gl prog 141 [.v a,.v c,.v t] (fun r=>r = .t3 (.v k) (.v (⟨0,150⟩:B1)) (.v (0:Int))):=by
  have hb:(k.l ++ [0,150,1]).length=35:=by rw [List.length_append,J0.len];rfl
  have ht:(k.l ++ [0,150,1]).take 32=k.l:=List.take_left' k.len
  have hd:(k.l ++ [0,150,1]).drop 32 = [0,150,1]:=List.drop_left' k.len
  have hd2:(k.l ++ [0,150,1]).drop 33 = [150,1]:=by
    rw [show 33=32+1 from rfl,←List.drop_drop,hd];rfl
  have hn1:rdNum ⟨k.l ++ [0,150,1],32,0⟩=(0,⟨k.l ++ [0,150,1],33,0⟩):=by
    unfold rdNum
    rw [if_neg (show ¬((0:Int)≠0) by decide)]
    dsimp only
    rw [show((32:Int).toNat)=32 from rfl,hd];rfl
  have hn2:rdNum ⟨k.l ++ [0,150,1],33,0⟩=(150,⟨k.l ++ [0,150,1],35,0⟩):=by
    unfold rdNum
    rw [if_neg (show ¬((0:Int)≠0) by decide)]
    dsimp only
    rw [show((33:Int).toNat)=33 from rfl,hd2];rfl
  have ok0:b4A ⟨k.l ++ [0,150,1],0,0⟩:=⟨Int.le_refl _,Int.natCast_nonneg _,by dsimp only;omega⟩
  have ok1:b4A ⟨k.l ++ [0,150,1],32,0⟩:=⟨show(0:Int)≤32 by decide,by dsimp only;omega,by dsimp only;omega⟩
  have ok2:b4A ⟨k.l ++ [0,150,1],33,0⟩:=⟨show(0:Int)≤33 by decide,by dsimp only;omega,by dsimp only;omega⟩
  refine u1.jn func141 (by kernel_rfl) 61 rfl fun C hC hG => ?_
  refine .q 3 hG fun b3 => ?_
  refine .q 1 hG fun b4 => ?_
  refine .q 1 hG fun b6 => ?_
  refine .q 1 hG fun b7 => ?_
  refine .q 3 hG ?_
  refine .A8 hC .z3 (.O5 3 a8 .z3 (.A8 hC .z2 (.O5 4 a8 .z2 ?_)))
  refine .q 5 hG ?_
  refine .p (.o9 hG (c0j _ _ _ hpl) (.cons (.t a8) (.cons (.t a8) (.cons (.t a8) .nil))) ?_)
  refine .q 8 hG ?_
  rw [ho]
  refine .q 4 hG ?_
  refine .M1 (.t a8) (fun hc23=>(by exfalso;exact hc23 rfl)) (fun hc23 => ?_)
  refine .q 4 hG ?_
  refine .p (.bS1 m7.l0 a8 c3j c2M (fun c0=>(⟨c0,0,0⟩:m7)) (fun _=>a8) a8 a8 (.t a8) ?_)
  refine .q 1 hG fun b29 => ?_
  refine .q 5 hG ?_
  refine .h (.C6 hG (c2k _ (⟨k.l ++ [0,150,1],0,0⟩:Rdr) ok0 a8 (by dsimp only;omega)) .z (.cons (.t a8) .nil) (by rintro _ _ ⟨_,rfl⟩;exact⟨_,rfl⟩) fun r31 B31 hr31 => ?_)
  obtain⟨rfl,hB⟩:=hr31
  cases hB
  refine .q 1 hG fun b12 => ?_
  refine .q 5 hG fun b13 => ?_
  refine .q 4 hG ?_
  refine .h (.C6 hG (a90 ok1 hn1) .z2 (.cons (.t a8) .nil) (by rintro _ _ ⟨_,rfl⟩;exact⟨_,rfl⟩) fun r33 B33 hr33 => ?_)
  obtain⟨rfl,hB⟩:=hr33
  cases hB
  refine .q 6 hG ?_
  refine .h (.C6 hG (a90 ok2 hn2) .z2 (.cons (.t a8) .nil) (by rintro _ _ ⟨_,rfl⟩;exact⟨_,rfl⟩) fun r36 B36 hr36 => ?_)
  obtain⟨rfl,hB⟩:=hr36
  cases hB
  refine .q 22 hG ?_
  refine .kg hG (a9W _) ?_
  refine .q 3 hG ?_
  refine .cond (.t a8) (fun hc56=>(by exfalso;simp [hb,a0K] at hc56)) (fun hc56 => ?_)
  refine .q 2 hG ?_
  refine .E0 [j1,j1,j1,j0,j0,j1,j1] (by kernel_rfl) 5 [[],[],[(59,0)],[(60,1)],[]] [2,3] a8 (by kernel_rfl) a8 (by kernel_rfl) (by decide) ?_
  refine⟨_,fun H=>j6.T1 A5 (.t a8) (u4.app .z1) a8,?_⟩
  refine⟨_,fun H=>j6.T1 b1V (.t a8) (u4.app .z) a8,?_⟩
  refine .inl (.inl ?_)
  refine⟨_,fun H=>j6.assign (.i a8) a8,?_⟩
  refine⟨⟨([],j2 [c8,c8,c8,_,_,c8,c8]),a8⟩,?_⟩
  refine A6.Q1 A5 (.t rfl) (.t rfl) .z4 ?_
  refine⟨⟨([],j2 [c8,c8,c8,_,_,c8,c8]),a8⟩,?_⟩
  refine A6.Q1 b1V (.t rfl) (.t rfl) .z3 ?_
  refine⟨⟨([],j2 [c8,c8,c8,_,_,c8,c8]),a8⟩,?_⟩
  show D6 _ _ _ _ _ [] ((8,_)::(60,_)::(59,_)::_) _
  refine .q 2 hG ?_
  refine⟨_,.r3 a8 (.cell A5 a8 .z4) (.cell b1V a8 .z3) (.tmp a8),?_⟩
  show AV.t3 (.v (S3 (default:Tag) (((k.l ++ [0,150,1]).take 32).drop 0))) (.v (⟨0,150⟩:B1)) (.v (0:Int))=_
  rw [List.drop_zero,ht,a6C]
abbrev b8X:=y9
def b2K (c:b0S) (s:Str):Option b8X:=c.a1M.find? fun p=>decide (p.Name=s)
theorem b1h (c:b0S) (s:Str):u1 gl prog 142 [.v c,.v s] (fun r=>r = .t2 (.v ((b2K c s).getD default)) (.v (b2K c s).isSome)):=by
 refine u1.jn func142 (by kernel_rfl) 28 rfl fun C hC hG => ?_
 refine .q 3 hG fun b2 => ?_
 refine .q 1 hG fun b4 => ?_
 refine .q 4 hG ?_
 refine .A8 hC .z1 (.O5 2 a8 .z1 (.del (.s .z) ?_))
 refine .q 4 hG ?_
 refine .E3 (α:=Nat) [(1,_),(2,_),(4,_)] (fun k R=>(6,.v (k:Int))::R) (Function.const _ _) (fun k=>k≤c.a1M.length∧∀ j (hj:j < c.a1M.length),j < k→decide (c.a1M[j].Name=s)=false) (fun k=>c.a1M.length - k) (0) (.c2 a8 a8 (.cons a8 (.nil _))) ?_ (.c2 a8 a8 (.c2 a8 a8 (.nil _))) (a8) fun k hF => ?_
 ·simp
 obtain⟨h1,h2⟩:=hF
 refine .q 10 hG ⟨fun hc11 => ?_,fun hc11 => ?_⟩
 ·refine .q 8 hG ?_
  refine .ix (by omega) (by omega) ?_
  refine .q 6 hG ⟨fun hc21 => ?_,fun hc21 => ?_⟩
  ·refine .q 5 hG ?_
   refine .ix (by omega) (by omega) (.p (.G9 a5x (.t a8) (.n (.Q1 a5x (.t a8) (.t a8) .z (.p (.assign .b ?_))))))
   refine .q 2 hG ?_
   refine⟨_,.r2 a8 (.cell a5x a8 .z) (.tmp a8),?_⟩
   have e:b2K c s=some c.a1M[k]:=a82 (by omega) (decide_eq_true hc21) h2
   rw [e];rfl
  ·refine .q 1 hG ?_
   refine .S0 9 a8 fun hl9 => ?_
   refine .q 2 hG ?_
   refine .ad (by omega) (by omega) ?_
   refine .q 2 hG ?_
   refine⟨k+1,.c2 rfl rfl (.c2 rfl rfl (.nil _)),rfl,?_,by omega⟩
   refine⟨by omega,fun j hj hjk => ?_⟩;rcases Nat.lt_or_ge j k with h|h;exact h2 j hj h;(obtain rfl:j=k:=by omega);exact decide_eq_false hc21
 ·refine .q 3 hG ?_
  refine .p (.bS0 (α:=y9) a8 a5x b7B (.n (.Q1 a5x (.t a8) (.t a8) .z (.p (.assign .b ?_)))))
  refine .q 2 hG ?_
  refine⟨_,.r2 a8 (.cell a5x a8 .z) (.tmp a8),?_⟩
  have e:b2K c s=none:=a83 fun j hj=>h2 j hj (by omega)
  rw [e];rfl
theorem c3B (p:b8X) (m:Int):u1 gl prog 143 [.v p,.v m] (fun r=>∃ n:Int,0≤n∧n≤150∧r = .v n):=by
 refine u1.jn func143 (by kernel_rfl) 33 rfl fun C hC hG => ?_
 refine .q 3 hG fun b2 => ?_
 refine .q 4 hG ?_
 refine .A8 hC .z (.O5 2 a8 .z ?_)
 refine .q 1 hG ?_
 refine .mv a8 (.p (.lss (.t a8) (.i a8) (.mv a8 (.go 7 a8 (.t a8) (fun hg8 => .move (.t a8) a8) (.go 7 a8 (.t a8) (fun hg9 => .gtr (.q a8 hg9) (.i a8) a8) (.p (.a4x (.t a8) (fun hp=>(.q a8 hp)) (.mv a8 (.go 11 a8 (.t a8) (fun hg12 => .A9 y9.l1 (fun x=>x.b3A) a79 a8 (fun _=>a8) (.t a8) a8) (.go 11 a8 (.t a8) (fun hg13 => .G9 R3 (.q a8 hg13) a8) (.go 11 a8 (.t a8) (fun hg14 => .lss (.q a8 hg14) (.i a8) a8) (.p (.a4x (.t a8) (fun hp=>(.q a8 hp)) (.mv a8 (.go 16 a8 (.t a8) (fun hg17 => .A9 y9.l1 (fun x=>x.b3A) a79 a8 (fun _=>a8) (.t a8) a8) (.go 16 a8 (.t a8) (fun hg18 => .G9 R3 (.q a8 hg18) a8) (.go 16 a8 (.t a8) (fun hg19 => .gtr (.q a8 hg19) (.i a8) a8) (.p (.a4x (.t a8) (fun hp=>(.q a8 hp)) (.mv a8 (.go 21 a8 (.t a8) (fun hg22 => .A9 y9.l1 (fun x=>x.b3A) a79 a8 (fun _=>a8) (.t a8) a8) (.go 21 a8 (.t a8) (fun hg23 => .G9 R3 (.q a8 hg23) a8) (.go 21 a8 (.t a8) (fun hg24 => .move (.t a8) a8) ?_)))))))))))))))))))))))
 refine .go 21 a8 (.t a8) (fun hg25 => .gtr (.q a8 hg25) (.q a8 hg25) a8) (.p (.a4x (.t a8) (fun hp=>(.q a8 hp)) ?_))
 refine .q 1 hG ?_
 refine .cond (.t a8) (fun hc26 => ?_) (fun hc26 => ?_)
 ·refine .q 5 hG ?_
  refine .e1 a8 a8 ?_
  exact⟨0,by decide,by decide,rfl⟩
 ·refine .q 2 hG ?_
  simp only [Bool.or_eq_false_iff,decide_eq_false_iff_not] at hc26
  refine .q 4 hG ?_
  refine .sb (by omega) (by omega) (.p (.quo (.t a8) (.i a8) (by omega) (by omega) (.p (.a99 (.t a8) (.i a8) ?_))))
  refine .q 3 hG ?_
  refine .e1 a8 a8 ?_
  exact⟨_,by omega,by omega,rfl⟩
theorem c0K (a : D3) (c : b0S) (t : List UInt8) (s : Str) (m : Int) (k : Tag) (hpl : ∀ x ∈ a.y2, x.Plain.length ≤ 1000000) (ho : C5 a c.Key t = (k.l ++ [0, 150, 1], 0)) (hs : T9 s = true) (hm0 : 0 ≤ m) (hm1 : m ≤ 67108864) (hf : (b2K c s).isSome = true) (ht : t.length ≤ 1000000) :
    u1 gl prog 82 [.v a,.v c,.v t,.v s,.v m] (fun r=>r = .t3 (.v (a6a a k t s).1) (.v (a6a a k t s).2.1) (.v (a6a a k t s).2.2)):=by
  refine u1.jn func82 (by kernel_rfl) 97 rfl fun C hC hG => ?_
  refine .q 3 hG fun b5 => ?_
  refine .q 1 hG fun b6 => ?_
  refine .q 1 hG fun b10 => ?_
  refine .q 1 hG fun b11 => ?_
  refine .q 4 hG ?_
  refine .A8 hC .z2 (.O5 6 a8 .z2 ?_)
  refine .q 2 hG ?_
  refine .k hG (b3P _) ?_
  refine .q 2 hG ?_
  refine .cond (.t a8) (fun hc22=>(by exfalso;simp [hs] at hc22)) (fun hc22 => ?_)
  refine .q 11 hG ?_
  refine .cond (.t a8) (fun hc30=>(by exfalso;(simp at hc30;omega))) (fun hc30 => ?_)
  refine .q 6 hG ?_
  refine .p (.o9 hG (b1g _ _ _ _ hpl ho) (.cons (.t a8) (.cons (.t a8) (.cons (.t a8) .nil))) ?_)
  refine .q 5 hG fun b13 => ?_
  refine .q 1 hG fun b14 => ?_
  refine .q 10 hG ?_
  refine .M1 (.t a8) (fun hc42=>(by exfalso;exact hc42 rfl)) (fun hc42 => ?_)
  refine .q 5 hG ?_
  refine .p (.o9 hG (b1h _ _) (.cons (.t a8) (.cons (.t a8) .nil)) ?_)
  refine .q 4 hG fun b16 => ?_
  refine .q 9 hG ?_
  refine .cond (.t a8) (fun hc53=>(by exfalso;simp [hf] at hc53)) (fun hc53 => ?_)
  refine .q 6 hG ?_
  refine .p (.call hG (c3B _ _) (.cons (.t a8) (.cons (.t a8) .nil)) fun r58 hr58 => ?_)
  obtain⟨n,hn0,hn1,rfl⟩:=hr58
  refine .q 15 hG ?_
  refine .cond (.t a8) (fun hc68=>(by exfalso;(simp at hc68;omega))) (fun hc68 => ?_)
  refine .q 2 hG ?_
  refine .a1a [[j1,j1,j1,j1,j1,j1,j1],[j1,j1,j1,j1,j1,j1,j1],[j1,j1,j1,j1,j1,j1,j0],[j1,j1,j1,j1,j1,j1,j0]] [[j1,j1,j1,j1,j1,j1,j1],[j1,j1,j1,j1,j1,j1,j1],[j1,j1,j1,j1,j1,j1,j1],[j1,j1,j1,j1,j1,j1,j1],[j1,j1,j1,j1,j1,j1,j1],[j1,j1,j1,j1,j1,j1,j1],[j1,j1,j1,j1,j1,j1,j1],[j1,j1,j1,j1,j1,j1,j0],[j1,j1,j1,j1,j1,j1,j0],[],[],[],[j1,j1,j1,j1,j1,j1,j0]] [] [] 3 (by kernel_rfl) 13 [[],[],[],[(74,2)],[(72,0),(73,1),(75,3)],[(76,4)],[(71,5)],[(71,5)],[(71,5)],[],[(77,6)],[(19,9),(78,7)],[(79,8)]] [9,10,11] rfl (by kernel_rfl) rfl (by kernel_rfl) rfl (by decide) (by simp) (fun p hp=>by cases hp) (by kernel_rfl) rfl ?_
  refine⟨_,fun H=>j6.T1 A0 (.t a8) (u4.app .z6) a8,?_⟩
  refine⟨_,fun H=>j6.T1 A5 (.t a8) (u4.app .z2) a8,?_⟩
  refine⟨_,fun H=>j6.move (.t a8) a8,?_⟩
  refine⟨_,fun H=>j6.o9 hG (a7J _ ht) (.cons (.t a8) .nil) a8,?_⟩
  refine⟨_,fun H=>j6.o9 hG (a5X _ _ _) (.cons (.t a8) (.cons (.t a8) (.cons (.t a8) .nil))) a8,?_⟩
  refine⟨_,fun H=>j6.move (.t a8) a8,?_⟩
  refine⟨_,fun H=>j6.O7 (.t a8) a8,?_⟩
  refine⟨_,fun H=>j6.O8 (.t a8) a8,?_⟩
  refine⟨_,fun H=>j6.O9 (.t a8) a8,?_⟩
  refine .inl (.inl (.inl ?_))
  refine⟨_,fun H=>j6.assign (.t a8) a8,?_⟩
  refine⟨a8,?_⟩
  refine⟨⟨j2 [c8,c8,c8,c8,c8,c8,c8],a8⟩,fun Ys14 => ?_⟩
  refine A6.alloc A5 fun b19 => ?_
  refine⟨[_],_,a8,?_⟩
  refine⟨⟨j2 [c8,c8,c8,c8,c8,c8,c8],a8⟩,fun Ys14 => ?_⟩
  refine A6.Q1 A0 (.t rfl) (.t rfl) (.s (u4.app (u4.app .z6))) ?_
  refine⟨[_],_,a8,?_⟩
  refine⟨⟨j2 [c8,c8,c8,c8,c8,c8,_],a8⟩,fun Ys14 => ?_⟩
  refine A6.Q1 A5 (.t rfl) (.t rfl) .z ?_
  refine⟨[_],_,a8,?_⟩
  refine⟨⟨j2 [c8,c8,c8,c8,c8,c8,_],a8⟩,fun ws14 => ?_⟩
  refine⟨⟨j2 [c8,c8,c8,c8,c8,c8,_],a8⟩,fun _ => ?_⟩
  show D6 _ _ _ _ _ [] ((15,_)::(19,_)::(79,_)::(78,_)::(77,_)::(71,_)::(76,_)::(75,_)::(74,_)::(73,_)::(72,_)::_) _
  refine .q 8 hG ⟨fun hc81 => ?_,fun hc81 => ?_⟩
  · refine .q 2 hG ?_
    refine .p (.bS0 (α:=m0) a8 A0 a1n (.p (.bS0 (α:=p5) a8 T3 a9z (.mv a8 (.n (.Q1 A0 (.t a8) (.t a8) .z5 (.n (.Q1 T3 (.t a8) (.t a8) .z4 (.ag a8 ?_)))))))))
    refine .q 2 hG ?_
    refine⟨_,.r3 a8 (.cell A0 a8 .z5) (.cell T3 a8 .z4) (.tmp a8),?_⟩
    unfold a6a
    rw [Q2 hc81]
  · refine .q 2 hG ?_
    refine .draw (by kernel_rfl) 12 [[],[],[],[(86,1),(87,2)],[],[(88,3),(89,4)],[],[(91,6)],[(85,0),(90,5),(92,7)],[(93,8)],[(93,8)],[(93,8)]] a8 (by kernel_rfl) a8 ?_
    refine⟨_,j6.T1 A0 (.t a8) .z7 a8,?_⟩
    refine⟨_,j6.F1 (α:=UInt8) ty5 underlying86 .nil a8 (by decide) a8,?_⟩
    refine⟨_,j6.move (.t a8) a8,?_⟩
    refine⟨_,j6.a0H P4 (.inl ⟨_,underlying86⟩) (.t a8) (.v (.t a8)) (by simp<;>omega) (by simp<;>omega) a8,?_⟩
    refine⟨_,j6.T1 A5 (.t a8) .z a8,?_⟩
    refine⟨_,j6.bS2 p5.l0 p5.l2 a8 T3 a9z (fun c0 c2=>(⟨c0,[],c2⟩:p5)) (fun _ _=>a8) a8 a8 a8 (.t a8) (.t a8) a8,?_⟩
    refine⟨_,j6.move (.t a8) a8,?_⟩
    refine⟨_,j6.bS2 j4.l0 j4.l4 a8 Q5 a7Z (fun c0 c4=>(⟨c0,0,0,0,c4,0⟩:j4)) (fun _ _=>a8) a8 a8 a8 (.i a8) (.t a8) a8,?_⟩
    refine⟨_,j6.o9 hG (a6b _ _ _ (by simp)) (.cons (.t a8) (.cons (.t a8) (.cons (.t a8) .nil))) a8,?_⟩
    refine⟨_,j6.O7 (.t a8) a8,?_⟩
    refine⟨_,j6.O8 (.t a8) a8,?_⟩
    refine⟨_,j6.O9 (.t a8) a8,?_⟩
    show D6 _ _ _ _ _ [_,_,_] ((96,_)::(95,_)::(94,_)::(93,_)::(92,_)::(91,_)::(90,_)::(89,_)::(88,_)::(87,_)::(86,_)::(85,_)::_) _
    refine .n (.Q1 A0 (.t a8) (.t a8) .z5 (.n (.Q1 T3 (.t a8) (.t a8) .z4 (.ag a8 ?_))))
    refine .q 2 hG ?_
    refine⟨_,.r3 a8 (.cell A0 a8 .z5) (.cell T3 a8 .z4) (.tmp a8),?_⟩
    unfold a6a
    rw [F8 (Decidable.not_not.1 hc81)];rfl
theorem b8Y {c:b0S} {t:B1} (h:(!a0K t||decide (c.F9 < 0)||decide (7 < c.F9))=true):(a0K t&&decide (0≤c.F9)&&decide (c.F9≤7))=false:=by
 simp only [Bool.or_eq_true,Bool.not_eq_true',decide_eq_true_eq] at h
 rcases h with (h|h)|h
 ·rw [h];rfl
 ·rw [decide_eq_false (show ¬0≤c.F9 by omega),Bool.and_false];rfl
 ·rw [decide_eq_false (show ¬c.F9≤7 by omega),Bool.and_false]
theorem b6P {c:b0S} {t:B1} (h:(!a0K t||decide (c.F9 < 0)||decide (7 < c.F9))=false):a0K t=true∧0≤c.F9∧c.F9≤7:=by
 simp only [Bool.or_eq_false_iff,Bool.not_eq_false',decide_eq_false_iff_not] at h;exact⟨h.1.1,by omega,by omega⟩
theorem b4B {t:B1} (h:a0K t=true):0≤t.a3A∧t.a3A≤t.a6Y∧t.a6Y≤150:=by
 unfold a0K at h;simp only [Bool.and_eq_true,decide_eq_true_eq] at h;omega
theorem b1i {a:D3} {x:o5} (h:x∈(Q6 a).1.y2):x∈a.y2:=by
 unfold Q6 at h;split at h
 ·cases h
 ·exact h
theorem c0L (a:D3) (c:b0S) (t:B1) (h0:0≤a.G0) (hb:∀ x∈a.y2,x.Y0.length≤1000000):u1 gl prog 80 [.v a,.v c,.v t] (fun r=>r = .t3 (.v (a39 a c t).1) (.v (a39 a c t).2.1) (.v (a39 a c t).2.2)):=by
 have hb1:∀ x∈(Q6 a).1.y2,x.Y0.length≤1000000:=fun x hx=>hb x (b1i hx)
 refine u1.jn func80 (by kernel_rfl) 70 rfl fun C hC hG => ?_
 refine .q 3 hG fun b3 => ?_
 refine .q 1 hG fun b4 => ?_
 refine .q 1 hG fun b5 => ?_
 refine .q 1 hG fun b6 => ?_
 refine .q 1 hG fun b7 => ?_
 refine .q 4 hG ?_
 refine .A8 hC .z3 (.O5 4 a8 .z3 (.A8 hC .z2 (.O5 5 a8 .z2 ?_)))
 refine .q 2 hG ?_
 refine .k hG (a9W _) ?_
 refine .q 12 hG ?_
 refine .cond (.t a8) (fun hc24 => ?_) (fun hc24 => ?_)
 ·refine .q 2 hG ?_
  refine .p (.bS0 (α:=m0) a8 A0 a1n (.p (.bS0 (α:=C3) a8 a3F b4O ?_)))
  refine .q 5 hG ?_
  refine⟨_,.r3 a8 (.cell A0 a8 .z1) (.cell a3F a8 .z) (.tmp a8),?_⟩
  unfold a39
  rw [if_pos (b8Y hc24)]
 ·refine .q 2 hG ?_
  obtain⟨htk,hp0,hp7⟩:=b6P hc24
  have htt:=b4B htk
  have hn1:=B2 (n:=t.a3A.toNat) (by omega)
  have hn2:=B2 (n:=t.a6Y.toNat) (by omega)
  refine .q 2 hG ?_
  refine .k hG (b3R _ h0) ?_
  refine .q 5 hG fun b9 => ?_
  refine .q 6 hG ?_
  have hbf:(a0K t&&decide (0≤c.F9)&&decide (c.F9≤7))=true:=by rw [htk,decide_eq_true hp0,decide_eq_true hp7];rfl
  refine .q 5 hG ⟨fun hc34 => ?_,fun hc34 => ?_⟩
  ·refine .q 2 hG ?_
   refine .p (.bS0 (α:=m0) a8 A0 a1n (.p (.bS0 (α:=C3) a8 a3F b4O ?_)))
   refine .q 6 hG ?_
   refine⟨_,.r3 a8 (.cell A0 a8 .z2) (.cell a3F a8 .z1) (.tmp a8),?_⟩
   unfold a39
   rw [if_neg (by rw [hbf];decide),Q2 hc34]
  ·refine .q 2 hG ?_
   refine .A8 hC .z (.O5 9 rfl .z (.a1a [[j1,j1,j1,j1,j1,j1],[j1,j1,j1,j1,j1,j1],[j1,j1,j1,j1,j1,j1],[j1,j1,j1,j1,j1,j1],[j1,j1,j1,j1,j1,j1],[j1,j1,j1,j1,j1,j1],[j1,j1,j1,j1,j1,j0]] [[j1,j1,j1,j1,j1,j1],[j1,j1,j1,j1,j1,j1],[j1,j1,j1,j1,j1,j1],[j1,j1,j1,j1,j1,j1],[j1,j1,j1,j1,j1,j1],[],[j1,j1,j1,j1,j1,j1],[],[j1,j1,j1,j1,j1,j1],[j1,j1,j1,j1,j1,j1],[j1,j1,j1,j1,j1,j1],[],[j1,j1,j1,j1,j1,j1],[j1,j1,j1,j1,j1,j1],[j1,j1,j1,j1,j1,j1],[],[],[j1,j1,j1,j1,j1,j1],[j1,j1,j1,j1,j1,j1],[j1,j1,j1,j1,j1,j0],[j1,j1,j1,j1,j1,j0],[],[j1,j1,j1,j1,j1,j0],[j1,j1,j1,j1,j1,j0]] [[],[],[],[],[],[17,18,19,20,22,23],[]] [] 6 (by kernel_rfl) 24 [[],[],[(40,1)],[],[(42,3)],[],[],[(44,5),(45,6)],[],[(47,8)],[(48,9)],[(46,7),(49,10)],[],[(51,12)],[(52,13)],[(50,11),(53,14)],[(39,0),(41,2),(43,4),(54,15)],[(55,16)],[(38,17)],[(38,17)],[(38,17)],[(56,18)],[(57,19)],[(58,20)]] [5,7,11,15,16,21] rfl (by kernel_rfl) rfl (by kernel_rfl) rfl (by decide) (by simp) (fun p hp=>by cases hp) (by kernel_rfl) rfl ?_))
   refine⟨_,fun H=>j6.T1 A0 (.t a8) (u4.app .z5) a8,?_⟩
   refine⟨_,fun H=>j6.A9 x7.l1 (fun x=>x.Key) b7t a8 (fun _=>a8) (.t a8) a8,?_⟩
   refine⟨_,fun H=>j6.G9 A5 (.t a8) a8,?_⟩
   refine⟨_,fun H=>j6.B0 m0.l2 b3k a8 (.t a8) a8,?_⟩
   refine⟨_,fun H=>j6.ldF (fun x=>x.G0) R3 (.t a8) (u4.app .z5) (fun _=>a8) a8,?_⟩
   refine .inl ?_
   refine⟨_,fun H=>j6.P0 (by decide) O1 (.t a8) a8,?_⟩
   refine .inl ?_
   refine⟨_,fun H=>j6.A9 B1.l0 (fun x=>x.a3A) b4P a8 (fun _=>a8) (.t a8) a8,?_⟩
   refine⟨_,fun H=>j6.G9 R3 (.t a8) a8,?_⟩
   refine⟨_,fun H=>j6.o9 hG (F4 _ (by omega) (by omega)) (.cons (.t a8) .nil) a8,?_⟩
   refine .inl ?_
   refine⟨_,fun H=>j6.A9 B1.l1 (fun x=>x.a6Y) b4Q a8 (fun _=>a8) (.t a8) a8,?_⟩
   refine⟨_,fun H=>j6.G9 R3 (.t a8) a8,?_⟩
   refine⟨_,fun H=>j6.o9 hG (F4 _ (by omega) (by omega)) (.cons (.t a8) .nil) a8,?_⟩
   refine .inl (.inl (.inl (.inl (.inl (.inl (.inl (.inl (.inl ?_))))))))
   refine⟨a8,?_⟩
   refine⟨⟨j2 [c8,c8,c8,c8,c8,c8],a8⟩,fun Ys6 => ?_⟩
   refine A6.buildSlice (α:=UInt8) ty5 underlying86 .nil rfl (by decide) fun b44 => ?_
   refine⟨[_],_,a8,?_⟩
   refine⟨⟨j2 [c8,c8,c8,c8,c8,c8],a8⟩,fun Ys6 => ?_⟩
   refine A6.append P4 (.inl ⟨_,underlying86⟩) rfl .z (.v (.t rfl)) (by simp) (by simp) (fun w46 => ?_) rfl
   refine⟨[_],_,a8,?_⟩
   refine⟨⟨j2 [c8,c8,c8,c8,c8,c8],a8⟩,fun Ys6 => ?_⟩
   refine A6.append P4 (.inl ⟨_,underlying86⟩) rfl .z (.v (.t rfl)) (by simp<;>omega) (by simp<;>omega) (fun w50 => ?_) rfl
   refine⟨[_],_,a8,?_⟩
   refine⟨⟨j2 [c8,c8,c8,c8,c8,c8],a8⟩,fun Ys6 => ?_⟩
   refine A6.append P4 (.inl ⟨_,underlying86⟩) rfl .z (.v (.t rfl)) (by simp<;>omega) (by simp<;>omega) (fun w54 => ?_) rfl
   refine⟨[_],_,a8,?_⟩
   refine⟨⟨j2 [c8,c8,c8,c8,c8,c8],a8⟩,fun Ys6 => ?_⟩
   refine A6.u0 hC .z (A6.as 54 rfl .z (A6.ofP (j6.o9 hG (b5x _ _ _ _ hb1) (.cons (.t rfl) (.cons (.t rfl) (.cons (.t rfl) (.cons (.t rfl) .nil)))) ?_)))
   refine⟨[_],_,a8,?_⟩
   refine⟨_,fun H=>j6.move (.t a8) a8,?_⟩
   refine⟨_,fun H=>j6.O7 (.t a8) a8,?_⟩
   refine⟨_,fun H=>j6.O8 (.t a8) a8,?_⟩
   refine⟨_,fun H=>j6.O9 (.t a8) a8,?_⟩
   refine⟨_,fun H=>j6.assign (.t a8) a8,?_⟩
   refine⟨_,fun H=>j6.assign (.t a8) a8,?_⟩
   refine⟨⟨j2 [c8,c8,c8,c8,c8,c8],a8⟩,fun Ys6 => ?_⟩
   refine A6.Q1 A0 (.t rfl) (.t rfl) (.s (u4.app (u4.app .z5))) ?_
   refine⟨[_],_,a8,?_⟩
   refine⟨⟨j2 [c8,c8,c8,c8,c8,_],a8⟩,fun ws6 => ?_⟩
   refine⟨⟨j2 [c8,c8,c8,c8,c8,_],a8⟩,fun _ => ?_⟩
   show D6 _ _ _ _ _ [] ((10,_)::(11,_)::(58,_)::(57,_)::(56,_)::(38,_)::(55,_)::(54,_)::(53,_)::(52,_)::(51,_)::(50,_)::(49,_)::(48,_)::(47,_)::(46,_)::(45,_)::(44,_)::(43,_)::(42,_)::(41,_)::(40,_)::(39,_)::_) _
   refine .q 8 hG ⟨fun hc60 => ?_,fun hc60 => ?_⟩
   ·refine .q 2 hG ?_
    refine .p (.bS0 (α:=m0) a8 A0 a1n (.p (.bS0 (α:=C3) a8 a3F b4O (.mv a8 (.n (.Q1 A0 (.t a8) (.t a8) .z3 (.n (.Q1 a3F (.t a8) (.t a8) .z2 (.ag a8 ?_)))))))))
    refine .q 2 hG ?_
    refine⟨_,.r3 a8 (.cell A0 a8 .z3) (.cell a3F a8 .z2) (.tmp a8),?_⟩
    unfold a39
    rw [if_neg (by rw [hbf];decide),F8 (Decidable.not_not.1 hc34),Q2 (r:=(Q7 (Q6 a).1 c.Key (Q6 a).1.G0 (a0g (Q6 a).2.1 t))) hc60];rfl
   ·refine .q 2 hG ?_
    refine .E0 [j1,j1,j0,j0,j1,j1,j1] (by kernel_rfl) 9 [[],[],[(65,1)],[],[],[(66,2),(67,3),(68,4)],[(64,0)],[(69,5)],[]] [6,7] a8 (by kernel_rfl) a8 (by kernel_rfl) (by decide) ?_
    refine⟨_,fun H=>j6.T1 A0 (.t a8) (u4.app .z6) a8,?_⟩
    refine⟨_,fun H=>j6.A9 x7.l0 (fun x=>x.F9) b7s a8 (fun _=>a8) (.t a8) a8,?_⟩
    refine⟨_,fun H=>j6.G9 R3 (.t a8) a8,?_⟩
    refine⟨_,fun H=>j6.G9 A5 (.t a8) a8,?_⟩
    refine⟨_,fun H=>j6.move (.t a8) a8,?_⟩
    refine⟨_,fun H=>j6.bS3 C3.l0 C3.l1 C3.l2 a8 a3F b4O (fun c0 c1 c2=>(⟨c0,c1,c2⟩:C3)) (fun _ _ _=>a8) a8 a8 a8 a8 (.t a8) (.t a8) (.t a8) a8,?_⟩
    refine .inl (.inl ?_)
    refine⟨_,fun H=>j6.assign (.i a8) a8,?_⟩
    refine⟨⟨([],j2 [c8,c8,_,_,c8,c8,c8]),a8⟩,?_⟩
    refine A6.Q1 A0 (.t rfl) (.t rfl) .z3 ?_
    refine⟨⟨([],j2 [c8,c8,_,_,c8,c8,c8]),a8⟩,?_⟩
    refine A6.Q1 a3F (.t rfl) (.t rfl) .z2 ?_
    refine⟨⟨([],j2 [c8,c8,_,_,c8,c8,c8]),a8⟩,?_⟩
    show D6 _ _ _ _ _ [] ((8,_)::(69,_)::(68,_)::(67,_)::(66,_)::(65,_)::(64,_)::_) _
    refine .q 2 hG ?_
    refine⟨_,.r3 a8 (.cell A0 a8 .z3) (.cell a3F a8 .z2) (.tmp a8),?_⟩
    unfold a39
    rw [if_neg (by rw [hbf];decide),F8 (Decidable.not_not.1 hc34),F8 (r:=(Q7 (Q6 a).1 c.Key (Q6 a).1.G0 (a0g (Q6 a).2.1 t))) (Decidable.not_not.1 hc60)];rfl
theorem ofNat_inj {a b:Nat} (ha:a < 256) (hb:b < 256) (h:UInt8.ofNat a=UInt8.ofNat b):a=b:=by
 have:=congrArg UInt8.toNat h
 simp at this;omega
theorem W2:∀ (a b:Nat) (s t:List UInt8),J7 a++s=J7 b++t→a=b∧s=t:=by
 intro a
 induction a using Nat.strongRecOn with
 | _ a ih =>
  intro b s t h
  by_cases ha:a < 128
  ·by_cases hb:b < 128
   ·rw [a2k ha,a2k hb] at h
    simp only [List.cons_append,List.nil_append,List.cons.injEq] at h
    exact⟨ofNat_inj (by omega) (by omega) h.1,h.2⟩
   ·rw [a2k ha,a34 hb] at h
    simp only [List.cons_append,List.nil_append,List.cons.injEq] at h
    have:=ofNat_inj (by omega) (by omega) h.1
    omega
  ·by_cases hb:b < 128
   ·rw [a34 ha,a2k hb] at h
    simp only [List.cons_append,List.nil_append,List.cons.injEq] at h
    have:=ofNat_inj (by omega) (by omega) h.1
    omega
   ·rw [a34 ha,a34 hb] at h
    simp only [List.cons_append,List.cons.injEq] at h
    have h1:=ofNat_inj (by omega) (by omega) h.1
    obtain⟨h2,h3⟩:=ih (a/128) (by omega) (b/128) s t h.2
    exact⟨by omega,h3⟩
def bnd (B:D3) (leaf:Tag) (r:Rq) (g:Dis):Bnd:=⟨g.j9,g.l8,(m5 B g.Tag (U0 leaf r)).1⟩
theorem a86 {r:Rq} (h:S1 r=true):(a1h r).length≤14:=by
 have:=a1i h
 have l1:=B2 (n:=r.Gate.toNat) (by omega)
 have l2:=B2 (n:=r.E5.toNat) (by omega)
 unfold a1h;rw [List.length_append];omega
theorem b4C {leaf:Tag} {r:Rq} (h:S1 r=true):(U0 leaf r).length≤60:=by
 have:=a86 h
 unfold U0;rw [List.length_append,List.length_append,leaf.len];show 4+_≤_;omega
theorem b8Z {r:Rq} (h:S1 r=true):(a1r r).length≤30:=by
 have:=a86 h
 unfold a1r;rw [List.length_append];show 7+_≤_;omega
structure c3C (a:D3) (n:Nat) (leaf:Tag) (r:Rq) (l:List Dis) (c:D3):Prop where
 eq:a2M leaf r a l=(c,l.map (bnd c leaf r),0)
 ok:G8 c (n+l.length)
 le:P6 a c
 boxes:c.y2=a.y2
 looks:∀ g∈l,(m5 c g.Tag (U0 leaf r)).2=true
 Z2:∀ x∈c.G5,x∈a.G5∨∃ g∈l,x.Key=g.Tag∧x.Message=U0 leaf r
theorem G8.binds (leaf:Tag) {r:Rq} (hr:S1 r=true):∀ (l:List Dis) {a:D3} {n:Nat},G8 a n→n+l.length < 60000→∃ c,c3C a n leaf r l c
 | [],a,n,h,_=>⟨a,rfl,h,P6.refl a,rfl,fun g hg=>(by cases hg),fun x hx=>Or.inl hx⟩
 | d::l,a,n,h,hn=>by
  rw [List.length_cons] at hn
  obtain⟨b,t,s⟩:=h.step (by omega) d.Tag (m:=U0 leaf r) (by have:=b4C (leaf:=leaf) hr;omega)
  obtain⟨c,q⟩:=G8.binds leaf hr l s.ok (by omega)
  have hl:m5 c d.Tag (U0 leaf r)=(t,true):=q.le.look s.look
  have e1:a2L a d leaf r=(b,⟨d.j9,d.l8,t⟩,0):=by
   unfold a2L;rw [if_neg (by rw [hr];decide),s.eq,F8 rfl]
  refine⟨c,?_,?_,s.le.trans q.le,q.boxes.trans s.boxes,fun g hg => ?_,fun x hx => ?_⟩
  ·show a00 (a2L a d leaf r) _=_
   rw [e1,F8 rfl];dsimp only
   rw [q.eq,F8 rfl,List.map_cons]
   have:bnd c leaf r d=⟨d.j9,d.l8,t⟩:=by unfold bnd;rw [hl]
   rw [this]
  ·have:=q.ok;rw [List.length_cons];exact this.le (by omega)
  ·rcases List.mem_cons.1 hg with rfl|hg
   ·rw [hl]
   ·exact q.looks g hg
  ·rcases q.Z2 x hx with h'|⟨g,hg,h'⟩
   ·rcases s.Z2 x h' with h'|h'
    ·exact Or.inl h'
    ·exact Or.inr ⟨d,by simp,h'⟩
   ·exact Or.inr ⟨g,by simp [hg],h'⟩
theorem b4D (l:List Cav):0≤a1g l∧a1g l≤l.length:=by
 have:=a0X l;unfold a1g;omega
theorem a4V (l:List Bnd):a3q l=false↔(l.map (·.j9)).Nodup:=by
 unfold a3q V3 List.Nodup
 rw [List.pairwise_map,List.pairwise_iff_getElem,List.any_eq_false]
 constructor
 ·intro h i j hi hj hij e
  have h1:=h j (List.mem_range.2 hj)
  rw [Bool.not_eq_true,List.any_eq_false] at h1
  have h2:=h1 l[i] (List.mem_take_iff_getElem.2 ⟨i,by omega,rfl⟩)
  rw [a4b hj] at h2
  simp [e] at h2
 ·intro h j hj
  rw [Bool.not_eq_true,List.any_eq_false]
  intro x hx
  obtain⟨i,hi,rfl⟩:=List.mem_take_iff_getElem.1 hx
  have hj':=List.mem_range.1 hj
  rw [a4b hj']
  have:=h i j (by omega) hj' (by omega)
  simpa using this
theorem b1k {A : D3} {root : Epo} {P : Pass} {G : List Dis} {T : List Tag} {n k : Nat} (h : a0q A root P G T n k) (hk : k ≤ 6) {r : Rq} (hr : S1 r = true) (t : Tag) (f : Dis → Bnd) (hf : ∀ g, (f g).j9 = g.j9 ∧ (f g).l8 = g.l8) :
    K3 ⟨r,P.C7,P.y7,P.j7,t,G.map f⟩=0:=by
  have hncav:=h.a4N
  have hngr:=h.ngr
  have hser:=h.a4S
  have hep:=h.a3K
  have hth:=b4D P.j7
  have hrq:=a1i hr
  have e1:L8 ⟨r,P.C7,P.y7,P.j7,t,G.map f⟩=true:=by
    unfold L8;simp [hr];omega
  have e2:S7 ⟨r,P.C7,P.y7,P.j7,t,G.map f⟩=false:=by
    unfold S7
    simp only [List.any_map,Bool.or_eq_false_iff,decide_eq_false_iff_not,List.any_eq_false,List.length_map]
    refine⟨⟨⟨by omega,by omega⟩,by omega⟩,fun g hg => ?_⟩
    have:=(h.a2d g hg).a74
    simp only [Function.comp,a1Q,(hf g).2]
    simpa using this
  have e3:((P.j7.any fun c => !H5 c)||(G.map f).any a3p)=false:=by
    simp only [List.any_map,Bool.or_eq_false_iff,List.any_eq_false]
    refine⟨fun c hc=>by rw [(h.cav c hc).1];decide,fun g hg => ?_⟩
    have h1:=h.a2d g hg
    have h2:(g.l8.any fun p => !A7 p)=false:=List.any_eq_false.2 fun p hp=>by rw [(h1.con p hp).1];decide
    have:=h1.tick
    simp only [Function.comp,a3p,(hf g).1,(hf g).2,h2]
    rw [decide_eq_false (show ¬g.j9.length < 1 by omega),decide_eq_false (show ¬1024 < g.j9.length by omega)];decide
  have e4:(G.map f).any a3J=false:=by
    simp only [List.any_map,List.any_eq_false]
    intro g hg
    have h2:(g.l8.any fun p=>decide (p.Kind=7))=false:=List.any_eq_false.2 fun p hp=>by simpa using ((h.a2d g hg).con p hp).2
    simp only [Function.comp,a3J,(hf g).2,h2];decide
  have e5:a3q (G.map f)=false:=by
    rw [a4V,List.map_map]
    have:((fun d:Bnd=>d.j9)∘f)=fun g:Dis=>g.j9:=funext fun g=>(hf g).1
    rw [this];exact h.nodup
  have e6:(a1j ⟨r,P.C7,P.y7,P.j7,t,G.map f⟩).length≤4096:=by
    have l1:=a1D [1,r.Gate,r.E5,P.C7,P.y7,(P.j7.length:Int)] (by simp<;>omega)
    have l2:=a18 D9 P.j7 200 fun c hc=>(h.cav c hc).2
    have l3:=B2 (n:=(G.map f).length) (by simp<;>omega)
    have l4:=a18 K7 (G.map f) 400 fun d hd=>by
      obtain⟨g,hg,rfl⟩:=List.mem_map.1 hd
      have h1:=h.a2d g hg
      have:=h1.tick
      have:=h1.a74
      have m1:=B2 (n:=(f g).j9.length) (by rw [(hf g).1];omega)
      have m2:=B2 (n:=(f g).l8.length) (by rw [(hf g).2];omega)
      have m3:=a18 u6 g.l8 24 fun p hp=>H7 (K6 (h1.con p hp).1)
      unfold K7 a0w
      rw [(hf g).1] at m1 ⊢
      rw [(hf g).2] at m2 ⊢
      simp only [List.length_append,(f g).Proof.len];omega
    rw [List.length_map] at l3 l4
    simp only [List.length_cons,List.length_nil] at l1
    unfold a1j
    simp only [List.length_append,t.len,List.length_map];omega
  have e0:F7 ⟨r,P.C7,P.y7,P.j7,t,G.map f⟩=0:=by
    unfold F7;dsimp only;simp only [e1,e2,e3,e4,e5,Bool.false_eq_true,Bool.true_eq_false,if_false]
  unfold K3
  rw [e0,if_neg (by decide),if_neg (by omega)]
structure a7c (B:D3) (root:Epo) (P:Pass) (G:List Dis) (T:List Tag) (r:Rq) (t:Tag) (n k:Nat):Prop where
 sc:a0q B root P G T n k
 rq:S1 r=true
 proof:m5 B P.Tag (a1r r)=(t,true)
 binds:∀ g∈G,(m5 B g.Tag (U0 P.Tag r)).2=true
 Z2:∀ x∈B.G5,(∃ c,x.Message.head?=some c∧c≠114∧c≠98)∨(x.Key=P.Tag∧x.Message=a1r r)∨(∃ g∈G,x.Key=g.Tag∧x.Message=U0 P.Tag r)
def prB (B:D3) (P:Pass) (G:List Dis) (r:Rq) (t:Tag):O4:=⟨r,P.C7,P.y7,P.j7,t,G.map (bnd B P.Tag r)⟩
theorem a88:∀ {X:List Bnd} {d:Bnd},(X.map (·.j9)).Nodup→d∈X→a3a X d.j9=some d
 | [],g,_,h=>by cases h
 | e::X,d,hn,h=>by
  unfold a3a
  rw [List.map_cons,List.nodup_cons] at hn
  by_cases q:e.j9=d.j9
  ·rw [List.find?_cons_of_pos (by simpa using q)]
   rcases List.mem_cons.1 h with rfl|h
   ·rfl
   ·exact absurd (List.mem_map.2 ⟨d,h,q.symm⟩) hn.1
  ·rw [List.find?_cons_of_neg (by simpa using q)]
   rcases List.mem_cons.1 h with rfl|h
   ·exact absurd rfl q
   ·exact a88 hn.2 h
theorem b9a {f:Dis→Bnd} (hf:∀ g,(f g).j9=g.j9) (G:List Dis):(G.map f).map (·.j9)=G.map (·.j9):=by
 rw [List.map_map]
 have:((fun d:Bnd=>d.j9)∘f)=fun g:Dis=>g.j9:=funext hf
 rw [this]
theorem a7d {f:Dis→Bnd} (hf:∀ g,(f g).j9=g.j9) {G:List Dis} {g:Dis} (hn:(G.map (·.j9)).Nodup) (h:g∈G):a3a (G.map f) g.j9=some (f g):=by
 rw [←hf g]
 exact a88 (by rw [b9a hf];exact hn) (List.mem_map.2 ⟨g,h,rfl⟩)
theorem a0q.last {A:D3} {root:Epo} {P:Pass} {G:List Dis} {T:List Tag} {n k:Nat} (h:a0q A root P G T n k):T.getLastD default=P.Tag:=by
 have h1:=h.leaf
 rwa [getLastD_cons (by have:=h.a5k;omega)] at h1
theorem b6H.ver {B:D3} {root:Epo} {P:Pass} {G:List Dis} {T:List Tag} {r:Rq} {t:Tag} {n k:Nat} (h:a7c B root P G T r t n k) {c:Cav} {s:Tag} (hc:b6H B G s c) {x:O4} (hx:x.Request=r) (hd:∀ g∈G,a3a x.j3 g.j9=some (bnd B P.Tag r g)):b5D B x c s P.Tag:=by
 obtain⟨key,bk,g,h1,h2,h3,h4,h5⟩:=hc.th
 refine⟨key,bk,bnd B P.Tag r g,g.Tag,h2,h3,by rw [←h4];exact hd g h1,?_,?_⟩
 ·rw [←h4];exact h5
 ·rw [hx];exact Prod.ext rfl (h.binds g h1)
theorem a7c.ver {B:D3} {root:Epo} {P:Pass} {G:List Dis} {T:List Tag} {r:Rq} {t:Tag} {n k:Nat} (h:a7c B root P G T r t n k) (hk:k≤6):b5E B root.Key (prB B P G r t) T:=by
 refine⟨b1k h.sc hk h.rq t (bnd B P.Tag r) fun g=>⟨rfl,rfl⟩,h.sc.walk,h.sc.a5k,h.sc.nodes,by rw [h.sc.last];exact h.proof,fun i hi h3 => ?_,?_⟩
 ·rw [h.sc.last]
  exact(h.sc.a5E i hi h3).ver h a8 fun g hg=>a7d (fun _=>a8) h.sc.nodup hg
 ·refine List.any_eq_false.2 fun d hd => ?_
  obtain⟨g,hg,rfl⟩:=List.mem_map.1 hd
  obtain⟨c,hc,h1,h2⟩:=(h.sc.a2d g hg).cav
  have:(P.j7.any fun c=>c.K5&&decide (c.j9=g.j9))=true:=List.any_eq_true.2 ⟨c,hc,by rw [h1,h2];simp⟩
  show ¬(!(P.j7.any fun c=>c.K5&&decide (c.j9=g.j9)))=true
  rw [this];decide
theorem Y5 {B:D3} {n:Nat} (h:G8 B n) (hn:n < 60000) (hf:B.I7=true) {k k' t:Tag} {m m':List UInt8} (h1:m5 B k m=(t,true)) (h2:m5 B k' m'=(t,true)):k=k'∧m=m':=by
 rw [look_eq,if_pos hf] at h1 h2
 obtain⟨x,hx,hx2⟩:=h1
 obtain⟨y,hy,hy2⟩:=h2
 have ex:=(a5g k m x).1 (List.find?_some hx)
 have ey:=(a5g k' m' y).1 (List.find?_some hy)
 obtain⟨i,hi,rfl⟩:=List.getElem_of_mem (List.mem_of_find?_eq_some hx)
 obtain⟨j,hj,rfl⟩:=List.getElem_of_mem (List.mem_of_find?_eq_some hy)
 have t1:=(h.tag i hi).2
 have t2:=(h.tag j hj).2
 have hl:=h.Z2
 rw [hf,if_pos rfl] at t1 t2
 rw [hx2] at t1;rw [hy2] at t2
 obtain rfl:=b0W (by omega) (by omega) (t1.symm.trans t2)
 exact⟨ex.1.symm.trans ey.1,ex.2.symm.trans ey.2⟩
theorem a89 {B:D3} (hf:B.I7=true) {k t:Tag} {m:List UInt8} (h1:m5 B k m=(t,true)):∃ x∈B.G5,x.Key=k∧x.Message=m:=by
 rw [look_eq,if_pos hf] at h1
 obtain⟨x,hx,hx2⟩:=h1
 have ex:=(a5g k m x).1 (List.find?_some hx)
 exact⟨x,List.mem_of_find?_eq_some hx,ex.1,ex.2⟩
theorem W3 {p:Tag→List UInt8→Tag×Bool} {k:Tag} {l:List (List UInt8)} {m:List UInt8} {r:List Tag} (h:M9 p k (l ++ [m])=some r):∃ s,M9 p k l=some s∧p (s.getLastD default) m=(r.getLastD default,true):=by
 rw [a6B] at h
 cases hs:M9 p k l with
 | none=>rw [hs] at h;cases h
 | some s =>
  rw [hs] at h
  refine⟨s,a8,?_⟩
  have h2:(if (p (s.getLastD default) m).2 then some (s ++ [(p (s.getLastD default) m).1]) else none)=some r:=h
  split at h2
  ·next h3 =>
   obtain rfl:=Option.some.inj h2
   have e:∀ x:Tag,(s ++ [x]).getLastD default=x:=fun x=>by rw [List.getLastD_eq_getLast?,List.getLast?_append];rfl
   exact Prod.ext (e _).symm h3
  ·cases h2
theorem a5F {p q:Pred} (hp:A7 p=true) (hq:A7 q=true) (h:u6 p=u6 q):p=q:=by
 have op:=K6 hp
 have oq:=K6 hq
 have kp:=op.kind
 have kq:=oq.kind
 unfold u6 at h
 obtain⟨h1,h⟩:=W2 _ _ _ _ h
 have hk:p.Kind=q.Kind:=by omega
 unfold A7 at hp hq
 rw [←hk] at hq h
 have pf:=op.from_
 have qf:=oq.from_
 have pt:=op.to
 have qt:=oq.to
 have pn:=op.num
 have qn:=oq.num
 by_cases a1:p.Kind=1∨p.Kind=2∨p.Kind=3
 ·rw [if_pos a1] at hp hq
  simp only [Bool.and_eq_true,decide_eq_true_eq] at hp hq
  rw [if_neg (by omega),if_neg (by omega),if_neg (by omega),if_neg (by omega),if_neg (by omega),if_neg (by omega)] at h
  have e:=a8X h
  exact hp.2.trans ((by rw [e]:(⟨p.Kind,p.Mask,0,0,⟨[]⟩,0⟩:Pred)=⟨p.Kind,q.Mask,0,0,⟨[]⟩,0⟩).trans hq.2.symm)
 ·rw [if_neg a1] at hp hq
  by_cases a4:p.Kind=4
  ·rw [if_pos a4] at hp hq
   simp only [Bool.and_eq_true,decide_eq_true_eq] at hp hq
   rw [if_pos (Or.inl a4),if_pos (Or.inl a4)] at h
   obtain⟨e1,h⟩:=W2 _ _ _ _ h
   obtain⟨e2,_⟩:=W2 p.To.toNat q.To.toNat [] [] (by rw [h])
   have f1:p.M7=q.M7:=by omega
   have f2:p.To=q.To:=by omega
   exact hp.2.trans ((by rw [f1,f2]:(⟨p.Kind,0,p.M7,p.To,⟨[]⟩,0⟩:Pred)=⟨p.Kind,0,q.M7,q.To,⟨[]⟩,0⟩).trans hq.2.symm)
  ·rw [if_neg a4] at hp hq
   by_cases a5:p.Kind=5
   ·rw [if_pos a5] at hp hq
    simp only [Bool.and_eq_true,decide_eq_true_eq] at hp hq
    rw [if_pos (Or.inr a5),if_pos (Or.inr a5)] at h
    obtain⟨e1,h⟩:=W2 _ _ _ _ h
    obtain⟨e2,_⟩:=W2 p.To.toNat q.To.toNat [] [] (by rw [h])
    have f1:p.M7=q.M7:=by omega
    have f2:p.To=q.To:=by omega
    exact hp.2.trans ((by rw [f1,f2]:(⟨p.Kind,0,p.M7,p.To,⟨[]⟩,0⟩:Pred)=⟨p.Kind,0,q.M7,q.To,⟨[]⟩,0⟩).trans hq.2.symm)
   ·rw [if_neg a5] at hp hq
    by_cases a6:p.Kind=6
    ·rw [if_pos a6] at hp hq
     simp only [Bool.and_eq_true,decide_eq_true_eq] at hp hq
     rw [if_neg (by omega),if_pos a6,if_neg (by omega),if_pos a6] at h
     obtain⟨_,h⟩:=W2 _ _ _ _ h
     have e:p.Name=q.Name:=congrArg Str.mk h
     exact hp.2.trans ((by rw [e]:(⟨p.Kind,0,0,0,p.Name,0⟩:Pred)=⟨p.Kind,0,0,0,q.Name,0⟩).trans hq.2.symm)
    ·rw [if_neg a6,if_pos (by omega)] at hp hq
     simp only [Bool.and_eq_true,decide_eq_true_eq] at hp hq
     rw [if_neg (by omega),if_neg a6,if_pos (by omega),if_neg (by omega),if_neg a6,if_pos (by omega)] at h
     obtain⟨e2,_⟩:=W2 p.Number.toNat q.Number.toNat [] [] (by rw [h])
     have e:p.Number=q.Number:=by omega
     exact hp.2.trans ((by rw [e]:(⟨p.Kind,0,0,0,⟨[]⟩,p.Number⟩:Pred)=⟨p.Kind,0,0,0,⟨[]⟩,q.Number⟩).trans hq.2.symm)
theorem b1l {c d:Cav} (hc:H5 c=true) (hd:H5 d=true) (h:D9 c=D9 d):c=d:=by
 unfold D9 at h
 cases h3:c.K5 with
 | true =>
  cases h4:d.K5 with
  | false=>rw [h3,h4,if_pos rfl,if_neg (by decide)] at h;cases h
  | true =>
   rw [h3,h4,if_pos rfl,if_pos rfl] at h
   obtain⟨c1,c2,c3,c4,c5,c6,c7⟩:=a0V hc h3
   obtain⟨d1,d2,d3,d4,d5,d6,d7⟩:=a0V hd h4
   have h:=(List.cons.inj h).2
   unfold a0w at h
   simp only [List.append_assoc] at h
   obtain⟨e1,h⟩:=W2 _ _ _ _ h
   obtain⟨e2,h⟩:=W2 _ _ _ _ h
   obtain⟨e3,h⟩:=List.append_inj h e2
   obtain⟨_,e4⟩:=W2 _ _ _ _ h
   have e5:c.F9=d.F9:=by omega
   obtain⟨cT,cF,cP,cK,cB⟩:=c
   obtain⟨dT,dF,dP,dK,dB⟩:=d
   dsimp only at *
   subst h3 h4 c1 d1 e3 e4 e5;rfl
 | false =>
  cases h4:d.K5 with
  | true=>rw [h3,h4,if_neg (by decide),if_pos rfl] at h;cases h
  | false =>
   rw [h3,h4,if_neg (by decide),if_neg (by decide)] at h
   obtain⟨c1,c2,c3,c4⟩:=a0W hc h3
   obtain⟨d1,d2,d3,d4⟩:=a0W hd h4
   have e:=a5F c1 d1 (List.cons.inj h).2
   obtain⟨cT,cF,cP,cK,cB⟩:=c
   obtain⟨dT,dF,dP,dK,dB⟩:=d
   dsimp only at *
   subst h3 h4 e c2 d2 c3 d3 c4 d4;rfl
theorem W7 {α:Type} (l:List α):l = []∨∃ m a,l=m ++ [a]:=by
 rcases List.eq_nil_or_concat l with h|⟨m,a,h⟩
 ·exact Or.inl h
 ·exact Or.inr ⟨m,a,by rw [h,List.concat_eq_append]⟩
theorem a4W {n:Int} {c:Cav}:X7 n≠a0e c:=fun h=>by
 have:=congrArg List.head? h
 simp [X7,a0e] at this
theorem a7S {m n:Int} (hm:1≤m) (hn:1≤n) (h:X7 m=X7 n):m=n:=by
 have h:=List.append_cancel_left h
 obtain⟨h1,_⟩:=W2 m.toNat n.toNat [] [] (by rw [h])
 omega
theorem b6Q {B : D3} {n : Nat} (h : G8 B n) (hn : n < 60000) (hf : B.I7 = true) {k k' : Tag} {i j : Int} (hi : 1 ≤ i) (hj : 1 ≤ j) : ∀ (N : Nat) (l m : List Cav) {s r : List Tag}, l.length ≤ N → (∀ c ∈ l, H5 c = true) → (∀ c ∈ m, H5 c = true) →
    M9 (m5 B) k (D0 i l)=some s→M9 (m5 B) k' (D0 j m)=some r→s.getLastD default=r.getLastD default→k=k'∧i=j∧l=m:=by
  intro N
  induction N with
  | zero =>
    intro l m s r hN hl hm h1 h2 e
    obtain rfl:l = []:=List.length_eq_zero_iff.1 (by omega)
    rcases W7 m with rfl|⟨m',c,rfl⟩
    · obtain⟨_,h3,h4⟩:=W3 (l := []) h1
      obtain⟨_,h5,h6⟩:=W3 (l := []) h2
      cases h3;cases h5
      rw [e] at h4
      obtain⟨e1,e2⟩:=Y5 h hn hf h4 h6
      exact⟨e1,a7S hi hj e2,a8⟩
    · obtain⟨_,h3,h4⟩:=W3 (l := []) h1
      rw [show D0 j (m' ++ [c])=D0 j m' ++ [a0e c] by simp [D0]] at h2
      obtain⟨_,h5,h6⟩:=W3 h2
      rw [e] at h4
      exact absurd (Y5 h hn hf h4 h6).2 a4W
  | succ N ih =>
    intro l m s r hN hl hm h1 h2 e
    rcases W7 l with rfl|⟨l',d,rfl⟩
    · rcases W7 m with rfl|⟨m',c,rfl⟩
      · obtain⟨_,h3,h4⟩:=W3 (l := []) h1
        obtain⟨_,h5,h6⟩:=W3 (l := []) h2
        cases h3;cases h5
        rw [e] at h4
        obtain⟨e1,e2⟩:=Y5 h hn hf h4 h6
        exact⟨e1,a7S hi hj e2,a8⟩
      · obtain⟨_,h3,h4⟩:=W3 (l := []) h1
        rw [show D0 j (m' ++ [c])=D0 j m' ++ [a0e c] by simp [D0]] at h2
        obtain⟨_,h5,h6⟩:=W3 h2
        rw [e] at h4
        exact absurd (Y5 h hn hf h4 h6).2 a4W
    · rw [show D0 i (l' ++ [d])=D0 i l' ++ [a0e d] by simp [D0]] at h1
      obtain⟨s',h3,h4⟩:=W3 h1
      rcases W7 m with rfl|⟨m',c,rfl⟩
      · obtain⟨_,h5,h6⟩:=W3 (l := []) h2
        rw [e] at h4
        exact absurd (Y5 h hn hf h6 h4).2 a4W
      · rw [show D0 j (m' ++ [c])=D0 j m' ++ [a0e c] by simp [D0]] at h2
        obtain⟨r',h5,h6⟩:=W3 h2
        rw [e] at h4
        obtain⟨e1,e2⟩:=Y5 h hn hf h4 h6
        have hd:=hl d (by simp)
        have hc:=hm c (by simp)
        rw [a5j hd,a5j hc] at e2
        obtain rfl:=b1l hd hc (List.append_cancel_left e2)
        obtain⟨q1,q2,rfl⟩:=ih l' m' (by simp at hN;omega) (fun c hc=>hl c (by simp [hc])) (fun c hc=>hm c (by simp [hc])) h3 h5 e1
        exact⟨q1,q2,a8⟩
theorem a6F {B:D3} {k u:Tag} {t:List UInt8} {l:List Pred} {p:Pred} (h:S2 B k t (l ++ [p])=some u):∃ v,S2 B k t l=some v∧A7 p=true∧m5 B v (S6 p)=(u,true):=by
 rw [a7L] at h
 cases hv:S2 B k t l with
 | none=>rw [hv] at h;cases h
 | some v =>
  rw [hv] at h
  unfold U1 at h
  simp only [Option.bind_some] at h
  split at h
  ·next h2=>exact⟨v,rfl,h2.1,Prod.ext (Option.some.inj h) h2.2.2⟩
  ·cases h
theorem a4e {B:D3} {k u:Tag} {t:List UInt8} (h:S2 B k t []=some u):m5 B k (W0 t)=(u,true):=by
 have h:a4M B k t=some u:=h
 unfold a4M at h
 split at h
 ·next h2=>exact Prod.ext (Option.some.inj h) h2
 ·cases h
theorem a3r {t:List UInt8} {p:Pred}:W0 t≠S6 p:=fun h=>by
 have:=congrArg List.head? h
 simp [W0,S6] at this
theorem c0M {B:D3} {n:Nat} (h:G8 B n) (hn:n < 60000) (hf:B.I7=true) {k k':Tag} {t t':List UInt8}:∀ (N:Nat) (l m:List Pred) {u:Tag},l.length≤N→S2 B k t l=some u→S2 B k' t' m=some u→k=k'∧t=t'∧l=m:=by
 intro N
 induction N with
 | zero =>
  intro l m u hN h1 h2
  obtain rfl:l = []:=List.length_eq_zero_iff.1 (by omega)
  rcases W7 m with rfl|⟨m',c,rfl⟩
  ·obtain⟨e1,e2⟩:=Y5 h hn hf (a4e h1) (a4e h2)
   exact⟨e1,List.append_cancel_left e2,a8⟩
  ·obtain⟨_,_,_,h6⟩:=a6F h2
   exact absurd (Y5 h hn hf (a4e h1) h6).2 a3r
 | succ N ih =>
  intro l m u hN h1 h2
  rcases W7 l with rfl|⟨l',d,rfl⟩
  ·rcases W7 m with rfl|⟨m',c,rfl⟩
   ·obtain⟨e1,e2⟩:=Y5 h hn hf (a4e h1) (a4e h2)
    exact⟨e1,List.append_cancel_left e2,a8⟩
   ·obtain⟨_,_,_,h6⟩:=a6F h2
    exact absurd (Y5 h hn hf (a4e h1) h6).2 a3r
  ·obtain⟨v,h3,hd,h4⟩:=a6F h1
   rcases W7 m with rfl|⟨m',c,rfl⟩
   ·exact absurd (Y5 h hn hf (a4e h2) h4).2 a3r
   ·obtain⟨w,h5,hc,h6⟩:=a6F h2
    obtain⟨rfl,e2⟩:=Y5 h hn hf h4 h6
    rw [a2N hd,a2N hc] at e2
    obtain rfl:=a5F hd hc (List.append_cancel_left e2)
    obtain⟨q1,q2,rfl⟩:=ih l' m' (by simp at hN;omega) h3 h5
    exact⟨q1,q2,a8⟩
theorem a92 {α:Type} [DecidableEq α]:∀ {l m:List α},l.Nodup→(∀ x∈l,x∈m)→m.length≤l.length→∀ y∈m,y∈l
 | [],m,_,_,h,y,hy=>by
  obtain rfl:m = []:=List.length_eq_zero_iff.1 (by simpa using h)
  cases hy
 | a::l,m,hn,hs,hl,y,hy=>by
  obtain⟨m1,m2,rfl⟩:=List.append_of_mem (hs a (by simp))
  rw [List.nodup_cons] at hn
  by_cases e:y=a
  ·rw [e];simp
  ·have:=a92 (l:=l) (m:=m1++m2) hn.2 (fun x hx=>by
    have:=hs x (by simp [hx])
    have hne:x≠a:=fun e=>hn.1 (e▸hx)
    simp only [List.mem_append,List.mem_cons] at this ⊢
    rcases this with h|h|h
    ·exact Or.inl h
    ·exact absurd h hne
    ·exact Or.inr h) (by simp at hl ⊢;omega) y (by
    simp only [List.mem_append,List.mem_cons] at hy ⊢
    rcases hy with h|h|h
    ·exact Or.inl h
    ·exact absurd h e
    ·exact Or.inr h)
   simp [this]
theorem a7e {α:Type}:∀ {l m:List α},l.Nodup→(∀ x∈l,x∈m)→l.length≤m.length
 | [],m,_,_=>Nat.zero_le _
 | a::l,m,hn,hs=>by
  obtain⟨m1,m2,rfl⟩:=List.append_of_mem (hs a (by simp))
  rw [List.nodup_cons] at hn
  have:=a7e (l:=l) (m:=m1++m2) hn.2 fun x hx=>by
   have:=hs x (by simp [hx])
   have hne:x≠a:=fun e=>hn.1 (e▸hx)
   simp only [List.mem_append,List.mem_cons] at this ⊢
   rcases this with h|h|h
   ·exact Or.inl h
   ·exact absurd h hne
   ·exact Or.inr h
  simp at this ⊢;omega
theorem a94 {r q:Rq} (hr:S1 r=true) (hq:S1 q=true) (h:a1r r=a1r q):r=q:=by
 have h:=List.append_cancel_left h
 unfold a1h at h
 obtain⟨e1,h⟩:=W2 _ _ _ _ h
 obtain⟨e2,_⟩:=W2 r.E5.toNat q.E5.toNat [] [] (by rw [h])
 have:=a1i hr
 have:=a1i hq
 obtain⟨g,n⟩:=r
 obtain⟨g',n'⟩:=q
 dsimp only at *
 rw [show g=g' by omega,show n=n' by omega]
theorem a7G.S1 {b:O4} (h:a7G b):S1 b.Request=true:=by
 have:=h.range;unfold L8 at this;simp only [Bool.and_eq_true] at this;exact this.1
def a0s (e:Epo) (l:Int):Ring:=⟨[e],l⟩
theorem b6R {l i:Int} {e x:Epo} (h:a2c (a0s e l) i=some x):i=e.Number∧x=e:=by
 unfold a2c a0s at h
 by_cases h2:e.Number=i
 ·rw [List.find?_cons_of_pos (by simpa using h2)] at h;cases h;exact⟨h2.symm,rfl⟩
 ·rw [List.find?_cons_of_neg (by simpa using h2)] at h;cases h
theorem b4E (e:Epo) (l:Int):a2c (a0s e l) e.Number=some e:=by
 unfold a2c a0s;rw [List.find?_cons_of_pos (by simp)]
def a4X (x b:O4):Bool:=decide (x=⟨b.Request,b.C7,b.y7,b.j7,b.Proof,x.j3⟩)&&decide (x.j3.length=b.j3.length)&&(b.j3.all fun d=>x.j3.any fun e=>decide (e=d))&&decide (K3 x=0)
section
variable {B:D3} {root:Epo} {P:Pass} {G:List Dis} {T:List Tag} {r:Rq} {t:Tag} {n k:Nat}
theorem a7c.bound (h : a7c B root P G T r t n k) (hn : n < 60000) (hf : B.I7 = true) {x : O4} (hx : x.Request = r) {i : Nat} (hi : i < P.j7.length) (h3 : P.j7[i].K5 = true) (hV : b5D B x P.j7[i] (T.getD i default) P.Tag) :
    ∃ g∈G,g.j9=P.j7[i].j9∧bnd B P.Tag r g∈x.j3:=by
  obtain⟨key,plain,d,u,h1,h2,h3',h4,h5⟩:=hV
  obtain⟨y,hy,hyk,hym⟩:=a89 hf h5
  rw [hx] at h5 hym
  rcases h.Z2 y hy with ⟨c,hc,hc1,hc2⟩|⟨_,h2'⟩|⟨g,hg,hgk,_⟩
  · rw [hym] at hc;exact absurd (Option.some.inj hc).symm hc2
  · rw [hym] at h2';exact absurd (congrArg List.head? h2') (by simp [a1r,U0])
  · obtain⟨bk,hb,_⟩:=(h.sc.a2d g hg).key
    have hu:u=g.Tag:=hyk.symm.trans hgk
    rw [hu] at h4 h5
    obtain⟨_,e2,e3⟩:=c0M h.sc.ok hn hf _ _ _ (Nat.le_refl _) h4 hb
    have hdt:d.j9=P.j7[i].j9:=by have:=List.find?_some h3';simpa using this
    refine⟨g,hg,e2.symm,?_⟩
    have:bnd B P.Tag r g=d:=by
      unfold bnd;rw [h5,←e2,←e3,←hdt]
    rw [this];exact List.mem_of_find?_eq_some h3'
theorem a7c.tam (h:a7c B root P G T r t n k) (hk:k≤6) (hn:n < 60000) (hf:B.I7=true) (l:Int) (x:O4):(a6c B (a0s root l) x).2=0↔a4X x (prB B P G r t)=true:=by
 have hlast:=h.sc.last
 have hl1:0 < T.length:=by have:=h.sc.a5k;omega
 constructor
 ·intro hv
  obtain⟨e,T',he,hV⟩:=b6K hv
  have hx:=a2s hV.chk
  obtain⟨he1,rfl⟩:=b6R he
  obtain⟨y,hy,hyk,hym⟩:=a89 hf hV.proof
  have hP:T'.getLastD default=P.Tag∧a1r x.Request=a1r r:=by
   rcases h.Z2 y hy with ⟨c,hc,hc1,hc2⟩|⟨h1,h2⟩|⟨g,_,_,h2⟩
   ·rw [hym] at hc;exact absurd (Option.some.inj hc).symm hc1
   ·exact⟨hyk.symm.trans h1,hym.symm.trans h2⟩
   ·rw [hym] at h2;exact absurd (congrArg List.head? h2) (by simp [a1r,U0])
  have hrq:=a94 hx.S1 h.rq hP.2
  have hpf:=hV.proof
  rw [hP.1,hP.2,h.proof] at hpf
  have hpf:t=x.Proof:=(Prod.mk.inj hpf).1
  have hser:=h.sc.a4S
  have hsx:=hx.num
  obtain⟨_,e1,e2⟩:=b6Q h.sc.ok hn hf (by omega) (by omega) _ _ _ (Nat.le_refl _) hx.cav (fun c hc=>(h.sc.cav c hc).1) hV.walk h.sc.walk (by rw [getLastD_cons (by have:=hV.a5k;omega),hP.1,getLastD_cons hl1,hlast])
  have hT:T'=T:=by
   have:=hV.walk
   rw [e1,e2,h.sc.walk] at this
   exact(List.cons.inj (Option.some.inj this)).2.symm
  have hbd:∀ i (hi:i < P.j7.length),P.j7[i].K5=true→∃ g∈G,g.j9=P.j7[i].j9∧bnd B P.Tag r g∈x.j3:=fun i hi h3=>by
   have:=hV.a5E i (by rw [e2];exact hi) (by simp only [e2];exact h3)
   simp only [e2] at this
   rw [hT,hlast] at this
   exact h.bound hn hf hrq hi h3 this
  have hall:∀ g∈G,bnd B P.Tag r g∈x.j3:=fun g hg=>by
   obtain⟨c,hc,h3,h4⟩:=(h.sc.a2d g hg).cav
   obtain⟨i,hi,rfl⟩:=List.getElem_of_mem hc
   obtain⟨g',hg',h5,h6⟩:=hbd i hi h3
   have q1:=a7d (f:=bnd B P.Tag r) (fun _=>rfl) h.sc.nodup hg
   have q2:=a7d (f:=bnd B P.Tag r) (fun _=>rfl) h.sc.nodup hg'
   rw [h5,h4,q1] at q2
   rw [Option.some.inj q2];exact h6
  have hnx:=(a4V _).1 hx.c1k
  have hlen:x.j3.length=G.length:=by
   refine Nat.le_antisymm ?_ ?_
   ·have:=a7e hnx (m:=G.map (·.j9)) fun s hs=>by
     obtain⟨d,hd,rfl⟩:=List.mem_map.1 hs
     have hxd:=List.any_eq_false.1 hV.extra d hd
     have hxd:(x.j7.any fun c=>c.K5&&decide (c.j9=d.j9))=true:=by
      unfold a4T at hxd;simpa using hxd
     obtain⟨c,hc,hc2⟩:=List.any_eq_true.1 hxd
     simp only [Bool.and_eq_true,decide_eq_true_eq] at hc2
     rw [e2] at hc
     obtain⟨i,hi,rfl⟩:=List.getElem_of_mem hc
     obtain⟨g',hg',h5,_⟩:=hbd i hi hc2.1
     exact List.mem_map.2 ⟨g',hg',h5.trans hc2.2⟩
    simpa using this
   ·have:=a7e h.sc.nodup (m:=x.j3.map (·.j9)) fun s hs=>by
     obtain⟨g,hg,rfl⟩:=List.mem_map.1 hs
     exact List.mem_map.2 ⟨_,hall g hg,rfl⟩
    simpa using this
  unfold a4X prB
  simp only [Bool.and_eq_true,decide_eq_true_eq,List.all_eq_true,List.any_eq_true,List.length_map]
  refine⟨⟨⟨?_,hlen⟩,fun d hd => ?_⟩,hV.chk⟩
  ·have hep:=h.sc.a3K.1
   obtain⟨x1,x2,x3,x4,x5,x6⟩:=x
   dsimp only at *
   rw [hrq,he1,←hep,e1,e2,hpf]
  ·obtain⟨g,hg,rfl⟩:=List.mem_map.1 hd
   exact⟨_,hall g hg,a8⟩
 ·intro hs
  unfold a4X prB at hs
  simp only [Bool.and_eq_true,decide_eq_true_eq,List.all_eq_true,List.any_eq_true,List.length_map] at hs
  obtain⟨⟨⟨hs1,hs2⟩,hs3⟩,hs4⟩:=hs
  have hx:=a2s hs4
  obtain⟨x1,x2,x3,x4,x5,X⟩:=x
  dsimp only at hs1 hs2 hs3
  simp only [p6.mk.injEq,and_true] at hs1
  obtain⟨rfl,rfl,rfl,rfl,rfl⟩:=hs1
  have hnx:=(a4V _).1 hx.c1k
  have hall:∀ g∈G,bnd B P.Tag x1 g∈X:=fun g hg=>by
   obtain⟨d,hd,e⟩:=hs3 _ (List.mem_map.2 ⟨g,hg,rfl⟩)
   rw [←e];exact hd
  have hsub:=a92 (m:=X.map (·.j9)) h.sc.nodup (fun s hs=>by
   obtain⟨g,hg,rfl⟩:=List.mem_map.1 hs
   exact List.mem_map.2 ⟨_,hall g hg,rfl⟩) (by simp [hs2])
  have hV:b5E B root.Key ⟨x1,P.C7,P.y7,P.j7,x5,X⟩ T:=by
   refine⟨hs4,h.sc.walk,h.sc.a5k,h.sc.nodes,by rw [hlast];exact h.proof,fun i hi h3 => ?_,?_⟩
   ·rw [hlast]
    exact(h.sc.a5E i hi h3).ver h a8 fun g hg=>a88 hnx (hall g hg)
   ·refine List.any_eq_false.2 fun d hd => ?_
    obtain⟨g,hg,e⟩:=List.mem_map.1 (hsub _ (List.mem_map.2 ⟨d,hd,rfl⟩))
    obtain⟨c,hc,h1,h2⟩:=(h.sc.a2d g hg).cav
    have:(P.j7.any fun c=>c.K5&&decide (c.j9=d.j9))=true:=List.any_eq_true.2 ⟨c,hc,by rw [h1,h2,e];simp⟩
    show ¬(!(P.j7.any fun c=>c.K5&&decide (c.j9=d.j9)))=true
    rw [this];decide
  have:=b2C (g:=a0s root l) (root:=root) (by rw [show(⟨x1,P.C7,P.y7,P.j7,x5,X⟩:O4).C7=root.Number from h.sc.a3K.1];exact b4E _ _) hV
  rw [this]
theorem a7c.c2l (h:a7c B root P G T r t n k) (hk:k≤6) (l:Int):∃ v,a6c B (a0s root l) (prB B P G r t)=(v,0)∧v.a8F.length=P.j7.length+1∧v.b3B=P.Tag:=by
 refine⟨_,b2C (root:=root) (by rw [show(prB B P G r t).C7=root.Number from h.sc.a3K.1];exact b4E _ _) (h.ver hk),?_,h.sc.last⟩
 have:=b4t h.sc.nodes
 rw [h.sc.a5k] at this;exact this
end
end Go.Proofs.YtmmclghiidoldaaGreatDoor
namespace Go.Ab
open Go.Fl Go.RowKit
open o8 (rep)
section a3s
variable {P:Program} {C:Ctx} {N:Nat} {σ:y0} {H:j8} {Q:Exit→y0→j8→Prop}
theorem u4.fz {w:Value} {a:AV} {b:Bool} {F:Bool×E4→j8} (hH:u4 H (b,.fz w a) F) {n0:Nat} {I:Im} {L:Lh} (hr:U5 n0 I H L):E9 I a w:=by
 obtain⟨i,X,h1,h2,h3⟩:=hH.get hr
 exact h2.1.2
theorem J6.a3s {α β:Type} {r:o8 α} {s:o8 β} {w:Value} {x:α} {y:β} {b:Bool} {c:Code} {F:Bool×E4→j8} (hH:u4 H (b,.ob w x) F) (h:∀ n0 I L,U5 n0 I H L→∀ cs,r.rep I x cs→s.rep I y cs) (k:J6 P C N c Q σ (F (b,.ob w y))):J6 P C N c Q σ H:=fun ρ I L hs=>by
 obtain⟨i,X,h2,h3,h4⟩:=hH.get hs.heap
 have hset:L.set i X=L:=by
  obtain⟨hi,e⟩:=List.getElem?_eq_some_iff.1 h2
  rw [←e,List.set_getElem_self]
 obtain⟨⟨bb,T,cs,e1,e2,e3⟩,h5⟩:=h3
 have:=h4 I (b,.ob w y) X (Le.refl I) ⟨⟨bb,T,cs,e1,e2,h _ I L hs.heap cs e3⟩,h5⟩
 rw [hset] at this
 exact k ρ I L ⟨hs.env,this,hs.W4⟩
end a3s
section rawOps
variable {P:Program} {C:Ctx} {N:Nat} {σ:y0} {H:j8}
theorem E6.vR {α:Type} {r:o8 α} {t:Nat} {w:Value} {l:List α} {b:Bool} {F:Bool×E4→j8} (ht:F0 σ t=some (.raw w)) (hH:u4 H (b,.fz w (.v l)) F):E6 C σ H (.tmp t) (.v (V6.mk w)):=fun ρ I L hs=>by
 obtain⟨u,h1,rfl⟩:=hs.env t _ ht
 have h:=u4.fz hH hs.heap
 obtain⟨cs,⟨v,e1,h4⟩,e2⟩:=h
 subst e1
 have e2:u=v:=e2
 have o4:u.oneCell'=true:=by rw [e2];obtain⟨xs,⟨a,c,rfl,_⟩,_⟩:=h4;rfl
 exact⟨_,h1,_,⟨a8,o4⟩,a8⟩
theorem EvL.st {α β γ:Type} {ra:o8 α} {rb:o8 β} {rc:o8 γ} {t:Nat} {x:α} {y:β} {E:TypeId} {w:Value} {l:List γ} {g:Bool} {F:Bool×E4→j8} (ht:F0 σ t=some (.v x)) (h:u4 H (g,.own E w l) F) (hc:∀ J n0 L v,U5 n0 J H L→E9 J (.v x) v→E9 J (.v l) w→E9 J (.v y) v):EvL C σ H (.tmp t) (.v y):=fun ρ I L hs=>by
 obtain⟨u,h1,h2⟩:=hs.env t _ ht
 obtain⟨i,X,h3,h4,_⟩:=h.get hs.heap
 exact⟨_,h1,fun J hle hp=>hc J _ L u (hs.heap.mono hle) (h2.mono hle) (W9 h4.1 hle (fun p hpx=>hp p (D5 h3 hpx)))⟩
theorem D6.name {ops:Array Oper} {Q:Exit→y0→j8→Prop} {os:List Oper} (t:Nat) {a:AV} (ht:F0 σ t=some a) (k:∀ w,D6 P C N ops Q os ((t,.raw w)::σ) ((true,.fz w a)::H)):D6 P C N ops Q os σ H:=fun ρ I L hs=>by
 obtain⟨u,h1,h2⟩:=hs.env t _ ht
 refine wpL.pad (k u ρ I ([]::L) ⟨fun s b hb => ?_,⟨[],L,rfl,⟨⟨rfl,h2⟩,fun _ p hp=>by cases hp⟩,hs.heap⟩,hs.W4⟩)
 rw [K2] at hb
 by_cases e:t=s
 ·subst e;simp at hb;subst hb;exact⟨u,h1,rfl⟩
 ·rw [if_neg e] at hb;exact hs.env s b hb
end rawOps
end Go.Ab
namespace Go.Proofs.YtmmclghiidoldaaGreatDoor
open Go.Proofs.Tryz
open Go.Fl Go.Ab Go.Mac Go.Sha
theorem a1m {l:List Pred} {p:Pred} (h:∀ q∈l,A7 q=true) (hp:A7 p=true):∀ q∈l ++ [p],A7 q=true:=fun q hq=>by
 rcases List.mem_append.1 hq with h'|h'
 ·exact h q h'
 ·rw [List.mem_singleton.1 h'];exact hp
theorem b2L (w:Value) (d:m6) (n:Int) (s:Str) (hd:H6 d) (h0:0≤n) (h1:n≤1000) (hs:T9 s=true):F5 gl prog 78 [dk w,.v n,.v s] [.ob w d] (fun r Hs=>∃ l:List Pred,(l.length:Int)≤n∧(∀ p∈l,A7 p=true)∧∃ d',H6 d'∧r = .v l∧Hs = [.ob w d']):=by
 refine F5.a5S func78 rfl (by kernel_rfl) 58 rfl rfl _ rfl _ rfl fun C hC hG => ?_
 refine .q 6 hG ?_
 refine .p (.assign .raw ?_)
 refine .q 3 hG ?_
 refine .a1z 97 Pred ?_
 refine .q 3 hG ?_
 refine .ad (by omega) (by omega) (.h (.C6 hG (G1 _ _ _ (by first|assumption|exact x9 _) (by omega) (by omega)) .z1 (.cons (.t a8) (.cons (.t a8) .nil)) (by rintro _ _ ⟨_,_,_,_,_,_,rfl⟩;exact⟨_,rfl⟩) fun r12 B12 hr12 => ?_))
 obtain⟨v12,d12,h012,h112,hd12,rfl,hB⟩:=hr12
 cases hB
 refine .q 3 hG ?_
 refine .E3 (α:=Nat×Value×List Pred×m6) [(0,_),(2,_)] (fun x R=>(7,.raw x.2.1)::(8,.v (x.1:Int))::R) (fun x => [(true,.own 97 x.2.1 x.2.2.1),(false,.ob w x.2.2.2)]) (fun x=>(x.1:Int)+x.2.2.1.length≤n∧H6 x.2.2.2∧∀ p∈x.2.2.1,A7 p=true) (fun x=>x.1) ((v12.toNat,.slice none 0 0,[],d12)) (.c2 a8 a8 (.nil _)) ?_ (.cons a8 (.cons (congrArg (fun q=>some (AV.v q)) (by dsimp only;omega)) (.c2 a8 a8 (.nil _)))) (a8) fun x hF => ?_
 ·exact⟨by dsimp only;simp;omega,by assumption,by simp⟩
 obtain⟨k,v,b,e⟩:=x
 obtain⟨h2,h3,h4⟩:=hF
 dsimp only at h2 h3 h4 ⊢
 refine .q 7 hG ⟨fun hc14 => ?_,fun hc14 => ?_⟩
 ·refine .q 6 hG ?_
  refine .h (.C6 hG (G1 _ _ _ (by first|assumption|exact x9 _) (by omega) (by omega)) .z1 (.cons (.t a8) (.cons (.i a8) .nil)) (by rintro _ _ ⟨_,_,_,_,_,_,rfl⟩;exact⟨_,rfl⟩) fun r18 B18 hr18 => ?_)
  obtain⟨v18,d18,h018,h118,hd18,rfl,hB⟩:=hr18
  cases hB
  refine .q 8 hG ⟨fun hc19 => ?_,fun hc19 => ?_⟩
  ·refine .q 2 hG ?_
   refine .p (.bS2 j4.l0 j4.l1 a8 Q5 a7Z (fun c0 c1=>(⟨c0,c1,0,0,⟨[]⟩,0⟩:j4)) (fun _ _=>a8) a8 a8 a8 (.i a8) (.u64 7 a8) ?_)
   refine .bs a8 (by decide) fun b23 => ?_
   refine .ap (by simp<;>omega) (by simp<;>omega) fun w24 => ?_
   refine .q 1 hG ?_
   refine .drop ?_
   refine .q 3 hG ?_
   refine .sb (by omega) (by omega) ?_
   refine .q 2 hG ?_
   refine⟨(k - 1,_,_,_),.cons rfl (.cons (congrArg (fun q=>some (AV.v q)) (by dsimp only;omega)) (.c2 rfl rfl (.nil _))),rfl,?_,by dsimp only;omega⟩
   first|(exfalso;omega)|(exfalso;simp_all;done)|(exfalso;simp at *;omega)|exact⟨by dsimp only;simp;omega,by assumption,a1m h4 (by first|assumption|exact Q8 hs|exact I4 (by omega) (by omega) (by omega)|exact L9 (by omega) (by omega)|exact E8 (Or.inl rfl) (by decide))⟩
  ·refine .q 6 hG ⟨fun hc25 => ?_,fun hc25 => ?_⟩
   ·refine .q 3 hG ?_
    refine .h (.C6 hG (G1 _ _ _ (by first|assumption|exact x9 _) (by omega) (by omega)) .z1 (.cons (.t a8) (.cons (.i a8) .nil)) (by rintro _ _ ⟨_,_,_,_,_,_,rfl⟩;exact⟨_,rfl⟩) fun r29 B29 hr29 => ?_)
    obtain⟨v29,d29,h029,h129,hd29,rfl,hB⟩:=hr29
    cases hB
    refine .ad (by omega) (by omega) (.p (.bS3 j4.l0 j4.l2 j4.l3 a8 Q5 a7Z (fun c0 c2 c3=>(⟨c0,0,c2,c3,⟨[]⟩,0⟩:j4)) (fun _ _ _=>a8) a8 a8 a8 a8 (.i a8) (.i a8) (.t a8) ?_))
    refine .bs a8 (by decide) fun b32 => ?_
    refine .ap (by simp<;>omega) (by simp<;>omega) fun w33 => ?_
    refine .q 1 hG ?_
    refine .drop ?_
    refine .q 3 hG ?_
    refine .sb (by omega) (by omega) ?_
    refine .q 2 hG ?_
    refine⟨(k - 1,_,_,_),.cons rfl (.cons (congrArg (fun q=>some (AV.v q)) (by dsimp only;omega)) (.c2 rfl rfl (.nil _))),rfl,?_,by dsimp only;omega⟩
    first|(exfalso;omega)|(exfalso;simp_all;done)|(exfalso;simp at *;omega)|exact⟨by dsimp only;simp;omega,by assumption,a1m h4 (by first|assumption|exact Q8 hs|exact I4 (by omega) (by omega) (by omega)|exact L9 (by omega) (by omega)|exact E8 (Or.inl rfl) (by decide))⟩
   ·refine .q 6 hG ⟨fun hc34 => ?_,fun hc34 => ?_⟩
    ·refine .q 3 hG ?_
     refine .p (.bS2 j4.l0 j4.l4 a8 Q5 a7Z (fun c0 c4=>(⟨c0,0,0,0,c4,0⟩:j4)) (fun _ _=>a8) a8 a8 a8 (.i a8) (.t a8) ?_)
     refine .bs a8 (by decide) fun b39 => ?_
     refine .ap (by simp<;>omega) (by simp<;>omega) fun w40 => ?_
     refine .q 1 hG ?_
     refine .drop ?_
     refine .q 3 hG ?_
     refine .sb (by omega) (by omega) ?_
     refine .q 2 hG ?_
     refine⟨(k - 1,_,_,_),.cons rfl (.cons (congrArg (fun q=>some (AV.v q)) (by dsimp only;omega)) (.c2 rfl rfl (.nil _))),rfl,?_,by dsimp only;omega⟩
     first|(exfalso;omega)|(exfalso;simp_all;done)|(exfalso;simp at *;omega)|exact⟨by dsimp only;simp;omega,by assumption,a1m h4 (by first|assumption|exact Q8 hs|exact I4 (by omega) (by omega) (by omega)|exact L9 (by omega) (by omega)|exact E8 (Or.inl rfl) (by decide))⟩
    ·refine .q 6 hG ?_
     refine .cond (.t a8) (fun hc41 => ?_) (fun hc41 => ?_)
     ·refine .q 1 hG ?_
      refine .cond (.t a8) (fun hc41 => ?_) (fun hc41 => ?_)
      ·refine .q 3 hG ?_
       refine .h (.C6 hG (G1 _ _ _ (by first|assumption|exact x9 _) (by omega) (by omega)) .z1 (.cons (.t a8) (.cons (.i a8) .nil)) (by rintro _ _ ⟨_,_,_,_,_,_,rfl⟩;exact⟨_,rfl⟩) fun r46 B46 hr46 => ?_)
       obtain⟨v46,d46,h046,h146,hd46,rfl,hB⟩:=hr46
       cases hB
       refine .p (.bS2 j4.l0 j4.l5 a8 Q5 a7Z (fun c0 c5=>(⟨c0,0,0,0,⟨[]⟩,c5⟩:j4)) (fun _ _=>a8) a8 a8 a8 (.i a8) (.t a8) ?_)
       refine .bs a8 (by decide) fun b48 => ?_
       refine .ap (by simp<;>omega) (by simp<;>omega) fun w49 => ?_
       refine .q 1 hG ?_
       refine .drop ?_
       refine .q 3 hG ?_
       refine .sb (by omega) (by omega) ?_
       refine .q 2 hG ?_
       refine⟨(k - 1,_,_,_),.cons rfl (.cons (congrArg (fun q=>some (AV.v q)) (by dsimp only;omega)) (.c2 rfl rfl (.nil _))),rfl,?_,by dsimp only;omega⟩
       first|(exfalso;omega)|(exfalso;simp_all;done)|(exfalso;simp at *;omega)|exact⟨by dsimp only;simp;omega,by assumption,a1m h4 (by first|assumption|exact Q8 hs|exact I4 (by omega) (by omega) (by omega)|exact L9 (by omega) (by omega)|exact E8 (Or.inl rfl) (by decide))⟩
      ·refine .q 6 hG ⟨fun hc50 => ?_,fun hc50 => ?_⟩
       ·refine .q 3 hG ?_
        refine .h (.C6 hG (R7 _ _ _ (by assumption)) .z1 (.cons (.t a8) (.cons .b .nil)) (by rintro _ _ ⟨_,_,_,_,_,_,rfl⟩;exact⟨_,rfl⟩) fun r54 B54 hr54 => ?_)
        obtain⟨p54,hp54,hk54,d54,hd54,rfl,hB⟩:=hr54
        cases hB
        refine .bs a8 (by decide) fun b55 => ?_
        refine .ap (by simp<;>omega) (by simp<;>omega) fun w56 => ?_
        refine .q 1 hG ?_
        refine .drop ?_
        refine .q 3 hG ?_
        refine .sb (by omega) (by omega) ?_
        refine .q 2 hG ?_
        refine⟨(k - 1,_,_,_),.cons rfl (.cons (congrArg (fun q=>some (AV.v q)) (by dsimp only;omega)) (.c2 rfl rfl (.nil _))),rfl,?_,by dsimp only;omega⟩
        first|(exfalso;omega)|(exfalso;simp_all;done)|(exfalso;simp at *;omega)|exact⟨by dsimp only;simp;omega,by assumption,a1m h4 (by first|assumption|exact Q8 hs|exact I4 (by omega) (by omega) (by omega)|exact L9 (by omega) (by omega)|exact E8 (Or.inl rfl) (by decide))⟩
       ·refine .q 3 hG ?_
        refine .sb (by omega) (by omega) ?_
        refine .q 2 hG ?_
        refine⟨(k - 1,_,_,_),.cons rfl (.cons (congrArg (fun q=>some (AV.v q)) (by dsimp only;omega)) (.c2 rfl rfl (.nil _))),rfl,?_,by dsimp only;omega⟩
        first|(exfalso;omega)|(exfalso;simp_all;done)|(exfalso;simp at *;omega)|exact⟨by dsimp only;simp;omega,by assumption,a1m h4 (by first|assumption|exact Q8 hs|exact I4 (by omega) (by omega) (by omega)|exact L9 (by omega) (by omega)|exact E8 (Or.inl rfl) (by decide))⟩
     ·refine .q 4 hG ?_
      refine .cond (.t a8) (fun hc41 => ?_) (fun hc41 => ?_)
      ·refine .q 3 hG ?_
       refine .h (.C6 hG (G1 _ _ _ (by first|assumption|exact x9 _) (by omega) (by omega)) .z1 (.cons (.t a8) (.cons (.i a8) .nil)) (by rintro _ _ ⟨_,_,_,_,_,_,rfl⟩;exact⟨_,rfl⟩) fun r46 B46 hr46 => ?_)
       obtain⟨v46,d46,h046,h146,hd46,rfl,hB⟩:=hr46
       cases hB
       refine .p (.bS2 j4.l0 j4.l5 a8 Q5 a7Z (fun c0 c5=>(⟨c0,0,0,0,⟨[]⟩,c5⟩:j4)) (fun _ _=>a8) a8 a8 a8 (.i a8) (.t a8) ?_)
       refine .bs a8 (by decide) fun b48 => ?_
       refine .ap (by simp<;>omega) (by simp<;>omega) fun w49 => ?_
       refine .q 1 hG ?_
       refine .drop ?_
       refine .q 3 hG ?_
       refine .sb (by omega) (by omega) ?_
       refine .q 2 hG ?_
       refine⟨(k - 1,_,_,_),.cons rfl (.cons (congrArg (fun q=>some (AV.v q)) (by dsimp only;omega)) (.c2 rfl rfl (.nil _))),rfl,?_,by dsimp only;omega⟩
       first|(exfalso;omega)|(exfalso;simp_all;done)|(exfalso;simp at *;omega)|exact⟨by dsimp only;simp;omega,by assumption,a1m h4 (by first|assumption|exact Q8 hs|exact I4 (by omega) (by omega) (by omega)|exact L9 (by omega) (by omega)|exact E8 (Or.inl rfl) (by decide))⟩
      ·refine .q 6 hG ⟨fun hc50 => ?_,fun hc50 => ?_⟩
       ·refine .q 3 hG ?_
        refine .h (.C6 hG (R7 _ _ _ (by assumption)) .z1 (.cons (.t a8) (.cons .b .nil)) (by rintro _ _ ⟨_,_,_,_,_,_,rfl⟩;exact⟨_,rfl⟩) fun r54 B54 hr54 => ?_)
        obtain⟨p54,hp54,hk54,d54,hd54,rfl,hB⟩:=hr54
        cases hB
        refine .bs a8 (by decide) fun b55 => ?_
        refine .ap (by simp<;>omega) (by simp<;>omega) fun w56 => ?_
        refine .q 1 hG ?_
        refine .drop ?_
        refine .q 3 hG ?_
        refine .sb (by omega) (by omega) ?_
        refine .q 2 hG ?_
        refine⟨(k - 1,_,_,_),.cons rfl (.cons (congrArg (fun q=>some (AV.v q)) (by dsimp only;omega)) (.c2 rfl rfl (.nil _))),rfl,?_,by dsimp only;omega⟩
        first|(exfalso;omega)|(exfalso;simp_all;done)|(exfalso;simp at *;omega)|exact⟨by dsimp only;simp;omega,by assumption,a1m h4 (by first|assumption|exact Q8 hs|exact I4 (by omega) (by omega) (by omega)|exact L9 (by omega) (by omega)|exact E8 (Or.inl rfl) (by decide))⟩
       ·refine .q 3 hG ?_
        refine .sb (by omega) (by omega) ?_
        refine .q 2 hG ?_
        refine⟨(k - 1,_,_,_),.cons rfl (.cons (congrArg (fun q=>some (AV.v q)) (by dsimp only;omega)) (.c2 rfl rfl (.nil _))),rfl,?_,by dsimp only;omega⟩
        first|(exfalso;omega)|(exfalso;simp_all;done)|(exfalso;simp at *;omega)|exact⟨by dsimp only;simp;omega,by assumption,a1m h4 (by first|assumption|exact Q8 hs|exact I4 (by omega) (by omega) (by omega)|exact L9 (by omega) (by omega)|exact E8 (Or.inl rfl) (by decide))⟩
 ·refine .q 2 hG ?_
  refine .u0 hC .z (.as 7 a8 .z ?_)
  refine .q 5 hG ?_
  refine .e1 a8 a8 ?_
  exact⟨1,_,by omega,h4,_,h3,rfl,rfl⟩
structure j5 where
 A:m0
 Ring:D2
 C:x7
 Pass:x8
 L7:V6
 Request:p9
 Q3:Str
 Minute:Int
def j5.f (x:j5):m0×D2×x7×x8×V6×p9×Str×Int×Unit:=(x.A,x.Ring,x.C,x.Pass,x.L7,x.Request,x.Q3,x.Minute,())
instance:Inhabited j5:=⟨⟨default,default,default,default,default,default,default,default⟩⟩
instance:o8 j5:=o8.via j5.f
instance:I6 j5:=I6.via j5.f rfl
def j5.l0:l9 j5 m0:=l9.via j5.f l9.fst (fun x=>x.A) (fun y x => { x with A:=y }) (fun _=>rfl) (fun _ _=>rfl)
def j5.l1:l9 j5 D2:=l9.via j5.f (l9.snd.comp l9.fst) (fun x=>x.Ring) (fun y x => { x with Ring:=y }) (fun _=>rfl) (fun _ _=>rfl)
def j5.l2:l9 j5 x7:=l9.via j5.f (l9.snd.comp (l9.snd.comp l9.fst)) (fun x=>x.C) (fun y x => { x with C:=y }) (fun _=>rfl) (fun _ _=>rfl)
def j5.l3:l9 j5 x8:=l9.via j5.f (l9.snd.comp (l9.snd.comp (l9.snd.comp l9.fst))) (fun x=>x.Pass) (fun y x => { x with Pass:=y }) (fun _=>rfl) (fun _ _=>rfl)
def j5.l4:l9 j5 V6:=l9.via j5.f (l9.snd.comp (l9.snd.comp (l9.snd.comp (l9.snd.comp l9.fst)))) (fun x=>x.L7) (fun y x => { x with L7:=y }) (fun _=>rfl) (fun _ _=>rfl)
def j5.l5:l9 j5 p9:=l9.via j5.f (l9.snd.comp (l9.snd.comp (l9.snd.comp (l9.snd.comp (l9.snd.comp l9.fst))))) (fun x=>x.Request) (fun y x => { x with Request:=y }) (fun _=>rfl) (fun _ _=>rfl)
def j5.l6:l9 j5 Str:=l9.via j5.f (l9.snd.comp (l9.snd.comp (l9.snd.comp (l9.snd.comp (l9.snd.comp (l9.snd.comp l9.fst)))))) (fun x=>x.Q3) (fun y x => { x with Q3:=y }) (fun _=>rfl) (fun _ _=>rfl)
def j5.l7:l9 j5 Int:=l9.via j5.f (l9.snd.comp (l9.snd.comp (l9.snd.comp (l9.snd.comp (l9.snd.comp (l9.snd.comp (l9.snd.comp l9.fst))))))) (fun x=>x.Minute) (fun y x => { x with Minute:=y }) (fun _=>rfl) (fun _ _=>rfl)
theorem c1p:G7 prog 44 V6 := .ok (by kernel_rfl)
theorem c3D:G7 prog 46 j5 := .ok (by kernel_rfl)
abbrev Scn:=o7
def b9b (s:Scn) (u:Value):j5:=⟨s.A,s.Ring,s.C,s.Pass,⟨u⟩,s.Request,s.Q3,s.Minute⟩
theorem b6T {s:Scn} {u:Value} {I:Im} {cs:List Value} (h:o8.rep I (b9b s u) cs) (hg:E9 I (.v s.L7) u):o8.rep I s cs:=by
 obtain⟨c1,r1,rfl,h1,c2,r2,rfl,h2,c3,r3,rfl,h3,c4,r4,rfl,h4,c5,r5,rfl,⟨rfl,_⟩,h6⟩:=h
 obtain⟨_,⟨v,rfl,h5⟩,rfl⟩:=hg
 exact⟨c1,_,a8,h1,c2,_,a8,h2,c3,_,a8,h3,c4,_,a8,h4,_,_,a8,⟨_,a8,h5⟩,h6⟩
theorem as3 {α:Type} [o8 α] {P:Program} {f:FuncId} {ag:List AV} {x:D3×α×Int} {b:D3} {y:α} {e:Int} (h:u1 gl P f ag (fun r=>r = .t3 (.v x.1) (.v x.2.1) (.v x.2.2))) (hx:x=(b,y,e)):u1 gl P f ag (fun r=>r = .t3 (.v b) (.v y) (.v e)):=by
 subst hx;exact h
abbrev b4F:Str:=⟨[97,110,110]⟩
structure a7T (A:D3) (root:Epo) (P:Pass) (G:List Dis) (k:Nat):Prop where
 ex:∃ T n,a0q A root P G T n k∧n≤4+10*k
 b5M:a3L A
theorem a95 {A:D3} {root:Epo} {P:Pass} {G:List Dis} {k:Nat} (h:a7T A root P G k) (hk:k < 6) {l:List Pred} (hl:l.length≤1) (hp:∀ p∈l,A7 p=true):∃ B Q,a1k A P l=(B,Q,0)∧a7T B root Q G (k+1):=by
 obtain⟨T,n,hs,hn⟩:=h.ex
 rcases l with _|⟨p,l⟩
 ·exact⟨A,P,rfl,⟨T,n,hs.wide (Nat.le_refl _) (Nat.le_succ _),by omega⟩,h.b5M⟩
 ·obtain rfl:l = []:=List.length_eq_zero_iff.1 (by simpa using hl)
  obtain⟨B,Q,U,e,h2,h3,_⟩:=hs.first (by omega) (by omega) (hp p (by simp)) h.b5M
  refine⟨B,Q,?_,⟨U,n+2,h2,by omega⟩,h3⟩
  unfold a1k;rw [e,F8 rfl];rfl
set_option maxHeartbeats 1000000 in
theorem b6U (w:Value) (d:m6) (wide:Bool) (hd:H6 d):F5 gl prog 30 [dk w,.v wide] [.ob w d] (fun r Hs=>∃ s:Scn,∃ root k,(a7T s.A root s.Pass s.L7 k∧k≤5∧root.Number=2∧s.Ring=a0s root 3∧S1 s.Request=true∧s.Q3=b4F)∧∃ d',H6 d'∧r = .v s∧Hs = [.ob w d']):=by
 refine F5.a5S func30 rfl (by kernel_rfl) 176 rfl rfl _ rfl _ rfl fun C hC hG => ?_
 refine .q 3 hG fun b4 => ?_
 refine .q 3 hG ?_
 refine .h (.alloc c3D fun b5 => ?_)
 refine .q 2 hG ?_
 refine .a1z 139 Dis ?_
 refine .q 2 hG ?_
 refine .h (.C6 hG (G1 _ _ _ (by first|assumption|exact x9 _) (by omega) (by omega)) .z3 (.cons (.t a8) (.cons (.i a8) .nil)) (by rintro _ _ ⟨_,_,_,_,_,_,rfl⟩;exact⟨_,rfl⟩) fun r15 B15 hr15 => ?_)
 obtain⟨v15,d15,h015,h115,hd15,rfl,hB⟩:=hr15
 cases hB
 refine .q 2 hG ?_
 refine .h (.C6 hG (b3S _ _ (by first|assumption|exact x9 _)) .z3 (.cons (.t a8) .nil) (by rintro _ _ ⟨_,_,_,_,rfl⟩;exact⟨_,rfl⟩) fun r18 B18 hr18 => ?_)
 obtain⟨k18,d18,hd18,rfl,hB⟩:=hr18
 cases hB
 refine .p (.o9 hG (c11 _ _) (.cons (.t a8) (.cons (.t a8) .nil)) (.p (.B0 j5.l0 P9 a8 (.t a8) (.n (.stF (fun y x => { x with A:=y }) A0 (.t a8) (.t a8) .z1 (fun _ _=>a8) ?_)))))
 refine .q 3 hG ?_
 refine .h (.alloc A5 fun b6 => .h (.alloc A5 fun b7 => ?_))
 refine .q 3 hG ?_
 refine .p (.B0 j5.l0 P9 a8 (.t a8) (.p (.ldF (fun x=>x.A) A0 (.t a8) .z3 (fun _=>a8) (.p (.o9 hG (b3R _ (Int.le_refl 0)) (.cons (.t a8) .nil) ?_)))))
 have hk0:=(G8.new (decide (v15=0)) k18 0).b0X (by decide)
 obtain⟨kb,kt,ks⟩:=hk0
 rw [ks.eq]
 dsimp only
 refine .mv a8 (.p (.O7 (.t a8) (.p (.O8 (.t a8) (.p (.O9 (.t a8) (.p (.B0 j5.l0 P9 a8 (.t a8) (.n (.stF (fun y x => { x with A:=y }) A0 (.t a8) (.t a8) .z3 (fun _ _=>a8) (.n (.Q1 A5 (.t a8) (.t a8) .z1 ?_))))))))))))
 refine .q 3 hG ?_
 refine .p (.B0 j5.l0 P9 a8 (.t a8) (.p (.ldF (fun x=>x.A) A0 (.t a8) .z3 (fun _=>a8) (.p (.o9 hG (b3R _ ks.ok.a5Z) (.cons (.t a8) .nil) ?_)))))
 have hk0:=ks.ok.b0X (by decide)
 obtain⟨kb2,kt2,ks2⟩:=hk0
 rw [ks2.eq]
 dsimp only
 refine .mv a8 (.p (.O7 (.t a8) (.p (.O8 (.t a8) (.p (.O9 (.t a8) (.p (.B0 j5.l0 P9 a8 (.t a8) (.n (.stF (fun y x => { x with A:=y }) A0 (.t a8) (.t a8) .z3 (fun _ _=>a8) (.n (.Q1 A5 (.t a8) (.t a8) .z ?_))))))))))))
 refine .q 3 hG ?_
 refine .p (.T1 A5 (.t a8) .z (.p (.bS2 u7.l0 u7.l1 a8 b1U c1C (fun c0 c1=>(⟨c0,c1⟩:u7)) (fun _ _=>a8) a8 a8 a8 (.i a8) (.t a8) ?_)))
 refine .bs a8 (by decide) fun b39=>(.u0 hC .z (.as 39 a8 .z (.p (.bS2 D2.l0 D2.l1 a8 b8c c2J (fun c0 c1=>(⟨c0,c1⟩:D2)) (fun _ _=>a8) a8 a8 a8 (.t a8) (.i a8) (.p (.B0 j5.l1 b3l a8 (.t a8) (.n (.stF (fun y x => { x with Ring:=y }) b8c (.t a8) (.t a8) .z4 (fun _ _=>a8) (.drop ?_)))))))))
 refine .q 3 hG ?_
 refine .p (.B0 j5.l6 b3o a8 (.t a8) (.n (.stF (fun y x => { x with Q3:=y }) ty9 (.t a8) (.s [97,110,110] (by decide) (by decide)) .z3 (fun _ _=>a8) ?_)))
 refine .q 4 hG ?_
 refine .h (.C6 hG (G1 _ _ _ (by first|assumption|exact x9 _) (by omega) (by omega)) .z5 (.cons (.t a8) (.cons (.i a8) .nil)) (by rintro _ _ ⟨_,_,_,_,_,_,rfl⟩;exact⟨_,rfl⟩) fun r44 B44 hr44 => ?_)
 obtain⟨v44,d44,h044,h144,hd44,rfl,hB⟩:=hr44
 cases hB
 refine .p (.B0 j5.l7 b7v a8 (.t a8) (.n (.stF (fun y x => { x with Minute:=y }) R3 (.t a8) (.t a8) .z3 (fun _ _=>a8) ?_)))
 refine .q 2 hG ?_
 refine .E0 [j1,j1,j1,j1,j1,j0] (by kernel_rfl) 13 [[],[(46,0)],[],[],[(49,3)],[(50,4)],[(51,5)],[(52,6)],[(53,7)],[],[(54,8),(55,9)],[(47,1),(48,2),(56,10)],[]] [1,4,5,6,7,8,10,11] a8 (by kernel_rfl) a8 (by kernel_rfl) (by decide) ?_
 refine⟨_,fun H=>j6.move (.t a8) a8,?_⟩
 refine .inl ?_
 refine⟨_,fun H=>j6.T1 A5 (.t a8) (u4.app .z1) a8,?_⟩
 refine⟨_,fun H=>j6.move (.t a8) a8,?_⟩
 refine .inl (.inl (.inl (.inl (.inl ?_))))
 refine⟨_,fun H=>j6.bS2 y9.l0 y9.l1 a8 a5x b7B (fun c0 c1=>(⟨c0,c1⟩:y9)) (fun _ _=>a8) a8 a8 a8 (.s [98,111,98] (by decide) (by decide)) (.i a8) a8,?_⟩
 refine .inl (.inl ?_)
 refine⟨_,fun H=>j6.B0 j5.l2 b3m a8 (.t a8) a8,?_⟩
 refine⟨⟨([],j2 [c8,c8,c8,c8,c8,_]),a8⟩,?_⟩
 refine A6.C6 hG (G1 _ _ _ (by first|assumption|exact x9 _) (by omega) (by omega)) .z5 (.cons (.t rfl) (.cons (.i rfl) .nil)) (by rintro _ _ ⟨_,_,_,_,_,_,rfl⟩;exact⟨_,rfl⟩) fun r47 B47 hr47 => ?_
 obtain⟨v47,d47,h047,h147,hd47,rfl,hB⟩:=hr47
 cases hB
 refine⟨⟨([],j2 [c8,c8,c8,c8,c8,_]),a8⟩,?_⟩
 refine A6.C6 hG (G1 _ _ _ (by first|assumption|exact x9 _) (by omega) (by omega)) .z5 (.cons (.t rfl) (.cons (.i rfl) .nil)) (by rintro _ _ ⟨_,_,_,_,_,_,rfl⟩;exact⟨_,rfl⟩) fun r50 B50 hr50 => ?_
 obtain⟨v50,d50,h050,h150,hd50,rfl,hB⟩:=hr50
 cases hB
 refine⟨⟨([],j2 [c8,c8,c8,c8,c8,_]),a8⟩,?_⟩
 refine A6.ofP (j6.neg (.t rfl) (by omega) ?_)
 refine⟨⟨([],j2 [c8,c8,c8,c8,c8,_]),a8⟩,?_⟩
 refine A6.ofP (j6.mul (.t rfl) (.i rfl) (by omega) (by omega) ?_)
 refine⟨⟨([],j2 [c8,c8,c8,c8,c8,_]),a8⟩,?_⟩
 refine A6.ofP (j6.mul (.t rfl) (.i rfl) (by omega) (by omega) ?_)
 refine⟨⟨([],j2 [c8,c8,c8,c8,c8,_]),a8⟩,?_⟩
 refine A6.ofP (j6.bS2 y9.l0 y9.l1 rfl a5x b7B (fun c0 c1=>(⟨c0,c1⟩:y9)) (fun _ _=>rfl) rfl rfl rfl (.s [97,110,110] (by decide) (by decide)) (.t rfl) ?_)
 refine⟨⟨([],j2 [c8,c8,c8,c8,c8,_]),a8⟩,?_⟩
 refine A6.ofP (j6.F1 (α:=y9) a5x underlying39 (.cons (.t rfl) (.cons (.t rfl) .nil)) rfl (by decide) ?_)
 refine⟨⟨([],j2 [c8,c8,c8,c8,c8,_]),a8⟩,?_⟩
 refine A6.ofP (j6.bS3 x7.l0 x7.l1 x7.l2 rfl b8e c31 (fun c0 c1 c2=>(⟨c0,c1,c2⟩:x7)) (fun _ _ _=>rfl) rfl rfl rfl rfl (.t rfl) (.t rfl) (.c rfl) ?_)
 refine⟨⟨([],j2 [c8,c8,c8,c8,c8,_]),a8⟩,?_⟩
 show D6 _ _ _ _ _ [_] ((58,_)::(57,_)::(56,_)::(55,_)::(54,_)::(53,_)::(52,_)::(51,_)::(50,_)::(49,_)::(48,_)::(47,_)::(46,_)::_) _
 refine .n (.stF (fun y x => { x with C:=y }) b8e (.t a8) (.t a8) .z3 (fun _ _=>a8) ?_)
 refine .q 3 hG ?_
 refine .mv a8 (.h (.C6 hG (G1 _ _ _ (by first|assumption|exact x9 _) (by omega) (by omega)) .z5 (.cons (.t a8) (.cons (.i a8) .nil)) (by rintro _ _ ⟨_,_,_,_,_,_,rfl⟩;exact⟨_,rfl⟩) fun r60 B60 hr60 => ?_))
 obtain⟨v60,d60,h060,h160,hd60,rfl,hB⟩:=hr60
 cases hB
 refine .q 1 hG ?_
 refine .h (.C6 hG (a6v _ _ _ _ (by first|assumption|exact x9 _) (by omega) (by omega) (by omega)) .z5 (.cons (.t a8) (.cons (.i a8) (.cons (.i a8) .nil))) (by rintro _ _ ⟨_,_,_,_,_,_,rfl⟩;exact⟨_,rfl⟩) fun r62 B62 hr62 => ?_)
 obtain⟨v62,d62,h062,h162,hd62,rfl,hB⟩:=hr62
 cases hB
 refine .p (.bS2 p9.l0 p9.l1 a8 a8K c2I (fun c0 c1=>(⟨c0,c1⟩:p9)) (fun _ _=>a8) a8 a8 a8 (.t a8) (.t a8) (.p (.B0 j5.l5 b7u a8 (.t a8) (.n (.stF (fun y x => { x with Request:=y }) a8K (.t a8) (.t a8) .z3 (fun _ _=>a8) ?_)))))
 refine .q 2 hG ?_
 refine .a1a [[j1,j1,j1,j1,j1,j1],[j1,j1,j1,j1,j1,j0],[j1,j1,j1,j0,j1,j0],[j1,j1,j1,j0,j1,j0]] [[j1,j1,j1,j1,j1,j0],[j1,j1,j1,j1,j1,j0],[j1,j1,j1,j1,j1,j0],[j1,j1,j1,j1,j1,j0],[j1,j1,j1,j1,j1,j0],[j1,j1,j1,j1,j1,j0],[j1,j1,j1,j1,j1,j0],[j1,j1,j1,j1,j1,j1],[],[j1,j1,j1,j1,j1,j0],[j1,j1,j1,j1,j1,j0],[j1,j1,j1,j1,j1,j0],[j1,j1,j1,j0,j1,j0],[j1,j1,j1,j0,j1,j0],[j1,j1,j1,j1,j1,j0],[],[j1,j1,j1,j0,j1,j0],[]] [[],[9,10,11,12,13],[],[]] [] 3 (by kernel_rfl) 18 [[],[(66,0)],[],[(68,2)],[(69,3)],[(70,4)],[(71,5)],[],[(73,7)],[(67,1),(72,6),(74,8)],[(75,9)],[(65,10)],[(65,10)],[(65,10)],[],[(79,14),(76,11)],[],[(80,16),(77,12)]] [8,15,17] rfl (by kernel_rfl) rfl (by kernel_rfl) rfl (by decide) (by simp) (fun p hp=>by cases hp) (by kernel_rfl) rfl ?_
 refine⟨_,fun H=>j6.B0 j5.l0 P9 a8 (.t a8) a8,?_⟩
 refine⟨_,fun H=>j6.ldF (fun x=>x.A) A0 (.t a8) (u4.app .z3) (fun _=>a8) a8,?_⟩
 refine⟨_,fun H=>j6.B0 j5.l1 b3l a8 (.t a8) a8,?_⟩
 refine⟨_,fun H=>j6.b9Q D2.l0 b3j a8 (.t a8) a8,?_⟩
 refine⟨_,fun H=>j6.ldF (fun x=>x.Ring.Live) c1V (.t a8) (u4.app .z3) (fun _=>a8) a8,?_⟩
 refine⟨_,fun H=>j6.idx b1U underlying30 (.t a8) (.i a8) (by omega) (by simp) a8,?_⟩
 refine⟨_,fun H=>j6.G9 b1U (.t a8) a8,?_⟩
 refine⟨_,fun H=>j6.move (.t a8) a8,?_⟩
 refine .inl (.inl (.inl (.inl (.inl (.inl ?_)))))
 refine⟨_,fun H=>j6.B0 j5.l0 P9 a8 (.t a8) a8,?_⟩
 refine .inl ?_
 refine⟨_,fun H=>j6.B0 j5.l3 a4v a8 (.t a8) a8,?_⟩
 refine .inl ?_
 refine⟨a8,?_⟩
 refine⟨⟨j2 [c8,c8,c8,c8,c8,c8],a8⟩,fun Ys11 => ?_⟩
 refine A6.C6 hG (a6v _ _ _ _ (by first|assumption|exact x9 _) (by omega) (by omega) (by omega)) (u4.app (u4.app .z5)) (.cons (.t rfl) (.cons (.i rfl) (.cons (.i rfl) .nil))) (by rintro _ _ ⟨_,_,_,_,_,_,rfl⟩;exact⟨_,rfl⟩) fun r74 B74 hr74 => ?_
 obtain⟨v74,d74,h074,h174,hd74,rfl,hB⟩:=hr74
 cases hB
 have hst:=a0q.start (decide (v15=0)) k18 (root:=⟨2,kt2⟩) ⟨(by decide:(1:Int)≤2),(by decide:(2:Int)≤2)⟩ ks2.ok (by rw [ks2.Z2,ks.Z2]) (by rw [ks2.boxes,ks.boxes]) (n:=v74) (by omega) (by omega)
 obtain⟨mB,mP,mT,me,hS,hH,hF0,hser⟩:=hst
 refine⟨[],_,a8,?_⟩
 refine⟨_,fun H=>j6.o9 hG (as3 (b8D _ _ _) me) (.cons (.t a8) (.cons (.t a8) (.cons (.t a8) .nil))) a8,?_⟩
 refine⟨_,fun H=>j6.move (.t a8) a8,?_⟩
 refine⟨_,fun H=>j6.O7 (.t a8) a8,?_⟩
 refine⟨_,fun H=>j6.O8 (.t a8) a8,?_⟩
 refine⟨_,fun H=>j6.O9 (.t a8) a8,?_⟩
 refine⟨⟨j2 [c8,c8,c8,c8,c8,_],a8⟩,fun Ys11 => ?_⟩
 refine A6.stF (fun y x => { x with A:=y }) A0 (.t rfl) (.t rfl) (u4.app (u4.app .z3)) (fun _ _=>rfl) ?_
 refine⟨[],_,a8,?_⟩
 refine⟨⟨j2 [c8,c8,c8,_,c8,_],a8⟩,fun Ys11 => ?_⟩
 refine A6.stF (fun y x => { x with Pass:=y }) U8 (.t rfl) (.t rfl) (u4.app (u4.app .z3)) (fun _ _=>rfl) ?_
 refine⟨[],_,a8,?_⟩
 refine⟨⟨j2 [c8,c8,c8,_,c8,_],a8⟩,fun ws11 => ?_⟩
 refine⟨⟨j2 [c8,c8,c8,_,c8,_],a8⟩,fun _ => ?_⟩
 show D6 _ _ _ _ _ [] ((80,_)::(79,_)::(78,_)::(77,_)::(76,_)::(65,_)::(75,_)::(74,_)::(73,_)::(72,_)::(71,_)::(70,_)::(69,_)::(68,_)::(67,_)::(66,_)::_) _
 have hrq:S1 (⟨v60,v62⟩:Rq)=true:=(by unfold S1;simp;omega)
 refine .q 5 hG ?_
 refine .h (.C6 hG (G1 _ _ _ (by first|assumption|exact x9 _) (by omega) (by omega)) .z5 (.cons (.t a8) (.cons (.i a8) .nil)) (by rintro _ _ ⟨_,_,_,_,_,_,rfl⟩;exact⟨_,rfl⟩) fun r82 B82 hr82 => ?_)
 obtain⟨v82,d82,h082,h182,hd82,rfl,hB⟩:=hr82
 cases hB
 refine .q 3 hG ?_
 refine .E3 (α:=Nat×Scn×Value×m6) [(0,_),(1,_),(4,_),(5,_)] (fun x R=>(8,.v (x.1:Int))::R) (fun x => [(true,.ob (ptr b7 0) kt2),(true,.ob (ptr b6 0) kt),(true,.own 139 x.2.2.1 x.2.1.L7),(true,.ob (ptr b5 0) (b9b x.2.1 x.2.2.1)),(true,.ob (ptr b4 0) (default:Scn)),(false,.ob w x.2.2.2)]) (fun x=>x.1≤5∧H6 x.2.2.2∧a7T x.2.1.A ⟨2,kt2⟩ x.2.1.Pass x.2.1.L7 (5 - x.1)∧x.2.1.Ring=a0s ⟨2,kt2⟩ 3∧x.2.1.C=⟨v47,kt,[⟨b4F,-v50*365*1440⟩,⟨⟨[98,111,98]⟩,0⟩]⟩∧x.2.1.Request=⟨v60,v62⟩∧x.2.1.Q3=b4F∧x.2.1.Minute=v44) (fun x=>x.1) ((v82.toNat,⟨mB,⟨[⟨2,kt2⟩],3⟩,⟨v47,kt,[⟨b4F,-v50*365*1440⟩,⟨⟨[98,111,98]⟩,0⟩]⟩,mP,[],⟨v60,v62⟩,b4F,v44⟩,.slice none 0 0,d82)) (.c2 a8 a8 (.c2 a8 a8 (.nil _))) ?_ (.cons (congrArg (fun q=>some (AV.v q)) (by dsimp only;omega)) (.c2 a8 a8 (.c2 a8 a8 (.nil _)))) (a8) fun x hF => ?_
 ·exact⟨by dsimp only;omega,by assumption,⟨⟨mT,4,hS.wide (Nat.le_refl _) (Nat.zero_le _),by omega⟩,hH⟩,rfl,rfl,rfl,rfl,rfl⟩
 obtain⟨i,s,gu,e⟩:=x
 obtain⟨f1,f2,f3,f4,f5,f6,f7,f8⟩:=hF
 dsimp only at f1 f2 f3 f4 f5 f6 f7 f8 ⊢
 refine .q 2 hG ?_
 have hcv:s.Pass.j7.length≤5:=(by obtain⟨T,n,hs,hn⟩:=f3.ex;have:=hs.a4N;omega)
 refine .q 5 hG ⟨fun hc84 => ?_,fun hc84 => ?_⟩
 ·refine .q 7 hG ?_
  refine .h (.C6 hG (G1 _ _ _ (by first|assumption|exact x9 _) (by omega) (by omega)) .z5 (.cons (.t a8) (.cons (.i a8) .nil)) (by rintro _ _ ⟨_,_,_,_,_,_,rfl⟩;exact⟨_,rfl⟩) fun r88 B88 hr88 => ?_)
  obtain⟨v88,d88,h088,h188,hd88,rfl,hB⟩:=hr88
  cases hB
  refine .q 3 hG ⟨fun hc89 => ?_,fun hc89 => ?_⟩
  ·refine .q 3 hG ?_
   refine .h (.C6 hG (R7 _ _ _ (by assumption)) .z5 (.cons (.t a8) (.cons .b .nil)) (by rintro _ _ ⟨_,_,_,_,_,_,rfl⟩;exact⟨_,rfl⟩) fun r91 B91 hr91 => ?_)
   obtain⟨p91,hp91,hk91,d91,hd91,rfl,hB⟩:=hr91
   cases hB
   refine .bs a8 (by decide) fun b92 => ?_
   refine .q 7 hG ?_
   refine .cond (.t a8) (fun hc93 => ?_) (fun hc93 => ?_)
   ·refine .q 1 hG ?_
    refine .mv a8 (.p (.B0 j5.l6 b3o a8 (.t a8) (.p (.ldF (fun x=>x.Q3) ty9 (.t a8) .z4 (fun _=>a8) (.h (.C6 hG (b2L _ _ _ s.Q3 (by assumption) (by decide) (by decide) (by rw [f7];decide)) .z6 (.cons (.t a8) (.cons (.i a8) (.cons (.t a8) .nil))) (by rintro _ _ ⟨_,_,_,_,_,_,rfl⟩;exact⟨_,rfl⟩) fun r97 B97 hr97 => ?_))))))
    obtain⟨l97,hl97,hp97,d97,hd97,rfl,hB⟩:=hr97
    cases hB
    refine .q 3 hG ?_
    refine .drop ?_
    have hna:=a95 f3 (by omega) (l:=l97) (by omega) hp97
    obtain⟨nB,nQ,ne,nS⟩:=hna
    refine .q 1 hG ?_
    refine .p (.B0 j5.l0 P9 a8 (.t a8) (.p (.ldF (fun x=>x.A) A0 (.t a8) .z3 (fun _=>a8) (.p (.B0 j5.l3 a4v a8 (.t a8) (.p (.ldF (fun x=>x.Pass) U8 (.t a8) .z3 (fun _=>a8) (.mv a8 (.p (.o9 hG (as3 (b2w _ _ _ (by(try simp);omega)) ne) (.cons (.t a8) (.cons (.t a8) (.cons (.t a8) .nil))) (.mv a8 (.p (.O7 (.t a8) (.p (.O8 (.t a8) (.p (.O9 (.t a8) (.p (.B0 j5.l0 P9 a8 (.t a8) (.n (.stF (fun y x => { x with A:=y }) A0 (.t a8) (.t a8) .z3 (fun _ _=>a8) (.p (.B0 j5.l3 a4v a8 (.t a8) (.n (.stF (fun y x => { x with Pass:=y }) U8 (.t a8) (.t a8) .z3 (fun _ _=>a8) ?_)))))))))))))))))))))))))
    have hsc:a7T nB ⟨2,kt2⟩ nQ s.L7 (5 - (i - 1)):=(by rw [show 5 - (i - 1)=5 - i+1 by omega];exact nS)
    refine .q 4 hG ?_
    refine .sb (by omega) (by omega) ?_
    refine .q 2 hG ?_
    refine⟨(i - 1,⟨nB,s.Ring,s.C,nQ,s.L7,s.Request,s.Q3,s.Minute⟩,gu,_),.cons (congrArg (fun q=>some (AV.v q)) (by dsimp only;omega)) (.c2 rfl rfl (.c2 rfl rfl (.nil _))),rfl,?_,by dsimp only;omega⟩
    exact⟨by dsimp only;omega,by assumption,hsc,f4,f5,f6,f7,f8⟩
   ·refine .q 2 hG ?_
    refine .u0 hC .z (.as 9 a8 .z (.drop ?_))
    have hna:=a95 f3 (by omega) (l := [p91]) (Nat.le_refl 1) (by simpa using hp91)
    obtain⟨nB,nQ,ne,nS⟩:=hna
    refine .q 1 hG ?_
    refine .p (.B0 j5.l0 P9 a8 (.t a8) (.p (.ldF (fun x=>x.A) A0 (.t a8) .z3 (fun _=>a8) (.p (.B0 j5.l3 a4v a8 (.t a8) (.p (.ldF (fun x=>x.Pass) U8 (.t a8) .z3 (fun _=>a8) (.mv a8 (.p (.o9 hG (as3 (b2w _ _ _ (by(try simp);omega)) ne) (.cons (.t a8) (.cons (.t a8) (.cons (.t a8) .nil))) (.mv a8 (.p (.O7 (.t a8) (.p (.O8 (.t a8) (.p (.O9 (.t a8) (.p (.B0 j5.l0 P9 a8 (.t a8) (.n (.stF (fun y x => { x with A:=y }) A0 (.t a8) (.t a8) .z3 (fun _ _=>a8) (.p (.B0 j5.l3 a4v a8 (.t a8) (.n (.stF (fun y x => { x with Pass:=y }) U8 (.t a8) (.t a8) .z3 (fun _ _=>a8) ?_)))))))))))))))))))))))))
    have hsc:a7T nB ⟨2,kt2⟩ nQ s.L7 (5 - (i - 1)):=(by rw [show 5 - (i - 1)=5 - i+1 by omega];exact nS)
    refine .q 4 hG ?_
    refine .sb (by omega) (by omega) ?_
    refine .q 2 hG ?_
    refine⟨(i - 1,⟨nB,s.Ring,s.C,nQ,s.L7,s.Request,s.Q3,s.Minute⟩,gu,_),.cons (congrArg (fun q=>some (AV.v q)) (by dsimp only;omega)) (.c2 rfl rfl (.c2 rfl rfl (.nil _))),rfl,?_,by dsimp only;omega⟩
    exact⟨by dsimp only;omega,by assumption,hsc,f4,f5,f6,f7,f8⟩
  ·refine .q 2 hG ?_
   obtain⟨T,n,hs,hn⟩:=f3.ex
   have hco:=hs.c4B (by omega) (by omega) f3.b5M (c:=s.C) (by rw [f5];exact h047) (by rw [f5];show v47≤7;omega) s.Q3 (by rw [f7];decide)
   obtain⟨A1,bl,e1,ok1,A2,P2,e2,ho,ok2,hbt,A3,g,U,e3,hs3,hh3,hfr3,hgc⟩:=hco
   refine .q 2 hG fun b10 => ?_
   refine .q 3 hG ?_
   refine .p (.B0 j5.l0 P9 a8 (.t a8) (.p (.ldF (fun x=>x.A) A0 (.t a8) .z4 (fun _=>a8) (.p (.B0 j5.l2 b3m a8 (.t a8) (.p (.ldF (fun x=>x.C) b8e (.t a8) .z4 (fun _=>a8) (.p (.bS1 B1.l1 a8 b1V c2L (fun c1=>(⟨0,c1⟩:B1)) (fun _=>a8) a8 a8 (.i a8) (.p (.o9 hG (as3 (c0L _ _ _ hs.ok.a5Z hs.ok.c1f) e1) (.cons (.t a8) (.cons (.t a8) (.cons (.t a8) .nil))) (.mv a8 (.p (.O7 (.t a8) (.p (.O8 (.t a8) (.p (.O9 (.t a8) (.p (.B0 j5.l0 P9 a8 (.t a8) (.n (.stF (fun y x => { x with A:=y }) A0 (.t a8) (.t a8) .z4 (fun _ _=>a8) (.n (.Q1 a3F (.t a8) (.t a8) .z ?_))))))))))))))))))))))))
   refine .q 3 hG ?_
   refine .p (.B0 j5.l0 P9 a8 (.t a8) (.p (.ldF (fun x=>x.A) A0 (.t a8) .z4 (fun _=>a8) (.p (.B0 j5.l3 a4v a8 (.t a8) (.p (.ldF (fun x=>x.Pass) U8 (.t a8) .z4 (fun _=>a8) (.p (.T1 a3F (.t a8) .z (.p (.o9 hG (as3 (c3w _ _ _ (by(try dsimp only);omega) ok1.c1f (by omega)) e2) (.cons (.t a8) (.cons (.t a8) (.cons (.t a8) .nil))) (.mv a8 (.p (.O7 (.t a8) (.p (.O8 (.t a8) (.p (.O9 (.t a8) (.p (.B0 j5.l0 P9 a8 (.t a8) (.n (.stF (fun y x => { x with A:=y }) A0 (.t a8) (.t a8) .z4 (fun _ _=>a8) (.p (.B0 j5.l3 a4v a8 (.t a8) (.n (.stF (fun y x => { x with Pass:=y }) U8 (.t a8) (.t a8) .z4 (fun _ _=>a8) ?_))))))))))))))))))))))))))
   refine .q 3 hG ?_
   refine .h (.alloc T3 fun b11 => ?_)
   refine .q 3 hG ?_
   refine .p (.B0 j5.l0 P9 a8 (.t a8) (.p (.ldF (fun x=>x.A) A0 (.t a8) .z5 (fun _=>a8) (.p (.B0 j5.l2 b3m a8 (.t a8) (.p (.ldF (fun x=>x.C) b8e (.t a8) .z5 (fun _=>a8) (.p (.B0 C3.l2 b0j a8 (.t a8) (.p (.ldF (fun x=>x.j9) a3E (.t a8) .z1 (fun _=>a8) (.p (.B0 j5.l6 b3o a8 (.t a8) (.p (.ldF (fun x=>x.Q3) ty9 (.t a8) .z5 (fun _=>a8) (.p (.B0 j5.l7 b7v a8 (.t a8) (.p (.ldF (fun x=>x.Minute) R3 (.t a8) .z5 (fun _=>a8) (.p (.o9 hG (as3 (c0K _ _ _ s.Q3 s.Minute bl.Key ok2.b0U ho (by rw [f7];decide) (by rw [f8];omega) (by rw [f8];omega) (by rw [f5,f7];rfl) (by omega)) e3) (.cons (.t a8) (.cons (.t a8) (.cons (.t a8) (.cons (.t a8) (.cons (.t a8) .nil))))) (.mv a8 (.p (.O7 (.t a8) (.p (.O8 (.t a8) (.p (.O9 (.t a8) (.p (.B0 j5.l0 P9 a8 (.t a8) (.n (.stF (fun y x => { x with A:=y }) A0 (.t a8) (.t a8) .z5 (fun _ _=>a8) (.n (.Q1 T3 (.t a8) (.t a8) .z ?_))))))))))))))))))))))))))))))))))
   refine .q 4 hG ?_
   refine .mv a8 (.h (.C6 hG (G1 _ _ _ (by first|assumption|exact x9 _) (by omega) (by omega)) .z7 (.cons (.t a8) (.cons (.i a8) .nil)) (by rintro _ _ ⟨_,_,_,_,_,_,rfl⟩;exact⟨_,rfl⟩) fun r150 B150 hr150 => ?_))
   obtain⟨v150,d150,h0150,h1150,hd150,rfl,hB⟩:=hr150
   cases hB
   refine .q 3 hG ?_
   refine .E3 (α:=Nat×D3×Dis×m6) [(0,_),(1,_),(4,_),(5,_),(8,_),(11,_)] (fun y R=>(12,.v (y.1:Int))::R) (fun y => [(true,.ob (ptr b11 0) y.2.2.1),(true,.ob (ptr b10 0) bl),(true,.ob (ptr b7 0) kt2),(true,.ob (ptr b6 0) kt),(true,.own 139 gu s.L7),(true,.ob (ptr b5 0) (b9b ⟨y.2.1,s.Ring,s.C,P2,s.L7,s.Request,s.Q3,s.Minute⟩ gu)),(true,.ob (ptr b4 0) (default:Scn)),(false,.ob w y.2.2.2)]) (fun y=>y.1≤2∧H6 y.2.2.2∧(∃ T n,a0q y.2.1 ⟨2,kt2⟩ P2 (s.L7 ++ [y.2.2.1]) T n (5 - i+1)∧n+y.1≤4+10*(5 - i+1))∧a3L y.2.1∧y.2.2.1.l8.length+y.1≤3) (fun y=>y.1) ((v150.toNat,A3,g,d150)) (.c2 a8 a8 (.c2 a8 a8 (.c2 a8 a8 (.nil _)))) ?_ (.cons (congrArg (fun q=>some (AV.v q)) (by dsimp only;omega)) (.c2 a8 a8 (.c2 a8 a8 (.c2 a8 a8 (.nil _))))) (a8) fun y hF => ?_
   ·exact⟨by dsimp only;omega,by assumption,⟨U,n+8,hs3,by dsimp only;omega⟩,hh3,by dsimp only;omega⟩
   obtain⟨j,A4,g4,e4⟩:=y
   obtain⟨q1,q2,q3,q4,q5⟩:=hF
   dsimp only at q1 q2 q3 q4 q5 ⊢
   refine .q 7 hG ⟨fun hc152 => ?_,fun hc152 => ?_⟩
   ·refine .q 6 hG ?_
    refine .h (.C6 hG (R7 _ _ _ (by assumption)) .z7 (.cons (.t a8) (.cons .b .nil)) (by rintro _ _ ⟨_,_,_,_,_,_,rfl⟩;exact⟨_,rfl⟩) fun r156 B156 hr156 => ?_)
    obtain⟨p156,hp156,hk156,d156,hd156,rfl,hB⟩:=hr156
    cases hB
    refine .q 1 hG fun b13 => ?_
    refine .q 7 hG ?_
    refine .cond (.t a8) (fun hc157 => ?_) (fun hc157 => ?_)
    ·refine .q 1 hG ?_
     refine .p (.bS3 j4.l0 j4.l2 j4.l3 a8 Q5 a7Z (fun c0 c2 c3=>(⟨c0,0,c2,c3,⟨[]⟩,0⟩:j4)) (fun _ _ _=>a8) a8 a8 a8 a8 (.i a8) (.i a8) (.i a8) ?_)
     refine .q 2 hG ?_
     obtain⟨T4,n4,hs4,hn4⟩:=q3
     have hre:=hs4.restrict (by omega) q4 (p:=⟨4,0,0,3000,⟨[]⟩,0⟩) (by decide) (by decide) (by omega)
     obtain⟨rB,rd,re,rs,rh,rf,rc⟩:=hre
     refine .q 1 hG ?_
     refine .p (.B0 j5.l0 P9 a8 (.t a8) (.p (.ldF (fun x=>x.A) A0 (.t a8) .z6 (fun _=>a8) (.p (.T1 T3 (.t a8) .z1 (.p (.T1 Q5 (.t a8) .z (.p (.o9 hG (as3 (a6b _ _ _ (by omega)) re) (.cons (.t a8) (.cons (.t a8) (.cons (.t a8) .nil))) (.mv a8 (.p (.O7 (.t a8) (.p (.O8 (.t a8) (.p (.O9 (.t a8) (.p (.B0 j5.l0 P9 a8 (.t a8) (.n (.stF (fun y x => { x with A:=y }) A0 (.t a8) (.t a8) .z6 (fun _ _=>a8) (.n (.Q1 T3 (.t a8) (.t a8) .z1 (.drop ?_)))))))))))))))))))))))
     refine .q 3 hG ?_
     refine .sb (by omega) (by omega) ?_
     refine .q 2 hG ?_
     refine⟨(j - 1,rB,rd,_),.cons (congrArg (fun q=>some (AV.v q)) (by dsimp only;omega)) (.c2 rfl rfl (.c2 rfl rfl (.c2 rfl rfl (.nil _)))),rfl,?_,by dsimp only;omega⟩
     exact⟨by dsimp only;omega,by assumption,⟨T4,n4+1,rs,by dsimp only;omega⟩,rh,by dsimp only;omega⟩
    ·refine .q 1 hG ?_
     obtain⟨T4,n4,hs4,hn4⟩:=q3
     have hre:=hs4.restrict (by omega) q4 (p:=p156) hp156 (hk156 rfl) (by omega)
     obtain⟨rB,rd,re,rs,rh,rf,rc⟩:=hre
     refine .q 1 hG ?_
     refine .p (.B0 j5.l0 P9 a8 (.t a8) (.p (.ldF (fun x=>x.A) A0 (.t a8) .z6 (fun _=>a8) (.p (.T1 T3 (.t a8) .z1 (.p (.T1 Q5 (.t a8) .z (.p (.o9 hG (as3 (a6b _ _ _ (by omega)) re) (.cons (.t a8) (.cons (.t a8) (.cons (.t a8) .nil))) (.mv a8 (.p (.O7 (.t a8) (.p (.O8 (.t a8) (.p (.O9 (.t a8) (.p (.B0 j5.l0 P9 a8 (.t a8) (.n (.stF (fun y x => { x with A:=y }) A0 (.t a8) (.t a8) .z6 (fun _ _=>a8) (.n (.Q1 T3 (.t a8) (.t a8) .z1 (.drop ?_)))))))))))))))))))))))
     refine .q 3 hG ?_
     refine .sb (by omega) (by omega) ?_
     refine .q 2 hG ?_
     refine⟨(j - 1,rB,rd,_),.cons (congrArg (fun q=>some (AV.v q)) (by dsimp only;omega)) (.c2 rfl rfl (.c2 rfl rfl (.c2 rfl rfl (.nil _)))),rfl,?_,by dsimp only;omega⟩
     exact⟨by dsimp only;omega,by assumption,⟨T4,n4+1,rs,by dsimp only;omega⟩,rh,by dsimp only;omega⟩
   ·refine .q 1 hG ?_
    obtain⟨T4,n4,hs4,hn4⟩:=q3
    have hgl:s.L7.length≤6:=(by have:=hs4.ngr;rw [List.length_append] at this;omega)
    have hsc:a7T A4 ⟨2,kt2⟩ P2 (s.L7 ++ [g4]) (5 - (i - 1)):=(by rw [show 5 - (i - 1)=5 - i+1 by omega];exact⟨⟨T4,n4,hs4,by omega⟩,q4⟩)
    refine .q 1 hG ?_
    refine .p (.B0 j5.l4 b3n a8 (.t a8) (.p (.ldR (fun x=>x.L7) c1p (.t a8) .z5 (fun _=>a8) ?_)))
    refine .q 1 hG ?_
    refine .bs a8 (by decide) fun b172 => .h (.append c4u (.inl ⟨_,underlying44⟩) a8 .z5 (.own a8 .z) (by simp<;>omega) (by simp<;>omega) (fun w173 => .p (.B0 j5.l4 b3n a8 (.t a8) (.n (.stF (fun y x => { x with L7:=y }) c1p (.t a8) (.b3K a8 .z5) .z6 (fun _ _=>a8) ?_)))) a8)
    refine .drop (.drop (.drop ?_))
    refine .q 3 hG ?_
    refine .sb (by omega) (by omega) ?_
    refine .q 2 hG ?_
    refine⟨(i - 1,⟨A4,s.Ring,s.C,P2,s.L7 ++ [g4],s.Request,s.Q3,s.Minute⟩,w173,_),.cons (congrArg (fun q=>some (AV.v q)) (by dsimp only;omega)) (.c2 rfl rfl (.c2 rfl rfl (.nil _))),rfl,?_,by dsimp only;omega⟩
    exact⟨by dsimp only;omega,by assumption,hsc,f4,f5,f6,f7,f8⟩
 ·refine .q 2 hG ?_
  refine .u0 hC .z2 (.a3s .z3 (fun n0 I L hr cs hc=>b6T hc (u4.fz .z2 hr)) (.conv 5 (.ln (ptr b5 0) (l9.id (α:=Scn))) a8 (fun _ _ _ _ _ h=>h) ?_))
  refine .q 5 hG ?_
  refine⟨_,.r1 a8 (.cell b8f a8 .z4),?_⟩
  exact⟨5,s,⟨2,kt2⟩,5 - i,⟨f3,by omega,rfl,f4,by rw [f6];exact hrq,f7⟩,_,f2,rfl,rfl⟩
structure m8 where
 Request:p9
 C7:Int
 y7:Int
 j7:V6
 Proof:(J0 32 UInt8)
 j3:V6
def m8.f (x:m8):p9×Int×Int×V6×(J0 32 UInt8)×V6×Unit:=(x.Request,x.C7,x.y7,x.j7,x.Proof,x.j3,())
instance:Inhabited m8:=⟨⟨default,default,default,default,default,default⟩⟩
instance:o8 m8:=o8.via m8.f
instance:I6 m8:=I6.via m8.f rfl
def m8.l0:l9 m8 p9:=l9.via m8.f l9.fst (fun x=>x.Request) (fun y x => { x with Request:=y }) (fun _=>rfl) (fun _ _=>rfl)
def m8.l1:l9 m8 Int:=l9.via m8.f (l9.snd.comp l9.fst) (fun x=>x.C7) (fun y x => { x with C7:=y }) (fun _=>rfl) (fun _ _=>rfl)
def m8.l2:l9 m8 Int:=l9.via m8.f (l9.snd.comp (l9.snd.comp l9.fst)) (fun x=>x.y7) (fun y x => { x with y7:=y }) (fun _=>rfl) (fun _ _=>rfl)
def m8.l3:l9 m8 V6:=l9.via m8.f (l9.snd.comp (l9.snd.comp (l9.snd.comp l9.fst))) (fun x=>x.j7) (fun y x => { x with j7:=y }) (fun _=>rfl) (fun _ _=>rfl)
def m8.l4:l9 m8 (J0 32 UInt8):=l9.via m8.f (l9.snd.comp (l9.snd.comp (l9.snd.comp (l9.snd.comp l9.fst)))) (fun x=>x.Proof) (fun y x => { x with Proof:=y }) (fun _=>rfl) (fun _ _=>rfl)
def m8.l5:l9 m8 V6:=l9.via m8.f (l9.snd.comp (l9.snd.comp (l9.snd.comp (l9.snd.comp (l9.snd.comp l9.fst))))) (fun x=>x.j3) (fun y x => { x with j3:=y }) (fun _=>rfl) (fun _ _=>rfl)
theorem a4j:G7 prog 24 V6 := .ok (by kernel_rfl)
theorem a3N:G7 prog 27 V6 := .ok (by kernel_rfl)
theorem b5N:G7 prog 29 m8 := .ok (by kernel_rfl)
def Z0 (b:O4) (uc ud:Value):m8:=⟨b.Request,b.C7,b.y7,⟨uc⟩,b.Proof,⟨ud⟩⟩
theorem a7f {b:O4} {uc ud:Value} {I:Im} {cs:List Value} (h:o8.rep I (Z0 b uc ud) cs) (hc:E9 I (.v b.j7) uc) (hd:E9 I (.v b.j3) ud):o8.rep I b cs:=by
 obtain⟨c1,r1,rfl,h1,c2,r2,rfl,h2,c3,r3,rfl,h3,c4,r4,rfl,⟨rfl,_⟩,c5,r5,rfl,h5,c6,r6,rfl,⟨rfl,_⟩,h6⟩:=h
 obtain⟨_,⟨v,rfl,h7⟩,rfl⟩:=hc
 obtain⟨_,⟨v',rfl,h8⟩,rfl⟩:=hd
 exact⟨c1,_,a8,h1,c2,_,a8,h2,c3,_,a8,h3,_,_,a8,⟨_,a8,h7⟩,c5,_,a8,h5,_,_,a8,⟨_,a8,h8⟩,h6⟩
theorem c0N {b:O4} {uc ud:Value} {I:Im} {u:Value} (h:E9 I (.v (Z0 b uc ud)) u) (hc:E9 I (.v b.j7) uc) (hd:E9 I (.v b.j3) ud):E9 I (.v b) u:=by
 obtain⟨cs,h1,h2⟩:=h
 exact⟨cs,a7f h1 hc hd,h2⟩
theorem a4f {α β γ:Type} [Inhabited β] [Inhabited γ] (r:D3×α×Int) (f:D3→α→D3×β×Int) (g:D3→β→D3×γ×Int):a00 (a00 r f) g=a00 r fun b x=>a00 (f b x) g:=by
 by_cases h:r.2.2=0
 ·rw [F8 h,F8 h]
 ·rw [Q2 h,Q2 h,Q2 (r:=(default,default,r.2.2)) h]
theorem a9a (leaf:Tag) (r:Rq) (d:Dis):∀ (l:List Dis) (a:D3),a2M leaf r a (l ++ [d])=a00 (a2M leaf r a l) fun b y=>a00 (a2L b d leaf r) fun c x=>(c,y ++ [x],0)
 | [],a=>by
  rw [show a2M leaf r a []=(a,[],0) from rfl,F8 (r:=(a,([]:List Bnd),(0:Int))) rfl];rfl
 | e::l,a=>by
  show a00 (a2L a e leaf r) (fun b x=>a00 (a2M leaf r b (l ++ [d])) fun c y=>(c,x::y,0))=a00 (a00 (a2L a e leaf r) fun b x=>a00 (a2M leaf r b l) fun c y=>(c,x::y,0)) _
  rw [a4f]
  refine congrArg _ (funext fun b=>funext fun x => ?_)
  rw [a9a leaf r d l,a4f,a4f]
  refine congrArg _ (funext fun c=>funext fun y => ?_)
  rw [F8 (r:=(c,x::y,(0:Int))) rfl,a4f];rfl
structure a6G (leaf:Tag) (r:Rq) (a:D3) (l:List Dis):Prop where
 ok:∀ i,i≤l.length→(a2M leaf r a (l.take i)).2.2=0
def bA (leaf:Tag) (r:Rq) (a:D3) (l:List Dis) (i:Nat):D3:=(a2M leaf r a (l.take i)).1
def bY (leaf:Tag) (r:Rq) (a:D3) (l:List Dis) (i:Nat):List Bnd:=(a2M leaf r a (l.take i)).2.1
theorem a6G.step {leaf:Tag} {r:Rq} {a:D3} {l:List Dis} (h:a6G leaf r a l) {i:Nat} (hi:i < l.length):∃ y,a2L (bA leaf r a l i) l[i] leaf r=(bA leaf r a l (i+1),y,0)∧bY leaf r a l (i+1)=bY leaf r a l i ++ [y]:=by
 have h1:=h.ok i (by omega)
 have h2:=h.ok (i+1) hi
 unfold bA bY
 rw [List.take_succ_eq_append_getElem hi,a9a,F8 h1] at h2 ⊢
 by_cases h3:(a2L (a2M leaf r a (l.take i)).1 l[i] leaf r).2.2=0
 ·rw [F8 h3]
  exact⟨_,Prod.ext a8 (Prod.ext a8 h3),a8⟩
 ·rw [Q2 h3] at h2;exact absurd h2 h3
theorem b9d {leaf:Tag} {r:Rq} {a:D3} {l:List Dis} (h:a6G leaf r a l):∀ i,i≤l.length→(bY leaf r a l i).length=i
 | 0,_=>rfl
 | i+1,hi=>by
  obtain⟨y,_,e⟩:=h.step (show i < l.length by omega)
  rw [e,List.length_append,b9d h i (by omega)];rfl
abbrev bd0 (d:Dis):Bnd:=⟨d.j9,d.l8,default⟩
theorem c0O {α β:Type} (f:α→β) (l:List α) (k:Nat) (h:k < l.length):(l.take k).map f ++ [f l[k]]=(l.take (k+1)).map f:=by
 rw [List.take_succ_eq_append_getElem h,List.map_append];rfl
theorem b9e {Y:List Bnd} {l:List Dis} {i:Nat} (y:Bnd) (hY:Y.length=i) (h:i < l.length):(Y++(l.drop i).map bd0).set i y=(Y ++ [y])++(l.drop (i+1)).map bd0:=by
 rw [List.drop_eq_getElem_cons h,List.map_cons,List.set_append_right _ _ (by omega),show i - Y.length=0 by omega,List.set_cons_zero,List.append_assoc];rfl
theorem b6V (a : D3) (p : Pass) (l : List Dis) (r : Rq) (hl : p.j7.length ≤ 1000000) (hl2 : l.length ≤ 1000000) {b : D3} {t : Tag} (h0 : K3 (b8x p l r) = 0) (h1 : H4 a p.Tag (a1r r) = (b, t, 0)) (h2 : a6G p.Tag r b l) (hr : S1 r = true) :
    u1 gl prog 29 [.v a,.v p,.v l,.v r] (fun x=>x = .t3 (.v (bA p.Tag r b l l.length)) (.v (⟨r,p.C7,p.y7,p.j7,t,bY p.Tag r b l l.length⟩:O4)) (.v (0:Int))):=by
  refine u1.jn func29 (by kernel_rfl) 101 rfl fun C hC hG => ?_
  refine .q 3 hG fun b4 => ?_
  refine .q 1 hG fun b5 => ?_
  refine .q 1 hG fun b7 => ?_
  refine .q 1 hG fun b8 => ?_
  refine .q 1 hG fun b9 => ?_
  refine .q 11 hG ?_
  refine .name 23 a8 fun w23=>(.p (.bS4 m8.l0 m8.l1 m8.l2 m8.l3 a8 b5N c30 (fun c0 c1 c2 c3=>(⟨c0,c1,c2,c3,default,default⟩:m8)) (fun _ _ _ _=>a8) a8 a8 a8 a8 a8 (.t a8) (.t a8) (.t a8) (.vR a8 .z) (.h (.alloc b5N fun b11 => .n (.Q1 b5N (.t a8) (.t a8) .z (.a1z 88 Bnd ?_))))))
  refine .q 3 hG ?_
  refine .S0 2 a8 fun hl2' => ?_
  refine .q 4 hG ?_
  refine .E3 (α:=Nat×Value) [(2,_),(4,_),(5,_),(7,_),(8,_),(9,_),(11,_)] (fun x R=>(12,.v (x.1:Int))::R) (fun x => [(true,.own 88 x.2 ((l.take x.1).map bd0)),(true,.ob (ptr b11 0) (Z0 ⟨r,p.C7,p.y7,p.j7,default,[]⟩ w23 x.2)),(true,.fz w23 (.v p.j7)),(true,.ob (ptr b9 0) (default:O4)),(true,.ob (ptr b8 0) (default:D3)),(true,.ob (ptr b7 0) r),(true,.ob (ptr b5 0) p),(true,.ob (ptr b4 0) a)]) (fun x=>x.1≤l.length) (fun x=>l.length - x.1) ((0,.slice none 0 0)) (.c2 a8 a8 (.c2 a8 a8 (.c2 a8 a8 (.cons a8 (.nil _))))) ?_ (.c2 a8 a8 (.c2 a8 a8 (.c2 a8 a8 (.c2 a8 a8 (.nil _))))) (a8) fun x hF => ?_
  · simp
  obtain⟨i,gu⟩:=x
  dsimp only at hF ⊢
  refine .q 9 hG ⟨fun hc28 => ?_,fun hc28 => ?_⟩
  · refine .q 3 hG ?_
    refine .E0 [j0,j1,j1,j1,j1,j1,j1,j1] (by kernel_rfl) 16 [[],[(31,0)],[],[],[(33,2),(34,3)],[(35,4)],[(36,5)],[],[],[(38,7),(39,8)],[(40,9)],[(41,10)],[(37,6),(42,11)],[(43,12)],[(32,1),(44,13)],[]] [1,14] a8 (by kernel_rfl) a8 (by kernel_rfl) (by decide) ?_
    refine⟨_,fun H=>j6.B0 m8.l5 V5 a8 (.t a8) a8,?_⟩
    refine .inl ?_
    refine⟨_,fun H=>j6.move (.t a8) a8,?_⟩
    refine⟨_,fun H=>j6.move (.t a8) a8,?_⟩
    refine⟨_,fun H=>j6.idx T3 underlying44 (.t a8) (.t a8) (by omega) (by omega) a8,?_⟩
    refine⟨_,fun H=>j6.A9 p5.l0 (fun x=>x.j9) b4N a8 (fun _=>a8) (.t a8) a8,?_⟩
    refine⟨_,fun H=>j6.G9 a3E (.t a8) a8,?_⟩
    refine⟨_,fun H=>j6.move (.t a8) a8,?_⟩
    refine⟨_,fun H=>j6.move (.t a8) a8,?_⟩
    refine⟨_,fun H=>j6.idx T3 underlying44 (.t a8) (.t a8) (by omega) (by omega) a8,?_⟩
    refine⟨_,fun H=>j6.A9 p5.l1 (fun x=>x.l8) a6j a8 (fun _=>a8) (.t a8) a8,?_⟩
    refine⟨_,fun H=>j6.G9 a8L (.t a8) a8,?_⟩
    refine⟨_,fun H=>j6.bS2 p8.l0 p8.l1 a8 Z1 b6b (fun c0 c1=>(⟨c0,c1,default⟩:p8)) (fun _ _=>a8) a8 a8 a8 (.t a8) (.t a8) a8,?_⟩
    refine⟨_,fun H=>j6.F1 (α:=p8) Z1 underlying27 (.cons (.t a8) .nil) a8 (by decide) a8,?_⟩
    refine .inl ?_
    refine⟨_,fun H=>j6.B0 m8.l5 V5 a8 (.t a8) a8,?_⟩
    refine⟨⟨([],j2 [_,c8,c8,c8,c8,c8,c8,c8]),a8⟩,?_⟩
    refine A6.ofP (j6.ldR (fun x=>x.j3) a3N (.t rfl) .z1 (fun _=>rfl) ?_)
    refine⟨⟨([],j2 [_,c8,c8,c8,c8,c8,c8,c8]),a8⟩,?_⟩
    refine A6.append c1W (.inl ⟨_,underlying27⟩) rfl .z (.v (.c rfl)) (by simp<;>omega) (by simp<;>omega) (fun w45 => ?_) rfl
    refine⟨⟨([],j2 [_,c8,c8,c8,c8,c8,c8,c8]),a8⟩,?_⟩
    show D6 _ _ _ _ _ [_] ((46,_)::(45,_)::(44,_)::(43,_)::(42,_)::(41,_)::(40,_)::(39,_)::(38,_)::(37,_)::(36,_)::(35,_)::(34,_)::(33,_)::(32,_)::(31,_)::_) _
    refine .n (.stF (fun y x => { x with j3:=y }) a3N (.t a8) (.b3K a8 .z) .z1 (fun _ _=>a8) ?_)
    refine .q 3 hG ?_
    refine .ad (by omega) (by omega) ?_
    refine .q 2 hG ?_
    refine⟨(i+1,w45),.c2 rfl rfl (.c2 rfl rfl (.c2 rfl rfl (.c2 rfl rfl (.nil _)))),congrArg (fun q => [(true,E4.own _ _ q),_,_,_,_,_,_,_]) (c0O bd0 l i (by omega)),?_,by dsimp only;omega⟩
    dsimp only;omega
  · refine .q 3 hG ?_
    obtain rfl:i=l.length:=(by omega)
    rw [List.take_length]
    refine .q 1 hG ?_
    refine .p (.T1 b5N (.t a8) .z1 (.p (.c02 hG (b2I (b8x p l r) hl) (.cons (.st a8 .z (fun J n0 L v hr hx hd=>c0N (b:=b8x p l r) hx (u4.fz .z2 hr) hd)) .nil) .v ?_)))
    refine .q 7 hG ?_
    refine .M1 (.t a8) (fun hc50=>(by exfalso;exact hc50 h0)) (fun hc50 => ?_)
    refine .q 2 hG ?_
    refine .a1a [[j1,j1,j1,j1,j1,j1,j1,j1],[j1,j1,j1,j1,j1,j1,j1,j1],[j1,j1,j1,j1,j1,j1,j1,j0],[j1,j1,j1,j1,j1,j1,j1,j0]] [[j1,j1,j1,j1,j1,j1,j1,j1],[j1,j1,j1,j1,j1,j1,j1,j1],[j1,j1,j1,j1,j1,j1,j1,j1],[j1,j1,j1,j1,j1,j1,j1,j1],[j1,j1,j1,j1,j1,j1,j1,j1],[j1,j1,j1,j1,j1,j1,j1,j1],[j1,j1,j1,j1,j1,j1,j1,j1],[j1,j1,j1,j1,j1,j1,j1,j1],[j1,j1,j1,j1,j1,j1,j1,j0],[j1,j1,j1,j1,j1,j1,j1,j0],[],[],[],[j1,j1,j1,j1,j1,j1,j1,j0]] [] [] 3 (by kernel_rfl) 14 [[],[],[(56,1)],[],[(58,3)],[(55,0),(57,2),(59,4)],[(60,5)],[(54,6)],[(54,6)],[(54,6)],[],[(61,7)],[(14,10),(62,8)],[(63,9)]] [10,11,12] rfl (by kernel_rfl) rfl (by kernel_rfl) rfl (by decide) (by simp) (fun p hp=>by cases hp) (by kernel_rfl) rfl ?_
    refine⟨_,fun H=>j6.T1 A0 (.t a8) (u4.app .z7) a8,?_⟩
    refine⟨_,fun H=>j6.B0 x8.l3 a6S a8 (.t a8) a8,?_⟩
    refine⟨_,fun H=>j6.ldF (fun x=>x.Tag) A5 (.t a8) (u4.app .z6) (fun _=>a8) a8,?_⟩
    refine⟨_,fun H=>j6.T1 a8K (.t a8) (u4.app .z5) a8,?_⟩
    refine⟨_,fun H=>j6.o9 hG (b8z _ hr) (.cons (.t a8) .nil) a8,?_⟩
    refine⟨_,fun H=>j6.o9 hG (as3 (a5X _ _ _) h1) (.cons (.t a8) (.cons (.t a8) (.cons (.t a8) .nil))) a8,?_⟩
    refine⟨_,fun H=>j6.move (.t a8) a8,?_⟩
    refine⟨_,fun H=>j6.O7 (.t a8) a8,?_⟩
    refine⟨_,fun H=>j6.O8 (.t a8) a8,?_⟩
    refine⟨_,fun H=>j6.O9 (.t a8) a8,?_⟩
    refine .inl (.inl (.inl ?_))
    refine⟨_,fun H=>j6.assign (.t a8) a8,?_⟩
    refine⟨a8,?_⟩
    refine⟨⟨j2 [c8,c8,c8,c8,c8,c8,c8,c8],a8⟩,fun Ys9 => ?_⟩
    refine A6.alloc A5 fun b14 => ?_
    refine⟨[_],_,a8,?_⟩
    refine⟨⟨j2 [c8,c8,c8,c8,c8,c8,c8,c8],a8⟩,fun Ys9 => ?_⟩
    refine A6.Q1 A0 (.t rfl) (.t rfl) (.s (u4.app (u4.app .z7))) ?_
    refine⟨[_],_,a8,?_⟩
    refine⟨⟨j2 [c8,c8,c8,c8,c8,c8,c8,_],a8⟩,fun Ys9 => ?_⟩
    refine A6.Q1 A5 (.t rfl) (.t rfl) .z ?_
    refine⟨[_],_,a8,?_⟩
    refine⟨⟨j2 [c8,c8,c8,c8,c8,c8,c8,_],a8⟩,fun ws9 => ?_⟩
    refine⟨⟨j2 [c8,c8,c8,c8,c8,c8,c8,_],a8⟩,fun _ => ?_⟩
    show D6 _ _ _ _ _ [] ((15,_)::(14,_)::(63,_)::(62,_)::(61,_)::(54,_)::(60,_)::(59,_)::(58,_)::(57,_)::(56,_)::(55,_)::_) _
    refine .q 7 hG ?_
    refine .M1 (.t a8) (fun hc65=>(by exfalso;exact hc65 rfl)) (fun hc65 => ?_)
    refine .q 3 hG ?_
    refine .p (.T1 A5 (.t a8) .z (.p (.B0 m8.l4 a8u a8 (.t a8) (.n (.stF (fun y x => { x with Proof:=y }) A5 (.t a8) (.t a8) .z2 (fun _ _=>a8) ?_)))))
    refine .q 4 hG ?_
    refine .p (.assign (.i a8) ?_)
    refine .q 2 hG ?_
    refine .E3 (α:=Nat) [(2,_),(4,_),(5,_),(7,_),(8,_),(9,_),(11,_)] (fun k R=>(16,.v (k:Int))::R) (fun k => [(true,.ob (ptr b14 0) t),(true,.own 88 gu (bY p.Tag r b l k++(l.drop k).map bd0)),(true,.ob (ptr b11 0) (Z0 ⟨r,p.C7,p.y7,p.j7,t,[]⟩ w23 gu)),(true,.fz w23 (.v p.j7)),(true,.ob (ptr b9 0) (default:O4)),(true,.ob (ptr b8 0) (default:D3)),(true,.ob (ptr b7 0) r),(true,.ob (ptr b5 0) p),(true,.ob (ptr b4 0) (bA p.Tag r b l k))]) (fun k=>k≤l.length) (fun k=>l.length - k) (0) (.c2 a8 a8 (.c2 a8 a8 (.c2 a8 a8 (.cons a8 (.nil _))))) ?_ (.c2 a8 a8 (.c2 a8 a8 (.c2 a8 a8 (.c2 a8 a8 (.nil _))))) (a8) fun k hF => ?_
    · simp
    refine .q 9 hG ⟨fun hc74 => ?_,fun hc74 => ?_⟩
    · refine .q 4 hG ?_
      have hYl:=b9d h2 k (by omega)
      have hst:=h2.step (i:=k) (by omega)
      obtain⟨y,hbe,hye⟩:=hst
      have hDl:(bY p.Tag r b l k++(l.drop k).map bd0).length=l.length:=(by rw [List.length_append,hYl,List.length_map,List.length_drop];omega)
      have hse:(bY p.Tag r b l k++(l.drop k).map bd0).set k y=bY p.Tag r b l (k+1)++(l.drop (k+1)).map bd0:=(by rw [b9e y hYl (by omega),hye])
      refine .a1a [[j1,j1,j1,j1,j1,j1,j1,j1,j1],[j1,j1,j1,j1,j1,j1,j1,j1,j0],[j1,j0,j1,j1,j1,j1,j1,j1,j0]] [[j1,j1,j1,j1,j1,j1,j1,j1,j0],[j1,j1,j1,j1,j1,j1,j1,j1,j0],[j1,j1,j1,j1,j1,j1,j1,j1,j0],[j1,j1,j1,j1,j1,j1,j1,j1,j1],[j1,j1,j1,j1,j1,j1,j1,j1,j1],[j1,j1,j1,j1,j1,j1,j1,j1,j1],[j1,j1,j1,j1,j1,j1,j1,j1,j1],[j1,j1,j1,j1,j1,j1,j1,j1,j1],[j1,j1,j1,j1,j1,j1,j1,j1,j1],[j1,j1,j1,j1,j1,j1,j1,j1,j1],[j1,j1,j1,j1,j1,j1,j1,j1,j1],[j1,j1,j1,j1,j1,j1,j1,j1,j1],[j1,j1,j1,j1,j1,j1,j1,j1,j1],[j1,j1,j1,j1,j1,j1,j1,j1,j1],[j1,j1,j1,j1,j1,j1,j1,j1,j0],[j1,j0,j1,j1,j1,j1,j1,j1,j0],[],[j1,j1,j1,j1,j1,j1,j1,j1,j0],[],[j1,j0,j1,j1,j1,j1,j1,j1,j0]] [] [] 2 (by kernel_rfl) 20 [[],[(78,0)],[],[],[],[],[(82,4),(83,5)],[(84,6)],[],[(86,8)],[],[(81,3),(85,7),(87,9),(88,10)],[(89,11)],[(77,12)],[(77,12)],[(77,12)],[(90,13)],[(79,1),(80,2)],[(93,17),(91,14)],[(92,15)]] [16,18] rfl (by kernel_rfl) rfl (by kernel_rfl) rfl (by decide) (by simp) (fun p hp=>by cases hp) (by kernel_rfl) rfl ?_
      refine⟨_,fun H=>j6.B0 m8.l5 V5 a8 (.t a8) a8,?_⟩
      refine⟨_,fun H=>j6.ldR (fun x=>x.j3) a3N (.t a8) (u4.app .z2) (fun _=>a8) a8,?_⟩
      refine⟨_,fun H=>j6.move (.t a8) a8,?_⟩
      refine⟨_,fun H=>j6.T1 A0 (.t a8) (u4.app .z8) a8,?_⟩
      refine⟨_,fun H=>j6.move (.t a8) a8,?_⟩
      refine⟨_,fun H=>j6.move (.t a8) a8,?_⟩
      refine⟨_,fun H=>j6.idx T3 underlying44 (.t a8) (.t a8) (by omega) (by omega) a8,?_⟩
      refine⟨_,fun H=>j6.G9 T3 (.t a8) a8,?_⟩
      refine⟨_,fun H=>j6.B0 x8.l3 a6S a8 (.t a8) a8,?_⟩
      refine⟨_,fun H=>j6.ldF (fun x=>x.Tag) A5 (.t a8) (u4.app .z7) (fun _=>a8) a8,?_⟩
      refine⟨_,fun H=>j6.T1 a8K (.t a8) (u4.app .z6) a8,?_⟩
      refine⟨_,fun H=>j6.o9 hG (as3 (c2a _ _ _ _) hbe) (.cons (.t a8) (.cons (.t a8) (.cons (.t a8) (.cons (.t a8) .nil)))) a8,?_⟩
      refine⟨_,fun H=>j6.move (.t a8) a8,?_⟩
      refine⟨_,fun H=>j6.O7 (.t a8) a8,?_⟩
      refine⟨_,fun H=>j6.O8 (.t a8) a8,?_⟩
      refine⟨_,fun H=>j6.O9 (.t a8) a8,?_⟩
      refine .inl ?_
      refine⟨_,fun H=>j6.X3 Z1 underlying27 a8 (u4.app .z1) (.t a8) (by omega) (by omega) a8,?_⟩
      refine .inl ?_
      refine⟨_,fun H=>j6.assign (.t a8) a8,?_⟩
      refine⟨a8,?_⟩
      refine⟨⟨j2 [c8,c8,c8,c8,c8,c8,c8,c8,c8],a8⟩,fun Ys16 => ?_⟩
      refine A6.Q1 A0 (.t rfl) (.t rfl) (u4.app (u4.app .z8)) ?_
      refine⟨[],_,a8,?_⟩
      refine⟨⟨j2 [c8,c8,c8,c8,c8,c8,c8,c8,_],a8⟩,fun Ys16 => ?_⟩
      refine A6.b0y Z1 (.t rfl) (.t rfl) (u4.app (u4.app .z1)) (by omega) ?_
      refine⟨[],_,a8,?_⟩
      refine⟨⟨j2 [c8,_,c8,c8,c8,c8,c8,c8,_],a8⟩,fun ws16 => ?_⟩
      refine⟨⟨j2 [c8,_,c8,c8,c8,c8,c8,c8,_],a8⟩,fun _ => ?_⟩
      show D6 _ _ _ _ _ [] ((15,_)::(93,_)::(92,_)::(91,_)::(90,_)::(77,_)::(89,_)::(88,_)::(87,_)::(86,_)::(85,_)::(84,_)::(83,_)::(82,_)::(81,_)::(80,_)::(79,_)::(78,_)::_) _
      refine .q 6 hG ?_
      refine .M1 (.t a8) (fun hc95=>(by exfalso;exact hc95 rfl)) (fun hc95 => ?_)
      refine .q 3 hG ?_
      refine .ad (by omega) (by omega) ?_
      refine .q 2 hG ?_
      refine⟨k+1,.c2 rfl rfl (.c2 rfl rfl (.c2 rfl rfl (.c2 rfl rfl (.nil _)))),congrArg (fun q => [_,(true,E4.own _ _ q),_,_,_,_,_,_,_]) hse,?_,by omega⟩
      omega
    · refine .q 2 hG ?_
      obtain rfl:k=l.length:=(by omega)
      rw [List.drop_length,List.map_nil,List.append_nil]
      refine .u0 hC .z1 (.a3s .z2 (fun n0 I L hr cs hc=>a7f (b:=⟨r,p.C7,p.y7,p.j7,t,bY p.Tag r b l l.length⟩) hc (u4.fz .z3 hr) (u4.fz .z1 hr)) (.conv 11 (.ln (ptr b11 0) (l9.id (α:=O4))) a8 (fun _ _ _ _ _ h=>h) (.E0 [j1,j1,j1,j1,j0,j0,j1,j1,j1] (by kernel_rfl) 5 [[],[],[(99,0)],[(100,1)],[]] [2,3] a8 (by kernel_rfl) a8 (by kernel_rfl) (by decide) ?_)))
      refine⟨_,fun H=>j6.T1 A0 (.t a8) (u4.app .z8) a8,?_⟩
      refine⟨_,fun H=>j6.T1 U9 (.t a8) (u4.app .z2) a8,?_⟩
      refine .inl (.inl ?_)
      refine⟨_,fun H=>j6.assign (.i a8) a8,?_⟩
      refine⟨⟨([],j2 [c8,c8,c8,c8,_,_,c8,c8,c8]),a8⟩,?_⟩
      refine A6.Q1 A0 (.t rfl) (.t rfl) .z5 ?_
      refine⟨⟨([],j2 [c8,c8,c8,c8,_,_,c8,c8,c8]),a8⟩,?_⟩
      refine A6.Q1 U9 (.t rfl) (.t rfl) .z4 ?_
      refine⟨⟨([],j2 [c8,c8,c8,c8,_,_,c8,c8,c8]),a8⟩,?_⟩
      show D6 _ _ _ _ _ [] ((10,_)::(100,_)::(99,_)::_) _
      refine .q 2 hG ?_
      refine⟨_,.r3 a8 (.cell A0 a8 .z5) (.cell U9 a8 .z4) (.tmp a8),?_⟩
      rfl
theorem c2m (e:Epo) (b:O4):u1 gl prog 37 [.v e,.p b] (fun r=>r = .v (decide (e.Number=b.C7))):=by
 refine u1.jn func37 (by kernel_rfl) 9 rfl fun C hC hG => ?_
 refine .q 3 hG fun b2 => ?_
 refine .q 12 hG ?_
 refine .e1 a8 a8 ?_
 rfl
theorem b4G {c:Cav} (h:H5 c=true):c.j9.length≤1024:=by
 cases h3:c.K5 with
 | false=>rw [(a0W h h3).2.2.1];decide
 | true=>exact(a0V h h3).2.2.2.2.1
theorem c0P {p:Tag×Bool} {t:Tag} {e:Int} (h:(!(p.2&&decide (p.1=t))||decide (e≠0))=true):p≠(t,true)∨e≠0:=by
 rcases Bool.or_eq_true_iff.1 h with h|h
 ·exact Or.inl (b5J (b1e h))
 ·exact Or.inr (of_decide_eq_true h)
theorem b9f {p:Tag×Bool} {t:Tag} {e:Int} (h:(!(p.2&&decide (p.1=t))||decide (e≠0))=false):p=(t,true)∧e=0:=by
 obtain⟨h1,h2⟩:=Bool.or_eq_false_iff.1 h
 exact⟨b5I (b1f h1),by simpa using h2⟩
theorem b9g {a:D3} {b:O4} {T:List Tag} {i:Nat} (h:i < b.j7.length) (h3:b.j7[i].K5=false):thE a b T i=0:=by
 unfold thE;rw [a4b h,if_neg (by rw [h3];decide)]
theorem b9h {a:D3} {b:O4} {T:List Tag} {i:Nat} (h:i < b.j7.length) (hT:i < T.length) (h3:b.j7[i].K5=true):thE a b T i=a0h a b b.j7[i] T[i] (T.getLastD default):=by
 unfold thE;rw [a4b h,a4b hT,if_pos h3]
theorem b2M (a:D3) (g:Ring) (b:O4) (hpl:∀ x∈a.y2,x.Plain.length≤1000000) (hl:b.j7.length≤1000000):u1 gl prog 13 [.v a,.v g,.v b] (fun r=>r = .t2 (.v (a6c a g b).1) (.v (a6c a g b).2)):=by
 refine u1.jn func13 (by kernel_rfl) 111 rfl fun C hC hG => ?_
 refine .q 3 hG fun b3 => ?_
 refine .q 1 hG fun b4 => ?_
 refine .q 1 hG fun b5 => ?_
 refine .q 1 hG fun b6 => ?_
 refine .q 4 hG ?_
 refine .A8 hC .z3 (.O5 3 a8 .z3 (.A8 hC .z2 (.O5 4 a8 .z2 (.A8 hC .z1 (.O5 5 a8 .z1 (.del (.s .z) (.del (.s .z) (.del (.s .z) ?_))))))))
 refine .q 2 hG ?_
 refine .k hG (c0z _ hl) ?_
 refine .q 8 hG ⟨fun hc22 => ?_,fun hc22 => ?_⟩
 ·refine .q 2 hG ?_
  refine .p (.bS0 (α:=y6) a8 a3X b3p ?_)
  refine .q 5 hG ?_
  refine⟨_,.r2 a8 (.cell a3X a8 .z) (.tmp a8),?_⟩
  rw [c2c hc22]
 ·refine .q 2 hG ?_
  have h0:K3 b=0:=Decidable.not_not.1 hc22
  have hb:=a2s h0
  refine .q 3 hG ?_
  refine .p (.b0z hG (fun x=>c2m x _) (.cons (.t a8) .nil) (.p (.o9 hG (b4x _ _) (.cons (.t a8) (.cons (.t a8) .nil)) ?_)))
  refine .q 9 hG ⟨fun hc30 => ?_,fun hc30 => ?_⟩
  ·refine .q 2 hG ?_
   refine .p (.bS0 (α:=y6) a8 a3X b3p ?_)
   refine .q 4 hG ?_
   refine⟨_,.r2 a8 (.cell a3X a8 .z) (.tmp a8),?_⟩
   rw [c3x h0 (b0N (show ¬0≤idx g.Live (fun e=>decide (e.Number=b.C7)) from fun hx=>absurd hc30 (Int.not_lt.2 hx)))]
  ·refine .q 2 hG ?_
   have hi0:0≤idx g.Live (fun e=>decide (e.Number=b.C7)):=Int.not_lt.1 hc30
   have hi1:=b3T hi0
   have he:a2c g b.C7=some g.Live[(idx g.Live (fun e=>decide (e.Number=b.C7))).toNat]:=b0M hi0 (by omega)
   rw [b0Y h0 he]
   refine .draw (by kernel_rfl) 16 [[],[],[(34,1)],[],[(35,2),(36,3)],[(37,4)],[],[(39,6)],[],[(41,8)],[(33,0),(38,5),(40,7),(42,9)],[(43,10)],[(32,11)],[(32,11)],[(44,12)],[(45,13)]] a8 (by kernel_rfl) a8 ?_
   refine⟨_,j6.G9 A0 (.t a8) a8,?_⟩
   refine⟨_,j6.A9 D2.l0 (fun x=>x.Live) b3j a8 (fun _=>a8) (.t a8) a8,?_⟩
   refine⟨_,j6.G9 c1V (.t a8) a8,?_⟩
   refine⟨_,j6.move (.t a8) a8,?_⟩
   refine⟨_,j6.idx b1U underlying30 (.t a8) (.t a8) (by omega) (by omega) a8,?_⟩
   refine⟨_,j6.G9 b1U (.t a8) a8,?_⟩
   refine⟨_,j6.A9 p6.l2 (fun x=>x.y7) b3i a8 (fun _=>a8) (.t a8) a8,?_⟩
   refine⟨_,j6.G9 R3 (.t a8) a8,?_⟩
   refine⟨_,j6.A9 p6.l3 (fun x=>x.j7) Z8 a8 (fun _=>a8) (.t a8) a8,?_⟩
   refine⟨_,j6.G9 b1T (.t a8) a8,?_⟩
   refine⟨_,j6.o9 hG (c19 _ _ _ _ (by have:=hb.a4N;omega)) (.cons (.t a8) (.cons (.t a8) (.cons (.t a8) (.cons (.t a8) .nil)))) a8,?_⟩
   refine⟨_,j6.move (.t a8) a8,?_⟩
   refine⟨_,j6.a2A (.t a8) a8,?_⟩
   refine⟨_,j6.a2B (.t a8) a8,?_⟩
   refine⟨_,j6.assign (.t a8) a8,?_⟩
   refine⟨_,j6.assign (.t a8) a8,?_⟩
   show D6 _ _ _ _ _ [] ((11,_)::(10,_)::(45,_)::(44,_)::(32,_)::(43,_)::(42,_)::(41,_)::(40,_)::(39,_)::(38,_)::(37,_)::(36,_)::(35,_)::(34,_)::(33,_)::_) _
   refine .q 8 hG ⟨fun hc47 => ?_,fun hc47 => ?_⟩
   ·refine .q 2 hG ?_
    refine .p (.bS0 (α:=y6) a8 a3X b3p ?_)
    refine .q 4 hG ?_
    refine⟨_,.r2 a8 (.cell a3X a8 .z) (.tmp a8),?_⟩
    rw [c3y hc47]
   ·refine .q 2 hG ?_
    obtain⟨T,hw,hT,ht⟩:=a80 (Decidable.not_not.1 hc47)
    rw [b0Z ht]
    rw [show Y4 a g.Live[(idx g.Live (fun e=>decide (e.Number=b.C7))).toNat] b.y7 b.j7=(T,0) from ht]
    refine .q 4 hG ?_
    refine .sb (by omega) (by simp<;>omega) ?_
    refine .ix (by simp<;>omega) (by omega) ?_
    refine .q 2 hG fun b12 => ?_
    refine .q 3 hG ?_
    rw [b2p (s:=T) (by omega)]
    refine .q 5 hG ?_
    refine .p (.o9 hG (b6D _ _ _) (.cons (.t a8) (.cons (.t a8) (.cons (.t a8) .nil))) ?_)
    refine .q 4 hG fun b13 => ?_
    refine .q 7 hG ?_
    refine .p (.o9 hG (c0p _ _ (by show T.length≤_;have:=hb.a4N;omega)) (.cons (.t rfl) (.cons (.t rfl) .nil)) ?_)
    refine .q 8 hG ?_
    refine .A8 hC .z1 (.O5 12 a8 .z1 (.A8 hC .z (.O5 13 a8 .z (.del .z (.del .z ?_)))))
    refine .q 5 hG ?_
    refine .p (.o9 hG (b5H _ _ _) (.cons (.t a8) (.cons (.t a8) (.cons (.t a8) .nil))) ?_)
    refine .q 6 hG ?_
    refine .cond (.t a8) (fun hc78 => ?_) (fun hc78 => ?_)
    ·refine .q 2 hG ?_
     refine .p (.bS0 (α:=y6) a8 a3X b3p ?_)
     refine .q 4 hG ?_
     refine⟨_,.r2 a8 (.cell a3X a8 .z) (.tmp a8),?_⟩
     rw [if_pos (c0P (p:=a0p a (T.getLastD default) b.Request) hc78)]
    ·refine .q 3 hG ?_
     obtain⟨hp,hn⟩:=b9f (p:=a0p a (T.getLastD default) b.Request) hc78
     rw [if_neg (by rintro (h|h);exact h hp;exact h hn)]
     refine .q 7 hG ?_
     refine .E3 (α:=Nat) [(3,_),(5,_),(6,_),(10,_),(12,_),(15,_),(81,_),(82,_)] (fun i R=>(83,.v (i:Int))::R) (Function.const _ _) (fun i=>i≤b.j7.length∧a1l (thE a b T) i=0) (fun i=>b.j7.length - i) (0) (.c2 a8 a8 (.c2 a8 a8 (.c2 a8 a8 (.c2 a8 a8 (.nil _))))) ?_ (.c2 a8 a8 (.c2 a8 a8 (.c2 a8 a8 (.c2 a8 a8 (.cons a8 (.nil _)))))) (a8) fun i hF => ?_
     ·exact⟨Nat.zero_le _,a8⟩
     obtain⟨h1,h2⟩:=hF
     refine .q 1 hG ?_
     refine .S0 81 a8 fun hl81 => ?_
     refine .q 5 hG ⟨fun hc84 => ?_,fun hc84 => ?_⟩
     ·refine .q 6 hG ?_
      refine .ix (by omega) (by omega) ?_
      refine .q 2 hG fun b17 => ?_
      refine .q 5 hG ?_
      have hi:i < b.j7.length:=by omega
      refine .A8 hC .z (.O5 17 a8 .z (.del .z ?_))
      refine .q 5 hG ?_
      refine .cond (.t a8) (fun hc90 => ?_) (fun hc90 => ?_)
      ·refine .q 1 hG ?_
       have hth:thE a b T i=0:=b9g hi (b1e hc90)
       refine .q 1 hG ?_
       refine .ad (by omega) (by omega) ?_
       refine .q 2 hG ?_
       refine⟨i+1,.c2 rfl rfl (.c2 rfl rfl (.c2 rfl rfl (.c2 rfl rfl (.cons rfl (.nil _))))),rfl,?_,by omega⟩
       exact⟨by omega,by rw [a3b,h2,if_neg (by decide),hth]⟩
      ·refine .q 2 hG ?_
       have h3:b.j7[i].K5=true:=b1f hc90
       refine .draw (by kernel_rfl) 10 [[],[],[],[],[],[(94,3),(95,4)],[(96,5)],[],[(91,0),(92,1),(93,2),(97,6),(98,7)],[(99,8)]] a8 (by kernel_rfl) a8 ?_
       refine⟨_,j6.G9 A0 (.t a8) a8,?_⟩
       refine⟨_,j6.G9 U9 (.t a8) a8,?_⟩
       refine⟨_,j6.G9 a0n (.t a8) a8,?_⟩
       refine⟨_,j6.move (.t a8) a8,?_⟩
       refine⟨_,j6.move (.t a8) a8,?_⟩
       refine⟨_,j6.idx A5 underlying54 (.t a8) (.t a8) (by omega) (by simp<;>omega) a8,?_⟩
       refine⟨_,j6.G9 A5 (.t a8) a8,?_⟩
       refine⟨_,j6.G9 A5 (.t a8) a8,?_⟩
       refine⟨_,j6.o9 hG (c2i _ _ _ _ _ hpl (b4G (hb.cav _ (List.getElem_mem _)))) (.cons (.t a8) (.cons (.t a8) (.cons (.t a8) (.cons (.t a8) (.cons (.t a8) .nil))))) a8,?_⟩
       refine⟨_,j6.assign (.t a8) a8,?_⟩
       show D6 _ _ _ _ _ [] ((18,_)::(99,_)::(98,_)::(97,_)::(96,_)::(95,_)::(94,_)::(93,_)::(92,_)::(91,_)::_) _
       refine .q 7 hG ⟨fun hc101 => ?_,fun hc101 => ?_⟩
       ·refine .q 2 hG ?_
        refine .p (.bS0 (α:=y6) a8 a3X b3p (.mv a8 (.n (.Q1 a3X (.t a8) (.t a8) .z (.ag a8 ?_)))))
        refine .q 2 hG ?_
        refine⟨_,.r2 a8 (.cell a3X a8 .z) (.tmp a8),?_⟩
        have hth:thE a b T i=a0h a b b.j7[i] T[i] (T.getLastD default):=b9h hi (by omega) h3
        have hne:thE a b T i≠0:=(by rw [hth];exact hc101)
        rw [b6J hi h2 hne,if_pos hne,hth];rfl
       ·refine .q 1 hG ?_
        have hth:thE a b T i=0:=(by rw [b9h hi (by omega) h3];exact Decidable.not_not.1 hc101)
        refine .q 1 hG ?_
        refine .ad (by omega) (by omega) ?_
        refine .q 2 hG ?_
        refine⟨i+1,.c2 rfl rfl (.c2 rfl rfl (.c2 rfl rfl (.c2 rfl rfl (.cons rfl (.nil _))))),rfl,?_,by omega⟩
        exact⟨by omega,by rw [a3b,h2,if_neg (by decide),hth]⟩
     ·refine .q 3 hG ?_
      obtain rfl:i=b.j7.length:=by omega
      rw [if_neg (by rw [h2];decide)]
      refine .q 2 hG ?_
      refine .k hG (c0H _) ?_
      refine .q 1 hG ?_
      refine .cond (.t a8) (fun hc106 => ?_) (fun hc106 => ?_)
      ·refine .q 2 hG ?_
       refine .p (.bS0 (α:=y6) a8 a3X b3p (.n (.Q1 a3X (.t a8) (.t a8) .z (.p (.assign (.i a8) ?_)))))
       refine .q 2 hG ?_
       refine⟨_,.r2 a8 (.cell a3X a8 .z) (.tmp a8),?_⟩
       rw [if_pos hc106]
      ·refine .q 5 hG ?_
       refine .p (.bS2 y6.l0 y6.l1 a8 a3X b3p (fun c0 c1=>(⟨c0,c1⟩:y6)) (fun _ _=>a8) a8 a8 a8 (.t a8) (.t a8) (.n (.Q1 a3X (.t a8) (.t a8) .z (.p (.assign (.i a8) ?_)))))
       refine .q 2 hG ?_
       refine⟨_,.r2 a8 (.cell a3X a8 .z) (.tmp a8),?_⟩
       rw [if_neg (by rw [hc106];decide)]
structure c2n (A:D3) (P:Pass) (G:List Dis) (r:Rq) (b:D3) (t:Tag) (B:D3):Prop where
 chk:K3 (b8x P G r)=0
 mac:H4 A P.Tag (a1r r)=(b,t,0)
 to:a6G P.Tag r b G
 alg:bA P.Tag r b G G.length=B
 dis:bY P.Tag r b G G.length=G.map (bnd B P.Tag r)
theorem a0q.c3E {A : D3} {root : Epo} {P : Pass} {G : List Dis} {T : List Tag} {n k : Nat} (h : a0q A root P G T n k) (hn : n < 1000) (hk : k ≤ 6) (hh : a3L A) {r : Rq} (hr : S1 r = true) :
    ∃ b t B,c2n A P G r b t B∧a7c B root P G T r t (n+7) k∧P6 A B:=by
  have hg:=h.ngr
  obtain⟨b,t,s⟩:=h.ok.step (by omega) P.Tag (m:=a1r r) (by have:=b8Z hr;omega)
  obtain⟨c,q⟩:=s.ok.binds P.Tag hr G (by omega)
  have hc:K3 (b8x P G r)=0:=b1k h hk hr default (fun d=>⟨d.j9,d.l8,default⟩) fun g=>⟨rfl,rfl⟩
  refine⟨b,t,c,⟨hc,s.eq,⟨fun i hi => ?_⟩,?_,?_⟩,⟨h.mac (s.le.trans q.le) (q.ok.le (by omega)) (q.boxes.trans s.boxes),hr,q.le.look s.look,q.looks,fun x hx => ?_⟩,s.le.trans q.le⟩
  · obtain⟨c',q'⟩:=s.ok.binds P.Tag hr (G.take i) (by rw [List.length_take];omega)
    rw [q'.eq]
  · unfold bA;rw [List.take_length,q.eq]
  · unfold bY;rw [List.take_length,q.eq]
  · rcases q.Z2 x hx with h'|h'
    · rcases s.Z2 x h' with h'|h'
      · exact Or.inl (hh x h')
      · exact Or.inr (Or.inl h')
    · exact Or.inr (Or.inr h')
theorem c2n.c {A:D3} {P:Pass} {G:List Dis} {r:Rq} {b:D3} {t:Tag} {B:D3} (h:c2n A P G r b t B) (hl:P.j7.length≤1000000) (hl2:G.length≤1000000) (hr:S1 r=true):u1 gl prog 29 [.v A,.v P,.v G,.v r] (fun x=>x = .t3 (.v B) (.v (prB B P G r t)) (.v (0:Int))) :=
 (b6V A P G r hl hl2 h.chk h.mac h.to hr).mono fun x hx=>by rw [hx,h.alg,h.dis];rfl
structure c0Q (s:Scn) (b:O4):Prop where
 ex:∃ root T t n k,a7c s.A root s.Pass s.L7 T s.Request t n k∧n≤61∧k≤5∧root.Number=2∧s.Ring=a0s root 3∧b=prB s.A s.Pass s.L7 s.Request t
 c4C:s.Q3=b4F
abbrev scn (w:Value):AV := .ln w (l9.id (α:=Scn))
theorem b9i (w:Value) (s:Scn) (root:Epo) (k:Nat) (h:a7T s.A root s.Pass s.L7 k) (hk:k≤5) (h2:root.Number=2) (hg:s.Ring=a0s root 3) (hr:S1 s.Request=true) (hh:s.Q3=b4F):F5 gl prog 31 [scn w] [.ob w s] (fun r Hs=>∃ s':Scn,∃ b,c0Q s' b∧r = .v b∧Hs = [.ob w s']):=by
 obtain⟨T,n,hs,hn⟩:=h.ex
 obtain⟨b,t,B,hp,hB,hle⟩:=hs.c3E (by omega) (by omega) h.b5M hr
 have h5:=hs.a4N
 have h6:=hs.ngr
 refine F5.Q4 func31 rfl (by kernel_rfl) 32 rfl rfl _ rfl _ rfl fun C hC hG => ?_
 refine .q 3 hG fun b2 => ?_
 refine .q 2 hG ?_
 refine .c07 [j1,j1] [(21,(⟨m0,inferInstance,default⟩:AT)),(22,(⟨p6,inferInstance,default⟩:AT))] (by kernel_rfl) 26 [[],[(7,0)],[(8,1)],[(9,2)],[],[(11,4)],[(12,5)],[(13,6)],[],[(15,8)],[(16,9)],[(17,10)],[],[(19,12)],[(20,13)],[(21,14)],[(10,3),(14,7),(18,11),(22,15)],[(23,16)],[(6,17)],[(6,17)],[(6,17)],[],[],[(3,21),(24,18)],[(4,22),(25,19)],[(26,20)]] [23,24] rfl (by kernel_rfl) rfl (by kernel_rfl) (by decide) (by simp) (List.forall_mem_cons.2 ⟨fun o ho=>by obtain rfl:=Option.some.inj (show some _=some o from ho);exact⟨rfl,fun _ _=>A6.alloc A0 fun b=>⟨b,rfl,rfl⟩⟩,(List.forall_mem_cons.2 ⟨fun o ho=>by obtain rfl:=Option.some.inj (show some _=some o from ho);exact⟨rfl,fun _ _=>A6.alloc U9 fun b=>⟨b,rfl,rfl⟩⟩,(fun p hp=>by cases hp)⟩)⟩) ?_
 refine⟨_,fun H=>j6.move (.t a8) a8,?_⟩
 refine⟨_,fun H=>j6.F3 (.t a8) a8,?_⟩
 refine⟨_,fun H=>j6.B0 o7.l0 P9 a8 (.t a8) a8,?_⟩
 refine⟨_,fun H=>j6.ldF (fun x=>x.A) A0 (.t a8) (u4.app .z1) (fun _=>a8) a8,?_⟩
 refine⟨_,fun H=>j6.move (.t a8) a8,?_⟩
 refine⟨_,fun H=>j6.F3 (.t a8) a8,?_⟩
 refine⟨_,fun H=>j6.B0 o7.l3 a4v a8 (.t a8) a8,?_⟩
 refine⟨_,fun H=>j6.ldF (fun x=>x.Pass) U8 (.t a8) (u4.app .z1) (fun _=>a8) a8,?_⟩
 refine⟨_,fun H=>j6.move (.t a8) a8,?_⟩
 refine⟨_,fun H=>j6.F3 (.t a8) a8,?_⟩
 refine⟨_,fun H=>j6.B0 o7.l4 b3n a8 (.t a8) a8,?_⟩
 refine⟨_,fun H=>j6.ldF (fun x=>x.L7) c4s (.t a8) (u4.app .z1) (fun _=>a8) a8,?_⟩
 refine⟨_,fun H=>j6.move (.t a8) a8,?_⟩
 refine⟨_,fun H=>j6.F3 (.t a8) a8,?_⟩
 refine⟨_,fun H=>j6.B0 o7.l5 b7u a8 (.t a8) a8,?_⟩
 refine⟨_,fun H=>j6.ldF (fun x=>x.Request) a8K (.t a8) (u4.app .z1) (fun _=>a8) a8,?_⟩
 refine⟨_,fun H=>j6.o9 hG (hp.c (by omega) (by omega) hr) (.cons (.t a8) (.cons (.t a8) (.cons (.t a8) (.cons (.t a8) .nil)))) a8,?_⟩
 refine⟨_,fun H=>j6.move (.t a8) a8,?_⟩
 refine⟨_,fun H=>j6.O7 (.t a8) a8,?_⟩
 refine⟨_,fun H=>j6.O8 (.t a8) a8,?_⟩
 refine⟨_,fun H=>j6.O9 (.t a8) a8,?_⟩
 refine .inl (.inl (.inl (.inl ?_)))
 refine⟨_,fun H=>j6.assign (.t a8) a8,?_⟩
 refine⟨a8,fun ws1 => ?_⟩
 refine⟨⟨([_,_],j2 [c8,c8]),a8⟩,?_⟩
 refine A6.Q1 A0 (.t rfl) (.t rfl) .z ?_
 refine⟨⟨([_,_],j2 [c8,c8]),a8⟩,?_⟩
 refine A6.Q1 U9 (.t rfl) (.t rfl) .z1 ?_
 refine⟨⟨([_,_],j2 [c8,c8]),a8⟩,?_⟩
 show D6 _ _ _ _ _ [] ((5,_)::(4,_)::(3,_)::(26,_)::(25,_)::(24,_)::(6,_)::(23,_)::(22,_)::(21,_)::(20,_)::(19,_)::(18,_)::(17,_)::(16,_)::(15,_)::(14,_)::(13,_)::(12,_)::(11,_)::(10,_)::(9,_)::(8,_)::(7,_)::_) _
 refine .q 3 hG ?_
 refine .mv a8 (.p (.T1 A0 (.t a8) .z (.p (.F3 (.t a8) (.p (.B0 o7.l0 P9 a8 (.t a8) (.n (.stF (fun y x => { x with A:=y }) A0 (.t a8) (.t a8) .z3 (fun _ _=>a8) ?_))))))))
 refine .q 3 hG ?_
 refine .p (.T1 U9 (.t a8) .z1 (.n (.Q1 U9 (.t a8) (.t a8) .z2 ?_)))
 refine .q 2 hG ?_
 refine⟨_,.r1 a8 (.cell U9 a8 .z2),?_⟩
 refine⟨_,.cons .z3 (.nil),?_⟩
 exact⟨⟨B,s.Ring,s.C,s.Pass,s.L7,s.Request,s.Q3,s.Minute⟩,_,⟨⟨root,T,t,n+7,k,hB,by omega,hk,h2,hg,rfl⟩,hh⟩,rfl,rfl⟩
theorem c2o (deck:List Int) (wide:Bool):F5 gl prog 10 [.v deck,.v wide] [] (fun r Hs=>∃ s:Scn,∃ b,∃ p d,(c0Q s b∧H6 d)∧r = .t3 (.v s) (.v b) (dk p)∧Hs = [.ob p d]):=by
 refine F5.Q4 func10 rfl (by kernel_rfl) 19 rfl rfl _ rfl _ rfl fun C hC hG => ?_
 refine .q 3 hG fun b4 => ?_
 refine .q 1 hG fun b5 => ?_
 refine .p (.assign .raw ?_)
 refine .q 4 hG ?_
 refine .h (.a08 hG (a9J _) (.cons (.t a8) .nil) fun r11 Hs11 hr11 => ?_)
 obtain⟨b11,rfl,rfl⟩:=hr11
 show D6 _ _ _ _ _ _ _ ((true,_)::_)
 refine .q 6 hG ?_
 refine .h (.C6 hG (b6U _ _ _ (by first|assumption|exact x9 _)) .z (.cons (.t a8) (.cons (.t a8) .nil)) (by rintro _ _ ⟨_,_,_,_,_,_,_,rfl⟩;exact⟨_,rfl⟩) fun r14 B14 hr14 => ?_)
 obtain⟨s14,root14,k14,⟨hs1,hs2,hs3,hs4,hs5,hs6⟩,d14,hd14,rfl,hB⟩:=hr14
 cases hB
 refine .q 1 hG fun b8 => ?_
 refine .q 4 hG ?_
 refine .h (.C6 hG (b9i _ _ _ _ hs1 hs2 hs3 hs4 hs5 hs6) .z (.cons (.t a8) .nil) (by rintro _ _ ⟨_,_,_,_,rfl⟩;exact⟨_,rfl⟩) fun r15 B15 hr15 => ?_)
 obtain⟨s15,b15',hm15,rfl,hB⟩:=hr15
 cases hB
 refine .q 1 hG fun b9 => ?_
 refine .q 3 hG ?_
 refine .E0 [j1,j1,j1,j0,j0] (by kernel_rfl) 6 [[],[],[],[(16,0)],[(17,1)],[(18,2)]] [3,4] a8 (by kernel_rfl) a8 (by kernel_rfl) (by decide) ?_
 refine⟨_,fun H=>j6.T1 b8f (.t a8) (u4.app .z1) a8,?_⟩
 refine⟨_,fun H=>j6.T1 U9 (.t a8) (u4.app .z) a8,?_⟩
 refine⟨_,fun H=>j6.move (.t a8) a8,?_⟩
 refine .inl (.inl ?_)
 refine⟨_,fun H=>j6.assign (.t a8) a8,?_⟩
 refine⟨⟨([],j2 [c8,c8,c8,_,_]),a8⟩,?_⟩
 refine A6.Q1 b8f (.t rfl) (.t rfl) .z4 ?_
 refine⟨⟨([],j2 [c8,c8,c8,_,_]),a8⟩,?_⟩
 refine A6.Q1 U9 (.t rfl) (.t rfl) .z3 ?_
 refine⟨⟨([],j2 [c8,c8,c8,_,_]),a8⟩,?_⟩
 show D6 _ _ _ _ _ [] ((6,_)::(18,_)::(17,_)::(16,_)::_) _
 refine .q 2 hG ?_
 refine⟨_,.r3 a8 (.cell b8f a8 .z4) (.cell U9 a8 .z3) (.tmp a8),?_⟩
 refine⟨_,.cons .z2 (.nil),?_⟩
 exact⟨s15,b15',_,d14,⟨hm15,hd14⟩,a8,a8⟩
theorem a4g {α:Type} {a b:List α} {k:Nat} (ha:k < a.length) (hb:k < b.length) (h:a.take k=b.take k) (e:a[k]=b[k]):a.take (k+1)=b.take (k+1):=by
 rw [List.take_succ_eq_append_getElem ha,List.take_succ_eq_append_getElem hb,h,e]
theorem b1m {α:Type} {a b:List α} {k:Nat} (ha:k < a.length) (hb:k < b.length) (e:a[k]≠b[k]):¬a=b:=fun h=>e (by subst h;rfl)
theorem a9b {α:Type} {a b:List α} {k:Nat} (h:a.take k=b.take k) (hk:a.length≤k) (hl:a.length=b.length):a=b:=by
 rw [List.take_of_length_le hk,List.take_of_length_le (by omega)] at h;exact h
theorem b2N (a b:List Pred):u1 gl prog 117 [.v a,.v b] (fun r=>r = .v (decide (a=b))):=by
 refine u1.jn func117 (by kernel_rfl) 26 rfl fun C hC hG => ?_
 refine .q 6 hG ?_
 refine .S0 0 a8 fun hl0=>(.S0 1 a8 fun hl1 => ?_)
 refine .q 8 hG ⟨fun hc10 => ?_,fun hc10 => ?_⟩
 ·refine .q 5 hG ?_
  refine .e1 a8 a8 ?_
  rw [decide_eq_false (fun e=>hc10 (by rw [e]))]
 ·refine .q 3 hG ?_
  have hll:a.length=b.length:=by omega
  refine .q 4 hG ?_
  refine .E3 (α:=Nat) [(0,_),(1,_)] (fun k R=>(5,.v (k:Int))::R) (fun k => []) (fun k=>k≤a.length∧a.take k=b.take k) (fun k=>a.length - k) (0) (.c2 a8 a8 (.nil _)) ?_ (.c2 a8 a8 (.cons a8 (.nil _))) (a8) fun k hF => ?_
  ·simp
  obtain⟨h1,h2⟩:=hF
  refine .q 9 hG ⟨fun hc14 => ?_,fun hc14 => ?_⟩
  ·refine .q 4 hG ?_
   refine .draw (by kernel_rfl) 9 [[],[],[(17,0),(18,1)],[(19,2)],[],[],[(21,4),(22,5)],[(23,6)],[(20,3),(24,7)]] a8 (by kernel_rfl) a8 ?_
   refine⟨_,j6.move (.t a8) a8,?_⟩
   refine⟨_,j6.move (.t a8) a8,?_⟩
   refine⟨_,j6.idx Q5 underlying83 (.t a8) (.t a8) (by omega) (by omega) a8,?_⟩
   refine⟨_,j6.G9 Q5 (.t a8) a8,?_⟩
   refine⟨_,j6.move (.t a8) a8,?_⟩
   refine⟨_,j6.move (.t a8) a8,?_⟩
   refine⟨_,j6.idx Q5 underlying83 (.t a8) (.t a8) (by omega) (by omega) a8,?_⟩
   refine⟨_,j6.G9 Q5 (.t a8) a8,?_⟩
   refine⟨_,j6.c14 V9 (by decide) a8 (by kernel_rfl) (.t a8) (.t a8) a8,?_⟩
   show D6 _ _ _ _ _ [] ((25,_)::(24,_)::(23,_)::(22,_)::(21,_)::(20,_)::(19,_)::(18,_)::(17,_)::_) _
   refine .q 2 hG ⟨fun hc25 => ?_,fun hc25 => ?_⟩
   ·refine .q 5 hG ?_
    refine .e1 a8 a8 ?_
    rw [decide_eq_false (b1m (k:=k) (by omega) (by omega) hc25)]
   ·refine .q 3 hG ?_
    refine .ad (by omega) (by omega) ?_
    refine .q 2 hG ?_
    refine⟨k+1,.c2 rfl rfl (.cons rfl (.nil _)),rfl,?_,by omega⟩
    exact⟨by omega,a4g (by omega) (by omega) h2 (Decidable.not_not.1 hc25)⟩
  ·refine .q 6 hG ?_
   refine .e1 a8 a8 ?_
   rw [decide_eq_true (a9b h2 (by omega) hll)]
theorem c2p (x y:Bnd):(decide (x.Proof=y.Proof)&&decide (x.j9=y.j9)&&decide (x.l8=y.l8))=decide (x=y):=by
 cases x;cases y
 rw [Bool.eq_iff_iff]
 simp only [Bool.and_eq_true,decide_eq_true_eq,p8.mk.injEq]
 constructor
 ·rintro⟨⟨h1,h2⟩,h3⟩;exact⟨h2,h3,h1⟩
 ·rintro⟨h2,h3,h1⟩;exact⟨⟨h1,h2⟩,h3⟩
theorem a7U (x y:Bnd):u1 gl prog 53 [.v x,.v y] (fun r=>r = .v (decide (x=y))):=by
 refine u1.jn func53 (by kernel_rfl) 24 rfl fun C hC hG => ?_
 refine .q 3 hG fun b2 => ?_
 refine .q 1 hG fun b3 => ?_
 refine .q 3 hG ?_
 refine .A8 hC .z1 (.O5 2 a8 .z1 (.A8 hC .z (.O5 3 a8 .z ?_)))
 refine .q 5 hG ?_
 refine .p (.a7w underlying26 sz5 underlying5 b0d (.t a8) (.t a8) ?_)
 refine .q 5 hG ?_
 refine .go 10 a8 (.t a8) (fun hg15 => .o9 hG (a3Z _ _) (.cons (.q a8 hg15) (.cons (.q a8 hg15) .nil)) a8) ?_
 refine .q 6 hG ?_
 refine .go 17 a8 (.t a8) (fun hg22 => .o9 hG (b2N _ _) (.cons (.q a8 hg22) (.cons (.q a8 hg22) .nil)) a8) ?_
 refine .q 4 hG ?_
 refine .e1 a8 a8 ?_
 rw [←c2p]
theorem b9j (x y:Cav):((x.K5 != y.K5)||decide (x.a2F≠y.a2F)||decide (x.F9≠y.F9) || !decide (x.j9=y.j9) || !decide (x.Y0=y.Y0)) = !decide (x=y):=by
 cases x;cases y
 rw [Bool.eq_iff_iff]
 simp only [Bool.or_eq_true,Bool.not_eq_true',decide_eq_true_eq,decide_eq_false_iff_not,bne_iff_ne,m9.mk.injEq,ne_eq,Classical.not_and_iff_not_or_not]
 simp only [or_assoc]
theorem b4H (a b:List Cav):u1 gl prog 116 [.v a,.v b] (fun r=>r = .v (decide (a=b))):=by
 refine u1.jn func116 (by kernel_rfl) 62 rfl fun C hC hG => ?_
 refine .q 6 hG ?_
 refine .S0 0 a8 fun hl0=>(.S0 1 a8 fun hl1 => ?_)
 refine .q 8 hG ⟨fun hc12 => ?_,fun hc12 => ?_⟩
 ·refine .q 5 hG ?_
  refine .e1 a8 a8 ?_
  rw [decide_eq_false (fun e=>hc12 (by rw [e]))]
 ·refine .q 3 hG ?_
  have hll:a.length=b.length:=by omega
  refine .q 4 hG ?_
  refine .E3 (α:=Nat) [(0,_),(1,_)] (fun k R=>(5,.v (k:Int))::R) (fun k => []) (fun k=>k≤a.length∧a.take k=b.take k) (fun k=>a.length - k) (0) (.c2 a8 a8 (.nil _)) ?_ (.c2 a8 a8 (.cons a8 (.nil _))) (a8) fun k hF => ?_
  ·simp
  obtain⟨h1,h2⟩:=hF
  refine .q 9 hG ⟨fun hc16 => ?_,fun hc16 => ?_⟩
  ·refine .q 4 hG ?_
   refine .c07 [] [(8,(⟨m9,inferInstance,default⟩:AT)),(9,(⟨m9,inferInstance,default⟩:AT))] (by kernel_rfl) 12 [[],[],[(19,0),(20,1)],[(21,2)],[],[],[(23,4),(24,5)],[(25,6)],[],[],[(6,8),(22,3)],[(7,9),(26,7)]] [10,11] rfl (by kernel_rfl) rfl (by kernel_rfl) (by decide) (by simp) (List.forall_mem_cons.2 ⟨fun o ho=>by obtain rfl:=Option.some.inj (show some _=some o from ho);exact⟨rfl,fun _ _=>A6.alloc a0n fun b=>⟨b,rfl,rfl⟩⟩,(List.forall_mem_cons.2 ⟨fun o ho=>by obtain rfl:=Option.some.inj (show some _=some o from ho);exact⟨rfl,fun _ _=>A6.alloc a0n fun b=>⟨b,rfl,rfl⟩⟩,(fun p hp=>by cases hp)⟩)⟩) ?_
   refine⟨_,fun H=>j6.move (.t a8) a8,?_⟩
   refine⟨_,fun H=>j6.move (.t a8) a8,?_⟩
   refine⟨_,fun H=>j6.idx a0n underlying24 (.t a8) (.t a8) (by omega) (by omega) a8,?_⟩
   refine⟨_,fun H=>j6.G9 a0n (.t a8) a8,?_⟩
   refine⟨_,fun H=>j6.move (.t a8) a8,?_⟩
   refine⟨_,fun H=>j6.move (.t a8) a8,?_⟩
   refine⟨_,fun H=>j6.idx a0n underlying24 (.t a8) (.t a8) (by omega) (by omega) a8,?_⟩
   refine⟨_,fun H=>j6.G9 a0n (.t a8) a8,?_⟩
   refine .inl (.inl (.inl (.inl ?_)))
   refine⟨a8,fun ws6 => ?_⟩
   refine⟨⟨([_,_],j2 []),a8⟩,?_⟩
   refine A6.Q1 a0n (.t rfl) (.t rfl) .z ?_
   refine⟨⟨([_,_],j2 []),a8⟩,?_⟩
   refine A6.Q1 a0n (.t rfl) (.t rfl) .z1 ?_
   refine⟨⟨([_,_],j2 []),a8⟩,?_⟩
   show D6 _ _ _ _ _ [] ((7,_)::(6,_)::(26,_)::(25,_)::(24,_)::(23,_)::(22,_)::(21,_)::(20,_)::(19,_)::_) _
   refine .q 2 hG ?_
   refine .A8 hC .z (.O5 6 a8 .z (.A8 hC .z1 (.O5 7 a8 .z1 (.drop (.drop ?_)))))
   refine .q 5 hG ?_
   refine .p (.c04 underlying4 (.t a8) (.t a8) ?_)
   refine .q 5 hG ?_
   refine .go 32 a8 (.t a8) (fun hg37 => .c14 V9 (by decide) a8 (by kernel_rfl) (.q a8 hg37) (.q a8 hg37) a8) ?_
   refine .q 13 hG ?_
   refine .go 46 a8 (.t a8) (fun hg51 => .o9 hG (a3Z _ _) (.cons (.q a8 hg51) (.cons (.q a8 hg51) .nil)) a8) ?_
   refine .q 7 hG ?_
   refine .go 54 a8 (.t a8) (fun hg59 => .o9 hG (a3Z _ _) (.cons (.q a8 hg59) (.cons (.q a8 hg59) .nil)) a8) ?_
   refine .q 3 hG ?_
   refine .cond (.t a8) (fun hc61 => ?_) (fun hc61 => ?_)
   ·refine .q 5 hG ?_
    refine .e1 a8 a8 ?_
    rw [decide_eq_false (b1m (k:=k) (by omega) (by omega) (by have h:=(b9j (a[k]'(by omega)) (b[k]'(by omega))).symm.trans hc61;simpa using h))]
   ·refine .q 3 hG ?_
    refine .ad (by omega) (by omega) ?_
    refine .q 2 hG ?_
    refine⟨k+1,.c2 rfl rfl (.cons rfl (.nil _)),rfl,?_,by omega⟩
    exact⟨by omega,a4g (by omega) (by omega) h2 (by have h:=(b9j (a[k]'(by omega)) (b[k]'(by omega))).symm.trans hc61;simpa using h)⟩
  ·refine .q 6 hG ?_
   refine .e1 a8 a8 ?_
   rw [decide_eq_true (a9b h2 (by omega) hll)]
theorem c2q (x y:O4):(decide (x.Request≠y.Request)||decide (x.C7≠y.C7)||decide (x.y7≠y.y7)||decide (x.Proof≠y.Proof) || !decide (x.j7=y.j7)||decide ((x.j3.length:Int)≠(y.j3.length:Int)))=true→¬x=y:=by
 rintro h rfl;simp at h
theorem b9k {x y:O4} (h:(decide (x.Request≠y.Request)||decide (x.C7≠y.C7)||decide (x.y7≠y.y7)||decide (x.Proof≠y.Proof) || !decide (x.j7=y.j7)||decide ((x.j3.length:Int)≠(y.j3.length:Int)))=false):x.j3.length=y.j3.length∧(x.j3=y.j3→x=y):=by
 simp only [Bool.or_eq_false_iff,decide_eq_false_iff_not,ne_eq,Decidable.not_not,Bool.not_eq_false'] at h
 simp only [decide_eq_true_eq] at h
 obtain⟨⟨⟨⟨⟨h1,h2⟩,h3⟩,h4⟩,h5⟩,h6⟩:=h
 refine⟨by omega,fun h7 => ?_⟩
 cases x;cases y;simp_all
theorem b6W (x y:O4):u1 gl prog 52 [.v x,.v y] (fun r=>r = .v (decide (x=y))):=by
 refine u1.jn func52 (by kernel_rfl) 68 rfl fun C hC hG => ?_
 refine .q 3 hG fun b2 => ?_
 refine .q 1 hG fun b3 => ?_
 refine .q 4 hG ?_
 refine .A8 hC .z1 (.O5 2 a8 .z1 (.A8 hC .z (.O5 3 a8 .z (.drop (.drop ?_)))))
 refine .q 5 hG ?_
 refine .p (.c14 c3p (by decide) a8 (by kernel_rfl) (.t a8) (.t a8) ?_)
 refine .q 19 hG ?_
 refine .go 25 a8 (.t a8) (fun hg30 => .c2V underlying26 sz5 underlying5 b0d (.q a8 hg30) (.q a8 hg30) a8) ?_
 refine .q 6 hG ?_
 refine .go 32 a8 (.t a8) (fun hg37 => .o9 hG (b4H _ _) (.cons (.q a8 hg37) (.cons (.q a8 hg37) .nil)) a8) ?_
 refine .q 12 hG ?_
 refine .cond (.t a8) (fun hc48 => ?_) (fun hc48 => ?_)
 ·refine .q 5 hG ?_
  refine .e1 a8 a8 ?_
  rw [decide_eq_false (c2q x y hc48)]
 ·refine .q 3 hG ?_
  obtain⟨hll,hse⟩:=b9k hc48
  refine .q 4 hG ?_
  refine .E3 (α:=Nat) [(2,_),(3,_)] (fun k R=>(5,.v (k:Int))::R) (fun k => []) (fun k=>k≤x.j3.length∧x.j3.take k=y.j3.take k) (fun k=>x.j3.length - k) (0) (.c2 a8 a8 (.nil _)) ?_ (.c2 a8 a8 (.cons a8 (.nil _))) (a8) fun k hF => ?_
  ·simp
  obtain⟨h1,h2⟩:=hF
  refine .q 10 hG ⟨fun hc53 => ?_,fun hc53 => ?_⟩
  ·refine .q 4 hG ?_
   refine .draw (by kernel_rfl) 12 [[],[(56,0)],[],[(57,1),(58,2)],[(59,3)],[],[(61,5)],[],[(62,6),(63,7)],[(64,8)],[(60,4),(65,9)],[(66,10)]] a8 (by kernel_rfl) a8 ?_
   refine⟨_,j6.A9 p6.l5 (fun x=>x.j3) V5 a8 (fun _=>a8) (.t a8) a8,?_⟩
   refine⟨_,j6.G9 b3M (.t a8) a8,?_⟩
   refine⟨_,j6.move (.t a8) a8,?_⟩
   refine⟨_,j6.idx Z1 underlying27 (.t a8) (.t a8) (by omega) (by omega) a8,?_⟩
   refine⟨_,j6.G9 Z1 (.t a8) a8,?_⟩
   refine⟨_,j6.A9 p6.l5 (fun x=>x.j3) V5 a8 (fun _=>a8) (.t a8) a8,?_⟩
   refine⟨_,j6.G9 b3M (.t a8) a8,?_⟩
   refine⟨_,j6.move (.t a8) a8,?_⟩
   refine⟨_,j6.idx Z1 underlying27 (.t a8) (.t a8) (by omega) (by omega) a8,?_⟩
   refine⟨_,j6.G9 Z1 (.t a8) a8,?_⟩
   refine⟨_,j6.o9 hG (a7U _ _) (.cons (.t a8) (.cons (.t a8) .nil)) a8,?_⟩
   refine⟨_,j6.not (.t a8) a8,?_⟩
   show D6 _ _ _ _ _ [] ((67,_)::(66,_)::(65,_)::(64,_)::(63,_)::(62,_)::(61,_)::(60,_)::(59,_)::(58,_)::(57,_)::(56,_)::_) _
   refine .q 1 hG ?_
   refine .cond (.t a8) (fun hc67 => ?_) (fun hc67 => ?_)
   ·refine .q 5 hG ?_
    refine .e1 a8 a8 ?_
    rw [decide_eq_false (fun e=>b1m (a:=x.j3) (b:=y.j3) (k:=k) (by omega) (by omega) (by simpa using hc67) (by rw [e]))]
   ·refine .q 1 hG ?_
    refine .S0 51 a8 fun hl51 => ?_
    refine .q 2 hG ?_
    refine .ad (by omega) (by omega) ?_
    refine .q 2 hG ?_
    refine⟨k+1,.c2 rfl rfl (.cons rfl (.nil _)),rfl,?_,by omega⟩
    exact⟨by omega,a4g (by omega) (by omega) h2 (by simpa using hc67)⟩
  ·refine .q 6 hG ?_
   refine .e1 a8 a8 ?_
   rw [decide_eq_true (hse (a9b h2 (by omega) hll))]
def C8 (x:m8) (c:List Cav) (d:List Bnd):O4:=⟨x.Request,x.C7,x.y7,c,x.Proof,d⟩
theorem K9 {x:m8} {c:List Cav} {d:List Bnd} {I:Im} {cs:List Value} (h:o8.rep I x cs) (hc:E9 I (.v c) x.j7.v) (hd:E9 I (.v d) x.j3.v):o8.rep I (C8 x c d) cs :=
 a7f (b:=C8 x c d) (uc:=x.j7.v) (ud:=x.j3.v) h hc hd
theorem b9l (b:O4) (I:Im) (u:Value) (h:E9 I (.v b) u):∃ x y,E9 I (.v (Z0 b x y)) u∧E9 I (.v b.j7) x∧E9 I (.v b.j3) y:=by
 obtain⟨cs,⟨c1,r1,rfl,h1,c2,r2,rfl,h2,c3,r3,rfl,h3,c4,r4,rfl,h4,c5,r5,rfl,h5,c6,r6,rfl,h6,h7⟩,rfl⟩:=h
 obtain⟨v4,rfl,h4⟩:=h4
 obtain⟨v6,rfl,h6⟩:=h6
 have o4:v4.oneCell'=true:=by obtain⟨xs,⟨a,c,rfl,_⟩,_⟩:=h4;rfl
 have o6:v6.oneCell'=true:=by obtain⟨xs,⟨a,c,rfl,_⟩,_⟩:=h6;rfl
 exact⟨v4,v6,⟨_,⟨c1,_,a8,h1,c2,_,a8,h2,c3,_,a8,h3,_,_,a8,⟨a8,o4⟩,c5,_,a8,h5,_,_,a8,⟨a8,o6⟩,h7⟩,a8⟩,⟨_,⟨v4,a8,h4⟩,a8⟩,⟨_,⟨v6,a8,h6⟩,a8⟩⟩
structure Tb (N:Nat) (b:O4):Prop where
 cav:b.j7.length≤N
 dis:b.j3.length≤N
 con:∀ d∈b.j3,d.l8.length≤N
 G3:0≤b.Request.E5∧b.Request.E5≤281474976710656+N
theorem U2 {N:Nat} {D:List Bnd} (h:∀ d∈D,d.l8.length≤N):∀ d∈D,d.l8.length≤N+1:=fun d hd=>Nat.le_succ_of_le (h d hd)
theorem U3 {N:Nat} {D:List Bnd} (h:∀ d∈D,d.l8.length≤N) (k:Nat):∀ d∈D.take k,d.l8.length≤N+1:=fun d hd=>Nat.le_succ_of_le (h d (List.mem_of_mem_take hd))
theorem I8 {N:Nat} {D:List Bnd} (h:∀ d∈D,d.l8.length≤N) {k:Nat} {x:Bnd} (hx:x.l8.length≤N+1):∀ d∈D.set k x,d.l8.length≤N+1:=fun d hd=>by
 rcases List.mem_or_eq_of_mem_set hd with h'|h'
 ·exact Nat.le_succ_of_le (h d h')
 ·rw [h'];exact hx
theorem a0j {N:Nat} {D:List Bnd} (h:∀ d∈D,d.l8.length≤N) {x:Bnd} (hx:x.l8.length≤N+1):∀ d∈D ++ [x],d.l8.length≤N+1:=fun d hd=>by
 rcases List.mem_append.1 hd with h'|h'
 ·exact Nat.le_succ_of_le (h d h')
 ·rw [List.mem_singleton.1 h'];exact hx
theorem a9c (w:Value) (d:m6) (b:O4) (t:Tag) (N:Nat) (hd:H6 d) (hb:Tb N b) (hN:N≤1000):F5 gl prog 11 [.v b,dk w,.v t] [.ob w d] (fun r Hs=>∃ y:O4,Tb (N+1) y∧∃ d',H6 d'∧r = .v y∧Hs = [.ob w d']):=by
 obtain⟨hb1,hb2,hb3,hb4⟩:=hb
 refine F5.Q4 func11 rfl (by kernel_rfl) 164 rfl rfl _ rfl _ rfl fun C hC hG => ?_
 refine .q 1 hG ?_
 refine .c23 0 (fun uc ud => .v (Z0 b uc ud)) (b9l b) a8 fun uc ud => ?_
 refine .q 2 hG fun b3 => ?_
 refine .q 1 hG fun b5 => ?_
 refine .q 1 hG fun b6 => ?_
 refine .q 3 hG ?_
 refine .h (.buildSlice (α:=m9) a0n underlying24 .nil a8 (by decide) fun b11 => .p (.B0 m8.l3 Z8 a8 (.t a8) (.p (.ldR (fun x=>x.j7) a4j (.t a8) .z3 (fun _=>a8) (.h (.append b9Z (.inl ⟨_,underlying24⟩) a8 .z (.v (.fzA a8 .z4)) (by simp<;>omega) (by simp<;>omega) (fun w14 => .p (.B0 m8.l3 Z8 a8 (.t a8) (.n (.stF (fun y x => { x with j7:=y }) a4j (.t a8) (.b3K a8 .z) .z3 (fun _ _=>a8) ?_)))) a8))))))
 refine .q 3 hG ?_
 refine .h (.buildSlice (α:=p8) Z1 underlying27 .nil a8 (by decide) fun b16 => .p (.B0 m8.l5 V5 a8 (.t a8) (.p (.ldR (fun x=>x.j3) a3N (.t a8) .z4 (fun _=>a8) (.h (.append c1W (.inl ⟨_,underlying27⟩) a8 .z (.v (.fzA a8 .z6)) (by simp<;>omega) (by simp<;>omega) (fun w19 => .p (.B0 m8.l5 V5 a8 (.t a8) (.n (.stF (fun y x => { x with j3:=y }) a3N (.t a8) (.b3K a8 .z) .z4 (fun _ _=>a8) ?_)))) a8))))))
 refine .q 2 hG ?_
 have hcl:([]++b.j7).length=b.j7.length:=rfl
 have hdl:([]++b.j3).length=b.j3.length:=rfl
 refine .q 1 hG ?_
 refine .p (.B0 m8.l3 Z8 a8 (.t a8) (.p (.ldR (fun x=>x.j7) a4j (.t a8) .z4 (fun _=>a8) (.p (.a4y underlying24 a8 .z1 (.ag a8 ?_))))))
 refine .q 3 hG ?_
 refine .p (.B0 m8.l5 V5 a8 (.t a8) (.p (.ldR (fun x=>x.j3) a3N (.t a8) .z4 (fun _=>a8) (.p (.a4y underlying27 a8 .z ?_)))))
 refine .q 6 hG ?_
 refine .h (.C6 hG (G1 _ _ _ (by first|assumption|exact x9 _) (by omega) (by omega)) .z7 (.cons (.t a8) (.cons (.i a8) .nil)) (by rintro _ _ ⟨_,_,_,_,_,_,rfl⟩;exact⟨_,rfl⟩) fun r28 B28 hr28 => ?_)
 obtain⟨v28,d28,h028,h128,hd28,rfl,hB⟩:=hr28
 cases hB
 refine .q 8 hG ⟨fun hc29 => ?_,fun hc29 => ?_⟩
 ·have hrn:(Z0 b uc ud).Request.E5=b.Request.E5:=rfl
  refine .q 1 hG ?_
  refine .p (.B0 m8.l0 b3h a8 (.t a8) (.p (.b9Q p9.l1 b0c a8 (.t a8) (.p (.ldF (fun x=>x.Request.E5) R3 (.t a8) .z4 (fun _=>a8) (.p (.add (.t a8) (.i a8) (by simp<;>omega) (by simp<;>omega) (.p (.B0 m8.l0 b3h a8 (.t a8) (.p (.b9Q p9.l1 b0c a8 (.t a8) ?_)))))))))))
  refine .n (.stF (fun y x => { x with Request.E5:=y }) R3 (.t a8) (.t a8) .z4 (fun _ _=>a8) ?_)
  refine .q 2 hG ?_
  refine .u0 hC .z1 (.u0 hC .z (.a3s .z4 (fun n0 I L hr cs hc=>K9 hc (u4.fz .z1 hr) (u4.fz .z hr)) (.conv 3 (.ln (ptr b3 0) (l9.id (α:=O4))) a8 (fun _ _ _ _ _ h=>h) ?_)))
  refine .q 5 hG ?_
  refine⟨_,.r1 a8 (.cell U9 a8 .z2),?_⟩
  refine⟨_,.cons .z7 (.nil),?_⟩
  exact⟨_,⟨by first|simpa [C8] using Nat.le_succ_of_le hb1|(simp [C8];omega),by first|simpa [C8] using Nat.le_succ_of_le hb2|(simp [C8];omega),by first|exact U2 hb3|exact U3 hb3 _|exact a0j hb3 (Nat.zero_le _)|exact I8 hb3 (by have hq:=hce;exact Nat.le_succ_of_le hq)|exact I8 hb3 (by have hq:=hcd;show(([]++_) ++ [_]).length≤_;rw [List.nil_append,List.length_append];exact Nat.succ_le_succ hq),by first|(simp [C8,Z0];omega)⟩,_,by assumption,rfl,rfl⟩
 ·refine .q 6 hG ⟨fun hc37 => ?_,fun hc37 => ?_⟩
  ·refine .q 2 hG ?_
   refine .h (.C6 hG (a6v _ _ _ _ (by first|assumption|exact x9 _) (by omega) (by omega) (by omega)) .z7 (.cons (.t a8) (.cons (.i a8) (.cons (.i a8) .nil))) (by rintro _ _ ⟨_,_,_,_,_,_,rfl⟩;exact⟨_,rfl⟩) fun r40 B40 hr40 => ?_)
   obtain⟨v40,d40,h040,h140,hd40,rfl,hB⟩:=hr40
   cases hB
   refine .p (.B0 m8.l1 b7r a8 (.t a8) (.n (.stF (fun y x => { x with C7:=y }) R3 (.t a8) (.t a8) .z4 (fun _ _=>a8) ?_)))
   refine .q 2 hG ?_
   refine .u0 hC .z1 (.u0 hC .z (.a3s .z4 (fun n0 I L hr cs hc=>K9 hc (u4.fz .z1 hr) (u4.fz .z hr)) (.conv 3 (.ln (ptr b3 0) (l9.id (α:=O4))) a8 (fun _ _ _ _ _ h=>h) ?_)))
   refine .q 5 hG ?_
   refine⟨_,.r1 a8 (.cell U9 a8 .z2),?_⟩
   refine⟨_,.cons .z7 (.nil),?_⟩
   exact⟨_,⟨by first|simpa [C8] using Nat.le_succ_of_le hb1|(simp [C8];omega),by first|simpa [C8] using Nat.le_succ_of_le hb2|(simp [C8];omega),by first|exact U2 hb3|exact U3 hb3 _|exact a0j hb3 (Nat.zero_le _)|exact I8 hb3 (by have hq:=hce;exact Nat.le_succ_of_le hq)|exact I8 hb3 (by have hq:=hcd;show(([]++_) ++ [_]).length≤_;rw [List.nil_append,List.length_append];exact Nat.succ_le_succ hq),by first|(simp [C8,Z0];omega)⟩,_,by assumption,rfl,rfl⟩
  ·refine .q 6 hG ⟨fun hc42 => ?_,fun hc42 => ?_⟩
   ·refine .q 2 hG ?_
    refine .h (.C6 hG (a6v _ _ _ _ (by first|assumption|exact x9 _) (by omega) (by omega) (by omega)) .z7 (.cons (.t a8) (.cons (.i a8) (.cons (.i a8) .nil))) (by rintro _ _ ⟨_,_,_,_,_,_,rfl⟩;exact⟨_,rfl⟩) fun r45 B45 hr45 => ?_)
    obtain⟨v45,d45,h045,h145,hd45,rfl,hB⟩:=hr45
    cases hB
    refine .p (.B0 m8.l2 b3i a8 (.t a8) (.n (.stF (fun y x => { x with y7:=y }) R3 (.t a8) (.t a8) .z4 (fun _ _=>a8) ?_)))
    refine .q 2 hG ?_
    refine .u0 hC .z1 (.u0 hC .z (.a3s .z4 (fun n0 I L hr cs hc=>K9 hc (u4.fz .z1 hr) (u4.fz .z hr)) (.conv 3 (.ln (ptr b3 0) (l9.id (α:=O4))) a8 (fun _ _ _ _ _ h=>h) ?_)))
    refine .q 5 hG ?_
    refine⟨_,.r1 a8 (.cell U9 a8 .z2),?_⟩
    refine⟨_,.cons .z7 (.nil),?_⟩
    exact⟨_,⟨by first|simpa [C8] using Nat.le_succ_of_le hb1|(simp [C8];omega),by first|simpa [C8] using Nat.le_succ_of_le hb2|(simp [C8];omega),by first|exact U2 hb3|exact U3 hb3 _|exact a0j hb3 (Nat.zero_le _)|exact I8 hb3 (by have hq:=hce;exact Nat.le_succ_of_le hq)|exact I8 hb3 (by have hq:=hcd;show(([]++_) ++ [_]).length≤_;rw [List.nil_append,List.length_append];exact Nat.succ_le_succ hq),by first|(simp [C8,Z0];omega)⟩,_,by assumption,rfl,rfl⟩
   ·refine .q 6 hG ⟨fun hc47 => ?_,fun hc47 => ?_⟩
    ·refine .q 1 hG ?_
     refine .p (.T1 A5 (.t a8) .z3 (.p (.B0 m8.l4 a8u a8 (.t a8) (.n (.stF (fun y x => { x with Proof:=y }) A5 (.t a8) (.t a8) .z4 (fun _ _=>a8) ?_)))))
     refine .q 2 hG ?_
     refine .u0 hC .z1 (.u0 hC .z (.a3s .z4 (fun n0 I L hr cs hc=>K9 hc (u4.fz .z1 hr) (u4.fz .z hr)) (.conv 3 (.ln (ptr b3 0) (l9.id (α:=O4))) a8 (fun _ _ _ _ _ h=>h) ?_)))
     refine .q 5 hG ?_
     refine⟨_,.r1 a8 (.cell U9 a8 .z2),?_⟩
     refine⟨_,.cons .z7 (.nil),?_⟩
     exact⟨_,⟨by first|simpa [C8] using Nat.le_succ_of_le hb1|(simp [C8];omega),by first|simpa [C8] using Nat.le_succ_of_le hb2|(simp [C8];omega),by first|exact U2 hb3|exact U3 hb3 _|exact a0j hb3 (Nat.zero_le _)|exact I8 hb3 (by have hq:=hce;exact Nat.le_succ_of_le hq)|exact I8 hb3 (by have hq:=hcd;show(([]++_) ++ [_]).length≤_;rw [List.nil_append,List.length_append];exact Nat.succ_le_succ hq),by first|(simp [C8,Z0];omega)⟩,_,by assumption,rfl,rfl⟩
    ·refine .q 6 hG ⟨fun hc51 => ?_,fun hc51 => ?_⟩
     ·refine .u0 hC .z1 ?_
      refine .q 1 hG ?_
      refine .p (.B0 m8.l3 Z8 a8 (.t a8) (.p (.ldR (fun x=>x.j7) a4j (.t a8) .z4 (fun _=>a8) ?_)))
      refine .q 1 hG ?_
      refine .sb (by omega) (by omega) (.p (.b5Y (.t a8) (.i a8) (.p (.b6g a0n underlying24 (.fzA a8 .z1) (.t a8) (by omega) (by omega) (.name 58 a8 fun w58=>(.p (.B0 m8.l3 Z8 a8 (.t a8) (.n (.stF (fun y x => { x with j7:=y }) a4j (.t a8) (.vR a8 .z) .z5 (fun _ _=>a8) ?_)))))))))
      refine .q 2 hG ?_
      refine .u0 hC .z1 (.a3s .z5 (fun n0 I L hr cs hc=>K9 hc (u4.fz .z hr) (u4.fz .z1 hr)) (.conv 3 (.ln (ptr b3 0) (l9.id (α:=O4))) a8 (fun _ _ _ _ _ h=>h) ?_))
      refine .q 5 hG ?_
      refine⟨_,.r1 a8 (.cell U9 a8 .z3),?_⟩
      refine⟨_,.cons .z8 (.nil),?_⟩
      exact⟨_,⟨by first|simpa [C8] using Nat.le_succ_of_le hb1|(simp [C8];omega),by first|simpa [C8] using Nat.le_succ_of_le hb2|(simp [C8];omega),by first|exact U2 hb3|exact U3 hb3 _|exact a0j hb3 (Nat.zero_le _)|exact I8 hb3 (by have hq:=hce;exact Nat.le_succ_of_le hq)|exact I8 hb3 (by have hq:=hcd;show(([]++_) ++ [_]).length≤_;rw [List.nil_append,List.length_append];exact Nat.succ_le_succ hq),by first|(simp [C8,Z0];omega)⟩,_,by assumption,rfl,rfl⟩
     ·refine .q 6 hG ⟨fun hc60 => ?_,fun hc60 => ?_⟩
      ·refine .E0 [j1,j0,j1,j1,j1,j1,j1,j0] (by kernel_rfl) 7 [[],[(62,0)],[],[(64,2)],[(65,3)],[(63,1),(66,4)],[]] [3,4,5] a8 (by kernel_rfl) a8 (by kernel_rfl) (by decide) ?_
       refine⟨_,fun H=>j6.B0 m8.l3 Z8 a8 (.t a8) a8,?_⟩
       refine⟨_,fun H=>j6.ldR (fun x=>x.j7) a4j (.t a8) (u4.app .z4) (fun _=>a8) a8,?_⟩
       refine⟨_,fun H=>j6.move (.t a8) a8,?_⟩
       refine .inl (.inl (.inl ?_))
       refine⟨_,fun H=>j6.B0 m8.l3 Z8 a8 (.t a8) a8,?_⟩
       refine⟨⟨([],j2 [c8,_,c8,c8,c8,c8,c8,_]),a8⟩,?_⟩
       refine A6.C6 hG (a5C _ _ (by assumption)) .z7 (.cons (.t rfl) .nil) (by rintro _ _ ⟨_,_,_,_,rfl⟩;exact⟨_,rfl⟩) fun r65 B65 hr65 => ?_
       obtain⟨c65,d65,hd65,rfl,hB⟩:=hr65
       cases hB
       refine⟨⟨([],j2 [c8,_,c8,c8,c8,c8,c8,_]),a8⟩,?_⟩
       refine A6.ofP (j6.F1 (α:=m9) a0n underlying24 (.cons (.t rfl) .nil) rfl (by decide) ?_)
       refine⟨⟨([],j2 [c8,_,c8,c8,c8,c8,c8,_]),a8⟩,?_⟩
       refine A6.append b9Z (.inl ⟨_,underlying24⟩) rfl .z1 (.v (.c rfl)) (by simp<;>omega) (by simp<;>omega) (fun w67 => ?_) rfl
       refine⟨⟨([],j2 [c8,_,c8,c8,c8,c8,c8,_]),a8⟩,?_⟩
       show D6 _ _ _ _ _ [_] ((68,_)::(67,_)::(66,_)::(65,_)::(64,_)::(63,_)::(62,_)::_) _
       refine .n (.stF (fun y x => { x with j7:=y }) a4j (.t a8) (.b3K a8 .z1) .z4 (fun _ _=>a8) ?_)
       refine .q 2 hG ?_
       refine .u0 hC .z1 (.u0 hC .z (.a3s .z4 (fun n0 I L hr cs hc=>K9 hc (u4.fz .z1 hr) (u4.fz .z hr)) (.conv 3 (.ln (ptr b3 0) (l9.id (α:=O4))) a8 (fun _ _ _ _ _ h=>h) ?_)))
       refine .q 5 hG ?_
       refine⟨_,.r1 a8 (.cell U9 a8 .z2),?_⟩
       refine⟨_,.cons .z7 (.nil),?_⟩
       exact⟨_,⟨by first|simpa [C8] using Nat.le_succ_of_le hb1|(simp [C8];omega),by first|simpa [C8] using Nat.le_succ_of_le hb2|(simp [C8];omega),by first|exact U2 hb3|exact U3 hb3 _|exact a0j hb3 (Nat.zero_le _)|exact I8 hb3 (by have hq:=hce;exact Nat.le_succ_of_le hq)|exact I8 hb3 (by have hq:=hcd;show(([]++_) ++ [_]).length≤_;rw [List.nil_append,List.length_append];exact Nat.succ_le_succ hq),by first|(simp [C8,Z0];omega)⟩,_,by assumption,rfl,rfl⟩
      ·refine .q 6 hG ⟨fun hc69 => ?_,fun hc69 => ?_⟩
       ·refine .q 6 hG ⟨fun hc72 => ?_,fun hc72 => ?_⟩
        ·refine .q 4 hG ?_
         refine .sb (by omega) (by omega) (.h (.C6 hG (G1 _ _ _ (by first|assumption|exact x9 _) (by omega) (by omega)) .z7 (.cons (.t a8) (.cons (.t a8) .nil)) (by rintro _ _ ⟨_,_,_,_,_,_,rfl⟩;exact⟨_,rfl⟩) fun r76 B76 hr76 => ?_))
         obtain⟨v76,d76,h076,h176,hd76,rfl,hB⟩:=hr76
         cases hB
         refine .q 2 hG ?_
         refine .a1a [[j1,j1,j1,j1,j1,j1,j1,j1],[j1,j1,j1,j1,j1,j1,j1,j1],[j1,j0,j1,j1,j1,j1,j1,j1],[j1,j0,j1,j1,j1,j1,j1,j1],[j1,j0,j1,j1,j1,j1,j1,j1]] [[j1,j1,j1,j1,j1,j1,j1,j1],[j1,j1,j1,j1,j1,j1,j1,j1],[j1,j1,j1,j1,j1,j1,j1,j1],[j1,j0,j1,j1,j1,j1,j1,j1],[j1,j0,j1,j1,j1,j1,j1,j1],[j1,j0,j1,j1,j1,j1,j1,j1],[j1,j0,j1,j1,j1,j1,j1,j1],[j1,j1,j1,j1,j1,j1,j1,j1],[j1,j1,j1,j1,j1,j1,j1,j1],[j1,j1,j1,j1,j1,j1,j1,j1],[j1,j1,j1,j1,j1,j1,j1,j1],[j1,j1,j1,j1,j1,j1,j1,j1],[j1,j1,j1,j1,j1,j1,j1,j1],[j1,j0,j1,j1,j1,j1,j1,j1],[j1,j0,j1,j1,j1,j1,j1,j1],[j1,j0,j1,j1,j1,j1,j1,j1],[j1,j1,j1,j1,j1,j1,j1,j1],[],[j1,j1,j1,j1,j1,j1,j1,j1],[],[],[]] [] [] 4 (by kernel_rfl) 22 [[],[(77,0)],[],[],[(80,3)],[],[(82,5)],[],[(84,7)],[],[(86,9)],[(85,8),(87,10)],[(88,11)],[],[(90,13)],[],[(91,14),(92,15)],[(93,16)],[(78,1),(79,2)],[(95,18),(89,12)],[(81,4),(83,6)],[(96,20),(94,17)]] [17,19,20,21] rfl (by kernel_rfl) rfl (by kernel_rfl) rfl (by decide) (by simp) (fun p hp=>by cases hp) (by kernel_rfl) rfl ?_
         refine⟨_,fun H=>j6.B0 m8.l3 Z8 a8 (.t a8) a8,?_⟩
         refine⟨_,fun H=>j6.ldR (fun x=>x.j7) a4j (.t a8) (u4.app .z4) (fun _=>a8) a8,?_⟩
         refine⟨_,fun H=>j6.move (.t a8) a8,?_⟩
         refine⟨_,fun H=>j6.B0 m8.l3 Z8 a8 (.t a8) a8,?_⟩
         refine⟨_,fun H=>j6.ldR (fun x=>x.j7) a4j (.t a8) (u4.app .z4) (fun _=>a8) a8,?_⟩
         refine⟨_,fun H=>j6.move (.t a8) a8,?_⟩
         refine⟨_,fun H=>j6.add (.t a8) (.i a8) (by omega) (by omega) a8,?_⟩
         refine⟨_,fun H=>j6.B0 m8.l3 Z8 a8 (.t a8) a8,?_⟩
         refine⟨_,fun H=>j6.ldR (fun x=>x.j7) a4j (.t a8) (u4.app .z4) (fun _=>a8) a8,?_⟩
         refine⟨_,fun H=>j6.move (.t a8) a8,?_⟩
         refine⟨_,fun H=>j6.add (.t a8) (.i a8) (by omega) (by omega) a8,?_⟩
         refine⟨_,fun H=>j6.X3 a0n underlying24 a8 (u4.app .z1) (.t a8) (by omega) (by omega) a8,?_⟩
         refine⟨_,fun H=>j6.b3z a0n (.t a8) (u4.app .z1) (by omega) a8,?_⟩
         refine⟨_,fun H=>j6.B0 m8.l3 Z8 a8 (.t a8) a8,?_⟩
         refine⟨_,fun H=>j6.ldR (fun x=>x.j7) a4j (.t a8) (u4.app .z4) (fun _=>a8) a8,?_⟩
         refine⟨_,fun H=>j6.move (.t a8) a8,?_⟩
         refine⟨_,fun H=>j6.X3 a0n underlying24 a8 (u4.app .z1) (.t a8) (by omega) (by omega) a8,?_⟩
         refine .inl ?_
         refine⟨_,fun H=>j6.X3 a0n underlying24 a8 (u4.app .z1) (.t a8) (by omega) (by omega) a8,?_⟩
         refine .inl (.inl (.inl ?_))
         refine⟨a8,?_⟩
         refine⟨⟨j2 [c8,c8,c8,c8,c8,c8,c8,c8],a8⟩,fun Ys21 => ?_⟩
         refine A6.ofP (j6.b3z a0n (.t rfl) (u4.app (u4.app .z1)) (by omega) ?_)
         refine⟨[],_,a8,?_⟩
         refine⟨⟨j2 [c8,c8,c8,c8,c8,c8,c8,c8],a8⟩,fun Ys21 => ?_⟩
         refine A6.b0y a0n (.t rfl) (.t rfl) (u4.app (u4.app .z1)) (by omega) ?_
         refine⟨[],_,a8,?_⟩
         refine⟨⟨j2 [c8,_,c8,c8,c8,c8,c8,c8],a8⟩,fun Ys21 => ?_⟩
         refine A6.ofP (j6.X3 a0n underlying24 rfl (u4.app (u4.app .z1)) (.t rfl) (by omega) (by simp<;>omega) ?_)
         refine⟨[],_,a8,?_⟩
         refine⟨⟨j2 [c8,_,c8,c8,c8,c8,c8,c8],a8⟩,fun Ys21 => ?_⟩
         refine A6.b0y a0n (.t rfl) (.t rfl) (u4.app (u4.app .z1)) (by simp<;>omega) ?_
         refine⟨[],_,a8,?_⟩
         refine⟨⟨j2 [c8,_,c8,c8,c8,c8,c8,c8],a8⟩,fun ws21 => ?_⟩
         refine⟨⟨j2 [c8,_,c8,c8,c8,c8,c8,c8],a8⟩,fun _ => ?_⟩
         show D6 _ _ _ _ _ [] ((96,_)::(95,_)::(94,_)::(93,_)::(92,_)::(91,_)::(90,_)::(89,_)::(88,_)::(87,_)::(86,_)::(85,_)::(84,_)::(83,_)::(82,_)::(81,_)::(80,_)::(79,_)::(78,_)::(77,_)::_) _
         refine .q 2 hG ?_
         refine .u0 hC .z1 (.u0 hC .z (.a3s .z4 (fun n0 I L hr cs hc=>K9 hc (u4.fz .z1 hr) (u4.fz .z hr)) (.conv 3 (.ln (ptr b3 0) (l9.id (α:=O4))) a8 (fun _ _ _ _ _ h=>h) ?_)))
         refine .q 5 hG ?_
         refine⟨_,.r1 a8 (.cell U9 a8 .z2),?_⟩
         refine⟨_,.cons .z7 (.nil),?_⟩
         exact⟨_,⟨by first|simpa [C8] using Nat.le_succ_of_le hb1|(simp [C8];omega),by first|simpa [C8] using Nat.le_succ_of_le hb2|(simp [C8];omega),by first|exact U2 hb3|exact U3 hb3 _|exact a0j hb3 (Nat.zero_le _)|exact I8 hb3 (by have hq:=hce;exact Nat.le_succ_of_le hq)|exact I8 hb3 (by have hq:=hcd;show(([]++_) ++ [_]).length≤_;rw [List.nil_append,List.length_append];exact Nat.succ_le_succ hq),by first|(simp [C8,Z0];omega)⟩,_,by assumption,rfl,rfl⟩
        ·refine .q 2 hG ?_
         refine .u0 hC .z1 (.u0 hC .z (.a3s .z4 (fun n0 I L hr cs hc=>K9 hc (u4.fz .z1 hr) (u4.fz .z hr)) (.conv 3 (.ln (ptr b3 0) (l9.id (α:=O4))) a8 (fun _ _ _ _ _ h=>h) ?_)))
         refine .q 5 hG ?_
         refine⟨_,.r1 a8 (.cell U9 a8 .z2),?_⟩
         refine⟨_,.cons .z7 (.nil),?_⟩
         exact⟨_,⟨by first|simpa [C8] using Nat.le_succ_of_le hb1|(simp [C8];omega),by first|simpa [C8] using Nat.le_succ_of_le hb2|(simp [C8];omega),by first|exact U2 hb3|exact U3 hb3 _|exact a0j hb3 (Nat.zero_le _)|exact I8 hb3 (by have hq:=hce;exact Nat.le_succ_of_le hq)|exact I8 hb3 (by have hq:=hcd;show(([]++_) ++ [_]).length≤_;rw [List.nil_append,List.length_append];exact Nat.succ_le_succ hq),by first|(simp [C8,Z0];omega)⟩,_,by assumption,rfl,rfl⟩
       ·refine .q 6 hG ⟨fun hc97 => ?_,fun hc97 => ?_⟩
        ·refine .q 6 hG ⟨fun hc100 => ?_,fun hc100 => ?_⟩
         ·refine .E0 [j1,j1,j1,j1,j1,j1,j1,j0] (by kernel_rfl) 8 [[],[(101,0)],[],[],[(103,2),(104,3)],[],[(106,5)],[(102,1),(105,4)]] [4,6,7] a8 (by kernel_rfl) a8 (by kernel_rfl) (by decide) ?_
          refine⟨_,fun H=>j6.B0 m8.l3 Z8 a8 (.t a8) a8,?_⟩
          refine⟨_,fun H=>j6.ldR (fun x=>x.j7) a4j (.t a8) (u4.app .z4) (fun _=>a8) a8,?_⟩
          refine⟨_,fun H=>j6.move (.t a8) a8,?_⟩
          refine⟨_,fun H=>j6.move (.t a8) a8,?_⟩
          refine .inl ?_
          refine⟨_,fun H=>j6.move (.t a8) a8,?_⟩
          refine .inl (.inl ?_)
          refine⟨⟨([],j2 [c8,c8,c8,c8,c8,c8,c8,_]),a8⟩,?_⟩
          refine A6.C6 hG (G1 _ _ _ (by first|assumption|exact x9 _) (by omega) (by omega)) .z7 (.cons (.t rfl) (.cons (.t rfl) .nil)) (by rintro _ _ ⟨_,_,_,_,_,_,rfl⟩;exact⟨_,rfl⟩) fun r105 B105 hr105 => ?_
          obtain⟨v105,d105,h0105,h1105,hd105,rfl,hB⟩:=hr105
          cases hB
          refine⟨⟨([],j2 [c8,c8,c8,c8,c8,c8,c8,_]),a8⟩,?_⟩
          refine A6.C6 hG (a5C _ _ (by assumption)) .z7 (.cons (.t rfl) .nil) (by rintro _ _ ⟨_,_,_,_,rfl⟩;exact⟨_,rfl⟩) fun r107 B107 hr107 => ?_
          obtain⟨c107,d107,hd107,rfl,hB⟩:=hr107
          cases hB
          refine⟨⟨([],j2 [c8,c8,c8,c8,c8,c8,c8,_]),a8⟩,?_⟩
          refine A6.ofP (j6.X3 a0n underlying24 rfl .z1 (.t rfl) (by omega) (by omega) ?_)
          refine⟨⟨([],j2 [c8,c8,c8,c8,c8,c8,c8,_]),a8⟩,?_⟩
          show D6 _ _ _ _ _ [_] ((108,_)::(107,_)::(106,_)::(105,_)::(104,_)::(103,_)::(102,_)::(101,_)::_) _
          refine .n (.b0y a0n (.t a8) (.t a8) .z1 (by omega) ?_)
          refine .q 2 hG ?_
          refine .u0 hC .z1 (.u0 hC .z (.a3s .z4 (fun n0 I L hr cs hc=>K9 hc (u4.fz .z1 hr) (u4.fz .z hr)) (.conv 3 (.ln (ptr b3 0) (l9.id (α:=O4))) a8 (fun _ _ _ _ _ h=>h) ?_)))
          refine .q 5 hG ?_
          refine⟨_,.r1 a8 (.cell U9 a8 .z2),?_⟩
          refine⟨_,.cons .z7 (.nil),?_⟩
          exact⟨_,⟨by first|simpa [C8] using Nat.le_succ_of_le hb1|(simp [C8];omega),by first|simpa [C8] using Nat.le_succ_of_le hb2|(simp [C8];omega),by first|exact U2 hb3|exact U3 hb3 _|exact a0j hb3 (Nat.zero_le _)|exact I8 hb3 (by have hq:=hce;exact Nat.le_succ_of_le hq)|exact I8 hb3 (by have hq:=hcd;show(([]++_) ++ [_]).length≤_;rw [List.nil_append,List.length_append];exact Nat.succ_le_succ hq),by first|(simp [C8,Z0];omega)⟩,_,by assumption,rfl,rfl⟩
         ·refine .q 2 hG ?_
          refine .u0 hC .z1 (.u0 hC .z (.a3s .z4 (fun n0 I L hr cs hc=>K9 hc (u4.fz .z1 hr) (u4.fz .z hr)) (.conv 3 (.ln (ptr b3 0) (l9.id (α:=O4))) a8 (fun _ _ _ _ _ h=>h) ?_)))
          refine .q 5 hG ?_
          refine⟨_,.r1 a8 (.cell U9 a8 .z2),?_⟩
          refine⟨_,.cons .z7 (.nil),?_⟩
          exact⟨_,⟨by first|simpa [C8] using Nat.le_succ_of_le hb1|(simp [C8];omega),by first|simpa [C8] using Nat.le_succ_of_le hb2|(simp [C8];omega),by first|exact U2 hb3|exact U3 hb3 _|exact a0j hb3 (Nat.zero_le _)|exact I8 hb3 (by have hq:=hce;exact Nat.le_succ_of_le hq)|exact I8 hb3 (by have hq:=hcd;show(([]++_) ++ [_]).length≤_;rw [List.nil_append,List.length_append];exact Nat.succ_le_succ hq),by first|(simp [C8,Z0];omega)⟩,_,by assumption,rfl,rfl⟩
        ·refine .q 6 hG ⟨fun hc109 => ?_,fun hc109 => ?_⟩
         ·refine .u0 hC .z ?_
          refine .q 1 hG ?_
          refine .p (.B0 m8.l5 V5 a8 (.t a8) (.p (.ldR (fun x=>x.j3) a3N (.t a8) .z4 (fun _=>a8) ?_)))
          refine .q 1 hG ?_
          refine .sb (by omega) (by omega) (.p (.b5Y (.t a8) (.i a8) (.p (.b6g Z1 underlying27 (.fzA a8 .z) (.t a8) (by omega) (by omega) (.name 116 a8 fun w116=>(.p (.B0 m8.l5 V5 a8 (.t a8) (.n (.stF (fun y x => { x with j3:=y }) a3N (.t a8) (.vR a8 .z) .z5 (fun _ _=>a8) ?_)))))))))
          refine .q 2 hG ?_
          refine .u0 hC .z2 (.a3s .z5 (fun n0 I L hr cs hc=>K9 hc (u4.fz .z2 hr) (u4.fz .z hr)) (.conv 3 (.ln (ptr b3 0) (l9.id (α:=O4))) a8 (fun _ _ _ _ _ h=>h) ?_))
          refine .q 5 hG ?_
          refine⟨_,.r1 a8 (.cell U9 a8 .z3),?_⟩
          refine⟨_,.cons .z8 (.nil),?_⟩
          exact⟨_,⟨by first|simpa [C8] using Nat.le_succ_of_le hb1|(simp [C8];omega),by first|simpa [C8] using Nat.le_succ_of_le hb2|(simp [C8];omega),by first|exact U2 hb3|exact U3 hb3 _|exact a0j hb3 (Nat.zero_le _)|exact I8 hb3 (by have hq:=hce;exact Nat.le_succ_of_le hq)|exact I8 hb3 (by have hq:=hcd;show(([]++_) ++ [_]).length≤_;rw [List.nil_append,List.length_append];exact Nat.succ_le_succ hq),by first|(simp [C8,Z0];omega)⟩,_,by assumption,rfl,rfl⟩
         ·refine .q 6 hG ⟨fun hc118 => ?_,fun hc118 => ?_⟩
          ·refine .q 6 hG ⟨fun hc121 => ?_,fun hc121 => ?_⟩
           ·refine .E0 [j1,j1,j1,j1,j1,j1,j1,j0] (by kernel_rfl) 8 [[],[(122,0)],[],[],[(124,2),(125,3)],[],[(123,1),(126,4)],[(128,6)]] [4,6,7] a8 (by kernel_rfl) a8 (by kernel_rfl) (by decide) ?_
            refine⟨_,fun H=>j6.B0 m8.l5 V5 a8 (.t a8) a8,?_⟩
            refine⟨_,fun H=>j6.ldR (fun x=>x.j3) a3N (.t a8) (u4.app .z4) (fun _=>a8) a8,?_⟩
            refine⟨_,fun H=>j6.move (.t a8) a8,?_⟩
            refine⟨_,fun H=>j6.move (.t a8) a8,?_⟩
            refine .inl ?_
            refine⟨_,fun H=>j6.T1 A5 (.t a8) (u4.app .z3) a8,?_⟩
            refine .inl (.inl ?_)
            refine⟨⟨([],j2 [c8,c8,c8,c8,c8,c8,c8,_]),a8⟩,?_⟩
            refine A6.C6 hG (G1 _ _ _ (by first|assumption|exact x9 _) (by omega) (by omega)) .z7 (.cons (.t rfl) (.cons (.t rfl) .nil)) (by rintro _ _ ⟨_,_,_,_,_,_,rfl⟩;exact⟨_,rfl⟩) fun r126 B126 hr126 => ?_
            obtain⟨v126,d126,h0126,h1126,hd126,rfl,hB⟩:=hr126
            cases hB
            refine⟨⟨([],j2 [c8,c8,c8,c8,c8,c8,c8,_]),a8⟩,?_⟩
            refine A6.ofP (j6.X3 Z1 underlying27 rfl .z (.t rfl) (by omega) (by omega) ?_)
            refine⟨⟨([],j2 [c8,c8,c8,c8,c8,c8,c8,_]),a8⟩,?_⟩
            refine A6.ofP (j6.c1K p8.l2 b7y rfl (.t rfl) ?_)
            refine⟨⟨([],j2 [c8,c8,c8,c8,c8,c8,c8,_]),a8⟩,?_⟩
            show D6 _ _ _ _ _ [_] ((129,_)::(128,_)::(127,_)::(126,_)::(125,_)::(124,_)::(123,_)::(122,_)::_) _
            refine .n (.stE A5 (.t a8) (.t a8) .z (by omega) ?_)
            have hce:=hb3 (b.j3[v126.toNat]'(by simp at * <;> omega)) (List.getElem_mem _)
            refine .q 2 hG ?_
            refine .u0 hC .z1 (.u0 hC .z (.a3s .z4 (fun n0 I L hr cs hc=>K9 hc (u4.fz .z1 hr) (u4.fz .z hr)) (.conv 3 (.ln (ptr b3 0) (l9.id (α:=O4))) a8 (fun _ _ _ _ _ h=>h) ?_)))
            refine .q 5 hG ?_
            refine⟨_,.r1 a8 (.cell U9 a8 .z2),?_⟩
            refine⟨_,.cons .z7 (.nil),?_⟩
            exact⟨_,⟨by first|simpa [C8] using Nat.le_succ_of_le hb1|(simp [C8];omega),by first|simpa [C8] using Nat.le_succ_of_le hb2|(simp [C8];omega),by first|exact U2 hb3|exact U3 hb3 _|exact a0j hb3 (Nat.zero_le _)|exact I8 hb3 (by have hq:=hce;exact Nat.le_succ_of_le hq)|exact I8 hb3 (by have hq:=hcd;show(([]++_) ++ [_]).length≤_;rw [List.nil_append,List.length_append];exact Nat.succ_le_succ hq),by first|(simp [C8,Z0];omega)⟩,_,by assumption,rfl,rfl⟩
           ·refine .q 2 hG ?_
            refine .u0 hC .z1 (.u0 hC .z (.a3s .z4 (fun n0 I L hr cs hc=>K9 hc (u4.fz .z1 hr) (u4.fz .z hr)) (.conv 3 (.ln (ptr b3 0) (l9.id (α:=O4))) a8 (fun _ _ _ _ _ h=>h) ?_)))
            refine .q 5 hG ?_
            refine⟨_,.r1 a8 (.cell U9 a8 .z2),?_⟩
            refine⟨_,.cons .z7 (.nil),?_⟩
            exact⟨_,⟨by first|simpa [C8] using Nat.le_succ_of_le hb1|(simp [C8];omega),by first|simpa [C8] using Nat.le_succ_of_le hb2|(simp [C8];omega),by first|exact U2 hb3|exact U3 hb3 _|exact a0j hb3 (Nat.zero_le _)|exact I8 hb3 (by have hq:=hce;exact Nat.le_succ_of_le hq)|exact I8 hb3 (by have hq:=hcd;show(([]++_) ++ [_]).length≤_;rw [List.nil_append,List.length_append];exact Nat.succ_le_succ hq),by first|(simp [C8,Z0];omega)⟩,_,by assumption,rfl,rfl⟩
          ·refine .q 6 hG ⟨fun hc130 => ?_,fun hc130 => ?_⟩
           ·refine .q 6 hG ⟨fun hc133 => ?_,fun hc133 => ?_⟩
            ·refine .q 4 hG ?_
             refine .h (.C6 hG (G1 _ _ _ (by first|assumption|exact x9 _) (by omega) (by omega)) .z7 (.cons (.t a8) (.cons (.t a8) .nil)) (by rintro _ _ ⟨_,_,_,_,_,_,rfl⟩;exact⟨_,rfl⟩) fun r136 B136 hr136 => ?_)
             obtain⟨v136,d136,h0136,h1136,hd136,rfl,hB⟩:=hr136
             cases hB
             refine .q 2 hG ?_
             have hcd:((l9.id.comp p8.l1).get (b.j3[v136.toNat]'(by simp at * <;> omega))).length≤N:=hb3 _ (List.getElem_mem _)
             refine .E0 [j1,j1,j1,j1,j1,j1,j1,j0] (by kernel_rfl) 17 [[],[(137,0)],[],[],[],[(141,4)],[],[(142,5),(143,6)],[(144,7)],[(145,8)],[(140,3),(146,9)],[],[(148,11)],[(149,12)],[(147,10),(150,13)],[(138,1),(139,2)],[(152,15)]] [3,10,12,13,14] a8 (by kernel_rfl) a8 (by kernel_rfl) (by decide) ?_
             refine⟨_,fun H=>j6.B0 m8.l5 V5 a8 (.t a8) a8,?_⟩
             refine⟨_,fun H=>j6.ldR (fun x=>x.j3) a3N (.t a8) (u4.app .z4) (fun _=>a8) a8,?_⟩
             refine⟨_,fun H=>j6.move (.t a8) a8,?_⟩
             refine .inl ?_
             refine⟨_,fun H=>j6.B0 m8.l5 V5 a8 (.t a8) a8,?_⟩
             refine⟨_,fun H=>j6.ldR (fun x=>x.j3) a3N (.t a8) (u4.app .z4) (fun _=>a8) a8,?_⟩
             refine⟨_,fun H=>j6.move (.t a8) a8,?_⟩
             refine⟨_,fun H=>j6.X3 Z1 underlying27 a8 (u4.app .z) (.t a8) (by omega) (by omega) a8,?_⟩
             refine⟨_,fun H=>j6.c1K p8.l1 a5O a8 (.t a8) a8,?_⟩
             refine⟨_,fun H=>j6.ldE a8L (.t a8) (u4.app .z) (by omega) a8,?_⟩
             refine .inl ?_
             refine⟨_,fun H=>j6.move (.t a8) a8,?_⟩
             refine .inl (.inl (.inl ?_))
             refine⟨_,fun H=>j6.X3 Z1 underlying27 a8 (u4.app .z) (.t a8) (by omega) (by omega) a8,?_⟩
             refine⟨_,fun H=>j6.c1K p8.l1 a5O a8 (.t a8) a8,?_⟩
             refine⟨⟨([],j2 [c8,c8,c8,c8,c8,c8,c8,_]),a8⟩,?_⟩
             refine A6.buildSlice (α:=j4) Q5 underlying83 .nil rfl (by decide) fun b140 => ?_
             refine⟨⟨([_],j2 [c8,c8,c8,c8,c8,c8,c8,_]),a8⟩,?_⟩
             refine A6.append b8g (.inl ⟨_,underlying83⟩) rfl .z (.v (.t rfl)) (by simp<;>omega) (by simp<;>omega) (fun w147 => ?_) rfl
             refine⟨⟨([_],j2 [c8,c8,c8,c8,c8,c8,c8,_]),a8⟩,?_⟩
             refine A6.C6 hG (R7 _ _ _ (by assumption)) .z8 (.cons (.t rfl) (.cons .b .nil)) (by rintro _ _ ⟨_,_,_,_,_,_,rfl⟩;exact⟨_,rfl⟩) fun r149 B149 hr149 => ?_
             obtain⟨p149,hp149,hk149,d149,hd149,rfl,hB⟩:=hr149
             cases hB
             refine⟨⟨([_],j2 [c8,c8,c8,c8,c8,c8,c8,_]),a8⟩,?_⟩
             refine A6.ofP (j6.F1 (α:=j4) Q5 underlying83 (.cons (.t rfl) .nil) rfl (by decide) ?_)
             refine⟨⟨([_],j2 [c8,c8,c8,c8,c8,c8,c8,_]),a8⟩,?_⟩
             refine A6.append b8g (.inl ⟨_,underlying83⟩) rfl .z (.v (.c rfl)) (by simp<;>omega) (by simp<;>omega) (fun w151 => ?_) rfl
             refine⟨⟨([_],j2 [c8,c8,c8,c8,c8,c8,c8,_]),a8⟩,?_⟩
             show D6 _ _ _ _ _ [_] ((153,_)::(152,_)::(151,_)::(150,_)::(149,_)::(148,_)::(147,_)::(146,_)::(145,_)::(144,_)::(143,_)::(142,_)::(141,_)::(140,_)::(139,_)::(138,_)::(137,_)::_) _
             refine .u0 hC .z (.as 151 a8 .z (.n (.stE a8L (.t a8) (.t a8) .z1 (by omega) ?_)))
             refine .q 2 hG ?_
             refine .u0 hC .z2 (.u0 hC .z1 (.a3s .z5 (fun n0 I L hr cs hc=>K9 hc (u4.fz .z2 hr) (u4.fz .z1 hr)) (.conv 3 (.ln (ptr b3 0) (l9.id (α:=O4))) a8 (fun _ _ _ _ _ h=>h) ?_)))
             refine .q 5 hG ?_
             refine⟨_,.r1 a8 (.cell U9 a8 .z3),?_⟩
             refine⟨_,.cons .z8 (.nil),?_⟩
             exact⟨_,⟨by first|simpa [C8] using Nat.le_succ_of_le hb1|(simp [C8];omega),by first|simpa [C8] using Nat.le_succ_of_le hb2|(simp [C8];omega),by first|exact U2 hb3|exact U3 hb3 _|exact a0j hb3 (Nat.zero_le _)|exact I8 hb3 (by have hq:=hce;exact Nat.le_succ_of_le hq)|exact I8 hb3 (by have hq:=hcd;show(([]++_) ++ [_]).length≤_;rw [List.nil_append,List.length_append];exact Nat.succ_le_succ hq),by first|(simp [C8,Z0];omega)⟩,_,by assumption,rfl,rfl⟩
            ·refine .q 2 hG ?_
             refine .u0 hC .z1 (.u0 hC .z (.a3s .z4 (fun n0 I L hr cs hc=>K9 hc (u4.fz .z1 hr) (u4.fz .z hr)) (.conv 3 (.ln (ptr b3 0) (l9.id (α:=O4))) a8 (fun _ _ _ _ _ h=>h) ?_)))
             refine .q 5 hG ?_
             refine⟨_,.r1 a8 (.cell U9 a8 .z2),?_⟩
             refine⟨_,.cons .z7 (.nil),?_⟩
             exact⟨_,⟨by first|simpa [C8] using Nat.le_succ_of_le hb1|(simp [C8];omega),by first|simpa [C8] using Nat.le_succ_of_le hb2|(simp [C8];omega),by first|exact U2 hb3|exact U3 hb3 _|exact a0j hb3 (Nat.zero_le _)|exact I8 hb3 (by have hq:=hce;exact Nat.le_succ_of_le hq)|exact I8 hb3 (by have hq:=hcd;show(([]++_) ++ [_]).length≤_;rw [List.nil_append,List.length_append];exact Nat.succ_le_succ hq),by first|(simp [C8,Z0];omega)⟩,_,by assumption,rfl,rfl⟩
           ·refine .q 6 hG ⟨fun hc154 => ?_,fun hc154 => ?_⟩
            ·refine .q 1 hG ?_
             refine .p (.B0 m8.l5 V5 a8 (.t a8) (.p (.ldR (fun x=>x.j3) a3N (.t a8) .z4 (fun _=>a8) ?_)))
             refine .bs a8 (by decide) fun b158=>(.u0 hC .z (.as 158 a8 .z (.p (.bS1 p8.l0 a8 Z1 b6b (fun c0=>(⟨c0,[],default⟩:p8)) (fun _=>a8) a8 a8 (.t a8) ?_))))
             refine .bs a8 (by decide) fun b160 => ?_
             refine .ap (by simp<;>omega) (by simp<;>omega) fun w161 => .p (.B0 m8.l5 V5 a8 (.t a8) (.n (.stF (fun y x => { x with j3:=y }) a3N (.t a8) (.b3K a8 .z2) .z6 (fun _ _=>a8) ?_)))
             refine .q 2 hG ?_
             refine .u0 hC .z3 (.u0 hC .z2 (.a3s .z6 (fun n0 I L hr cs hc=>K9 hc (u4.fz .z3 hr) (u4.fz .z2 hr)) (.conv 3 (.ln (ptr b3 0) (l9.id (α:=O4))) a8 (fun _ _ _ _ _ h=>h) ?_)))
             refine .q 5 hG ?_
             refine⟨_,.r1 a8 (.cell U9 a8 .z4),?_⟩
             refine⟨_,.cons .z9 (.nil),?_⟩
             exact⟨_,⟨by first|simpa [C8] using Nat.le_succ_of_le hb1|(simp [C8];omega),by first|simpa [C8] using Nat.le_succ_of_le hb2|(simp [C8];omega),by first|exact U2 hb3|exact U3 hb3 _|exact a0j hb3 (Nat.zero_le _)|exact I8 hb3 (by have hq:=hce;exact Nat.le_succ_of_le hq)|exact I8 hb3 (by have hq:=hcd;show(([]++_) ++ [_]).length≤_;rw [List.nil_append,List.length_append];exact Nat.succ_le_succ hq),by first|(simp [C8,Z0];omega)⟩,_,by assumption,rfl,rfl⟩
            ·refine .q 2 hG ?_
             refine .u0 hC .z1 (.u0 hC .z (.a3s .z4 (fun n0 I L hr cs hc=>K9 hc (u4.fz .z1 hr) (u4.fz .z hr)) (.conv 3 (.ln (ptr b3 0) (l9.id (α:=O4))) a8 (fun _ _ _ _ _ h=>h) ?_)))
             refine .q 5 hG ?_
             refine⟨_,.r1 a8 (.cell U9 a8 .z2),?_⟩
             refine⟨_,.cons .z7 (.nil),?_⟩
             exact⟨_,⟨by first|simpa [C8] using Nat.le_succ_of_le hb1|(simp [C8];omega),by first|simpa [C8] using Nat.le_succ_of_le hb2|(simp [C8];omega),by first|exact U2 hb3|exact U3 hb3 _|exact a0j hb3 (Nat.zero_le _)|exact I8 hb3 (by have hq:=hce;exact Nat.le_succ_of_le hq)|exact I8 hb3 (by have hq:=hcd;show(([]++_) ++ [_]).length≤_;rw [List.nil_append,List.length_append];exact Nat.succ_le_succ hq),by first|(simp [C8,Z0];omega)⟩,_,by assumption,rfl,rfl⟩
end Go.Proofs.YtmmclghiidoldaaGreatDoor
