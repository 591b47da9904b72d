/- Plain Lean over any program, and walks of this seat's functions: contracts, each proved once (part 5). -/
import Derived.Test.YtfdifhfnpbphaaaGreatDoorZ4
set_option maxRecDepth 1000000
set_option synthInstance.maxSize 1000000
set_option synthInstance.maxHeartbeats 10000000
set_option linter.unusedVariables false
set_option linter.unusedSimpArgs false
namespace Go.Proofs.YtfdifhfnpbphaaaGreatDoor
open Go.Proofs.Tryz
open Go.Fl Go.Ab Go.Mac Go.Sha
theorem c29 (x:UInt8):(x &&& 127).toNat=x.toNat % 128:=by rw [UInt8.toNat_and];exact Nat.and_two_pow_sub_one_eq_mod x.toNat 7
theorem b8U (x:UInt8)(k:Nat):((x &&& 127).toNat:Int)*2^(7*(k:Int)).toNat=((x.toNat % 128*2^(7*k):Nat):Int):=by
 rw [c29,show(7*(k:Int)).toNat=7*k by omega];push_cast;rfl
theorem c0i {x:UInt8}{k:Nat}(hk:k < 7):0≤((x &&& 127).toNat:Int)*2^(7*(k:Int)).toNat∧((x &&& 127).toNat:Int)*2^(7*(k:Int)).toNat≤9223372036854775807:=by
 rw [b8U]
 have h1:2^(7*k)≤2^42:=Nat.pow_le_pow_right (by decide) (by omega)
 have h2:x.toNat % 128≤127:=by omega
 have h3:x.toNat % 128*2^(7*k)≤127*2^42:=Nat.mul_le_mul h2 h1
 constructor
 ·omega
 ·omega
theorem c78 {b:List UInt8}{k:Nat}(hl:k < b.length):(((((a19 (b.take k):Nat):Int).toNat ||| (((b[k] &&& 127).toNat:Int)*2^(7*(k:Int)).toNat).toNat:Nat)):Int)=((a19 (b.take (k+1)):Nat):Int):=by
 rw [b8U,Int.toNat_natCast,Int.toNat_natCast,List.take_succ_eq_append_getElem hl,b1Y]
 have h1:=b3i (b.take k)
 rw [show(b.take k).length=k by rw [List.length_take];omega] at h1 ⊢
 rw [show(128:Nat)^k=2^(7*k) by rw [Nat.pow_mul]] at h1 ⊢
 rw [Nat.or_comm,Nat.mul_comm (b[k].toNat % 128),←Nat.two_pow_add_eq_or_of_lt h1]
 congr 1;omega
theorem b3j (b:List UInt8):C4 gl prog 205 [.v b] (fun r=>r = .t3 (.v (I6 b).1) (.v (I6 b).2.1) (.v (I6 b).2.2)):=by
 refine C4.jn func205 (by kernel_rfl) 48 rfl fun C hC hG => ?_
 refine .q 6 hG ?_
 refine .scope ?_
 refine .q 1 hG ?_
 refine .a4I 0 j0 fun hl0 => ?_
 refine .q 5 hG ?_
 refine .label ?_
 refine .q 2 hG ?_
 refine .a0Y (α:=Nat) [(0,_)] (fun k R=>(5,.v ((a19 (b.take k):Nat):Int))::(6,.v (k:Int))::R) (fun k => []) (fun k=>k≤7∧k≤b.length∧∀ j (hj:j < b.length),j < k→decide (127 < b[j])=true) (fun k=>7 - k) (0) (.cons j0 (.nil _)) ?_ (.c2 j0 j0 (.cons j0 (.nil _))) (j0) fun k hF => ?_
 ·simp
 obtain⟨h1,h2,h3⟩:=hF
 refine .q 10 hG ⟨fun hc7 => ?_,fun hc7 => ?_⟩
 ·refine .q 7 hG ?_
  refine⟨_,.r3 j0 (.tmp j0) (.tmp j0) (.tmp j0),?_⟩
  have e:I6 b=(0,0,5):=(by have hcl:U4 b=k:=a7p h1 h2 h3 (.inl (by omega));unfold I6;rw [if_pos (by omega)])
  rw [e]
 ·refine .q 9 hG ⟨fun hc10 => ?_,fun hc10 => ?_⟩
  ·refine .q 7 hG ?_
   refine⟨_,.r3 j0 (.tmp j0) (.tmp j0) (.tmp j0),?_⟩
   have e:I6 b=(0,0,3):=(by have hcl:U4 b=k:=a7p h1 h2 h3 (.inr (.inl (by omega)));unfold I6;rw [if_neg (by omega),if_pos (by omega)])
   rw [e]
  ·refine .q 2 hG ?_
   have hlt1:k < b.length:=(by omega)
   have hlt2:k < 7:=(by omega)
   have hgb:=c0i (x:=b[k]) hlt2
   have hvl:=b3i (b.take k)
   refine .q 4 hG ?_
   refine .ix (by first|omega|(simp;done)|(simp;omega)|(simp at *;omega)) (by first|omega|(simp;done)|(simp;omega)|(simp at *;omega)) ?_
   simp only [Int.toNat_natCast]
   refine .q 2 hG ?_
   refine .p (.c13 underlying5 underlying3 (.t j0) ?_)
   refine .q 1 hG ?_
   refine .p (.mul (.i j0) (.t j0) (by first|omega|(simp;done)|(simp;omega)|(simp at *;omega)) (by first|omega|(simp;done)|(simp;omega)|(simp at *;omega)) (.p (.d2X (.t j0) (.t j0) (by omega) (by omega) hgb.1 hgb.2 (.p (.orI (.t j0) (.t j0) (by omega) hgb.1 ?_)))))
   refine .q 3 hG ?_
   rw [c78 hlt1]
   refine .q 2 hG ?_
   refine .ad (by first|omega|(simp;done)|(simp;omega)|(simp at *;omega)) (by first|omega|(simp;done)|(simp;omega)|(simp at *;omega)) ?_
   refine .q 6 hG ?_
   refine .sb (by first|omega|(simp;done)|(simp;omega)|(simp at *;omega)) (by first|omega|(simp;done)|(simp;omega)|(simp at *;omega)) ?_
   refine .ix (by first|omega|(simp;done)|(simp;omega)|(simp at *;omega)) (by first|omega|(simp;done)|(simp;omega)|(simp at *;omega)) ?_
   refine .q 4 hG ⟨fun hc33 => ?_,fun hc33 => ?_⟩
   ·refine .q 3 hG ?_
    have hx8:b[k].toNat < 128:=(by have e:((k:Int)+1 - 1).toNat=k:=(by omega);have h9:=UInt8.lt_iff_toNat_lt.1 hc33;simp only [e] at h9;exact h9)
    have hcl:U4 b=k:=a7p h1 h2 h3 (.inr (.inr ⟨hlt1,decide_eq_false fun h=>by have h9:=UInt8.lt_iff_toNat_lt.1 h;have h10:(127:UInt8).toNat=127:=rfl;omega⟩))
    refine .q 6 hG ?_
    refine .go 36 j0 (.t j0) (fun hg39 => .sub (.q j0 hg39) (.i j0) (by first|omega|(simp;done)|(simp;omega)|(have:=hg39;simp at this;omega)) (by first|omega|(simp;done)|(simp;omega)|(have:=hg39;simp at this;omega)) j0) (.go 36 j0 (.t j0) (fun hg40 => .idx ty5 underlying34 (.q j0 hg40) (.q j0 hg40) (by first|omega|(simp;done)|(simp;omega)|(have:=hg40;simp at this;omega)) (by first|omega|(simp;done)|(simp;omega)|(have:=hg40;simp at this;omega)) j0) ?_)
    refine .q 4 hG ?_
    refine .cond (.t j0) (fun hc43 => ?_) (fun hc43 => ?_)
    ·refine .q 7 hG ?_
     refine⟨_,.r3 j0 (.tmp j0) (.tmp j0) (.tmp j0),?_⟩
     have e:I6 b=(0,0,5):=(by unfold I6;rw [if_neg (by omega),if_neg (by omega),if_pos (by rw [hcl];simp only [Bool.and_eq_true,decide_eq_true_eq] at hc43 ⊢;refine⟨by omega,?_⟩;rw [List.getD_eq_getElem?_getD,List.getElem?_eq_getElem hlt1];have e2:((k:Int)+1 - 1).toNat=k:=(by omega);have h9:=hc43.2;simp only [e2] at h9;exact h9)])
     rw [e]
    ·refine .q 3 hG ?_
     have hcz:¬(decide (0 < U4 b)&&decide (b.getD (U4 b) 0=0))=true:=(by rw [hcl];intro h9;simp only [Bool.and_eq_true,decide_eq_true_eq] at h9;rw [List.getD_eq_getElem?_getD,List.getElem?_eq_getElem hlt1] at h9;have e2:((k:Int)+1 - 1).toNat=k:=(by omega);rw [decide_eq_true (show(k:Int)+1>1 by omega),Bool.true_and,decide_eq_false_iff_not] at hc43;simp only [e2] at hc43;exact hc43 h9.2)
     refine .q 5 hG ⟨fun hc45 => ?_,fun hc45 => ?_⟩
     ·refine .q 7 hG ?_
      refine⟨_,.r3 j0 (.tmp j0) (.tmp j0) (.tmp j0),?_⟩
      have e:I6 b=(0,0,1):=(by unfold I6;rw [if_neg (by omega),if_neg (by omega),if_neg hcz,hcl,if_pos (by omega)])
      rw [e]
     ·refine .q 10 hG ?_
      refine⟨_,.r3 j0 (.tmp j0) (.tmp j0) (.tmp j0),?_⟩
      have e:I6 b=((a19 (b.take (k+1)):Int),(k:Int)+1,0):=(by unfold I6;rw [if_neg (by omega),if_neg (by omega),if_neg hcz,hcl,if_neg (by omega)])
      rw [e]
   ·refine .q 1 hG ?_
    refine⟨k+1,.c2 rfl rfl (.cons rfl (.nil _)),rfl,?_,by omega⟩
    refine⟨by omega,by omega,fun j hj hjk => ?_⟩;rcases Nat.lt_or_ge j k with h|h;exact h3 j hj h;(obtain rfl:j=k:=by omega);exact decide_eq_true (UInt8.lt_iff_toNat_lt.2 (by have e2:((j:Int)+1 - 1).toNat=j:=(by omega);have h8:=hc33;simp only [e2] at h8;have h9:¬b[j].toNat < 128:=fun h=>h8 (UInt8.lt_iff_toNat_lt.2 h);show 127 < b[j].toNat;omega))
theorem b8V (b:List UInt8)(hb:b.length≤1000000):C4 gl prog 308 [.v b] (fun r=>r = .t3 (.v (Q4 b).1) (.v (Q4 b).2.1) (.v (Q4 b).2.2)):=by
 have hu:=a1g b
 refine C4.jn func308 (by kernel_rfl) 38 rfl fun C hC hG => ?_
 refine .q 9 hG ?_
 refine .k hG (b3j _) ?_
 refine .q 17 hG ⟨fun hc14 => ?_,fun hc14 => ?_⟩
 ·refine .q 8 hG ?_
  refine⟨_,.r3 j0 (.tmp j0) (.tmp j0) (.tmp j0),?_⟩
  have e:Q4 b=([],0,(I6 b).2.2):=if_pos hc14
  rw [e]
 ·refine .q 7 hG ⟨fun hc18 => ?_,fun hc18 => ?_⟩
  ·refine .q 7 hG ?_
   refine⟨_,.r3 j0 (.tmp j0) (.tmp j0) (.tmp j0),?_⟩
   have e:Q4 b=([],0,2):=(by unfold Q4;rw [if_neg hc14,if_pos hc18])
   rw [e]
  ·refine .q 1 hG ?_
   have hn0:0≤(I6 b).1:=(a7r (b:=b) (v:=(I6 b).1) (k:=(I6 b).2.1) (by rw [←Decidable.not_not.1 hc14])).1
   refine .q 5 hG ?_
   refine .sb (by first|omega|(simp;done)|(simp;omega)|(simp at *;omega)) (by first|omega|(simp;done)|(simp;omega)|(simp at *;omega)) ?_
   refine .q 4 hG ⟨fun hc21 => ?_,fun hc21 => ?_⟩
   ·refine .q 7 hG ?_
    refine⟨_,.r3 j0 (.tmp j0) (.tmp j0) (.tmp j0),?_⟩
    have e:Q4 b=([],0,3):=(by unfold Q4;rw [if_neg hc14,if_neg hc18,if_pos hc21])
    rw [e]
   ·refine .q 7 hG ?_
    refine .ad (by first|omega|(simp;done)|(simp;omega)|(simp at *;omega)) (by first|omega|(simp;done)|(simp;omega)|(simp at *;omega)) (.p (.c9w ty5 underlying34 (.t j0) (.t j0) (.t j0) (by first|omega|(simp;done)|(simp;omega)|(simp at *;omega)) (by first|omega|(simp;done)|(simp;omega)|(simp at *;omega)) (by first|omega|(simp;done)|(simp;omega)|(simp at *;omega)) ?_))
    refine .k hG ((a5u _ (by first|omega|(simp;done)|(simp;omega)|(simp at *;omega))).b2O) ?_
    refine .q 2 hG ?_
    refine .ad (by first|omega|(simp;done)|(simp;omega)|(simp at *;omega)) (by first|omega|(simp;done)|(simp;omega)|(simp at *;omega)) ?_
    refine .q 5 hG ?_
    refine⟨_,.r3 j0 (.tmp j0) (.tmp j0) (.tmp j0),?_⟩
    have e:Q4 b=((b.take ((I6 b).2.1+(I6 b).1).toNat).drop (I6 b).2.1.toNat,(I6 b).2.1+(I6 b).1,0):=(by unfold Q4;rw [if_neg hc14,if_neg hc18,if_neg hc21])
    rw [e]
abbrev pr (w:Value):AV := .ln w (j9.id (α:=PRd))
theorem c5K (w:Value)(r:PRd)(h:a6C r):C6 gl prog 309 [pr w] [.ob w r] (fun x Hs=>x = .v (J0 r).1∧Hs = [.ob w (J0 r).2]):=by
 obtain⟨h0,h1,h2⟩:=h
 have hu:=a1g (r.b.drop r.used.toNat)
 have hdl:(r.b.drop r.used.toNat).length=r.b.length - r.used.toNat:=List.length_drop
 refine C6.a0k func309 rfl (by kernel_rfl) 39 rfl rfl _ rfl _ rfl fun C hC hG => ?_
 refine .q 14 hG ⟨fun hc10 => ?_,fun hc10 => ?_⟩
 ·refine .q 5 hG ?_
  refine .e1 j0 j0 ?_
  have e0:J0 r=(0,r):=if_pos hc10
  refine⟨_,.cons .z (.nil),?_⟩
  rw [e0];exact⟨rfl,rfl⟩
 ·refine .q 2 hG ?_
  refine .draw (by kernel_rfl) 17 [[],[(12,0)],[(13,1)],[(14,2)],[],[(16,4)],[(17,5)],[(18,6)],[(15,3),(19,7)],[(20,8)],[(21,9)],[(11,10)],[(11,10)],[(11,10)],[(22,11)],[(23,12)],[(24,13)]] j0 (by kernel_rfl) j0 ?_
  refine⟨_,OpP.move (.t j0) j0,?_⟩
  refine⟨_,OpP.E3 (.t j0) j0,?_⟩
  refine⟨_,OpP.P5 y9.l0 a6V j0 (.t j0) j0,?_⟩
  refine⟨_,OpP.ldF (fun x=>x.b) a9m (.t j0) .z (fun _=>j0) j0,?_⟩
  refine⟨_,OpP.move (.t j0) j0,?_⟩
  refine⟨_,OpP.E3 (.t j0) j0,?_⟩
  refine⟨_,OpP.P5 y9.l1 a5L j0 (.t j0) j0,?_⟩
  refine⟨_,OpP.ldF (fun x=>x.used) ty3 (.t j0) .z (fun _=>j0) j0,?_⟩
  refine⟨_,OpP.c4Z ty5 underlying34 (.t j0) (.t j0) (by first|omega|(simp;done)|(simp;omega)|(simp at *;omega)) (by first|omega|(simp;done)|(simp;omega)|(simp at *;omega)) j0,?_⟩
  refine⟨_,OpP.J7 hG (b3j _) (.cons (.t j0) .nil) j0,?_⟩
  refine⟨_,OpP.move (.t j0) j0,?_⟩
  refine⟨_,OpP.b6s (.t j0) j0,?_⟩
  refine⟨_,OpP.b2G (.t j0) j0,?_⟩
  refine⟨_,OpP.b2H (.t j0) j0,?_⟩
  refine⟨_,OpP.assign (.t j0) j0,?_⟩
  refine⟨_,OpP.assign (.t j0) j0,?_⟩
  refine⟨_,OpP.assign (.t j0) j0,?_⟩
  show wpB _ _ _ _ _ [] ((5,_)::(4,_)::(3,_)::(24,_)::(23,_)::(22,_)::(11,_)::(21,_)::(20,_)::(19,_)::(18,_)::(17,_)::(16,_)::(15,_)::(14,_)::(13,_)::(12,_)::_) _
  refine .q 10 hG ?_
  refine .ad (by first|omega|(simp;done)|(simp;omega)|(simp at *;omega)) (by first|omega|(simp;done)|(simp;omega)|(simp at *;omega)) ?_
  refine .q 14 hG ?_
  refine .e1 j0 j0 ?_
  have e0:J0 r=((I6 (r.b.drop r.used.toNat)).1,⟨r.b,r.used+(I6 (r.b.drop r.used.toNat)).2.1,(I6 (r.b.drop r.used.toNat)).2.2⟩):=if_neg hc10
  refine⟨_,.cons .z (.nil),?_⟩
  rw [e0];exact⟨rfl,rfl⟩
theorem c3a (w:Value)(r:PRd)(h:a6C r):C6 gl prog 310 [pr w] [.ob w r] (fun x Hs=>x = .v (a0S r).1∧Hs = [.ob w (a0S r).2]):=by
 obtain⟨h0,h1,h2⟩:=h
 refine C6.a0k func310 rfl (by kernel_rfl) 53 rfl rfl _ rfl _ rfl fun C hC hG => ?_
 refine .q 6 hG ?_
 refine .draw (by kernel_rfl) 11 [[],[(6,0)],[(7,1)],[(8,2)],[(9,3)],[],[(11,5)],[(12,6)],[(13,7)],[(10,4),(14,8)],[(15,9)]] j0 (by kernel_rfl) j0 ?_
 refine⟨_,OpP.move (.t j0) j0,?_⟩
 refine⟨_,OpP.E3 (.t j0) j0,?_⟩
 refine⟨_,OpP.P5 y9.l0 a6V j0 (.t j0) j0,?_⟩
 refine⟨_,OpP.ldF (fun x=>x.b) a9m (.t j0) .z (fun _=>j0) j0,?_⟩
 refine⟨_,OpP.len underlying34 (.t j0) j0,?_⟩
 refine⟨_,OpP.move (.t j0) j0,?_⟩
 refine⟨_,OpP.E3 (.t j0) j0,?_⟩
 refine⟨_,OpP.P5 y9.l1 a5L j0 (.t j0) j0,?_⟩
 refine⟨_,OpP.ldF (fun x=>x.used) ty3 (.t j0) .z (fun _=>j0) j0,?_⟩
 refine⟨_,OpP.sub (.t j0) (.t j0) (by first|omega|(simp;done)|(simp;omega)|(simp at *;omega)) (by first|omega|(simp;done)|(simp;omega)|(simp at *;omega)) j0,?_⟩
 refine⟨_,OpP.lss (.t j0) (.i j0) j0,?_⟩
 show wpB _ _ _ _ _ [] ((16,_)::(15,_)::(14,_)::(13,_)::(12,_)::(11,_)::(10,_)::(9,_)::(8,_)::(7,_)::(6,_)::_) _
 refine .q 2 hG ⟨fun hc16 => ?_,fun hc16 => ?_⟩
 ·refine .q 12 hG ?_
  refine .e1 j0 j0 ?_
  have e0:a0S r=(0,⟨r.b,r.used,3⟩):=if_pos hc16
  refine⟨_,.cons .z (.nil),?_⟩
  rw [e0];exact⟨rfl,rfl⟩
 ·refine .q 7 hG ?_
  have h3:r.used+8≤r.b.length:=(by omega)
  have h4:(r.used+8).toNat≤r.b.length:=(by omega)
  have hl:((r.b.take (r.used+8).toNat).drop r.used.toNat).length=8:=(by rw [List.length_drop,List.length_take,Nat.min_eq_left h4];omega)
  refine .draw (by kernel_rfl) 16 [[],[(20,0)],[(21,1)],[(22,2)],[],[(24,4)],[(25,5)],[(26,6)],[],[(28,8)],[(29,9)],[(30,10)],[(31,11)],[(23,3),(27,7),(32,12)],[(33,13)],[]] j0 (by kernel_rfl) j0 ?_
  refine⟨_,OpP.move (.t j0) j0,?_⟩
  refine⟨_,OpP.E3 (.t j0) j0,?_⟩
  refine⟨_,OpP.P5 y9.l0 a6V j0 (.t j0) j0,?_⟩
  refine⟨_,OpP.ldF (fun x=>x.b) a9m (.t j0) .z (fun _=>j0) j0,?_⟩
  refine⟨_,OpP.move (.t j0) j0,?_⟩
  refine⟨_,OpP.E3 (.t j0) j0,?_⟩
  refine⟨_,OpP.P5 y9.l1 a5L j0 (.t j0) j0,?_⟩
  refine⟨_,OpP.ldF (fun x=>x.used) ty3 (.t j0) .z (fun _=>j0) j0,?_⟩
  refine⟨_,OpP.move (.t j0) j0,?_⟩
  refine⟨_,OpP.E3 (.t j0) j0,?_⟩
  refine⟨_,OpP.P5 y9.l1 a5L j0 (.t j0) j0,?_⟩
  refine⟨_,OpP.ldF (fun x=>x.used) ty3 (.t j0) .z (fun _=>j0) j0,?_⟩
  refine⟨_,OpP.add (.t j0) (.i j0) (by first|omega|(simp;done)|(simp;omega)|(simp at *;omega)) (by first|omega|(simp;done)|(simp;omega)|(simp at *;omega)) j0,?_⟩
  refine⟨_,OpP.c9w ty5 underlying34 (.t j0) (.t j0) (.t j0) (by first|omega|(simp;done)|(simp;omega)|(simp at *;omega)) (by first|omega|(simp;done)|(simp;omega)|(simp at *;omega)) (by first|omega|(simp;done)|(simp;omega)|(simp at *;omega)) j0,?_⟩
  refine⟨_,OpP.len underlying34 (.t j0) j0,?_⟩
  refine⟨_,OpP.move (.i j0) j0,?_⟩
  show wpB _ _ _ _ _ [] ((35,_)::(34,_)::(33,_)::(32,_)::(31,_)::(30,_)::(29,_)::(28,_)::(27,_)::(26,_)::(25,_)::(24,_)::(23,_)::(22,_)::(21,_)::(20,_)::_) _
  refine .q 2 hG ?_
  refine .a0Y (α:=Nat) [(0,_),(33,_),(34,_)] (fun k R=>(3,.v (a4M ((r.b.take (r.used+8).toNat).drop r.used.toNat) k))::(35,.v (k:Int))::R) (fun k => [(false,.ob w r)]) (fun k=>k≤8) (fun k=>8 - k) (0) (.c2 j0 j0 (.cons j0 (.nil _))) ?_ (.c2 j0 j0 (.c2 j0 j0 (.cons j0 (.nil _)))) (j0) fun k hF => ?_
  ·decide
  refine .q 6 hG ⟨fun hc36 => ?_,fun hc36 => ?_⟩
  ·refine .q 5 hG ?_
   refine .ix (by first|omega|(simp;done)|(simp;omega)|(simp at *;omega)) (by first|omega|(simp;done)|(simp;omega)|(simp at *;omega)) ?_
   refine .q 5 hG ?_
   refine .p (.b7V (.t j0) (.u64 8 j0) (by first|omega|(simp;done)|(simp;omega)|(simp at *;omega)) (by first|omega|(simp;done)|(simp;omega)|(simp at *;omega)) ?_)
   refine .q 1 hG ?_
   refine .p (.a9M underlying5 underlying129 (.t j0) ?_)
   refine .q 4 hG ?_
   refine .ad (by first|omega|(simp;done)|(simp;omega)|(simp at *;omega)) (by first|omega|(simp;done)|(simp;omega)|(simp at *;omega)) ?_
   refine .q 2 hG ?_
   refine⟨k+1,.cons (congrArg (fun q=>some (AV.v q)) ((c77 _ _).trans (b6Z _ k (by omega)))) (.c2 rfl rfl (.c2 rfl rfl (.nil _))),rfl,?_,by omega⟩
   omega
  ·refine .q 7 hG ?_
   refine .ad (by first|omega|(simp;done)|(simp;omega)|(simp at *;omega)) (by first|omega|(simp;done)|(simp;omega)|(simp at *;omega)) ?_
   refine .q 10 hG ?_
   refine .e1 j0 j0 ?_
   obtain rfl:k=8:=(by omega)
   have e0:a0S r=(a4M ((r.b.take (r.used+8).toNat).drop r.used.toNat) 8,⟨r.b,r.used+8,r.e⟩):=if_neg hc16
   refine⟨_,.cons .z (.nil),?_⟩
   rw [e0];exact⟨rfl,rfl⟩
theorem c3b (w:Value)(r:PRd)(h:a6C r):C6 gl prog 311 [pr w] [.ob w r] (fun x Hs=>x = .v (a1h r).1∧Hs = [.ob w (a1h r).2]):=by
 obtain⟨h0,h1,h2⟩:=h
 have hu:=a3x (r.b.drop r.used.toNat)
 have hdl:(r.b.drop r.used.toNat).length=r.b.length - r.used.toNat:=List.length_drop
 refine C6.a0k func311 rfl (by kernel_rfl) 35 rfl rfl _ rfl _ rfl fun C hC hG => ?_
 refine .q 5 hG ?_
 refine .draw (by kernel_rfl) 17 [[],[(7,0)],[(8,1)],[(9,2)],[],[(11,4)],[(12,5)],[(13,6)],[(10,3),(14,7)],[(15,8)],[(16,9)],[(6,10)],[(6,10)],[(6,10)],[(17,11)],[(18,12)],[(19,13)]] j0 (by kernel_rfl) j0 ?_
 refine⟨_,OpP.move (.t j0) j0,?_⟩
 refine⟨_,OpP.E3 (.t j0) j0,?_⟩
 refine⟨_,OpP.P5 y9.l0 a6V j0 (.t j0) j0,?_⟩
 refine⟨_,OpP.ldF (fun x=>x.b) a9m (.t j0) .z (fun _=>j0) j0,?_⟩
 refine⟨_,OpP.move (.t j0) j0,?_⟩
 refine⟨_,OpP.E3 (.t j0) j0,?_⟩
 refine⟨_,OpP.P5 y9.l1 a5L j0 (.t j0) j0,?_⟩
 refine⟨_,OpP.ldF (fun x=>x.used) ty3 (.t j0) .z (fun _=>j0) j0,?_⟩
 refine⟨_,OpP.c4Z ty5 underlying34 (.t j0) (.t j0) (by first|omega|(simp;done)|(simp;omega)|(simp at *;omega)) (by first|omega|(simp;done)|(simp;omega)|(simp at *;omega)) j0,?_⟩
 refine⟨_,OpP.J7 hG (b8V _ (by omega)) (.cons (.t j0) .nil) j0,?_⟩
 refine⟨_,OpP.move (.t j0) j0,?_⟩
 refine⟨_,OpP.b6s (.t j0) j0,?_⟩
 refine⟨_,OpP.b2G (.t j0) j0,?_⟩
 refine⟨_,OpP.b2H (.t j0) j0,?_⟩
 refine⟨_,OpP.assign (.t j0) j0,?_⟩
 refine⟨_,OpP.assign (.t j0) j0,?_⟩
 refine⟨_,OpP.assign (.t j0) j0,?_⟩
 show wpB _ _ _ _ _ [] ((5,_)::(4,_)::(3,_)::(19,_)::(18,_)::(17,_)::(6,_)::(16,_)::(15,_)::(14,_)::(13,_)::(12,_)::(11,_)::(10,_)::(9,_)::(8,_)::(7,_)::_) _
 refine .q 10 hG ?_
 refine .ad (by first|omega|(simp;done)|(simp;omega)|(simp at *;omega)) (by first|omega|(simp;done)|(simp;omega)|(simp at *;omega)) ?_
 refine .q 11 hG ?_
 refine .p (.b0b underlying34 underlying5 underlying9 (.t j0) ?_)
 refine .q 3 hG ?_
 refine .e1 j0 j0 ?_
 refine⟨_,.cons .z (.nil),?_⟩
 exact⟨j0,j0⟩
theorem b7g {k:Int}{r:PRd}(h:k=1∨k=2∨k=3):a2Q k r=(⟨k,(a0S r).1,0,0,⟨[]⟩,0⟩,(a0S r).2):=if_pos h
theorem b7h {k:Int}{r:PRd}(h:k=4∨k=5):a2Q k r=(⟨k,0,(J0 r).1,(J0 (J0 r).2).1,⟨[]⟩,0⟩,(J0 (J0 r).2).2):=by unfold a2Q;rw [if_neg (by omega),if_pos h]
theorem b7i {k:Int}{r:PRd}(h:k=6):a2Q k r=(⟨k,0,0,0,(a1h r).1,0⟩,(a1h r).2):=by unfold a2Q;rw [if_neg (by omega),if_neg (by omega),if_pos h]
theorem b7j {k:Int}{r:PRd}(h:k=7):a2Q k r=(⟨k,0,0,0,⟨[]⟩,(J0 r).1⟩,(J0 r).2):=by unfold a2Q;rw [if_neg (by omega),if_neg (by omega),if_neg (by omega)]
section
variable {b:List UInt8}{q:Pred×PRd}
theorem c79 (h:(J0 ⟨b,0,0⟩).2.e≠0):a0M b=(default,0,(J0 ⟨b,0,0⟩).2.e):=if_pos h
theorem c8a (h:¬(J0 ⟨b,0,0⟩).2.e≠0)(hk:(J0 ⟨b,0,0⟩).1 < 1∨7 < (J0 ⟨b,0,0⟩).1):a0M b=(default,0,6):=by unfold a0M;rw [if_neg h,if_pos hk]
theorem b3k (h:¬(J0 ⟨b,0,0⟩).2.e≠0)(hk:¬((J0 ⟨b,0,0⟩).1 < 1∨7 < (J0 ⟨b,0,0⟩).1))(hq:a2Q (J0 ⟨b,0,0⟩).1 (J0 ⟨b,0,0⟩).2=q)(he:q.2.e≠0):a0M b=(default,0,q.2.e):=by
 unfold a0M;rw [if_neg h,if_neg hk,hq,if_pos he]
theorem b3l (h:¬(J0 ⟨b,0,0⟩).2.e≠0)(hk:¬((J0 ⟨b,0,0⟩).1 < 1∨7 < (J0 ⟨b,0,0⟩).1))(hq:a2Q (J0 ⟨b,0,0⟩).1 (J0 ⟨b,0,0⟩).2=q)(he:¬q.2.e≠0)(hv:(!I9 q.1)=true):a0M b=(default,0,5):=by
 unfold a0M;rw [if_neg h,if_neg hk,hq,if_neg he,if_neg (by simpa using hv)]
theorem b3m (h:¬(J0 ⟨b,0,0⟩).2.e≠0)(hk:¬((J0 ⟨b,0,0⟩).1 < 1∨7 < (J0 ⟨b,0,0⟩).1))(hq:a2Q (J0 ⟨b,0,0⟩).1 (J0 ⟨b,0,0⟩).2=q)(he:¬q.2.e≠0)(hv:(!I9 q.1)=false):a0M b=(q.1,q.2.used,0):=by
 unfold a0M;rw [if_neg h,if_neg hk,hq,if_neg he,if_pos (by simpa using hv)]
end
end Go.Proofs.YtfdifhfnpbphaaaGreatDoor
namespace Go.Ab
open Go Go.Fl
section
variable {mo:Nat}{G:Gl}{P:Program}{C:Ctx}{N n:Nat}{ops:List Oper}{Q:Exit→o8→j8→Prop}{l:List Oper}{σ:o8}{H:j8}{d:Nat}{ps:String}{af:Array Edge}{y:Operand}{T E U ty:TypeId}{Eb:List Bool}
instance (priority:=low){α:Type}{r:u3 α}{i:Inhabited α}{by_ t:Nat}{w:Value}{L m:List α}{bb:Bool}{F:Bool×C3→j8}{EX:Value→List Bool}{AX:Value→Prop}[st:SlI P T E α by_ r i][hx:LkQ σ t (.raw w)][hH:HoQ H w (bb,.own E w L) F][hy:SrQ P U σ H y α r m]
    [k:∀ w',Rw mo G P C N n (.b ops Q l) ((d,.raw w')::σ) (F (bb,.own E w' (L++m))) (EX w') (AX w')][cE:CoQ EX Eb] :
    Rw mo G P C N (n+1) (.b ops Q (⟨some d,.call ⟨.builtin .append,#[.tmp t,y],#[T,U]⟩,ty,ps,af,none⟩::l)) σ H Eb ((L.length+m.length)*by_≤140737488355328∧L.length+m.length≤9223372036854775807∧∀ w',AX w') :=
  ⟨fun g e h => .h (.b2W st.h hy.u hx.h hH.h (hy.h C) h.1 h.2.1 (fun w'=>(k w').h g (cast (congrArg (fun z=>a0K z=true) (cE.h w')).symm e) (h.2.2 w')))⟩
end
instance (priority:=low){c:Bool}{σ:o8}:EvQ c σ (.const (.slice none 0 0)) (.raw (.slice none 0 0)):=⟨fun _ _ _ ρ I L hs=>⟨_,rfl,rfl⟩⟩
theorem C6.d2Y {G:Gl}{P:Program}{f:FuncId}{α:Type}{r:u3 α}{ag:List AV}{Bs:List C3}{post:AV→List C3→Prop}(h:C6 G P f (.v ([]:List α)::ag) Bs post):C6 G P f (.raw (.slice none 0 0)::ag) Bs post:=fun I L vs hG hvs hL =>
 h I L vs hG (by
  obtain⟨v,rr,h0,h1,h2⟩:=hvs
  exact⟨v,rr,h0,⟨_,⟨_,j0,[],Sl.nil I _,j0⟩,h1⟩,h2⟩) hL
theorem CaI.d2Z {G:Gl}{P:Program}{C:Ctx}{N:Nat}{σ:o8}{H:j8}{dd:Option Nat}{ty:TypeId}{ps:String}{af:Array Edge}{recv:Operand}{name:String}{args:Array Operand}{tys:Array TypeId}{iv:IfV}{ag:List AV}{D:List Prop}{r:AV}{b:Bool}{B B':C3}{F:Bool×C3→j8}(k:CaI G P name iv ag [B] D r [B'])(hr:G5 C σ H recv (.v iv))(hv:a0I C σ H args.toList ag)(hH:H9 H (b,B) F)(hG:G.p C.I0)(hD:Z8 D){K:AV→j8→Prop}(hk:K r (F (b,B'))):OpH P C N ⟨dd,.call ⟨.invoke recv name,args,tys⟩,ty,ps,af,none⟩ σ H K:=by
 have h1:HoQ H (.bool true) (b,B) F:=⟨hH⟩
 have h2:HoQ (F (true,.fz (.bool true) (.raw (.bool true)))) (.bool true) (true,.fz (.bool true) (.raw (.bool true))) F:=⟨hH.again⟩
 have tk:TkQ H [.bool true] [(b,B)] (F (true,.fz (.bool true) (.raw (.bool true)))):=inferInstance
 have sn:a5Z [(b,B)] [B] b:=by cases b<;>exact⟨rfl,rfl⟩
 have wt:a5k b [B'] [(b,B')]:=inferInstance
 have pb:PbQ (F (true,.fz (.bool true) (.raw (.bool true)))) [.bool true] [(b,B')] (F (b,B')):=inferInstance
 exact k.hop hr hv tk sn wt pb hG hD hk
instance (priority:=high){σ:o8}{d:Option Nat}{ty:TypeId}{ps:String}{af:Array Edge}{g:Option (Nat×Bool)}{t:Nat}{name:String}{args:Array Operand}{tys:Array TypeId}{a:AV}[h:LkQ σ t a]:LkQ (Q3 σ ⟨d,.call ⟨.invoke (.tmp t) name,args,tys⟩,ty,ps,af,g⟩) t a:=⟨a5O (by
 unfold J6
 exact List.mem_filterMap.2 ⟨.tmp t,by simp [Op.operands,Call.operands],rfl⟩) h.h⟩
section
variable {G:Gl}{P:Program}{l os:List Oper}{nm:Nat→Nm}{k:Nat}{σ σ':o8}{H H':j8}{T:List (Nm→R8)}{ts:List (Option (Nat×Nat))}{D D1 D2:List Prop}{d:Nat}{ty:TypeId}{ps:String}{af:Array Edge}{r:AV}{args:Array Operand}{tys:Array TypeId}{ag:List AV}{w:Value}{p:Nat}{b:Bool}{B B':C3}{F0:Bool×C3→j8}{recv:Operand}{name:String}{iv:IfV}
instance [hr:EvQ true (Q3 σ ⟨some d,.call ⟨.invoke recv name,args,tys⟩,ty,ps,af,none⟩) recv (.v iv)][hv:AsQ true (Q3 σ ⟨some d,.call ⟨.invoke recv name,args,tys⟩,ty,ps,af,none⟩) args.toList ag][wn:WiQ iv ag H [w]][po:PoQ H w p (b,B) F0][c:CaI G P name iv ag [B] D1 r [B']][q:ChQ G P l nm (k+1) os ((d,r)::σ) (F0 (b,B')) T ts σ' H' D2][cj:Cj D1 D2 D] :
    ChQ G P l nm k (⟨some d,.call ⟨.invoke recv name,args,tys⟩,ty,ps,af,none⟩::os) σ H ((fun _=>⟨some (p,1),r,(b,B')⟩)::T) (some (p,1)::ts) σ' H' D :=
  ⟨fun N C F hG hD hF=>⟨⟨(b,B),po.get,fun H' F' hh=>c.d2Z (hr.h C H' rfl) (hv.h C H' rfl) hh hG.2 (cj.of hD).1 ⟨rfl,rfl⟩⟩,by
    show chU P C N l nm F (k+1) os T _ (H.set p (b,B'))
    rw [po.set];exact q.h N C F hG (cj.of hD).2 hF⟩,by rw [evT,List.map_cons,q.t]⟩
end
@[reducible] def d3a:Bool→Bool|true=>false|false=>true
instance {G:Gl}{P:Program}{c:Bool}{σ:o8}{H:j8}{d:Option Nat}{ty:TypeId}{ps:String}{af:Array Edge}{g:Option (Nat×Bool)}{x y:Operand}{T:TypeId}{n:Int}{β:Type}{s:u3 β}{i:Inhabited β}{k0 kz:Nat}{a:M4 k0 β}{E:TypeId}[u:UnI P T (.array k0 E)][t:TyI P E β s i][hx:T9 c σ x (M4 k0 β) inferInstance a][hf:ElI P T k0 kz false][hz:TrB (Nat.beq kz (u3.size β))][hb:TrB (d3a (u3.agg β))][hy:T9 c σ y Int inferInstance n] :
    OpD G P c ⟨d,.index T x y,ty,ps,af,g⟩ σ H [0≤n,n < (k0:Nat)] (.v (a.l.getD n.toNat default)):=⟨fun N C hG e h => .ix (Nat.eq_of_beq_eq_true hz.h▸hf.h) (by
  have:=hb.h
  cases hq:u3.agg β
  · rfl
  · rw [hq] at this;cases this) (hx.h C H e) (hy.h C H e) h.1 h.2.1 (by
  have h1:=h.1
  have h2:=h.2.1
  rw [List.getD_eq_getElem?_getD,List.getElem?_eq_getElem (by rw [a.h];omega)];rfl)⟩
end Go.Ab
namespace Go.Ab
open Go Go.Fl
theorem b7k {P:Program}{f:FuncId}{vs:Array Value}{I:Fl.Im}{L:Lh}{post:Value→Fl.Im→Lh→Prop}(Z:List (Nat×Obj))(h:a9I P f vs I L post):a9I P f vs I (L ++ [Z]) (fun v J L'=>Le I J∧∃ L0,L'=L0 ++ [Z]∧post v J L0):=by
 have e0:∀ L:Lh,(L ++ [Z]).flatten=L.flatten++Z:=fun L=>by simp
 refine⟨h.ok,fun w hm => ?_⟩
 have hl:=hm.loc
 have hs:=hm.sep
 have hn:=hm.nodup
 rw [e0] at hl hs hn
 rw [List.map_append,List.nodup_append] at hn
 refine(h.run w ⟨hm.im,fun p hp=>hl p (List.mem_append_left _ hp),fun p hp=>hs p (List.mem_append_left _ hp),hn.1⟩).mono ?_
 rintro e w' ⟨v,J,L',rfl,c1,c2,c3,c4,c5,c6⟩
 have hz:∀ p∈Z,p.1 < w.heap.size∧p.1∉L.flatten.map Prod.fst:=fun p hp=>⟨D7 (hl p (List.mem_append_right _ hp)),fun hq=>hn.2.2 _ hq _ (List.mem_map_of_mem hp) rfl⟩
 refine⟨v,J,L' ++ [Z],j0,c1.mono fun k hk _ => ?_,c2,c3,⟨c4.im,?_,?_,?_⟩,?_,c2,L',j0,c6⟩
 ·rw [e0,List.map_append];exact List.mem_append_left _ hk
 ·rw [e0];intro p hp
  rcases List.mem_append.1 hp with hp|hp
  ·exact c4.loc p hp
  ·exact(c1.block _ (hz p hp).1 (hz p hp).2).trans (hl p (List.mem_append_right _ hp))
 ·rw [e0];intro p hp
  rcases List.mem_append.1 hp with hp|hp
  ·exact c4.sep p hp
  ·have h1:=hs p (List.mem_append_right _ hp)
   cases hJ:J p.1 with
   | none=>rfl
   | some o =>
    have:=c3 p.1 h1 (by rw [hJ];simp)
    have:=(hz p hp).1
    omega
 ·rw [e0,List.map_append,List.nodup_append]
  refine⟨c4.nodup,hn.2.1,fun a ha b hb hab => ?_⟩
  subst hab
  obtain⟨p,hp,rfl⟩:=List.mem_map.1 ha
  obtain⟨q,hq,e⟩:=List.mem_map.1 hb
  have h1:=hz q hq
  rcases c5 p hp with h|h
  ·omega
  ·rw [←e] at h;exact h1.2 h
 ·rw [e0];intro p hp
  rw [e0,List.map_append]
  rcases List.mem_append.1 hp with hp|hp
  ·exact(c5 p hp).imp id fun h=>List.mem_append_left _ h
  ·exact .inr (List.mem_append_right _ (List.mem_map_of_mem hp))
theorem Q9.snoc {I:Fl.Im}{B:C3}:∀ {Hs:List C3} {L:Lh},Q9 I (Hs ++ [B]) L→∃ L0 Z,L=L0 ++ [Z]∧Q9 I Hs L0∧B.a0H I Z
 | [],L,h=>by
  obtain⟨X,R,rfl,h1,h2⟩:=h
  have h2:R = []:=h2
  subst h2
  exact⟨[],X,j0,j0,h1⟩
 | A::Hs,L,h=>by
  obtain⟨X,R,rfl,h1,h2⟩:=h
  obtain⟨L0,Z,rfl,h3,h4⟩:=h2.snoc
  exact⟨X::L0,Z,j0,⟨X,L0,j0,h1,h3⟩,h4⟩
theorem Q9.push {I:Fl.Im}{B:C3}{Z:List (Nat×Obj)}(hB:B.a0H I Z):∀ {Hs:List C3} {L:Lh},Q9 I Hs L→Q9 I (Hs ++ [B]) (L ++ [Z])
 | [],L,h=>by
  have h:L = []:=h
  subst h
  exact⟨Z,[],j0,hB,j0⟩
 | A::Hs,L,h=>by
  obtain⟨X,R,rfl,h1,h2⟩:=h
  exact⟨X,R ++ [Z],j0,h1,h2.push hB⟩
theorem C6.frame {G:Gl}{P:Program}{f:FuncId}{ag:List AV}{Bs:List C3}{post:AV→List C3→Prop}(B:C3)(h:C6 G P f ag Bs post):C6 G P f ag (Bs ++ [B]) (fun r Hs=>∃ Hs0,Hs=Hs0 ++ [B]∧post r Hs0):=fun I L vs hG hvs hL=>by
 obtain⟨L0,Z,rfl,h1,h2⟩:=hL.snoc
 have hM:=b7k Z (h I L0 vs hG hvs h1)
 refine⟨hM.ok,fun w hm=>(hM.run w hm).mono ?_⟩
 rintro e w' ⟨v,J,L',rfl,c1,c2,c3,c4,c5,c6,L1,rfl,r,Hs,c7,c8,c9⟩
 exact⟨v,J,_,j0,c1,c2,c3,c4,c5,r,Hs ++ [B],c7,c8.push (C3.mono c2 h2),Hs,j0,c9⟩
section
variable {P:Program}{C:Ctx}{N:Nat}{σ:o8}{H:j8}{Q:Exit→o8→j8→Prop}
theorem wpA.d0Q {α:Type}{r:u3 α}(E:TypeId){c:Code}(k:wpA P C N c Q σ ((true,.P4 (.slice none 0 0) (GS.mk (α:=α) E []))::H)):wpA P C N c Q σ H:=fun ρ I L hs =>
 wpS.pad (k ρ I ([]::L) ⟨hs.env,⟨[],L,rfl,⟨.inl ⟨rfl,⟨none,rfl⟩,[],Sl.nil I _,rfl⟩,fun _ p hp=>by cases hp⟩,hs.heap⟩,hs.U9⟩)
theorem wpA.d3b (t:Nat){α β:Type}{r:u3 α}{s:u3 β}{w v:Value}{x:α}(y:β){a:AV}{b b2:Bool}{c:Code}{F F2:Bool×C3→j8}[lk:LkQ σ t (.ln w (j9.id (α:=α)))][hH:HoQ H w (b,.ob w x) F][hz:HoQ H v (b2,.fz v a) F2](h:∀ I cs,r.rep I x cs→F9 I a v→s.rep I y cs)
    (k:wpA P C N c Q ((t,.ln w (j9.id (α:=β)))::σ) (F (b,.ob w y))):wpA P C N c Q σ H :=
  .conv t (.ln w (j9.id (α:=β))) lk.h (fun n0 I L u _ hu=>by
    obtain⟨b',h1,h2⟩:=hu
    exact⟨b',h1,h2⟩) fun ρ I L hs=>by
  obtain⟨i,X,h2,h3,h4⟩:=hH.h.get hs.heap
  obtain⟨i2,X2,g2,g3,g4⟩:=hz.h.get hs.heap
  have hset:L.set i X=L:=by
    obtain⟨hi,e⟩:=List.getElem?_eq_some_iff.1 h2
    rw [←e,List.set_getElem_self]
  obtain⟨⟨bb,T,cs,e1,e2,e3⟩,h5⟩:=h3
  have:=h4 I (b,.ob w y) X (Le.refl I) ⟨⟨bb,T,cs,e1,e2,h I cs e3 g3.1.2⟩,h5⟩
  rw [hset] at this
  exact k ρ I L ⟨hs.env,this,hs.U9⟩
end
class PlR (id:Nat)(t:outParam Nat):Prop where h:True
class d0R {α:Type}(x:α)(v:outParam Value):Prop where h:True
class d0S {α γ:Type}(r:u3 α)(x:α)(v:Value)(q:u3 γ)(L:List γ)(β:outParam Type)(s:outParam (u3 β))(y:outParam β):Prop where h:∀ I cs,r.rep I x cs→F9 I (.v L) v→s.rep I y cs
instance (priority:=2000){mo:Nat}{G:Gl}{P:Program}{C:Ctx}{N n:Nat}{Q:Exit→o8→j8→Prop}{l:Array Oper}{bo:Bool}{σ:o8}{H:j8}{id t:Nat}{w v:Value}{Eb:List Bool}{A:Prop}{α β γ:Type}{r:u3 α}{s:u3 β}{q:u3 γ}{x:α}{y:β}{E:TypeId}{L:List γ}{b b0:Bool}{F F0 F2:Bool×C3→j8}
    [f:PlR id t][lk:LkQ σ t (.ln w (j9.id (α:=α)))][h0:HoQ H w (b0,.ob w x) F0][pv:d0R x v][hz:HoQ H v (true,.P4 v (GS.mk E L)) F2][hH:HoQ (F2 (true,.fz v (.v L))) w (b,.ob w x) F][h2:HoQ (F2 (true,.fz v (.v L))) v (true,.fz v (.v L)) F2][pn:d0S r x v q L β s y]
    [k:Rw mo G P C N n (.a (.region id l bo) Q) ((t,.ln w (j9.id (α:=β)))::σ) (F (b,.ob w y)) Eb A]:Rw mo G P C N n (.a (.region id l bo) Q) σ H Eb A:=⟨fun g e a => .c9I g.1 hz.h (.d3b t y (hH:=hH) (hz:=h2) pn.h (k.h g e a))⟩
instance (priority:=10){P:Program}{T:TypeId}{α β γ:Type}{r:u3 α}{s:u3 β}{q:u3 γ}{i:Nat}{w:Value}{l:j9 α β}{m:j9 β γ}{f:β→γ}[n:FdR P T i β s γ q m f]:FaQ P T i (.ln w l) (.ln w (l.comp m)):=by
 have:=n.h
 infer_instance
instance (priority:=low){G:Gl}{P:Program}{c:Bool}{σ:o8}{H:j8}{d:Option Nat}{ty:TypeId}{ps:String}{af:Array Edge}{g:Option (Nat×Bool)}{x:Operand}{T T2 E:TypeId}{α:Type}{r:u3 α}{L:List α}[u:UnI P T (.slice E)][hx:T9 c σ x (List α) inferInstance L] :
    OpD G P c ⟨d,.binOp .eql T x (.const (.slice none 0 0)) T2,ty,ps,af,g⟩ σ H [L ≠ []] (.v false):=⟨fun N C hG e h => .b0c u.h (hx.h C H e) fun b hb=>by
  cases b with
  | false=>rfl
  | true=>exact absurd (hb rfl) h.1⟩
class UsQ (H:j8)(v:outParam Value):Prop where h:True
instance (priority:=low){A:Bool×C3}{H:j8}{v:Value}[k:UsQ H v]:UsQ (A::H) v:=⟨trivial⟩
instance (priority:=high){g:Bool}{α:Type}{r:UB α}{x:α}{H:j8}{v:Value}:UsQ ((g,@C3.P4 α r v x)::H) v:=⟨trivial⟩
end Go.Ab
namespace Go.Ab
open Go Go.Fl
instance (priority:=high){mo:Nat}{G:Gl}{P:Program}{C:Ctx}{N n:Nat}{ops:List Oper}{Q:Exit→o8→j8→Prop}{l:List Oper}{σ:o8}{H:j8}{d t:Nat}{ps:String}{af:Array Edge}{S E ty:TypeId}{Eb:List Bool}{A:Prop}{α:Type}{r:u3 α}{w:Value}{L:List α}{F:Bool×C3→j8}
    [a:UnI P S (.slice E)][e8:UnI P E (.int .u8)][hx:LkQ σ t (.raw w)][hH:HoQ H w (true,.own E w L) F]
    [k:Rw mo G P C N n (.b ops Q l) ((d,.v L)::σ) (F (true,.fz w (.v L))) Eb A] :
    Rw mo G P C N (n+1) (.b ops Q (⟨some d,.convert S S (.tmp t),ty,ps,af,none⟩::l)) σ H Eb (L ≠ []∧A) :=
  ⟨fun g e h => .h (.same a.h e8.h hx.h hH.h h.1 (.Q7 g.1 hH.h.again fun ρ I LL hs=>k.h g e h.2 ρ I LL ⟨fun s b hb=>by
    rw [G7] at hb
    by_cases ee:d=s
    · subst ee;simp only [if_true] at hb;cases hb
      obtain⟨u,h1,h2⟩:=hs.env d (.raw w) (by rw [G7,if_pos rfl])
      have h2:u=w:=h2
      subst h2
      obtain⟨j,X,q1,q2,q3⟩:=(hH.h.again (B':=(true,.fz u (.v L)))).get hs.heap
      exact⟨u,h1,q2.1.2⟩
    · rw [if_neg ee] at hb
      exact hs.env s b (by rw [G7,if_neg ee];exact hb),hs.heap,hs.U9⟩))⟩
instance {c:Bool}{a:AV}:AsC c (.a74 c a) a:=⟨fun _ _ e h=>h.1 e⟩
class NgS (d:Nat):Prop where h:True
section
variable {G:Gl}{P:Program}{ops:List Oper}{σ:o8}{H:j8}{ps:String}{af:Array Edge}{ty:TypeId}
instance (priority:=20000){d:Nat}{op:Op}{j:Nat}{want b:Bool}{dj:Nat}{r:AV}{D D':List Prop}{p:Prop}[ng:NgS d][hj:EqS (a8a ops j) dj][hb:T9 true σ (.tmp dj) Bool inferInstance b][h:OpD G P (b == want) ⟨some d,op,ty,ps,af,none⟩ σ H D r][hg:GdQ b want p][hi:ImQ p D D'] :
    StD G P ops ⟨some d,op,ty,ps,af,some (j,want)⟩ σ H D' ((d,.a74 (b == want) r)::σ) H:=⟨fun N C Q rest hG hD k => .goU dj ((a4p ops j).symm.trans hj.h) (hb.h C H rfl) (fun e=>h.h N C hG (beq_iff_eq.2 e) (hi.h hD (hg.h e))) k⟩
instance (priority:=20000){d:Nat}{op:Op}{j:Nat}{want b c:Bool}{dj:Nat}{r:AV}{D D1 D':List Prop}{p q:Prop}[hj:EqS (a8a ops j) dj][hb:LkQ σ dj (.a74 c (.v b))][h:OpD G P (c&&(b == want)) ⟨some d,op,ty,ps,af,none⟩ σ H D r][hg:GdQ b want p][hc:GdQ c true q][hi:ImQ p D D1][hi2:ImQ q D1 D'] :
    StD G P ops ⟨some d,op,ty,ps,af,some (j,want)⟩ σ H D' ((d,.a74 (c&&(b == want)) r)::σ) H:=⟨fun N C Q rest hG hD k => .gn dj ((a4p ops j).symm.trans hj.h) hb.h (fun e1 e=>h.h N C hG (by rw [e1,beq_iff_eq.2 e];rfl) (hi.h (hi2.h hD (hc.h e1)) (hg.h e))) k⟩
variable {d:Option Nat}{g:Option (Nat×Bool)}{x y:Operand}{c bo:Bool}
instance (priority:=low){v:Bool}[h:T9 c σ x Bool inferInstance bo][k:T9 (c&&(bo == true)) σ y Bool inferInstance v]:OpQ G P c ⟨d,.pick x y (.const (.bool false)),ty,ps,af,g⟩ σ H (.v (bo&&v)):=⟨fun N C hG e => .a2I (h.h C H e) (fun e2=>k.h C H (by rw [e,beq_iff_eq.2 e2];rfl)) rfl⟩
end
end Go.Ab
namespace Go.Proofs.YtfdifhfnpbphaaaGreatDoor
open Go.Proofs.Tryz
open Go.Fl Go.Ab Go.Mac Go.Sha
instance (w:Value)(r:PRd):CaM gl prog 309 [pr w] (.ob w r) [a6C r] (.v (J0 r).1) (.ob w (J0 r).2):=⟨fun hh=>c5K w r hh.1⟩
instance (w:Value)(r:PRd):CaM gl prog 310 [pr w] (.ob w r) [a6C r] (.v (a0S r).1) (.ob w (a0S r).2):=⟨fun hh=>c3a w r hh.1⟩
instance (w:Value)(r:PRd):CaM gl prog 311 [pr w] (.ob w r) [a6C r] (.v (a1h r).1) (.ob w (a1h r).2):=⟨fun hh=>c3b w r hh.1⟩
instance (p:Pred):P9 gl prog 259 [.v p] [] (.v (I9 p)):=⟨fun hh=>a5v p⟩
set_option maxHeartbeats 4000000 in
theorem predDec3_c (b:List UInt8)(hb:b.length≤1000000):C4 gl prog 307 [.v b] (fun r=>r = .t3 (.v (a0M b).1) (.v (a0M b).2.1) (.v (a0M b).2.2)):=by
 refine .go func307 j0 71 [.cell 2 131,.tmp 3,.tmp 4] j0 (by kernel_rfl) fun C hG => ?_
 have ok0:a6C ⟨b,0,0⟩:=⟨Int.le_refl _,Int.natCast_nonneg _,hb⟩
 have ok1:=a7s ok0
 have ok2:=a7s ok1
 refine .z hG (by kernel_rfl) fun _ _=>⟨ok0,fun _ => ?_⟩
 simp only [show(default:PRd).used=0 from rfl,show(default:PRd).e=0 from rfl,show(default:Pred).Mask=0 from rfl,show(default:Pred).a00=0 from rfl,show(default:Pred).To=0 from rfl,show(default:Pred).Name=⟨[]⟩ from rfl,show(default:Pred).Number=0 from rfl]
 repeat' (first|with_reducible exact ok1|with_reducible exact ok2|refine wpA.z hG (by kernel_rfl) ?_|refine And.intro ?_ ?_|(intro h;try dsimp only at h))
 all_goals (try dsimp only)
 all_goals first|(exfalso;omega)|(rw [c79 (by assumption)];done)|(rw [c8a (by assumption) (by omega)];done)|(rw [b3k (by assumption) (by omega) (b7g (by omega)) (by assumption)];done)|(rw [b3k (by assumption) (by omega) (b7h (by omega)) (by assumption)];done)|(rw [b3k (by assumption) (by omega) (b7i (by omega)) (by assumption)];done)|(rw [b3k (by assumption) (by omega) (b7j (by omega)) (by assumption)];done)|skip
 all_goals rename_i h
 all_goals first|(rw [b3l (by assumption) (by omega) (b7g (by omega)) (by assumption) (by simpa using h)];done)|(rw [b3l (by assumption) (by omega) (b7h (by omega)) (by assumption) (by simpa using h)];done)|(rw [b3l (by assumption) (by omega) (b7i (by omega)) (by assumption) (by simpa using h)];done)|(rw [b3l (by assumption) (by omega) (b7j (by omega)) (by assumption) (by simpa using h)];done)|(rw [b3m (by assumption) (by omega) (b7g (by omega)) (by assumption) (by simpa using h)];done)|(rw [b3m (by assumption) (by omega) (b7h (by omega)) (by assumption) (by simpa using h)];done)|(rw [b3m (by assumption) (by omega) (b7i (by omega)) (by assumption) (by simpa using h)];done)|(rw [b3m (by assumption) (by omega) (b7j (by omega)) (by assumption) (by simpa using h)];done)
open Go.Fl Go.Ab Go.Mac
instance:Exa C8:=⟨fun x=>Exa.ex (C8.f x),fun x=>Exa.ok (C8.f x),Exa.h1 (α:=PtV×Int×Int×Unit),Exa.h2 (α:=PtV×Int×Int×Unit)⟩
instance:Exa J9:=⟨fun x=>Exa.ex (J9.f x),fun x=>Exa.ok (J9.f x),Exa.h1 (α:=PtV×Unit),Exa.h2 (α:=PtV×Unit)⟩
instance:Exa K0:=⟨fun x=>Exa.ex (K0.f x),fun x=>Exa.ok (K0.f x),Exa.h1 (α:=PtV×Unit),Exa.h2 (α:=PtV×Unit)⟩
instance:Exa E7:=⟨fun x=>Exa.ex (E7.f x),fun x=>Exa.ok (E7.f x),Exa.h1 (α:=PtV×Unit),Exa.h2 (α:=PtV×Unit)⟩
section
variable {α:Type}[r:u3 α](b:Nat)(x:α)
theorem b7l (l:j9 α Int)(lo hi:Int):C6 gl prog 285 [.v (C8.mk (PtV.at b l.off) lo hi)] [.ob (ptr b 0) x] (fun y Hs=>y = .v (if l.get x < lo∨hi < l.get x then (1:Int) else 0)∧Hs = [.ob (ptr b 0) x]):=by
 have il:Q2 l l.get l.set:=⟨fun _=>rfl,fun _ _=>rfl⟩
 refine .go func285 j0 19 [.tmp 2] j0 (by kernel_rfl) fun C hG=>(.z hG (by kernel_rfl) fun b1=>⟨fun h => ?_,fun h => ?_⟩)
 ·rw [if_pos h];exact P6.of [ptr b 0] ⟨rfl,rfl⟩
 ·rw [if_neg h];exact P6.of [ptr b 0] ⟨rfl,rfl⟩
theorem b7m (l:j9 α Int)(lo hi:Int):C6 gl prog 286 [.v (C8.mk (PtV.at b l.off) lo hi)] [.ob (ptr b 0) x] (fun y Hs=>y = .raw (.tuple #[])∧Hs = [.ob (ptr b 0) (l.set 0 x)]):=by
 have il:Q2 l l.get l.set:=⟨fun _=>rfl,fun _ _=>rfl⟩
 refine .go func286 j0 5 [] j0 (by kernel_rfl) fun C hG => ?_
 exact .z hG (by kernel_rfl) fun b1=>P6.of [ptr b 0] ⟨j0,j0⟩
theorem b7n (l:j9 α Tag):C6 gl prog 290 [.v (J9.mk (PtV.at b l.off))] [.ob (ptr b 0) x] (fun y Hs=>y = .raw (.tuple #[])∧Hs = [.ob (ptr b 0) (l.set default x)]):=by
 have il:Q2 l l.get l.set:=⟨fun _=>rfl,fun _ _=>rfl⟩
 refine .go func290 j0 6 [] j0 (by kernel_rfl) fun C hG => ?_
 exact .z hG (by kernel_rfl) fun b1=>P6.of [ptr b 0] ⟨j0,j0⟩
theorem b7o (l:j9 α (List UInt8)):C6 gl prog 313 [.v (K0.mk (PtV.at b l.off))] [.ob (ptr b 0) x] (fun y Hs=>y = .raw (.tuple #[])∧Hs = [.ob (ptr b 0) (l.set [] x)]):=by
 have il:Q2 l l.get l.set:=⟨fun _=>rfl,fun _ _=>rfl⟩
 refine .go func313 j0 5 [] j0 (by kernel_rfl) fun C hG => ?_
 exact .z hG (by kernel_rfl) fun b1=>P6.of [ptr b 0] ⟨j0,j0⟩
theorem b7p (l:j9 α (List Cav)):C6 gl prog 295 [.v (E7.mk (PtV.at b l.off))] [.ob (ptr b 0) x] (fun y Hs=>y = .raw (.tuple #[])∧Hs = [.ob (ptr b 0) (l.set [] x)]):=by
 have il:Q2 l l.get l.set:=⟨fun _=>rfl,fun _ _=>rfl⟩
 refine .go func295 j0 5 [] j0 (by kernel_rfl) fun C hG => ?_
 exact .z hG (by kernel_rfl) fun b1=>P6.of [ptr b 0] ⟨j0,j0⟩
theorem b7q (l:j9 α Tag):C6 gl prog 289 [.v (J9.mk (PtV.at b l.off))] [.ob (ptr b 0) x] (fun y Hs=>y = .v (0:Int)∧Hs = [.ob (ptr b 0) x]):=by
 refine .go func289 j0 3 [.tmp 2] j0 (by kernel_rfl) fun C hG => ?_
 exact .z hG (by kernel_rfl) fun b1=>P6.of [ptr b 0] ⟨j0,j0⟩
theorem b5c (l:j9 α (List UInt8)):C6 gl prog 312 [.v (K0.mk (PtV.at b l.off))] [.ob (ptr b 0) x] (fun y Hs=>y = .v (if 1024 < (l.get x).length then (2:Int) else 0)∧Hs = [.ob (ptr b 0) x]):=by
 have il:Q2 l l.get l.set:=⟨fun _=>rfl,fun _ _=>rfl⟩
 refine .go func312 j0 9 [.tmp 2] j0 (by kernel_rfl) fun C hG=>(.z hG (by kernel_rfl) fun b1=>⟨fun h => ?_,fun h => ?_⟩)
 ·rw [if_pos (by omega)];exact P6.of [ptr b 0] ⟨rfl,rfl⟩
 ·rw [if_neg (by omega)];exact P6.of [ptr b 0] ⟨rfl,rfl⟩
theorem b5d (c:Cav):C4 gl prog 299 [.v c] (fun y=>y = .v (!S5 c)):=by
 have i_cavValid_c:∀ (c:Cav),P9 gl prog 248 [.v c] [] (.v (S5 c)):=fun c=>⟨fun hh=>a6A c⟩
 refine .go func299 j0 6 [.tmp 2] j0 (by kernel_rfl) fun C hG => ?_
 exact .z hG (by kernel_rfl) fun b1=>j0
theorem b7r (l:j9 α (List Cav)):C6 gl prog 294 [.v (E7.mk (PtV.at b l.off))] [.ob (ptr b 0) x] (fun y Hs=>y = .v (if 64 < (l.get x).length then (2:Int) else if (l.get x).all S5 then 0 else 5)∧Hs = [.ob (ptr b 0) x]):=by
 have il:Q2 l l.get l.set:=⟨fun _=>rfl,fun _ _=>rfl⟩
 have i_contCa_c:∀ (l:List y1) (p:y1→Bool),P9 gl prog 298 [.v l,.a62 prog p] [] (.v (l.any p)):=fun l p=>⟨fun hh=>c2O l p⟩
 have i1:Cl1 gl prog 299 [] _ inferInstance _ inferInstance (fun c => !S5 c):=⟨b5d⟩
 have e:(l.get x).any (fun c => !S5 c) = !(l.get x).all S5:=by rw [List.not_all_eq_any_not]
 refine .go func294 j0 14 [.tmp 2] j0 (by kernel_rfl) fun C hG=>(.z hG (by kernel_rfl) fun b1=>⟨fun h => ?_,fun h=>⟨fun h2 => ?_,fun h2 => ?_⟩⟩)
 ·rw [if_pos (by omega)];exact P6.of [ptr b 0] ⟨rfl,rfl⟩
 ·rw [e] at h2;rw [if_neg (by omega),if_neg (by simpa using h2)];exact P6.of [ptr b 0] ⟨rfl,rfl⟩
 ·rw [e] at h2;rw [if_neg (by omega),if_pos (by simpa using h2)];exact P6.of [ptr b 0] ⟨rfl,rfl⟩
end
abbrev SRd:=E6
def O6 (r:SRd):Int×SRd:=if r.e≠0 then (0,r) else ((I6 r.b).1,⟨r.b.drop (I6 r.b).2.1.toNat,(I6 r.b).2.2⟩)
theorem c3c (w:Nat)(r:SRd)(u e:Int)(h0:0≤u∧u≤r.b.length):C6 gl prog 206 [.ln (ptr w 0) (j9.id (α:=SRd)),.v u,.v e] [.ob (ptr w 0) r] (fun y Hs=>y = .raw (.tuple #[])∧Hs = [.ob (ptr w 0) (E6.mk (r.b.drop u.toNat) e)]):=by
 have e1:r.b.take ((r.b.length:Int)).toNat=r.b:=by simp
 refine .go func206 rfl 19 [] rfl (by kernel_rfl) fun C hG=>(.z hG (by kernel_rfl) ⟨h0.1,h0.2,by omega,?_⟩)
 rw [e1];exact P6.of [ptr w 0] ⟨rfl,rfl⟩
instance (w:Nat)(r:SRd)(u:Int)(e:Int):CaM gl prog 206 [.ln (ptr w 0) (j9.id (α:=SRd)),.v u,.v e] (.ob (ptr w 0) r) [0≤u∧u≤r.b.length] (.raw (.tuple #[])) (.ob (ptr w 0) (E6.mk (r.b.drop u.toNat) e)):=⟨fun hh=>c3c w r u e hh.1⟩
instance (b:List UInt8):P9 gl prog 205 [.v b] [] (.t3 (.v (I6 b).1) (.v (I6 b).2.1) (.v (I6 b).2.2)):=⟨fun hh=>b3j b⟩
instance (b:List UInt8):P9 gl prog 308 [.v b] [b.length≤1000000] (.t3 (.v (Q4 b).1) (.v (Q4 b).2.1) (.v (Q4 b).2.2)):=⟨fun hh=>b8V b hh.1⟩
theorem c5L (w:Nat)(r:SRd):C6 gl prog 153 [.ln (ptr w 0) (j9.id (α:=SRd))] [.ob (ptr w 0) r] (fun y Hs=>y = .v (O6 r).1∧Hs = [.ob (ptr w 0) (O6 r).2]):=by
 refine .go func153 j0 25 [.tmp 2] j0 (by kernel_rfl) fun C hG=>(.z hG (by kernel_rfl) ⟨fun h => ?_,fun h=>⟨a1g _,?_⟩⟩)
 ·unfold O6;rw [if_pos h];exact P6.of [ptr w 0] ⟨rfl,rfl⟩
 ·unfold O6;rw [if_neg h];exact P6.of [ptr w 0] ⟨rfl,rfl⟩
def a0b (r:SRd):List UInt8×SRd:=if r.e≠0 then ([],r) else ((Q4 r.b).1,⟨r.b.drop (Q4 r.b).2.1.toNat,(Q4 r.b).2.2⟩)
theorem c0j (w:Nat)(r:SRd)(hb:r.b.length≤1000000):C6 gl prog 316 [.ln (ptr w 0) (j9.id (α:=SRd))] [.ob (ptr w 0) r] (fun y Hs=>y = .v (a0b r).1∧Hs = [.ob (ptr w 0) (a0b r).2]):=by
 refine .go func316 j0 25 [.tmp 2] j0 (by kernel_rfl) fun C hG=>(.z hG (by kernel_rfl) ⟨fun h => ?_,fun h=>⟨hb,a3x _,?_⟩⟩)
 ·unfold a0b;rw [if_pos h];exact P6.of [ptr w 0] ⟨rfl,rfl⟩
 ·unfold a0b;rw [if_neg h];exact P6.of [ptr w 0] ⟨rfl,rfl⟩
instance (w:Nat)(r:SRd):CaM gl prog 153 [.ln (ptr w 0) (j9.id (α:=SRd))] (.ob (ptr w 0) r) [] (.v (O6 r).1) (.ob (ptr w 0) (O6 r).2):=⟨fun hh=>c5L w r⟩
instance (w:Nat)(r:SRd):CaM gl prog 316 [.ln (ptr w 0) (j9.id (α:=SRd))] (.ob (ptr w 0) r) [r.b.length≤1000000] (.v (a0b r).1) (.ob (ptr w 0) (a0b r).2):=⟨fun hh=>c0j w r hh.1⟩
def R9 (r:SRd):Int×SRd :=
 if (O6 r).2.e≠0 then (0,(O6 r).2) else if 64 < (O6 r).1 then (0,⟨(O6 r).2.b,2⟩) else O6 r
theorem c0k (w:Nat)(r:SRd):C6 gl prog 284 [.ln (ptr w 0) (j9.id (α:=SRd))] [.ob (ptr w 0) r] (fun y Hs=>y = .v (R9 r).1∧Hs = [.ob (ptr w 0) (R9 r).2]):=by
 refine .go func284 j0 24 [.tmp 2] j0 (by kernel_rfl) fun C hG=>(.z hG (by kernel_rfl) ⟨fun h => .z hG (by kernel_rfl) ⟨fun h2 => ?_,fun h2 => ?_⟩,fun h => .z hG (by kernel_rfl) ⟨fun h2 => ?_,fun h2 => ?_⟩⟩)
 ·unfold R9;rw [if_neg (by omega),if_pos h.2];exact P6.of [ptr w 0] ⟨rfl,rfl⟩
 ·exact absurd (show(2:Int)≠0 by decide) h2
 ·unfold R9;rw [if_pos h2];exact P6.of [ptr w 0] ⟨rfl,rfl⟩
 ·unfold R9;rw [if_neg h2,if_neg (by omega)];exact P6.of [ptr w 0] ⟨rfl,rfl⟩
def a2F (r:SRd):Tag×SRd :=
 if r.e≠0 then (default,r) else if r.b.length < 32 then (default,⟨r.b,3⟩) else (a0J default r.b,⟨r.b.drop 32,0⟩)
theorem c5M (w:Nat)(r:SRd)(hb:r.b.length≤9223372036854775807):C6 gl prog 293 [.ln (ptr w 0) (j9.id (α:=SRd))] [.ob (ptr w 0) r] (fun y Hs=>y = .v (a2F r).1∧Hs = [.ob (ptr w 0) (a2F r).2]):=by
 refine .go func293 rfl 34 [.cell 2 28] rfl (by kernel_rfl) fun C hG=>(.z hG (by kernel_rfl) fun b2 b3=>⟨fun h => .z hG (by kernel_rfl) ⟨fun h2=>absurd h2 (show ¬(3:Int)=0 by decide),fun h2 => .z hG (by kernel_rfl) ?_⟩,fun h => .z hG (by kernel_rfl) ⟨fun h2 => .z hG (by kernel_rfl) ?_,fun h2 => .z hG (by kernel_rfl) ?_⟩⟩)
 ·unfold a2F;rw [if_neg (by omega),if_pos (by omega)];exact P6.of [ptr w 0] ⟨rfl,rfl⟩
 ·refine⟨hb,⟨by omega,by omega⟩,?_⟩
  unfold a2F;rw [if_neg (by omega),if_neg (by omega)];exact P6.of [ptr w 0] ⟨rfl,rfl⟩
 ·unfold a2F;rw [if_pos h2];exact P6.of [ptr w 0] ⟨rfl,rfl⟩
instance (w:Nat)(r:SRd):CaM gl prog 284 [.ln (ptr w 0) (j9.id (α:=SRd))] (.ob (ptr w 0) r) [] (.v (R9 r).1) (.ob (ptr w 0) (R9 r).2):=⟨fun hh=>c0k w r⟩
instance (w:Nat)(r:SRd):CaM gl prog 293 [.ln (ptr w 0) (j9.id (α:=SRd))] (.ob (ptr w 0) r) [r.b.length≤9223372036854775807] (.v (a2F r).1) (.ob (ptr w 0) (a2F r).2):=⟨fun hh=>c5M w r hh.1⟩
section
variable {α:Type}[r:u3 α](b w:Nat)(x:α)(rd:SRd)
theorem c0l (l:j9 α Int)(lo hi:Int):C6 gl prog 287 [.v (C8.mk (PtV.at b l.off) lo hi),.ln (ptr w 0) (j9.id (α:=SRd))] [.ob (ptr b 0) x,.ob (ptr w 0) rd] (fun y Hs=>y = .raw (.tuple #[])∧Hs = [.ob (ptr b 0) (l.set (O6 rd).1 x),.ob (ptr w 0) (O6 rd).2]):=by
 have il:Q2 l l.get l.set:=⟨fun _=>rfl,fun _ _=>rfl⟩
 refine .go func287 j0 9 [] j0 (by kernel_rfl) fun C hG => ?_
 exact .z hG (by kernel_rfl) fun b1=>P6.of [ptr b 0,ptr w 0] ⟨j0,j0⟩
theorem c0m (l:j9 α (List UInt8))(hb:rd.b.length≤1000000):C6 gl prog 314 [.v (K0.mk (PtV.at b l.off)),.ln (ptr w 0) (j9.id (α:=SRd))] [.ob (ptr b 0) x,.ob (ptr w 0) rd] (fun y Hs=>y = .raw (.tuple #[])∧Hs = [.ob (ptr b 0) (l.set (a0b rd).1 x),.ob (ptr w 0) (a0b rd).2]):=by
 have il:Q2 l l.get l.set:=⟨fun _=>rfl,fun _ _=>rfl⟩
 refine .go func314 j0 9 [] j0 (by kernel_rfl) fun C hG => ?_
 exact .z hG (by kernel_rfl) fun b1=>⟨hb,P6.of [ptr b 0,ptr w 0] ⟨j0,j0⟩⟩
theorem c0n (l:j9 α Tag)(hb:rd.b.length≤1000000):C6 gl prog 291 [.v (J9.mk (PtV.at b l.off)),.ln (ptr w 0) (j9.id (α:=SRd))] [.ob (ptr b 0) x,.ob (ptr w 0) rd] (fun y Hs=>y = .raw (.tuple #[])∧Hs = [.ob (ptr b 0) (l.set (a2F rd).1 x),.ob (ptr w 0) (a2F rd).2]):=by
 have il:Q2 l l.get l.set:=⟨fun _=>rfl,fun _ _=>rfl⟩
 refine .go func291 j0 9 [] j0 (by kernel_rfl) fun C hG => ?_
 exact .z hG (by kernel_rfl) fun b1=>⟨by omega,P6.of [ptr b 0,ptr w 0] ⟨rfl,rfl⟩⟩
end
abbrev CRd:=E9
structure a2R (r:CRd):Prop where
 u0:0≤r.source.used
 u1:r.source.used≤r.source.b.length
 b:r.source.b.length≤1000000
def a2a (r:CRd):List UInt8:=r.source.b.drop r.source.used.toNat
theorem a2R.len {r:CRd}(h:a2R r):(a2a r).length=r.source.b.length - r.source.used.toNat:=by unfold a2a;simp
theorem c3d (w:Nat)(r:CRd)(h:a2R r):C6 gl prog 306 [.ln (ptr w 0) E9.l0] [.ob (ptr w 0) r] (fun y Hs=>y = .v (a2a r)∧Hs = [.ob (ptr w 0) r]):=by
 have e1:r.source.b.take ((r.source.b.length:Int)).toNat=r.source.b:=by simp
 refine .go func306 rfl 12 [.tmp 2] rfl (by kernel_rfl) fun C hG=>(.z hG (by kernel_rfl) ⟨h.u0,h.u1,by omega,?_⟩)
 rw [e1];exact P6.of [ptr w 0] ⟨rfl,rfl⟩
instance (w:Nat)(r:CRd):CaM gl prog 306 [.ln (ptr w 0) E9.l0] (.ob (ptr w 0) r) [a2R r] (.v (a2a r)) (.ob (ptr w 0) r):=⟨fun hh=>c3d w r hh.1⟩
def a5y (r:CRd)(u e:Int):CRd:=⟨⟨r.source.b,r.source.used+u⟩,e⟩
theorem a2R.c8b {r:CRd}(h:a2R r){u e:Int}(k:0≤u∧u≤(a2a r).length):a2R (a5y r u e):=by
 have h1:=h.len
 have h2:=h.u0
 have h3:=h.u1
 refine⟨?_,?_,h.b⟩<;>unfold a5y<;>dsimp only<;>omega
def M7 (r:CRd):Int×CRd:=if r.e≠0 then (0,r) else ((I6 (a2a r)).1,a5y r (I6 (a2a r)).2.1 (I6 (a2a r)).2.2)
theorem c5N (w:Nat)(r:CRd)(h:a2R r):C6 gl prog 303 [.ln (ptr w 0) (j9.id (α:=CRd))] [.ob (ptr w 0) r] (fun y Hs=>y = .v (M7 r).1∧Hs = [.ob (ptr w 0) (M7 r).2]):=by
 have h1:=h.len
 have h2:=h.u0
 have h3:=h.u1
 have h4:=h.b
 have h5:=a1g (a2a r)
 refine .go func303 j0 36 [.tmp 2] j0 (by kernel_rfl) fun C hG=>(.z hG (by kernel_rfl) ⟨fun h6 => ?_,fun h6=>⟨h,?_⟩⟩)
 ·unfold M7;rw [if_pos h6];exact P6.of [ptr w 0] ⟨rfl,rfl⟩
 ·unfold M7;rw [if_neg h6];exact⟨by omega,by omega,P6.of [ptr w 0] ⟨rfl,rfl⟩⟩
def S0 (r:CRd):List UInt8×CRd:=if r.e≠0 then ([],r) else ((Q4 (a2a r)).1,a5y r (Q4 (a2a r)).2.1 (Q4 (a2a r)).2.2)
theorem c0o (w:Nat)(r:CRd)(h:a2R r):C6 gl prog 305 [.ln (ptr w 0) (j9.id (α:=CRd))] [.ob (ptr w 0) r] (fun y Hs=>y = .v (S0 r).1∧Hs = [.ob (ptr w 0) (S0 r).2]):=by
 have h1:=h.len
 have h2:=h.u0
 have h3:=h.u1
 have h4:=h.b
 have h5:=a3x (a2a r)
 refine .go func305 rfl 36 [.tmp 2] rfl (by kernel_rfl) fun C hG=>(.z hG (by kernel_rfl) ⟨fun h6 => ?_,fun h6=>⟨h,by omega,?_⟩⟩)
 ·unfold S0;rw [if_pos h6];exact P6.of [ptr w 0] ⟨rfl,rfl⟩
 ·unfold S0;rw [if_neg h6];exact⟨by omega,by omega,P6.of [ptr w 0] ⟨rfl,rfl⟩⟩
theorem a2R.num {r:CRd}(h:a2R r):a2R (M7 r).2:=by
 unfold M7;split
 ·exact h
 ·exact h.c8b (a1g _)
theorem a2R.field {r:CRd}(h:a2R r):a2R (S0 r).2:=by
 unfold S0;split
 ·exact h
 ·exact h.c8b (a3x _)
instance (b:List UInt8):P9 gl prog 307 [.v b] [b.length≤1000000] (.t3 (.v (a0M b).1) (.v (a0M b).2.1) (.v (a0M b).2.2)):=⟨fun hh=>predDec3_c b hh.1⟩
instance (w:Nat)(r:CRd):CaM gl prog 303 [.ln (ptr w 0) (j9.id (α:=CRd))] (.ob (ptr w 0) r) [a2R r] (.v (M7 r).1) (.ob (ptr w 0) (M7 r).2):=⟨fun hh=>c5N w r hh.1⟩
instance (w:Nat)(r:CRd):CaM gl prog 305 [.ln (ptr w 0) (j9.id (α:=CRd))] (.ob (ptr w 0) r) [a2R r] (.v (S0 r).1) (.ob (ptr w 0) (S0 r).2):=⟨fun hh=>c0o w r hh.1⟩
instance (c:Cav):P9 gl prog 248 [.v c] [] (.v (S5 c)):=⟨fun hh=>a6A c⟩
def a3N (r:CRd):Pred×CRd:=((a0M (a2a r)).1,a5y r (a0M (a2a r)).2.1 (a0M (a2a r)).2.2)
theorem c3e (w:Nat)(r:CRd)(h:a2R r)(h5:0≤(a0M (a2a r)).2.1∧(a0M (a2a r)).2.1≤(a2a r).length):C6 gl prog 304 [.ln (ptr w 0) (j9.id (α:=CRd))] [.ob (ptr w 0) r] (fun y Hs=>y = .v (a3N r).1∧Hs = [.ob (ptr w 0) (a3N r).2]):=by
 have h1:=h.len
 have h2:=h.u0
 have h3:=h.u1
 have h4:=h.b
 refine .go func304 j0 31 [.cell 2 131] j0 (by kernel_rfl) fun C hG => ?_
 exact .z hG (by kernel_rfl) fun b2=>⟨h,by omega,fun b3=>⟨by omega,by omega,P6.of [ptr w 0] ⟨rfl,rfl⟩⟩⟩
instance (w:Nat)(r:CRd):CaM gl prog 304 [.ln (ptr w 0) (j9.id (α:=CRd))] (.ob (ptr w 0) r) [a2R r,0≤(a0M (a2a r)).2.1∧(a0M (a2a r)).2.1≤(a2a r).length] (.v (a3N r).1) (.ob (ptr w 0) (a3N r).2):=⟨fun hh=>c3e w r hh.1 hh.2.1⟩
def X5 (b:List UInt8):Cav×CRd :=
 if (M7 ⟨⟨b,0⟩,0⟩).2.e≠0 then (default,(M7 ⟨⟨b,0⟩,0⟩).2)
 else if (M7 ⟨⟨b,0⟩,0⟩).1=1 then ({ (default:Cav) with X3:=(a3N (M7 ⟨⟨b,0⟩,0⟩).2).1 },(a3N (M7 ⟨⟨b,0⟩,0⟩).2).2)
 else if (M7 ⟨⟨b,0⟩,0⟩).1=2 then ({ (default:Cav) with a0l:=true,U3:=(M7 (M7 ⟨⟨b,0⟩,0⟩).2).1,L7:=(S0 (M7 (M7 ⟨⟨b,0⟩,0⟩).2).2).1,O8:=(S0 (S0 (M7 (M7 ⟨⟨b,0⟩,0⟩).2).2).2).1 },(S0 (S0 (M7 (M7 ⟨⟨b,0⟩,0⟩).2).2).2).2)
 else (default,{ (M7 ⟨⟨b,0⟩,0⟩).2 with e:=6 })
section
variable {b:List UInt8}
theorem c0p (h:(M7 ⟨⟨b,0⟩,0⟩).2.e≠0):X5 b=(default,(M7 ⟨⟨b,0⟩,0⟩).2):=by unfold X5;rw [if_pos h]
theorem b2a (h:¬(M7 ⟨⟨b,0⟩,0⟩).2.e≠0)(h2:(M7 ⟨⟨b,0⟩,0⟩).1=1):X5 b=({ (default:Cav) with X3:=(a3N (M7 ⟨⟨b,0⟩,0⟩).2).1 },(a3N (M7 ⟨⟨b,0⟩,0⟩).2).2):=by unfold X5;rw [if_neg h,if_pos h2]
theorem b2b (h:¬(M7 ⟨⟨b,0⟩,0⟩).2.e≠0)(h2:¬(M7 ⟨⟨b,0⟩,0⟩).1=1)(h3:(M7 ⟨⟨b,0⟩,0⟩).1=2):X5 b=({ (default:Cav) with a0l:=true,U3:=(M7 (M7 ⟨⟨b,0⟩,0⟩).2).1,L7:=(S0 (M7 (M7 ⟨⟨b,0⟩,0⟩).2).2).1,O8:=(S0 (S0 (M7 (M7 ⟨⟨b,0⟩,0⟩).2).2).2).1 },(S0 (S0 (M7 (M7 ⟨⟨b,0⟩,0⟩).2).2).2).2):=by unfold X5;rw [if_neg h,if_neg h2,if_pos h3]
theorem c0q (h:¬(M7 ⟨⟨b,0⟩,0⟩).2.e≠0)(h2:¬(M7 ⟨⟨b,0⟩,0⟩).1=1)(h3:¬(M7 ⟨⟨b,0⟩,0⟩).1=2):X5 b=(default,{ (M7 ⟨⟨b,0⟩,0⟩).2 with e:=6 }):=by unfold X5;rw [if_neg h,if_neg h2,if_neg h3]
end
def a2S (q:Cav×CRd):Cav×Int×Int :=
 if q.2.e≠0 then (default,0,q.2.e) else if S5 q.1 then (q.1,q.2.source.used,0) else (default,0,5)
def Z2 (b:List UInt8):Cav×Int×Int:=a2S (X5 b)
theorem c3f (b:List UInt8)(hb:b.length≤1000000):C4 gl prog 302 [.v b] (fun r=>r = .t3 (.v (Z2 b).1) (.v (Z2 b).2.1) (.v (Z2 b).2.2)):=by
 refine .go func302 j0 71 [.cell 2 147,.tmp 3,.tmp 4] j0 (by kernel_rfl) fun C hG => ?_
 have h0:a2R ⟨⟨b,0⟩,0⟩:=⟨Int.le_refl 0,by simp,hb⟩
 have f5:∀ c r,X5 b=(c,r)→(r.e=0∧¬S5 c=true)→Z2 b=(default,0,5):=fun c r hq h=>by unfold Z2 a2S;rw [hq];dsimp only;rw [if_neg (by omega),if_neg h.2]
 have fe:∀ c r,X5 b=(c,r)→r.e≠0→Z2 b=(default,0,r.e):=fun c r hq h=>by unfold Z2 a2S;rw [hq];dsimp only;rw [if_pos h]
 have f0:∀ c r,X5 b=(c,r)→¬(r.e=0∧¬S5 c=true)→¬r.e≠0→Z2 b=(c,r.source.used,0):=fun c r hq h h2=>by unfold Z2 a2S;rw [hq];dsimp only;rw [if_neg h2,if_pos (Classical.byContradiction fun h3=>h ⟨Classical.not_not.1 h2,h3⟩)]
 have k1:a2R (M7 ⟨⟨b,0⟩,0⟩).2:=h0.num
 have k2:=k1.num
 have k3:=k2.field
 have k4:=b1Z (b:=a2a (M7 ⟨⟨b,0⟩,0⟩).2) (by rw [k1.len];have:=k1.b;omega)
 refine .z hG (by kernel_rfl) fun b2 b5 b6=>⟨h0,fun h1 => .z hG (by kernel_rfl) ?_,fun h1 => .z hG (by kernel_rfl) ⟨fun h2 => .z hG (by kernel_rfl) ⟨k1,k4,?_⟩,fun h2 => .z hG (by kernel_rfl) ⟨fun h3 => .z hG (by kernel_rfl) ⟨k1,k2,k3,?_⟩,fun h3 => .z hG (by kernel_rfl) ?_⟩⟩⟩
 ·have hq:=c0p h1
  exact⟨fun h8 => .z hG (by kernel_rfl) ⟨fun h9=>by rw [f5 _ _ hq h8],fun h9=>absurd (show(5:Int)≠0 by decide) h9⟩,fun h8 => .z hG (by kernel_rfl) ⟨fun h9=>by rw [fe _ _ hq h9];rfl,fun h9=>by rw [f0 _ _ hq h8 h9];rfl⟩⟩
 ·have hq:=b2a h1 h2
  exact⟨fun h8 => .z hG (by kernel_rfl) ⟨fun h9=>by rw [f5 _ _ hq h8],fun h9=>absurd (show(5:Int)≠0 by decide) h9⟩,fun h8 => .z hG (by kernel_rfl) ⟨fun h9=>by rw [fe _ _ hq h9];rfl,fun h9=>by rw [f0 _ _ hq h8 h9];rfl⟩⟩
 ·have hq:=c0q h1 h2 h3
  exact⟨fun h8 => .z hG (by kernel_rfl) ⟨fun h9=>by rw [f5 _ _ hq h8],fun h9=>absurd (show(5:Int)≠0 by decide) h9⟩,fun h8 => .z hG (by kernel_rfl) ⟨fun h9=>by rw [fe _ _ hq h9],fun h9=>absurd (show(6:Int)≠0 by decide) h9⟩⟩
 ·have hq:=b2b h1 h2 h3
  exact⟨fun h8 => .z hG (by kernel_rfl) ⟨fun h9=>by rw [f5 _ _ hq h8],fun h9=>absurd (show(5:Int)≠0 by decide) h9⟩,fun h8 => .z hG (by kernel_rfl) ⟨fun h9=>by rw [fe _ _ hq h9];rfl,fun h9=>by rw [f0 _ _ hq h8 h9];rfl⟩⟩
abbrev Rec:=u4
instance:c2B prog 270:=⟨_,underlying270,rfl⟩
instance:c2B prog 273:=⟨_,underlying273,rfl⟩
instance:c2B prog 279:=⟨_,underlying279,rfl⟩
instance:c2B prog 276:=⟨_,underlying276,rfl⟩
inductive Part where
 | num (l:j9 Rec Int) (lo hi:Int)
 | tag (l:j9 Rec Tag)
 | box (l:j9 Rec (List UInt8))
 | cav (l:j9 Rec (List Cav))
instance:Inhabited Part:=⟨.num u4.l1 0 0⟩
def Part.iv (b:Nat):Part→IfV
 | .num l lo hi=>b2N 270 (C8.mk (PtV.at b l.off) lo hi)
 | .tag l=>b2N 273 (J9.mk (PtV.at b l.off))
 | .box l=>b2N 279 (K0.mk (PtV.at b l.off))
 | .cav l=>b2N 276 (E7.mk (PtV.at b l.off))
def Q5:List Part := [.num (u4.l4.comp u9.l0) 1 1073741824,.num (u4.l4.comp u9.l1) 1 1000,.cav (u4.l4.comp u9.l2)]
def Q6:List Part := [.num (u4.l5.comp o7.l0) 1 4096,.num (u4.l5.comp o7.l1) 1 3,.num (u4.l5.comp o7.l2) 0 1000,.tag (u4.l5.comp o7.l3),.box (u4.l5.comp o7.l4),.tag (u4.l5.comp o7.l5)]
def C9 (k:Int):List Part:=if k=2 then Q5 else Q6
theorem c0r (b:Nat)(x:Rec)(hk:x.Kind=2∨x.Kind=4):C6 gl prog 154 [.ln (ptr b 0) (j9.id (α:=Rec))] [.ob (ptr b 0) x] (fun y Hs=>y = .vc ((C9 x.Kind).map (Part.iv b))∧Hs = [.ob (ptr b 0) x]):=by
 refine .go func154 j0 137 [.tmp 2] j0 (by kernel_rfl) fun C hG => ?_
 rcases hk with hk|hk
 ·rw [show C9 x.Kind=Q5 from if_pos hk]
  exact .z hG (by kernel_rfl) ⟨fun h=>absurd h (by omega),fun _=>⟨fun h=>absurd h (by omega),fun _=>⟨fun _=>P6.of [ptr b 0] ⟨j0,j0⟩,fun h=>absurd hk h⟩⟩⟩
 ·rw [show C9 x.Kind=Q6 from if_neg (by omega)]
  exact .z hG (by kernel_rfl) ⟨fun h=>absurd h (by omega),fun _=>⟨fun h=>absurd h (by omega),fun _=>⟨fun h=>absurd h (by omega),fun _=>⟨fun h=>absurd h (by omega),fun _=>⟨fun _=>P6.of [ptr b 0] ⟨j0,j0⟩,fun h=>absurd hk h⟩⟩⟩⟩⟩
def Part.clr (x:Rec):Part→Rec
 | .num l _ _=>l.set 0 x
 | .tag l=>l.set default x
 | .box l=>l.set [] x
 | .cav l=>l.set [] x
def Part.chk (x:Rec):Part→Int
 | .num l lo hi=>if l.get x < lo∨hi < l.get x then 1 else 0
 | .tag _=>0
 | .box l=>if 1024 < (l.get x).length then 2 else 0
 | .cav l=>if 64 < (l.get x).length then 2 else if (l.get x).all S5 then 0 else 5
def Part.put (x:Rec):Part→List UInt8
 | .num l _ _=>D5 (l.get x).toNat
 | .tag l=>(l.get x).l
 | .box l=>D5 (l.get x).length++l.get x
 | .cav l=>D5 (l.get x).length++((l.get x).map D9).flatten
def Part.ok:Part→Prop
 | .num _ lo hi=>0≤lo∧lo≤hi∧hi≤281474976710656
 | _=>True
theorem a36 (k:Int):∀ p∈C9 k,p.ok:=by
 unfold C9;split
 ·unfold Q5;intro p hp
  rcases List.mem_cons.1 hp with rfl|hp
  ·exact⟨by decide,by decide,by decide⟩
  rcases List.mem_cons.1 hp with rfl|hp
  ·exact⟨by decide,by decide,by decide⟩
  rcases List.mem_cons.1 hp with rfl|hp
  ·trivial
  ·cases hp
 ·unfold Q6;intro p hp
  rcases List.mem_cons.1 hp with rfl|hp
  ·exact⟨by decide,by decide,by decide⟩
  rcases List.mem_cons.1 hp with rfl|hp
  ·exact⟨by decide,by decide,by decide⟩
  rcases List.mem_cons.1 hp with rfl|hp
  ·exact⟨by decide,by decide,by decide⟩
  rcases List.mem_cons.1 hp with rfl|hp
  ·trivial
  rcases List.mem_cons.1 hp with rfl|hp
  ·trivial
  rcases List.mem_cons.1 hp with rfl|hp
  ·trivial
  ·cases hp
theorem a7t {α β:Type}[Inhabited α][Inhabited β](f:α→β){l:List α}{k:Nat}(h:k < l.length):(l.map f).getD k default=f (l.getD k default):=by
 rw [List.getD_eq_getElem?_getD,List.getD_eq_getElem?_getD,List.getElem?_map,List.getElem?_eq_getElem h];rfl
section
variable (b:Nat)(x:Rec)
theorem b8W {l:j9 Rec Int}{lo hi:Int}(hp:(Part.num l lo hi).ok):Exa.ok (C8.mk (PtV.at b l.off) lo hi):=by
 obtain⟨h1,h2,h3⟩:=hp
 exact⟨trivial,⟨show -9223372036854775808≤lo by omega,show lo≤9223372036854775807 by omega⟩,⟨show -9223372036854775808≤hi by omega,show hi≤9223372036854775807 by omega⟩,trivial⟩
theorem d0U (p:Part)(hp:p.ok):∃ t v f a,(p.iv b).v=some (t,v)∧a1Y prog t "macaroon/store.clear" f∧(∀ I,F9 I a v)∧C6 gl prog f [a] [.ob (ptr b 0) x] (fun y Hs=>y = .raw (.tuple #[])∧Hs = [.ob (ptr b 0) (p.clr x)]):=by
 cases p with
 | num l lo hi=>exact CaI.of (f:=286) (b8W b hp) (by kernel_rfl) underlying270 (b7m b x l lo hi)
 | tag l=>exact CaI.of (f:=290) ⟨trivial,trivial⟩ (by kernel_rfl) underlying273 (b7n b x l)
 | box l=>exact CaI.of (f:=313) ⟨trivial,trivial⟩ (by kernel_rfl) underlying279 (b7o b x l)
 | cav l=>exact CaI.of (f:=295) ⟨trivial,trivial⟩ (by kernel_rfl) underlying276 (b7p b x l)
theorem d0V (p:Part)(hp:p.ok):∃ t v f a,(p.iv b).v=some (t,v)∧a1Y prog t "macaroon/store.check" f∧(∀ I,F9 I a v)∧C6 gl prog f [a] [.ob (ptr b 0) x] (fun y Hs=>y = .v (p.chk x)∧Hs = [.ob (ptr b 0) x]):=by
 cases p with
 | num l lo hi=>exact CaI.of (f:=285) (b8W b hp) (by kernel_rfl) underlying270 (b7l b x l lo hi)
 | tag l=>exact CaI.of (f:=289) ⟨trivial,trivial⟩ (by kernel_rfl) underlying273 (b7q b x l)
 | box l=>exact CaI.of (f:=312) ⟨trivial,trivial⟩ (by kernel_rfl) underlying279 (b5c b x l)
 | cav l=>exact CaI.of (f:=294) ⟨trivial,trivial⟩ (by kernel_rfl) underlying276 (b7r b x l)
instance (n:Int)(k:Nat):CaI gl prog "macaroon/store.clear" (((C9 n).map (Part.iv b)).getD k default) [] [.ob (ptr b 0) x] [k < (C9 n).length] (.raw (.tuple #[])) [.ob (ptr b 0) (((C9 n).getD k default).clr x)]:=⟨fun hk=>by
 rw [a7t _ hk.1];exact d0U b x _ (a36 n _ (T7 hk.1))⟩
instance (n:Int)(k:Nat):CaI gl prog "macaroon/store.check" (((C9 n).map (Part.iv b)).getD k default) [] [.ob (ptr b 0) x] [k < (C9 n).length] (.v (((C9 n).getD k default).chk x)) [.ob (ptr b 0) x]:=⟨fun hk=>by
 rw [a7t _ hk.1];exact d0V b x _ (a36 n _ (T7 hk.1))⟩
instance (n:Int)(k:Nat)(H:j8)(ag:List AV)(ws:List Value)[b6C ag ws]:WiQ (((C9 n).map (Part.iv b)).getD k default) ag H (ptr b 0::ws):=⟨trivial⟩
end
instance (b:Nat)(x:Rec):CaM gl prog 154 [.ln (ptr b 0) (j9.id (α:=Rec))] (.ob (ptr b 0) x) [x.Kind=2∨x.Kind=4] (.vc ((C9 x.Kind).map (Part.iv b))) (.ob (ptr b 0) x):=⟨fun h=>c0r b x h.1⟩
theorem b7s (x y:Cav):C4 gl prog 264 [.v x,.v y] (fun r=>r = .v (decide (x=y))):=by
 have i_bytesEqual_c:∀ (a:List UInt8) (b:List UInt8),P9 gl prog 152 [.v a,.v b] [] (.v (decide (a=b))):=fun a b=>⟨fun hh=>a0L a b⟩
 refine .go func264 j0 38 [.tmp 4] j0 (by kernel_rfl) fun C hG=>(.z hG (by kernel_rfl) ?_)
 intro _ _
 congr 1
 cases x;cases y
 rw [Bool.eq_iff_iff]
 simp [and_assoc]
theorem c0s (a b:List Cav):C4 gl prog 257 [.v a,.v b] (fun r=>r = .v (decide (a=b))):=by
 have i1:Cl2 gl prog 264 [] _ inferInstance _ inferInstance _ inferInstance (fun (x y:Cav)=>decide (x=y)):=⟨b7s⟩
 have i_eqfCa_c:∀ (a:List y1) (b:List y1) (p:y1→y1→Bool),P9 gl prog 263 [.v a,.v b,.c2d prog p] [∀ x y,p x y=decide (x=y)] (.v (decide (a=b))):=fun a b p=>⟨fun hh=>c5A a b p hh.1⟩
 refine .go func257 j0 8 [.tmp 4] j0 (by kernel_rfl) fun C hG=>(.z hG (by kernel_rfl) ?_)
 exact⟨fun _ _=>j0,j0⟩
theorem c0t (a b:Rec):C4 gl prog 240 [.v a,.v b] (fun r=>r = .v (decide (a=b))):=by
 have i_cavSame_c:∀ (a:List Cav) (b:List Cav),P9 gl prog 257 [.v a,.v b] [] (.v (decide (a=b))):=fun a b=>⟨fun hh=>c0s a b⟩
 have i_bytesEqual_c:∀ (a:List UInt8) (b:List UInt8),P9 gl prog 152 [.v a,.v b] [] (.v (decide (a=b))):=fun a b=>⟨fun hh=>a0L a b⟩
 have i_eqTag_c:∀ (a:List (M4 32 UInt8)) (b:List (M4 32 UInt8)),P9 gl prog 256 [.v a,.v b] [] (.v (decide (a=b))):=fun a b=>⟨fun hh=>c5B a b⟩
 refine .go func240 j0 113 [.tmp 4] j0 (by kernel_rfl) fun C hG=>(.z hG (by kernel_rfl) ?_)
 intro _ _
 refine⟨⟨fun _ _=>by kernel_rfl,fun _ _=>by kernel_rfl,trivial⟩,fun nm => ?_⟩
 simp only [List.append_eq,List.cons_append,List.nil_append]
 refine .z hG (by kernel_rfl) ?_
 congr 1
 rw [Bool.eq_iff_iff]
 rcases a with ⟨a1,a2,a3,a4,⟨a5,a6,a7⟩,⟨a8,a9,a10,a11,a12,a13⟩,a14⟩
 rcases b with ⟨b1,b2,b3,b4,⟨b5,b6,b7⟩,⟨b8,b9,b10,b11,b12,b13⟩,b14⟩
 simp only [Bool.and_eq_true,decide_eq_true_eq,u4.mk.injEq,u9.mk.injEq,o7.mk.injEq]
 constructor
 ·rintro⟨⟨⟨⟨⟨⟨⟨⟨⟨⟨⟨⟨⟨h1,h2⟩,h3⟩,h4⟩,h5⟩,h6⟩,h7⟩,h8⟩,h9⟩,h10⟩,h11⟩,h12⟩,h13⟩,h14⟩
  exact⟨h1,h2,h3,h4,⟨h6,h7,h8⟩,⟨h9,h10,h11,h12,h14,h13⟩,h5⟩
 ·rintro⟨h1,h2,h3,h4,⟨h6,h7,h8⟩,⟨h9,h10,h11,h12,h14,h13⟩,h5⟩
  exact⟨⟨⟨⟨⟨⟨⟨⟨⟨⟨⟨⟨⟨h1,h2⟩,h3⟩,h4⟩,h5⟩,h6⟩,h7⟩,h8⟩,h9⟩,h10⟩,h11⟩,h12⟩,h13⟩,h14⟩
def c0u (r:Rec)(k:Nat):Rec:=((C9 r.Kind).take k).foldl (fun x p=>p.clr x) r
def a4A (r:Rec):Rec:=(C9 r.Kind).foldl (fun x p=>p.clr x) r
theorem a4B (n:Int):(C9 n).length≤7:=by unfold C9;split<;>simp [Q5,Q6]
theorem c3g (r:Rec){k:Nat}(h:(C9 r.Kind).length≤k):c0u r k=a4A r:=by unfold c0u a4A;rw [List.take_of_length_le h]
theorem c0v (r:Rec){k:Nat}(h:k < (C9 r.Kind).length):c0u r (k+1)=((C9 r.Kind).getD k default).clr (c0u r k):=by
 unfold c0u
 rw [List.take_add_one,List.foldl_append,List.getElem?_eq_getElem h,List.getD_eq_getElem?_getD,List.getElem?_eq_getElem h];rfl
def a1G (r:Rec):Bool := !decide ({ a4A r with Kind:=0 }=(default:Rec))
theorem c5O (r:Rec)(hk:r.Kind=2∨r.Kind=4):C4 gl prog 207 [.v r] (fun y=>y = .v (a1G r)):=by
 have i_recSame_c:∀ (a:Rec) (b:Rec),P9 gl prog 240 [.v a,.v b] [] (.v (decide (a=b))):=fun a b=>⟨fun hh=>c0t a b⟩
 refine .go func207 j0 19 [.tmp 2] j0 (by kernel_rfl) fun C hG=>(.z hG (by kernel_rfl) ?_)
 refine fun b=>⟨hk,?_⟩
 have hl:=a4B r.Kind
 refine .lp hG (fun k:Nat => [(7,.v (k:Int))]) (fun k => [(ptr b 0,.ob (ptr b 0) (c0u r k))]) (fun k=>k≤(C9 r.Kind).length) (fun k=>(C9 r.Kind).length - k) 0 (by kernel_rfl) ⟨rfl,rfl,by omega,fun k h1 => ?_⟩
 rw [Int.toNat_natCast]
 simp only [List.length_map]
 refine⟨fun h2=>⟨by omega,by omega,by omega,by omega,by omega,k+1,rfl,by rw [c0v r (by omega)],by omega,by omega⟩,fun h2 => ?_⟩
 rw [c3g r (by omega)];rfl
section
variable {α:Type}{r0:u3 α}(b:Nat)(x:α)
theorem b5f (l:j9 α Int)(lo hi:Int)(w:Value)(t:List UInt8)(hw:t.length≤900000)(h0:0≤l.get x)(h1:l.get x≤281474976710656):C6 gl prog 288 [.v (C8.mk (PtV.at b l.off) lo hi),.raw w] [.ob (ptr b 0) x,.own 5 w t] (fun y Hs=>∃ u,y = .raw u∧Hs = [.ob (ptr b 0) x,.own 5 u (t++D5 (l.get x).toNat)]):=by
 have il:Q2 l l.get l.set:=⟨fun _=>rfl,fun _ _=>rfl⟩
 have i_vrApp_own:∀ (b:List UInt8) (n:Int),CaN gl prog 197 [.v b,.v n] [b.length≤900000,0≤n,n≤281474976710656] (fun u => .t2 (.raw u) (.v (0:Int))) 5 _ _ ((b++D5 n.toNat)):=fun b n=>⟨fun hh=>a0i b n hh.1 hh.2.1 hh.2.2.1⟩
 refine .go func288 j0 15 [.tmp 4] j0 (by kernel_rfl) fun C hG => ?_
 exact .z hG (by kernel_rfl) fun b1=>⟨hw,h0,h1,fun u _=>P6.of [ptr b 0,u] ⟨u,j0,j0⟩⟩
theorem b5g (l:j9 α Tag)(w:Value)(t:List UInt8)(hw:t.length≤900000):C6 gl prog 292 [.v (J9.mk (PtV.at b l.off)),.raw w] [.ob (ptr b 0) x,.own 5 w t] (fun y Hs=>∃ u,y = .raw u∧Hs = [.ob (ptr b 0) x,.own 5 u (t++(l.get x).l)]):=by
 have il:Q2 l l.get l.set:=⟨fun _=>rfl,fun _ _=>rfl⟩
 refine .go func292 j0 11 [.tmp 4] j0 (by kernel_rfl) fun C hG => ?_
 have h32:=(l.get x).h
 exact .z hG (by kernel_rfl) fun b1=>⟨by rw [h32];omega,by rw [h32];omega,fun u=>P6.of [ptr b 0,u] ⟨u,rfl,rfl⟩⟩
theorem b5h (l:j9 α (List UInt8))(w:Value)(t:List UInt8)(hw:t.length≤800000)(h0:(l.get x).length≤1024):C6 gl prog 315 [.v (K0.mk (PtV.at b l.off)),.raw w] [.ob (ptr b 0) x,.own 5 w t] (fun y Hs=>∃ u,y = .raw u∧Hs = [.ob (ptr b 0) x,.own 5 u (t++D5 (l.get x).length++l.get x)]):=by
 have il:Q2 l l.get l.set:=⟨fun _=>rfl,fun _ _=>rfl⟩
 have i_field_own:∀ (b:List UInt8) (x:List UInt8),CaN gl prog 198 [.v b,.v x] [b.length≤800000,x.length≤1024] (fun u => .t2 (.raw u) (.v (0:Int))) 5 _ _ ((b++D5 x.length++x)):=fun b x=>⟨fun hh=>b1W b x hh.1 hh.2.1⟩
 refine .go func315 j0 15 [.tmp 4] j0 (by kernel_rfl) fun C hG => ?_
 exact .z hG (by kernel_rfl) fun b1=>⟨hw,h0,fun u _=>P6.of [ptr b 0,u] ⟨u,j0,j0⟩⟩
theorem b5i (l:j9 α (List Cav))(w:Value)(t:List UInt8)(hw:t.length≤700000)(h0:(l.get x).length≤64)(h1:∀ c∈l.get x,S5 c=true):C6 gl prog 297 [.v (E7.mk (PtV.at b l.off)),.raw w] [.ob (ptr b 0) x,.own 5 w t] (fun y Hs=>∃ u,y = .raw u∧Hs = [.ob (ptr b 0) x,.own 5 u (t++D5 (l.get x).length++((l.get x).map D9).flatten)]):=by
 have il:Q2 l l.get l.set:=⟨fun _=>rfl,fun _ _=>rfl⟩
 have i_vrApp_own:∀ (b:List UInt8) (n:Int),CaN gl prog 197 [.v b,.v n] [b.length≤900000,0≤n,n≤281474976710656] (fun u => .t2 (.raw u) (.v (0:Int))) 5 _ _ ((b++D5 n.toNat)):=fun b n=>⟨fun hh=>a0i b n hh.1 hh.2.1 hh.2.2.1⟩
 have i_cavEnc_c:∀ (c:Cav),P9 gl prog 226 [.v c] [] (.t2 (.v (V1 c).1) (.v (V1 c).2)):=fun c=>⟨fun hh=>b5b c⟩
 refine .go func297 rfl 38 [.tmp 4] rfl (by kernel_rfl) fun C hG=>(.z hG (by kernel_rfl) fun b1=>⟨by omega,by omega,by omega,fun u _ => ?_⟩)
 refine .lp hG (fun y:Nat×List UInt8×Value => [(24,.v (y.1:Int)),(1,.raw y.2.2)]) (fun y => [(u,.own 5 y.2.2 y.2.1)]) (fun y=>y.1≤(l.get x).length∧y.2.1.length≤700010+y.1*3000∧t++D5 (l.get x).length++((l.get x).map D9).flatten=y.2.1++(((l.get x).drop y.1).map D9).flatten) (fun y=>(l.get x).length - y.1) (0,t++D5 (l.get x).length,u) (by kernel_rfl) ⟨rfl,rfl,rfl,⟨by omega,?_,by simp⟩,fun ⟨k,acc,v⟩ ⟨h2,h3,h4⟩ => ?_⟩
 ·have:=H4 (n:=(l.get x).length) (by omega)
  simp only [List.length_append];omega
 dsimp only at h2 h3 h4 ⊢
 rw [Int.toNat_natCast]
 refine⟨fun h5 => ?_,fun h5=>P6.of [ptr b 0,v] ⟨v,j0,?_⟩⟩
 ·have hm:=h1 _ (T7 (l:=l.get x) (k:=k) (by omega))
  have hb:=a4z hm
  rw [a5R hm]
  dsimp only at h3 ⊢
  refine⟨by omega,h5,fun b8=>⟨by omega,by omega,fun v2=>⟨by omega,by omega,(k+1,_,v2),rfl,rfl,rfl,⟨by omega,by simp only [List.length_append];omega,?_⟩,by omega⟩⟩⟩
  rw [h4,a17 (by omega),List.map_cons,List.flatten_cons,List.append_assoc]
 ·rw [h4,List.drop_of_length_le (by omega)];simp
end
def Part.fit (x:Rec):Part→Prop
 | .num l _ _=>0≤l.get x∧l.get x≤281474976710656
 | .tag _=>True
 | .box l=>(l.get x).length≤1024
 | .cav l=>(l.get x).length≤64∧∀ c∈l.get x,S5 c=true
def Part.big:Part→Nat
 | .cav _=>134500
 | _=>1100
theorem Part.c8c {p:Part}{x:Rec}(h:p.fit x):(p.put x).length≤p.big:=by
 cases p with
 | num l lo hi=>have:=H4 (n:=(l.get x).toNat) (by have:=h.2;omega);show(D5 _).length≤1100;omega
 | tag l=>have:=(l.get x).h;show(l.get x).l.length≤1100;omega
 | box l =>
  have h:(l.get x).length≤1024:=h
  have:=H4 (n:=(l.get x).length) (by omega)
  show(D5 _++_).length≤1100
  simp only [List.length_append];omega
 | cav l =>
  have:=H4 (n:=(l.get x).length) (by have:=h.1;omega)
  have hc:∀ (cs:List Cav),(∀ c∈cs,S5 c=true)→((cs.map D9).flatten).length≤cs.length*2100:=fun cs=>by
   induction cs with
   | nil=>intro _;simp
   | cons c cs ih =>
    intro hh
    have:=a4z (hh c (by simp))
    have:=ih fun d hd=>hh d (by simp [hd])
    simp only [List.map_cons,List.flatten_cons,List.length_append,List.length_cons];omega
  have:=hc _ h.2
  have:=h.1
  show(D5 _++_).length≤134500
  simp only [List.length_append];omega
def b3n (r:Rec)(k:Nat):List UInt8:=(((C9 r.Kind).take k).map fun p=>p.put r).flatten
def M9 (r:Rec):List UInt8:=D5 r.Kind.toNat++((C9 r.Kind).map fun p=>p.put r).flatten
def Fits (r:Rec):Prop:=∀ p∈C9 r.Kind,p.fit r
theorem b8X (r:Rec):∀ (ps:List Part),(∀ p∈ps,p.fit r)→((ps.map fun p=>p.put r).flatten).length≤(ps.map Part.big).sum
 | [],_=>by simp
 | p::ps,h=>by
  have h1:=Part.c8c (h p (by simp))
  have h2:=b8X r ps fun q hq=>h q (by simp [hq])
  simp only [List.map_cons,List.flatten_cons,List.length_append,List.sum_cons];omega
theorem c8d (n:Int):((C9 n).map Part.big).sum≤140000:=by unfold C9;split<;>simp [Q5,Q6,Part.big]
theorem c3h (l:List Nat)(k:Nat):(l.take k).sum≤l.sum:=by
 conv=>rhs;rw [←List.take_append_drop k l,List.sum_append]
 omega
theorem b8Y {r:Rec}(h:Fits r)(k:Nat):(b3n r k).length≤140000:=by
 have h1:=b8X r _ fun p hp=>h p (List.mem_of_mem_take (i:=k) hp)
 have h2:=c3h ((C9 r.Kind).map Part.big) k
 rw [←List.map_take] at h2
 have h3:=c8d r.Kind
 exact Nat.le_trans h1 (Nat.le_trans h2 h3)
theorem c0w (r:Rec){k:Nat}(h:k < (C9 r.Kind).length):b3n r (k+1)=b3n r k++((C9 r.Kind).getD k default).put r:=by
 unfold b3n
 rw [List.take_add_one,List.map_append,List.flatten_append,List.getElem?_eq_getElem h,List.getD_eq_getElem?_getD,List.getElem?_eq_getElem h]
 simp
theorem b5j (r:Rec){k:Nat}(h:(C9 r.Kind).length≤k):D5 r.Kind.toNat++b3n r k=M9 r:=by unfold b3n M9;rw [List.take_of_length_le h]
section
variable (b:Nat)(x:Rec)(w:Value)(t:List UInt8)
theorem d3c (p:Part)(hp:p.ok)(hw:t.length≤700000)(hf:p.fit x):∃ tt v f a,(p.iv b).v=some (tt,v)∧a1Y prog tt "macaroon/store.write" f∧(∀ I,F9 I a v)∧C6 gl prog f [a,.raw w] [.ob (ptr b 0) x,.own 5 w t] (fun y Hs=>∃ u:Value,True∧y = .raw u∧Hs = [.ob (ptr b 0) x,.own 5 u (t++p.put x)] ++ []):=by
 have tr:∀ {f:FuncId} {ag:List AV} {Bs:List C3} {z:List UInt8},C6 gl prog f ag Bs (fun y Hs=>∃ u,y = .raw u∧Hs = [.ob (ptr b 0) x,.own 5 u z])→C6 gl prog f ag Bs (fun y Hs=>∃ u:Value,True∧y = .raw u∧Hs = [.ob (ptr b 0) x,.own 5 u z] ++ []):=fun h=>h.mono fun r Hs ⟨u,h1,h2⟩=>⟨u,trivial,h1,h2⟩
 cases p with
 | num l lo hi=>exact a7c.of (f:=288) (b8W b hp) (by kernel_rfl) underlying270 (tr (b5f b x l lo hi w t (by omega) hf.1 hf.2))
 | tag l=>exact a7c.of (f:=292) ⟨trivial,trivial⟩ (by kernel_rfl) underlying273 (tr (b5g b x l w t (by omega)))
 | box l=>exact a7c.of (f:=315) ⟨trivial,trivial⟩ (by kernel_rfl) underlying279 (tr (by have:=b5h b x l w t (by omega) hf;rwa [List.append_assoc] at this))
 | cav l=>exact a7c.of (f:=297) ⟨trivial,trivial⟩ (by kernel_rfl) underlying276 (tr (by have:=b5i b x l w t (by omega) hf.1 hf.2;rwa [List.append_assoc] at this))
instance (n:Int)(k:Nat):a7c gl prog "macaroon/store.write" (((C9 n).map (Part.iv b)).getD k default) [.raw w] [.ob (ptr b 0) x,.own 5 w t] Value [k < (C9 n).length,t.length≤700000,((C9 n).getD k default).fit x] (fun _=>True) (fun u => .raw u) (fun u => [.ob (ptr b 0) x,.own 5 u (t++((C9 n).getD k default).put x)]) (fun _ => []):=⟨fun hk=>by
 rw [a7t _ hk.1];exact d3c b x w t _ (a36 n _ (T7 hk.1)) hk.2.1 hk.2.2.1⟩
end
theorem b7t (n:Int)(h0:0≤n)(h1:n≤281474976710656):C6 gl prog 197 [.raw (.slice none 0 0),.v n] [] (fun r Hs=>∃ u,r = .t2 (.raw u) (.v (0:Int))∧Hs = [.own 5 u (D5 n.toNat)]):=(a0i [] n (Nat.zero_le _) h0 h1).d2Y
theorem a8R (r:Rec)(hk:r.Kind=2∨r.Kind=4)(hf:Fits r):C6 gl prog 159 [.v r] [] (fun y Hs=>∃ u,y = .raw u∧Hs = [.own 5 u (M9 r)]):=by
 have i_vrAppN_own:∀ (n:Int),CaN gl prog 197 [.raw (.slice none 0 0),.v n] [0≤n,n≤281474976710656] (fun u => .t2 (.raw u) (.v (0:Int))) 5 _ _ ((D5 n.toNat)):=fun n=>⟨fun hh=>b7t n hh.1 hh.2.1⟩
 refine .go func159 rfl 24 [.tmp 2] rfl (by kernel_rfl) fun C hG=>(.z hG (by kernel_rfl) fun b=>⟨by omega,by omega,fun u _=>⟨hk,?_⟩⟩)
 have hl:=a4B r.Kind
 have hn:=H4 (n:=r.Kind.toNat) (by omega)
 refine .lp hG (fun x:Nat×Value => [(15,.v (x.1:Int)),(3,.raw x.2)]) (fun x => [(u,.own 5 x.2 (D5 r.Kind.toNat++b3n r x.1))]) (fun x=>x.1≤(C9 r.Kind).length) (fun x=>(C9 r.Kind).length - x.1) (0,u) (by kernel_rfl) ⟨rfl,rfl,by show _=(true,C3.own _ u (D5 r.Kind.toNat++b3n r 0));rw [show b3n r 0 = [] from rfl,List.append_nil],by omega,fun ⟨k,v⟩ h1 => ?_⟩
 dsimp only at h1 ⊢
 rw [Int.toNat_natCast]
 simp only [List.length_map]
 have hp:=b8Y hf k
 refine⟨fun h2=>⟨by omega,by omega,by omega,by simp only [List.length_append];omega,hf _ (T7 (by omega)),fun v2 _=>⟨by omega,by omega,(k+1,v2),rfl,rfl,?_,by show k+1≤_;omega,by show _ - (k+1) < _;omega⟩⟩,fun h2=>P6.of [v] ⟨v,rfl,?_⟩⟩
 ·rw [c0w r (by omega),List.append_assoc]
 ·rw [b5j r (by omega)]
theorem c8e (b:Nat)(x:Rec)(n:Int)(k:Nat)(e:Int)(hk:k < (C9 n).length):C6 gl prog 209 [.v (((C9 n).map (Part.iv b)).getD k default),.p e] [.ob (ptr b 0) x] (fun y Hs=>y = .v (decide (((C9 n).getD k default).chk x=e))∧Hs = [.ob (ptr b 0) x]):=by
 refine .go func209 j0 8 [.tmp 3] j0 (by kernel_rfl) fun C hG => ?_
 exact .z hG (by kernel_rfl) ⟨hk,P6.of [ptr b 0] ⟨j0,j0⟩⟩
instance (b:Nat)(x:Rec)(n:Int)(k:Nat)(e:Int):CaE gl prog 209 [.v (((C9 n).map (Part.iv b)).getD k default),.p e] [.ob (ptr b 0) x] [k < (C9 n).length] (.v (decide (((C9 n).getD k default).chk x=e))) [.ob (ptr b 0) x]:=⟨fun h=>c8e b x n k e h.1⟩
instance (b:Nat)(n:Int)(k:Nat)(e:Int)(H:j8):WnQ 209 [.v (((C9 n).map (Part.iv b)).getD k default),.p e] H [ptr b 0]:=⟨trivial⟩
def a4V (x:Rec)(n:Int)(e:Int):Bool:=(C9 n).any fun p=>decide (p.chk x=e)
theorem c0x (b:Nat)(x:Rec)(n:Int)(e:Int):C6 gl prog 241 [.v ((C9 n).map (Part.iv b)),.v (FnC.mk' 209 e)] [.ob (ptr b 0) x] (fun y Hs=>y = .v (idx (C9 n) fun p=>decide (p.chk x=e))∧Hs = [.ob (ptr b 0) x]):=by
 refine .go func241 j0 19 [.tmp 4] j0 (by kernel_rfl) fun C hG=>(.z hG (by kernel_rfl) ?_)
 have hl:=a4B n
 refine .lp hG (fun k:Nat => [(8,.v (k:Int))]) (fun k => []) (fun k=>k≤(C9 n).length∧∀ j (hj:j < (C9 n).length),j < k→decide (((C9 n)[j]).chk x=e)=false) (fun k=>(C9 n).length - k) 0 (by kernel_rfl) ⟨rfl,by simp,fun k ⟨h1,h2⟩ => ?_⟩
 rw [Int.toNat_natCast]
 simp only [List.length_map]
 refine⟨fun h3=>⟨by omega,by omega,by omega,fun h4 => ?_,fun h4=>⟨by omega,by omega,k+1,rfl,⟨by omega,fun j hj hjk => ?_⟩,by omega⟩⟩,fun h3 => ?_⟩
 ·rw [b0s (by omega) (by simpa [show k < (C9 n).length by omega] using h4) h2];exact P6.of [ptr b 0] ⟨rfl,rfl⟩
 ·rcases Nat.lt_or_ge j k with h|h
  ·exact h2 j hj h
  ·obtain rfl:j=k:=by omega
   simpa [hj] using h4
 ·rw [a5m fun j hj=>h2 j hj (by omega)];exact P6.of [ptr b 0] ⟨rfl,rfl⟩
instance (b:Nat)(x:Rec)(n:Int)(e:Int):CaE gl prog 241 [.v ((C9 n).map (Part.iv b)),.v (FnC.mk' 209 e)] [.ob (ptr b 0) x] [] (.v (idx (C9 n) fun p=>decide (p.chk x=e))) [.ob (ptr b 0) x]:=⟨fun h=>c0x b x n e⟩
instance (b:Nat)(n:Int)(e:Int)(H:j8):WnQ 241 [.v ((C9 n).map (Part.iv b)),.v (FnC.mk' 209 e)] H [ptr b 0]:=⟨trivial⟩
theorem c0y (b:Nat)(x:Rec)(n:Int)(e:Int):C6 gl prog 208 [.v ((C9 n).map (Part.iv b)),.v (FnC.mk' 209 e)] [.ob (ptr b 0) x] (fun y Hs=>y = .v (a4V x n e)∧Hs = [.ob (ptr b 0) x]):=by
 refine .go func208 j0 9 [.tmp 4] j0 (by kernel_rfl) fun C hG=>(.z hG (by kernel_rfl) ?_)
 refine P6.of [ptr b 0] ⟨?_,rfl⟩
 congr 1
 rw [b8M]
 rfl
instance (b:Nat)(x:Rec)(n:Int)(e:Int):CaE gl prog 208 [.v ((C9 n).map (Part.iv b)),.v (FnC.mk' 209 e)] [.ob (ptr b 0) x] [] (.v (a4V x n e)) [.ob (ptr b 0) x]:=⟨fun h=>c0y b x n e⟩
instance (b:Nat)(n:Int)(e:Int)(H:j8):WnQ 208 [.v ((C9 n).map (Part.iv b)),.v (FnC.mk' 209 e)] H [ptr b 0]:=⟨trivial⟩
def K6 (r:Rec):Int:=if a1G r then 9 else if a4V r r.Kind 1 then 1 else if a4V r r.Kind 2 then 2 else if a4V r r.Kind 5 then 5 else if 4096 < (M9 r).length then 2 else 0
theorem b8Z {r:Rec}(h1:a4V r r.Kind 1=false)(h2:a4V r r.Kind 2=false)(h5:a4V r r.Kind 5=false):Fits r:=by
 intro p hp
 have ho:=a36 _ p hp
 have g1:p.chk r≠1:=fun h=>(List.any_eq_false.1 h1 p hp) (decide_eq_true h)
 have g2:p.chk r≠2:=fun h=>(List.any_eq_false.1 h2 p hp) (decide_eq_true h)
 have g5:p.chk r≠5:=fun h=>(List.any_eq_false.1 h5 p hp) (decide_eq_true h)
 cases p with
 | num l lo hi =>
  obtain⟨o1,o2,o3⟩:=ho
  simp only [Part.chk] at g1
  show 0≤l.get r∧l.get r≤281474976710656
  split at g1<;>omega
 | tag l=>trivial
 | box l =>
  simp only [Part.chk] at g2
  show(l.get r).length≤1024
  split at g2<;>omega
 | cav l =>
  simp only [Part.chk] at g2 g5
  by_cases hl:64 < (l.get r).length
  ·simp [hl] at g2
  ·rw [if_neg hl] at g5
   exact⟨by omega,by simpa using g5⟩
theorem b9a (r:Rec)(hk:r.Kind=2∨r.Kind=4):C4 gl prog 155 [.v r] (fun y=>y = .v (K6 r)):=by
 have:ExF 209:=⟨trivial⟩
 have:FzR 9 5:=⟨trivial⟩
 have i_extra_c:∀ (r:Rec),P9 gl prog 207 [.v r] [r.Kind=2∨r.Kind=4] (.v (a1G r)):=fun r=>⟨fun hh=>c5O r hh.1⟩
 have i_encoded_own:∀ (r:Rec),CaN gl prog 159 [.v r] [r.Kind=2∨r.Kind=4,Fits r] (fun u => .raw u) 5 _ _ ((M9 r)):=fun r=>⟨fun hh=>a8R r hh.1 hh.2.1⟩
 refine .go func155 j0 26 [.tmp 2] j0 (by kernel_rfl) fun C hG=>(.z hG (by kernel_rfl) fun b=>⟨hk,fun b' hb'=>⟨fun hb => ?_,fun _=>⟨hk,fun hx => ?_,fun hx => ?_⟩⟩⟩)
 ·have h0:=hb' hb
  unfold C9 at h0
  split at h0<;>cases h0
 ·unfold K6;rw [if_pos hx]
 refine .lp hG (fun k:Nat => [(14,.v (k:Int))]) (fun k => []) (fun k=>k≤3∧(0 < k→a4V r r.Kind 1=false)∧(1 < k→a4V r r.Kind 2=false)∧(2 < k→a4V r r.Kind 5=false)) (fun k=>3 - k) 0 (by kernel_rfl) ⟨rfl,by omega,fun k ⟨h1,h2,h3,h4⟩ => ?_⟩
 refine⟨fun h5=>⟨by omega,by omega,fun _ => ?_⟩,fun h5 => ?_⟩
 ·rw [Int.toNat_natCast]
  have e:(Q8 (Q8 (Q8 (default:M4 3 Int) 0 1) 1 2) 2 5).l = [1,2,5]:=rfl
  rw [e]
  match k,h1,h5 with
  | 0,_,_=>exact⟨fun h=>by have h:a4V r r.Kind 1=true:=h;unfold K6;rw [if_neg hx,if_pos h];rfl,fun h=>⟨by omega,by omega,1,rfl,⟨by omega,fun _=>by simpa using h,fun h=>absurd h (by omega),fun h=>absurd h (by omega)⟩,by omega⟩⟩
  | 1,_,_=>exact⟨fun h=>by have h:a4V r r.Kind 2=true:=h;unfold K6;rw [if_neg hx,h2 (by omega),if_neg (by simp),if_pos h];rfl,fun h=>⟨by omega,by omega,2,rfl,⟨by omega,fun _=>h2 (by omega),fun _=>by simpa using h,fun h=>absurd h (by omega)⟩,by omega⟩⟩
  | 2,_,_=>exact⟨fun h=>by have h:a4V r r.Kind 5=true:=h;unfold K6;rw [if_neg hx,h2 (by omega),h3 (by omega),if_neg (by simp),if_neg (by simp),if_pos h];rfl,fun h=>⟨by omega,by omega,3,rfl,⟨by omega,fun _=>h2 (by omega),fun _=>h3 (by omega),fun _=>by simpa using h⟩,by omega⟩⟩
  | k+3,h,h'=>omega
 ·have q1:=h2 (by omega)
  have q2:=h3 (by omega)
  have q5:=h4 (by omega)
  refine⟨hk,b8Z q1 q2 q5,fun _ _=>⟨fun h => ?_,fun h => ?_⟩⟩
  ·unfold K6;rw [if_neg hx,q1,q2,q5,if_neg (by simp),if_neg (by simp),if_neg (by simp),if_pos (by omega)]
  ·unfold K6;rw [if_neg hx,q1,q2,q5,if_neg (by simp),if_neg (by simp),if_neg (by simp),if_neg (by omega)]
def U5 (r:Rec):List UInt8×Int:=if K6 r≠0 then ([],K6 r) else (M9 r,0)
theorem a9C {r:Rec}(h:K6 r=0):Fits r:=by
 unfold K6 at h
 split at h
 ·omega
 split at h
 ·omega
 next h1 =>
 split at h
 ·omega
 next h2 =>
 split at h
 ·omega
 next h5=>exact b8Z (by simpa using h1) (by simpa using h2) (by simpa using h5)
theorem b5k (r:Rec)(hk:r.Kind=2∨r.Kind=4):C4 gl prog 102 [.v r] (fun y=>y = .t2 (.v (U5 r).1) (.v (U5 r).2)):=by
 have encoded_c:∀ (r:Rec) (hk:r.Kind=2∨r.Kind=4) (hf:Fits r),C4 gl prog 159 [.v r] (fun y=>y = .v (M9 r)):=fun r hk hf=>(a8R r hk hf).b2O
 have i2:∀ r:Rec,P9 gl prog 159 [.v r] [r.Kind=2∨r.Kind=4,Fits r] (.v (M9 r)):=fun r=>⟨fun h=>encoded_c r h.1 h.2.1⟩
 have i_check_c:∀ (r:Rec),P9 gl prog 155 [.v r] [r.Kind=2∨r.Kind=4] (.v (K6 r)):=fun r=>⟨fun hh=>b9a r hh.1⟩
 refine .go func102 j0 12 [.tmp 2,.tmp 3] j0 (by kernel_rfl) fun C hG=>(.z hG (by kernel_rfl) ?_)
 refine fun _=>⟨hk,fun h => ?_,fun h=>⟨hk,a9C (Classical.not_not.1 h),?_⟩⟩
 ·unfold U5;rw [if_pos h]
 ·unfold U5;rw [if_neg h]
theorem c3i {r:Rec}(h:Fits r)(hk:r.Kind=2∨r.Kind=4):(M9 r).length≤140007:=by
 have h1:=b8Y h (C9 r.Kind).length
 rw [←b5j r (Nat.le_refl _)]
 have:=H4 (n:=r.Kind.toNat) (by omega)
 simp only [List.length_append];omega
theorem a8S {r:Rec}(hk:r.Kind=2∨r.Kind=4):(U5 r).1.length≤140007:=by
 unfold U5
 split
 ·simp
 next h=>exact c3i (a9C (Classical.not_not.1 h)) hk
def a02 (d:l9)(r:Rec):l9×Int:=if (U5 r).2≠0 then (d,(U5 r).2) else a2N d (U5 r).1
theorem c3j (d:l9)(r:Rec)(hk:r.Kind=2∨r.Kind=4)(h:V5 d)(ha:d.B3=0∨d.B3=1)(hw : -1000000000≤d.C7∧d.C7≤1000000000):C4 gl prog 131 [.v d,.v r] (fun x=>x = .t2 (.v (a02 d r).1) (.v (a02 d r).2)):=by
 have i_encode_c:∀ (r:Rec),P9 gl prog 102 [.v r] [r.Kind=2∨r.Kind=4] (.t2 (.v (U5 r).1) (.v (U5 r).2)):=fun r=>⟨fun hh=>b5k r hh.1⟩
 have i_dvCopied2_c:∀ (d:l9),P9 gl prog 103 [.v d] [V5 d] (.v d):=fun d=>⟨fun hh=>a8O d hh.1⟩
 have i_jAppend_c:∀ (d:l9) (r:List UInt8),P9 gl prog 185 [.v d,.v r] [V5 d,d.B3=0∨d.B3=1,r.length≤100000000,-1000000000≤d.C7∧d.C7≤1000000000] (.t2 (.v (a2N d r).1) (.v (a2N d r).2)):=fun d r=>⟨fun hh=>b9X d r hh.1 hh.2.1 hh.2.2.1 hh.2.2.2.1⟩
 have hl:=a8S hk
 refine .go func131 rfl 23 [.cell 4 37,.tmp 5] rfl (by kernel_rfl) fun C hG=>(.z hG (by kernel_rfl) fun _ _ _=>⟨hk,fun h5=>⟨h,?_⟩,fun h5=>⟨h,ha,by omega,hw,?_⟩⟩)
 ·unfold a02;rw [if_pos h5]
 ·unfold a02;rw [if_neg h5]
def S8:List Rec→List (List UInt8)×Int
 | []=>([],0)
 | r::l=>if (U5 r).2≠0 then ([],(U5 r).2) else if (S8 l).2≠0 then ([],(S8 l).2) else ((U5 r).1::(S8 l).1,0)
theorem b3o (l:List Rec):S8 l=if (S8 l).2≠0 then ([],(S8 l).2) else ((S8 l).1,0):=by
 cases l with
 | nil=>rfl
 | cons r l=>rw [S8];repeat' split<;>simp_all
def T8 (d:l9)(l:List Rec):l9×Int:=if (S8 l).2≠0 then (d,(S8 l).2) else a1E d (S8 l).1
theorem c0z (d:l9)(l:List Rec)(hk:∀ r∈l,r.Kind=2∨r.Kind=4)(hl:l.length≤10000)(h:V5 d)(ha:d.B3=0∨d.B3=1)(hw : -1000000000≤d.C7∧d.C7≤1000000000):C4 gl prog 52 [.v d,.v l] (fun x=>x = .t2 (.v (T8 d l).1) (.v (T8 d l).2)):=by
 have i6:a1Z 6:=⟨trivial⟩
 have i10:FzW 10 6:=⟨trivial⟩
 have i_encode_c:∀ (r:Rec),P9 gl prog 102 [.v r] [r.Kind=2∨r.Kind=4] (.t2 (.v (U5 r).1) (.v (U5 r).2)):=fun r=>⟨fun hh=>b5k r hh.1⟩
 have i_dvCopied2_c:∀ (d:l9),P9 gl prog 103 [.v d] [V5 d] (.v d):=fun d=>⟨fun hh=>a8O d hh.1⟩
 have i_jReplace_c:∀ (d:l9) (l:List (List UInt8)),P9 gl prog 104 [.v d,.v l] [V5 d,d.B3=0∨d.B3=1,∀ r∈l,r.length≤100000000,l.length≤10000,-1000000000≤d.C7∧d.C7≤1000000000] (.t2 (.v (a1E d l).1) (.v (a1E d l).2)):=fun d l=>⟨fun hh=>b6R d l hh.1 hh.2.1 hh.2.2.1 hh.2.2.2.1 hh.2.2.2.2.1⟩
 refine .go func52 j0 37 [.cell 4 37,.tmp 5] j0 (by kernel_rfl) fun C hG=>(.z hG (by kernel_rfl) fun b2 b4 => ?_)
 refine .lp hG (fun x:Nat×List (List UInt8)×Value => [(13,.v (x.1:Int)),(6,.raw x.2.2)]) (fun x => [(.slice none 0 0,.own 34 x.2.2 x.2.1)]) (fun x=>x.1≤l.length∧x.2.1.length=x.1∧(∀ r∈x.2.1,r.length≤140007)∧S8 l=if (S8 (l.drop x.1)).2≠0 then ([],(S8 (l.drop x.1)).2) else (x.2.1++(S8 (l.drop x.1)).1,0)) (fun x=>l.length - x.1) (0,[],.slice none 0 0) (by kernel_rfl)
  ⟨rfl,rfl,⟨by omega,rfl,by simp,b3o l⟩,fun ⟨k,acc,w⟩ ⟨h1,h2,h0,h3⟩ => ?_⟩
 dsimp only at h1 h2 h0 h3 ⊢
 refine⟨fun h4 => ?_,fun h4 => ?_⟩
 ·rw [Int.toNat_natCast]
  have hm:=hk _ (T7 (l:=l) (k:=k) (by omega))
  have hf:=a8S hm
  rw [a17 (by omega),S8] at h3
  refine⟨by omega,h4,fun _=>⟨hm,fun h5=>⟨h,?_⟩,fun h5 _=>⟨by simp only [List.length_singleton];omega,by simp only [List.length_singleton];omega,fun w2=>⟨by omega,by omega,(k+1,_,w2),rfl,rfl,rfl,⟨by show k+1≤_;omega,by simp only [List.length_append,List.length_singleton];omega,fun r hr => ?_,?_⟩,by show _ - (k+1) < _;omega⟩⟩⟩⟩
  ·rw [if_pos (by rw [if_pos h5];exact h5),if_pos h5] at h3
   unfold T8;rw [h3,if_pos h5]
  ·rcases List.mem_append.1 hr with hr|hr
   ·exact h0 r hr
   ·rw [List.mem_singleton.1 hr];exact hf
  ·rw [h3,if_neg h5]
   by_cases h6:(S8 (l.drop (k+1))).2≠0
   ·rw [if_pos h6,if_pos h6,if_pos h6]
   ·rw [if_neg h6,if_neg h6,if_neg (by simp),List.append_assoc];rfl
 ·rw [List.drop_of_length_le (by omega)] at h3
  have h3:S8 l=(acc,0):=by rw [h3];simp [S8]
  refine⟨h,ha,fun r hr=>Nat.le_trans (h0 r hr) (by decide),by omega,hw,?_⟩
  unfold T8;rw [h3];rfl
structure H5 where
 O0:Int
 M6:Int
 y5:O5
def H5.f (x:H5):Int×Int×O5×Unit:=(x.O0,x.M6,x.y5,())
instance:Inhabited H5:=⟨⟨default,default,default⟩⟩
instance:u3 H5:=u3.via H5.f
instance:K4 H5:=K4.via H5.f rfl
def H5.l0:j9 H5 Int:=j9.via H5.f j9.fst (fun x=>x.O0) (fun y x => { x with O0:=y }) (fun _=>rfl) (fun _ _=>rfl)
def H5.l1:j9 H5 Int:=j9.via H5.f (j9.snd.comp j9.fst) (fun x=>x.M6) (fun y x => { x with M6:=y }) (fun _=>rfl) (fun _ _=>rfl)
def H5.l2:j9 H5 O5:=j9.via H5.f (j9.snd.comp (j9.snd.comp j9.fst)) (fun x=>x.y5) (fun y x => { x with y5:=y }) (fun _=>rfl) (fun _ _=>rfl)
structure B4 where
 Kind:Int
 Number:Int
 Key:(M4 32 UInt8)
 Node:(M4 32 UInt8)
 M3:H5
 Item:o7
 a2C:(List (M4 32 UInt8))
def B4.f (x:B4):Int×Int×(M4 32 UInt8)×(M4 32 UInt8)×H5×o7×(List (M4 32 UInt8))×Unit:=(x.Kind,x.Number,x.Key,x.Node,x.M3,x.Item,x.a2C,())
instance:Inhabited B4:=⟨⟨default,default,default,default,default,default,default⟩⟩
instance:u3 B4:=u3.via B4.f
instance:K4 B4:=K4.via B4.f rfl
def B4.l0:j9 B4 Int:=j9.via B4.f j9.fst (fun x=>x.Kind) (fun y x => { x with Kind:=y }) (fun _=>rfl) (fun _ _=>rfl)
def B4.l1:j9 B4 Int:=j9.via B4.f (j9.snd.comp j9.fst) (fun x=>x.Number) (fun y x => { x with Number:=y }) (fun _=>rfl) (fun _ _=>rfl)
def B4.l2:j9 B4 (M4 32 UInt8):=j9.via B4.f (j9.snd.comp (j9.snd.comp j9.fst)) (fun x=>x.Key) (fun y x => { x with Key:=y }) (fun _=>rfl) (fun _ _=>rfl)
def B4.l3:j9 B4 (M4 32 UInt8):=j9.via B4.f (j9.snd.comp (j9.snd.comp (j9.snd.comp j9.fst))) (fun x=>x.Node) (fun y x => { x with Node:=y }) (fun _=>rfl) (fun _ _=>rfl)
def B4.l4:j9 B4 H5:=j9.via B4.f (j9.snd.comp (j9.snd.comp (j9.snd.comp (j9.snd.comp j9.fst)))) (fun x=>x.M3) (fun y x => { x with M3:=y }) (fun _=>rfl) (fun _ _=>rfl)
def B4.l5:j9 B4 o7:=j9.via B4.f (j9.snd.comp (j9.snd.comp (j9.snd.comp (j9.snd.comp (j9.snd.comp j9.fst))))) (fun x=>x.Item) (fun y x => { x with Item:=y }) (fun _=>rfl) (fun _ _=>rfl)
theorem d0X:K1 prog 75 O5 := .ok (by kernel_rfl)
instance:TyR prog 75:=⟨d0X⟩
instance:FdS prog 114 0 H5.l0 (fun x=>x.O0):=⟨.ok b8b rfl fun _=>rfl⟩
instance:FdS prog 114 1 H5.l1 (fun x=>x.M6):=⟨.ok b8c rfl fun _=>rfl⟩
instance:FdS prog 114 2 H5.l2 (fun x=>x.y5):=⟨.ok b8d rfl fun _=>rfl⟩
theorem c8f:K1 prog 116 B4 := .ok (by kernel_rfl)
instance:TyK prog 116 B4:=⟨c8f⟩
instance:FdS prog 116 0 B4.l0 (fun x=>x.Kind):=⟨.ok b8e rfl fun _=>rfl⟩
instance:Q2 B4.l0 (fun x=>x.Kind) (fun y x => { x with Kind:=y }):=⟨fun _=>rfl,fun _ _=>rfl⟩
instance:FdS prog 116 1 B4.l1 (fun x=>x.Number):=⟨.ok b8f rfl fun _=>rfl⟩
instance:FdS prog 116 2 B4.l2 (fun x=>x.Key):=⟨.ok b8g rfl fun _=>rfl⟩
instance:FdS prog 116 3 B4.l3 (fun x=>x.Node):=⟨.ok b8h rfl fun _=>rfl⟩
instance:FdS prog 116 4 B4.l4 (fun x=>x.M3):=⟨.ok b8i rfl fun _=>rfl⟩
instance:FdS prog 116 5 B4.l5 (fun x=>x.Item):=⟨.ok b8j rfl fun _=>rfl⟩
abbrev a6E:=B4
theorem b9b (r:CRd):(M7 r).2.source.b=r.source.b:=by unfold M7;split<;>rfl
theorem b2c (r:CRd):(S0 r).2.source.b=r.source.b:=by unfold S0;split<;>rfl
theorem b5l (b:List UInt8)(hb:b.length≤1000000):0≤(Z2 b).2.1∧(Z2 b).2.1≤b.length:=by
 have h0:a2R ⟨⟨b,0⟩,0⟩:=⟨Int.le_refl 0,by simp,hb⟩
 have hq:∀ q:Cav×CRd,q.2.source.b=b→a2R q.2→0≤(a2S q).2.1∧(a2S q).2.1≤b.length:=fun q e h=>by
  have h1:=h.u0
  have h2:=h.u1
  rw [e] at h2
  unfold a2S
  split
  ·simp
  ·split
   ·exact⟨h1,h2⟩
   ·simp
 have k1:a2R (M7 ⟨⟨b,0⟩,0⟩).2:=h0.num
 have k2:=k1.num
 have k3:=k2.field
 have k4:=b1Z (b:=a2a (M7 ⟨⟨b,0⟩,0⟩).2) (by rw [k1.len];have:=k1.b;omega)
 have e1:(M7 ⟨⟨b,0⟩,0⟩).2.source.b=b:=b9b _
 refine hq (X5 b) ?_ ?_
 ·unfold X5
  repeat' split
  ·exact e1
  ·exact e1
  ·exact(b2c _).trans ((b2c _).trans ((b9b _).trans e1))
  ·exact e1
 ·unfold X5
  repeat' split
  ·exact k1
  ·exact k1.c8b k4
  ·exact k3.field
  ·exact⟨k1.u0,k1.u1,k1.b⟩
def a1H (r:SRd):Cav×SRd:=if r.e≠0 then (default,r) else ((Z2 r.b).1,⟨r.b.drop (Z2 r.b).2.1.toNat,(Z2 r.b).2.2⟩)
theorem c5P (w:Nat)(r:SRd)(hb:r.b.length≤1000000):C6 gl prog 300 [.ln (ptr w 0) (j9.id (α:=SRd))] [.ob (ptr w 0) r] (fun y Hs=>y = .v (a1H r).1∧Hs = [.ob (ptr w 0) (a1H r).2]):=by
 have i_cavDec_c:∀ (b:List UInt8),P9 gl prog 302 [.v b] [b.length≤1000000] (.t3 (.v (Z2 b).1) (.v (Z2 b).2.1) (.v (Z2 b).2.2)):=fun b=>⟨fun hh=>c3f b hh.1⟩
 refine .go func300 j0 26 [.cell 2 147] j0 (by kernel_rfl) fun C hG=>(.z hG (by kernel_rfl) fun b2=>⟨fun h => ?_,fun h=>⟨hb,fun b3=>⟨b5l _ hb,?_⟩⟩⟩)
 ·unfold a1H;rw [if_pos h];exact P6.of [ptr w 0] ⟨rfl,rfl⟩
 ·unfold a1H;rw [if_neg h];exact P6.of [ptr w 0] ⟨rfl,rfl⟩
instance (w:Nat)(r:SRd):CaM gl prog 300 [.ln (ptr w 0) (j9.id (α:=SRd))] (.ob (ptr w 0) r) [r.b.length≤1000000] (.v (a1H r).1) (.ob (ptr w 0) (a1H r).2):=⟨fun hh=>c5P w r hh.1⟩
def a2b:Nat→SRd→List Cav×SRd
 | 0,r=>([],r)
 | n+1,r=>((a1H r).1::(a2b n (a1H r).2).1,(a2b n (a1H r).2).2)
def a3y (r:SRd):List Cav×SRd:=a2b (R9 r).1.toNat (R9 r).2
theorem a8k (r:SRd):(O6 r).2.b.length≤r.b.length:=by unfold O6;split<;>simp
theorem a8T (r:SRd):(R9 r).2.b.length≤r.b.length:=by
 have:=a8k r
 unfold R9;repeat' split
 ·exact this
 ·exact this
 ·exact this
theorem c3k (b:List UInt8):0≤(I6 b).1∧(I6 b).1≤281474976710656:=by
 unfold I6
 repeat' split
 ·simp
 ·simp
 ·simp
 ·simp
 next h=>exact⟨Int.natCast_nonneg _,by show((a19 (b.take (U4 b+1)):Nat):Int)≤_;omega⟩
theorem c0A (r:SRd):0≤(O6 r).1∧(O6 r).1≤281474976710656:=by
 unfold O6;split
 ·simp
 ·exact c3k _
theorem a8U (r:SRd):0≤(R9 r).1∧(R9 r).1≤64:=by
 have:=c0A r
 unfold R9;repeat' split
 ·simp
 ·simp
 ·omega
theorem b2d (r:SRd):(a1H r).2.b.length≤r.b.length:=by unfold a1H;split<;>simp
theorem c0B {α:Type}[r0:u3 α](b w:Nat)(x:α)(l:j9 α O5)(rd:SRd)(v:Value)(L:List Cav)(hg:∀ s,l.get (l.set s x)=s)(hs:∀ s t,l.set s (l.set t x)=l.set s x)(hL:L.length≤1000)(hb:rd.b.length≤1000000) :
    C6 gl prog 296 [.v (E7.mk (PtV.at b l.off)),.ln (ptr w 0) (j9.id (α:=SRd))] [.ob (ptr b 0) (l.set ⟨v⟩ x),.ob (ptr w 0) rd,.P4 v (GS.mk 147 L)] (fun y Hs=>∃ u:Value,y = .raw (.tuple #[])∧Hs = [.ob (ptr b 0) (l.set ⟨u⟩ x),.ob (ptr w 0) (a3y rd).2,.P4 u (GS.mk 147 (L++(a3y rd).1))]):=by
  have il:Q2 l l.get l.set:=⟨fun _=>rfl,fun _ _=>rfl⟩
  have is:∀ u,c7M (l.get (l.set ⟨u⟩ x)) u:=fun u=>⟨by rw [hg]⟩
  refine .go func296 j0 22 [] j0 (by kernel_rfl) fun C hG=>(.z hG (by kernel_rfl) fun b2=>(.lp hG (fun y:Nat×List Cav×Value×SRd => [(4,.v (y.1:Int))]) (fun y => [(ptr b 0,.ob (ptr b 0) (l.set ⟨y.2.2.1⟩ x)),(ptr w 0,.ob (ptr w 0) y.2.2.2),(v,.P4 y.2.2.1 (GS.mk 147 y.2.1))]) (fun y=>y.1≤64∧y.2.1.length+y.1≤1064∧y.2.2.2.b.length≤1000000∧L++(a3y rd).1=y.2.1++(a2b y.1 y.2.2.2).1∧(a3y rd).2=(a2b y.1 y.2.2.2).2) (fun y=>y.1) ((R9 rd).1.toNat,L,v,(R9 rd).2) (by kernel_rfl) ?_))
  have hc:=a8U rd
  have hcl:=a8T rd
  refine⟨by rw [Int.toNat_of_nonneg hc.1],⟨by show(R9 rd).1.toNat≤64;omega,by show L.length+(R9 rd).1.toNat≤1064;omega,Nat.le_trans hcl hb,rfl,rfl⟩,fun ⟨k,A,u,q⟩ ⟨h1,h2,h3,h4,h5⟩ => ?_⟩
  dsimp only at h1 h2 h3 h4 h5 ⊢
  refine⟨fun h6=>⟨h3,by simp only [List.length_singleton];omega,by simp only [List.length_singleton];omega,⟨fun _ _=>by kernel_rfl,trivial⟩,fun nm=>⟨by omega,by omega,(k - 1,A ++ [(a1H q).1],(nm (0+1+1+1+1+1+1+1+1+1)).fst,(a1H q).2),?_,?_,rfl,rfl,⟨?_,?_,?_,?_,?_⟩,?_⟩⟩,fun h6 => ?_⟩
  · show AV.v _=AV.v ((k - 1:Nat):Int)
    congr 1;omega
  · rw [hs]
  · show k - 1≤64;omega
  · show(A ++ [(a1H q).1]).length+(k - 1)≤1064
    simp only [List.length_append,List.length_singleton];omega
  · exact Nat.le_trans (b2d q) h3
  · obtain⟨k,rfl⟩:∃ j,k=j+1:=⟨k - 1,by omega⟩
    rw [h4]
    show A++(a2b (k+1) q).1=(A ++ [(a1H q).1])++(a2b (k+1 - 1) (a1H q).2).1
    rw [a2b,List.append_assoc];rfl
  · obtain⟨k,rfl⟩:∃ j,k=j+1:=⟨k - 1,by omega⟩
    rw [h5];rfl
  · show k - 1 < k;omega
  · have e:k=0:=by omega
    subst e
    have e4:L++(a3y rd).1=A:=by rw [h4];exact List.append_nil A
    have e5:(a3y rd).2=q:=h5
    rw [e4,e5]
    exact P6.of [ptr b 0,ptr w 0,u] ⟨u,rfl,rfl⟩
def toR (x:Rec)(v:Value):a6E:=⟨x.Kind,x.Number,x.Key,x.Node,⟨x.M3.O0,x.M3.M6,⟨v⟩⟩,x.Item,x.a2C⟩
theorem b7u (b:Nat)(x:Rec)(v:Value)(hk:x.Kind=2∨x.Kind=4):C6 gl prog 154 [.ln (ptr b 0) (j9.id (α:=a6E))] [.ob (ptr b 0) (toR x v)] (fun y Hs=>y = .vc ((C9 x.Kind).map (Part.iv b))∧Hs = [.ob (ptr b 0) (toR x v)]):=by
 refine .go func154 j0 137 [.tmp 2] j0 (by kernel_rfl) fun C hG => ?_
 have e:(toR x v).Kind=x.Kind:=rfl
 rcases hk with hk|hk
 ·rw [show C9 x.Kind=Q5 from if_pos hk]
  refine .z hG (by kernel_rfl) ?_
  rw [e]
  exact⟨fun h=>absurd h (by omega),fun _=>⟨fun h=>absurd h (by omega),fun _=>⟨fun _=>P6.of [ptr b 0] ⟨j0,j0⟩,fun h=>absurd hk h⟩⟩⟩
 ·rw [show C9 x.Kind=Q6 from if_neg (by omega)]
  refine .z hG (by kernel_rfl) ?_
  rw [e]
  exact⟨fun h=>absurd h (by omega),fun _=>⟨fun h=>absurd h (by omega),fun _=>⟨fun h=>absurd h (by omega),fun _=>⟨fun h=>absurd h (by omega),fun _=>⟨fun _=>P6.of [ptr b 0] ⟨j0,j0⟩,fun h=>absurd hk h⟩⟩⟩⟩⟩
def Part.rd (x:Rec)(r:SRd):Part→Rec×SRd
 | .num l _ _=>(l.set (O6 r).1 x,(O6 r).2)
 | .tag l=>(l.set (a2F r).1 x,(a2F r).2)
 | .box l=>(l.set (a0b r).1 x,(a0b r).2)
 | .cav l=>(l.set (l.get x++(a3y r).1) x,(a3y r).2)
section
variable (b w:Nat)(x:Rec)(v:Value)(rd:SRd)
def a8V (p:Part):Prop:=∃ tt vv f a,(p.iv b).v=some (tt,vv)∧a1Y prog tt "macaroon/store.read" f∧(∀ I,F9 I a vv)∧C6 gl prog f [a,.ln (ptr w 0) (j9.id (α:=SRd))] [.ob (ptr b 0) (toR x v),.ob (ptr w 0) rd,.P4 v (GS.mk 147 x.M3.y5)]
 (fun y Hs=>∃ u:Value,True∧y = .raw (.tuple #[])∧Hs = [.ob (ptr b 0) (toR (p.rd x rd).1 u),.ob (ptr w 0) (p.rd x rd).2,.P4 u (GS.mk 147 (p.rd x rd).1.M3.y5)] ++ [])
theorem b0H (l:j9 Rec Int)(l':j9 a6E Int)(lo hi:Int)(ho:l'.off=l.off)(hs:∀ n,l'.set n (toR x v)=toR (l.set n x) v)(hc:∀ n,(l.set n x).M3.y5=x.M3.y5)(hp:(Part.num l lo hi).ok):a8V b w x v rd (.num l lo hi):=by
 have h:=C6.frame (.P4 v (GS.mk 147 x.M3.y5)) (c0l b w (toR x v) rd l' lo hi)
 rw [ho] at h
 unfold a8V
 refine a7c.of (f:=287) (b8W b hp) (by kernel_rfl) underlying270 (h.mono fun y Hs q => ?_)
 obtain⟨Hs0,rfl,rfl,rfl⟩:=q
 refine⟨v,True.intro,Eq.refl _,?_⟩
 rw [hs]
 show _ = [_,_,C3.P4 v (GS.mk _ (l.set (O6 rd).1 x).M3.y5)]
 rw [hc];rfl
theorem c3l (l:j9 Rec Tag)(l':j9 a6E Tag)(hb:rd.b.length≤1000000)(ho:l'.off=l.off)(hs:∀ n,l'.set n (toR x v)=toR (l.set n x) v)(hc:∀ n,(l.set n x).M3.y5=x.M3.y5):a8V b w x v rd (.tag l):=by
 have h:=C6.frame (.P4 v (GS.mk 147 x.M3.y5)) (c0n b w (toR x v) rd l' hb)
 rw [ho] at h
 unfold a8V
 refine a7c.of (f:=291) ⟨trivial,trivial⟩ (by kernel_rfl) underlying273 (h.mono fun y Hs q => ?_)
 obtain⟨Hs0,rfl,rfl,rfl⟩:=q
 refine⟨v,True.intro,Eq.refl _,?_⟩
 rw [hs]
 show _ = [_,_,C3.P4 v (GS.mk _ (l.set (a2F rd).1 x).M3.y5)]
 rw [hc];rfl
theorem c8g (l:j9 Rec (List UInt8))(l':j9 a6E (List UInt8))(hb:rd.b.length≤1000000)(ho:l'.off=l.off)(hs:∀ n,l'.set n (toR x v)=toR (l.set n x) v)(hc:∀ n,(l.set n x).M3.y5=x.M3.y5):a8V b w x v rd (.box l):=by
 have h:=C6.frame (.P4 v (GS.mk 147 x.M3.y5)) (c0m b w (toR x v) rd l' hb)
 rw [ho] at h
 unfold a8V
 refine a7c.of (f:=314) ⟨trivial,trivial⟩ (by kernel_rfl) underlying279 (h.mono fun y Hs q => ?_)
 obtain⟨Hs0,rfl,rfl,rfl⟩:=q
 refine⟨v,True.intro,Eq.refl _,?_⟩
 rw [hs]
 show _ = [_,_,C3.P4 v (GS.mk _ (l.set (a0b rd).1 x).M3.y5)]
 rw [hc];rfl
theorem c8h (hb:rd.b.length≤1000000)(hL:x.M3.y5.length≤1000):a8V b w x v rd (.cav (u4.l4.comp u9.l2)):=by
 have h:=c0B b w (toR x v) (B4.l4.comp H5.l2) rd v x.M3.y5 (fun _=>rfl) (fun _ _=>rfl) hL hb
 refine a7c.of (f:=296) ⟨trivial,trivial⟩ (by kernel_rfl) underlying276 (h.mono fun y Hs q => ?_)
 obtain⟨u,rfl,rfl⟩:=q
 exact⟨u,trivial,j0,j0⟩
theorem d0Y (n:Int)(hb:rd.b.length≤1000000)(hL:x.M3.y5.length≤1000):∀ p∈C9 n,a8V b w x v rd p:=by
 intro p hp
 have ho:=a36 n p hp
 revert hp;unfold C9;split
 ·unfold Q5;intro hp
  rcases List.mem_cons.1 hp with rfl|hp
  ·exact b0H b w x v rd _ (B4.l4.comp H5.l0) _ _ rfl (fun _=>rfl) (fun _=>rfl) ho
  rcases List.mem_cons.1 hp with rfl|hp
  ·exact b0H b w x v rd _ (B4.l4.comp H5.l1) _ _ rfl (fun _=>rfl) (fun _=>rfl) ho
  rcases List.mem_cons.1 hp with rfl|hp
  ·exact c8h b w x v rd hb hL
  ·cases hp
 ·unfold Q6;intro hp
  rcases List.mem_cons.1 hp with rfl|hp
  ·exact b0H b w x v rd _ (B4.l5.comp o7.l0) _ _ rfl (fun _=>rfl) (fun _=>rfl) ho
  rcases List.mem_cons.1 hp with rfl|hp
  ·exact b0H b w x v rd _ (B4.l5.comp o7.l1) _ _ rfl (fun _=>rfl) (fun _=>rfl) ho
  rcases List.mem_cons.1 hp with rfl|hp
  ·exact b0H b w x v rd _ (B4.l5.comp o7.l2) _ _ rfl (fun _=>rfl) (fun _=>rfl) ho
  rcases List.mem_cons.1 hp with rfl|hp
  ·exact c3l b w x v rd _ (B4.l5.comp o7.l3) hb rfl (fun _=>rfl) (fun _=>rfl)
  rcases List.mem_cons.1 hp with rfl|hp
  ·exact c8g b w x v rd _ (B4.l5.comp o7.l4) hb rfl (fun _=>rfl) (fun _=>rfl)
  rcases List.mem_cons.1 hp with rfl|hp
  ·exact c3l b w x v rd _ (B4.l5.comp o7.l5) hb rfl (fun _=>rfl) (fun _=>rfl)
  ·cases hp
instance (n:Int)(k:Nat):a7c gl prog "macaroon/store.read" (((C9 n).map (Part.iv b)).getD k default) [.ln (ptr w 0) (j9.id (α:=SRd))] [.ob (ptr b 0) (toR x v),.ob (ptr w 0) rd,.P4 v (GS.mk 147 x.M3.y5)] Value [k < (C9 n).length,rd.b.length≤1000000,x.M3.y5.length≤1000] (fun _=>True) (fun u => .raw (.tuple #[])) (fun u => [.ob (ptr b 0) (toR (((C9 n).getD k default).rd x rd).1 u),.ob (ptr w 0) (((C9 n).getD k default).rd x rd).2,.P4 u (GS.mk 147 (((C9 n).getD k default).rd x rd).1.M3.y5)]) (fun _ => []):=⟨fun hk=>by
 rw [a7t _ hk.1];exact d0Y b w x v rd n hk.2.1 hk.2.2.1 _ (T7 hk.1)⟩
end
instance (x:Rec)(v:Value):d0R (toR x v) v:=⟨trivial⟩
theorem c0C (x:Rec)(v:Value)(I:Fl.Im)(cs:List Value)(h:u3.rep I (toR x v) cs)(hv:F9 I (.v x.M3.y5) v):u3.rep I x cs:=by
 obtain⟨x1,x2,x3,x4,⟨x5,x6,x7⟩,x8,x9⟩:=x
 obtain⟨c1,r1,rfl,h1,c2,r2,rfl,h2,c3,r3,rfl,h3,c4,r4,rfl,h4,c5,r5,rfl,⟨d1,s1,rfl,g1,d2,s2,rfl,g2,d3,s3,rfl,g3,g4⟩,hr⟩:=h
 obtain⟨ws,⟨u,rfl,hu⟩,e⟩:=hv
 have e:v=u:=e
 subst e
 have g3:d3 = [v]:=g3.1
 subst g3
 exact⟨c1,_,j0,h1,c2,_,j0,h2,c3,_,j0,h3,c4,_,j0,h4,_,r5,j0,⟨d1,_,j0,g1,d2,_,j0,g2,[v],s3,j0,⟨v,j0,hu⟩,g4⟩,hr⟩
instance (x:Rec)(v:Value):d0S (α:=a6E) inferInstance (toR x v) v inferInstance x.M3.y5 Rec inferInstance x:=⟨c0C x v⟩
instance (b:Nat)(x:Rec)(v:Value):CaM gl prog 154 [.ln (ptr b 0) (j9.id (α:=a6E))] (.ob (ptr b 0) (toR x v)) [x.Kind=2∨x.Kind=4] (.vc ((C9 x.Kind).map (Part.iv b))) (.ob (ptr b 0) (toR x v)):=⟨fun h=>b7u b x v h.1⟩
instance (priority:=high)(n:Int)(b w k:Nat)(H:j8)(v:Value)[us:UsQ H v]:WiQ (((C9 n).map (Part.iv b)).getD k default) [.ln (ptr w 0) (j9.id (α:=SRd))] H [ptr b 0,ptr w 0,v]:=⟨trivial⟩
def rdK (n:Int)(q:Rec×SRd)(k:Nat):Rec×SRd:=((C9 n).take k).foldl (fun q p=>p.rd q.1 q.2) q
def a0T (b:List UInt8):Rec×SRd:=({ (default:Rec) with Kind:=(O6 ⟨b,0⟩).1 },(O6 ⟨b,0⟩).2)
def a4W (b:List UInt8):Rec×SRd:=rdK (a0T b).1.Kind (a0T b) (C9 (a0T b).1.Kind).length
def a3O (b:List UInt8):Int:=if (a4W b).2.e≠0 then (a4W b).2.e else if (a4W b).2.b ≠ [] then 4 else K6 (a4W b).1
def a0N (b:List UInt8):Rec×Int:=if a3O b≠0 then (default,a3O b) else ((a4W b).1,0)
theorem b5m (r:SRd):(a0b r).2.b.length≤r.b.length:=by unfold a0b;split<;>simp
theorem c0D (r:SRd):(a2F r).2.b.length≤r.b.length:=by
 unfold a2F;split
 ·exact Nat.le_refl _
 ·split
  ·exact Nat.le_refl _
  ·simp
theorem b0I:∀ (n:Nat) (r:SRd),(a2b n r).2.b.length≤r.b.length∧(a2b n r).1.length=n
 | 0,r=>⟨Nat.le_refl _,rfl⟩
 | n+1,r=>by
  have h1:=b0I n (a1H r).2
  have h2:=b2d r
  rw [a2b]
  exact⟨Nat.le_trans h1.1 h2,by rw [List.length_cons,h1.2]⟩
theorem b2e (r:SRd):(a3y r).2.b.length≤r.b.length∧(a3y r).1.length≤64:=by
 have h1:=b0I (R9 r).1.toNat (R9 r).2
 have h2:=a8T r
 have h3:=a8U r
 unfold a3y
 exact⟨Nat.le_trans h1.1 h2,by rw [h1.2];omega⟩
theorem d3d (p:Part)(x:Rec)(r:SRd):(p.rd x r).2.b.length≤r.b.length:=by
 cases p with
 | num l lo hi=>exact a8k r
 | tag l=>exact c0D r
 | box l=>exact b5m r
 | cav l=>exact(b2e r).1
theorem d3e (n:Int)(x:Rec)(r:SRd):∀ p∈C9 n,(p.rd x r).1.Kind=x.Kind∧(p.rd x r).1.M3.y5.length≤x.M3.y5.length+64:=by
 intro p hp
 have hc:=b2e r
 revert hp;unfold C9;split
 ·unfold Q5;intro hp
  rcases List.mem_cons.1 hp with rfl|hp
  ·exact⟨j0,Nat.le_add_right _ _⟩
  rcases List.mem_cons.1 hp with rfl|hp
  ·exact⟨j0,Nat.le_add_right _ _⟩
  rcases List.mem_cons.1 hp with rfl|hp
  ·refine⟨j0,?_⟩
   show(x.M3.y5++(a3y r).1).length≤_
   rw [List.length_append];omega
  ·cases hp
 ·unfold Q6;intro hp
  rcases List.mem_cons.1 hp with rfl|hp
  ·exact⟨j0,Nat.le_add_right _ _⟩
  rcases List.mem_cons.1 hp with rfl|hp
  ·exact⟨j0,Nat.le_add_right _ _⟩
  rcases List.mem_cons.1 hp with rfl|hp
  ·exact⟨j0,Nat.le_add_right _ _⟩
  rcases List.mem_cons.1 hp with rfl|hp
  ·exact⟨j0,Nat.le_add_right _ _⟩
  rcases List.mem_cons.1 hp with rfl|hp
  ·exact⟨j0,Nat.le_add_right _ _⟩
  rcases List.mem_cons.1 hp with rfl|hp
  ·exact⟨j0,Nat.le_add_right _ _⟩
  ·cases hp
theorem a7u (n:Int)(q:Rec×SRd){k:Nat}(h:k < (C9 n).length):rdK n q (k+1)=((C9 n).getD k default).rd (rdK n q k).1 (rdK n q k).2:=by
 unfold rdK
 rw [List.take_add_one,List.foldl_append,List.getElem?_eq_getElem h,List.getD_eq_getElem?_getD,List.getElem?_eq_getElem h];rfl
theorem c3m (n:Int)(q:Rec×SRd):∀ k,k≤(C9 n).length→(rdK n q k).1.Kind=q.1.Kind∧(rdK n q k).1.M3.y5.length≤q.1.M3.y5.length+64*k∧(rdK n q k).2.b.length≤q.2.b.length
 | 0,_=>⟨rfl,Nat.le_refl _,Nat.le_refl _⟩
 | k+1,h=>by
  obtain⟨h1,h2,h3⟩:=c3m n q k (by omega)
  rw [a7u n q (by omega)]
  have h4:=d3e n (rdK n q k).1 (rdK n q k).2 _ (T7 (l:=C9 n) (k:=k) (by omega))
  have h5:=d3d ((C9 n).getD k default) (rdK n q k).1 (rdK n q k).2
  exact⟨h4.1.trans h1,by omega,by omega⟩
theorem c3n (b:List UInt8)(hb:b.length≤1000000)(hk:(O6 ⟨b,0⟩).1=2∨(O6 ⟨b,0⟩).1=4):C4 gl prog 98 [.v b] (fun y=>y = .t2 (.v (a0N b).1) (.v (a0N b).2)):=by
 have i5:AlR 5 a6E inferInstance:=⟨trivial⟩
 have i14:AlR 14 a6E inferInstance:=⟨trivial⟩
 have pl:PlR 11 5:=⟨trivial⟩
 have i_check_c:∀ (r:Rec),P9 gl prog 155 [.v r] [r.Kind=2∨r.Kind=4] (.v (K6 r)):=fun r=>⟨fun hh=>b9a r hh.1⟩
 refine .go func98 j0 75 [.cell 2 116,.tmp 3] j0 (by kernel_rfl) fun C hG=>(.d0Q (α:=Cav) (r:=inferInstance) 147 (.z hG (by kernel_rfl) fun b1 b2 b3 => ?_))
 rw [show B4.mk (O6 ⟨b,(default:SRd).e⟩).1 (default:a6E).Number (default:a6E).Key (default:a6E).Node (default:a6E).M3 (default:a6E).Item (default:a6E).a2C=toR (a0T b).1 (.slice none 0 0) from rfl,show(O6 ⟨b,(default:SRd).e⟩).2=(a0T b).2 from rfl]
 have hk':(a0T b).1.Kind=2∨(a0T b).1.Kind=4:=hk
 refine wpB.z hG (by kernel_rfl) ⟨hk',?_⟩
 have hne:(C9 (a0T b).1.Kind).map (Part.iv b3) ≠ []:=by
  unfold C9;split<;>simp [Q5,Q6]
 refine⟨fun _=>hne,fun h=>absurd h.2 (by simp),fun _ => ?_⟩
 refine .z hG (by kernel_rfl) ?_
 refine .lp hG (fun y:Nat×Value => [(30,.v (y.1:Int))]) (fun y => [(ptr b3 0,.ob (ptr b3 0) (toR (rdK (a0T b).1.Kind (a0T b) y.1).1 y.2)),(ptr b2 0,.ob (ptr b2 0) (rdK (a0T b).1.Kind (a0T b) y.1).2),(.slice none 0 0,.P4 y.2 (GS.mk 147 (rdK (a0T b).1.Kind (a0T b) y.1).1.M3.y5))])
  (fun y=>y.1≤(C9 (a0T b).1.Kind).length) (fun y=>(C9 (a0T b).1.Kind).length - y.1) (0,.slice none 0 0) (by kernel_rfl) ?_
 have hlen:=a4B (a0T b).1.Kind
 have hr0:(a0T b).2.b.length≤1000000:=Nat.le_trans (a8k _) hb
 refine⟨j0,j0,j0,j0,Nat.zero_le _,fun ⟨k,v⟩ h1 => ?_⟩
 dsimp only at h1 ⊢
 obtain⟨q1,q2,q3⟩:=c3m (a0T b).1.Kind (a0T b) k h1
 rw [Int.toNat_natCast]
 simp only [List.length_map]
 have hc0:(a0T b).1.M3.y5.length=0:=rfl
 refine⟨fun h2=>⟨by omega,by omega,by omega,by omega,by omega,fun v2 _=>⟨by omega,by omega,(k+1,v2),rfl,?_,?_,?_,by show k+1≤_;omega,by show _ - (k+1) < _;omega⟩⟩,fun h2 => ?_⟩
 ·rw [a7u _ _ (by omega)]
 ·rw [a7u _ _ (by omega)]
 ·rw [a7u _ _ (by omega)]
 ·obtain rfl:k=(C9 (a0T b).1.Kind).length:=by omega
  have er:rdK (a0T b).1.Kind (a0T b) (C9 (a0T b).1.Kind).length=a4W b:=rfl
  rw [er] at q1 q2 q3 ⊢
  have hk1:(a4W b).1.Kind=2∨(a4W b).1.Kind=4:=by rw [q1];exact hk'
  refine⟨fun h3 => .z hG (by kernel_rfl) ⟨fun h4=>absurd h4 (show ¬(4:Int)=0 by decide),fun h4 => .z hG (by kernel_rfl) ?_⟩,fun h3 => .z hG (by kernel_rfl) ⟨fun h4 => .z hG (by kernel_rfl) ?_,fun h4 => .z hG (by kernel_rfl) ?_⟩⟩
  ·have hd:a3O b=4:=by
    unfold a3O;rw [if_neg (by omega),if_pos (fun e=>by rw [e] at h3;exact absurd h3.2 (by simp))]
   refine⟨fun _ => ?_,fun h5=>absurd h5 (Classical.not_not.2 h4)⟩
   unfold a0N;rw [hd];rfl
  ·have hb0:(a4W b).2.b = []:=List.eq_nil_of_length_eq_zero (by omega)
   have hd:a3O b=K6 (a4W b).1:=by
    unfold a3O;rw [if_neg (by omega),if_neg (fun e=>e hb0)]
   refine⟨hk1,fun h5 => ?_,fun h5 => ?_⟩
   ·unfold a0N;rw [hd,if_pos h5]
   ·unfold a0N;rw [hd,if_neg h5]
  ·have hd:a3O b=(a4W b).2.e:=by unfold a3O;rw [if_pos h4]
   refine⟨fun h5 => ?_,fun h5=>absurd h4 h5⟩
   unfold a0N;rw [hd,if_pos h5]
def S1:List (List UInt8)→List Rec×Int
 | []=>([],0)
 | b::l=>if (a0N b).2≠0 then ([],(a0N b).2) else if (S1 l).2≠0 then ([],(S1 l).2) else ((a0N b).1::(S1 l).1,0)
theorem b3p (l:List (List UInt8)):S1 l=if (S1 l).2≠0 then ([],(S1 l).2) else ((S1 l).1,0):=by
 cases l with
 | nil=>rfl
 | cons r l=>rw [S1];repeat' split<;>simp_all
def F4 (d:l9):List UInt8:=d.F3.l.getD d.B3.toNat default
def a0e (d:l9):List Rec×Int:=S1 (a1f (F4 d)).1
theorem c8i (d:l9)(h:V5 d)(ha:d.B3=0∨d.B3=1)(hl:(a1f (F4 d)).1.length≤100000)(hr:∀ r∈(a1f (F4 d)).1,r.length≤1000000∧((O6 ⟨r,0⟩).1=2∨(O6 ⟨r,0⟩).1=4)):C4 gl prog 48 [.v d] (fun x=>x = .t2 (.v (a0e d).1) (.v (a0e d).2)):=by
 have i6:a1Z 6:=⟨trivial⟩
 have i11:FzW 11 6:=⟨trivial⟩
 have i_decode_c:∀ (b:List UInt8),P9 gl prog 98 [.v b] [b.length≤1000000,(O6 ⟨b,0⟩).1=2∨(O6 ⟨b,0⟩).1=4] (.t2 (.v (a0N b).1) (.v (a0N b).2)):=fun b=>⟨fun hh=>c3n b hh.1 hh.2.1⟩
 have i_dvData_c:∀ (d:l9),P9 gl prog 97 [.v d] [V5 d,0≤d.B3,d.B3 < 2] (.v (d.F3.l.getD d.B3.toNat default)):=fun d=>⟨fun hh=>c2R d hh.1 hh.2.1 hh.2.2.1⟩
 have i_jRecords_c:∀ (data:List UInt8),P9 gl prog 96 [.v data] [data.length≤100000000] (.t2 (.v (a1f data).1) (.v ((a1f data).2:Int))):=fun data=>⟨fun hh=>b0y data hh.1⟩
 refine .go func48 rfl 37 [.tmp 2,.tmp 3] rfl (by kernel_rfl) fun C hG=>(.z hG (by kernel_rfl) fun b=>⟨h,by omega,by omega,h.at _,?_⟩)
 rw [show d.F3.l.getD d.B3.toNat default=F4 d from rfl]
 generalize hL:(a1f (F4 d)).1=l at hl hr
 refine .lp hG (fun x:Nat×List Rec×Value => [(19,.v (x.1:Int)),(6,.raw x.2.2)]) (fun x => [(.slice none 0 0,.own 116 x.2.2 x.2.1)]) (fun x=>x.1≤l.length∧x.2.1.length=x.1∧S1 l=if (S1 (l.drop x.1)).2≠0 then ([],(S1 (l.drop x.1)).2) else (x.2.1++(S1 (l.drop x.1)).1,0)) (fun x=>l.length - x.1) (0,[],.slice none 0 0) (by kernel_rfl)
  ⟨rfl,rfl,⟨by omega,rfl,b3p l⟩,fun ⟨k,acc,w⟩ ⟨h1,h2,h3⟩ => ?_⟩
 dsimp only at h1 h2 h3 ⊢
 have hload:a0e d=S1 l:=by unfold a0e;rw [hL]
 refine⟨fun h4 => ?_,fun h4 => ?_⟩
 ·rw [Int.toNat_natCast]
  have hm:=hr _ (T7 (l:=l) (k:=k) (by omega))
  rw [a17 (by omega),S1] at h3
  refine⟨by omega,h4,hm.1,hm.2,fun _=>⟨fun h5 => ?_,fun h5 _=>⟨by simp only [List.length_singleton];omega,by simp only [List.length_singleton];omega,fun w2=>⟨by omega,by omega,(k+1,_,w2),rfl,rfl,rfl,⟨by show k+1≤_;omega,by simp only [List.length_append,List.length_singleton];omega,?_⟩,by show _ - (k+1) < _;omega⟩⟩⟩⟩
  ·rw [if_pos (by rw [if_pos h5];exact h5),if_pos h5] at h3
   rw [hload,h3]
  ·rw [h3,if_neg h5]
   by_cases h6:(S1 (l.drop (k+1))).2≠0
   ·rw [if_pos h6,if_pos h6,if_pos h6]
   ·rw [if_neg h6,if_neg h6,if_neg (by simp),List.append_assoc];rfl
 ·rw [List.drop_of_length_le (by omega)] at h3
  have h3:S1 l=(acc,0):=by rw [h3];simp [S1]
  rw [hload,h3]
theorem b7v {a:F1}(h:(K2 a).2.2≠0):K2 a=(default,default,(K2 a).2.2):=by
 unfold K2 at *
 split
 ·rfl
 ·next h1=>rw [if_neg h1] at h;exact absurd rfl h
theorem a6F {a:F1}:(if (mkKey a 0).2.2≠0 then default else (mkKey a 0).2.1)=(K2 a).1∧(mkKey a 0).1=(K2 a).2.1∧(mkKey a 0).2.2=(K2 a).2.2:=by
 have e:mkKey a 0=((K2 a).2.1,if (K2 a).2.2=0 then (K2 a).1 else a,(K2 a).2.2):=by unfold mkKey;rw [if_neg (by decide)]
 rw [e]
 refine⟨?_,j0,j0⟩
 by_cases h:(K2 a).2.2=0
 ·rw [if_neg (by simpa using h),if_pos h]
 ·rw [if_pos (by simpa using h),b7v h]
theorem c3o (a:F1)(h0:0≤a.K9):C4 gl prog 43 [.v a] (fun r=>r = .t3 (.v (K2 a).1) (.v (K2 a).2.1) (.v (K2 a).2.2)):=by
 refine C4.jn func43 (by kernel_rfl) 21 rfl fun C hC hG => ?_
 refine .q 3 hG fun b1 => ?_
 refine .q 1 hG fun b2 => ?_
 refine .q 1 hG fun b3 => ?_
 refine .q 5 hG ?_
 refine .k0 hG (a9w _) fun r10 Hs10 hr10 => ?_
 obtain⟨w10,x10,rfl,rfl,ha10,he10⟩:=hr10
 show wpB _ _ _ _ _ _ _ ((true,_)::_)
 refine .q 5 hG ?_
 refine .km hG (c7Z _ _ (by rw [ha10];exact h0)) .z (by rintro _ _ ⟨_,rfl,_⟩;exact⟨_,rfl⟩) fun r12 B12 hr12 => ?_
 obtain⟨x12,hB,rfl,ha12,he12⟩:=hr12
 cases hB
 refine .q 1 hG fun b6 => ?_
 refine .q 5 hG ?_
 refine .km hG (b8L _ _) .z1 (by rintro _ _ ⟨_,rfl,_⟩;exact⟨_,rfl⟩) fun r15 B15 hr15 => ?_
 obtain⟨x15,hB,rfl,rfl⟩:=hr15
 cases hB
 refine .q 2 hG ?_
 refine a9y hC 16 rfl .z1 ?_
 refine .q 2 hG fun b7 => ?_
 refine .q 4 hG ?_
 refine .a0w [j6,j6,j6,j5,j5,j6] (by kernel_rfl) 6 [[],[],[],[(18,0)],[(19,1)],[(20,2)]] [3,4] j0 (by kernel_rfl) j0 (by kernel_rfl) (by decide) ?_
 refine⟨_,fun H=>OpP.ldW b1n (.t j0) (H9.app .z) j0,?_⟩
 refine⟨_,fun H=>OpP.ldW U0 (.t j0) (H9.app .z1) j0,?_⟩
 refine⟨_,fun H=>OpP.move (.t j0) j0,?_⟩
 refine .inl (.inl ?_)
 refine⟨_,fun H=>OpP.assign (.t j0) j0,?_⟩
 refine⟨⟨([],j7 [j4,j4,j4,_,_,j4]),j0⟩,?_⟩
 refine OpH.stW b1n (.t rfl) (.t rfl) .z4 ?_
 refine⟨⟨([],j7 [j4,j4,j4,_,_,j4]),j0⟩,?_⟩
 refine OpH.stW U0 (.t rfl) (.t rfl) .z3 ?_
 refine⟨⟨([],j7 [j4,j4,j4,_,_,j4]),j0⟩,?_⟩
 show wpB _ _ _ _ _ [] ((4,_)::(20,_)::(19,_)::(18,_)::_) _
 refine .q 2 hG ?_
 refine⟨_,.r3 j0 (.cell b1n j0 .z4) (.cell U0 j0 .z3) (.tmp j0),?_⟩
 rw [ha12,he12,ha10,he10,a6F.1,a6F.2.1,a6F.2.2]
def c5Q:Go.Shelf.Ren where
 f n:=if n=14 then 200 else 235
 t n:=match n with|0=>0|3=>3|4=>4|5=>5|9=>9|20=>20|22=>34|26=>168|_=>0
 g n:=n
set_option maxRecDepth 100000 in
theorem d0Z:SlLaysJ.n14 prog c5Q where
 mixed:=by kernel_rfl
 f14:=by kernel_rfl
 f15:=by kernel_rfl
 t0:=by kernel_rfl
 a0:=b0d underlying0 rfl
 z0:=a8F (by kernel_rfl)
 v0:=b0e (by kernel_rfl)
 t3:=by kernel_rfl
 a3:=b0d underlying3 rfl
 z3:=a8F (by kernel_rfl)
 v3:=b0e (by kernel_rfl)
 t4:=by kernel_rfl
 a4:=b0d underlying4 rfl
 z4:=a8F (by kernel_rfl)
 v4:=b0e (by kernel_rfl)
 t9:=by kernel_rfl
 a9:=b0d underlying9 rfl
 z9:=a8F (by kernel_rfl)
 v9:=b0e (by kernel_rfl)
 t20:=by kernel_rfl
 a20:=b0d underlying20 rfl
 z20:=a8F (by kernel_rfl)
 v20:=b0e (by kernel_rfl)
 t22:=by kernel_rfl
 a22:=b0d underlying34 rfl
 z22:=a8F (by kernel_rfl)
 v22:=b0e (by kernel_rfl)
 t26:=by kernel_rfl
 a26:=b0d underlying168 rfl
 z26:=a8F (by kernel_rfl)
 v26:=b0e (by kernel_rfl)
 t5:=by kernel_rfl
 z5:=a8F (by kernel_rfl)
 i5:=by kernel_rfl
theorem c8j (ls:List (List UInt8))(h2:2≤ls.length)(hn:ls.length≤1000000)(hl:Lib.lens ls≤1000000000):C4 gl prog 200 [.v ls,.v ([]:List UInt8)] (fun r=>r = .v ls.flatten) :=
 b9M d0Z ⟨_,func200,by kernel_rfl,rfl⟩ ls h2 (by omega) (by omega)
theorem b0J (s:Str)(b:List UInt8)(hs:s.l.length≤1000)(hb:b.length≤1000000):C4 gl prog 199 [.v s,.v b] (fun r=>r = .v (s.l++b)):=by
 refine C4.jn func199 (by kernel_rfl) 9 rfl fun C hC hG => ?_
 refine .q 7 hG ?_
 refine .h (.a5f underlying9 underlying34 underlying5 (.t j0) fun w6 => ?_)
 refine .q 1 hG ?_
 refine .ap (by first|omega|(simp;done)|(simp;omega)|(simp at *;omega)) (by first|omega|(simp;done)|(simp;omega)|(simp at *;omega)) fun w8 => ?_
 refine .q 2 hG ?_
 refine .Q7 hC .z (.as 4 j0 .z ?_)
 refine .q 1 hG ?_
 refine .e1 j0 j0 ?_
 rfl
abbrev Item:=o7
def L8 (x:Item):Int :=
 if x.Kind < 1∨3 < x.Kind then 6
 else if (x.Kind≠1∧0 < x.O8.length)∨(x.Kind=3∧x.Number≠0)∨(x.Kind≠3∧x.Node≠default) then 9
 else if x.Place < 1∨4096 < x.Place∨(x.Kind≠3∧(x.Number < 1∨1000 < x.Number)) then 1
 else if x.Kind=1∧(x.O8.length < 1∨1024 < x.O8.length) then 2 else 0
def b3q:Str:=⟨[105,116,101,109]⟩
def V6 (x:Item):List UInt8:=b3q.l++(D5 x.Place.toNat++D5 x.Kind.toNat++D5 x.Number.toNat++x.Node.l++(D5 x.O8.length++x.O8))
def Y5 (x:Item):List UInt8×Int:=if L8 x≠0 then ([],L8 x) else (V6 x,0)
structure c8k (x:Item):Prop where
 kind:1≤x.Kind∧x.Kind≤3
 place:1≤x.Place∧x.Place≤4096
 num:0≤x.Number∧x.Number≤1000
 box:x.O8.length≤1024
theorem c3p {x:Item}(h:L8 x=0):c8k x:=by
 unfold L8 at h
 split at h
 ·cases h
 ·split at h
  ·cases h
  ·split at h
   ·cases h
   ·split at h
    ·cases h
    ·next h1 h2 h3 h4=>exact⟨by omega,by omega,by omega,by omega⟩
theorem b5n (n:Int):C4 gl prog 86 [.v n] (fun r=>r = .v (decide (1≤n)&&decide (n≤1000))):=by
 refine C4.jn func86 (by kernel_rfl) 9 rfl fun C hC hG => ?_
 refine .q 15 hG ?_
 refine .e1 j0 j0 ?_
 rfl
theorem b5o (n:Int):C4 gl prog 85 [.v n] (fun r=>r = .v (decide (1≤n)&&decide (n≤4096))):=by
 refine C4.jn func85 (by kernel_rfl) 9 rfl fun C hC hG => ?_
 refine .q 15 hG ?_
 refine .e1 j0 j0 ?_
 rfl
theorem b5p (x:Item):C4 gl prog 196 [.v x] (fun r=>r = .v (L8 x)):=by
 refine C4.jn func196 (by kernel_rfl) 79 rfl fun C hC hG => ?_
 refine .q 3 hG fun b1 => ?_
 refine .q 3 hG ?_
 refine .draw (by kernel_rfl) 8 [[],[(6,0)],[(7,1)],[],[(9,3)],[(10,4)],[(8,2)],[(11,5)]] j0 (by kernel_rfl) j0 ?_
 refine⟨_,OpP.P5 o7.l1 b2x j0 (.t j0) j0,?_⟩
 refine⟨_,OpP.ldF (fun x=>x.Kind) ty3 (.t j0) .z (fun _=>j0) j0,?_⟩
 refine⟨_,OpP.b6a (.t j0) (.i j0) j0,?_⟩
 refine⟨_,OpP.P5 o7.l1 b2x j0 (.t j0) j0,?_⟩
 refine⟨_,OpP.ldF (fun x=>x.Kind) ty3 (.t j0) .z (fun _=>j0) j0,?_⟩
 refine⟨_,OpP.b6a (.t j0) (.i j0) j0,?_⟩
 refine⟨_,OpP.assign (.t j0) j0,?_⟩
 refine⟨_,OpP.assign (.t j0) j0,?_⟩
 show wpB _ _ _ _ _ [] ((4,_)::(3,_)::(11,_)::(10,_)::(9,_)::(8,_)::(7,_)::(6,_)::_) _
 refine .q 22 hG ?_
 refine .cond (.t j0) (fun hc16 => ?_) (fun hc16 => ?_)
 ·refine .q 5 hG ?_
  refine .e1 j0 j0 ?_
  refine congrArg AV.v ?_
  simp only [Bool.and_eq_true,Bool.or_eq_true,Bool.not_eq_true',Bool.not_eq_false',Bool.and_eq_false_iff,Bool.or_eq_false_iff,decide_eq_true_eq,decide_eq_false_iff_not,ne_eq,Decidable.not_not] at *
  unfold L8
  by_cases hn:x.Node=default<;>simp only [hn,ne_eq,not_true,not_false_eq_true,and_true,and_false,or_false,false_or,true_and,or_true,true_or] at * <;> (repeat' split)<;>omega
 ·refine .q 11 hG ?_
  refine .goU 32 j0 (.t j0) (fun hg34 => .move (.q j0 hg34) j0) (.gn 34 j0 j0 (fun hc35 hg35 => .P5 o7.l3 b7X j0 (.t j0) j0) (.gn 34 j0 j0 (fun hc36 hg36 => .ldF (fun x=>x.Node) U0 (.ou j0 (Bool.and_eq_true_iff.2 ⟨hc36,beq_iff_eq.2 hg36⟩)) .z (fun _=>j0) j0) (.gn 34 j0 j0 (fun hc37 hg37 => .a1y (default:(M4 32 UInt8)) U0 a1s .nil j0 j0) (.gn 34 j0 j0 (fun hc38 hg38 => .c9x underlying28 sz5 underlying5 b9y (.ou j0 (Bool.and_eq_true_iff.2 ⟨hc38,beq_iff_eq.2 hg38⟩)) (.ou j0 (Bool.and_eq_true_iff.2 ⟨hc38,beq_iff_eq.2 hg38⟩)) j0) (.go 32 j0 (.t j0) (fun hg39 => .a2I (.ou j0 (beq_iff_eq.2 hg39)) (fun hp=>(.ou j0 (Bool.and_eq_true_iff.2 ⟨(beq_iff_eq.2 hg39),beq_iff_eq.2 hp⟩))) j0) ?_)))))
  refine .q 4 hG ?_
  refine .goU 41 j0 (.t j0) (fun hg44 => .move (.q j0 hg44) j0) (.gn 44 j0 j0 (fun hc45 hg45 => .P5 o7.l4 b2z j0 (.t j0) j0) (.gn 44 j0 j0 (fun hc46 hg46 => .ldF (fun x=>x.O8) a9m (.ou j0 (Bool.and_eq_true_iff.2 ⟨hc46,beq_iff_eq.2 hg46⟩)) .z (fun _=>j0) j0) (.gn 44 j0 j0 (fun hc47 hg47 => .len underlying34 (.ou j0 (Bool.and_eq_true_iff.2 ⟨hc47,beq_iff_eq.2 hg47⟩)) j0) (.gn 44 j0 j0 (fun hc48 hg48 => .gtr (.ou j0 (Bool.and_eq_true_iff.2 ⟨hc48,beq_iff_eq.2 hg48⟩)) (.i j0) j0) (.go 41 j0 (.t j0) (fun hg49 => .a2I (.ou j0 (beq_iff_eq.2 hg49)) (fun hp=>(.ou j0 (Bool.and_eq_true_iff.2 ⟨(beq_iff_eq.2 hg49),beq_iff_eq.2 hp⟩))) j0) ?_)))))
  refine .q 3 hG ?_
  refine .cond (.t j0) (fun hc24 => ?_) (fun hc24 => ?_)
  ·refine .q 5 hG ?_
   refine .e1 j0 j0 ?_
   refine congrArg AV.v ?_
   simp only [Bool.and_eq_true,Bool.or_eq_true,Bool.not_eq_true',Bool.not_eq_false',Bool.and_eq_false_iff,Bool.or_eq_false_iff,decide_eq_true_eq,decide_eq_false_iff_not,ne_eq,Decidable.not_not] at *
   unfold L8
   by_cases hn:x.Node=default<;>simp only [hn,ne_eq,not_true,not_false_eq_true,and_true,and_false,or_false,false_or,true_and,or_true,true_or] at * <;> (repeat' split)<;>omega
  ·refine .q 4 hG ?_
   refine .k hG (b5o _) ?_
   refine .q 3 hG ?_
   refine .goU 56 j0 (.t j0) (fun hg58 => .move (.q j0 hg58) j0) (.gn 58 j0 j0 (fun hc59 hg59 => .P5 o7.l2 b2y j0 (.t j0) j0) (.gn 58 j0 j0 (fun hc60 hg60 => .ldF (fun x=>x.Number) ty3 (.ou j0 (Bool.and_eq_true_iff.2 ⟨hc60,beq_iff_eq.2 hg60⟩)) .z (fun _=>j0) j0) (.gn 58 j0 j0 (fun hc61 hg61 => .J7 hG (b5n _) (.cons (.ou j0 (Bool.and_eq_true_iff.2 ⟨hc61,beq_iff_eq.2 hg61⟩)) .nil) j0) (.gn 58 j0 j0 (fun hc62 hg62 => .not (.ou j0 (Bool.and_eq_true_iff.2 ⟨hc62,beq_iff_eq.2 hg62⟩)) j0) (.go 56 j0 (.t j0) (fun hg63 => .a2I (.ou j0 (beq_iff_eq.2 hg63)) (fun hp=>(.ou j0 (Bool.and_eq_true_iff.2 ⟨(beq_iff_eq.2 hg63),beq_iff_eq.2 hp⟩))) j0) ?_)))))
   refine .q 3 hG ?_
   refine .cond (.t j0) (fun hc51 => ?_) (fun hc51 => ?_)
   ·refine .q 5 hG ?_
    refine .e1 j0 j0 ?_
    refine congrArg AV.v ?_
    simp only [Bool.and_eq_true,Bool.or_eq_true,Bool.not_eq_true',Bool.not_eq_false',Bool.and_eq_false_iff,Bool.or_eq_false_iff,decide_eq_true_eq,decide_eq_false_iff_not,ne_eq,Decidable.not_not] at *
    unfold L8
    by_cases hn:x.Node=default<;>simp only [hn,ne_eq,not_true,not_false_eq_true,and_true,and_false,or_false,false_or,true_and,or_true,true_or] at * <;> (repeat' split)<;>omega
   ·refine .q 8 hG ?_
    refine .goU 67 j0 (.t j0) (fun hg72 => .move (.q j0 hg72) j0) (.gn 72 j0 j0 (fun hc73 hg73 => .P5 o7.l4 b2z j0 (.t j0) j0) (.gn 72 j0 j0 (fun hc74 hg74 => .ldF (fun x=>x.O8) a9m (.ou j0 (Bool.and_eq_true_iff.2 ⟨hc74,beq_iff_eq.2 hg74⟩)) .z (fun _=>j0) j0) (.gn 72 j0 j0 (fun hc75 hg75 => .len underlying34 (.ou j0 (Bool.and_eq_true_iff.2 ⟨hc75,beq_iff_eq.2 hg75⟩)) j0) (.gn 72 j0 j0 (fun hc76 hg76 => .gtr (.ou j0 (Bool.and_eq_true_iff.2 ⟨hc76,beq_iff_eq.2 hg76⟩)) (.i j0) j0) (.go 67 j0 (.t j0) (fun hg77 => .b6r (.ou j0 (beq_iff_eq.2 hg77)) (fun hp=>(.ou j0 (Bool.and_eq_true_iff.2 ⟨(beq_iff_eq.2 hg77),beq_iff_eq.2 hp⟩))) j0) ?_)))))
    refine .q 3 hG ?_
    refine .cond (.t j0) (fun hc65 => ?_) (fun hc65 => ?_)
    ·refine .q 5 hG ?_
     refine .e1 j0 j0 ?_
     refine congrArg AV.v ?_
     simp only [Bool.and_eq_true,Bool.or_eq_true,Bool.not_eq_true',Bool.not_eq_false',Bool.and_eq_false_iff,Bool.or_eq_false_iff,decide_eq_true_eq,decide_eq_false_iff_not,ne_eq,Decidable.not_not] at *
     unfold L8
     by_cases hn:x.Node=default<;>simp only [hn,ne_eq,not_true,not_false_eq_true,and_true,and_false,or_false,false_or,true_and,or_true,true_or] at * <;> (repeat' split)<;>omega
    ·refine .q 6 hG ?_
     refine .e1 j0 j0 ?_
     refine congrArg AV.v ?_
     simp only [Bool.and_eq_true,Bool.or_eq_true,Bool.not_eq_true',Bool.not_eq_false',Bool.and_eq_false_iff,Bool.or_eq_false_iff,decide_eq_true_eq,decide_eq_false_iff_not,ne_eq,Decidable.not_not] at *
     unfold L8
     by_cases hn:x.Node=default<;>simp only [hn,ne_eq,not_true,not_false_eq_true,and_true,and_false,or_false,false_or,true_and,or_true,true_or] at * <;> (repeat' split)<;>omega
theorem b7w {x:Item}{e:Int}(h:L8 x=e)(he:e≠0):Y5 x=([],e):=by unfold Y5;rw [h,if_pos he]
theorem b0K {x:Item}(h:L8 x=0):Y5 x=(V6 x,0):=by unfold Y5;rw [h,if_neg (by decide)]
theorem b7x (x:Item)(hx:x.O8.length≤1000000):C4 gl prog 147 [.v x] (fun r=>r = .t2 (.v (Y5 x).1) (.v (Y5 x).2)):=by
 refine C4.jn func147 (by kernel_rfl) 53 rfl fun C hC hG => ?_
 refine .q 3 hG fun b1 => ?_
 refine .q 5 hG ?_
 refine .U2 hC .z (.asP 1 j0 .z ?_)
 refine .q 2 hG ?_
 refine .k hG (b5p _) ?_
 refine .q 8 hG ⟨fun hc17 => ?_,fun hc17 => ?_⟩
 ·refine .q 7 hG ?_
  refine .e2 j0 j0 j0 ?_
  rw [b7w rfl hc17]
 ·refine .q 2 hG ?_
  have h0:L8 x=0:=by omega
  obtain⟨⟨k1,k2⟩,⟨p1,p2⟩,⟨n1,n2⟩,bx⟩:=c3p h0
  have l1:=H4 (n:=x.Place.toNat) (by omega)
  have l2:=H4 (n:=x.Kind.toNat) (by omega)
  have l3:=H4 (n:=x.Number.toNat) (by omega)
  have l4:=H4 (n:=x.O8.length) (by omega)
  refine .q 3 hG ?_
  refine .p (.J7 hG ((a0i _ _ (by decide) (by omega) (by omega)).b9E) (.cons .b1h (.cons (.t j0) .nil)) ?_)
  refine .q 10 hG ?_
  refine .p (.J7 hG ((a0i _ _ (by decide) (by omega) (by omega)).b9E) (.cons .b1h (.cons (.t j0) .nil)) ?_)
  refine .q 10 hG ?_
  refine .p (.J7 hG ((a0i _ _ (by decide) (by omega) (by omega)).b9E) (.cons .b1h (.cons (.t j0) .nil)) ?_)
  refine .q 10 hG ?_
  refine .p (.J7 hG (a9B _ _ (by decide) (by omega)) (.cons .b1h (.cons (.t j0) .nil)) ?_)
  refine .q 12 hG ?_
  refine .p (.a1W (by decide) a1s (.t j0) ?_)
  refine .q 1 hG ?_
  refine .p (.a1y (⟨[_,_,_,_,_],j0⟩:(M4 5 (List UInt8))) c6Z c6x (.cons (j9.idx 0 (by decide)) _ j0 (.t j0) (.cons (j9.idx 1 (by decide)) _ j0 (.t j0) (.cons (j9.idx 2 (by decide)) _ j0 (.t j0) (.cons (j9.idx 3 (by decide)) _ j0 (.t j0) (.cons (j9.idx 4 (by decide)) _ j0 (.t j0) .nil))))) j0 ?_)
  refine .q 1 hG fun b13 => ?_
  refine .q 3 hG ?_
  refine .U2 hC .z (.asP 13 j0 .z ?_)
  refine .q 1 hG ?_
  refine .p (.a1W (by decide) c6x (.t j0) (.p (.J7 hG (c8j _ (by simp) (by simp) (by simp [Lib.lens,M4.len];omega)) (.cons (.t j0) (.cons .b1h .nil)) (.p (.J7 hG (b0J _ _ (by decide) (by simp [M4.len];omega)) (.cons (.s [105,116,101,109] (by decide) (by decide)) (.cons (.t j0) .nil)) ?_)))))
  refine .q 4 hG ?_
  refine .e2 j0 j0 j0 ?_
  rw [b0K h0];simp [V6,b3q]
def L5 (a:F1)(k:Tag)(x:Item):F1×Item×Int :=
 if L8 x≠0 then (default,default,L8 x) else
 if (P3 a k (V6 x)).2.2≠0 then (default,default,(P3 a k (V6 x)).2.2) else ((P3 a k (V6 x)).1,{ x with Tag:=(P3 a k (V6 x)).2.1 },0)
def c8T (a:F1)(k:Tag)(x:Item):Int :=
 if L8 x≠0 then L8 x else if (a4s a k (V6 x)).2=false∨(a4s a k (V6 x)).1≠x.Tag then 19 else 0
theorem b5q {x:Item}:(Y5 x).2=L8 x:=by unfold Y5;split<;>first|rfl|omega
def b0L (a b:Item):Bool:=decide (a.Place=b.Place)&&decide (a.Kind=b.Kind)&&decide (a.Number=b.Number)&&decide (a.Node=b.Node)&&decide (a.Tag=b.Tag)&&decide (a.O8=b.O8)
theorem b5r (a b:Item):C4 gl prog 50 [.v a,.v b] (fun r=>r = .v (b0L a b)):=by
 refine C4.jn func50 (by kernel_rfl) 45 rfl fun C hC hG => ?_
 refine .q 3 hG fun b2 => ?_
 refine .q 1 hG fun b3 => ?_
 refine .q 28 hG ?_
 refine .go 24 j0 (.t j0) (fun hg29 => .b4f underlying28 sz5 underlying5 b9y (.q j0 hg29) (.q j0 hg29) j0) ?_
 refine .q 6 hG ?_
 refine .go 31 j0 (.t j0) (fun hg36 => .b4f underlying28 sz5 underlying5 b9y (.q j0 hg36) (.q j0 hg36) j0) ?_
 refine .q 6 hG ?_
 refine .go 38 j0 (.t j0) (fun hg43 => .J7 hG (c2F _ _) (.cons (.q j0 hg43) (.cons (.q j0 hg43) .nil)) j0) ?_
 refine .q 4 hG ?_
 refine .e1 j0 j0 ?_
 rfl
def a4N (e f:Int):Int:=if e=0 then f else e
theorem b3r (w:Value)(s:MkU)(k:Tag)(x:Item)(hx:x.O8.length≤1000000)(hl:s.a.G4.length≤1000000):C6 gl prog 90 [mp w,.v k,.v x] [.P4 w s]
    (fun r Hs=>∃ s':MkU,Hs = [.P4 w s']∧r = .v ({ x with Tag:=(O2 s.a (a4N s.e (L8 x)) k (Y5 x).1).1 }:Item)∧s'.a=(O2 s.a (a4N s.e (L8 x)) k (Y5 x).1).2.1∧s'.e=(O2 s.a (a4N s.e (L8 x)) k (Y5 x).1).2.2):=by
  refine C6.a0k func90 rfl (by kernel_rfl) 27 rfl rfl _ rfl _ rfl fun C hC hG => ?_
  refine .q 3 hG fun b4 => ?_
  refine .q 1 hG fun b5 => ?_
  refine .q 1 hG fun b6 => ?_
  refine .q 4 hG ?_
  refine .k hG (b7x _ hx) ?_
  refine .q 10 hG ?_
  refine .km hG (a9z _ _ _) .z3 (by rintro _ _ ⟨_,rfl,_⟩;exact⟨_,rfl⟩) fun r16 B16 hr16 => ?_
  obtain⟨x16,hB,ha16,he16⟩:=hr16
  cases hB
  refine .q 5 hG ?_
  refine .k hG (Q1 _ (by first|omega|(simp;done)|(simp;omega)|(simp at *;omega))) ?_
  refine .q 8 hG ?_
  refine .km hG (c2L _ _ _ _ (by rw [ha16];exact hl)) .z3 (by rintro _ _ ⟨_,rfl,_⟩;exact⟨_,rfl⟩) fun r24 B24 hr24 => ?_
  obtain⟨x24,hB,rfl,ha24,he24⟩:=hr24
  cases hB
  refine .q 9 hG ?_
  refine⟨_,.r1 j0 (.cell a3a j0 .z),?_⟩
  refine⟨_,.cons .z3 (.nil),?_⟩
  rw [ha16,he16,b5q] at ha24 he24 ⊢
  exact⟨x24,j0,j0,ha24,he24⟩
theorem b3s (w:Value)(s:MkU)(x:Item):C6 gl prog 89 [mp w,.v x] [.P4 w s]
    (fun r Hs=>∃ s':MkU,Hs = [.P4 w s']∧r = .t3 (.v (if s.e≠0 then default else a5q s.a s.um s.ub)) (.v (if s.e≠0 then default else x)) (.v s.e)∧s'=s):=by
  refine C6.a0k func89 rfl (by kernel_rfl) 21 rfl rfl _ rfl _ rfl fun C hC hG => ?_
  refine .q 3 hG fun b3 => ?_
  refine .h (.alloc a2s fun b4 => ?_)
  refine .q 1 hG fun b5 => ?_
  refine .q 5 hG ?_
  refine .km hG (b8L _ _) .z3 (by rintro _ _ ⟨_,rfl,_⟩;exact⟨_,rfl⟩) fun r11 B11 hr11 => ?_
  obtain⟨x11,hB,rfl,rfl⟩:=hr11
  cases hB
  refine .q 3 hG ?_
  refine .h (.alloc a2s fun b7 => .n (.stW a2s (.t j0) (.t j0) .z ?_))
  refine .q 9 hG ⟨fun hc15 => ?_,fun hc15 => ?_⟩
  · refine .q 2 hG ?_
    refine .p (.bS0 (α:=y2) j0 a2s c4j (.p (.bS0 (α:=o7) j0 a3a b7Y ?_)))
    refine .q 1 hG ?_
    refine .n (.stW a2s (.t j0) (.t j0) .z2 ?_)
    refine .q 4 hG ?_
    refine⟨_,.r3 j0 (.cell a2s j0 .z2) (.cell a3a j0 .z1) (.tmp j0),?_⟩
    refine⟨_,.cons .z4 (.nil),?_⟩
    rw [if_pos hc15,if_pos hc15];exact⟨_,rfl,rfl,rfl⟩
  · refine .q 2 hG ?_
    refine .a0w [j6,j5,j5,j6,j6] (by kernel_rfl) 5 [[],[],[(19,0)],[(20,1)],[]] [2,3] j0 (by kernel_rfl) j0 (by kernel_rfl) (by decide) ?_
    refine⟨_,fun H=>OpP.ldW a2s (.t j0) (H9.app .z) j0,?_⟩
    refine⟨_,fun H=>OpP.ldW a3a (.t j0) (H9.app .z3) j0,?_⟩
    refine .inl (.inl ?_)
    refine⟨_,fun H=>OpP.assign (.i j0) j0,?_⟩
    refine⟨⟨([],j7 [j4,_,_,j4,j4]),j0⟩,?_⟩
    refine OpH.stW a2s (.t rfl) (.t rfl) .z2 ?_
    refine⟨⟨([],j7 [j4,_,_,j4,j4]),j0⟩,?_⟩
    refine OpH.stW a3a (.t rfl) (.t rfl) .z1 ?_
    refine⟨⟨([],j7 [j4,_,_,j4,j4]),j0⟩,?_⟩
    show wpB _ _ _ _ _ [] ((6,_)::(20,_)::(19,_)::_) _
    refine .q 2 hG ?_
    refine⟨_,.r3 j0 (.cell a2s j0 .z2) (.cell a3a j0 .z1) (.tmp j0),?_⟩
    refine⟨_,.cons .z4 (.nil),?_⟩
    rw [if_neg hc15,if_neg hc15,show x11.e=0 by omega];exact⟨_,rfl,rfl,rfl⟩
theorem a8W (a : F1)(k : Tag)(x : Item) : (if (O2 a (a4N 0 (L8 x)) k (Y5 x).1).2.2 ≠ 0 then (default, default, (O2 a (a4N 0 (L8 x)) k (Y5 x).1).2.2) else
    ((O2 a (a4N 0 (L8 x)) k (Y5 x).1).2.1,({ x with Tag:=(O2 a (a4N 0 (L8 x)) k (Y5 x).1).1 }:Item),0))=L5 a k x:=by
  unfold L5 a4N
  rw [if_pos rfl]
  by_cases h:L8 x=0
  · rw [h,if_neg (show ¬(0:Int)≠0 by decide),a1D rfl rfl,b0K h]
    by_cases h2:(P3 a k (V6 x)).2.2=0
    · simp only [h2,ne_eq,not_true,if_false,if_true]
    · simp only [ne_eq,h2,not_false_eq_true,if_true]
  · rw [if_pos h,a32 h];simp only [ne_eq,h,not_false_eq_true,if_true]
theorem c8l (a:F1)(k:Tag)(x:Item)(hx:x.O8.length≤1000000)(hl:a.G4.length≤1000000):C4 gl prog 149 [.v a,.v k,.v x] (fun r=>r = .t3 (.v (L5 a k x).1) (.v (L5 a k x).2.1) (.v (L5 a k x).2.2)):=by
 refine C4.jn func149 (by kernel_rfl) 21 rfl fun C hC hG => ?_
 refine .q 3 hG fun b3 => ?_
 refine .q 1 hG fun b4 => ?_
 refine .q 1 hG fun b5 => ?_
 refine .q 1 hG fun b6 => ?_
 refine .q 1 hG fun b7 => ?_
 refine .q 5 hG ?_
 refine .k0 hG (a9w _) fun r11 Hs11 hr11 => ?_
 obtain⟨w11,x11,rfl,rfl,ha11,he11⟩:=hr11
 show wpB _ _ _ _ _ _ _ ((true,_)::_)
 refine .ag j0 ?_
 refine .q 3 hG ?_
 refine .mv j0 (.mv j0 (.p (.ldW U0 (.t j0) .z4 (.p (.ldW a3a (.t j0) .z3 (.h (.a8u hG (b3r _ _ _ _ hx (by rw [ha11];exact hl)) .z (.cons (.t j0) (.cons (.t j0) (.cons (.t j0) .nil))) (by rintro _ _ ⟨_,rfl,_⟩;exact⟨_,rfl⟩) fun r16 B16 hr16 => ?_)))))))
 obtain⟨x16,hB,rfl,ha16,he16⟩:=hr16
 cases hB
 refine .km hG (b3s _ _ _) .z (by rintro _ _ ⟨_,rfl,_⟩;exact⟨_,rfl⟩) fun r17 B17 hr17 => ?_
 obtain⟨x17,hB,rfl,rfl⟩:=hr17
 cases hB
 refine .q 1 hG ?_
 refine a9y hC 18 rfl .z (.p (.b2G (.t rfl) (.p (.b2H (.t rfl) (.n (.stW b1n (.t rfl) (.t rfl) .z2 (.n (.stW a3a (.t rfl) (.t rfl) .z1 (.ag rfl ?_)))))))))
 refine .q 2 hG ?_
 refine⟨_,.r3 j0 (.cell b1n j0 .z2) (.cell a3a j0 .z1) (.tmp j0),?_⟩
 have h:=a8W a k x
 rw [ha11,he11] at ha16 he16 ⊢
 rw [←ha16,←he16] at h
 rw [←h]
 by_cases h0:x17.e=0
 ·simp only [h0,ne_eq,not_true,if_false]
 ·simp only [ne_eq,h0,not_false_eq_true,if_true]
def a4O (d:l9)(c0E:Int):l9 := { d with a0O:=d.C7+1,a3g:=c0E }
theorem c5R (d:l9)(n:Int)(h : -9000000000≤d.C7∧d.C7≤9000000000):C4 gl prog 12 [.v d,.v n] (fun y=>y = .v (a4O d n)):=by
 refine .go func12 j0 12 [.cell 4 37] j0 (by kernel_rfl) fun C hG => ?_
 exact .z hG (by kernel_rfl) fun _ _=>⟨by omega,by omega,rfl⟩
theorem c3q (d:l9)(h:d.B3=0∨d.B3=1):C4 gl prog 15 [.v d] (fun y=>y = .v (F4 d)):=by
 refine .go func15 j0 9 [.tmp 2] j0 (by kernel_rfl) fun C hG => ?_
 have hd:d.B3.toNat &&& Int.toNat 1=d.B3.toNat:=by
  rcases h with h|h<;>rw [h]<;>rfl
 refine .z hG (by kernel_rfl) fun b=>⟨by omega,by decide,by omega,?_,?_⟩
 ·rw [hd];rcases h with h|h<;>rw [h]<;>decide
 ·rw [hd];rfl
theorem c5S (n:Int):C4 gl prog 54 [.v n] (fun r=>r = .t2 (.v (a2t n).1) (.v (a2t n).2)):=by
 refine .go func54 j0 13 [.cell 2 37,.tmp 3] j0 (by kernel_rfl) fun C hG=>(.z hG (by kernel_rfl) fun b2=>⟨fun h => ?_,fun h => ?_⟩)
 ·unfold a2t;rw [if_pos h]
 ·unfold a2t;rw [if_neg h]
theorem b3t (a b:D6)(h:a.Live.length≤1000000):C4 gl prog 18 [.v a,.v b] (fun y=>y = .v (decide (a=b))):=by
 refine .go func18 j0 38 [.tmp 4] j0 (by kernel_rfl) fun C hG=>(.z hG (by kernel_rfl) fun b2 b3=>⟨fun h1 => ?_,fun h1 => ?_⟩)
 ·rw [decide_eq_false];rintro rfl;simp at h1
 refine .lp hG (fun k:Nat => [(5,.v (k:Int))]) (fun k => []) (fun k=>k≤a.Live.length∧a.Live.take k=b.Live.take k) (fun k=>a.Live.length - k) 0 (by kernel_rfl) ⟨j0,⟨Nat.zero_le _,j0⟩,fun k ⟨h2,h3⟩ => ?_⟩
 have hl:a.Live.length=b.Live.length:=by omega
 rw [Int.toNat_natCast]
 refine⟨fun h4=>⟨by omega,h4,by omega,by omega,fun h5 => ?_,fun h5=>⟨by omega,by omega,k+1,rfl,⟨by omega,a2X (by omega) (by omega) h3 (Classical.not_not.1 h5)⟩,by omega⟩⟩,fun h4 => ?_⟩
 ·rw [decide_eq_false];rintro rfl;exact h5 rfl
 ·have e:a.Live=b.Live:=by rwa [List.take_of_length_le (by omega),List.take_of_length_le (by omega)] at h3
  have e2:a.H7=b.H7:=by omega
  cases a;cases b
  rw [decide_eq_true]
  simp_all
def a1r (key:Tag)(n:Int):l8×Int:=if (a2t n).2≠0 then (default,(a2t n).2) else ({ (default:l8) with D4:=key,Device:=(a2t n).1,Up:=true },0)
instance (n:Int):P9 gl prog 54 [.v n] [] (.t2 (.v (a2t n).1) (.v (a2t n).2)):=⟨fun hh=>c5S n⟩
theorem c5T (key:Tag)(n:Int):C4 gl prog 22 [.v key,.v n] (fun r=>r = .t2 (.v (a1r key n).1) (.v (a1r key n).2)):=by
 refine .go func22 j0 20 [.cell 4 39,.tmp 5] j0 (by kernel_rfl) fun C hG=>(.z hG (by kernel_rfl) fun _ _ _=>⟨fun h => ?_,fun h => ?_⟩)
 ·unfold a1r;rw [if_pos h]
 ·unfold a1r;rw [if_neg h]
theorem b5s (a b:o7):b0L a b=decide (a=b):=by
 rw [Bool.eq_iff_iff]
 cases a;cases b
 simp only [b0L,Bool.and_eq_true,decide_eq_true_eq,o7.mk.injEq]
 constructor
 ·rintro⟨⟨⟨⟨⟨h1,h2⟩,h3⟩,h4⟩,h5⟩,h6⟩;exact⟨h1,h2,h3,h4,h6,h5⟩
 ·rintro⟨h1,h2,h3,h4,h6,h5⟩;exact⟨⟨⟨⟨⟨h1,h2⟩,h3⟩,h4⟩,h5⟩,h6⟩
theorem b3u (a b:o7):C4 gl prog 50 [.v a,.v b] (fun r=>r = .v (decide (a=b))):=(b5r a b).mono fun r h=>by rw [h,b5s]
instance (a:o7)(b:o7):P9 gl prog 50 [.v a,.v b] [] (.v (decide (a=b))):=⟨fun hh=>b3u a b⟩
theorem b1s (a b:List o7)(h:a.length≤1000000):C4 gl prog 16 [.v a,.v b] (fun y=>y = .v (decide (a=b))):=by
 refine .go func16 j0 27 [.tmp 4] j0 (by kernel_rfl) fun C hG=>(.z hG (by kernel_rfl) ⟨fun h1 => ?_,fun h1 => ?_⟩)
 ·rw [decide_eq_false];rintro rfl;exact h1 rfl
 refine .lp hG (fun k:Nat => [(5,.v (k:Int))]) (fun k => []) (fun k=>k≤a.length∧a.take k=b.take k) (fun k=>a.length - k) 0 (by kernel_rfl) ⟨j0,⟨Nat.zero_le _,j0⟩,fun k ⟨h2,h3⟩ => ?_⟩
 have hl:a.length=b.length:=by omega
 rw [Int.toNat_natCast]
 refine⟨fun h4=>⟨by omega,h4,by omega,by omega,fun h5 => ?_,fun h5=>⟨by omega,by omega,k+1,rfl,⟨by omega,a2X (by omega) (by omega) h3 (by simpa using h5)⟩,by omega⟩⟩,fun h4 => ?_⟩
 ·rw [decide_eq_false];rintro rfl;exact h5 (by simp)
 ·have e:a=b:=by rwa [List.take_of_length_le (by omega),List.take_of_length_le (by omega)] at h3
  rw [decide_eq_true e]
instance (a:List UInt8)(b:List UInt8):P9 gl prog 19 [.v a,.v b] [] (.v (decide (a=b))):=⟨fun hh=>c2F a b⟩
theorem c3r (a b:List Cav)(h:a.length≤1000000):C4 gl prog 78 [.v a,.v b] (fun y=>y = .v (decide (a=b))):=by
 refine .go func78 j0 62 [.tmp 4] j0 (by kernel_rfl) fun C hG=>(.z hG (by kernel_rfl) ⟨fun h1 => ?_,fun h1 => ?_⟩)
 ·rw [decide_eq_false];rintro rfl;exact h1 rfl
 refine .lp hG (fun k:Nat => [(5,.v (k:Int))]) (fun k => []) (fun k=>k≤a.length∧a.take k=b.take k) (fun k=>a.length - k) 0 (by kernel_rfl) ⟨j0,⟨Nat.zero_le _,j0⟩,fun k ⟨h2,h3⟩ => ?_⟩
 have hl:a.length=b.length:=by omega
 rw [Int.toNat_natCast]
 refine⟨fun h4=>⟨by omega,h4,by omega,by omega,⟨fun _ _=>by kernel_rfl,fun _ _=>by kernel_rfl,trivial⟩,fun nm=>⟨fun h5 => ?_,fun h5=>⟨by omega,by omega,k+1,rfl,⟨by omega,a2X (by omega) (by omega) h3 ?_⟩,by omega⟩⟩⟩,fun h4 => ?_⟩
 ·rw [decide_eq_false];rintro rfl;simp at h5
 ·simp only [not_or,Classical.not_not,bne_iff_ne,ne_eq] at h5
  obtain⟨⟨⟨⟨e1,e2⟩,e3⟩,e4⟩,e5⟩:=h5
  generalize a.getD k default=x at *
  generalize b.getD k default=y at *
  cases x;cases y
  simp_all
 ·have e:a=b:=by rwa [List.take_of_length_le (by omega),List.take_of_length_le (by omega)] at h3
  rw [decide_eq_true e]
instance (a:List Cav)(b:List Cav):P9 gl prog 78 [.v a,.v b] [a.length≤1000000] (.v (decide (a=b))):=⟨fun hh=>c3r a b hh.1⟩
theorem b3v (a b:u9)(h:a.y5.length≤1000000):C4 gl prog 51 [.v a,.v b] (fun y=>y = .v (decide (a=b))):=by
 refine .go func51 j0 24 [.tmp 4] j0 (by kernel_rfl) fun C hG=>(.z hG (by kernel_rfl) fun _ _=>⟨fun _=>h,?_⟩)
 congr 1
 rw [Bool.eq_iff_iff]
 cases a;cases b
 simp only [Bool.and_eq_true,decide_eq_true_eq,u9.mk.injEq,and_assoc]
instance (a:u9)(b:u9):P9 gl prog 51 [.v a,.v b] [a.y5.length≤1000000] (.v (decide (a=b))):=⟨fun hh=>b3v a b hh.1⟩
theorem b1t (a b:List u9)(h:a.length≤1000000)(hc:∀ m∈a,m.y5.length≤1000000):C4 gl prog 17 [.v a,.v b] (fun y=>y = .v (decide (a=b))):=by
 refine .go func17 j0 27 [.tmp 4] j0 (by kernel_rfl) fun C hG=>(.z hG (by kernel_rfl) ⟨fun h1 => ?_,fun h1 => ?_⟩)
 ·rw [decide_eq_false];rintro rfl;exact h1 rfl
 refine .lp hG (fun k:Nat => [(5,.v (k:Int))]) (fun k => []) (fun k=>k≤a.length∧a.take k=b.take k) (fun k=>a.length - k) 0 (by kernel_rfl) ⟨j0,⟨Nat.zero_le _,j0⟩,fun k ⟨h2,h3⟩ => ?_⟩
 have hl:a.length=b.length:=by omega
 rw [Int.toNat_natCast]
 refine⟨fun h4=>⟨by omega,h4,by omega,by omega,hc _ (T7 (by omega)),fun h5 => ?_,fun h5=>⟨by omega,by omega,k+1,rfl,⟨by omega,a2X (by omega) (by omega) h3 (by simpa using h5)⟩,by omega⟩⟩,fun h4 => ?_⟩
 ·rw [decide_eq_false];rintro rfl;exact h5 (by simp)
 ·have e:a=b:=by rwa [List.take_of_length_le (by omega),List.take_of_length_le (by omega)] at h3
  rw [decide_eq_true e]
theorem d1a (s:Str)(b:List UInt8)(hs:s.l.length≤1000)(hb:b.length≤1000000):C4 gl prog 199 [.v s,.v b] (fun r=>r = .v (s.l++b)):=by
 refine C4.jn func199 (by kernel_rfl) 9 rfl fun C hC hG => ?_
 refine .q 7 hG ?_
 refine .h (.a5f underlying9 underlying34 underlying5 (.t j0) fun w6 => ?_)
 refine .q 1 hG ?_
 refine .ap (by first|omega|(simp;done)|(simp;omega)|(simp at *;omega)) (by first|omega|(simp;done)|(simp;omega)|(simp at *;omega)) fun w8 => ?_
 refine .q 2 hG ?_
 refine .Q7 hC .z (.as 4 j0 .z ?_)
 refine .q 1 hG ?_
 refine .e1 j0 j0 ?_
 rfl
theorem c3s (e n:Int):C4 gl prog 181 [.v e,.v n] (fun r=>r = .v (a35 e n)):=by
 refine C4.jn func181 (by kernel_rfl) 19 rfl fun C hC hG => ?_
 refine .q 23 hG ?_
 refine .e1 j0 j0 ?_
 rfl
theorem c0F (n:Int)(h0:0≤n)(h1:n≤281474976710656):C4 gl prog 183 [.v n] (fun r=>r = .v (a1F n)):=by
 have hlen:=H4 (n:=n.toNat) (by omega)
 refine C4.jn func183 (by kernel_rfl) 12 rfl fun C hC hG => ?_
 refine .q 7 hG ?_
 refine .p (.J7 hG ((a0i _ _ (by decide) (by omega) (by omega)).b9E) (.cons .b1h (.cons (.t j0) .nil)) ?_)
 refine .q 9 hG ?_
 refine .p (.J7 hG (d1a _ _ (by decide) (by simp;omega)) (.cons (.s [109,105,110,116] (by decide) (by decide)) (.cons (.t j0) .nil)) ?_)
 refine .q 3 hG ?_
 refine .e1 j0 j0 ?_
 rfl
theorem b7y (c:Cav):(V1 c).1.length≤2100:=by
 unfold V1;split
 ·next h=>exact a4z h
 ·simp
structure MkV where
 a:F1
 e:Int
instance:UB MkV where
 ub I w x X:=∃ um ub,(C3.P4 w (MkU.mk x.a x.e um ub)).a0H I X
 mono hle h:=by obtain⟨um,ub,h⟩:=h;exact⟨um,ub,C3.mono hle h⟩
theorem C6.mkV {f : FuncId}{ag : List AV}{w : Value}{a : F1}{e : Int}{R : AV}{A : F1}{E : Int}(h : ∀ x : MkU, x.a = a → x.e = e → C6 gl prog f ag [.P4 w x] (fun r Hs => ∃ x' : MkU, Hs = [.P4 w x'] ∧ r = R ∧ x'.a = A ∧ x'.e = E)) :
    C6 gl prog f ag [.P4 w (MkV.mk a e)] (fun r Hs=>r=R∧Hs = [.P4 w (MkV.mk A E)]):=by
  refine .a2J fun I L vs hvs hL => ?_
  obtain⟨X,R0,rfl,⟨um,ub,h1⟩,h2⟩:=hL
  refine⟨ag,[.P4 w (MkU.mk a e um ub)],X::R0,j0,hvs,⟨X,R0,j0,h1,h2⟩,(h ⟨a,e,um,ub⟩ j0 j0).mono fun r Hs q J L1 hk => ?_⟩
  obtain⟨x',rfl,q1,rfl,rfl⟩:=q
  obtain⟨X2,R2,rfl,k1,k2⟩:=hk
  exact⟨[.P4 w (MkV.mk x'.a x'.e)],X2::R2,j0,⟨X2,R2,j0,⟨x'.um,x'.ub,k1⟩,k2⟩,q1,j0⟩
theorem c5U (a:F1):C6 gl prog 82 [.v a] [] (fun r Hs=>∃ w:Value,True∧r=mp w∧Hs = [.P4 w (MkV.mk a 0)]):=by
 refine .a2J fun I L vs hvs hL=>⟨_,_,L,j0,hvs,hL,(a9w a).mono fun r Hs q J L1 hk => ?_⟩
 obtain⟨w,x,rfl,rfl,rfl,e⟩:=q
 obtain⟨X2,R2,rfl,k1,k2⟩:=hk
 refine⟨[.P4 w (MkV.mk x.a 0)],X2::R2,j0,⟨X2,R2,j0,⟨x.um,x.ub,?_⟩,k2⟩,w,trivial,j0,j0⟩
 rw [←e];exact k1
theorem d1b (w:Value)(a:F1)(e:Int)(k:Tag)(m:List UInt8)(hl:a.G4.length≤1000000):C6 gl prog 148 [mp w,.v k,.v m] [.P4 w (MkV.mk a e)] (fun r Hs=>r = .v (O2 a e k m).1∧Hs = [.P4 w (MkV.mk (O2 a e k m).2.1 (O2 a e k m).2.2)]) :=
 C6.mkV fun x h1 h2=>by subst h1;subst h2;exact c2L w x k m hl
theorem c5V (b:Nat)(s:u7)(n:Int):C6 gl prog 87 [mp (ptr b 0),.v n] [.ob (ptr b 0) s] (fun r Hs=>r = .raw (.tuple #[])∧Hs = [.ob (ptr b 0) { s with e:=if s.e=0 then n else s.e }]):=by
 refine .go func87 j0 13 [] j0 (by kernel_rfl) fun C hG=>(.z hG (by kernel_rfl) ⟨fun h => .z hG (by kernel_rfl) ?_,fun h => .z hG (by kernel_rfl) ?_⟩)
 ·rw [if_pos h];exact P6.of [ptr b 0] ⟨rfl,rfl⟩
 ·rw [if_neg h];exact P6.of [ptr b 0] ⟨rfl,rfl⟩
theorem c5W (s:G9):C4 gl prog 84 [.p s] (fun r=>r = .t2 (.v (if s.e≠0 then default else s.a)) (.v s.e)):=by
 refine .go func84 j0 18 [.cell 2 46,.tmp 3] j0 (by kernel_rfl) fun C hG=>(.z hG (by kernel_rfl) fun _=>⟨fun h => ?_,fun h => ?_⟩)
 ·rw [if_pos h]
 ·have h0:s.e=0:=Classical.not_not.1 h
  rw [if_neg h,h0]
theorem c8m (w:Value)(a:F1)(e n:Int):C6 gl prog 87 [mp w,.v n] [.P4 w (MkV.mk a e)] (fun r Hs=>r = .raw (.tuple #[])∧Hs = [.P4 w (MkV.mk a (if e=0 then n else e))]):=by
 refine .a2J fun I L vs hvs hL => ?_
 obtain⟨X,R0,rfl,⟨um,ub,L0,rfl,h1⟩,h2⟩:=hL
 obtain rfl:R0 = []:=h2
 obtain⟨b,rfl⟩:∃ b,w=ptr b 0:=by
  obtain⟨X1,R1,rfl,⟨b,T,cs,e1,e2,e3⟩,h3⟩:=h1
  exact⟨b,e1⟩
 have hF:=C6.frame (gsB ub a) (C6.frame (gsM um a) (c5V b (a2D a e um ub) n))
 refine⟨_,_,L0,by simp,hvs,h1,hF.mono fun r Hs q J L1 hk => ?_⟩
 obtain⟨Hs0,rfl,Hs1,rfl,rfl,rfl⟩:=q
 exact⟨[.P4 (ptr b 0) (MkV.mk a (if e=0 then n else e))],[L1.flatten],by simp,⟨_,[],rfl,⟨um,ub,L1,rfl,hk⟩,rfl⟩,rfl,rfl⟩
instance (w:Value)(a:F1)(e n:Int):CaM gl prog 87 [mp w,.v n] (.P4 w (MkV.mk a e)) [] (.raw (.tuple #[])) (.P4 w (MkV.mk a (if e=0 then n else e))):=⟨fun _=>c8m w a e n⟩
instance (a:F1):CaX gl prog 82 [.v a] Value [] (fun _=>True) mp (fun w => [.P4 w (MkV.mk a 0)]):=⟨fun _=>c5U a⟩
instance (w:Value)(a:F1)(e:Int)(k:Tag)(m:List UInt8):CaM gl prog 148 [mp w,.v k,.v m] (.P4 w (MkV.mk a e)) [a.G4.length≤1000000] (.v (O2 a e k m).1) (.P4 w (MkV.mk (O2 a e k m).2.1 (O2 a e k m).2.2)):=⟨fun h=>d1b w a e k m h.1⟩
instance (s:G9):P9 gl prog 84 [.p s] [] (.t2 (.v (if s.e≠0 then default else s.a)) (.v s.e)):=⟨fun _=>c5W s⟩
theorem c3t (a:F1)(e:Int)(x y:Value)(I:Fl.Im)(cs:List Value)(h:u3.rep I (a2D a e x y) cs)(h4:F9 I (.v a.G4) x)(h5:F9 I (.v a.B7) y):u3.rep I (G9.mk a e) cs:=by
 obtain⟨c1,r1,rfl,⟨d1,s1,rfl,g1,d2,s2,rfl,g2,d3,s3,rfl,g3,d4,s4,rfl,⟨rfl,_⟩,d5,s5,rfl,⟨rfl,_⟩,g6⟩,h2⟩:=h
 obtain⟨_,⟨v4,rfl,h4⟩,rfl⟩:=h4
 obtain⟨_,⟨v5,rfl,h5⟩,rfl⟩:=h5
 exact⟨_,r1,j0,⟨d1,_,j0,g1,d2,_,j0,g2,d3,_,j0,g3,_,_,j0,⟨_,j0,h4⟩,_,_,j0,⟨_,j0,h5⟩,g6⟩,h2⟩
theorem d1c {P:Program}{C:Ctx}{N:Nat}{σ:o8}{H:j8}{Q:Exit→o8→j8→Prop}{c:Code}(hC:Ctx.Ok C)(t:Nat){w:Value}{a:F1}{e:Int}{F:Bool×C3→j8}(ht:F6 σ t=some (mp w))(hH:H9 H (true,.P4 w (MkV.mk a e)) F)
    (k:wpA P C N c Q ((t,.p (G9.mk a e))::σ) (F (true,.fz w .any))):wpA P C N c Q σ H:=fun ρ I L hs=>by
  obtain⟨i,X,h1,h2,h3⟩:=hH.get hs.heap
  refine .freeze i h1 (a3F hC h2) fun J hle hp=>k ρ J _ ⟨fun s b hb => ?_,h3 J _ [] hle ⟨⟨rfl,trivial⟩,by simp⟩,hs.U9.trans hle⟩
  rw [G7] at hb
  by_cases ee:t=s
  · subst ee;simp only [if_true] at hb;cases hb
    obtain⟨u,h4,h5⟩:=hs.env t _ ht
    refine⟨u,h4,?_⟩
    obtain⟨um,ub,L0,rfl,X0,R0,rfl,g0,X1,R1,rfl,g1,X2,R2,rfl,g2,g3⟩:=h2.1
    have f0:=a7X g0 hle (fun p hq=>hp p (by simp [hq]))
    have f1:=a79 g1 hle (fun p hq=>hp p (by simp [hq]))
    have f2:=a79 g2 hle (fun p hq=>hp p (by simp [hq]))
    obtain⟨b,o,cs,e1,e2,e3⟩:=f0
    obtain⟨b',e4,e5⟩:=h5
    have e6:w=u:=by
      obtain⟨b2,T,cs2,e7,_⟩:=g0
      subst e7
      have:b2=b':=by simpa [a6r,ptr] using e4
      subst this
      rw [e5];rfl
    subst e6
    exact⟨b,o,cs,e1,c3t a e um ub J cs e2 f1 f2,e3⟩
  · rw [if_neg ee] at hb
    obtain⟨u,h4,h5⟩:=hs.env s b hb
    exact⟨u,h4,h5.mono hle⟩
class MkR (id:Nat)(t:outParam Nat):Prop where h:True
instance (priority:=2000){mo:Nat}{G:Gl}{P:Program}{C:Ctx}{N n:Nat}{Q:Exit→o8→j8→Prop}{l:Array Oper}{bo:Bool}{σ:o8}{H:j8}{id t:Nat}{w:Value}{Eb:List Bool}{A:Prop}{a:F1}{e:Int}{F:Bool×C3→j8}[f:MkR id t][ht:LkQ σ t (mp w)][h:HoQ H w (true,.P4 w (MkV.mk a e)) F]
    [k:Rw mo G P C N n (.a (.region id l bo) Q) ((t,.p (G9.mk a e))::σ) (F (true,.fz w .any)) Eb A]:Rw mo G P C N n (.a (.region id l bo) Q) σ H Eb A:=⟨fun g e q=>d1c g.1 t ht.h h.h (k.h g e q)⟩
theorem a8l (a:F1)(e:Int)(k:Tag)(m:List UInt8):(O2 a e k m).2.1.G4.length≤a.G4.length+1:=by
 unfold O2
 split
 ·exact Nat.le_succ _
 ·show(if (P3 a k m).2.2=0 then (P3 a k m).1 else a).G4.length≤_
  split
  ·unfold P3
   split
   ·exact Nat.zero_le _
   split
   ·exact Nat.le_succ _
   split
   ·exact Nat.zero_le _
   ·show(a.G4 ++ [_]).length≤_
    rw [List.length_append];exact Nat.le_refl _
  ·exact Nat.le_succ _
def a2G (a:F1)(e:Int)(k:Tag)(m:List UInt8):Tag×F1×Int:=((O2 a e k m).1,(O2 (O2 a e k m).2.1 (O2 a e k m).2.2 (O2 a e k m).1 [110,111,100,101]).2.1,(O2 (O2 a e k m).2.1 (O2 a e k m).2.2 (O2 a e k m).1 [110,111,100,101]).2.2)
theorem c3u (w:Value)(a:F1)(e:Int)(k:Tag)(m:List UInt8)(hl:a.G4.length≤900000):C6 gl prog 182 [mp w,.v k,.v m] [.P4 w (MkV.mk a e)] (fun r Hs=>r = .v (a2G a e k m).1∧Hs = [.P4 w (MkV.mk (a2G a e k m).2.1 (a2G a e k m).2.2)]):=by
 refine .go func182 j0 18 [.cell 6 28] j0 (by kernel_rfl) fun C hG => ?_
 have h1:=a8l a e k m
 exact .z hG (by kernel_rfl) fun _ _=>⟨by omega,fun _ _=>⟨by simp,by omega,P6.of [w] ⟨rfl,rfl⟩⟩⟩
instance (w:Value)(a:F1)(e:Int)(k:Tag)(m:List UInt8):CaM gl prog 182 [mp w,.v k,.v m] (.P4 w (MkV.mk a e)) [a.G4.length≤900000] (.v (a2G a e k m).1) (.P4 w (MkV.mk (a2G a e k m).2.1 (a2G a e k m).2.2)):=⟨fun h=>c3u w a e k m h.1⟩
theorem b2f (a:F1)(e:Int)(k:Tag)(m:List UInt8):(a2G a e k m).2.1.G4.length≤a.G4.length+2:=by
 have h1:=a8l a e k m
 have h2:=a8l (O2 a e k m).2.1 (O2 a e k m).2.2 (O2 a e k m).1 [110,111,100,101]
 show(O2 (O2 a e k m).2.1 (O2 a e k m).2.2 (O2 a e k m).1 [110,111,100,101]).2.1.G4.length≤_
 omega
def U8 (a:F1)(root:y3)(n:Int):F1×B5×Int :=
 if a35 root.Number n=false then (default,default,1) else
 if (a2G a 0 root.Key (a1F n)).2.2≠0 then (default,default,(a2G a 0 root.Key (a1F n)).2.2) else
 ((a2G a 0 root.Key (a1F n)).2.1,⟨root.Number,n,[],(a2G a 0 root.Key (a1F n)).1⟩,0)
instance (e:Int)(n:Int):P9 gl prog 181 [.v e,.v n] [] (.v (a35 e n)):=⟨fun hh=>c3s e n⟩
instance (n:Int):P9 gl prog 183 [.v n] [0≤n,n≤281474976710656] (.v (a1F n)):=⟨fun hh=>c0F n hh.1 hh.2.1⟩
theorem c3v (a:F1)(root:y3)(n:Int)(h0:0≤n)(h1:n≤281474976710656)(hl:a.G4.length≤800000):C4 gl prog 129 [.v a,.v root,.v n] (fun r=>r = .t3 (.v (U8 a root n).1) (.v (U8 a root n).2.1) (.v (U8 a root n).2.2)):=by
 have im:MkR 5 9:=⟨trivial⟩
 refine .go func129 rfl 44 [.cell 6 46,.cell 7 77,.tmp 8] rfl (by kernel_rfl) fun C hG=>(.z hG (by kernel_rfl) fun _ _ _ _=>⟨fun h => ?_,fun h w _=>⟨h0,h1,by omega,⟨fun _ _=>by kernel_rfl,trivial⟩,fun nm _=>⟨fun h5 => ?_,fun h5 => ?_⟩⟩⟩)
 ·unfold U8;rw [if_pos (by simpa using h)]
 ·unfold U8;rw [if_neg (by simpa using h),if_pos h5]
 ·have h6:¬(a2G a 0 root.Key (a1F n)).2.2≠0:=h5
  have h7:¬a35 root.Number n=false:=by simpa using h
  unfold U8;rw [if_neg h5,if_neg h7,if_neg h6];rfl
instance (l:List Cav):P9 gl prog 250 [.v l] [l.length≤1000000] (.v (a07 l)):=⟨fun hh=>b5a l hh.1⟩
def a9E (l:List Cav):Int:=l.length - (a07 l).length
theorem b7z (l:List Cav)(hl:l.length≤1000000):C4 gl prog 227 [.v l] (fun r=>r = .v (a9E l)):=by
 have hf:(a07 l).length≤l.length:=by unfold a07;rw [List.length_map];exact List.length_filter_le _ _
 refine .go func227 j0 9 [.tmp 2] j0 (by kernel_rfl) fun C hG => ?_
 exact .z hG (by kernel_rfl) ⟨hl,by omega,by omega,rfl⟩
instance (c:Cav):P9 gl prog 226 [.v c] [] (.t2 (.v (V1 c).1) (.v (V1 c).2)):=⟨fun hh=>b5b c⟩
instance (l:List Cav):P9 gl prog 227 [.v l] [l.length≤1000000] (.v (a9E l)):=⟨fun hh=>b7z l hh.1⟩
instance (l:List y1):P9 gl prog 228 [.v l] [] (.vc l):=⟨fun hh=>c2P l⟩
instance (l:List y1):P9 gl prog 122 [.v l] [V0 l] (.v l):=⟨fun hh=>a6x l hh.1⟩
instance (s:Str)(b:List UInt8):P9 gl prog 199 [.v s,.v b] [s.l.length≤1000,b.length≤1000000] (.v (s.l++b)):=⟨fun hh=>b0J s b hh.1 hh.2.1⟩
def a7v (p:B5)(c:Cav):Bool:=decide (64≤p.y5.length)||(c.a0l&&decide (8≤a9E p.y5))
def b0M (e:Int)(p:B5)(c:Cav):Int:=if a7v p c then (if (if e=0 then (V1 c).2 else e)=0 then 2 else (if e=0 then (V1 c).2 else e)) else (if e=0 then (V1 c).2 else e)
def a2u (a:F1)(e:Int)(p:B5)(c:Cav):Tag×F1×Int:=a2G a (b0M e p c) p.Tag ([99,97,118,101,97,116]++(V1 c).1)
theorem a8Y (p:B5)(c:Cav):a7v p c=true↔(64≤(p.y5.length:Int)∨c.a0l=true∧8≤a9E p.y5):=by
 unfold a7v
 simp only [Bool.or_eq_true,Bool.and_eq_true,decide_eq_true_eq]
 constructor
 ·rintro (h|h)
  ·exact .inl (by omega)
  ·exact .inr h
 ·rintro (h|h)
  ·exact .inl (by omega)
  ·exact .inr h
theorem c3w (w:Value)(a:F1)(e:Int)(p:B5)(c:Cav)(hl:a.G4.length≤800000)(hc:V0 p.y5)(hcc:c.L7.length≤1000000∧c.O8.length≤1000000)(hcl:p.y5.length≤999999)(hel:(V1 c).1.length≤1000000):C6 gl prog 184 [mp w,.v p,.v c] [.P4 w (MkV.mk a e)] (fun r Hs=>r = .v ({ p with y5:=p.y5 ++ [c],Tag:=(a2u a e p c).1 }:B5)∧Hs = [.P4 w (MkV.mk (a2u a e p c).2.1 (a2u a e p c).2.2)]):=by
 have n24:NgS 24:=⟨trivial⟩
 have hB:V0 (p.y5 ++ [c]):=⟨by rw [List.length_append,List.length_singleton];omega,fun x hx=>by
  rcases List.mem_append.1 hx with hx|hx
  ·exact hc.2 x hx
  ·rw [List.mem_singleton.1 hx];exact hcc⟩
 refine .go func184 j0 49 [.cell 6 77] j0 (by kernel_rfl) fun C hG=>(.z hG (by kernel_rfl) fun b b1 b2=>⟨fun _ _=>hc.1,fun h => .z hG (by kernel_rfl) ?_,fun h => .z hG (by kernel_rfl) ?_⟩)
 ·have hE:b0M e p c=(if (if e=0 then (V1 c).2 else e)=0 then 2 else (if e=0 then (V1 c).2 else e)):=by unfold b0M;rw [if_pos ((a8Y p c).2 h)]
  refine⟨by simp only [List.length_singleton];omega,by simp only [List.length_singleton];omega,hB,by decide,hel,by omega,?_⟩
  unfold a2u;rw [hE]
  exact P6.of [w] ⟨rfl,rfl⟩
 ·have hE:b0M e p c=(if e=0 then (V1 c).2 else e):=by unfold b0M;rw [if_neg fun q=>h ((a8Y p c).1 q)]
  refine⟨by simp only [List.length_singleton];omega,by simp only [List.length_singleton];omega,hB,by decide,hel,by omega,?_⟩
  unfold a2u;rw [hE]
  exact P6.of [w] ⟨rfl,rfl⟩
instance (w:Value)(a:F1)(e:Int)(p:B5)(c:Cav):CaM gl prog 184 [mp w,.v p,.v c] (.P4 w (MkV.mk a e)) [a.G4.length≤800000,V0 p.y5,c.L7.length≤1000000∧c.O8.length≤1000000,p.y5.length≤999999,(V1 c).1.length≤1000000] (.v ({ p with y5:=p.y5 ++ [c],Tag:=(a2u a e p c).1 }:B5)) (.P4 w (MkV.mk (a2u a e p c).2.1 (a2u a e p c).2.2)):=⟨fun hh=>c3w w a e p c hh.1 hh.2.1 hh.2.2.1 hh.2.2.2.1 hh.2.2.2.2.1⟩
def a1i (a:F1)(p:B5)(c:Cav):F1×B5×Int :=
 if (a2u a 0 p c).2.2≠0 then (default,default,(a2u a 0 p c).2.2) else ((a2u a 0 p c).2.1,{ p with y5:=p.y5 ++ [c],Tag:=(a2u a 0 p c).1 },0)
theorem c5X (a:F1)(p:B5)(c:Cav)(hl:a.G4.length≤800000)(hc:V0 p.y5)(hcc:c.L7.length≤1000000∧c.O8.length≤1000000)(hcl:p.y5.length≤999999)(hel:(V1 c).1.length≤1000000):C4 gl prog 130 [.v a,.v p,.v c] (fun r=>r = .t3 (.v (a1i a p c).1) (.v (a1i a p c).2.1) (.v (a1i a p c).2.2)):=by
 have im:MkR 3 9:=⟨trivial⟩
 refine .go func130 j0 31 [.cell 6 46,.cell 7 77,.tmp 8] j0 (by kernel_rfl) fun C hG=>(.z hG (by kernel_rfl) fun _ _ _ _ _ w _=>⟨hl,hc,hcc,hcl,hel,fun _ _=>⟨fun h5 => ?_,fun h5 => ?_⟩⟩)
 ·unfold a1i;rw [if_pos h5]
 ·have h6:¬(a2u a 0 p c).2.2≠0:=h5
  unfold a1i;rw [if_neg h5,if_neg h6]
instance (n:Int):P9 gl prog 40 [.v n] [] (.t2 (.v (a2t n).1) (.v (a2t n).2)):=⟨fun hh=>c5C n⟩
instance (a:F1)(root:y3)(n:Int):P9 gl prog 129 [.v a,.v root,.v n] [0≤n,n≤281474976710656,a.G4.length≤800000] (.t3 (.v (U8 a root n).1) (.v (U8 a root n).2.1) (.v (U8 a root n).2.2)):=⟨fun hh=>c3v a root n hh.1 hh.2.1 hh.2.2.1⟩
instance (a:F1)(p:B5)(c:Cav):P9 gl prog 130 [.v a,.v p,.v c] [a.G4.length≤800000,V0 p.y5,c.L7.length≤1000000∧c.O8.length≤1000000,p.y5.length≤999999,(V1 c).1.length≤1000000] (.t3 (.v (a1i a p c).1) (.v (a1i a p c).2.1) (.v (a1i a p c).2.2)):=⟨fun hh=>c5X a p c hh.1 hh.2.1 hh.2.2.1 hh.2.2.2.1 hh.2.2.2.2.1⟩
theorem b9c (key:Tag)(n:Int):C4 gl prog 9 [.v key,.v n] (fun r=>r = .t2 (.v (a1r key n).1) (.v (a1r key n).2)):=by
 refine .go func9 j0 20 [.cell 4 39,.tmp 5] j0 (by kernel_rfl) fun C hG=>(.z hG (by kernel_rfl) fun _ _ _=>⟨fun h => ?_,fun h => ?_⟩)
 ·unfold a1r;rw [if_pos h]
 ·unfold a1r;rw [if_neg h]
def X6 (s:F1×B5×Int)(l:List Pred):F1×B5×Int:=l.foldl (fun s q=>if s.2.2≠0 then s else a1i s.1 s.2.1 { (default:Cav) with X3:=q }) s
def a3P (q:Pred):Cav := { (default:Cav) with X3:=q }
theorem a4C (s:F1×B5×Int)(l:List Pred){k:Nat}(h:k < l.length):X6 s (l.take (k+1))=if (X6 s (l.take k)).2.2≠0 then X6 s (l.take k) else a1i (X6 s (l.take k)).1 (X6 s (l.take k)).2.1 (a3P (l.getD k default)):=by
 unfold X6
 rw [List.take_add_one,List.foldl_append,List.getElem?_eq_getElem h,List.getD_eq_getElem?_getD,List.getElem?_eq_getElem h];rfl
theorem b0N (s:F1×B5×Int):∀ (l:List Pred),s.2.2≠0→X6 s l=s
 | [],_=>rfl
 | q::l,h=>by
  show X6 (if s.2.2≠0 then s else _) l=s
  rw [if_pos h];exact b0N s l h
theorem c0G (s:F1×B5×Int)(l m:List Pred):X6 s (l++m)=X6 (X6 s l) m:=List.foldl_append
theorem c0H (s:F1×B5×Int)(l:List Pred)(k:Nat)(h:(X6 s (l.take k)).2.2≠0):X6 s l=X6 s (l.take k):=by
 conv=>lhs;rw [←List.take_append_drop k l]
 rw [c0G,b0N _ _ h]
def a2H (M k:Nat)(s:F1×B5×Int):Prop:=s.1.G4.length≤M+2*k∧V0 s.2.1.y5∧s.2.1.y5.length≤k
theorem V0.nil:V0 []:=⟨Nat.zero_le _,fun x hx=>by cases hx⟩
theorem a2H.c5Y {a:F1}{root:y3}{n:Int}{M:Nat}(h:a.G4.length+2≤M):a2H M 0 (U8 a root n):=by
 have h1:=b2f a 0 root.Key (a1F n)
 unfold U8
 split
 ·exact⟨Nat.zero_le _,V0.nil,Nat.le_refl _⟩
 split
 ·exact⟨Nat.zero_le _,V0.nil,Nat.le_refl _⟩
 ·exact⟨by show(a2G a 0 root.Key (a1F n)).2.1.G4.length≤_;omega,V0.nil,Nat.le_refl _⟩
theorem a2H.next {s:F1×B5×Int}{M k:Nat}(h:a2H M k s)(hk:k≤100000)(q:Pred):a2H M (k+1) (a1i s.1 s.2.1 (a3P q)):=by
 obtain⟨h1,h2,h3⟩:=h
 have h4:(a2u s.1 0 s.2.1 (a3P q)).2.1.G4.length≤s.1.G4.length+2:=b2f _ _ _ _
 unfold a1i
 split
 ·exact⟨Nat.zero_le _,V0.nil,Nat.zero_le _⟩
 ·refine⟨by show(a2u s.1 0 s.2.1 (a3P q)).2.1.G4.length≤_;omega,⟨?_,fun x hx => ?_⟩,?_⟩
  ·show(s.2.1.y5 ++ [a3P q]).length≤_
   rw [List.length_append,List.length_singleton];omega
  ·have hx:x∈s.2.1.y5 ++ [a3P q]:=hx
   rcases List.mem_append.1 hx with hx|hx
   ·exact h2.2 x hx
   ·rw [List.mem_singleton.1 hx];exact⟨Nat.zero_le _,Nat.zero_le _⟩
  ·show(s.2.1.y5 ++ [a3P q]).length≤_
   rw [List.length_append,List.length_singleton];omega
theorem a2H.mono {s:F1×B5×Int}{M k j:Nat}(h:a2H M k s)(hk:k≤j):a2H M j s:=⟨by have:=h.1;omega,h.2.1,by have:=h.2.2;omega⟩
theorem a2H.all {s:F1×B5×Int}{M:Nat}(h:a2H M 0 s)(l:List Pred)(hl:l.length≤1000):∀ k,k≤l.length→a2H M k (X6 s (l.take k))
 | 0,_=>h
 | k+1,hk=>by
  have h1:=a2H.all h l hl k (by omega)
  rw [a4C s l (by omega)]
  split
  ·exact h1.mono (by omega)
  ·exact h1.next (by omega) _
theorem c3x (a:F1)(root:y3)(n:Int)(l:List Pred)(h0:0≤n)(h1:n≤281474976710656)(hl:a.G4.length≤700000)(hp:l.length≤1000):C4 gl prog 69 [.v a,.v root,.v n,.v l] (fun r=>r = .t3 (.v (X6 (U8 a root n) l).1) (.v (X6 (U8 a root n) l).2.1) (.v (X6 (U8 a root n) l).2.2)):=by
 refine .go func69 rfl 47 [.cell 8 46,.cell 9 77,.tmp 10] rfl (by kernel_rfl) fun C hG=>(.z hG (by kernel_rfl) fun b b1 b2 b3=>⟨h0,h1,by omega,fun b4 => ?_⟩)
 refine .lp hG (fun k:Nat => [(13,.v (k:Int)),(12,.v (X6 (U8 a root n) (l.take k)).2.2)]) (fun k => [(ptr b4 0,.ob (ptr b4 0) (X6 (U8 a root n) (l.take k)).2.1),(ptr b 0,.ob (ptr b 0) (X6 (U8 a root n) (l.take k)).1)]) (fun k=>k≤l.length) (fun k=>l.length - k) 0 (by kernel_rfl) ⟨j0,j0,j0,j0,Nat.zero_le _,fun k hk => ?_⟩
 have hB:=a2H.all (a2H.c5Y (a:=a) (root:=root) (n:=n) (M:=700002) (by omega)) l hp k hk
 rw [Int.toNat_natCast]
 refine⟨fun ⟨h4,h5⟩=>⟨by omega,h4,by have:=hB.1;omega,hB.2.1,⟨Nat.zero_le _,Nat.zero_le _⟩,by have:=hB.2.2;omega,Nat.le_trans (b7y _) (by decide),by omega,by omega,k+1,rfl,?_,?_,?_,by omega,by omega⟩,fun h4 => ?_⟩
 ·rw [a4C _ l (by omega),if_neg (Classical.not_not.2 h5)];rfl
 ·rw [a4C _ l (by omega),if_neg (Classical.not_not.2 h5)];rfl
 ·rw [a4C _ l (by omega),if_neg (Classical.not_not.2 h5)];rfl
 ·by_cases h5:(X6 (U8 a root n) (l.take k)).2.2=0
  ·have:k=l.length:=by
    rcases Nat.lt_or_ge k l.length with h|h
    ·exact absurd ⟨by omega,h5⟩ h4
    ·omega
   rw [this,List.take_length]
  ·rw [c0H _ l k h5]
structure IsB (x:l8):Prop where
 live:x.Ring.Live.length≤1000000
 a0f:x.C0.length≤1000000
 c0I:∀ m∈x.C0,V0 m.y5
 items:x.E4.length≤1000000
 boxes:∀ i∈x.E4,i.O8.length≤1000000
 dev:V5 x.Device
instance (l:List y3):P9 gl prog 80 [.v l] [l.length≤1000000] (.v l):=⟨fun hh=>b1U l hh.1⟩
instance (l:List u9):P9 gl prog 66 [.v l] [l.length≤1000000,∀ m∈l,V0 m.y5] (.v l):=⟨fun hh=>b0v l hh.1 hh.2.1⟩
instance (l:List o7):P9 gl prog 65 [.v l] [l.length≤1000000,∀ x∈l,x.O8.length≤1000000] (.v l):=⟨fun hh=>a6w l hh.1 hh.2.1⟩
instance (d:l9):P9 gl prog 81 [.v d] [V5 d] (.v d):=⟨fun hh=>a4u d hh.1⟩
theorem a2c (x:l8)(h:IsB x):C4 gl prog 41 [.v x] (fun r=>r = .v x):=by
 refine .go func41 j0 22 [.cell 2 39] j0 (by kernel_rfl) fun C hG => ?_
 exact .z hG (by kernel_rfl) fun _ _=>⟨h.live,h.a0f,h.c0I,h.items,h.boxes,h.dev,j0⟩
instance (x:l8):P9 gl prog 41 [.v x] [IsB x] (.v x):=⟨fun hh=>a2c x hh.1⟩
def W6 (i:o7):Rec := { (default:Rec) with Kind:=4,Item:=i }
def W7 (m:u9):Rec := { (default:Rec) with Kind:=2,M3:=m }
def U6 (x:l8):List Rec:=x.E4.map W6++x.C0.map W7
theorem a6h {α β:Type}[Inhabited α](f:α→β){l:List α}{k:Nat}(h:k < l.length):(l.map f).take (k+1)=(l.map f).take k ++ [f (l.getD k default)]:=by
 rw [List.take_add_one,List.getElem?_map,List.getElem?_eq_getElem h,List.getD_eq_getElem?_getD,List.getElem?_eq_getElem h];rfl
instance (l:List o7):P9 gl prog 65 [.v l] [l.length≤1000000,∀ x∈l,x.O8.length≤1000000] (.v l):=⟨fun hh=>a6w l hh.1 hh.2.1⟩
instance (l:List u9):P9 gl prog 66 [.v l] [l.length≤1000000,∀ m∈l,V0 m.y5] (.v l):=⟨fun hh=>b0v l hh.1 hh.2.1⟩
theorem b5t (x:l8)(h:IsB x):C4 gl prog 28 [.v x] (fun r=>r = .v (U6 x)):=by
 have i3:a1Z 3:=⟨trivial⟩
 have i12:FzW 12 3:=⟨trivial⟩
 refine .go func28 j0 37 [.tmp 2] j0 (by kernel_rfl) fun C hG=>(.z hG (by kernel_rfl) fun b=>⟨h.items,h.boxes,?_⟩)
 refine .lp hG (fun y:Nat×Value => [(12,.v (y.1:Int)),(3,.raw y.2)]) (fun y => [(.slice none 0 0,.own 116 y.2 ((x.E4.map W6).take y.1))]) (fun y=>y.1≤x.E4.length) (fun y=>x.E4.length - y.1) (0,.slice none 0 0) (by kernel_rfl) ⟨j0,j0,j0,Nat.zero_le _,fun ⟨k,w⟩ hk => ?_⟩
 dsimp only at hk ⊢
 rw [Int.toNat_natCast]
 have hi:=h.items
 have hm:=h.a0f
 refine⟨fun h4=>⟨by omega,h4,fun _ _=>⟨?_,?_,fun w2=>⟨by omega,by omega,(k+1,w2),rfl,rfl,?_,by show k+1≤_;omega,by show _ - (k+1) < _;omega⟩⟩⟩,fun h4=>⟨h.a0f,h.c0I,?_⟩⟩
 ·simp only [List.length_take,List.length_map,List.length_singleton];omega
 ·simp only [List.length_take,List.length_map,List.length_singleton];omega
 ·show(true,C3.own _ w2 (_ ++ [W6 (x.E4.getD k default)]))=(true,C3.own _ w2 ((x.E4.map W6).take (k+1)))
  rw [a6h W6 (by omega)]
 ·obtain rfl:k=x.E4.length:=by omega
  rw [List.take_of_length_le (by rw [List.length_map];exact Nat.le_refl _)]
  refine .lp hG (fun y:Nat×Value => [(26,.v (y.1:Int)),(3,.raw y.2)]) (fun y => [(w,.own 116 y.2 (x.E4.map W6++(x.C0.map W7).take y.1))]) (fun y=>y.1≤x.C0.length) (fun y=>x.C0.length - y.1) (0,w) (by kernel_rfl) ⟨j0,j0,?_,Nat.zero_le _,fun ⟨j,w3⟩ hj => ?_⟩
  ·show(true,C3.own _ w _)=(true,C3.own _ w (x.E4.map W6 ++ []))
   rw [List.append_nil]
  dsimp only at hj ⊢
  rw [Int.toNat_natCast]
  refine⟨fun h5=>⟨by omega,h5,fun _ _=>⟨?_,?_,fun w2=>⟨by omega,by omega,(j+1,w2),rfl,rfl,?_,by show j+1≤_;omega,by show _ - (j+1) < _;omega⟩⟩⟩,fun h5 => ?_⟩
  ·simp only [List.length_append,List.length_take,List.length_map,List.length_singleton];omega
  ·simp only [List.length_append,List.length_take,List.length_map,List.length_singleton];omega
  ·show(true,C3.own _ w2 ((x.E4.map W6++(x.C0.map W7).take j) ++ [W7 (x.C0.getD j default)]))=(true,C3.own _ w2 (x.E4.map W6++(x.C0.map W7).take (j+1)))
   rw [a6h W7 (by omega),List.append_assoc]
  ·obtain rfl:j=x.C0.length:=by omega
   rw [List.take_of_length_le (by rw [List.length_map];exact Nat.le_refl _)];rfl
theorem b5u {gl:Gl}(x:l8):C4 gl prog 42 [.v x] (fun r=>r = .v (decide (4096≤(x.E4.length:Int)))):=by
 refine .go func42 j0 7 [.tmp 2] j0 (by kernel_rfl) fun C hG => ?_
 exact .z hG j0 fun b=>j0
theorem a5z {gl:Gl}(x:l8)(d:l9):C4 gl prog 53 [.v x,.v d] (fun r=>r = .v { (default:l8) with D4:=x.D4,Device:=d }):=by
 refine .go func53 j0 9 [.cell 4 39] j0 (by kernel_rfl) fun C hG => ?_
 exact .z hG j0 fun b2 b3 b4=>j0
def a0z (x:l8)(d:l9):l8 := { (default:l8) with D4:=x.D4,Device:=d }
def U7 (x:l8):l8×Int :=
 if x.Up=false then (x,13) else
 if (T8 x.Device (U6 x)).2=27 then (a0z x (T8 x.Device (U6 x)).1,27) else
 (if (T8 x.Device (U6 x)).2=0 then { x with Device:=(T8 x.Device (U6 x)).1 } else x,(T8 x.Device (U6 x)).2)
theorem b7A (x:l8):∀ r∈U6 x,r.Kind=2∨r.Kind=4:=by
 intro r hr
 rcases List.mem_append.1 hr with hr|hr
 ·obtain⟨i,_,rfl⟩:=List.mem_map.1 hr;exact .inr rfl
 ·obtain⟨i,_,rfl⟩:=List.mem_map.1 hr;exact .inl rfl
theorem b5v (x:l8)(h:IsB x)(hl:x.E4.length+x.C0.length≤10000)(ha:x.Device.B3=0∨x.Device.B3=1)(hw : -1000000000≤x.Device.C7∧x.Device.C7≤1000000000):C4 gl prog 21 [.v x] (fun r=>r = .t2 (.v (U7 x).1) (.v (U7 x).2)):=by
 have i1:∀ (x:l8) (d:l9),P9 gl prog 53 [.v x,.v d] [] (.v (a0z x d)):=fun x d=>⟨fun _=>a5z x d⟩
 have i_isRecords_c:∀ (x:l8),P9 gl prog 28 [.v x] [IsB x] (.v (U6 x)):=fun x=>⟨fun hh=>b5t x hh.1⟩
 have i_compact_c:∀ (d:l9) (l:List Rec),P9 gl prog 52 [.v d,.v l] [∀ r∈l,r.Kind=2∨r.Kind=4,l.length≤10000,V5 d,d.B3=0∨d.B3=1,-1000000000≤d.C7∧d.C7≤1000000000] (.t2 (.v (T8 d l).1) (.v (T8 d l).2)):=fun d l=>⟨fun hh=>c0z d l hh.1 hh.2.1 hh.2.2.1 hh.2.2.2.1 hh.2.2.2.2.1⟩
 refine .go func21 j0 34 [.cell 2 39,.tmp 3] j0 (by kernel_rfl) fun C hG => ?_
 have hln:(U6 x).length≤10000:=by unfold U6;rw [List.length_append,List.length_map,List.length_map];exact hl
 refine .z hG (by kernel_rfl) fun _ _=>⟨fun h1=>⟨h,?_⟩,fun h1=>⟨h,b7A x,hln,h.dev,ha,hw,⟨fun _ _=>by kernel_rfl,trivial⟩,fun nm=>⟨fun h2 => ?_,fun h2=>⟨h,fun _=>⟨fun h3 => .z hG (by kernel_rfl) ?_,fun h3 => .z hG (by kernel_rfl) ?_⟩⟩⟩⟩⟩
 ·unfold U7;rw [if_pos (by simpa using h1)]
 all_goals have h1:¬x.Up=false:=by simpa using h1
 ·unfold U7;rw [if_neg h1,if_pos h2,h2]
 ·unfold U7;rw [if_neg h1,if_neg h2,if_pos h3]
 ·unfold U7;rw [if_neg h1,if_neg h2,if_neg h3]
structure G2 (a:F1)(n:Nat):Prop where
 a6G:a.G4.length≤n
 boxes:a.B7.length≤n
 b0O:0≤a.K9
 b0P:a.K9≤n
 tag:∀ i (h:i < a.G4.length),a.G4[i].Message.length≤1000∧a.G4[i].Tag=(if a.P7 then Y9 109 (i+1:Nat) else a3h a.G4[i].Key.l a.G4[i].Message)
 uniq:∀ i (h:i < a.G4.length),a.G4.find? (a3q a.G4[i].Key a.G4[i].Message)=some a.G4[i]
 box:∀ i (h:i < a.B7.length),a.B7[i].Plain.length≤256∧0≤a.B7[i].a6a∧a.B7[i].a6a≤281474976710656 ∧
  a.B7[i].O8=(if a.P7 then (Y9 98 (i+1:Nat)).l++List.replicate (a.B7[i].Plain.length+8) 0 else M5 a.B7[i].Key a.B7[i].a6a a.B7[i].Plain)
theorem G2.new (free:Bool)(seed:Tag)(n:Nat):G2 ⟨free,seed,0,[],[]⟩ n :=
 ⟨Nat.zero_le _,Nat.zero_le _,Int.le_refl _,Int.natCast_nonneg _,fun i h=>(by cases h),fun i h=>(by cases h),fun i h=>(by cases h)⟩
theorem G2.le {a:F1}{n m:Nat}(h:G2 a n)(hm:n≤m):G2 a m :=
 ⟨Nat.le_trans h.a6G hm,Nat.le_trans h.boxes hm,h.b0O,by have:=h.b0P;omega,h.tag,h.uniq,h.box⟩
theorem G2.key {a:F1}{n:Nat}(h:G2 a n)(hn:n < 65536):G2 (K2 a).1 (n+1):=by
 have:=h.b0P
 have:=h.b0O
 unfold K2
 rw [if_neg (by omega)]
 exact⟨Nat.le_succ_of_le h.a6G,Nat.le_succ_of_le h.boxes,by show 0≤a.K9+1;omega,by show a.K9+1≤((n+1:Nat):Int);omega,h.tag,h.uniq,h.box⟩
theorem c0J (k:Tag)(m:List UInt8)(x:D8):a3q k m x=true↔x.Key=k∧x.Message=m:=by simp [a3q]
theorem G2.mac {a:F1}{n:Nat}(h:G2 a n)(hn:n < 65536){k:Tag}{m:List UInt8}(hm:m.length≤1000):G2 (P3 a k m).1 (n+1):=by
 have h1:=h.a6G
 cases hf:a2M a k m with
 | some x =>
  have e:P3 a k m=(a,x.Tag,0):=by unfold P3;rw [if_neg (by omega),hf]
  rw [e];exact h.le (Nat.le_succ _)
 | none =>
  rw [a4t (by omega) hf (by omega)]
  have hnone:∀ x∈a.G4,a3q k m x=false:=fun x hx=>by
   have:=List.find?_eq_none.1 hf x hx
   simpa using this
  refine⟨by simp;exact h1,Nat.le_succ_of_le h.boxes,h.b0O,by have:=h.b0P;show a.K9≤_;omega,fun i hi => ?_,fun i hi => ?_,h.box⟩
  ·simp only [List.length_append,List.length_singleton] at hi
   by_cases e:i < a.G4.length
   ·simp only [List.getElem_append_left e];exact h.tag i e
   ·obtain rfl:i=a.G4.length:=by omega
    simp only [List.getElem_concat_length]
    refine⟨hm,?_⟩
    unfold a3H
    rw [show((a.G4.length+1:Nat):Int)=(a.G4.length:Int)+1 by omega]
  ·simp only [List.length_append,List.length_singleton] at hi
   by_cases e:i < a.G4.length
   ·simp only [List.getElem_append_left e]
    rw [List.find?_append,h.uniq i e];rfl
   ·obtain rfl:i=a.G4.length:=by omega
    simp only [List.getElem_concat_length]
    have:a.G4.find? (a3q k m)=none:=hf
    rw [List.find?_append,this]
    simp [a3q]
theorem G2.boxed {a:F1}{n:Nat}(h:G2 a n)(hn:n < 65536){k:Tag}{c:Int}{p:List UInt8}(hc0:0≤c)(hc1:c≤281474976710656)(hp:p.length≤256):G2 (Z9 a k c p).1 (n+1):=by
 have h1:=h.boxes
 have hr:(decide (c < 0)||decide (281474976710656 < c))=false:=by simp;omega
 cases hf:a.B7.find? (Z0 k c p) with
 | some x=>rw [a3I hr (by omega) hf];exact h.le (Nat.le_succ _)
 | none =>
  rw [a5p hr (by omega) hf (by omega)]
  refine⟨Nat.le_succ_of_le h.a6G,by simp;exact h1,h.b0O,by have:=h.b0P;show a.K9≤_;omega,h.tag,h.uniq,fun i hi => ?_⟩
  simp only [List.length_append,List.length_singleton] at hi
  by_cases e:i < a.B7.length
  ·simp only [List.getElem_append_left e];exact h.box i e
  ·obtain rfl:i=a.B7.length:=by omega
   simp only [List.getElem_concat_length]
   refine⟨hp,hc0,hc1,?_⟩
   unfold a8g
   rw [show((a.B7.length+1:Nat):Int)=(a.B7.length:Int)+1 by omega]
theorem G2.c60 {a:F1}{n:Nat}(h:G2 a n):∀ x∈a.B7,x.O8.length≤1000000:=fun x hx=>by
 obtain⟨i,hi,rfl⟩:=List.getElem_of_mem hx
 obtain⟨h1,_,_,h2⟩:=h.box i hi
 rw [h2]
 split
 ·simp;omega
 ·simp [M5,a0d,K8,a3c];omega
structure Made (a:F1)(n:Nat)(k:Tag)(m:List UInt8)(b:F1)(t:Tag):Prop where
 mac:P3 a k m=(b,t,0)
 again:P3 b k m=(b,t,0)
 look:a4s b k m=(t,true)
 len:b.G4.length≤a.G4.length+1
 d4e:a.G4.length≤b.G4.length
 old:∀ i (h:i < a.G4.length),a4s b a.G4[i].Key a.G4[i].Message=(a.G4[i].Tag,true)
 ok:G2 b (n+1)
theorem G2.c3y {a:F1}{n:Nat}(h:G2 a n)(i:Nat)(hi:i < a.G4.length):a4s a a.G4[i].Key a.G4[i].Message=(a.G4[i].Tag,true):=by
 obtain⟨h1,h2⟩:=h.tag i hi
 unfold a4s
 cases hf:a.P7 with
 | true =>
  rw [if_pos rfl]
  unfold b4D a2M
  rw [h.uniq i hi]
 | false =>
  rw [if_neg (by decide),if_neg (by omega),h2,hf];rfl
abbrev M6:=y3
def a1j (place:Int)(e:M6)(b:List UInt8):Item:=⟨place,1,e.Number,default,b,default⟩
def a4P (place:Int)(e:M6):Bool:=decide (place < 1)||decide (4096 < place)||decide (e.Number < 1)||decide (1000 < e.Number)
def K3 (a:F1)(k:Tag)(place:Int)(e:M6):F1×Item×Int :=
 if a4P place e then (default,default,1) else
 if (Z9 a k place e.Key.l).2.2≠0 then (default,default,(Z9 a k place e.Key.l).2.2) else L5 (Z9 a k place e.Key.l).1 k (a1j place e (Z9 a k place e.Key.l).2.1)
def c3z (l:List UInt8):Tag:=if h:l.length=32 then ⟨l,h⟩ else default
def M0 (a:F1)(k:Tag)(x:Item):M6×Int :=
 if x.Kind≠1 then (default,6) else if (O4 a k x.O8).2≠0 then (default,(O4 a k x.O8).2) else
 if (O4 a k x.O8).1.length≠32 then (default,5) else (⟨x.Number,c3z (O4 a k x.O8).1⟩,0)
theorem b5w {l:List UInt8}(h:l.length=32):c3z l=⟨l,h⟩:=by unfold c3z;rw [dif_pos h]
theorem c5Z (a:F1)(k:Tag)(x:Item)(hpl:∀ y∈a.B7,y.Plain.length≤1000000):C4 gl prog 99 [.v a,.v k,.v x] (fun r=>r = .t2 (.v (M0 a k x).1) (.v (M0 a k x).2)):=by
 refine C4.jn func99 (by kernel_rfl) 36 rfl fun C hC hG => ?_
 refine .q 3 hG fun b3 => ?_
 refine .q 1 hG fun b4 => ?_
 refine .q 1 hG fun b5 => ?_
 refine .q 1 hG fun b6 => ?_
 refine .q 10 hG ⟨fun hc12 => ?_,fun hc12 => ?_⟩
 ·refine .q 2 hG ?_
  refine .p (.bS0 (α:=y3) j0 b1o c1S ?_)
  refine .q 4 hG ?_
  refine⟨_,.r2 j0 (.cell b1o j0 .z) (.tmp j0),?_⟩
  unfold M0;rw [if_pos hc12]
 ·refine .q 7 hG ?_
  refine .p (.J7 hG (c0c _ _ _ hpl) (.cons (.t j0) (.cons (.t j0) (.cons (.t j0) .nil))) ?_)
  refine .q 13 hG ⟨fun hc23 => ?_,fun hc23 => ?_⟩
  ·refine .q 2 hG ?_
   refine .p (.bS0 (α:=y3) j0 b1o c1S ?_)
   refine .q 5 hG ?_
   refine⟨_,.r2 j0 (.cell b1o j0 .z) (.tmp j0),?_⟩
   unfold M0;rw [if_neg hc12,if_pos hc23]
  ·refine .q 9 hG ⟨fun hc28 => ?_,fun hc28 => ?_⟩
   ·refine .q 2 hG ?_
    refine .p (.bS0 (α:=y3) j0 b1o c1S ?_)
    refine .q 4 hG ?_
    refine⟨_,.r2 j0 (.cell b1o j0 .z) (.tmp j0),?_⟩
    unfold M0;rw [if_neg hc12,if_neg hc23,if_pos (by omega)]
   ·refine .q 2 hG ?_
    have h32:(O4 a k x.O8).1.length=32:=by omega
    refine .draw (by kernel_rfl) 6 [[],[(30,0)],[],[(32,2)],[(33,3)],[(31,1),(34,4)]] j0 (by kernel_rfl) j0 ?_
    refine⟨_,OpP.P5 o7.l2 b2y j0 (.t j0) j0,?_⟩
    refine⟨_,OpP.ldF (fun x=>x.Number) ty3 (.t j0) .z1 (fun _=>j0) j0,?_⟩
    refine⟨_,OpP.move (.t j0) j0,?_⟩
    refine⟨_,OpP.c5c underlying28 (by decide) (by decide) (.t j0) h32 j0,?_⟩
    refine⟨_,OpP.ldP U0 (.t j0) j0,?_⟩
    refine⟨_,OpP.bS2 y3.l0 y3.l1 j0 b1o c1S (fun c0 c1=>(⟨c0,c1⟩:y3)) (fun _ _=>j0) j0 j0 j0 (.t j0) (.t j0) j0,?_⟩
    show wpB _ _ _ _ _ [_,_] ((35,_)::(34,_)::(33,_)::(32,_)::(31,_)::(30,_)::_) _
    refine .q 4 hG ?_
    refine⟨_,.r2 j0 (.cell b1o j0 .z) (.tmp j0),?_⟩
    unfold M0;rw [if_neg hc12,if_neg hc23,if_neg (by omega),b5w h32]
theorem b5x {a:F1}(hb:∀ x∈a.B7,x.O8.length≤1000000)(f:Int)(k:Tag)(n:Int)(e:M6):(P0 a f k n e.Key.l (M5 k n e.Key.l)).1.length≤1000000:=by
 unfold P0
 split
 ·simp
 ·split
  ·next x hx=>exact hb x (List.mem_of_find?_eq_some hx)
  ·split
   ·simp
   ·dsimp only
    split
    ·simp [M4.len]
    ·rw [a0y,M4.len];decide
theorem c61 {m : Tag × F1 × Int}{y : Item}{r : F1 × Item × Int}(h : (if m.2.2 ≠ 0 then (default, default, m.2.2) else (m.2.1, ({ y with Tag := m.1 } : Item), 0)) = r) :
    AV.t3 (.v (if m.2.2≠0 then default else m.2.1)) (.v (if m.2.2≠0 then default else ({ y with Tag:=m.1 }:Item))) (.v m.2.2) = .t3 (.v r.1) (.v r.2.1) (.v r.2.2):=by
  subst h
  by_cases h0:m.2.2=0
  · simp only [h0,ne_eq,not_true,if_false]
  · simp only [ne_eq,h0,not_false_eq_true,if_true]
def b0Q (a:F1)(k:Tag)(place:Int)(e:M6)(f:Int):Tag×F1×Int :=
 O2 (P0 a (R5 f place e.Key.l) k place e.Key.l (M5 k place e.Key.l)).2.1 (a4N (P0 a (R5 f place e.Key.l) k place e.Key.l (M5 k place e.Key.l)).2.2 (L8 (a1j place e (P0 a (R5 f place e.Key.l) k place e.Key.l (M5 k place e.Key.l)).1))) k
  (Y5 (a1j place e (P0 a (R5 f place e.Key.l) k place e.Key.l (M5 k place e.Key.l)).1)).1
theorem c3A (a : F1)(k : Tag)(place : Int)(e : M6)(h : a4P place e = true) : (if (b0Q a k place e 1).2.2 ≠ 0 then (default, default, (b0Q a k place e 1).2.2) else
    ((b0Q a k place e 1).2.1,({ a1j place e (P0 a (R5 1 place e.Key.l) k place e.Key.l (M5 k place e.Key.l)).1 with Tag:=(b0Q a k place e 1).1 }:Item),0))=K3 a k place e:=by
  have h1:R5 1 place e.Key.l=1:=by unfold R5;simp
  have h2:b0Q a k place e 1=(default,a,1):=by
    unfold b0Q
    rw [h1,a2Y (by decide)]
    have:a4N 1 (L8 (a1j place e []))=1:=rfl
    rw [this,a32 (by decide)]
  rw [h2]
  unfold K3
  rw [if_pos h];rfl
theorem c50 (a : F1)(k : Tag)(place : Int)(e : M6)(h : a4P place e = false) : (if (b0Q a k place e 0).2.2 ≠ 0 then (default, default, (b0Q a k place e 0).2.2) else
    ((b0Q a k place e 0).2.1,({ a1j place e (P0 a (R5 0 place e.Key.l) k place e.Key.l (M5 k place e.Key.l)).1 with Tag:=(b0Q a k place e 0).1 }:Item),0))=K3 a k place e:=by
  have hs:=b4V a k place e.Key.l
  unfold K3 b0Q
  rw [h,if_neg (show ¬(false=true) by decide),←hs]
  generalize P0 a (R5 0 place e.Key.l) k place e.Key.l (M5 k place e.Key.l)=m1
  by_cases h0:m1.2.2=0
  · rw [h0]
    simp only [ne_eq,not_true,if_false]
    exact a8W m1.2.1 k (a1j place e m1.1)
  · have h3:a4N m1.2.2 (L8 (a1j place e m1.1))=m1.2.2:=by unfold a4N;rw [if_neg h0]
    rw [h3,a32 h0]
    simp only [ne_eq,h0,not_false_eq_true,if_true]
theorem b5y (a:F1)(k:Tag)(place:Int)(e:M6)(hm:a.G4.length≤1000000)(hl:a.B7.length≤1000000)(hb:∀ x∈a.B7,x.O8.length≤1000000):C4 gl prog 44 [.v a,.v k,.v place,.v e] (fun r=>r = .t3 (.v (K3 a k place e).1) (.v (K3 a k place e).2.1) (.v (K3 a k place e).2.2)):=by
 refine C4.jn func44 (by kernel_rfl) 45 rfl fun C hC hG => ?_
 refine .q 3 hG fun b4 => ?_
 refine .q 1 hG fun b5 => ?_
 refine .q 1 hG fun b7 => ?_
 refine .q 1 hG fun b8 => ?_
 refine .q 1 hG fun b9 => ?_
 refine .q 5 hG ?_
 refine .k0 hG (a9w _) fun r14 Hs14 hr14 => ?_
 obtain⟨w14,x14,rfl,rfl,ha14,he14⟩:=hr14
 show wpB _ _ _ _ _ _ _ ((true,_)::_)
 refine .q 6 hG ?_
 refine .k hG (b5o _) (.p (.not (.t j0) (.mv j0 (.go 18 j0 (.t j0) (fun hg19 => .P5 y3.l0 c1R j0 (.t j0) j0) (.go 18 j0 (.t j0) (fun hg20 => .ldF (fun x=>x.Number) ty3 (.q j0 hg20) .z3 (fun _=>j0) j0) (.go 18 j0 (.t j0) (fun hg21 => .J7 hG (b5n _) (.cons (.q j0 hg21) .nil) j0) ?_))))))
 refine .q 3 hG ?_
 refine .cond (.t j0) (fun hc23 => ?_) (fun hc23 => ?_)
 ·refine .q 2 hG ?_
  refine .km hG (a9z _ _ _) .z (by rintro _ _ ⟨_,rfl,_⟩;exact⟨_,rfl⟩) fun r25 B25 hr25 => ?_
  obtain⟨x25,hB,ha25,he25⟩:=hr25
  cases hB
  refine .q 2 hG ?_
  refine .U2 hC .z3 (.asP 7 j0 .z3 (.a0w [j5,j6,j6,j6,j6,j6] (by kernel_rfl) 7 [[],[],[],[],[(29,3)],[(26,0),(27,1),(28,2),(30,4)],[(31,5)]] [5,6] j0 (by kernel_rfl) j0 (by kernel_rfl) (by decide) ?_))
  refine⟨_,fun H=>OpP.move (.t j0) j0,?_⟩
  refine⟨_,fun H=>OpP.ldW U0 (.t j0) (H9.app .z4) j0,?_⟩
  refine⟨_,fun H=>OpP.move (.t j0) j0,?_⟩
  refine⟨_,fun H=>OpP.a0Z y3.l1 (fun x=>x.Key) b6j j0 (fun _=>j0) (.t j0) j0,?_⟩
  refine⟨_,fun H=>OpP.a1W (by decide) a1s (.t j0) j0,?_⟩
  refine .inl (.inl ?_)
  refine⟨⟨([],j7 [_,j4,j4,j4,j4,j4]),j0⟩,?_⟩
  refine OpH.a8u hG (c2W _ _ _ _ _ (by first|(rw [ha25,ha14];exact hl)|(rw [ha14];exact hl)) (by first|(rw [ha25,ha14];exact hb)|(rw [ha14];exact hb))) .z (.cons (.t rfl) (.cons (.t rfl) (.cons (.t rfl) (.cons (.t rfl) .nil)))) (by rintro _ _ ⟨_,rfl,_⟩;exact⟨_,rfl⟩) fun r31 B31 hr31 => ?_
  obtain⟨x31,hB,rfl,ha31,he31⟩:=hr31
  cases hB
  refine⟨⟨([],j7 [_,j4,j4,j4,j4,j4]),j0⟩,?_⟩
  refine OpH.ofP (OpP.assign (.t rfl) ?_)
  refine⟨⟨([],j7 [_,j4,j4,j4,j4,j4]),j0⟩,?_⟩
  show wpB _ _ _ _ _ [] ((12,_)::(31,_)::(30,_)::(29,_)::(28,_)::(27,_)::(26,_)::_) _
  refine .q 10 hG ?_
  refine .p (.bS4 o7.l0 o7.l1 o7.l2 o7.l4 j0 a3a b7Y (fun c0 c1 c2 c4=>(⟨c0,c1,c2,default,c4,default⟩:o7)) (fun _ _ _ _=>j0) j0 j0 j0 j0 j0 (.t j0) (.i j0) (.t j0) (.t j0) ?_)
  refine .km hG (b3r _ _ _ _ (b5x (by first|(rw [ha25,ha14];exact hb)|(rw [ha14];exact hb)) _ _ _ _) (by rw [ha31,a6y];first|(rw [ha25,ha14];exact hm)|(rw [ha14];exact hm))) .z (by rintro _ _ ⟨_,rfl,_⟩;exact⟨_,rfl⟩) fun r40 B40 hr40 => ?_
  obtain⟨x40,hB,rfl,ha40,he40⟩:=hr40
  cases hB
  refine .km hG (b3s _ _ _) .z (by rintro _ _ ⟨_,rfl,_⟩;exact⟨_,rfl⟩) fun r41 B41 hr41 => ?_
  obtain⟨x41,hB,rfl,rfl⟩:=hr41
  cases hB
  refine .q 1 hG ?_
  refine a9y hC 42 rfl .z ?_
  refine .q 7 hG ?_
  refine⟨_,.r3 j0 (.cell b1n j0 .z2) (.cell a3a j0 .z1) (.tmp j0),?_⟩
  have hb0:a4P place e=true:=by unfold a4P;simp only [Bool.and_eq_true,Bool.or_eq_true,Bool.not_eq_true',Bool.not_eq_false',Bool.and_eq_false_iff,Bool.or_eq_false_iff,decide_eq_true_eq,decide_eq_false_iff_not,ne_eq,Decidable.not_not] at *;omega
  have hx:x25.e=1:=by rw [he25,if_pos he14]
  simp only [ha31,he31,hx,ha25,ha14] at ha40 he40 ⊢
  rw [ha40,he40];exact c61 (c3A a k place e hb0)
 ·refine .q 2 hG ?_
  refine .U2 hC .z3 (.asP 7 j0 .z3 (.a0w [j5,j6,j6,j6,j6,j6] (by kernel_rfl) 7 [[],[],[],[],[(29,3)],[(26,0),(27,1),(28,2),(30,4)],[(31,5)]] [5,6] j0 (by kernel_rfl) j0 (by kernel_rfl) (by decide) ?_))
  refine⟨_,fun H=>OpP.move (.t j0) j0,?_⟩
  refine⟨_,fun H=>OpP.ldW U0 (.t j0) (H9.app .z4) j0,?_⟩
  refine⟨_,fun H=>OpP.move (.t j0) j0,?_⟩
  refine⟨_,fun H=>OpP.a0Z y3.l1 (fun x=>x.Key) b6j j0 (fun _=>j0) (.t j0) j0,?_⟩
  refine⟨_,fun H=>OpP.a1W (by decide) a1s (.t j0) j0,?_⟩
  refine .inl (.inl ?_)
  refine⟨⟨([],j7 [_,j4,j4,j4,j4,j4]),j0⟩,?_⟩
  refine OpH.a8u hG (c2W _ _ _ _ _ (by first|(rw [ha25,ha14];exact hl)|(rw [ha14];exact hl)) (by first|(rw [ha25,ha14];exact hb)|(rw [ha14];exact hb))) .z (.cons (.t rfl) (.cons (.t rfl) (.cons (.t rfl) (.cons (.t rfl) .nil)))) (by rintro _ _ ⟨_,rfl,_⟩;exact⟨_,rfl⟩) fun r31 B31 hr31 => ?_
  obtain⟨x31,hB,rfl,ha31,he31⟩:=hr31
  cases hB
  refine⟨⟨([],j7 [_,j4,j4,j4,j4,j4]),j0⟩,?_⟩
  refine OpH.ofP (OpP.assign (.t rfl) ?_)
  refine⟨⟨([],j7 [_,j4,j4,j4,j4,j4]),j0⟩,?_⟩
  show wpB _ _ _ _ _ [] ((12,_)::(31,_)::(30,_)::(29,_)::(28,_)::(27,_)::(26,_)::_) _
  refine .q 10 hG ?_
  refine .p (.bS4 o7.l0 o7.l1 o7.l2 o7.l4 j0 a3a b7Y (fun c0 c1 c2 c4=>(⟨c0,c1,c2,default,c4,default⟩:o7)) (fun _ _ _ _=>j0) j0 j0 j0 j0 j0 (.t j0) (.i j0) (.t j0) (.t j0) ?_)
  refine .km hG (b3r _ _ _ _ (b5x (by first|(rw [ha25,ha14];exact hb)|(rw [ha14];exact hb)) _ _ _ _) (by rw [ha31,a6y];first|(rw [ha25,ha14];exact hm)|(rw [ha14];exact hm))) .z (by rintro _ _ ⟨_,rfl,_⟩;exact⟨_,rfl⟩) fun r40 B40 hr40 => ?_
  obtain⟨x40,hB,rfl,ha40,he40⟩:=hr40
  cases hB
  refine .km hG (b3s _ _ _) .z (by rintro _ _ ⟨_,rfl,_⟩;exact⟨_,rfl⟩) fun r41 B41 hr41 => ?_
  obtain⟨x41,hB,rfl,rfl⟩:=hr41
  cases hB
  refine .q 1 hG ?_
  refine a9y hC 42 rfl .z ?_
  refine .q 7 hG ?_
  refine⟨_,.r3 j0 (.cell b1n j0 .z2) (.cell a3a j0 .z1) (.tmp j0),?_⟩
  have hb0:a4P place e=false:=by unfold a4P;simp only [Bool.and_eq_true,Bool.or_eq_true,Bool.not_eq_true',Bool.not_eq_false',Bool.and_eq_false_iff,Bool.or_eq_false_iff,decide_eq_true_eq,decide_eq_false_iff_not,ne_eq,Decidable.not_not] at *;omega
  simp only [ha31,he31,he14,ha14] at ha40 he40 ⊢
  rw [ha40,he40];exact c61 (c50 a k place e hb0)
end Go.Proofs.YtfdifhfnpbphaaaGreatDoor
namespace Go.Ab
open Go.Fl Go.RowKit
open u3 (rep)
universe u v
inductive S6 (α:Type) where
 | inl (l:List α)
 | inr (v:Value)
instance {α:Type}:Inhabited (S6 α):=⟨.inr (.slice none 0 0)⟩
instance {α:Type}[r:u3 α]:u3 (S6 α) where
 size:=1
 agg:=false
 rep I x cs:=match x with
  | .inl l=>rep I l cs
  | .inr v=>rep I (O5.mk v) cs
 len {I x cs} h:=by cases x with
  | inl l=>exact u3.len (α:=List α) h
  | inr v=>exact u3.len (α:=O5) h
 mono {I J x cs} hle h:=by cases x with
  | inl l=>exact u3.mono (α:=List α) hle h
  | inr v=>exact h
 one _:=rfl
 flat {I x cs} h:=by cases x with
  | inl l=>exact u3.flat (α:=List α) h
  | inr v=>exact u3.flat (α:=O5) h
instance {α:Type}[r:u3 α]:K4 (S6 α):=⟨[.slice none 0 0],fun I=>K4.zero (α:=O5) I⟩
class TyM (P:Program)(T:TypeId)(α:Type)(r:outParam (u3 α)):Prop where h:K1 P T (S6 α)
theorem OpP.d3g {α:Type}{r:u3 α}{P:Program}{N:Nat}{C:Ctx}{σ:o8}{H:j8}{o:Oper}{s:S6 α}{l:List α}{K:AV→Prop}(e:s = .inl l)(h:OpP P N C o σ H (fun r=>r = .v s))(k:K (.v l)):OpP P N C o σ H K:=fun ρ I L hs a w ha hm=>by
 subst e
 refine(h ρ I L hs a w ha hm).mono ?_
 rintro v w' ⟨J,X,q1,q2,q3,q4,q5,q6,r,q7,rfl⟩
 exact⟨J,X,q1,q2,q3,q4,q5,q6,.v l,q7,k⟩
theorem OpP.d3h {α:Type}{r:u3 α}{P:Program}{N:Nat}{C:Ctx}{σ:o8}{H:j8}{o:Oper}{s:S6 α}{w:Value}{K:AV→Prop}(e:s = .inr w)(h:OpP P N C o σ H (fun r=>r = .v s))(k:K (.raw w)):OpP P N C o σ H K:=fun ρ I L hs a w ha hm=>by
 subst e
 refine(h ρ I L hs a w ha hm).mono ?_
 rintro v w' ⟨J,X,q1,q2,q3,q4,q5,q6,r,q7,rfl⟩
 obtain⟨cs,⟨rfl,_⟩,rfl⟩:=q7
 exact⟨J,X,q1,q2,q3,q4,q5,q6,.raw _,j0,k⟩
class IsL {α:Type}(s:S6 α)(l:outParam (List α)):Prop where h:s = .inl l
instance {α:Type}{l:List α}:IsL (.inl l) l:=⟨rfl⟩
class IsR {α:Type}(s:S6 α)(v:outParam Value):Prop where h:s = .inr v
instance {α:Type}{v:Value}:IsR (α:=α) (.inr v) v:=⟨rfl⟩
section
variable {P:Program}{T:TypeId}{H:j8}
instance (priority:=high){α β:Type}{r:u3 α}{s:u3 β}{w:Value}{l:j9 α (S6 β)}{a:α}{bb:Bool}{F:Bool×C3→j8}{f:α→S6 β}{f':S6 β→α→α}{m:List β}[t:TyM P T β s][n:Q2 l f f'][k:HoQ H w (bb,.ob w a) F][i:IsL (f a) m]:LdQ P T (.ln w l) H (.v m):=⟨fun N C σ x d ty ps af g h => .d3g i.h (.ldF f t.h h k.h n.e rfl) rfl⟩
instance (priority:=high){α β:Type}{r:u3 α}{s:u3 β}{w v:Value}{l:j9 α (S6 β)}{a:α}{bb:Bool}{F:Bool×C3→j8}{f:α→S6 β}{f':S6 β→α→α}[t:TyM P T β s][n:Q2 l f f'][k:HoQ H w (bb,.ob w a) F][i:IsR (f a) v]:LdQ P T (.ln w l) H (.raw v):=⟨fun N C σ x d ty ps af g h => .d3h i.h (.ldF f t.h h k.h n.e rfl) rfl⟩
instance (priority:=high){α β:Type}{r:u3 α}{s:u3 β}{w:Value}{l:j9 α (S6 β)}{a:α}{v:S6 β}{bb:Bool}{F:Bool×C3→j8}{f:α→S6 β}{f':S6 β→α→α}[t:TyM P T β s][n:Q2 l f f'][k:HoQ H w (bb,.ob w a) F]:SoQ P T (.ln w l) (.v v) H (F (bb,.ob w (f' v a))):=⟨fun N C σ x y ty ps af g KH hx hy q => .stF f' t.h hx hy k.h n.u q⟩
end
section
variable {G:Gl}{P:Program}{ops:List Oper}{σ:o8}{H H':j8}{ps:String}{af:Array Edge}{ty T E:TypeId}{x:Operand}
theorem G5.d1e {C:Ctx}{α:Type}{r:u3 α}{w:Value}{l:List α}{b:Bool}{F:Bool×C3→j8}{x:Operand}(hx:G5 C σ H x (.raw w))(hH:H9 H (b,.own E w l) F):G5 C σ H x (.v (S6.inr (α:=α) w)):=fun ρ I L hs=>by
 obtain⟨u,h1,rfl⟩:=hx ρ I L hs
 obtain⟨i,X,h2,⟨⟨xs,h3,_⟩,_⟩,_⟩:=hH.get hs.heap
 obtain⟨a,c,rfl⟩:=h3.shape
 exact⟨_,h1,[_],⟨j0,j0⟩,j0⟩
instance (priority:=low){a:AV}{α:Type}{r:u3 α}{w:Value}{l:List α}{b:Bool}{F:Bool×C3→j8}{y:Operand}[h:EvQ true σ x a][hy:EvQ true σ y (.raw w)][k:HoQ H w (b,.own E w l) F][so:SoQ P T a (.v (S6.inr (α:=α) w)) H H']:StD G P ops ⟨none,.store T x y,ty,ps,af,none⟩ σ H [] σ H' :=
 ⟨fun N C Q rest hG _ q => .n (so.h N C σ x y ty ps af none _ (h.h C _ rfl) (.d1e (hy.h C _ rfl) k.h) q)⟩
end
theorem C6.c3B {G:Gl}{P:Program}{f:FuncId}{ag:List AV}{Bs:List C3}{α:Type}{r:u3 α}{E:TypeId}{l:List α}(h:C6 G P f ag Bs (fun x Hs=>∃ u,x = .raw u∧Hs = [.own E u l])):C6 G P f ag Bs (fun x Hs=>∃ u,x = .v (S6.inr (α:=α) u)∧Hs = [.own E u l]):=fun I Xs vs hG hvs hB=>by
 have hM:=h I Xs vs hG hvs hB
 refine⟨hM.ok,fun w hm=>(hM.run w hm).mono ?_⟩
 rintro e w' ⟨v,J,L',rfl,q1,q2,q3,q4,q5,r,Hs,q6,q7,u,rfl,rfl⟩
 refine⟨v,J,L',j0,q1,q2,q3,q4,q5,.v (S6.inr (α:=α) u),_,?_,q7,u,j0,j0⟩
 have q6:v=u:=q6
 subst q6
 obtain⟨X,R,rfl,⟨xs,h3,_⟩,_⟩:=q7
 obtain⟨a,c,rfl⟩:=h3.shape
 exact⟨[_],⟨j0,j0⟩,j0⟩
theorem wpA.ob1 (t:Nat){P:Program}{C:Ctx}{N:Nat}{σ:o8}{H:j8}{Q:Exit→o8→j8→Prop}{α β:Type}{r:u3 α}{s:u3 β}{w:Value}{x:α}{b:Bool}{c:Code}{F:Bool×C3→j8}(y:β)[lk:LkQ σ t (.ln w (j9.id (α:=α)))][hH:HoQ H w (b,.ob w x) F](h:∀ I cs,r.rep I x cs→s.rep I y cs)(k:wpA P C N c Q ((t,.ln w (j9.id (α:=β)))::σ) (F (b,.ob w y))):wpA P C N c Q σ H :=
 .rob t (fun _:Unit=>y) (fun I cs q=>⟨(),h I cs q⟩) fun _=>k
class d1f (d:Nat):Prop where h:True
instance (priority:=2000){G:Gl}{P:Program}{l os:List Oper}{nm:Nat→Nm}{k:Nat}{σ σ':o8}{H H':j8}{T0:List (Nm→R8)}{ts:List (Option (Nat×Nat))}{D D2:List Prop}{d:Nat}{ty TT E U:TypeId}{ps:String}{af:Array Edge}{p:Nat}{bb:Bool}{F0:Bool×C3→j8}{α:Type}{rr:u3 α}{i:Inhabited α}{by_ t:Nat}{w:Value}{L m:List α}{y:Operand}
    [ms:d1f d][st:SlI P TT E α by_ rr i][hx:LkQ (Q3 σ ⟨some d,.call ⟨.builtin .append,#[.tmp t,y],#[TT,U]⟩,ty,ps,af,none⟩) t (.raw w)][po:PoQ H w p (bb,.own E w L) F0][hy:T9 true (Q3 σ ⟨some d,.call ⟨.builtin .append,#[.tmp t,y],#[TT,U]⟩,ty,ps,af,none⟩) y (List α) inferInstance m][un:UnI P U (.slice E)]
    [q:ChQ G P l nm (k+1) os ((d,.v (S6.inr (α:=α) (nm k).1))::σ) (F0 (bb,.own E (nm k).1 (L++m))) T0 ts σ' H' D2][cj:Cj [(L.length+m.length)*by_≤140737488355328,L.length+m.length≤9223372036854775807] D2 D] :
    ChQ G P l nm k (⟨some d,.call ⟨.builtin .append,#[.tmp t,y],#[TT,U]⟩,ty,ps,af,none⟩::os) σ H ((fun v=>⟨some (p,2),.v (S6.inr (α:=α) v.1),(bb,.own E v.1 (L++m))⟩)::T0) (some (p,2)::ts) σ' H' D :=
  ⟨fun N C F hG hD hF=>⟨⟨(bb,.own E w L),po.get,fun H' F' hh=>fun ρ I L0 hs a w0 ha hst=>by
    refine Yld.mono (OpH.b2W (KH:=fun r H''=>∃ w',r = .raw w'∧H''=F' (bb,.own E w' (L++m))) st.h (.inl ⟨_,un.h⟩) hx.h hh (.v (hy.h C H' rfl)) (cj.of hD).1.1 (cj.of hD).1.2.1 (fun w'=>⟨w',rfl,rfl⟩) ρ I L0 hs a w0 ha hst) ?_
    rintro v w1 ⟨J,L',q1,q2,x,H'',q3,q4,w',rfl,rfl⟩
    have q3:v=w':=q3
    subst q3
    obtain⟨j,X,h1,h2,_⟩:=(hh.again (B':=(bb,.own E v (L++m)))).get q4
    obtain⟨xs,h3,_⟩:=h2.1
    obtain⟨a1,c1,rfl⟩:=h3.shape
    exact⟨J,L',q1,q2,.v (S6.inr (α:=α) _),_,⟨[_],⟨rfl,rfl⟩,rfl⟩,q4,(_,0),rfl,rfl,rfl⟩⟩,by
    show chU P C N l nm F (k+1) os T0 _ (H.set p _)
    rw [po.set];exact q.h N C F hG (cj.of hD).2 hF⟩,by rw [evT,List.map_cons,q.t]⟩
instance (priority:=low){G:Gl}{P:Program}{l os:List Oper}{nm:Nat→Nm}{k:Nat}{σ σ':o8}{H H':j8}{T0:List (Nm→R8)}{ts:List (Option (Nat×Nat))}{D D2:List Prop}{d:Nat}{ty TT E U:TypeId}{ps:String}{af:Array Edge}{p:Nat}{bb:Bool}{F0:Bool×C3→j8}{α:Type}{rr:u3 α}{i:Inhabited α}{by_ t:Nat}{w:Value}{L m:List α}{y:Operand}
    [ms:c6S d][st:SlI P TT E α by_ rr i][hx:LkQ (Q3 σ ⟨some d,.call ⟨.builtin .append,#[.tmp t,y],#[TT,U]⟩,ty,ps,af,none⟩) t (.raw w)][po:PoQ H w p (bb,.own E w L) F0][hy:T9 true (Q3 σ ⟨some d,.call ⟨.builtin .append,#[.tmp t,y],#[TT,U]⟩,ty,ps,af,none⟩) y (List α) inferInstance m][un:UnI P U (.slice E)]
    [q:ChQ G P l nm (k+1) os ((d,.raw (nm k).1)::σ) (F0 (bb,.own E (nm k).1 (L++m))) T0 ts σ' H' D2][cj:Cj [(L.length+m.length)*by_≤140737488355328,L.length+m.length≤9223372036854775807] D2 D] :
    ChQ G P l nm k (⟨some d,.call ⟨.builtin .append,#[.tmp t,y],#[TT,U]⟩,ty,ps,af,none⟩::os) σ H ((fun v=>⟨some (p,2),.raw v.1,(bb,.own E v.1 (L++m))⟩)::T0) (some (p,2)::ts) σ' H' D :=
  ⟨fun N C F hG hD hF=>⟨⟨(bb,.own E w L),po.get,fun H' F' hh=>fun ρ I L0 hs a w0 ha hst=>by
    refine Yld.mono (OpH.b2W (KH:=fun r H''=>∃ w',r = .raw w'∧H''=F' (bb,.own E w' (L++m))) st.h (.inl ⟨_,un.h⟩) hx.h hh (.v (hy.h C H' rfl)) (cj.of hD).1.1 (cj.of hD).1.2.1 (fun w'=>⟨w',rfl,rfl⟩) ρ I L0 hs a w0 ha hst) ?_
    rintro v w1 ⟨J,L',q1,q2,x,H'',q3,q4,w',rfl,rfl⟩
    have q3:v=w':=q3
    subst q3
    exact⟨J,L',q1,q2,.raw v,_,rfl,q4,(v,0),rfl,rfl,rfl⟩⟩,by
    show chU P C N l nm F (k+1) os T0 _ (H.set p _)
    rw [po.set];exact q.h N C F hG (cj.of hD).2 hF⟩,by rw [evT,List.map_cons,q.t]⟩
section
variable {G:Gl}{P:Program}{c:Bool}{σ:o8}{H:j8}{d:Option Nat}{ty T T2:TypeId}{ps:String}{af:Array Edge}{g:Option (Nat×Bool)}{x y:Operand}{m n:UInt64}
instance [hx:T9 c σ x UInt64 inferInstance m][hy:T9 c σ y UInt64 inferInstance n]:OpD G P c ⟨d,.binOp .shl T x y T2,ty,ps,af,g⟩ σ H [n.toNat < 64] (.v (m <<< n)):=⟨fun N C hG e h => .b7V (hx.h C H e) (hy.h C H e) (Nat.zero_le _) h.1 rfl⟩
instance [hx:T9 c σ x UInt64 inferInstance m]:OpD G P c ⟨d,.unOp .xor T x,ty,ps,af,g⟩ σ H [] (.v (~~~m)):=⟨fun N C hG e h => .c1v (hx.h C H e) rfl⟩
end
class c0K (d:Nat):Prop where h:True
instance (priority:=3000){mo:Nat}{G:Gl}{P:Program}{C:Ctx}{N n:Nat}{ops:List Oper}{Q:Exit→o8→j8→Prop}{l:List Oper}{σ:o8}{H:j8}{d:Nat}{ty:TypeId}{ps:String}{af:Array Edge}{f:FuncId}{args:Array Operand}{tys:Array TypeId}{ag:List AV}{ι:Type u}{D:List Prop}{S:ι→Prop}{R:ι→AV}{Ns:ι→List C3}{E:List Bool}{HX:ι→j8}{EX:ι→List Bool}{AX:ι→Prop}{A:Prop}
    [ox:c0K d][hv:AsQ true σ args.toList ag][c:CaX G P f ag ι D S R Ns][ow:∀ x,OwQ (Ns x) H (HX x)][k:∀ x,Rw mo G P C N n (.b ops Q l) ((d,R x)::σ) (HX x) (EX x) (AX x)][cE:CoQ EX E][pr:PrQ D (∀ x,S x→AX x) A] :
    Rw mo G P C N (n+1) (.b ops Q (⟨some d,.call ⟨.value (.func f),args,tys⟩,ty,ps,af,none⟩::l)) σ H E A :=
  ⟨fun g e h => .h (.a6Z g.2 (c.h (pr.h h).1) (hv.h C H rfl) fun r Hs q=>by
    obtain⟨x,hx,rfl,rfl⟩:=q
    rw [a9u,(ow x).h]
    exact(k x).h g (cast (congrArg (fun z=>a0K z=true) (cE.h x)).symm e) ((pr.h h).2 x hx))⟩
instance (priority:=3000){G:Gl}{P:Program}{l os:List Oper}{nm:Nat→Nm}{k:Nat}{σ σ':o8}{H H':j8}{T:List (Nm→R8)}{ts:List (Option (Nat×Nat))}{D D1 D2:List Prop}{d:Nat}{ty:TypeId}{ps:String}{af:Array Edge}{f:FuncId}{args:Array Operand}{tys:Array TypeId}{ag:List AV}{p:Nat}{F0:Bool×C3→j8}
    {R:Value→AV}{E:TypeId}{α:Type}{rr:u3 α}{L:List α}[ox:c0K d][hv:AsQ true (Q3 σ ⟨some d,.call ⟨.value (.func f),args,tys⟩,ty,ps,af,none⟩) args.toList ag][c:CaN G P f ag D1 R E α rr L][ho:HlQ H p F0]
    [q:ChQ G P l nm (k+1) os ((d,R (nm k).1)::σ) (F0 (true,.own E (nm k).1 L)) T ts σ' H' D2][cj:Cj D1 D2 D] :
    ChQ G P l nm k (⟨some d,.call ⟨.value (.func f),args,tys⟩,ty,ps,af,none⟩::os) σ H ((fun v=>⟨some (p,2),R v.1,(true,.own E v.1 L)⟩)::T) (some (p,2)::ts) σ' H' D :=
  ⟨fun N C F hG hD hF=>⟨⟨a1n,ho.get,fun H' F' hh=>OpH.c44 hh (.a6Z hG.2 (c.h (cj.of hD).1) (hv.h C H' rfl) fun r Hs e=>by
    obtain⟨u,rfl,rfl⟩:=e
    exact⟨_,rfl,(u,0),rfl,rfl,rfl⟩)⟩,by
    show chU P C N l nm F (k+1) os T _ (H.set p _)
    rw [ho.set];exact q.h N C F hG (cj.of hD).2 hF⟩,by rw [evT,List.map_cons,q.t]⟩
instance {c:Bool}{σ:o8}:EvQ c σ (.const (.pointer none)) (.raw (.pointer none)):=⟨fun _ _ _ ρ I L hs=>⟨_,rfl,rfl⟩⟩
instance (priority:=low){c:Bool}{σ:o8}{f:FuncId}:EvQ c σ (.func f) (.v (FnV.mk (some f))):=⟨fun C H e=>(inferInstance:T9 c σ (.func f) FnV inferInstance (FnV.mk (some f))).h C H e⟩
theorem d3i {P:Program}{ρ:Env}{I:Fl.Im}{L:Lh}{fn:Func}{r r2 r3 r4:ResultVar}{v v2 v3 v4:Value}(h:fn.results = #[r,r2,r3,r4])(h1:a47 P r ρ I L v)(h2:a47 P r2 ρ I L v2)(h3:a47 P r3 ρ I L v3)(h4:a47 P r4 ρ I L v4):Fin P fn ρ I L (.tuple #[v,v2,v3,v4]):=fun N a w ha hm=>by
 simp [a1x,h,h1 N a w ha hm,h2 N a w ha hm,h3 N a w ha hm,h4 N a w ha hm]
theorem a9h.r4 {P:Program}{C:Ctx}{σ:o8}{H:j8}{fn:Func}{q q2 q3 q4:ResultVar}{a b c e:AV}(h:fn.results = #[q,q2,q3,q4])(h1:a27 P q C σ H a)(h2:a27 P q2 C σ H b)(h3:a27 P q3 C σ H c)(h4:a27 P q4 C σ H e):a9h P fn C σ H (.t4 a b c e):=fun ρ I L hs=>by
 obtain⟨v,k1,k2⟩:=h1 ρ I L hs
 obtain⟨v2,l1,l2⟩:=h2 ρ I L hs
 obtain⟨v3,m1,m2⟩:=h3 ρ I L hs
 obtain⟨v4,n1,n2⟩:=h4 ρ I L hs
 exact⟨_,d3i h k1 l1 m1 n1,v,v2,v3,v4,j0,k2,l2,m2,n2⟩
instance {P:Program}{C:Ctx}{σ:o8}{H:j8}{q1 q2 q3 q4:ResultVar}{a1 a2 a3 a4:AV}[h1:R1Q P C q1 σ H a1][h2:R1Q P C q2 σ H a2][h3:R1Q P C q3 σ H a3][h4:R1Q P C q4 σ H a4]:ReQ P C [q1,q2,q3,q4] σ H (.t4 a1 a2 a3 a4):=⟨fun h => .r4 h h1.h h2.h h3.h h4.h⟩
section
variable {G:Gl}{P:Program}{N:Nat}{C:Ctx}{c:Bool}{σ:o8}{H:j8}{d:Option Nat}{ty:TypeId}{ps:String}{af:Array Edge}{g:Option (Nat×Bool)}{x:Operand}{a1 a2 a3 a4:AV}
instance [h:EvQ c σ x (.t4 a1 a2 a3 a4)]:OpQ G P c ⟨d,.extract x 0,ty,ps,af,g⟩ σ H a1:=⟨fun N C hG e => .M1 a1 (fun ρ I L hs=>by obtain⟨u,h1,v,w,t,z,rfl,h3,h4,h5,h6⟩:=h.h C H e ρ I L hs;exact .extract h1 rfl h3) rfl⟩
instance [h:EvQ c σ x (.t4 a1 a2 a3 a4)]:OpQ G P c ⟨d,.extract x 1,ty,ps,af,g⟩ σ H a2:=⟨fun N C hG e => .M1 a2 (fun ρ I L hs=>by obtain⟨u,h1,v,w,t,z,rfl,h3,h4,h5,h6⟩:=h.h C H e ρ I L hs;exact .extract h1 rfl h4) rfl⟩
instance [h:EvQ c σ x (.t4 a1 a2 a3 a4)]:OpQ G P c ⟨d,.extract x 2,ty,ps,af,g⟩ σ H a3:=⟨fun N C hG e => .M1 a3 (fun ρ I L hs=>by obtain⟨u,h1,v,w,t,z,rfl,h3,h4,h5,h6⟩:=h.h C H e ρ I L hs;exact .extract h1 rfl h5) rfl⟩
instance [h:EvQ c σ x (.t4 a1 a2 a3 a4)]:OpQ G P c ⟨d,.extract x 3,ty,ps,af,g⟩ σ H a4:=⟨fun N C hG e => .M1 a4 (fun ρ I L hs=>by obtain⟨u,h1,v,w,t,z,rfl,h3,h4,h5,h6⟩:=h.h C H e ρ I L hs;exact .extract h1 rfl h6) rfl⟩
end
theorem OpP.c8n {P:Program}{C:Ctx}{N:Nat}{σ:o8}{H:j8}{d:Option Nat}{ty:TypeId}{ps:String}{af:Array Edge}{g:Option (Nat×Bool)}{K:AV→Prop}{x:Operand}{T T2 E E':TypeId}{α:Type}{r:u3 α}{w:Value}{l:List α}{b:Bool}{F:Bool×C3→j8}(hT:P.underlying T=some (.slice E))(hx:G5 C σ H x (.raw w))(hH:H9 H (b,.own E' w l) F)(k:∀ c:Bool,(c=true→l = [])→K (.v c)) :
    OpP P N C ⟨d,.binOp .eql T x (.const (.slice none 0 0)) T2,ty,ps,af,g⟩ σ H K:=fun ρ I L hs=>by
  obtain⟨u,h1,rfl⟩:=hx ρ I L hs
  obtain⟨i,X,h2,⟨⟨xs,h3,_⟩,_⟩,_⟩:=hH.get hs.heap
  have h4:∃ a c,u = .slice a l.length c∧(a.isNone=true→l = []):=by
    rcases h3 with ⟨⟨a,e⟩,hn,_⟩|⟨b',c',sp,q,e,_⟩
    · exact⟨a,0,by rw [hn];exact e,fun _=>List.eq_nil_of_length_eq_zero hn⟩
    · exact⟨_,_,e,fun h=>by cases h⟩
  obtain⟨a,c,rfl,h5⟩:=h4
  exact .M1 (O3.b2t hT h1 j0 ⟨j0,.v a.isNone,⟨_,j0,j0⟩,k _ h5⟩)
section
variable {mo:Nat}{G:Gl}{P:Program}{C:Ctx}{N n:Nat}{ops:List Oper}{Q:Exit→o8→j8→Prop}{l:List Oper}{σ:o8}{H:j8}{d:Nat}{ps:String}{af:Array Edge}{x y:Operand}{T T2 E E' U ty:TypeId}{Eb:List Bool}{EX:Bool→List Bool}{AX:Bool→Prop}
instance (priority:=high){α:Type}{r:u3 α}{w:Value}{L:List α}{bb:Bool}{F:Bool×C3→j8}[u:UnI P T (.slice E)][hx:EvQ true σ x (.raw w)][hH:HoQ H w (bb,.own E' w L) F][k:∀ b:Bool,Rw mo G P C N n (.b ops Q l) ((d,.v b)::σ) H (EX b) (AX b)][cE:CoQ EX Eb] :
    Rw mo G P C N (n+1) (.b ops Q (⟨some d,.binOp .eql T x (.const (.slice none 0 0)) T2,ty,ps,af,none⟩::l)) σ H Eb (∀ b:Bool,(b=true→L = [])→AX b):=⟨fun g e h => .p (.c8n u.h (hx.h C H rfl) hH.h fun b hb=>(k b).h g (cast (congrArg (fun z=>a0K z=true) (cE.h b)).symm e) (h b hb))⟩
end
class CaT (G:Gl)(P:Program)(f:FuncId)(ag:List AV)(B:C3)(D:outParam (List Prop))(R:outParam (Value→AV))(B':outParam (Value→C3)):Prop where h:Z8 D→C6 G P f ag [B] (fun x Hs=>∃ u,x=R u∧Hs = [B' u])
instance (priority:=3000){G:Gl}{P:Program}{l os:List Oper}{nm:Nat→Nm}{k:Nat}{σ σ':o8}{H H':j8}{T:List (Nm→R8)}{ts:List (Option (Nat×Nat))}{D D1 D2:List Prop}{d:Nat}{ty:TypeId}{ps:String}{af:Array Edge}{f:FuncId}{args:Array Operand}{tys:Array TypeId}{ag:List AV}{w:Value}{p:Nat}{b:Bool}{B:C3}{R:Value→AV}{B':Value→C3}{F0:Bool×C3→j8}
    [hv:AsQ true (Q3 σ ⟨some d,.call ⟨.value (.func f),args,tys⟩,ty,ps,af,none⟩) args.toList ag][fp:FpQ ag w][po:PoQ H w p (b,B) F0][c:CaT G P f ag B D1 R B'][q:ChQ G P l nm (k+1) os ((d,R (nm k).1)::σ) (F0 (b,B' (nm k).1)) T ts σ' H' D2][cj:Cj D1 D2 D] :
    ChQ G P l nm k (⟨some d,.call ⟨.value (.func f),args,tys⟩,ty,ps,af,none⟩::os) σ H ((fun v=>⟨some (p,2),R v.1,(b,B' v.1)⟩)::T) (some (p,2)::ts) σ' H' D :=
  ⟨fun N C F hG hD hF=>⟨⟨(b,B),po.get,fun H' F' hh => .a8u hG.2 (c.h (cj.of hD).1) hh (hv.h C H' rfl) (fun x Hs e=>by
    obtain⟨u,_,e2⟩:=e
    exact⟨B' u,e2⟩) fun x B2 e=>by
    obtain⟨u,rfl,e2⟩:=e
    cases e2
    exact⟨(u,0),rfl,rfl,rfl⟩⟩,by
    show chU P C N l nm F (k+1) os T _ (H.set p _)
    rw [po.set];exact q.h N C F hG (cj.of hD).2 hF⟩,by rw [evT,List.map_cons,q.t]⟩
theorem CaM.d3j {G:Gl}{P:Program}{C:Ctx}{N:Nat}{σ:o8}{H:j8}{o:Oper}{f:FuncId}{ag:List AV}{D:List Prop}{r:AV}{b:Bool}{B B':C3}{F:Bool×C3→j8}(k:CaM G P f ag B D r B')(en:a7b P N C o σ H f ag)(hH:H9 H (b,B) F)(hG:G.p C.I0)(hD:Z8 D){K:AV→j8→Prop}(hk:K r (F (b,B'))):OpH P C N o σ H K:=by
 have h1:HoQ H (.bool true) (b,B) F:=⟨hH⟩
 have h2:HoQ (F (true,.fz (.bool true) (.raw (.bool true)))) (.bool true) (true,.fz (.bool true) (.raw (.bool true))) F:=⟨hH.again⟩
 have tk:TkQ H [.bool true] [(b,B)] (F (true,.fz (.bool true) (.raw (.bool true)))):=inferInstance
 have sn:a5Z [(b,B)] [B] b:=by cases b<;>exact⟨rfl,rfl⟩
 have wt:a5k b [B'] [(b,B')]:=inferInstance
 have pb:PbQ (F (true,.fz (.bool true) (.raw (.bool true)))) [.bool true] [(b,B')] (F (b,B')):=inferInstance
 exact .ent hG en tk sn.s (k.h hD) fun x Hs e=>⟨[B'],[],_,by rw [e.2];rfl,by rw [sn.b,wt.h];exact pb,e.1▸hk⟩
instance {G:Gl}{P:Program}{l os:List Oper}{nm:Nat→Nm}{k:Nat}{σ σ':o8}{H H':j8}{T:List (Nm→R8)}{ts:List (Option (Nat×Nat))}{D D1 D2:List Prop}{d t:Nat}{ty:TypeId}{ps:String}{af:Array Edge}{r:AV}{f:FuncId}{args:Array Operand}{tys:Array TypeId}{ag:List AV}{w:Value}{p:Nat}{b:Bool}{B B':C3}{F0:Bool×C3→j8}
    [en:EnQ P ⟨some d,.call ⟨.value (.tmp t),args,tys⟩,ty,ps,af,none⟩ (Q3 σ ⟨some d,.call ⟨.value (.tmp t),args,tys⟩,ty,ps,af,none⟩) f ag][fp:FpQ ag w][po:PoQ H w p (b,B) F0][c:CaM G P f ag B D1 r B'][q:ChQ G P l nm (k+1) os ((d,r)::σ) (F0 (b,B')) T ts σ' H' D2][cj:Cj D1 D2 D] :
    ChQ G P l nm k (⟨some d,.call ⟨.value (.tmp t),args,tys⟩,ty,ps,af,none⟩::os) σ H ((fun _=>⟨some (p,1),r,(b,B')⟩)::T) (some (p,1)::ts) σ' H' D :=
  ⟨fun N C F hG hD hF=>⟨⟨(b,B),po.get,fun H' F' hh=>c.d3j (en.h N C H') hh hG.2 (cj.of hD).1 ⟨rfl,rfl⟩⟩,by
    show chU P C N l nm F (k+1) os T _ (H.set p (b,B'))
    rw [po.set];exact q.h N C F hG (cj.of hD).2 hF⟩,by rw [evT,List.map_cons,q.t]⟩
instance (priority:=2000){G:Gl}{P:Program}{l os:List Oper}{nm:Nat→Nm}{k:Nat}{σ σ':o8}{H H':j8}{T:List (Nm→R8)}{ts:List (Option (Nat×Nat))}{D:List Prop}{d:Nat}{ty TT:TypeId}{ps:String}{af:Array Edge}{α:Type}{rr:u3 α}{j:Inhabited α}{p:Nat}{F0:Bool×C3→j8}[al:AlR d α rr][t:TyG P TT α rr j][ho:HlQ H p F0]
    [q:ChQ G P l nm (k+1) os ((d,.ln (ptr (nm k).2 0) (j9.id (α:=α)))::σ) (F0 (true,.ob (ptr (nm k).2 0) (default:α))) T ts σ' H' D] :
    ChQ G P l nm k (⟨some d,.alloc TT,ty,ps,af,none⟩::os) σ H ((fun v=>⟨some (p,2),.ln (ptr v.2 0) (j9.id (α:=α)),(true,.ob (ptr v.2 0) (default:α))⟩)::T) (some (p,2)::ts) σ' H' D :=
  ⟨fun N C F hG hD hF=>⟨⟨a1n,ho.get,fun H' F' hh=>OpH.c44 hh (OpH.alloc t.h fun b=>⟨_,rfl,(undef,b),rfl,rfl,rfl⟩)⟩,by
    show chU P C N l nm F (k+1) os T _ (H.set p _)
    rw [ho.set];exact q.h N C F hG hD hF⟩,by rw [evT,List.map_cons,q.t]⟩
section
variable {P:Program}{C:Ctx}{N:Nat}{σ:o8}{H:j8}{Q:Exit→o8→j8→Prop}{c:Code}
theorem wpA.glue {H1 Bs:j8}{Bs0:List C3}{b:Bool}(ws:List Value)(B:C3)[tk:TkQ H ws Bs H1][sn:a5Z Bs Bs0 b](h:∀ I Xs,Q9 I Bs0 Xs→B.a0H I Xs.flatten)(k:wpA P C N c Q σ ((b,B)::H1)):wpA P C N c Q σ H:=fun ρ I L hs a w ha hw=>by
 obtain⟨Xs,R,q1,q2,q3⟩:=tk.h _ I L hs.heap
 refine k ρ I (Xs.flatten::R) ⟨hs.env,⟨_,_,rfl,⟨h I Xs (sn.s▸b0m q2),fun hb=>b2X q2 (by rw [sn.b];exact hb)⟩,q3⟩,hs.U9⟩ a w ha (a4o hw ?_)
 rw [List.flatten_cons];exact q1
theorem wpA.b0R {ι:Type}{b:Bool}{B:C3}{F:Bool×C3→j8}{H1 H2:ι→j8}(w:Value)[hH:HoQ H w (b,B) F](Bs:ι→List C3)[wt:∀ i,a5k b (Bs i) (H1 i)][ap:∀ i,b4w (H1 i) (F a1p) (H2 i)](h:∀ I X,B.a0H I X→∃ i Xs,X=Xs.flatten∧Q9 I (Bs i) Xs)(k:∀ i,wpA P C N c Q σ (H2 i)):wpA P C N c Q σ H:=fun ρ I L hs a v ha hv=>by
 obtain⟨i,X,h1,h2,h3⟩:=hH.h.get hs.heap
 obtain⟨j,Xs,rfl,h4⟩:=h I X h2.1
 have h5:=h3 I a1n [] (Le.refl I) ⟨⟨rfl,trivial⟩,fun _ p hp=>by cases hp⟩
 refine k j ρ I (Xs++L.set i []) ⟨hs.env,?_,hs.U9⟩ a v ha (a4o hv ?_)
 ·rw [←(ap j).h,←(wt j).h]
  exact a7a (b0n h4 h2.2) h5
 ·have h7:(L.set i [])[i]?=some []:=by
   have hi:=(List.getElem?_eq_some_iff.1 h1).1
   simp [hi]
  have h8:=W9 h7 Xs.flatten
  have h9:(L.set i []).set i Xs.flatten=L:=by
   obtain⟨hi,e⟩:=List.getElem?_eq_some_iff.1 h1
   rw [List.set_set,←e,List.set_getElem_self]
  rw [h9] at h8
  rw [List.flatten_append]
  exact h8.symm
theorem wpB.b0R {ops:Array Oper}{os:List Oper}{ι:Type}{b:Bool}{B:C3}{F:Bool×C3→j8}{H1 H2:ι→j8}(w:Value)[hH:HoQ H w (b,B) F](Bs:ι→List C3)[wt:∀ i,a5k b (Bs i) (H1 i)][ap:∀ i,b4w (H1 i) (F a1p) (H2 i)](h:∀ I X,B.a0H I X→∃ i Xs,X=Xs.flatten∧Q9 I (Bs i) Xs)(k:∀ i,wpB P C N ops Q os σ (H2 i)):wpB P C N ops Q os σ H:=fun ρ I L hs hds a v ha hv=>by
 obtain⟨i,X,h1,h2,h3⟩:=hH.h.get hs.heap
 obtain⟨j,Xs,rfl,h4⟩:=h I X h2.1
 have h5:=h3 I a1n [] (Le.refl I) ⟨⟨rfl,trivial⟩,fun _ p hp=>by cases hp⟩
 refine k j ρ I (Xs++L.set i []) ⟨hs.env,?_,hs.U9⟩ hds a v ha (a4o hv ?_)
 ·rw [←(ap j).h,←(wt j).h]
  exact a7a (b0n h4 h2.2) h5
 ·have h7:(L.set i [])[i]?=some []:=by
   have hi:=(List.getElem?_eq_some_iff.1 h1).1
   simp [hi]
  have h8:=W9 h7 Xs.flatten
  have h9:(L.set i []).set i Xs.flatten=L:=by
   obtain⟨hi,e⟩:=List.getElem?_eq_some_iff.1 h1
   rw [List.set_set,←e,List.set_getElem_self]
  rw [h9] at h8
  rw [List.flatten_append]
  exact h8.symm
class HuQ (H:j8)(F:outParam (Bool×C3→j8)):Prop where h:H9 H a1p F
instance {H:j8}:HuQ (a1p::H) (fun X=>X::H):=⟨.z⟩
instance (priority:=low){A:Bool×C3}{H:j8}{F:Bool×C3→j8}[k:HuQ H F]:HuQ (A::H) (fun X=>A::F X):=⟨.s k.h⟩
theorem wpA.d1g {H1 Bs:j8}{Bs0:List C3}{b:Bool}{F:Bool×C3→j8}(ws:List Value)(B:C3)[tk:TkQ H ws Bs H1][sn:a5Z Bs Bs0 b][hu:HuQ H1 F](h:∀ I Xs,Q9 I Bs0 Xs→B.a0H I Xs.flatten)(k:wpA P C N c Q σ (F (b,B))):wpA P C N c Q σ H:=fun ρ I L hs a w ha hw=>by
 obtain⟨Xs,R,q1,q2,q3⟩:=tk.h _ I L hs.heap
 obtain⟨i,X,h1,h2,h3⟩:=hu.h.get q3
 have hX:X = []:=h2.1.1
 subst hX
 refine k ρ I (R.set i Xs.flatten) ⟨hs.env,h3 I (b,B) Xs.flatten (Le.refl I) ⟨h I Xs (sn.s▸b0m q2),fun hb=>b2X q2 (by rw [sn.b];exact hb)⟩,hs.U9⟩ a w ha (a4o hw ?_)
 exact(W9 h1 Xs.flatten).trans q1
theorem wpA.c8o {b:Bool}{B:C3}{F:Bool×C3→j8}(w:Value)(B':C3)[hH:HoQ H w (b,B) F](h:∀ I X,B.a0H I X→B'.a0H I X)(k:wpA P C N c Q σ (F (b,B'))):wpA P C N c Q σ H:=fun ρ I L hs=>by
 obtain⟨i,X,h2,h3,h4⟩:=hH.h.get hs.heap
 have hset:L.set i X=L:=by
  obtain⟨hi,e⟩:=List.getElem?_eq_some_iff.1 h2
  rw [←e,List.set_getElem_self]
 have:=h4 I (b,B') X (Le.refl I) ⟨h I X h3.1,h3.2⟩
 rw [hset] at this
 exact k ρ I L ⟨hs.env,this,hs.U9⟩
end
theorem C6.c62 {G : Gl}{P : Program}{f : FuncId}{ag : List AV}{ι κ : Type}{B B' : C3}{R : AV}(Bs : ι → List C3)(Cs : κ → List C3)(h : ∀ i, C6 G P f ag (Bs i) (fun r Hs => r = R ∧ ∃ j, Hs = Cs j))
    (hB:∀ I X,B.a0H I X→∃ i Xs,X=Xs.flatten∧Q9 I (Bs i) Xs)(hC:∀ I j Xs,Q9 I (Cs j) Xs→B'.a0H I Xs.flatten):C6 G P f ag [B] (fun r Hs=>r=R∧Hs = [B']) :=
  .a2J fun I L vs hvs hL=>by
    obtain⟨X,R0,rfl,h1,h2⟩:=hL
    have h2:R0 = []:=h2
    subst h2
    obtain⟨i,Xs,rfl,h3⟩:=hB I X h1
    refine⟨ag,Bs i,Xs,by simp,hvs,h3,(h i).mono fun r Hs q J L1 hk => ?_⟩
    obtain⟨rfl,j,rfl⟩:=q
    exact⟨[B'],[L1.flatten],by simp,⟨_,[],rfl,hC J j L1 hk,rfl⟩,rfl,rfl⟩
theorem wpB.ob1 (t:Nat){P:Program}{C:Ctx}{N:Nat}{σ:o8}{H:j8}{Q:Exit→o8→j8→Prop}{ops:Array Oper}{os:List Oper}{α β:Type}{r:u3 α}{s:u3 β}{w:Value}{x:α}{b:Bool}{F:Bool×C3→j8}(y:β)[lk:LkQ σ t (.ln w (j9.id (α:=α)))][hH:HoQ H w (b,.ob w x) F](h:∀ I cs,r.rep I x cs→s.rep I y cs)(k:wpB P C N ops Q os ((t,.ln w (j9.id (α:=β)))::σ) (F (b,.ob w y))):wpB P C N ops Q os σ H :=
 .rob t (fun _:Unit=>y) (fun I cs q=>⟨(),h I cs q⟩) fun _=>k
end Go.Ab
namespace Go.Proofs.YtfdifhfnpbphaaaGreatDoor
open Go.Proofs.Tryz
open Go.Fl Go.Ab Go.Mac
structure B6 where
 D4:(M4 32 UInt8)
 Ring:D6
 C0:(S6 u9)
 E4:(S6 o7)
 Device:l9
 Up:Bool
def B6.f (x:B6):(M4 32 UInt8)×D6×(S6 u9)×(S6 o7)×l9×Bool×Unit:=(x.D4,x.Ring,x.C0,x.E4,x.Device,x.Up,())
instance:Inhabited B6:=⟨⟨default,default,default,default,default,default⟩⟩
instance:u3 B6:=u3.via B6.f
instance:K4 B6:=K4.via B6.f rfl
def B6.l0:j9 B6 (M4 32 UInt8):=j9.via B6.f j9.fst (fun x=>x.D4) (fun y x => { x with D4:=y }) (fun _=>rfl) (fun _ _=>rfl)
def B6.l1:j9 B6 D6:=j9.via B6.f (j9.snd.comp j9.fst) (fun x=>x.Ring) (fun y x => { x with Ring:=y }) (fun _=>rfl) (fun _ _=>rfl)
def B6.l2:j9 B6 (S6 u9):=j9.via B6.f (j9.snd.comp (j9.snd.comp j9.fst)) (fun x=>x.C0) (fun y x => { x with C0:=y }) (fun _=>rfl) (fun _ _=>rfl)
def B6.l3:j9 B6 (S6 o7):=j9.via B6.f (j9.snd.comp (j9.snd.comp (j9.snd.comp j9.fst))) (fun x=>x.E4) (fun y x => { x with E4:=y }) (fun _=>rfl) (fun _ _=>rfl)
def B6.l4:j9 B6 l9:=j9.via B6.f (j9.snd.comp (j9.snd.comp (j9.snd.comp (j9.snd.comp j9.fst)))) (fun x=>x.Device) (fun y x => { x with Device:=y }) (fun _=>rfl) (fun _ _=>rfl)
def B6.l5:j9 B6 Bool:=j9.via B6.f (j9.snd.comp (j9.snd.comp (j9.snd.comp (j9.snd.comp (j9.snd.comp j9.fst))))) (fun x=>x.Up) (fun y x => { x with Up:=y }) (fun _=>rfl) (fun _ _=>rfl)
theorem d1h:K1 prog 32 (S6 u9) := .ok (by kernel_rfl)
instance:TyM prog 32 u9 inferInstance:=⟨d1h⟩
theorem d1i:K1 prog 33 (S6 o7) := .ok (by kernel_rfl)
instance:TyM prog 33 o7 inferInstance:=⟨d1i⟩
theorem d1j:K1 prog 39 B6 := .ok (by kernel_rfl)
instance:TyK prog 39 B6:=⟨d1j⟩
instance:FdS prog 39 0 B6.l0 (fun x=>x.D4):=⟨.ok c1K rfl fun _=>rfl⟩
instance:Q2 B6.l0 (fun x=>x.D4) (fun y x => { x with D4:=y }):=⟨fun _=>rfl,fun _ _=>rfl⟩
instance:FdS prog 39 1 B6.l1 (fun x=>x.Ring):=⟨.ok c1L rfl fun _=>rfl⟩
instance:Q2 B6.l1 (fun x=>x.Ring) (fun y x => { x with Ring:=y }):=⟨fun _=>rfl,fun _ _=>rfl⟩
instance:FdS prog 39 2 B6.l2 (fun x=>x.C0):=⟨.ok c1M rfl fun _=>rfl⟩
instance:Q2 B6.l2 (fun x=>x.C0) (fun y x => { x with C0:=y }):=⟨fun _=>rfl,fun _ _=>rfl⟩
instance:FdS prog 39 3 B6.l3 (fun x=>x.E4):=⟨.ok c1N rfl fun _=>rfl⟩
instance:Q2 B6.l3 (fun x=>x.E4) (fun y x => { x with E4:=y }):=⟨fun _=>rfl,fun _ _=>rfl⟩
instance:FdS prog 39 4 B6.l4 (fun x=>x.Device):=⟨.ok c1O rfl fun _=>rfl⟩
instance:Q2 B6.l4 (fun x=>x.Device) (fun y x => { x with Device:=y }):=⟨fun _=>rfl,fun _ _=>rfl⟩
instance:FdS prog 39 5 B6.l5 (fun x=>x.Up):=⟨.ok c1P rfl fun _=>rfl⟩
instance:Q2 B6.l5 (fun x=>x.Up) (fun y x => { x with Up:=y }):=⟨fun _=>rfl,fun _ _=>rfl⟩
abbrev IsM:=B6
def b0S (x:l8):IsM:=⟨x.D4,x.Ring,.inl x.C0,.inl x.E4,x.Device,x.Up⟩
abbrev mx (x:l8)(um ui:Value):IsM:=⟨x.D4,x.Ring,.inr um,.inr ui,x.Device,x.Up⟩
theorem a5A (x:l8)(I:Fl.Im)(cs:List Value)(h:u3.rep I x cs):u3.rep I (b0S x) cs:=h
theorem a7w (x:l8)(h:IsB x):C6 gl prog 41 [.v x] [] (fun r Hs=>∃ u:Value×Value,r = .v (mx x u.1 u.2)∧Hs = [.own 114 u.1 x.C0,.own 101 u.2 x.E4]):=by
 have i1:∀ (l:List u9),CaN gl prog 66 [.v l] [l.length≤1000000,∀ m∈l,V0 m.y5] (fun u => .v (S6.inr (α:=u9) u)) 114 u9 inferInstance l:=fun l=>⟨fun h=>(a7k l h.1 h.2.1).c3B⟩
 have i2:∀ (l:List o7),CaN gl prog 65 [.v l] [l.length≤1000000,∀ x∈l,x.O8.length≤1000000] (fun u => .v (S6.inr (α:=o7) u)) 101 o7 inferInstance l:=fun l=>⟨fun h=>(a7j l h.1 h.2.1).c3B⟩
 have o9:c0K 9:=⟨trivial⟩
 have o12:c0K 12:=⟨trivial⟩
 have i_cloneEp_c:∀ (l:List y3),P9 gl prog 80 [.v l] [l.length≤1000000] (.v l):=fun l=>⟨fun hh=>b1U l hh.1⟩
 have i_dvCopied_c:∀ (d:l9),P9 gl prog 81 [.v d] [V5 d] (.v d):=fun d=>⟨fun hh=>a4u d hh.1⟩
 refine .go func41 j0 22 [.cell 2 39] j0 (by kernel_rfl) fun C hG=>(.f hG j0 fun b1 b2=>(.ob1 1 (b0S x) (a5A x) (.ob1 2 (b0S default) (a5A default) ?_)))
 unfold b0S
 refine .z hG (by kernel_rfl) ?_
 exact⟨h.live,h.a0f,h.c0I,h.items,h.boxes,h.dev,⟨fun _ _=>by kernel_rfl,fun _ _=>by kernel_rfl,trivial⟩,fun nm=>P6.of [(nm 6).1,(nm 9).1] ⟨((nm 6).1,(nm 9).1),rfl,rfl⟩⟩
structure IsV where
 x:l8
abbrev a7x (x:l8)(w:Value)(u:Value×Value):List C3 := [.ob w (mx x u.1 u.2),.own 114 u.1 x.C0,.own 101 u.2 x.E4]
theorem b9d {I J:Fl.Im}(hle:Le I J):∀ {Hs:List C3} {L:Lh},Q9 I Hs L→Q9 J Hs L
 | [],_,h=>h
 | B::Hs,_,h=>by obtain⟨X,R,rfl,h1,h2⟩:=h;exact⟨X,R,rfl,C3.mono hle h1,b9d hle h2⟩
instance:UB IsV where
 ub I w s X:=∃ u Xs,X=Xs.flatten∧Q9 I (a7x s.x w u) Xs
 mono hle h:=by obtain⟨u,Xs,e,h⟩:=h;exact⟨u,Xs,e,b9d hle h⟩
def H6 (a:F1)(x:l8)(i:Item):l8×Int :=
 if i.Kind=1 then
  if (M0 a x.D4 i).2≠0 then (x,(M0 a x.D4 i).2) else
  if (X4 x.Ring (M0 a x.D4 i).1).2≠0 then (x,(X4 x.Ring (M0 a x.D4 i).1).2) else
  ({ x with Ring:=(X4 x.Ring (M0 a x.D4 i).1).1,E4:=x.E4 ++ [i] },0)
 else ({ x with E4:=x.E4 ++ [i] },0)
theorem c3C (b:Nat)(a:F1)(x:l8)(i:Item)(hk:i.Kind≠2)(hpl:∀ y∈a.B7,y.Plain.length≤1000000)(hr:x.Ring.Live.length≤1000000)(hi:x.E4.length≤1000000)(hb:i.O8.length≤1000000) :
    C6 gl prog 49 [.v a,.ln (ptr b 0) (j9.id (α:=IsM)),.v i] [.P4 (ptr b 0) (IsV.mk x)] (fun r Hs=>r = .v (H6 a x i).2∧Hs = [.P4 (ptr b 0) (IsV.mk (H6 a x i).1)]):=by
  refine .c62 (a7x x (ptr b 0)) (a7x (H6 a x i).1 (ptr b 0)) (fun u => ?_) (fun I X h=>h) (fun I j Xs h=>⟨j,Xs,j0,h⟩)
  have m64:d1f 64:=⟨trivial⟩
  have i_epoch_c:∀ (a:F1) (k:Tag) (x:Item),P9 gl prog 99 [.v a,.v k,.v x] [∀ y∈a.B7,y.Plain.length≤1000000] (.t2 (.v (M0 a k x).1) (.v (M0 a k x).2)):=fun a k x=>⟨fun hh=>c5Z a k x hh.1⟩
  have i_ringAdd_c:∀ (r:D6) (e:y3),P9 gl prog 100 [.v r,.v e] [r.Live.length≤1000000] (.t2 (.v (X4 r e).1) (.v (X4 r e).2)):=fun r e=>⟨fun hh=>b9U r e hh.1⟩
  have i_itCopied_c:∀ (l:List o7),P9 gl prog 65 [.v l] [l.length≤1000000,∀ x∈l,x.O8.length≤1000000] (.v l):=fun l=>⟨fun hh=>a6w l hh.1 hh.2.1⟩
  generalize hP:(fun (r:AV) Hs=>r=AV.v (H6 a x i).2∧∃ j,Hs=a7x (H6 a x i).1 (ptr b 0) j)=P
  unfold a7x mx
  refine .go func49 j0 69 [.tmp 6] j0 (by kernel_rfl) fun C hG=>(.z hG (by kernel_rfl) fun b1 b2 b3=>⟨fun h1 => .z hG (by kernel_rfl) fun b4=>⟨hpl,fun h2 => .z hG (by kernel_rfl) ?_,fun h2 => .z hG (by kernel_rfl) ?_⟩,fun h1 => .z hG (by kernel_rfl) ⟨fun h2=>absurd h2 hk,fun h2 => .z hG (by kernel_rfl) ?_⟩⟩)
  all_goals have hb1:∀ y ∈ [i],y.O8.length≤1000000:=fun y hy=>by rw [List.mem_singleton.1 hy];exact hb
  all_goals have hl1 : [i].length=1:=rfl
  · have h2:¬(M0 a x.D4 i).2≠0:=Classical.not_not.2 h2
    subst hP
    refine⟨hr,fun h3=>P6.of [ptr b 0,u.1,u.2] ⟨?_,u,?_⟩,fun h3=>⟨by omega,hb1,by omega,by omega,⟨fun _ _=>by kernel_rfl,trivial⟩,fun nm=>P6.of [ptr b 0,u.1,(nm 10).1] ⟨?_,(u.1,(nm 10).1),?_⟩⟩⟩
    · unfold H6;rw [if_pos h1,if_neg h2,if_pos h3]
    · unfold H6;rw [if_pos h1,if_neg h2,if_pos h3]<;>rfl
    · unfold H6;rw [if_pos h1,if_neg h2,if_neg h3]
    · unfold H6;rw [if_pos h1,if_neg h2,if_neg h3]<;>rfl
  · have h2:(M0 a x.D4 i).2≠0:=h2
    subst hP
    refine⟨fun h3=>P6.of [ptr b 0,u.1,u.2] ⟨?_,u,?_⟩,fun h3=>absurd h2 h3⟩
    · unfold H6;rw [if_pos h1,if_pos h2]
    · unfold H6;rw [if_pos h1,if_pos h2]<;>rfl
  · subst hP
    refine⟨fun h3=>absurd rfl h3,fun h3=>⟨by omega,hb1,by omega,by omega,⟨fun _ _=>by kernel_rfl,trivial⟩,fun nm=>P6.of [ptr b 0,u.1,(nm 10).1] ⟨?_,(u.1,(nm 10).1),?_⟩⟩⟩
    · unfold H6;rw [if_neg h1]
    · unfold H6;rw [if_neg h1]<;>rfl
theorem b3w (w:Value)(l:List u9)(h:l.length≤1000000):C6 gl prog 121 [.raw w] [.own 114 w l] (fun r Hs=>∃ u:Value,True∧r = .raw u∧Hs = [.own 114 w l,.own 114 u l]):=by
 have i2:a1Z 2:=⟨trivial⟩
 refine .go func121 j0 8 [.tmp 2] j0 (by kernel_rfl) fun C hG=>(.z hG (by kernel_rfl) ?_)
 exact fun b hb=>⟨fun h1=>P6.of [w,.slice none 0 0] ⟨_,trivial,rfl,by rw [hb h1]⟩,fun h1 b3=>⟨by simp;omega,by simp;omega,fun w2=>P6.of [w,w2] ⟨_,trivial,rfl,rfl⟩⟩⟩
theorem b1v (w:Value)(l:List u9)(h:l.length≤1000000)(hB:∀ m∈l,V0 m.y5):C6 gl prog 66 [.raw w] [.own 114 w l] (fun r Hs=>∃ u,r = .raw u∧Hs = [.own 114 u l]):=by
 have i1:∀ (w:Value) (l:List u9),CaG gl prog 121 [.raw w] [.own 114 w l] Value [l.length≤1000000] (fun _=>True) (fun u => .raw u) (fun u => [.own 114 w l]) (fun u => [.own 114 u l]):=fun w l=>⟨fun hh=>(b3w w l hh.1).mono fun r Hs ⟨u,h1,h2,h3⟩=>⟨u,h1,h2,h3⟩⟩
 have i_caCopied_c:∀ (l:List y1),P9 gl prog 122 [.v l] [V0 l] (.v l):=fun l=>⟨fun hh=>a6x l hh.1⟩
 refine .go func66 j0 24 [.tmp 2] j0 (by kernel_rfl) fun C hG=>(.z hG (by kernel_rfl) ⟨h,fun u _ => ?_⟩)
 refine .lp hG (fun k:Nat => [(9,.v (k:Int))]) (fun k => []) (fun k=>k≤l.length) (fun k=>l.length - k) 0 (by kernel_rfl) ⟨rfl,by omega,fun k hk=>⟨fun h1=>⟨by omega,by omega,by omega,?_,by omega,by omega,by omega,by omega,by omega,k+1,rfl,by rw [a33 _ _ _ rfl],by omega,by omega⟩,fun h1=>P6.of [u] ⟨_,rfl,rfl⟩⟩⟩
 exact hB _ (T7 (by omega))
theorem c52 (b:Nat)(x:l8)(m:u9)(hm:x.C0.length≤999999)(hB:∀ m∈x.C0,V0 m.y5)(hc:V0 m.y5):C6 gl prog 70 [.ln (ptr b 0) B6.l2,.p m] [.P4 (ptr b 0) (IsV.mk x)] (fun r Hs=>r = .raw (.tuple #[])∧Hs = [.P4 (ptr b 0) (IsV.mk { x with C0:=x.C0 ++ [m] })]):=by
 refine .c62 (a7x x (ptr b 0)) (a7x { x with C0:=x.C0 ++ [m] } (ptr b 0)) (fun u => ?_) (fun I X h=>h) (fun I j Xs h=>⟨j,Xs,j0,h⟩)
 have o9:c6S 9:=⟨trivial⟩
 have i1:∀ (w:Value) (l:List u9),CaT gl prog 66 [.raw w] (.own 114 w l) [l.length≤1000000,∀ m∈l,V0 m.y5] (fun u => .v (S6.inr (α:=u9) u)) (fun u => .own 114 u l):=fun w l=>⟨fun hh=>(b1v w l hh.1 hh.2.1).c3B⟩
 generalize hP:(fun (r:AV) Hs=>r=AV.raw (.tuple #[])∧∃ j,Hs=a7x { x with C0:=x.C0 ++ [m] } (ptr b 0) j)=P
 unfold a7x mx
 refine .go func70 j0 12 [] j0 (by kernel_rfl) fun C hG => ?_
 have hl1 : [m].length=1:=rfl
 refine .z hG (by kernel_rfl) ⟨by omega,by omega,by rw [List.length_append];omega,fun y hy => ?_,⟨fun _ _=>by kernel_rfl,fun _ _=>by kernel_rfl,trivial⟩,fun nm => ?_⟩
 ·rcases List.mem_append.1 hy with hy|hy
  ·exact hB y hy
  ·rw [List.mem_singleton.1 hy];exact hc
 ·subst hP
  exact P6.of [ptr b 0,(nm 7).1,u.2] ⟨rfl,((nm 7).1,u.2),rfl⟩
instance (b:Nat)(x:l8)(m:u9):CaM gl prog 70 [.ln (ptr b 0) B6.l2,.p m] (.P4 (ptr b 0) (IsV.mk x)) [x.C0.length≤999999,∀ m∈x.C0,V0 m.y5,V0 m.y5] (.raw (.tuple #[])) (.P4 (ptr b 0) (IsV.mk { x with C0:=x.C0 ++ [m] })):=⟨fun h=>c52 b x m h.1 h.2.1 h.2.2.1⟩
instance (b:Nat)(a:F1)(x:l8)(i:Item):CaM gl prog 49 [.v a,.ln (ptr b 0) (j9.id (α:=IsM)),.v i] (.P4 (ptr b 0) (IsV.mk x)) [i.Kind≠2,∀ y∈a.B7,y.Plain.length≤1000000,x.Ring.Live.length≤1000000,x.E4.length≤1000000,i.O8.length≤1000000] (.v (H6 a x i).2) (.P4 (ptr b 0) (IsV.mk (H6 a x i).1)):=⟨fun h=>c3C b a x i h.1 h.2.1 h.2.2.1 h.2.2.2.1 h.2.2.2.2.1⟩
theorem c3D (b:Nat):C4 gl prog 93 [.ln (ptr b 0) (j9.id (α:=IsM))] (fun r=>r = .ln (ptr b 0) (j9.id (α:=IsM))):=by
 refine .go func93 j0 4 [.tmp 2] j0 (by kernel_rfl) fun C hG => ?_
 exact .z hG (by kernel_rfl) j0
theorem c54 (b:Nat):C4 gl prog 72 [.ln (ptr b 0) (j9.id (α:=IsM))] (fun r=>r = .ln (ptr b 0) B6.l2):=by
 refine .go func72 j0 6 [.tmp 2] j0 (by kernel_rfl) fun C hG => ?_
 exact .z hG (by kernel_rfl) j0
theorem b7B (b:Nat)(a:F1)(x:l8)(i:Item)(hk:i.Kind≠2)(hpl:∀ y∈a.B7,y.Plain.length≤1000000)(hr:x.Ring.Live.length≤1000000)(hi:x.E4.length≤1000000)(hb:i.O8.length≤1000000) :
    C6 gl prog 91 [.ln (ptr b 0) (j9.id (α:=IsM)),.p a,.p i] [.P4 (ptr b 0) (IsV.mk x)] (fun r Hs=>r = .raw (.tuple #[])∧Hs = [.P4 (ptr b 0) (IsV.mk (H6 a x i).1)]):=by
  refine .go func91 j0 8 [] j0 (by kernel_rfl) fun C hG => ?_
  exact .z hG (by kernel_rfl) ⟨hk,hpl,hr,hi,hb,P6.of [ptr b 0] ⟨j0,j0⟩⟩
end Go.Proofs.YtfdifhfnpbphaaaGreatDoor
