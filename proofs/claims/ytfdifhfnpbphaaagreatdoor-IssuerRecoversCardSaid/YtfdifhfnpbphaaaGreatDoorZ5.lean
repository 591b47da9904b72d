/- Plain Lean over any program, and walks of this seat's functions: contracts, each proved once (part 5). -/
import Derived.Test.YtfdifhfnpbphaaaGreatDoorZ4
set_option maxRecDepth 1000000
set_option synthInstance.maxSize 1000000
set_option synthInstance.maxHeartbeats 10000000
set_option linter.unusedVariables false
set_option linter.unusedSimpArgs false
namespace Go.Proofs.YtfdifhfnpbphaaaGreatDoor
open Go.Proofs.Tryz
open Go.Fl Go.Ab Go.Mac Go.Sha
theorem c2J (x:UInt8):(x &&& 127).toNat=x.toNat % 128:=by rw [UInt8.toNat_and];exact Nat.and_two_pow_sub_one_eq_mod x.toNat 7
theorem b8u (x:UInt8)(k:Nat):((x &&& 127).toNat:Int)*2^(7*(k:Int)).toNat=((x.toNat % 128*2^(7*k):Nat):Int):=by
 rw [c2J,show(7*(k:Int)).toNat=7*k by omega];push_cast;rfl
theorem b9H {x:UInt8}{k:Nat}(hk:k < 7):0≤((x &&& 127).toNat:Int)*2^(7*(k:Int)).toNat∧((x &&& 127).toNat:Int)*2^(7*(k:Int)).toNat≤9223372036854775807:=by
 rw [b8u]
 have h1:2^(7*k)≤2^42:=Nat.pow_le_pow_right (by decide) (by omega)
 have h2:x.toNat % 128≤127:=by omega
 have h3:x.toNat % 128*2^(7*k)≤127*2^42:=Nat.mul_le_mul h2 h1
 constructor
 ·omega
 ·omega
theorem c7F {b:List UInt8}{k:Nat}(hl:k < b.length):(((((a1X (b.take k):Nat):Int).toNat ||| (((b[k] &&& 127).toNat:Int)*2^(7*(k:Int)).toNat).toNat:Nat)):Int)=((a1X (b.take (k+1)):Nat):Int):=by
 rw [b8u,Int.toNat_natCast,Int.toNat_natCast,List.take_succ_eq_append_getElem hl,b1J]
 have h1:=b2N (b.take k)
 rw [show(b.take k).length=k by rw [List.length_take];omega] at h1 ⊢
 rw [show(128:Nat)^k=2^(7*k) by rw [Nat.pow_mul]] at h1 ⊢
 rw [Nat.or_comm,Nat.mul_comm (b[k].toNat % 128),←Nat.two_pow_add_eq_or_of_lt h1]
 congr 1;omega
theorem b2O (b:List UInt8):C3 gl prog 205 [.v b] (fun r=>r = .t3 (.v (I7 b).1) (.v (I7 b).2.1) (.v (I7 b).2.2)):=by
 refine C3.jn func205 (by kernel_rfl) 48 rfl fun C hC hG => ?_
 refine .q 6 hG ?_
 refine .scope ?_
 refine .q 1 hG ?_
 refine .a4C 0 j0 fun hl0 => ?_
 refine .q 5 hG ?_
 refine .label ?_
 refine .q 2 hG ?_
 refine .a0Q (α:=Nat) [(0,_)] (fun k R=>(5,.v ((a1X (b.take k):Nat):Int))::(6,.v (k:Int))::R) (fun k => []) (fun k=>k≤7∧k≤b.length∧∀ j (hj:j < b.length),j < k→decide (127 < b[j])=true) (fun k=>7 - k) (0) (.cons j0 (.nil _)) ?_ (.c2 j0 j0 (.cons j0 (.nil _))) (j0) fun k hF => ?_
 ·simp
 obtain⟨h1,h2,h3⟩:=hF
 refine .q 10 hG ⟨fun hc7 => ?_,fun hc7 => ?_⟩
 ·refine .q 7 hG ?_
  refine⟨_,.r3 j0 (.tmp j0) (.tmp j0) (.tmp j0),?_⟩
  have e:I7 b=(0,0,5):=(by have hcl:T9 b=k:=a7i h1 h2 h3 (.inl (by omega));unfold I7;rw [if_pos (by omega)])
  rw [e]
 ·refine .q 9 hG ⟨fun hc10 => ?_,fun hc10 => ?_⟩
  ·refine .q 7 hG ?_
   refine⟨_,.r3 j0 (.tmp j0) (.tmp j0) (.tmp j0),?_⟩
   have e:I7 b=(0,0,3):=(by have hcl:T9 b=k:=a7i h1 h2 h3 (.inr (.inl (by omega)));unfold I7;rw [if_neg (by omega),if_pos (by omega)])
   rw [e]
  ·refine .q 2 hG ?_
   have hlt1:k < b.length:=(by omega)
   have hlt2:k < 7:=(by omega)
   have hgb:=b9H (x:=b[k]) hlt2
   have hvl:=b2N (b.take k)
   refine .q 4 hG ?_
   refine .ix (by first|omega|(simp;done)|(simp;omega)|(simp at *;omega)) (by first|omega|(simp;done)|(simp;omega)|(simp at *;omega)) ?_
   simp only [Int.toNat_natCast]
   refine .q 2 hG ?_
   refine .p (.c1F underlying5 underlying3 (.t j0) ?_)
   refine .q 1 hG ?_
   refine .p (.mul (.i j0) (.t j0) (by first|omega|(simp;done)|(simp;omega)|(simp at *;omega)) (by first|omega|(simp;done)|(simp;omega)|(simp at *;omega)) (.p (.d2y (.t j0) (.t j0) (by omega) (by omega) hgb.1 hgb.2 (.p (.orI (.t j0) (.t j0) (by omega) hgb.1 ?_)))))
   refine .q 3 hG ?_
   rw [c7F hlt1]
   refine .q 2 hG ?_
   refine .ad (by first|omega|(simp;done)|(simp;omega)|(simp at *;omega)) (by first|omega|(simp;done)|(simp;omega)|(simp at *;omega)) ?_
   refine .q 6 hG ?_
   refine .sb (by first|omega|(simp;done)|(simp;omega)|(simp at *;omega)) (by first|omega|(simp;done)|(simp;omega)|(simp at *;omega)) ?_
   refine .ix (by first|omega|(simp;done)|(simp;omega)|(simp at *;omega)) (by first|omega|(simp;done)|(simp;omega)|(simp at *;omega)) ?_
   refine .q 4 hG ⟨fun hc33 => ?_,fun hc33 => ?_⟩
   ·refine .q 3 hG ?_
    have hx8:b[k].toNat < 128:=(by have e:((k:Int)+1 - 1).toNat=k:=(by omega);have h9:=UInt8.lt_iff_toNat_lt.1 hc33;simp only [e] at h9;exact h9)
    have hcl:T9 b=k:=a7i h1 h2 h3 (.inr (.inr ⟨hlt1,decide_eq_false fun h=>by have h9:=UInt8.lt_iff_toNat_lt.1 h;have h10:(127:UInt8).toNat=127:=rfl;omega⟩))
    refine .q 6 hG ?_
    refine .go 36 j0 (.t j0) (fun hg39 => .sub (.q j0 hg39) (.i j0) (by first|omega|(simp;done)|(simp;omega)|(have:=hg39;simp at this;omega)) (by first|omega|(simp;done)|(simp;omega)|(have:=hg39;simp at this;omega)) j0) (.go 36 j0 (.t j0) (fun hg40 => .idx ty5 underlying34 (.q j0 hg40) (.q j0 hg40) (by first|omega|(simp;done)|(simp;omega)|(have:=hg40;simp at this;omega)) (by first|omega|(simp;done)|(simp;omega)|(have:=hg40;simp at this;omega)) j0) ?_)
    refine .q 4 hG ?_
    refine .cond (.t j0) (fun hc43 => ?_) (fun hc43 => ?_)
    ·refine .q 7 hG ?_
     refine⟨_,.r3 j0 (.tmp j0) (.tmp j0) (.tmp j0),?_⟩
     have e:I7 b=(0,0,5):=(by unfold I7;rw [if_neg (by omega),if_neg (by omega),if_pos (by rw [hcl];simp only [Bool.and_eq_true,decide_eq_true_eq] at hc43 ⊢;refine⟨by omega,?_⟩;rw [List.getD_eq_getElem?_getD,List.getElem?_eq_getElem hlt1];have e2:((k:Int)+1 - 1).toNat=k:=(by omega);have h9:=hc43.2;simp only [e2] at h9;exact h9)])
     rw [e]
    ·refine .q 3 hG ?_
     have hcz:¬(decide (0 < T9 b)&&decide (b.getD (T9 b) 0=0))=true:=(by rw [hcl];intro h9;simp only [Bool.and_eq_true,decide_eq_true_eq] at h9;rw [List.getD_eq_getElem?_getD,List.getElem?_eq_getElem hlt1] at h9;have e2:((k:Int)+1 - 1).toNat=k:=(by omega);rw [decide_eq_true (show(k:Int)+1>1 by omega),Bool.true_and,decide_eq_false_iff_not] at hc43;simp only [e2] at hc43;exact hc43 h9.2)
     refine .q 5 hG ⟨fun hc45 => ?_,fun hc45 => ?_⟩
     ·refine .q 7 hG ?_
      refine⟨_,.r3 j0 (.tmp j0) (.tmp j0) (.tmp j0),?_⟩
      have e:I7 b=(0,0,1):=(by unfold I7;rw [if_neg (by omega),if_neg (by omega),if_neg hcz,hcl,if_pos (by omega)])
      rw [e]
     ·refine .q 10 hG ?_
      refine⟨_,.r3 j0 (.tmp j0) (.tmp j0) (.tmp j0),?_⟩
      have e:I7 b=((a1X (b.take (k+1)):Int),(k:Int)+1,0):=(by unfold I7;rw [if_neg (by omega),if_neg (by omega),if_neg hcz,hcl,if_neg (by omega)])
      rw [e]
   ·refine .q 1 hG ?_
    refine⟨k+1,.c2 rfl rfl (.cons rfl (.nil _)),rfl,?_,by omega⟩
    refine⟨by omega,by omega,fun j hj hjk => ?_⟩;rcases Nat.lt_or_ge j k with h|h;exact h3 j hj h;(obtain rfl:j=k:=by omega);exact decide_eq_true (UInt8.lt_iff_toNat_lt.2 (by have e2:((j:Int)+1 - 1).toNat=j:=(by omega);have h8:=hc33;simp only [e2] at h8;have h9:¬b[j].toNat < 128:=fun h=>h8 (UInt8.lt_iff_toNat_lt.2 h);show 127 < b[j].toNat;omega))
theorem b8v (b:List UInt8)(hb:b.length≤1000000):C3 gl prog 308 [.v b] (fun r=>r = .t3 (.v (Q1 b).1) (.v (Q1 b).2.1) (.v (Q1 b).2.2)):=by
 have hu:=a09 b
 refine C3.jn func308 (by kernel_rfl) 38 rfl fun C hC hG => ?_
 refine .q 9 hG ?_
 refine .k hG (b2O _) ?_
 refine .q 17 hG ⟨fun hc14 => ?_,fun hc14 => ?_⟩
 ·refine .q 8 hG ?_
  refine⟨_,.r3 j0 (.tmp j0) (.tmp j0) (.tmp j0),?_⟩
  have e:Q1 b=([],0,(I7 b).2.2):=if_pos hc14
  rw [e]
 ·refine .q 7 hG ⟨fun hc18 => ?_,fun hc18 => ?_⟩
  ·refine .q 7 hG ?_
   refine⟨_,.r3 j0 (.tmp j0) (.tmp j0) (.tmp j0),?_⟩
   have e:Q1 b=([],0,2):=(by unfold Q1;rw [if_neg hc14,if_pos hc18])
   rw [e]
  ·refine .q 1 hG ?_
   have hn0:0≤(I7 b).1:=(a7k (b:=b) (v:=(I7 b).1) (k:=(I7 b).2.1) (by rw [←Decidable.not_not.1 hc14])).1
   refine .q 5 hG ?_
   refine .sb (by first|omega|(simp;done)|(simp;omega)|(simp at *;omega)) (by first|omega|(simp;done)|(simp;omega)|(simp at *;omega)) ?_
   refine .q 4 hG ⟨fun hc21 => ?_,fun hc21 => ?_⟩
   ·refine .q 7 hG ?_
    refine⟨_,.r3 j0 (.tmp j0) (.tmp j0) (.tmp j0),?_⟩
    have e:Q1 b=([],0,3):=(by unfold Q1;rw [if_neg hc14,if_neg hc18,if_pos hc21])
    rw [e]
   ·refine .q 7 hG ?_
    refine .ad (by first|omega|(simp;done)|(simp;omega)|(simp at *;omega)) (by first|omega|(simp;done)|(simp;omega)|(simp at *;omega)) (.p (.c83 ty5 underlying34 (.t j0) (.t j0) (.t j0) (by first|omega|(simp;done)|(simp;omega)|(simp at *;omega)) (by first|omega|(simp;done)|(simp;omega)|(simp at *;omega)) (by first|omega|(simp;done)|(simp;omega)|(simp at *;omega)) ?_))
    refine .k hG ((a5p _ (by first|omega|(simp;done)|(simp;omega)|(simp at *;omega))).b2u) ?_
    refine .q 2 hG ?_
    refine .ad (by first|omega|(simp;done)|(simp;omega)|(simp at *;omega)) (by first|omega|(simp;done)|(simp;omega)|(simp at *;omega)) ?_
    refine .q 5 hG ?_
    refine⟨_,.r3 j0 (.tmp j0) (.tmp j0) (.tmp j0),?_⟩
    have e:Q1 b=((b.take ((I7 b).2.1+(I7 b).1).toNat).drop (I7 b).2.1.toNat,(I7 b).2.1+(I7 b).1,0):=(by unfold Q1;rw [if_neg hc14,if_neg hc18,if_neg hc21])
    rw [e]
abbrev pr (w:Value):AV := .ln w (j9.id (α:=PRd))
theorem c5m (w:Value)(r:PRd)(h:a6y r):C5 gl prog 309 [pr w] [.ob w r] (fun x Hs=>x = .v (J0 r).1∧Hs = [.ob w (J0 r).2]):=by
 obtain⟨h0,h1,h2⟩:=h
 have hu:=a09 (r.b.drop r.used.toNat)
 have hdl:(r.b.drop r.used.toNat).length=r.b.length - r.used.toNat:=List.length_drop
 refine C5.Z8 func309 rfl (by kernel_rfl) 39 rfl rfl _ rfl _ rfl fun C hC hG => ?_
 refine .q 14 hG ⟨fun hc10 => ?_,fun hc10 => ?_⟩
 ·refine .q 5 hG ?_
  refine .e1 j0 j0 ?_
  have e0:J0 r=(0,r):=if_pos hc10
  refine⟨_,.cons .z (.nil),?_⟩
  rw [e0];exact⟨rfl,rfl⟩
 ·refine .q 2 hG ?_
  refine .draw (by kernel_rfl) 17 [[],[(12,0)],[(13,1)],[(14,2)],[],[(16,4)],[(17,5)],[(18,6)],[(15,3),(19,7)],[(20,8)],[(21,9)],[(11,10)],[(11,10)],[(11,10)],[(22,11)],[(23,12)],[(24,13)]] j0 (by kernel_rfl) j0 ?_
  refine⟨_,OpP.move (.t j0) j0,?_⟩
  refine⟨_,OpP.E4 (.t j0) j0,?_⟩
  refine⟨_,OpP.P4 B3.l0 a6P j0 (.t j0) j0,?_⟩
  refine⟨_,OpP.ldF (fun x=>x.b) a88 (.t j0) .z (fun _=>j0) j0,?_⟩
  refine⟨_,OpP.move (.t j0) j0,?_⟩
  refine⟨_,OpP.E4 (.t j0) j0,?_⟩
  refine⟨_,OpP.P4 B3.l1 a5D j0 (.t j0) j0,?_⟩
  refine⟨_,OpP.ldF (fun x=>x.used) ty3 (.t j0) .z (fun _=>j0) j0,?_⟩
  refine⟨_,OpP.c4C ty5 underlying34 (.t j0) (.t j0) (by first|omega|(simp;done)|(simp;omega)|(simp at *;omega)) (by first|omega|(simp;done)|(simp;omega)|(simp at *;omega)) j0,?_⟩
  refine⟨_,OpP.J7 hG (b2O _) (.cons (.t j0) .nil) j0,?_⟩
  refine⟨_,OpP.move (.t j0) j0,?_⟩
  refine⟨_,OpP.b5T (.t j0) j0,?_⟩
  refine⟨_,OpP.b2m (.t j0) j0,?_⟩
  refine⟨_,OpP.b2n (.t j0) j0,?_⟩
  refine⟨_,OpP.assign (.t j0) j0,?_⟩
  refine⟨_,OpP.assign (.t j0) j0,?_⟩
  refine⟨_,OpP.assign (.t j0) j0,?_⟩
  show wpB _ _ _ _ _ [] ((5,_)::(4,_)::(3,_)::(24,_)::(23,_)::(22,_)::(11,_)::(21,_)::(20,_)::(19,_)::(18,_)::(17,_)::(16,_)::(15,_)::(14,_)::(13,_)::(12,_)::_) _
  refine .q 10 hG ?_
  refine .ad (by first|omega|(simp;done)|(simp;omega)|(simp at *;omega)) (by first|omega|(simp;done)|(simp;omega)|(simp at *;omega)) ?_
  refine .q 14 hG ?_
  refine .e1 j0 j0 ?_
  have e0:J0 r=((I7 (r.b.drop r.used.toNat)).1,⟨r.b,r.used+(I7 (r.b.drop r.used.toNat)).2.1,(I7 (r.b.drop r.used.toNat)).2.2⟩):=if_neg hc10
  refine⟨_,.cons .z (.nil),?_⟩
  rw [e0];exact⟨rfl,rfl⟩
theorem c2K (w:Value)(r:PRd)(h:a6y r):C5 gl prog 310 [pr w] [.ob w r] (fun x Hs=>x = .v (a0K r).1∧Hs = [.ob w (a0K r).2]):=by
 obtain⟨h0,h1,h2⟩:=h
 refine C5.Z8 func310 rfl (by kernel_rfl) 53 rfl rfl _ rfl _ rfl fun C hC hG => ?_
 refine .q 6 hG ?_
 refine .draw (by kernel_rfl) 11 [[],[(6,0)],[(7,1)],[(8,2)],[(9,3)],[],[(11,5)],[(12,6)],[(13,7)],[(10,4),(14,8)],[(15,9)]] j0 (by kernel_rfl) j0 ?_
 refine⟨_,OpP.move (.t j0) j0,?_⟩
 refine⟨_,OpP.E4 (.t j0) j0,?_⟩
 refine⟨_,OpP.P4 B3.l0 a6P j0 (.t j0) j0,?_⟩
 refine⟨_,OpP.ldF (fun x=>x.b) a88 (.t j0) .z (fun _=>j0) j0,?_⟩
 refine⟨_,OpP.len underlying34 (.t j0) j0,?_⟩
 refine⟨_,OpP.move (.t j0) j0,?_⟩
 refine⟨_,OpP.E4 (.t j0) j0,?_⟩
 refine⟨_,OpP.P4 B3.l1 a5D j0 (.t j0) j0,?_⟩
 refine⟨_,OpP.ldF (fun x=>x.used) ty3 (.t j0) .z (fun _=>j0) j0,?_⟩
 refine⟨_,OpP.sub (.t j0) (.t j0) (by first|omega|(simp;done)|(simp;omega)|(simp at *;omega)) (by first|omega|(simp;done)|(simp;omega)|(simp at *;omega)) j0,?_⟩
 refine⟨_,OpP.lss (.t j0) (.i j0) j0,?_⟩
 show wpB _ _ _ _ _ [] ((16,_)::(15,_)::(14,_)::(13,_)::(12,_)::(11,_)::(10,_)::(9,_)::(8,_)::(7,_)::(6,_)::_) _
 refine .q 2 hG ⟨fun hc16 => ?_,fun hc16 => ?_⟩
 ·refine .q 12 hG ?_
  refine .e1 j0 j0 ?_
  have e0:a0K r=(0,⟨r.b,r.used,3⟩):=if_pos hc16
  refine⟨_,.cons .z (.nil),?_⟩
  rw [e0];exact⟨rfl,rfl⟩
 ·refine .q 7 hG ?_
  have h3:r.used+8≤r.b.length:=(by omega)
  have h4:(r.used+8).toNat≤r.b.length:=(by omega)
  have hl:((r.b.take (r.used+8).toNat).drop r.used.toNat).length=8:=(by rw [List.length_drop,List.length_take,Nat.min_eq_left h4];omega)
  refine .draw (by kernel_rfl) 16 [[],[(20,0)],[(21,1)],[(22,2)],[],[(24,4)],[(25,5)],[(26,6)],[],[(28,8)],[(29,9)],[(30,10)],[(31,11)],[(23,3),(27,7),(32,12)],[(33,13)],[]] j0 (by kernel_rfl) j0 ?_
  refine⟨_,OpP.move (.t j0) j0,?_⟩
  refine⟨_,OpP.E4 (.t j0) j0,?_⟩
  refine⟨_,OpP.P4 B3.l0 a6P j0 (.t j0) j0,?_⟩
  refine⟨_,OpP.ldF (fun x=>x.b) a88 (.t j0) .z (fun _=>j0) j0,?_⟩
  refine⟨_,OpP.move (.t j0) j0,?_⟩
  refine⟨_,OpP.E4 (.t j0) j0,?_⟩
  refine⟨_,OpP.P4 B3.l1 a5D j0 (.t j0) j0,?_⟩
  refine⟨_,OpP.ldF (fun x=>x.used) ty3 (.t j0) .z (fun _=>j0) j0,?_⟩
  refine⟨_,OpP.move (.t j0) j0,?_⟩
  refine⟨_,OpP.E4 (.t j0) j0,?_⟩
  refine⟨_,OpP.P4 B3.l1 a5D j0 (.t j0) j0,?_⟩
  refine⟨_,OpP.ldF (fun x=>x.used) ty3 (.t j0) .z (fun _=>j0) j0,?_⟩
  refine⟨_,OpP.add (.t j0) (.i j0) (by first|omega|(simp;done)|(simp;omega)|(simp at *;omega)) (by first|omega|(simp;done)|(simp;omega)|(simp at *;omega)) j0,?_⟩
  refine⟨_,OpP.c83 ty5 underlying34 (.t j0) (.t j0) (.t j0) (by first|omega|(simp;done)|(simp;omega)|(simp at *;omega)) (by first|omega|(simp;done)|(simp;omega)|(simp at *;omega)) (by first|omega|(simp;done)|(simp;omega)|(simp at *;omega)) j0,?_⟩
  refine⟨_,OpP.len underlying34 (.t j0) j0,?_⟩
  refine⟨_,OpP.move (.i j0) j0,?_⟩
  show wpB _ _ _ _ _ [] ((35,_)::(34,_)::(33,_)::(32,_)::(31,_)::(30,_)::(29,_)::(28,_)::(27,_)::(26,_)::(25,_)::(24,_)::(23,_)::(22,_)::(21,_)::(20,_)::_) _
  refine .q 2 hG ?_
  refine .a0Q (α:=Nat) [(0,_),(33,_),(34,_)] (fun k R=>(3,.v (a4G ((r.b.take (r.used+8).toNat).drop r.used.toNat) k))::(35,.v (k:Int))::R) (fun k => [(false,.ob w r)]) (fun k=>k≤8) (fun k=>8 - k) (0) (.c2 j0 j0 (.cons j0 (.nil _))) ?_ (.c2 j0 j0 (.c2 j0 j0 (.cons j0 (.nil _)))) (j0) fun k hF => ?_
  ·decide
  refine .q 6 hG ⟨fun hc36 => ?_,fun hc36 => ?_⟩
  ·refine .q 5 hG ?_
   refine .ix (by first|omega|(simp;done)|(simp;omega)|(simp at *;omega)) (by first|omega|(simp;done)|(simp;omega)|(simp at *;omega)) ?_
   refine .q 5 hG ?_
   refine .p (.b7v (.t j0) (.u64 8 j0) (by first|omega|(simp;done)|(simp;omega)|(simp at *;omega)) (by first|omega|(simp;done)|(simp;omega)|(simp at *;omega)) ?_)
   refine .q 1 hG ?_
   refine .p (.a9x underlying5 underlying129 (.t j0) ?_)
   refine .q 4 hG ?_
   refine .ad (by first|omega|(simp;done)|(simp;omega)|(simp at *;omega)) (by first|omega|(simp;done)|(simp;omega)|(simp at *;omega)) ?_
   refine .q 2 hG ?_
   refine⟨k+1,.cons (congrArg (fun q=>some (AV.v q)) ((c7E _ _).trans (b6B _ k (by omega)))) (.c2 rfl rfl (.c2 rfl rfl (.nil _))),rfl,?_,by omega⟩
   omega
  ·refine .q 7 hG ?_
   refine .ad (by first|omega|(simp;done)|(simp;omega)|(simp at *;omega)) (by first|omega|(simp;done)|(simp;omega)|(simp at *;omega)) ?_
   refine .q 10 hG ?_
   refine .e1 j0 j0 ?_
   obtain rfl:k=8:=(by omega)
   have e0:a0K r=(a4G ((r.b.take (r.used+8).toNat).drop r.used.toNat) 8,⟨r.b,r.used+8,r.e⟩):=if_neg hc16
   refine⟨_,.cons .z (.nil),?_⟩
   rw [e0];exact⟨rfl,rfl⟩
theorem c2L (w:Value)(r:PRd)(h:a6y r):C5 gl prog 311 [pr w] [.ob w r] (fun x Hs=>x = .v (a1a r).1∧Hs = [.ob w (a1a r).2]):=by
 obtain⟨h0,h1,h2⟩:=h
 have hu:=a3r (r.b.drop r.used.toNat)
 have hdl:(r.b.drop r.used.toNat).length=r.b.length - r.used.toNat:=List.length_drop
 refine C5.Z8 func311 rfl (by kernel_rfl) 35 rfl rfl _ rfl _ rfl fun C hC hG => ?_
 refine .q 5 hG ?_
 refine .draw (by kernel_rfl) 17 [[],[(7,0)],[(8,1)],[(9,2)],[],[(11,4)],[(12,5)],[(13,6)],[(10,3),(14,7)],[(15,8)],[(16,9)],[(6,10)],[(6,10)],[(6,10)],[(17,11)],[(18,12)],[(19,13)]] j0 (by kernel_rfl) j0 ?_
 refine⟨_,OpP.move (.t j0) j0,?_⟩
 refine⟨_,OpP.E4 (.t j0) j0,?_⟩
 refine⟨_,OpP.P4 B3.l0 a6P j0 (.t j0) j0,?_⟩
 refine⟨_,OpP.ldF (fun x=>x.b) a88 (.t j0) .z (fun _=>j0) j0,?_⟩
 refine⟨_,OpP.move (.t j0) j0,?_⟩
 refine⟨_,OpP.E4 (.t j0) j0,?_⟩
 refine⟨_,OpP.P4 B3.l1 a5D j0 (.t j0) j0,?_⟩
 refine⟨_,OpP.ldF (fun x=>x.used) ty3 (.t j0) .z (fun _=>j0) j0,?_⟩
 refine⟨_,OpP.c4C ty5 underlying34 (.t j0) (.t j0) (by first|omega|(simp;done)|(simp;omega)|(simp at *;omega)) (by first|omega|(simp;done)|(simp;omega)|(simp at *;omega)) j0,?_⟩
 refine⟨_,OpP.J7 hG (b8v _ (by omega)) (.cons (.t j0) .nil) j0,?_⟩
 refine⟨_,OpP.move (.t j0) j0,?_⟩
 refine⟨_,OpP.b5T (.t j0) j0,?_⟩
 refine⟨_,OpP.b2m (.t j0) j0,?_⟩
 refine⟨_,OpP.b2n (.t j0) j0,?_⟩
 refine⟨_,OpP.assign (.t j0) j0,?_⟩
 refine⟨_,OpP.assign (.t j0) j0,?_⟩
 refine⟨_,OpP.assign (.t j0) j0,?_⟩
 show wpB _ _ _ _ _ [] ((5,_)::(4,_)::(3,_)::(19,_)::(18,_)::(17,_)::(6,_)::(16,_)::(15,_)::(14,_)::(13,_)::(12,_)::(11,_)::(10,_)::(9,_)::(8,_)::(7,_)::_) _
 refine .q 10 hG ?_
 refine .ad (by first|omega|(simp;done)|(simp;omega)|(simp at *;omega)) (by first|omega|(simp;done)|(simp;omega)|(simp at *;omega)) ?_
 refine .q 11 hG ?_
 refine .p (.a9U underlying34 underlying5 underlying9 (.t j0) ?_)
 refine .q 3 hG ?_
 refine .e1 j0 j0 ?_
 refine⟨_,.cons .z (.nil),?_⟩
 exact⟨j0,j0⟩
theorem b6I {k:Int}{r:PRd}(h:k=1∨k=2∨k=3):a2J k r=(⟨k,(a0K r).1,0,0,⟨[]⟩,0⟩,(a0K r).2):=if_pos h
theorem b6J {k:Int}{r:PRd}(h:k=4∨k=5):a2J k r=(⟨k,0,(J0 r).1,(J0 (J0 r).2).1,⟨[]⟩,0⟩,(J0 (J0 r).2).2):=by unfold a2J;rw [if_neg (by omega),if_pos h]
theorem b6K {k:Int}{r:PRd}(h:k=6):a2J k r=(⟨k,0,0,0,(a1a r).1,0⟩,(a1a r).2):=by unfold a2J;rw [if_neg (by omega),if_neg (by omega),if_pos h]
theorem b6L {k:Int}{r:PRd}(h:k=7):a2J k r=(⟨k,0,0,0,⟨[]⟩,(J0 r).1⟩,(J0 r).2):=by unfold a2J;rw [if_neg (by omega),if_neg (by omega),if_neg (by omega)]
section
variable {b:List UInt8}{q:Pred×PRd}
theorem c7G (h:(J0 ⟨b,0,0⟩).2.e≠0):a0C b=(default,0,(J0 ⟨b,0,0⟩).2.e):=if_pos h
theorem c7H (h:¬(J0 ⟨b,0,0⟩).2.e≠0)(hk:(J0 ⟨b,0,0⟩).1 < 1∨7 < (J0 ⟨b,0,0⟩).1):a0C b=(default,0,6):=by unfold a0C;rw [if_neg h,if_pos hk]
theorem b2P (h:¬(J0 ⟨b,0,0⟩).2.e≠0)(hk:¬((J0 ⟨b,0,0⟩).1 < 1∨7 < (J0 ⟨b,0,0⟩).1))(hq:a2J (J0 ⟨b,0,0⟩).1 (J0 ⟨b,0,0⟩).2=q)(he:q.2.e≠0):a0C b=(default,0,q.2.e):=by
 unfold a0C;rw [if_neg h,if_neg hk,hq,if_pos he]
theorem b2Q (h:¬(J0 ⟨b,0,0⟩).2.e≠0)(hk:¬((J0 ⟨b,0,0⟩).1 < 1∨7 < (J0 ⟨b,0,0⟩).1))(hq:a2J (J0 ⟨b,0,0⟩).1 (J0 ⟨b,0,0⟩).2=q)(he:¬q.2.e≠0)(hv:(!I9 q.1)=true):a0C b=(default,0,5):=by
 unfold a0C;rw [if_neg h,if_neg hk,hq,if_neg he,if_neg (by simpa using hv)]
theorem b2R (h:¬(J0 ⟨b,0,0⟩).2.e≠0)(hk:¬((J0 ⟨b,0,0⟩).1 < 1∨7 < (J0 ⟨b,0,0⟩).1))(hq:a2J (J0 ⟨b,0,0⟩).1 (J0 ⟨b,0,0⟩).2=q)(he:¬q.2.e≠0)(hv:(!I9 q.1)=false):a0C b=(q.1,q.2.used,0):=by
 unfold a0C;rw [if_neg h,if_neg hk,hq,if_neg he,if_pos (by simpa using hv)]
end
end Go.Proofs.YtfdifhfnpbphaaaGreatDoor
namespace Go.Ab
open Go Go.Fl
section
variable {mo:Nat}{G:Gl}{P:Program}{C:Ctx}{N n:Nat}{ops:List Oper}{Q:Exit→o7→j8→Prop}{l:List Oper}{σ:o7}{H:j8}{d:Nat}{ps:String}{af:Array Edge}{y:Operand}{T E U ty:TypeId}{Eb:List Bool}
instance (priority:=low){α:Type}{r:u3 α}{i:Inhabited α}{by_ t:Nat}{w:Value}{L m:List α}{bb:Bool}{F:Bool×C0→j8}{EX:Value→List Bool}{AX:Value→Prop}[st:SlI P T E α by_ r i][hx:LkQ σ t (.raw w)][hH:HoQ H w (bb,.own E w L) F][hy:SrQ P U σ H y α r m]
    [k:∀ w',Rw mo G P C N n (.b ops Q l) ((d,.raw w')::σ) (F (bb,.own E w' (L++m))) (EX w') (AX w')][cE:CoQ EX Eb] :
    Rw mo G P C N (n+1) (.b ops Q (⟨some d,.call ⟨.builtin .append,#[.tmp t,y],#[T,U]⟩,ty,ps,af,none⟩::l)) σ H Eb ((L.length+m.length)*by_≤140737488355328∧L.length+m.length≤9223372036854775807∧∀ w',AX w') :=
  ⟨fun g e h => .h (.b2B st.h hy.u hx.h hH.h (hy.h C) h.1 h.2.1 (fun w'=>(k w').h g (cast (congrArg (fun z=>a0A z=true) (cE.h w')).symm e) (h.2.2 w')))⟩
end
instance (priority:=low){c:Bool}{σ:o7}:EvQ c σ (.const (.slice none 0 0)) (.raw (.slice none 0 0)):=⟨fun _ _ _ ρ I L hs=>⟨_,rfl,rfl⟩⟩
theorem C5.d2z {G:Gl}{P:Program}{f:FuncId}{α:Type}{r:u3 α}{ag:List AV}{Bs:List C0}{post:AV→List C0→Prop}(h:C5 G P f (.v ([]:List α)::ag) Bs post):C5 G P f (.raw (.slice none 0 0)::ag) Bs post:=fun I L vs hG hvs hL =>
 h I L vs hG (by
  obtain⟨v,rr,h0,h1,h2⟩:=hvs
  exact⟨v,rr,h0,⟨_,⟨_,j0,[],Sl.nil I _,j0⟩,h1⟩,h2⟩) hL
theorem CaI.d2A {G:Gl}{P:Program}{C:Ctx}{N:Nat}{σ:o7}{H:j8}{dd:Option Nat}{ty:TypeId}{ps:String}{af:Array Edge}{recv:Operand}{name:String}{args:Array Operand}{tys:Array TypeId}{iv:IfV}{ag:List AV}{D:List Prop}{r:AV}{b:Bool}{B B':C0}{F:Bool×C0→j8}(k:CaI G P name iv ag [B] D r [B'])(hr:G6 C σ H recv (.v iv))(hv:a0x C σ H args.toList ag)(hH:H9 H (b,B) F)(hG:G.p C.I0)(hD:Y5 D){K:AV→j8→Prop}(hk:K r (F (b,B'))):OpH P C N ⟨dd,.call ⟨.invoke recv name,args,tys⟩,ty,ps,af,none⟩ σ H K:=by
 have h1:HoQ H (.bool true) (b,B) F:=⟨hH⟩
 have h2:HoQ (F (true,.fz (.bool true) (.raw (.bool true)))) (.bool true) (true,.fz (.bool true) (.raw (.bool true))) F:=⟨hH.again⟩
 have tk:TkQ H [.bool true] [(b,B)] (F (true,.fz (.bool true) (.raw (.bool true)))):=inferInstance
 have sn:a5S [(b,B)] [B] b:=by cases b<;>exact⟨rfl,rfl⟩
 have wt:a5f b [B'] [(b,B')]:=inferInstance
 have pb:PbQ (F (true,.fz (.bool true) (.raw (.bool true)))) [.bool true] [(b,B')] (F (b,B')):=inferInstance
 exact k.hop hr hv tk sn wt pb hG hD hk
instance (priority:=high){σ:o7}{d:Option Nat}{ty:TypeId}{ps:String}{af:Array Edge}{g:Option (Nat×Bool)}{t:Nat}{name:String}{args:Array Operand}{tys:Array TypeId}{a:AV}[h:LkQ σ t a]:LkQ (P7 σ ⟨d,.call ⟨.invoke (.tmp t) name,args,tys⟩,ty,ps,af,g⟩) t a:=⟨a5G (by
 unfold J6
 exact List.mem_filterMap.2 ⟨.tmp t,by simp [Op.operands,Call.operands],rfl⟩) h.h⟩
section
variable {G:Gl}{P:Program}{l os:List Oper}{nm:Nat→Nm}{k:Nat}{σ σ':o7}{H H':j8}{T:List (Nm→R5)}{ts:List (Option (Nat×Nat))}{D D1 D2:List Prop}{d:Nat}{ty:TypeId}{ps:String}{af:Array Edge}{r:AV}{args:Array Operand}{tys:Array TypeId}{ag:List AV}{w:Value}{p:Nat}{b:Bool}{B B':C0}{F0:Bool×C0→j8}{recv:Operand}{name:String}{iv:IfV}
instance [hr:EvQ true (P7 σ ⟨some d,.call ⟨.invoke recv name,args,tys⟩,ty,ps,af,none⟩) recv (.v iv)][hv:AsQ true (P7 σ ⟨some d,.call ⟨.invoke recv name,args,tys⟩,ty,ps,af,none⟩) args.toList ag][wn:WiQ iv ag H [w]][po:PoQ H w p (b,B) F0][c:CaI G P name iv ag [B] D1 r [B']][q:ChQ G P l nm (k+1) os ((d,r)::σ) (F0 (b,B')) T ts σ' H' D2][cj:Cj D1 D2 D] :
    ChQ G P l nm k (⟨some d,.call ⟨.invoke recv name,args,tys⟩,ty,ps,af,none⟩::os) σ H ((fun _=>⟨some (p,1),r,(b,B')⟩)::T) (some (p,1)::ts) σ' H' D :=
  ⟨fun N C F hG hD hF=>⟨⟨(b,B),po.get,fun H' F' hh=>c.d2A (hr.h C H' rfl) (hv.h C H' rfl) hh hG.2 (cj.of hD).1 ⟨rfl,rfl⟩⟩,by
    show chU P C N l nm F (k+1) os T _ (H.set p (b,B'))
    rw [po.set];exact q.h N C F hG (cj.of hD).2 hF⟩,by rw [evT,List.map_cons,q.t]⟩
end
@[reducible] def d2B:Bool→Bool|true=>false|false=>true
instance {G:Gl}{P:Program}{c:Bool}{σ:o7}{H:j8}{d:Option Nat}{ty:TypeId}{ps:String}{af:Array Edge}{g:Option (Nat×Bool)}{x y:Operand}{T:TypeId}{n:Int}{β:Type}{s:u3 β}{i:Inhabited β}{k0 kz:Nat}{a:M1 k0 β}{E:TypeId}[u:UnI P T (.array k0 E)][t:TyI P E β s i][hx:T5 c σ x (M1 k0 β) inferInstance a][hf:ElI P T k0 kz false][hz:TrB (Nat.beq kz (u3.size β))][hb:TrB (d2B (u3.agg β))][hy:T5 c σ y Int inferInstance n] :
    OpD G P c ⟨d,.index T x y,ty,ps,af,g⟩ σ H [0≤n,n < (k0:Nat)] (.v (a.l.getD n.toNat default)):=⟨fun N C hG e h => .ix (Nat.eq_of_beq_eq_true hz.h▸hf.h) (by
  have:=hb.h
  cases hq:u3.agg β
  · rfl
  · rw [hq] at this;cases this) (hx.h C H e) (hy.h C H e) h.1 h.2.1 (by
  have h1:=h.1
  have h2:=h.2.1
  rw [List.getD_eq_getElem?_getD,List.getElem?_eq_getElem (by rw [a.h];omega)];rfl)⟩
end Go.Ab
namespace Go.Ab
open Go Go.Fl
theorem b6M {P:Program}{f:FuncId}{vs:Array Value}{I:Fl.Im}{L:Lh}{post:Value→Fl.Im→Lh→Prop}(Z:List (Nat×Obj))(h:a9t P f vs I L post):a9t P f vs I (L ++ [Z]) (fun v J L'=>Le I J∧∃ L0,L'=L0 ++ [Z]∧post v J L0):=by
 have e0:∀ L:Lh,(L ++ [Z]).flatten=L.flatten++Z:=fun L=>by simp
 refine⟨h.ok,fun w hm => ?_⟩
 have hl:=hm.loc
 have hs:=hm.sep
 have hn:=hm.nodup
 rw [e0] at hl hs hn
 rw [List.map_append,List.nodup_append] at hn
 refine(h.run w ⟨hm.im,fun p hp=>hl p (List.mem_append_left _ hp),fun p hp=>hs p (List.mem_append_left _ hp),hn.1⟩).mono ?_
 rintro e w' ⟨v,J,L',rfl,c1,c2,c3,c4,c5,c6⟩
 have hz:∀ p∈Z,p.1 < w.heap.size∧p.1∉L.flatten.map Prod.fst:=fun p hp=>⟨D6 (hl p (List.mem_append_right _ hp)),fun hq=>hn.2.2 _ hq _ (List.mem_map_of_mem hp) rfl⟩
 refine⟨v,J,L' ++ [Z],j0,c1.mono fun k hk _ => ?_,c2,c3,⟨c4.im,?_,?_,?_⟩,?_,c2,L',j0,c6⟩
 ·rw [e0,List.map_append];exact List.mem_append_left _ hk
 ·rw [e0];intro p hp
  rcases List.mem_append.1 hp with hp|hp
  ·exact c4.loc p hp
  ·exact(c1.block _ (hz p hp).1 (hz p hp).2).trans (hl p (List.mem_append_right _ hp))
 ·rw [e0];intro p hp
  rcases List.mem_append.1 hp with hp|hp
  ·exact c4.sep p hp
  ·have h1:=hs p (List.mem_append_right _ hp)
   cases hJ:J p.1 with
   | none=>rfl
   | some o =>
    have:=c3 p.1 h1 (by rw [hJ];simp)
    have:=(hz p hp).1
    omega
 ·rw [e0,List.map_append,List.nodup_append]
  refine⟨c4.nodup,hn.2.1,fun a ha b hb hab => ?_⟩
  subst hab
  obtain⟨p,hp,rfl⟩:=List.mem_map.1 ha
  obtain⟨q,hq,e⟩:=List.mem_map.1 hb
  have h1:=hz q hq
  rcases c5 p hp with h|h
  ·omega
  ·rw [←e] at h;exact h1.2 h
 ·rw [e0];intro p hp
  rw [e0,List.map_append]
  rcases List.mem_append.1 hp with hp|hp
  ·exact(c5 p hp).imp id fun h=>List.mem_append_left _ h
  ·exact .inr (List.mem_append_right _ (List.mem_map_of_mem hp))
theorem Q7.snoc {I:Fl.Im}{B:C0}:∀ {Hs:List C0} {L:Lh},Q7 I (Hs ++ [B]) L→∃ L0 Z,L=L0 ++ [Z]∧Q7 I Hs L0∧B.a0w I Z
 | [],L,h=>by
  obtain⟨X,R,rfl,h1,h2⟩:=h
  have h2:R = []:=h2
  subst h2
  exact⟨[],X,j0,j0,h1⟩
 | A::Hs,L,h=>by
  obtain⟨X,R,rfl,h1,h2⟩:=h
  obtain⟨L0,Z,rfl,h3,h4⟩:=h2.snoc
  exact⟨X::L0,Z,j0,⟨X,L0,j0,h1,h3⟩,h4⟩
theorem Q7.push {I:Fl.Im}{B:C0}{Z:List (Nat×Obj)}(hB:B.a0w I Z):∀ {Hs:List C0} {L:Lh},Q7 I Hs L→Q7 I (Hs ++ [B]) (L ++ [Z])
 | [],L,h=>by
  have h:L = []:=h
  subst h
  exact⟨Z,[],j0,hB,j0⟩
 | A::Hs,L,h=>by
  obtain⟨X,R,rfl,h1,h2⟩:=h
  exact⟨X,R ++ [Z],j0,h1,h2.push hB⟩
theorem C5.frame {G:Gl}{P:Program}{f:FuncId}{ag:List AV}{Bs:List C0}{post:AV→List C0→Prop}(B:C0)(h:C5 G P f ag Bs post):C5 G P f ag (Bs ++ [B]) (fun r Hs=>∃ Hs0,Hs=Hs0 ++ [B]∧post r Hs0):=fun I L vs hG hvs hL=>by
 obtain⟨L0,Z,rfl,h1,h2⟩:=hL.snoc
 have hM:=b6M Z (h I L0 vs hG hvs h1)
 refine⟨hM.ok,fun w hm=>(hM.run w hm).mono ?_⟩
 rintro e w' ⟨v,J,L',rfl,c1,c2,c3,c4,c5,c6,L1,rfl,r,Hs,c7,c8,c9⟩
 exact⟨v,J,_,j0,c1,c2,c3,c4,c5,r,Hs ++ [B],c7,c8.push (C0.mono c2 h2),Hs,j0,c9⟩
section
variable {P:Program}{C:Ctx}{N:Nat}{σ:o7}{H:j8}{Q:Exit→o7→j8→Prop}
theorem wpA.d0o {α:Type}{r:u3 α}(E:TypeId){c:Code}(k:wpA P C N c Q σ ((true,.P2 (.slice none 0 0) (GS.mk (α:=α) E []))::H)):wpA P C N c Q σ H:=fun ρ I L hs =>
 wpS.pad (k ρ I ([]::L) ⟨hs.env,⟨[],L,rfl,⟨.inl ⟨rfl,⟨none,rfl⟩,[],Sl.nil I _,rfl⟩,fun _ p hp=>by cases hp⟩,hs.heap⟩,hs.U1⟩)
theorem wpA.d2C (t:Nat){α β:Type}{r:u3 α}{s:u3 β}{w v:Value}{x:α}(y:β){a:AV}{b b2:Bool}{c:Code}{F F2:Bool×C0→j8}[lk:LkQ σ t (.ln w (j9.id (α:=α)))][hH:HoQ H w (b,.ob w x) F][hz:HoQ H v (b2,.fz v a) F2](h:∀ I cs,r.rep I x cs→G0 I a v→s.rep I y cs)
    (k:wpA P C N c Q ((t,.ln w (j9.id (α:=β)))::σ) (F (b,.ob w y))):wpA P C N c Q σ H :=
  .conv t (.ln w (j9.id (α:=β))) lk.h (fun n0 I L u _ hu=>by
    obtain⟨b',h1,h2⟩:=hu
    exact⟨b',h1,h2⟩) fun ρ I L hs=>by
  obtain⟨i,X,h2,h3,h4⟩:=hH.h.get hs.heap
  obtain⟨i2,X2,g2,g3,g4⟩:=hz.h.get hs.heap
  have hset:L.set i X=L:=by
    obtain⟨hi,e⟩:=List.getElem?_eq_some_iff.1 h2
    rw [←e,List.set_getElem_self]
  obtain⟨⟨bb,T,cs,e1,e2,e3⟩,h5⟩:=h3
  have:=h4 I (b,.ob w y) X (Le.refl I) ⟨⟨bb,T,cs,e1,e2,h I cs e3 g3.1.2⟩,h5⟩
  rw [hset] at this
  exact k ρ I L ⟨hs.env,this,hs.U1⟩
end
class PlR (id:Nat)(t:outParam Nat):Prop where h:True
class d0p {α:Type}(x:α)(v:outParam Value):Prop where h:True
class d0q {α γ:Type}(r:u3 α)(x:α)(v:Value)(q:u3 γ)(L:List γ)(β:outParam Type)(s:outParam (u3 β))(y:outParam β):Prop where h:∀ I cs,r.rep I x cs→G0 I (.v L) v→s.rep I y cs
instance (priority:=2000){mo:Nat}{G:Gl}{P:Program}{C:Ctx}{N n:Nat}{Q:Exit→o7→j8→Prop}{l:Array Oper}{bo:Bool}{σ:o7}{H:j8}{id t:Nat}{w v:Value}{Eb:List Bool}{A:Prop}{α β γ:Type}{r:u3 α}{s:u3 β}{q:u3 γ}{x:α}{y:β}{E:TypeId}{L:List γ}{b b0:Bool}{F F0 F2:Bool×C0→j8}
    [f:PlR id t][lk:LkQ σ t (.ln w (j9.id (α:=α)))][h0:HoQ H w (b0,.ob w x) F0][pv:d0p x v][hz:HoQ H v (true,.P2 v (GS.mk E L)) F2][hH:HoQ (F2 (true,.fz v (.v L))) w (b,.ob w x) F][h2:HoQ (F2 (true,.fz v (.v L))) v (true,.fz v (.v L)) F2][pn:d0q r x v q L β s y]
    [k:Rw mo G P C N n (.a (.region id l bo) Q) ((t,.ln w (j9.id (α:=β)))::σ) (F (b,.ob w y)) Eb A]:Rw mo G P C N n (.a (.region id l bo) Q) σ H Eb A:=⟨fun g e a => .c9h g.1 hz.h (.d2C t y (hH:=hH) (hz:=h2) pn.h (k.h g e a))⟩
instance (priority:=10){P:Program}{T:TypeId}{α β γ:Type}{r:u3 α}{s:u3 β}{q:u3 γ}{i:Nat}{w:Value}{l:j9 α β}{m:j9 β γ}{f:β→γ}[n:FdR P T i β s γ q m f]:FaQ P T i (.ln w l) (.ln w (l.comp m)):=by
 have:=n.h
 infer_instance
instance (priority:=low){G:Gl}{P:Program}{c:Bool}{σ:o7}{H:j8}{d:Option Nat}{ty:TypeId}{ps:String}{af:Array Edge}{g:Option (Nat×Bool)}{x:Operand}{T T2 E:TypeId}{α:Type}{r:u3 α}{L:List α}[u:UnI P T (.slice E)][hx:T5 c σ x (List α) inferInstance L] :
    OpD G P c ⟨d,.binOp .eql T x (.const (.slice none 0 0)) T2,ty,ps,af,g⟩ σ H [L ≠ []] (.v false):=⟨fun N C hG e h => .a9V u.h (hx.h C H e) fun b hb=>by
  cases b with
  | false=>rfl
  | true=>exact absurd (hb rfl) h.1⟩
class UsQ (H:j8)(v:outParam Value):Prop where h:True
instance (priority:=low){A:Bool×C0}{H:j8}{v:Value}[k:UsQ H v]:UsQ (A::H) v:=⟨trivial⟩
instance (priority:=high){g:Bool}{α:Type}{r:UB α}{x:α}{H:j8}{v:Value}:UsQ ((g,@C0.P2 α r v x)::H) v:=⟨trivial⟩
end Go.Ab
namespace Go.Ab
open Go Go.Fl
instance (priority:=high){mo:Nat}{G:Gl}{P:Program}{C:Ctx}{N n:Nat}{ops:List Oper}{Q:Exit→o7→j8→Prop}{l:List Oper}{σ:o7}{H:j8}{d t:Nat}{ps:String}{af:Array Edge}{S E ty:TypeId}{Eb:List Bool}{A:Prop}{α:Type}{r:u3 α}{w:Value}{L:List α}{F:Bool×C0→j8}
    [a:UnI P S (.slice E)][e8:UnI P E (.int .u8)][hx:LkQ σ t (.raw w)][hH:HoQ H w (true,.own E w L) F]
    [k:Rw mo G P C N n (.b ops Q l) ((d,.v L)::σ) (F (true,.fz w (.v L))) Eb A] :
    Rw mo G P C N (n+1) (.b ops Q (⟨some d,.convert S S (.tmp t),ty,ps,af,none⟩::l)) σ H Eb (L ≠ []∧A) :=
  ⟨fun g e h => .h (.same a.h e8.h hx.h hH.h h.1 (.Q4 g.1 hH.h.again fun ρ I LL hs=>k.h g e h.2 ρ I LL ⟨fun s b hb=>by
    rw [G8] at hb
    by_cases ee:d=s
    · subst ee;simp only [if_true] at hb;cases hb
      obtain⟨u,h1,h2⟩:=hs.env d (.raw w) (by rw [G8,if_pos rfl])
      have h2:u=w:=h2
      subst h2
      obtain⟨j,X,q1,q2,q3⟩:=(hH.h.again (B':=(true,.fz u (.v L)))).get hs.heap
      exact⟨u,h1,q2.1.2⟩
    · rw [if_neg ee] at hb
      exact hs.env s b (by rw [G8,if_neg ee];exact hb),hs.heap,hs.U1⟩))⟩
instance {c:Bool}{a:AV}:AsC c (.a7T c a) a:=⟨fun _ _ e h=>h.1 e⟩
class NgS (d:Nat):Prop where h:True
section
variable {G:Gl}{P:Program}{ops:List Oper}{σ:o7}{H:j8}{ps:String}{af:Array Edge}{ty:TypeId}
instance (priority:=20000){d:Nat}{op:Op}{j:Nat}{want b:Bool}{dj:Nat}{r:AV}{D D':List Prop}{p:Prop}[ng:NgS d][hj:EqS (a7X ops j) dj][hb:T5 true σ (.tmp dj) Bool inferInstance b][h:OpD G P (b == want) ⟨some d,op,ty,ps,af,none⟩ σ H D r][hg:GdQ b want p][hi:ImQ p D D'] :
    StD G P ops ⟨some d,op,ty,ps,af,some (j,want)⟩ σ H D' ((d,.a7T (b == want) r)::σ) H:=⟨fun N C Q rest hG hD k => .goU dj ((a4k ops j).symm.trans hj.h) (hb.h C H rfl) (fun e=>h.h N C hG (beq_iff_eq.2 e) (hi.h hD (hg.h e))) k⟩
instance (priority:=20000){d:Nat}{op:Op}{j:Nat}{want b c:Bool}{dj:Nat}{r:AV}{D D1 D':List Prop}{p q:Prop}[hj:EqS (a7X ops j) dj][hb:LkQ σ dj (.a7T c (.v b))][h:OpD G P (c&&(b == want)) ⟨some d,op,ty,ps,af,none⟩ σ H D r][hg:GdQ b want p][hc:GdQ c true q][hi:ImQ p D D1][hi2:ImQ q D1 D'] :
    StD G P ops ⟨some d,op,ty,ps,af,some (j,want)⟩ σ H D' ((d,.a7T (c&&(b == want)) r)::σ) H:=⟨fun N C Q rest hG hD k => .gn dj ((a4k ops j).symm.trans hj.h) hb.h (fun e1 e=>h.h N C hG (by rw [e1,beq_iff_eq.2 e];rfl) (hi.h (hi2.h hD (hc.h e1)) (hg.h e))) k⟩
variable {d:Option Nat}{g:Option (Nat×Bool)}{x y:Operand}{c bo:Bool}
instance (priority:=low){v:Bool}[h:T5 c σ x Bool inferInstance bo][k:T5 (c&&(bo == true)) σ y Bool inferInstance v]:OpQ G P c ⟨d,.pick x y (.const (.bool false)),ty,ps,af,g⟩ σ H (.v (bo&&v)):=⟨fun N C hG e => .a2C (h.h C H e) (fun e2=>k.h C H (by rw [e,beq_iff_eq.2 e2];rfl)) rfl⟩
end
end Go.Ab
namespace Go.Proofs.YtfdifhfnpbphaaaGreatDoor
open Go.Proofs.Tryz
open Go.Fl Go.Ab Go.Mac Go.Sha
instance (w:Value)(r:PRd):CaM gl prog 309 [pr w] (.ob w r) [a6y r] (.v (J0 r).1) (.ob w (J0 r).2):=⟨fun hh=>c5m w r hh.1⟩
instance (w:Value)(r:PRd):CaM gl prog 310 [pr w] (.ob w r) [a6y r] (.v (a0K r).1) (.ob w (a0K r).2):=⟨fun hh=>c2K w r hh.1⟩
instance (w:Value)(r:PRd):CaM gl prog 311 [pr w] (.ob w r) [a6y r] (.v (a1a r).1) (.ob w (a1a r).2):=⟨fun hh=>c2L w r hh.1⟩
instance (p:Pred):Q5 gl prog 259 [.v p] [] (.v (I9 p)):=⟨fun hh=>a5q p⟩
set_option maxHeartbeats 4000000 in
theorem predDec3_c (b:List UInt8)(hb:b.length≤1000000):C3 gl prog 307 [.v b] (fun r=>r = .t3 (.v (a0C b).1) (.v (a0C b).2.1) (.v (a0C b).2.2)):=by
 refine .go func307 j0 71 [.cell 2 131,.tmp 3,.tmp 4] j0 (by kernel_rfl) fun C hG => ?_
 have ok0:a6y ⟨b,0,0⟩:=⟨Int.le_refl _,Int.natCast_nonneg _,hb⟩
 have ok1:=a7l ok0
 have ok2:=a7l ok1
 refine .z hG (by kernel_rfl) fun _ _=>⟨ok0,fun _ => ?_⟩
 simp only [show(default:PRd).used=0 from rfl,show(default:PRd).e=0 from rfl,show(default:Pred).Mask=0 from rfl,show(default:Pred).a0T=0 from rfl,show(default:Pred).To=0 from rfl,show(default:Pred).Name=⟨[]⟩ from rfl,show(default:Pred).Number=0 from rfl]
 repeat' (first|with_reducible exact ok1|with_reducible exact ok2|refine wpA.z hG (by kernel_rfl) ?_|refine And.intro ?_ ?_|(intro h;try dsimp only at h))
 all_goals (try dsimp only)
 all_goals first|(exfalso;omega)|(rw [c7G (by assumption)];done)|(rw [c7H (by assumption) (by omega)];done)|(rw [b2P (by assumption) (by omega) (b6I (by omega)) (by assumption)];done)|(rw [b2P (by assumption) (by omega) (b6J (by omega)) (by assumption)];done)|(rw [b2P (by assumption) (by omega) (b6K (by omega)) (by assumption)];done)|(rw [b2P (by assumption) (by omega) (b6L (by omega)) (by assumption)];done)|skip
 all_goals rename_i h
 all_goals first|(rw [b2Q (by assumption) (by omega) (b6I (by omega)) (by assumption) (by simpa using h)];done)|(rw [b2Q (by assumption) (by omega) (b6J (by omega)) (by assumption) (by simpa using h)];done)|(rw [b2Q (by assumption) (by omega) (b6K (by omega)) (by assumption) (by simpa using h)];done)|(rw [b2Q (by assumption) (by omega) (b6L (by omega)) (by assumption) (by simpa using h)];done)|(rw [b2R (by assumption) (by omega) (b6I (by omega)) (by assumption) (by simpa using h)];done)|(rw [b2R (by assumption) (by omega) (b6J (by omega)) (by assumption) (by simpa using h)];done)|(rw [b2R (by assumption) (by omega) (b6K (by omega)) (by assumption) (by simpa using h)];done)|(rw [b2R (by assumption) (by omega) (b6L (by omega)) (by assumption) (by simpa using h)];done)
open Go.Fl Go.Ab Go.Mac
instance:Exa C6:=⟨fun x=>Exa.ex (C6.f x),fun x=>Exa.ok (C6.f x),Exa.h1 (α:=PtV×Int×Int×Unit),Exa.h2 (α:=PtV×Int×Int×Unit)⟩
instance:Exa J9:=⟨fun x=>Exa.ex (J9.f x),fun x=>Exa.ok (J9.f x),Exa.h1 (α:=PtV×Unit),Exa.h2 (α:=PtV×Unit)⟩
instance:Exa K0:=⟨fun x=>Exa.ex (K0.f x),fun x=>Exa.ok (K0.f x),Exa.h1 (α:=PtV×Unit),Exa.h2 (α:=PtV×Unit)⟩
instance:Exa E8:=⟨fun x=>Exa.ex (E8.f x),fun x=>Exa.ok (E8.f x),Exa.h1 (α:=PtV×Unit),Exa.h2 (α:=PtV×Unit)⟩
section
variable {α:Type}[r:u3 α](b:Nat)(x:α)
theorem b6N (l:j9 α Int)(lo hi:Int):C5 gl prog 285 [.v (C6.mk (PtV.at b l.off) lo hi)] [.ob (ptr b 0) x] (fun y Hs=>y = .v (if l.get x < lo∨hi < l.get x then (1:Int) else 0)∧Hs = [.ob (ptr b 0) x]):=by
 have il:P3 l l.get l.set:=⟨fun _=>rfl,fun _ _=>rfl⟩
 refine .go func285 j0 19 [.tmp 2] j0 (by kernel_rfl) fun C hG=>(.z hG (by kernel_rfl) fun b1=>⟨fun h => ?_,fun h => ?_⟩)
 ·rw [if_pos h];exact P5.of [ptr b 0] ⟨rfl,rfl⟩
 ·rw [if_neg h];exact P5.of [ptr b 0] ⟨rfl,rfl⟩
theorem b6O (l:j9 α Int)(lo hi:Int):C5 gl prog 286 [.v (C6.mk (PtV.at b l.off) lo hi)] [.ob (ptr b 0) x] (fun y Hs=>y = .raw (.tuple #[])∧Hs = [.ob (ptr b 0) (l.set 0 x)]):=by
 have il:P3 l l.get l.set:=⟨fun _=>rfl,fun _ _=>rfl⟩
 refine .go func286 j0 5 [] j0 (by kernel_rfl) fun C hG => ?_
 exact .z hG (by kernel_rfl) fun b1=>P5.of [ptr b 0] ⟨j0,j0⟩
theorem b6P (l:j9 α Tag):C5 gl prog 290 [.v (J9.mk (PtV.at b l.off))] [.ob (ptr b 0) x] (fun y Hs=>y = .raw (.tuple #[])∧Hs = [.ob (ptr b 0) (l.set default x)]):=by
 have il:P3 l l.get l.set:=⟨fun _=>rfl,fun _ _=>rfl⟩
 refine .go func290 j0 6 [] j0 (by kernel_rfl) fun C hG => ?_
 exact .z hG (by kernel_rfl) fun b1=>P5.of [ptr b 0] ⟨j0,j0⟩
theorem b6Q (l:j9 α (List UInt8)):C5 gl prog 313 [.v (K0.mk (PtV.at b l.off))] [.ob (ptr b 0) x] (fun y Hs=>y = .raw (.tuple #[])∧Hs = [.ob (ptr b 0) (l.set [] x)]):=by
 have il:P3 l l.get l.set:=⟨fun _=>rfl,fun _ _=>rfl⟩
 refine .go func313 j0 5 [] j0 (by kernel_rfl) fun C hG => ?_
 exact .z hG (by kernel_rfl) fun b1=>P5.of [ptr b 0] ⟨j0,j0⟩
theorem b6R (l:j9 α (List Cav)):C5 gl prog 295 [.v (E8.mk (PtV.at b l.off))] [.ob (ptr b 0) x] (fun y Hs=>y = .raw (.tuple #[])∧Hs = [.ob (ptr b 0) (l.set [] x)]):=by
 have il:P3 l l.get l.set:=⟨fun _=>rfl,fun _ _=>rfl⟩
 refine .go func295 j0 5 [] j0 (by kernel_rfl) fun C hG => ?_
 exact .z hG (by kernel_rfl) fun b1=>P5.of [ptr b 0] ⟨j0,j0⟩
theorem b6S (l:j9 α Tag):C5 gl prog 289 [.v (J9.mk (PtV.at b l.off))] [.ob (ptr b 0) x] (fun y Hs=>y = .v (0:Int)∧Hs = [.ob (ptr b 0) x]):=by
 refine .go func289 j0 3 [.tmp 2] j0 (by kernel_rfl) fun C hG => ?_
 exact .z hG (by kernel_rfl) fun b1=>P5.of [ptr b 0] ⟨j0,j0⟩
theorem b4G (l:j9 α (List UInt8)):C5 gl prog 312 [.v (K0.mk (PtV.at b l.off))] [.ob (ptr b 0) x] (fun y Hs=>y = .v (if 1024 < (l.get x).length then (2:Int) else 0)∧Hs = [.ob (ptr b 0) x]):=by
 have il:P3 l l.get l.set:=⟨fun _=>rfl,fun _ _=>rfl⟩
 refine .go func312 j0 9 [.tmp 2] j0 (by kernel_rfl) fun C hG=>(.z hG (by kernel_rfl) fun b1=>⟨fun h => ?_,fun h => ?_⟩)
 ·rw [if_pos (by omega)];exact P5.of [ptr b 0] ⟨rfl,rfl⟩
 ·rw [if_neg (by omega)];exact P5.of [ptr b 0] ⟨rfl,rfl⟩
theorem b4H (c:Cav):C3 gl prog 299 [.v c] (fun y=>y = .v (!S3 c)):=by
 have i_cavValid_c:∀ (c:Cav),Q5 gl prog 248 [.v c] [] (.v (S3 c)):=fun c=>⟨fun hh=>a6w c⟩
 refine .go func299 j0 6 [.tmp 2] j0 (by kernel_rfl) fun C hG => ?_
 exact .z hG (by kernel_rfl) fun b1=>j0
theorem b6T (l:j9 α (List Cav)):C5 gl prog 294 [.v (E8.mk (PtV.at b l.off))] [.ob (ptr b 0) x] (fun y Hs=>y = .v (if 64 < (l.get x).length then (2:Int) else if (l.get x).all S3 then 0 else 5)∧Hs = [.ob (ptr b 0) x]):=by
 have il:P3 l l.get l.set:=⟨fun _=>rfl,fun _ _=>rfl⟩
 have i_contCa_c:∀ (l:List u9) (p:u9→Bool),Q5 gl prog 298 [.v l,.a6V prog p] [] (.v (l.any p)):=fun l p=>⟨fun hh=>c2r l p⟩
 have i1:Cl1 gl prog 299 [] _ inferInstance _ inferInstance (fun c => !S3 c):=⟨b4H⟩
 have e:(l.get x).any (fun c => !S3 c) = !(l.get x).all S3:=by rw [List.not_all_eq_any_not]
 refine .go func294 j0 14 [.tmp 2] j0 (by kernel_rfl) fun C hG=>(.z hG (by kernel_rfl) fun b1=>⟨fun h => ?_,fun h=>⟨fun h2 => ?_,fun h2 => ?_⟩⟩)
 ·rw [if_pos (by omega)];exact P5.of [ptr b 0] ⟨rfl,rfl⟩
 ·rw [e] at h2;rw [if_neg (by omega),if_neg (by simpa using h2)];exact P5.of [ptr b 0] ⟨rfl,rfl⟩
 ·rw [e] at h2;rw [if_neg (by omega),if_pos (by simpa using h2)];exact P5.of [ptr b 0] ⟨rfl,rfl⟩
end
abbrev SRd:=E6
def O3 (r:SRd):Int×SRd:=if r.e≠0 then (0,r) else ((I7 r.b).1,⟨r.b.drop (I7 r.b).2.1.toNat,(I7 r.b).2.2⟩)
theorem c2M (w:Nat)(r:SRd)(u e:Int)(h0:0≤u∧u≤r.b.length):C5 gl prog 206 [.ln (ptr w 0) (j9.id (α:=SRd)),.v u,.v e] [.ob (ptr w 0) r] (fun y Hs=>y = .raw (.tuple #[])∧Hs = [.ob (ptr w 0) (E6.mk (r.b.drop u.toNat) e)]):=by
 have e1:r.b.take ((r.b.length:Int)).toNat=r.b:=by simp
 refine .go func206 rfl 19 [] rfl (by kernel_rfl) fun C hG=>(.z hG (by kernel_rfl) ⟨h0.1,h0.2,by omega,?_⟩)
 rw [e1];exact P5.of [ptr w 0] ⟨rfl,rfl⟩
instance (w:Nat)(r:SRd)(u:Int)(e:Int):CaM gl prog 206 [.ln (ptr w 0) (j9.id (α:=SRd)),.v u,.v e] (.ob (ptr w 0) r) [0≤u∧u≤r.b.length] (.raw (.tuple #[])) (.ob (ptr w 0) (E6.mk (r.b.drop u.toNat) e)):=⟨fun hh=>c2M w r u e hh.1⟩
instance (b:List UInt8):Q5 gl prog 205 [.v b] [] (.t3 (.v (I7 b).1) (.v (I7 b).2.1) (.v (I7 b).2.2)):=⟨fun hh=>b2O b⟩
instance (b:List UInt8):Q5 gl prog 308 [.v b] [b.length≤1000000] (.t3 (.v (Q1 b).1) (.v (Q1 b).2.1) (.v (Q1 b).2.2)):=⟨fun hh=>b8v b hh.1⟩
theorem c5n (w:Nat)(r:SRd):C5 gl prog 153 [.ln (ptr w 0) (j9.id (α:=SRd))] [.ob (ptr w 0) r] (fun y Hs=>y = .v (O3 r).1∧Hs = [.ob (ptr w 0) (O3 r).2]):=by
 refine .go func153 j0 25 [.tmp 2] j0 (by kernel_rfl) fun C hG=>(.z hG (by kernel_rfl) ⟨fun h => ?_,fun h=>⟨a09 _,?_⟩⟩)
 ·unfold O3;rw [if_pos h];exact P5.of [ptr w 0] ⟨rfl,rfl⟩
 ·unfold O3;rw [if_neg h];exact P5.of [ptr w 0] ⟨rfl,rfl⟩
def Y8 (r:SRd):List UInt8×SRd:=if r.e≠0 then ([],r) else ((Q1 r.b).1,⟨r.b.drop (Q1 r.b).2.1.toNat,(Q1 r.b).2.2⟩)
theorem b9I (w:Nat)(r:SRd)(hb:r.b.length≤1000000):C5 gl prog 316 [.ln (ptr w 0) (j9.id (α:=SRd))] [.ob (ptr w 0) r] (fun y Hs=>y = .v (Y8 r).1∧Hs = [.ob (ptr w 0) (Y8 r).2]):=by
 refine .go func316 j0 25 [.tmp 2] j0 (by kernel_rfl) fun C hG=>(.z hG (by kernel_rfl) ⟨fun h => ?_,fun h=>⟨hb,a3r _,?_⟩⟩)
 ·unfold Y8;rw [if_pos h];exact P5.of [ptr w 0] ⟨rfl,rfl⟩
 ·unfold Y8;rw [if_neg h];exact P5.of [ptr w 0] ⟨rfl,rfl⟩
instance (w:Nat)(r:SRd):CaM gl prog 153 [.ln (ptr w 0) (j9.id (α:=SRd))] (.ob (ptr w 0) r) [] (.v (O3 r).1) (.ob (ptr w 0) (O3 r).2):=⟨fun hh=>c5n w r⟩
instance (w:Nat)(r:SRd):CaM gl prog 316 [.ln (ptr w 0) (j9.id (α:=SRd))] (.ob (ptr w 0) r) [r.b.length≤1000000] (.v (Y8 r).1) (.ob (ptr w 0) (Y8 r).2):=⟨fun hh=>b9I w r hh.1⟩
def R7 (r:SRd):Int×SRd :=
 if (O3 r).2.e≠0 then (0,(O3 r).2) else if 64 < (O3 r).1 then (0,⟨(O3 r).2.b,2⟩) else O3 r
theorem b9J (w:Nat)(r:SRd):C5 gl prog 284 [.ln (ptr w 0) (j9.id (α:=SRd))] [.ob (ptr w 0) r] (fun y Hs=>y = .v (R7 r).1∧Hs = [.ob (ptr w 0) (R7 r).2]):=by
 refine .go func284 j0 24 [.tmp 2] j0 (by kernel_rfl) fun C hG=>(.z hG (by kernel_rfl) ⟨fun h => .z hG (by kernel_rfl) ⟨fun h2 => ?_,fun h2 => ?_⟩,fun h => .z hG (by kernel_rfl) ⟨fun h2 => ?_,fun h2 => ?_⟩⟩)
 ·unfold R7;rw [if_neg (by omega),if_pos h.2];exact P5.of [ptr w 0] ⟨rfl,rfl⟩
 ·exact absurd (show(2:Int)≠0 by decide) h2
 ·unfold R7;rw [if_pos h2];exact P5.of [ptr w 0] ⟨rfl,rfl⟩
 ·unfold R7;rw [if_neg h2,if_neg (by omega)];exact P5.of [ptr w 0] ⟨rfl,rfl⟩
def a2y (r:SRd):Tag×SRd :=
 if r.e≠0 then (default,r) else if r.b.length < 32 then (default,⟨r.b,3⟩) else (a0y default r.b,⟨r.b.drop 32,0⟩)
theorem c5o (w:Nat)(r:SRd)(hb:r.b.length≤9223372036854775807):C5 gl prog 293 [.ln (ptr w 0) (j9.id (α:=SRd))] [.ob (ptr w 0) r] (fun y Hs=>y = .v (a2y r).1∧Hs = [.ob (ptr w 0) (a2y r).2]):=by
 refine .go func293 rfl 34 [.cell 2 28] rfl (by kernel_rfl) fun C hG=>(.z hG (by kernel_rfl) fun b2 b3=>⟨fun h => .z hG (by kernel_rfl) ⟨fun h2=>absurd h2 (show ¬(3:Int)=0 by decide),fun h2 => .z hG (by kernel_rfl) ?_⟩,fun h => .z hG (by kernel_rfl) ⟨fun h2 => .z hG (by kernel_rfl) ?_,fun h2 => .z hG (by kernel_rfl) ?_⟩⟩)
 ·unfold a2y;rw [if_neg (by omega),if_pos (by omega)];exact P5.of [ptr w 0] ⟨rfl,rfl⟩
 ·refine⟨hb,⟨by omega,by omega⟩,?_⟩
  unfold a2y;rw [if_neg (by omega),if_neg (by omega)];exact P5.of [ptr w 0] ⟨rfl,rfl⟩
 ·unfold a2y;rw [if_pos h2];exact P5.of [ptr w 0] ⟨rfl,rfl⟩
instance (w:Nat)(r:SRd):CaM gl prog 284 [.ln (ptr w 0) (j9.id (α:=SRd))] (.ob (ptr w 0) r) [] (.v (R7 r).1) (.ob (ptr w 0) (R7 r).2):=⟨fun hh=>b9J w r⟩
instance (w:Nat)(r:SRd):CaM gl prog 293 [.ln (ptr w 0) (j9.id (α:=SRd))] (.ob (ptr w 0) r) [r.b.length≤9223372036854775807] (.v (a2y r).1) (.ob (ptr w 0) (a2y r).2):=⟨fun hh=>c5o w r hh.1⟩
section
variable {α:Type}[r:u3 α](b w:Nat)(x:α)(rd:SRd)
theorem b9K (l:j9 α Int)(lo hi:Int):C5 gl prog 287 [.v (C6.mk (PtV.at b l.off) lo hi),.ln (ptr w 0) (j9.id (α:=SRd))] [.ob (ptr b 0) x,.ob (ptr w 0) rd] (fun y Hs=>y = .raw (.tuple #[])∧Hs = [.ob (ptr b 0) (l.set (O3 rd).1 x),.ob (ptr w 0) (O3 rd).2]):=by
 have il:P3 l l.get l.set:=⟨fun _=>rfl,fun _ _=>rfl⟩
 refine .go func287 j0 9 [] j0 (by kernel_rfl) fun C hG => ?_
 exact .z hG (by kernel_rfl) fun b1=>P5.of [ptr b 0,ptr w 0] ⟨j0,j0⟩
theorem b9L (l:j9 α (List UInt8))(hb:rd.b.length≤1000000):C5 gl prog 314 [.v (K0.mk (PtV.at b l.off)),.ln (ptr w 0) (j9.id (α:=SRd))] [.ob (ptr b 0) x,.ob (ptr w 0) rd] (fun y Hs=>y = .raw (.tuple #[])∧Hs = [.ob (ptr b 0) (l.set (Y8 rd).1 x),.ob (ptr w 0) (Y8 rd).2]):=by
 have il:P3 l l.get l.set:=⟨fun _=>rfl,fun _ _=>rfl⟩
 refine .go func314 j0 9 [] j0 (by kernel_rfl) fun C hG => ?_
 exact .z hG (by kernel_rfl) fun b1=>⟨hb,P5.of [ptr b 0,ptr w 0] ⟨j0,j0⟩⟩
theorem b9M (l:j9 α Tag)(hb:rd.b.length≤1000000):C5 gl prog 291 [.v (J9.mk (PtV.at b l.off)),.ln (ptr w 0) (j9.id (α:=SRd))] [.ob (ptr b 0) x,.ob (ptr w 0) rd] (fun y Hs=>y = .raw (.tuple #[])∧Hs = [.ob (ptr b 0) (l.set (a2y rd).1 x),.ob (ptr w 0) (a2y rd).2]):=by
 have il:P3 l l.get l.set:=⟨fun _=>rfl,fun _ _=>rfl⟩
 refine .go func291 j0 9 [] j0 (by kernel_rfl) fun C hG => ?_
 exact .z hG (by kernel_rfl) fun b1=>⟨by omega,P5.of [ptr b 0,ptr w 0] ⟨rfl,rfl⟩⟩
end
abbrev CRd:=F1
structure a2K (r:CRd):Prop where
 u0:0≤r.source.used
 u1:r.source.used≤r.source.b.length
 b:r.source.b.length≤1000000
def a1Y (r:CRd):List UInt8:=r.source.b.drop r.source.used.toNat
theorem a2K.len {r:CRd}(h:a2K r):(a1Y r).length=r.source.b.length - r.source.used.toNat:=by unfold a1Y;simp
theorem c2N (w:Nat)(r:CRd)(h:a2K r):C5 gl prog 306 [.ln (ptr w 0) F1.l0] [.ob (ptr w 0) r] (fun y Hs=>y = .v (a1Y r)∧Hs = [.ob (ptr w 0) r]):=by
 have e1:r.source.b.take ((r.source.b.length:Int)).toNat=r.source.b:=by simp
 refine .go func306 rfl 12 [.tmp 2] rfl (by kernel_rfl) fun C hG=>(.z hG (by kernel_rfl) ⟨h.u0,h.u1,by omega,?_⟩)
 rw [e1];exact P5.of [ptr w 0] ⟨rfl,rfl⟩
instance (w:Nat)(r:CRd):CaM gl prog 306 [.ln (ptr w 0) F1.l0] (.ob (ptr w 0) r) [a2K r] (.v (a1Y r)) (.ob (ptr w 0) r):=⟨fun hh=>c2N w r hh.1⟩
def a5t (r:CRd)(u e:Int):CRd:=⟨⟨r.source.b,r.source.used+u⟩,e⟩
theorem a2K.c7I {r:CRd}(h:a2K r){u e:Int}(k:0≤u∧u≤(a1Y r).length):a2K (a5t r u e):=by
 have h1:=h.len
 have h2:=h.u0
 have h3:=h.u1
 refine⟨?_,?_,h.b⟩<;>unfold a5t<;>dsimp only<;>omega
def M6 (r:CRd):Int×CRd:=if r.e≠0 then (0,r) else ((I7 (a1Y r)).1,a5t r (I7 (a1Y r)).2.1 (I7 (a1Y r)).2.2)
theorem c5p (w:Nat)(r:CRd)(h:a2K r):C5 gl prog 303 [.ln (ptr w 0) (j9.id (α:=CRd))] [.ob (ptr w 0) r] (fun y Hs=>y = .v (M6 r).1∧Hs = [.ob (ptr w 0) (M6 r).2]):=by
 have h1:=h.len
 have h2:=h.u0
 have h3:=h.u1
 have h4:=h.b
 have h5:=a09 (a1Y r)
 refine .go func303 j0 36 [.tmp 2] j0 (by kernel_rfl) fun C hG=>(.z hG (by kernel_rfl) ⟨fun h6 => ?_,fun h6=>⟨h,?_⟩⟩)
 ·unfold M6;rw [if_pos h6];exact P5.of [ptr w 0] ⟨rfl,rfl⟩
 ·unfold M6;rw [if_neg h6];exact⟨by omega,by omega,P5.of [ptr w 0] ⟨rfl,rfl⟩⟩
def R8 (r:CRd):List UInt8×CRd:=if r.e≠0 then ([],r) else ((Q1 (a1Y r)).1,a5t r (Q1 (a1Y r)).2.1 (Q1 (a1Y r)).2.2)
theorem b9N (w:Nat)(r:CRd)(h:a2K r):C5 gl prog 305 [.ln (ptr w 0) (j9.id (α:=CRd))] [.ob (ptr w 0) r] (fun y Hs=>y = .v (R8 r).1∧Hs = [.ob (ptr w 0) (R8 r).2]):=by
 have h1:=h.len
 have h2:=h.u0
 have h3:=h.u1
 have h4:=h.b
 have h5:=a3r (a1Y r)
 refine .go func305 rfl 36 [.tmp 2] rfl (by kernel_rfl) fun C hG=>(.z hG (by kernel_rfl) ⟨fun h6 => ?_,fun h6=>⟨h,by omega,?_⟩⟩)
 ·unfold R8;rw [if_pos h6];exact P5.of [ptr w 0] ⟨rfl,rfl⟩
 ·unfold R8;rw [if_neg h6];exact⟨by omega,by omega,P5.of [ptr w 0] ⟨rfl,rfl⟩⟩
theorem a2K.num {r:CRd}(h:a2K r):a2K (M6 r).2:=by
 unfold M6;split
 ·exact h
 ·exact h.c7I (a09 _)
theorem a2K.field {r:CRd}(h:a2K r):a2K (R8 r).2:=by
 unfold R8;split
 ·exact h
 ·exact h.c7I (a3r _)
instance (b:List UInt8):Q5 gl prog 307 [.v b] [b.length≤1000000] (.t3 (.v (a0C b).1) (.v (a0C b).2.1) (.v (a0C b).2.2)):=⟨fun hh=>predDec3_c b hh.1⟩
instance (w:Nat)(r:CRd):CaM gl prog 303 [.ln (ptr w 0) (j9.id (α:=CRd))] (.ob (ptr w 0) r) [a2K r] (.v (M6 r).1) (.ob (ptr w 0) (M6 r).2):=⟨fun hh=>c5p w r hh.1⟩
instance (w:Nat)(r:CRd):CaM gl prog 305 [.ln (ptr w 0) (j9.id (α:=CRd))] (.ob (ptr w 0) r) [a2K r] (.v (R8 r).1) (.ob (ptr w 0) (R8 r).2):=⟨fun hh=>b9N w r hh.1⟩
instance (c:Cav):Q5 gl prog 248 [.v c] [] (.v (S3 c)):=⟨fun hh=>a6w c⟩
def a3I (r:CRd):Pred×CRd:=((a0C (a1Y r)).1,a5t r (a0C (a1Y r)).2.1 (a0C (a1Y r)).2.2)
theorem c2O (w:Nat)(r:CRd)(h:a2K r)(h5:0≤(a0C (a1Y r)).2.1∧(a0C (a1Y r)).2.1≤(a1Y r).length):C5 gl prog 304 [.ln (ptr w 0) (j9.id (α:=CRd))] [.ob (ptr w 0) r] (fun y Hs=>y = .v (a3I r).1∧Hs = [.ob (ptr w 0) (a3I r).2]):=by
 have h1:=h.len
 have h2:=h.u0
 have h3:=h.u1
 have h4:=h.b
 refine .go func304 j0 31 [.cell 2 131] j0 (by kernel_rfl) fun C hG => ?_
 exact .z hG (by kernel_rfl) fun b2=>⟨h,by omega,fun b3=>⟨by omega,by omega,P5.of [ptr w 0] ⟨rfl,rfl⟩⟩⟩
instance (w:Nat)(r:CRd):CaM gl prog 304 [.ln (ptr w 0) (j9.id (α:=CRd))] (.ob (ptr w 0) r) [a2K r,0≤(a0C (a1Y r)).2.1∧(a0C (a1Y r)).2.1≤(a1Y r).length] (.v (a3I r).1) (.ob (ptr w 0) (a3I r).2):=⟨fun hh=>c2O w r hh.1 hh.2.1⟩
def W2 (b:List UInt8):Cav×CRd :=
 if (M6 ⟨⟨b,0⟩,0⟩).2.e≠0 then (default,(M6 ⟨⟨b,0⟩,0⟩).2)
 else if (M6 ⟨⟨b,0⟩,0⟩).1=1 then ({ (default:Cav) with V9:=(a3I (M6 ⟨⟨b,0⟩,0⟩).2).1 },(a3I (M6 ⟨⟨b,0⟩,0⟩).2).2)
 else if (M6 ⟨⟨b,0⟩,0⟩).1=2 then ({ (default:Cav) with Z9:=true,T8:=(M6 (M6 ⟨⟨b,0⟩,0⟩).2).1,L5:=(R8 (M6 (M6 ⟨⟨b,0⟩,0⟩).2).2).1,O6:=(R8 (R8 (M6 (M6 ⟨⟨b,0⟩,0⟩).2).2).2).1 },(R8 (R8 (M6 (M6 ⟨⟨b,0⟩,0⟩).2).2).2).2)
 else (default,{ (M6 ⟨⟨b,0⟩,0⟩).2 with e:=6 })
section
variable {b:List UInt8}
theorem b9O (h:(M6 ⟨⟨b,0⟩,0⟩).2.e≠0):W2 b=(default,(M6 ⟨⟨b,0⟩,0⟩).2):=by unfold W2;rw [if_pos h]
theorem b1L (h:¬(M6 ⟨⟨b,0⟩,0⟩).2.e≠0)(h2:(M6 ⟨⟨b,0⟩,0⟩).1=1):W2 b=({ (default:Cav) with V9:=(a3I (M6 ⟨⟨b,0⟩,0⟩).2).1 },(a3I (M6 ⟨⟨b,0⟩,0⟩).2).2):=by unfold W2;rw [if_neg h,if_pos h2]
theorem b1M (h:¬(M6 ⟨⟨b,0⟩,0⟩).2.e≠0)(h2:¬(M6 ⟨⟨b,0⟩,0⟩).1=1)(h3:(M6 ⟨⟨b,0⟩,0⟩).1=2):W2 b=({ (default:Cav) with Z9:=true,T8:=(M6 (M6 ⟨⟨b,0⟩,0⟩).2).1,L5:=(R8 (M6 (M6 ⟨⟨b,0⟩,0⟩).2).2).1,O6:=(R8 (R8 (M6 (M6 ⟨⟨b,0⟩,0⟩).2).2).2).1 },(R8 (R8 (M6 (M6 ⟨⟨b,0⟩,0⟩).2).2).2).2):=by unfold W2;rw [if_neg h,if_neg h2,if_pos h3]
theorem b9P (h:¬(M6 ⟨⟨b,0⟩,0⟩).2.e≠0)(h2:¬(M6 ⟨⟨b,0⟩,0⟩).1=1)(h3:¬(M6 ⟨⟨b,0⟩,0⟩).1=2):W2 b=(default,{ (M6 ⟨⟨b,0⟩,0⟩).2 with e:=6 }):=by unfold W2;rw [if_neg h,if_neg h2,if_neg h3]
end
def a2L (q:Cav×CRd):Cav×Int×Int :=
 if q.2.e≠0 then (default,0,q.2.e) else if S3 q.1 then (q.1,q.2.source.used,0) else (default,0,5)
def Y0 (b:List UInt8):Cav×Int×Int:=a2L (W2 b)
theorem c2P (b:List UInt8)(hb:b.length≤1000000):C3 gl prog 302 [.v b] (fun r=>r = .t3 (.v (Y0 b).1) (.v (Y0 b).2.1) (.v (Y0 b).2.2)):=by
 refine .go func302 j0 71 [.cell 2 147,.tmp 3,.tmp 4] j0 (by kernel_rfl) fun C hG => ?_
 have h0:a2K ⟨⟨b,0⟩,0⟩:=⟨Int.le_refl 0,by simp,hb⟩
 have f5:∀ c r,W2 b=(c,r)→(r.e=0∧¬S3 c=true)→Y0 b=(default,0,5):=fun c r hq h=>by unfold Y0 a2L;rw [hq];dsimp only;rw [if_neg (by omega),if_neg h.2]
 have fe:∀ c r,W2 b=(c,r)→r.e≠0→Y0 b=(default,0,r.e):=fun c r hq h=>by unfold Y0 a2L;rw [hq];dsimp only;rw [if_pos h]
 have f0:∀ c r,W2 b=(c,r)→¬(r.e=0∧¬S3 c=true)→¬r.e≠0→Y0 b=(c,r.source.used,0):=fun c r hq h h2=>by unfold Y0 a2L;rw [hq];dsimp only;rw [if_neg h2,if_pos (Classical.byContradiction fun h3=>h ⟨Classical.not_not.1 h2,h3⟩)]
 have k1:a2K (M6 ⟨⟨b,0⟩,0⟩).2:=h0.num
 have k2:=k1.num
 have k3:=k2.field
 have k4:=b1K (b:=a1Y (M6 ⟨⟨b,0⟩,0⟩).2) (by rw [k1.len];have:=k1.b;omega)
 refine .z hG (by kernel_rfl) fun b2 b5 b6=>⟨h0,fun h1 => .z hG (by kernel_rfl) ?_,fun h1 => .z hG (by kernel_rfl) ⟨fun h2 => .z hG (by kernel_rfl) ⟨k1,k4,?_⟩,fun h2 => .z hG (by kernel_rfl) ⟨fun h3 => .z hG (by kernel_rfl) ⟨k1,k2,k3,?_⟩,fun h3 => .z hG (by kernel_rfl) ?_⟩⟩⟩
 ·have hq:=b9O h1
  exact⟨fun h8 => .z hG (by kernel_rfl) ⟨fun h9=>by rw [f5 _ _ hq h8],fun h9=>absurd (show(5:Int)≠0 by decide) h9⟩,fun h8 => .z hG (by kernel_rfl) ⟨fun h9=>by rw [fe _ _ hq h9];rfl,fun h9=>by rw [f0 _ _ hq h8 h9];rfl⟩⟩
 ·have hq:=b1L h1 h2
  exact⟨fun h8 => .z hG (by kernel_rfl) ⟨fun h9=>by rw [f5 _ _ hq h8],fun h9=>absurd (show(5:Int)≠0 by decide) h9⟩,fun h8 => .z hG (by kernel_rfl) ⟨fun h9=>by rw [fe _ _ hq h9];rfl,fun h9=>by rw [f0 _ _ hq h8 h9];rfl⟩⟩
 ·have hq:=b9P h1 h2 h3
  exact⟨fun h8 => .z hG (by kernel_rfl) ⟨fun h9=>by rw [f5 _ _ hq h8],fun h9=>absurd (show(5:Int)≠0 by decide) h9⟩,fun h8 => .z hG (by kernel_rfl) ⟨fun h9=>by rw [fe _ _ hq h9],fun h9=>absurd (show(6:Int)≠0 by decide) h9⟩⟩
 ·have hq:=b1M h1 h2 h3
  exact⟨fun h8 => .z hG (by kernel_rfl) ⟨fun h9=>by rw [f5 _ _ hq h8],fun h9=>absurd (show(5:Int)≠0 by decide) h9⟩,fun h8 => .z hG (by kernel_rfl) ⟨fun h9=>by rw [fe _ _ hq h9];rfl,fun h9=>by rw [f0 _ _ hq h8 h9];rfl⟩⟩
abbrev Rec:=u4
instance:c2f prog 270:=⟨_,underlying270,rfl⟩
instance:c2f prog 273:=⟨_,underlying273,rfl⟩
instance:c2f prog 279:=⟨_,underlying279,rfl⟩
instance:c2f prog 276:=⟨_,underlying276,rfl⟩
inductive Part where
 | num (l:j9 Rec Int) (lo hi:Int)
 | tag (l:j9 Rec Tag)
 | box (l:j9 Rec (List UInt8))
 | cav (l:j9 Rec (List Cav))
instance:Inhabited Part:=⟨.num u4.l1 0 0⟩
def Part.iv (b:Nat):Part→IfV
 | .num l lo hi=>b2t 270 (C6.mk (PtV.at b l.off) lo hi)
 | .tag l=>b2t 273 (J9.mk (PtV.at b l.off))
 | .box l=>b2t 279 (K0.mk (PtV.at b l.off))
 | .cav l=>b2t 276 (E8.mk (PtV.at b l.off))
def Q2:List Part := [.num (u4.l4.comp y2.l0) 1 1073741824,.num (u4.l4.comp y2.l1) 1 1000,.cav (u4.l4.comp y2.l2)]
def Q3:List Part := [.num (u4.l5.comp o8.l0) 1 4096,.num (u4.l5.comp o8.l1) 1 3,.num (u4.l5.comp o8.l2) 0 1000,.tag (u4.l5.comp o8.l3),.box (u4.l5.comp o8.l4),.tag (u4.l5.comp o8.l5)]
def C7 (k:Int):List Part:=if k=2 then Q2 else Q3
theorem b9Q (b:Nat)(x:Rec)(hk:x.Kind=2∨x.Kind=4):C5 gl prog 154 [.ln (ptr b 0) (j9.id (α:=Rec))] [.ob (ptr b 0) x] (fun y Hs=>y = .vc ((C7 x.Kind).map (Part.iv b))∧Hs = [.ob (ptr b 0) x]):=by
 refine .go func154 j0 137 [.tmp 2] j0 (by kernel_rfl) fun C hG => ?_
 rcases hk with hk|hk
 ·rw [show C7 x.Kind=Q2 from if_pos hk]
  exact .z hG (by kernel_rfl) ⟨fun h=>absurd h (by omega),fun _=>⟨fun h=>absurd h (by omega),fun _=>⟨fun _=>P5.of [ptr b 0] ⟨j0,j0⟩,fun h=>absurd hk h⟩⟩⟩
 ·rw [show C7 x.Kind=Q3 from if_neg (by omega)]
  exact .z hG (by kernel_rfl) ⟨fun h=>absurd h (by omega),fun _=>⟨fun h=>absurd h (by omega),fun _=>⟨fun h=>absurd h (by omega),fun _=>⟨fun h=>absurd h (by omega),fun _=>⟨fun _=>P5.of [ptr b 0] ⟨j0,j0⟩,fun h=>absurd hk h⟩⟩⟩⟩⟩
def Part.clr (x:Rec):Part→Rec
 | .num l _ _=>l.set 0 x
 | .tag l=>l.set default x
 | .box l=>l.set [] x
 | .cav l=>l.set [] x
def Part.chk (x:Rec):Part→Int
 | .num l lo hi=>if l.get x < lo∨hi < l.get x then 1 else 0
 | .tag _=>0
 | .box l=>if 1024 < (l.get x).length then 2 else 0
 | .cav l=>if 64 < (l.get x).length then 2 else if (l.get x).all S3 then 0 else 5
def Part.put (x:Rec):Part→List UInt8
 | .num l _ _=>D4 (l.get x).toNat
 | .tag l=>(l.get x).l
 | .box l=>D4 (l.get x).length++l.get x
 | .cav l=>D4 (l.get x).length++((l.get x).map E0).flatten
def Part.ok:Part→Prop
 | .num _ lo hi=>0≤lo∧lo≤hi∧hi≤281474976710656
 | _=>True
theorem a30 (k:Int):∀ p∈C7 k,p.ok:=by
 unfold C7;split
 ·unfold Q2;intro p hp
  rcases List.mem_cons.1 hp with rfl|hp
  ·exact⟨by decide,by decide,by decide⟩
  rcases List.mem_cons.1 hp with rfl|hp
  ·exact⟨by decide,by decide,by decide⟩
  rcases List.mem_cons.1 hp with rfl|hp
  ·trivial
  ·cases hp
 ·unfold Q3;intro p hp
  rcases List.mem_cons.1 hp with rfl|hp
  ·exact⟨by decide,by decide,by decide⟩
  rcases List.mem_cons.1 hp with rfl|hp
  ·exact⟨by decide,by decide,by decide⟩
  rcases List.mem_cons.1 hp with rfl|hp
  ·exact⟨by decide,by decide,by decide⟩
  rcases List.mem_cons.1 hp with rfl|hp
  ·trivial
  rcases List.mem_cons.1 hp with rfl|hp
  ·trivial
  rcases List.mem_cons.1 hp with rfl|hp
  ·trivial
  ·cases hp
theorem a7m {α β:Type}[Inhabited α][Inhabited β](f:α→β){l:List α}{k:Nat}(h:k < l.length):(l.map f).getD k default=f (l.getD k default):=by
 rw [List.getD_eq_getElem?_getD,List.getD_eq_getElem?_getD,List.getElem?_map,List.getElem?_eq_getElem h];rfl
section
variable (b:Nat)(x:Rec)
theorem b8w {l:j9 Rec Int}{lo hi:Int}(hp:(Part.num l lo hi).ok):Exa.ok (C6.mk (PtV.at b l.off) lo hi):=by
 obtain⟨h1,h2,h3⟩:=hp
 exact⟨trivial,⟨show -9223372036854775808≤lo by omega,show lo≤9223372036854775807 by omega⟩,⟨show -9223372036854775808≤hi by omega,show hi≤9223372036854775807 by omega⟩,trivial⟩
theorem d0s (p:Part)(hp:p.ok):∃ t v f a,(p.iv b).v=some (t,v)∧a1T prog t "macaroon/store.clear" f∧(∀ I,G0 I a v)∧C5 gl prog f [a] [.ob (ptr b 0) x] (fun y Hs=>y = .raw (.tuple #[])∧Hs = [.ob (ptr b 0) (p.clr x)]):=by
 cases p with
 | num l lo hi=>exact CaI.of (f:=286) (b8w b hp) (by kernel_rfl) underlying270 (b6O b x l lo hi)
 | tag l=>exact CaI.of (f:=290) ⟨trivial,trivial⟩ (by kernel_rfl) underlying273 (b6P b x l)
 | box l=>exact CaI.of (f:=313) ⟨trivial,trivial⟩ (by kernel_rfl) underlying279 (b6Q b x l)
 | cav l=>exact CaI.of (f:=295) ⟨trivial,trivial⟩ (by kernel_rfl) underlying276 (b6R b x l)
theorem d0t (p:Part)(hp:p.ok):∃ t v f a,(p.iv b).v=some (t,v)∧a1T prog t "macaroon/store.check" f∧(∀ I,G0 I a v)∧C5 gl prog f [a] [.ob (ptr b 0) x] (fun y Hs=>y = .v (p.chk x)∧Hs = [.ob (ptr b 0) x]):=by
 cases p with
 | num l lo hi=>exact CaI.of (f:=285) (b8w b hp) (by kernel_rfl) underlying270 (b6N b x l lo hi)
 | tag l=>exact CaI.of (f:=289) ⟨trivial,trivial⟩ (by kernel_rfl) underlying273 (b6S b x l)
 | box l=>exact CaI.of (f:=312) ⟨trivial,trivial⟩ (by kernel_rfl) underlying279 (b4G b x l)
 | cav l=>exact CaI.of (f:=294) ⟨trivial,trivial⟩ (by kernel_rfl) underlying276 (b6T b x l)
instance (n:Int)(k:Nat):CaI gl prog "macaroon/store.clear" (((C7 n).map (Part.iv b)).getD k default) [] [.ob (ptr b 0) x] [k < (C7 n).length] (.raw (.tuple #[])) [.ob (ptr b 0) (((C7 n).getD k default).clr x)]:=⟨fun hk=>by
 rw [a7m _ hk.1];exact d0s b x _ (a30 n _ (V0 hk.1))⟩
instance (n:Int)(k:Nat):CaI gl prog "macaroon/store.check" (((C7 n).map (Part.iv b)).getD k default) [] [.ob (ptr b 0) x] [k < (C7 n).length] (.v (((C7 n).getD k default).chk x)) [.ob (ptr b 0) x]:=⟨fun hk=>by
 rw [a7m _ hk.1];exact d0t b x _ (a30 n _ (V0 hk.1))⟩
instance (n:Int)(k:Nat)(H:j8)(ag:List AV)(ws:List Value)[b6d ag ws]:WiQ (((C7 n).map (Part.iv b)).getD k default) ag H (ptr b 0::ws):=⟨trivial⟩
end
instance (b:Nat)(x:Rec):CaM gl prog 154 [.ln (ptr b 0) (j9.id (α:=Rec))] (.ob (ptr b 0) x) [x.Kind=2∨x.Kind=4] (.vc ((C7 x.Kind).map (Part.iv b))) (.ob (ptr b 0) x):=⟨fun h=>b9Q b x h.1⟩
theorem b6U (x y:Cav):C3 gl prog 264 [.v x,.v y] (fun r=>r = .v (decide (x=y))):=by
 have i_bytesEqual_c:∀ (a:List UInt8) (b:List UInt8),Q5 gl prog 152 [.v a,.v b] [] (.v (decide (a=b))):=fun a b=>⟨fun hh=>a0B a b⟩
 refine .go func264 j0 38 [.tmp 4] j0 (by kernel_rfl) fun C hG=>(.z hG (by kernel_rfl) ?_)
 intro _ _
 congr 1
 cases x;cases y
 rw [Bool.eq_iff_iff]
 simp [and_assoc]
theorem b9R (a b:List Cav):C3 gl prog 257 [.v a,.v b] (fun r=>r = .v (decide (a=b))):=by
 have i1:Cl2 gl prog 264 [] _ inferInstance _ inferInstance _ inferInstance (fun (x y:Cav)=>decide (x=y)):=⟨b6U⟩
 have i_eqfCa_c:∀ (a:List u9) (b:List u9) (p:u9→u9→Bool),Q5 gl prog 263 [.v a,.v b,.c1P prog p] [∀ x y,p x y=decide (x=y)] (.v (decide (a=b))):=fun a b p=>⟨fun hh=>c5c a b p hh.1⟩
 refine .go func257 j0 8 [.tmp 4] j0 (by kernel_rfl) fun C hG=>(.z hG (by kernel_rfl) ?_)
 exact⟨fun _ _=>j0,j0⟩
theorem b9S (a b:Rec):C3 gl prog 240 [.v a,.v b] (fun r=>r = .v (decide (a=b))):=by
 have i_cavSame_c:∀ (a:List Cav) (b:List Cav),Q5 gl prog 257 [.v a,.v b] [] (.v (decide (a=b))):=fun a b=>⟨fun hh=>b9R a b⟩
 have i_bytesEqual_c:∀ (a:List UInt8) (b:List UInt8),Q5 gl prog 152 [.v a,.v b] [] (.v (decide (a=b))):=fun a b=>⟨fun hh=>a0B a b⟩
 have i_eqTag_c:∀ (a:List (M1 32 UInt8)) (b:List (M1 32 UInt8)),Q5 gl prog 256 [.v a,.v b] [] (.v (decide (a=b))):=fun a b=>⟨fun hh=>c5d a b⟩
 refine .go func240 j0 113 [.tmp 4] j0 (by kernel_rfl) fun C hG=>(.z hG (by kernel_rfl) ?_)
 intro _ _
 refine⟨⟨fun _ _=>by kernel_rfl,fun _ _=>by kernel_rfl,trivial⟩,fun nm => ?_⟩
 simp only [List.append_eq,List.cons_append,List.nil_append]
 refine .z hG (by kernel_rfl) ?_
 congr 1
 rw [Bool.eq_iff_iff]
 rcases a with ⟨a1,a2,a3,a4,⟨a5,a6,a7⟩,⟨a8,a9,a10,a11,a12,a13⟩,a14⟩
 rcases b with ⟨b1,b2,b3,b4,⟨b5,b6,b7⟩,⟨b8,b9,b10,b11,b12,b13⟩,b14⟩
 simp only [Bool.and_eq_true,decide_eq_true_eq,u4.mk.injEq,y2.mk.injEq,o8.mk.injEq]
 constructor
 ·rintro⟨⟨⟨⟨⟨⟨⟨⟨⟨⟨⟨⟨⟨h1,h2⟩,h3⟩,h4⟩,h5⟩,h6⟩,h7⟩,h8⟩,h9⟩,h10⟩,h11⟩,h12⟩,h13⟩,h14⟩
  exact⟨h1,h2,h3,h4,⟨h6,h7,h8⟩,⟨h9,h10,h11,h12,h14,h13⟩,h5⟩
 ·rintro⟨h1,h2,h3,h4,⟨h6,h7,h8⟩,⟨h9,h10,h11,h12,h14,h13⟩,h5⟩
  exact⟨⟨⟨⟨⟨⟨⟨⟨⟨⟨⟨⟨⟨h1,h2⟩,h3⟩,h4⟩,h5⟩,h6⟩,h7⟩,h8⟩,h9⟩,h10⟩,h11⟩,h12⟩,h13⟩,h14⟩
def b9T (r:Rec)(k:Nat):Rec:=((C7 r.Kind).take k).foldl (fun x p=>p.clr x) r
def a4u (r:Rec):Rec:=(C7 r.Kind).foldl (fun x p=>p.clr x) r
theorem a4v (n:Int):(C7 n).length≤7:=by unfold C7;split<;>simp [Q2,Q3]
theorem c2Q (r:Rec){k:Nat}(h:(C7 r.Kind).length≤k):b9T r k=a4u r:=by unfold b9T a4u;rw [List.take_of_length_le h]
theorem b9U (r:Rec){k:Nat}(h:k < (C7 r.Kind).length):b9T r (k+1)=((C7 r.Kind).getD k default).clr (b9T r k):=by
 unfold b9T
 rw [List.take_add_one,List.foldl_append,List.getElem?_eq_getElem h,List.getD_eq_getElem?_getD,List.getElem?_eq_getElem h];rfl
def a1x (r:Rec):Bool := !decide ({ a4u r with Kind:=0 }=(default:Rec))
theorem c5q (r:Rec)(hk:r.Kind=2∨r.Kind=4):C3 gl prog 207 [.v r] (fun y=>y = .v (a1x r)):=by
 have i_recSame_c:∀ (a:Rec) (b:Rec),Q5 gl prog 240 [.v a,.v b] [] (.v (decide (a=b))):=fun a b=>⟨fun hh=>b9S a b⟩
 refine .go func207 j0 19 [.tmp 2] j0 (by kernel_rfl) fun C hG=>(.z hG (by kernel_rfl) ?_)
 refine fun b=>⟨hk,?_⟩
 have hl:=a4v r.Kind
 refine .lp hG (fun k:Nat => [(7,.v (k:Int))]) (fun k => [(ptr b 0,.ob (ptr b 0) (b9T r k))]) (fun k=>k≤(C7 r.Kind).length) (fun k=>(C7 r.Kind).length - k) 0 (by kernel_rfl) ⟨rfl,rfl,by omega,fun k h1 => ?_⟩
 rw [Int.toNat_natCast]
 simp only [List.length_map]
 refine⟨fun h2=>⟨by omega,by omega,by omega,by omega,by omega,k+1,rfl,by rw [b9U r (by omega)],by omega,by omega⟩,fun h2 => ?_⟩
 rw [c2Q r (by omega)];rfl
section
variable {α:Type}{r0:u3 α}(b:Nat)(x:α)
theorem b4J (l:j9 α Int)(lo hi:Int)(w:Value)(t:List UInt8)(hw:t.length≤900000)(h0:0≤l.get x)(h1:l.get x≤281474976710656):C5 gl prog 288 [.v (C6.mk (PtV.at b l.off) lo hi),.raw w] [.ob (ptr b 0) x,.own 5 w t] (fun y Hs=>∃ u,y = .raw u∧Hs = [.ob (ptr b 0) x,.own 5 u (t++D4 (l.get x).toNat)]):=by
 have il:P3 l l.get l.set:=⟨fun _=>rfl,fun _ _=>rfl⟩
 have i_vrApp_own:∀ (b:List UInt8) (n:Int),CaN gl prog 197 [.v b,.v n] [b.length≤900000,0≤n,n≤281474976710656] (fun u => .t2 (.raw u) (.v (0:Int))) 5 _ _ ((b++D4 n.toNat)):=fun b n=>⟨fun hh=>Z6 b n hh.1 hh.2.1 hh.2.2.1⟩
 refine .go func288 j0 15 [.tmp 4] j0 (by kernel_rfl) fun C hG => ?_
 exact .z hG (by kernel_rfl) fun b1=>⟨hw,h0,h1,fun u _=>P5.of [ptr b 0,u] ⟨u,j0,j0⟩⟩
theorem b4K (l:j9 α Tag)(w:Value)(t:List UInt8)(hw:t.length≤900000):C5 gl prog 292 [.v (J9.mk (PtV.at b l.off)),.raw w] [.ob (ptr b 0) x,.own 5 w t] (fun y Hs=>∃ u,y = .raw u∧Hs = [.ob (ptr b 0) x,.own 5 u (t++(l.get x).l)]):=by
 have il:P3 l l.get l.set:=⟨fun _=>rfl,fun _ _=>rfl⟩
 refine .go func292 j0 11 [.tmp 4] j0 (by kernel_rfl) fun C hG => ?_
 have h32:=(l.get x).h
 exact .z hG (by kernel_rfl) fun b1=>⟨by rw [h32];omega,by rw [h32];omega,fun u=>P5.of [ptr b 0,u] ⟨u,rfl,rfl⟩⟩
theorem b4L (l:j9 α (List UInt8))(w:Value)(t:List UInt8)(hw:t.length≤800000)(h0:(l.get x).length≤1024):C5 gl prog 315 [.v (K0.mk (PtV.at b l.off)),.raw w] [.ob (ptr b 0) x,.own 5 w t] (fun y Hs=>∃ u,y = .raw u∧Hs = [.ob (ptr b 0) x,.own 5 u (t++D4 (l.get x).length++l.get x)]):=by
 have il:P3 l l.get l.set:=⟨fun _=>rfl,fun _ _=>rfl⟩
 have i_field_own:∀ (b:List UInt8) (x:List UInt8),CaN gl prog 198 [.v b,.v x] [b.length≤800000,x.length≤1024] (fun u => .t2 (.raw u) (.v (0:Int))) 5 _ _ ((b++D4 x.length++x)):=fun b x=>⟨fun hh=>b1H b x hh.1 hh.2.1⟩
 refine .go func315 j0 15 [.tmp 4] j0 (by kernel_rfl) fun C hG => ?_
 exact .z hG (by kernel_rfl) fun b1=>⟨hw,h0,fun u _=>P5.of [ptr b 0,u] ⟨u,j0,j0⟩⟩
theorem b4M (l:j9 α (List Cav))(w:Value)(t:List UInt8)(hw:t.length≤700000)(h0:(l.get x).length≤64)(h1:∀ c∈l.get x,S3 c=true):C5 gl prog 297 [.v (E8.mk (PtV.at b l.off)),.raw w] [.ob (ptr b 0) x,.own 5 w t] (fun y Hs=>∃ u,y = .raw u∧Hs = [.ob (ptr b 0) x,.own 5 u (t++D4 (l.get x).length++((l.get x).map E0).flatten)]):=by
 have il:P3 l l.get l.set:=⟨fun _=>rfl,fun _ _=>rfl⟩
 have i_vrApp_own:∀ (b:List UInt8) (n:Int),CaN gl prog 197 [.v b,.v n] [b.length≤900000,0≤n,n≤281474976710656] (fun u => .t2 (.raw u) (.v (0:Int))) 5 _ _ ((b++D4 n.toNat)):=fun b n=>⟨fun hh=>Z6 b n hh.1 hh.2.1 hh.2.2.1⟩
 have i_cavEnc_c:∀ (c:Cav),Q5 gl prog 226 [.v c] [] (.t2 (.v (U2 c).1) (.v (U2 c).2)):=fun c=>⟨fun hh=>b4F c⟩
 refine .go func297 rfl 38 [.tmp 4] rfl (by kernel_rfl) fun C hG=>(.z hG (by kernel_rfl) fun b1=>⟨by omega,by omega,by omega,fun u _ => ?_⟩)
 refine .lp hG (fun y:Nat×List UInt8×Value => [(24,.v (y.1:Int)),(1,.raw y.2.2)]) (fun y => [(u,.own 5 y.2.2 y.2.1)]) (fun y=>y.1≤(l.get x).length∧y.2.1.length≤700010+y.1*3000∧t++D4 (l.get x).length++((l.get x).map E0).flatten=y.2.1++(((l.get x).drop y.1).map E0).flatten) (fun y=>(l.get x).length - y.1) (0,t++D4 (l.get x).length,u) (by kernel_rfl) ⟨rfl,rfl,rfl,⟨by omega,?_,by simp⟩,fun ⟨k,acc,v⟩ ⟨h2,h3,h4⟩ => ?_⟩
 ·have:=H4 (n:=(l.get x).length) (by omega)
  simp only [List.length_append];omega
 dsimp only at h2 h3 h4 ⊢
 rw [Int.toNat_natCast]
 refine⟨fun h5 => ?_,fun h5=>P5.of [ptr b 0,v] ⟨v,j0,?_⟩⟩
 ·have hm:=h1 _ (V0 (l:=l.get x) (k:=k) (by omega))
  have hb:=a4t hm
  rw [a5J hm]
  dsimp only at h3 ⊢
  refine⟨by omega,h5,fun b8=>⟨by omega,by omega,fun v2=>⟨by omega,by omega,(k+1,_,v2),rfl,rfl,rfl,⟨by omega,by simp only [List.length_append];omega,?_⟩,by omega⟩⟩⟩
  rw [h4,a3W (by omega),List.map_cons,List.flatten_cons,List.append_assoc]
 ·rw [h4,List.drop_of_length_le (by omega)];simp
end
def Part.fit (x:Rec):Part→Prop
 | .num l _ _=>0≤l.get x∧l.get x≤281474976710656
 | .tag _=>True
 | .box l=>(l.get x).length≤1024
 | .cav l=>(l.get x).length≤64∧∀ c∈l.get x,S3 c=true
def Part.big:Part→Nat
 | .cav _=>134500
 | _=>1100
theorem Part.c7J {p:Part}{x:Rec}(h:p.fit x):(p.put x).length≤p.big:=by
 cases p with
 | num l lo hi=>have:=H4 (n:=(l.get x).toNat) (by have:=h.2;omega);show(D4 _).length≤1100;omega
 | tag l=>have:=(l.get x).h;show(l.get x).l.length≤1100;omega
 | box l =>
  have h:(l.get x).length≤1024:=h
  have:=H4 (n:=(l.get x).length) (by omega)
  show(D4 _++_).length≤1100
  simp only [List.length_append];omega
 | cav l =>
  have:=H4 (n:=(l.get x).length) (by have:=h.1;omega)
  have hc:∀ (cs:List Cav),(∀ c∈cs,S3 c=true)→((cs.map E0).flatten).length≤cs.length*2100:=fun cs=>by
   induction cs with
   | nil=>intro _;simp
   | cons c cs ih =>
    intro hh
    have:=a4t (hh c (by simp))
    have:=ih fun d hd=>hh d (by simp [hd])
    simp only [List.map_cons,List.flatten_cons,List.length_append,List.length_cons];omega
  have:=hc _ h.2
  have:=h.1
  show(D4 _++_).length≤134500
  simp only [List.length_append];omega
def b2S (r:Rec)(k:Nat):List UInt8:=(((C7 r.Kind).take k).map fun p=>p.put r).flatten
def M4 (r:Rec):List UInt8:=D4 r.Kind.toNat++((C7 r.Kind).map fun p=>p.put r).flatten
def Fits (r:Rec):Prop:=∀ p∈C7 r.Kind,p.fit r
theorem b8x (r:Rec):∀ (ps:List Part),(∀ p∈ps,p.fit r)→((ps.map fun p=>p.put r).flatten).length≤(ps.map Part.big).sum
 | [],_=>by simp
 | p::ps,h=>by
  have h1:=Part.c7J (h p (by simp))
  have h2:=b8x r ps fun q hq=>h q (by simp [hq])
  simp only [List.map_cons,List.flatten_cons,List.length_append,List.sum_cons];omega
theorem c7K (n:Int):((C7 n).map Part.big).sum≤140000:=by unfold C7;split<;>simp [Q2,Q3,Part.big]
theorem c2R (l:List Nat)(k:Nat):(l.take k).sum≤l.sum:=by
 conv=>rhs;rw [←List.take_append_drop k l,List.sum_append]
 omega
theorem b8y {r:Rec}(h:Fits r)(k:Nat):(b2S r k).length≤140000:=by
 have h1:=b8x r _ fun p hp=>h p (List.mem_of_mem_take (i:=k) hp)
 have h2:=c2R ((C7 r.Kind).map Part.big) k
 rw [←List.map_take] at h2
 have h3:=c7K r.Kind
 exact Nat.le_trans h1 (Nat.le_trans h2 h3)
theorem b9V (r:Rec){k:Nat}(h:k < (C7 r.Kind).length):b2S r (k+1)=b2S r k++((C7 r.Kind).getD k default).put r:=by
 unfold b2S
 rw [List.take_add_one,List.map_append,List.flatten_append,List.getElem?_eq_getElem h,List.getD_eq_getElem?_getD,List.getElem?_eq_getElem h]
 simp
theorem b4N (r:Rec){k:Nat}(h:(C7 r.Kind).length≤k):D4 r.Kind.toNat++b2S r k=M4 r:=by unfold b2S M4;rw [List.take_of_length_le h]
section
variable (b:Nat)(x:Rec)(w:Value)(t:List UInt8)
theorem d2D (p:Part)(hp:p.ok)(hw:t.length≤700000)(hf:p.fit x):∃ tt v f a,(p.iv b).v=some (tt,v)∧a1T prog tt "macaroon/store.write" f∧(∀ I,G0 I a v)∧C5 gl prog f [a,.raw w] [.ob (ptr b 0) x,.own 5 w t] (fun y Hs=>∃ u:Value,True∧y = .raw u∧Hs = [.ob (ptr b 0) x,.own 5 u (t++p.put x)] ++ []):=by
 have tr:∀ {f:FuncId} {ag:List AV} {Bs:List C0} {z:List UInt8},C5 gl prog f ag Bs (fun y Hs=>∃ u,y = .raw u∧Hs = [.ob (ptr b 0) x,.own 5 u z])→C5 gl prog f ag Bs (fun y Hs=>∃ u:Value,True∧y = .raw u∧Hs = [.ob (ptr b 0) x,.own 5 u z] ++ []):=fun h=>h.mono fun r Hs ⟨u,h1,h2⟩=>⟨u,trivial,h1,h2⟩
 cases p with
 | num l lo hi=>exact a65.of (f:=288) (b8w b hp) (by kernel_rfl) underlying270 (tr (b4J b x l lo hi w t (by omega) hf.1 hf.2))
 | tag l=>exact a65.of (f:=292) ⟨trivial,trivial⟩ (by kernel_rfl) underlying273 (tr (b4K b x l w t (by omega)))
 | box l=>exact a65.of (f:=315) ⟨trivial,trivial⟩ (by kernel_rfl) underlying279 (tr (by have:=b4L b x l w t (by omega) hf;rwa [List.append_assoc] at this))
 | cav l=>exact a65.of (f:=297) ⟨trivial,trivial⟩ (by kernel_rfl) underlying276 (tr (by have:=b4M b x l w t (by omega) hf.1 hf.2;rwa [List.append_assoc] at this))
instance (n:Int)(k:Nat):a65 gl prog "macaroon/store.write" (((C7 n).map (Part.iv b)).getD k default) [.raw w] [.ob (ptr b 0) x,.own 5 w t] Value [k < (C7 n).length,t.length≤700000,((C7 n).getD k default).fit x] (fun _=>True) (fun u => .raw u) (fun u => [.ob (ptr b 0) x,.own 5 u (t++((C7 n).getD k default).put x)]) (fun _ => []):=⟨fun hk=>by
 rw [a7m _ hk.1];exact d2D b x w t _ (a30 n _ (V0 hk.1)) hk.2.1 hk.2.2.1⟩
end
theorem b6V (n:Int)(h0:0≤n)(h1:n≤281474976710656):C5 gl prog 197 [.raw (.slice none 0 0),.v n] [] (fun r Hs=>∃ u,r = .t2 (.raw u) (.v (0:Int))∧Hs = [.own 5 u (D4 n.toNat)]):=(Z6 [] n (Nat.zero_le _) h0 h1).d2z
theorem a8C (r:Rec)(hk:r.Kind=2∨r.Kind=4)(hf:Fits r):C5 gl prog 159 [.v r] [] (fun y Hs=>∃ u,y = .raw u∧Hs = [.own 5 u (M4 r)]):=by
 have i_vrAppN_own:∀ (n:Int),CaN gl prog 197 [.raw (.slice none 0 0),.v n] [0≤n,n≤281474976710656] (fun u => .t2 (.raw u) (.v (0:Int))) 5 _ _ ((D4 n.toNat)):=fun n=>⟨fun hh=>b6V n hh.1 hh.2.1⟩
 refine .go func159 rfl 24 [.tmp 2] rfl (by kernel_rfl) fun C hG=>(.z hG (by kernel_rfl) fun b=>⟨by omega,by omega,fun u _=>⟨hk,?_⟩⟩)
 have hl:=a4v r.Kind
 have hn:=H4 (n:=r.Kind.toNat) (by omega)
 refine .lp hG (fun x:Nat×Value => [(15,.v (x.1:Int)),(3,.raw x.2)]) (fun x => [(u,.own 5 x.2 (D4 r.Kind.toNat++b2S r x.1))]) (fun x=>x.1≤(C7 r.Kind).length) (fun x=>(C7 r.Kind).length - x.1) (0,u) (by kernel_rfl) ⟨rfl,rfl,by show _=(true,C0.own _ u (D4 r.Kind.toNat++b2S r 0));rw [show b2S r 0 = [] from rfl,List.append_nil],by omega,fun ⟨k,v⟩ h1 => ?_⟩
 dsimp only at h1 ⊢
 rw [Int.toNat_natCast]
 simp only [List.length_map]
 have hp:=b8y hf k
 refine⟨fun h2=>⟨by omega,by omega,by omega,by simp only [List.length_append];omega,hf _ (V0 (by omega)),fun v2 _=>⟨by omega,by omega,(k+1,v2),rfl,rfl,?_,by show k+1≤_;omega,by show _ - (k+1) < _;omega⟩⟩,fun h2=>P5.of [v] ⟨v,rfl,?_⟩⟩
 ·rw [b9V r (by omega),List.append_assoc]
 ·rw [b4N r (by omega)]
theorem c7L (b:Nat)(x:Rec)(n:Int)(k:Nat)(e:Int)(hk:k < (C7 n).length):C5 gl prog 209 [.v (((C7 n).map (Part.iv b)).getD k default),.p e] [.ob (ptr b 0) x] (fun y Hs=>y = .v (decide (((C7 n).getD k default).chk x=e))∧Hs = [.ob (ptr b 0) x]):=by
 refine .go func209 j0 8 [.tmp 3] j0 (by kernel_rfl) fun C hG => ?_
 exact .z hG (by kernel_rfl) ⟨hk,P5.of [ptr b 0] ⟨j0,j0⟩⟩
instance (b:Nat)(x:Rec)(n:Int)(k:Nat)(e:Int):CaE gl prog 209 [.v (((C7 n).map (Part.iv b)).getD k default),.p e] [.ob (ptr b 0) x] [k < (C7 n).length] (.v (decide (((C7 n).getD k default).chk x=e))) [.ob (ptr b 0) x]:=⟨fun h=>c7L b x n k e h.1⟩
instance (b:Nat)(n:Int)(k:Nat)(e:Int)(H:j8):WnQ 209 [.v (((C7 n).map (Part.iv b)).getD k default),.p e] H [ptr b 0]:=⟨trivial⟩
def a4P (x:Rec)(n:Int)(e:Int):Bool:=(C7 n).any fun p=>decide (p.chk x=e)
theorem b9W (b:Nat)(x:Rec)(n:Int)(e:Int):C5 gl prog 241 [.v ((C7 n).map (Part.iv b)),.v (FnC.mk' 209 e)] [.ob (ptr b 0) x] (fun y Hs=>y = .v (idx (C7 n) fun p=>decide (p.chk x=e))∧Hs = [.ob (ptr b 0) x]):=by
 refine .go func241 j0 19 [.tmp 4] j0 (by kernel_rfl) fun C hG=>(.z hG (by kernel_rfl) ?_)
 have hl:=a4v n
 refine .lp hG (fun k:Nat => [(8,.v (k:Int))]) (fun k => []) (fun k=>k≤(C7 n).length∧∀ j (hj:j < (C7 n).length),j < k→decide (((C7 n)[j]).chk x=e)=false) (fun k=>(C7 n).length - k) 0 (by kernel_rfl) ⟨rfl,by simp,fun k ⟨h1,h2⟩ => ?_⟩
 rw [Int.toNat_natCast]
 simp only [List.length_map]
 refine⟨fun h3=>⟨by omega,by omega,by omega,fun h4 => ?_,fun h4=>⟨by omega,by omega,k+1,rfl,⟨by omega,fun j hj hjk => ?_⟩,by omega⟩⟩,fun h3 => ?_⟩
 ·rw [b0d (by omega) (by simpa [show k < (C7 n).length by omega] using h4) h2];exact P5.of [ptr b 0] ⟨rfl,rfl⟩
 ·rcases Nat.lt_or_ge j k with h|h
  ·exact h2 j hj h
  ·obtain rfl:j=k:=by omega
   simpa [hj] using h4
 ·rw [a5h fun j hj=>h2 j hj (by omega)];exact P5.of [ptr b 0] ⟨rfl,rfl⟩
instance (b:Nat)(x:Rec)(n:Int)(e:Int):CaE gl prog 241 [.v ((C7 n).map (Part.iv b)),.v (FnC.mk' 209 e)] [.ob (ptr b 0) x] [] (.v (idx (C7 n) fun p=>decide (p.chk x=e))) [.ob (ptr b 0) x]:=⟨fun h=>b9W b x n e⟩
instance (b:Nat)(n:Int)(e:Int)(H:j8):WnQ 241 [.v ((C7 n).map (Part.iv b)),.v (FnC.mk' 209 e)] H [ptr b 0]:=⟨trivial⟩
theorem b9X (b:Nat)(x:Rec)(n:Int)(e:Int):C5 gl prog 208 [.v ((C7 n).map (Part.iv b)),.v (FnC.mk' 209 e)] [.ob (ptr b 0) x] (fun y Hs=>y = .v (a4P x n e)∧Hs = [.ob (ptr b 0) x]):=by
 refine .go func208 j0 9 [.tmp 4] j0 (by kernel_rfl) fun C hG=>(.z hG (by kernel_rfl) ?_)
 refine P5.of [ptr b 0] ⟨?_,rfl⟩
 congr 1
 rw [b8m]
 rfl
instance (b:Nat)(x:Rec)(n:Int)(e:Int):CaE gl prog 208 [.v ((C7 n).map (Part.iv b)),.v (FnC.mk' 209 e)] [.ob (ptr b 0) x] [] (.v (a4P x n e)) [.ob (ptr b 0) x]:=⟨fun h=>b9X b x n e⟩
instance (b:Nat)(n:Int)(e:Int)(H:j8):WnQ 208 [.v ((C7 n).map (Part.iv b)),.v (FnC.mk' 209 e)] H [ptr b 0]:=⟨trivial⟩
def L7 (r:Rec):Int:=if a1x r then 9 else if a4P r r.Kind 1 then 1 else if a4P r r.Kind 2 then 2 else if a4P r r.Kind 5 then 5 else if 4096 < (M4 r).length then 2 else 0
theorem b8z {r:Rec}(h1:a4P r r.Kind 1=false)(h2:a4P r r.Kind 2=false)(h5:a4P r r.Kind 5=false):Fits r:=by
 intro p hp
 have ho:=a30 _ p hp
 have g1:p.chk r≠1:=fun h=>(List.any_eq_false.1 h1 p hp) (decide_eq_true h)
 have g2:p.chk r≠2:=fun h=>(List.any_eq_false.1 h2 p hp) (decide_eq_true h)
 have g5:p.chk r≠5:=fun h=>(List.any_eq_false.1 h5 p hp) (decide_eq_true h)
 cases p with
 | num l lo hi =>
  obtain⟨o1,o2,o3⟩:=ho
  simp only [Part.chk] at g1
  show 0≤l.get r∧l.get r≤281474976710656
  split at g1<;>omega
 | tag l=>trivial
 | box l =>
  simp only [Part.chk] at g2
  show(l.get r).length≤1024
  split at g2<;>omega
 | cav l =>
  simp only [Part.chk] at g2 g5
  by_cases hl:64 < (l.get r).length
  ·simp [hl] at g2
  ·rw [if_neg hl] at g5
   exact⟨by omega,by simpa using g5⟩
theorem b8A (r:Rec)(hk:r.Kind=2∨r.Kind=4):C3 gl prog 155 [.v r] (fun y=>y = .v (L7 r)):=by
 have:ExF 209:=⟨trivial⟩
 have:FzR 9 5:=⟨trivial⟩
 have i_extra_c:∀ (r:Rec),Q5 gl prog 207 [.v r] [r.Kind=2∨r.Kind=4] (.v (a1x r)):=fun r=>⟨fun hh=>c5q r hh.1⟩
 have i_encoded_own:∀ (r:Rec),CaN gl prog 159 [.v r] [r.Kind=2∨r.Kind=4,Fits r] (fun u => .raw u) 5 _ _ ((M4 r)):=fun r=>⟨fun hh=>a8C r hh.1 hh.2.1⟩
 refine .go func155 j0 26 [.tmp 2] j0 (by kernel_rfl) fun C hG=>(.z hG (by kernel_rfl) fun b=>⟨hk,fun b' hb'=>⟨fun hb => ?_,fun _=>⟨hk,fun hx => ?_,fun hx => ?_⟩⟩⟩)
 ·have h0:=hb' hb
  unfold C7 at h0
  split at h0<;>cases h0
 ·unfold L7;rw [if_pos hx]
 refine .lp hG (fun k:Nat => [(14,.v (k:Int))]) (fun k => []) (fun k=>k≤3∧(0 < k→a4P r r.Kind 1=false)∧(1 < k→a4P r r.Kind 2=false)∧(2 < k→a4P r r.Kind 5=false)) (fun k=>3 - k) 0 (by kernel_rfl) ⟨rfl,by omega,fun k ⟨h1,h2,h3,h4⟩ => ?_⟩
 refine⟨fun h5=>⟨by omega,by omega,fun _ => ?_⟩,fun h5 => ?_⟩
 ·rw [Int.toNat_natCast]
  have e:(Q6 (Q6 (Q6 (default:M1 3 Int) 0 1) 1 2) 2 5).l = [1,2,5]:=rfl
  rw [e]
  match k,h1,h5 with
  | 0,_,_=>exact⟨fun h=>by have h:a4P r r.Kind 1=true:=h;unfold L7;rw [if_neg hx,if_pos h];rfl,fun h=>⟨by omega,by omega,1,rfl,⟨by omega,fun _=>by simpa using h,fun h=>absurd h (by omega),fun h=>absurd h (by omega)⟩,by omega⟩⟩
  | 1,_,_=>exact⟨fun h=>by have h:a4P r r.Kind 2=true:=h;unfold L7;rw [if_neg hx,h2 (by omega),if_neg (by simp),if_pos h];rfl,fun h=>⟨by omega,by omega,2,rfl,⟨by omega,fun _=>h2 (by omega),fun _=>by simpa using h,fun h=>absurd h (by omega)⟩,by omega⟩⟩
  | 2,_,_=>exact⟨fun h=>by have h:a4P r r.Kind 5=true:=h;unfold L7;rw [if_neg hx,h2 (by omega),h3 (by omega),if_neg (by simp),if_neg (by simp),if_pos h];rfl,fun h=>⟨by omega,by omega,3,rfl,⟨by omega,fun _=>h2 (by omega),fun _=>h3 (by omega),fun _=>by simpa using h⟩,by omega⟩⟩
  | k+3,h,h'=>omega
 ·have q1:=h2 (by omega)
  have q2:=h3 (by omega)
  have q5:=h4 (by omega)
  refine⟨hk,b8z q1 q2 q5,fun _ _=>⟨fun h => ?_,fun h => ?_⟩⟩
  ·unfold L7;rw [if_neg hx,q1,q2,q5,if_neg (by simp),if_neg (by simp),if_neg (by simp),if_pos (by omega)]
  ·unfold L7;rw [if_neg hx,q1,q2,q5,if_neg (by simp),if_neg (by simp),if_neg (by simp),if_neg (by omega)]
def a0D (r:Rec):List UInt8×Int:=if L7 r≠0 then ([],L7 r) else (M4 r,0)
theorem a9o {r:Rec}(h:L7 r=0):Fits r:=by
 unfold L7 at h
 split at h
 ·omega
 split at h
 ·omega
 next h1 =>
 split at h
 ·omega
 next h2 =>
 split at h
 ·omega
 next h5=>exact b8z (by simpa using h1) (by simpa using h2) (by simpa using h5)
theorem c2S (r:Rec)(hk:r.Kind=2∨r.Kind=4):C3 gl prog 102 [.v r] (fun y=>y = .t2 (.v (a0D r).1) (.v (a0D r).2)):=by
 have encoded_c:∀ (r:Rec) (hk:r.Kind=2∨r.Kind=4) (hf:Fits r),C3 gl prog 159 [.v r] (fun y=>y = .v (M4 r)):=fun r hk hf=>(a8C r hk hf).b2u
 have i2:∀ r:Rec,Q5 gl prog 159 [.v r] [r.Kind=2∨r.Kind=4,Fits r] (.v (M4 r)):=fun r=>⟨fun h=>encoded_c r h.1 h.2.1⟩
 have i_check_c:∀ (r:Rec),Q5 gl prog 155 [.v r] [r.Kind=2∨r.Kind=4] (.v (L7 r)):=fun r=>⟨fun hh=>b8A r hh.1⟩
 refine .go func102 j0 12 [.tmp 2,.tmp 3] j0 (by kernel_rfl) fun C hG=>(.z hG (by kernel_rfl) ?_)
 refine fun _=>⟨hk,fun h => ?_,fun h=>⟨hk,a9o (Classical.not_not.1 h),?_⟩⟩
 ·unfold a0D;rw [if_pos h]
 ·unfold a0D;rw [if_neg h]
theorem c2T {r:Rec}(h:Fits r)(hk:r.Kind=2∨r.Kind=4):(M4 r).length≤140007:=by
 have h1:=b8y h (C7 r.Kind).length
 rw [←b4N r (Nat.le_refl _)]
 have:=H4 (n:=r.Kind.toNat) (by omega)
 simp only [List.length_append];omega
theorem b4O {r:Rec}(hk:r.Kind=2∨r.Kind=4):(a0D r).1.length≤140007:=by
 unfold a0D
 split
 ·simp
 next h=>exact c2T (a9o (Classical.not_not.1 h)) hk
def a0G (d:l9)(r:Rec):l9×Int:=if (a0D r).2≠0 then (d,(a0D r).2) else a2G d (a0D r).1
theorem c2U (d:l9)(r:Rec)(hk:r.Kind=2∨r.Kind=4)(h:W9 d)(ha:d.B9=0∨d.B9=1)(hw : -1000000000≤d.D9∧d.D9≤1000000000):C3 gl prog 131 [.v d,.v r] (fun x=>x = .t2 (.v (a0G d r).1) (.v (a0G d r).2)):=by
 have i_encode_c:∀ (r:Rec),Q5 gl prog 102 [.v r] [r.Kind=2∨r.Kind=4] (.t2 (.v (a0D r).1) (.v (a0D r).2)):=fun r=>⟨fun hh=>c2S r hh.1⟩
 have i_dvCopied2_c:∀ (d:l9),Q5 gl prog 103 [.v d] [W9 d] (.v d):=fun d=>⟨fun hh=>b4t d hh.1⟩
 have i_jAppend_c:∀ (d:l9) (r:List UInt8),Q5 gl prog 185 [.v d,.v r] [W9 d,d.B9=0∨d.B9=1,r.length≤100000000,-1000000000≤d.D9∧d.D9≤1000000000] (.t2 (.v (a2G d r).1) (.v (a2G d r).2)):=fun d r=>⟨fun hh=>b9w d r hh.1 hh.2.1 hh.2.2.1 hh.2.2.2.1⟩
 have hl:=b4O hk
 refine .go func131 rfl 23 [.cell 4 37,.tmp 5] rfl (by kernel_rfl) fun C hG=>(.z hG (by kernel_rfl) fun _ _ _=>⟨hk,fun h5=>⟨h,?_⟩,fun h5=>⟨h,ha,by omega,hw,?_⟩⟩)
 ·unfold a0G;rw [if_pos h5]
 ·unfold a0G;rw [if_neg h5]
structure H5 where
 M8:Int
 M5:Int
 y7:O2
def H5.f (x:H5):Int×Int×O2×Unit:=(x.M8,x.M5,x.y7,())
instance:Inhabited H5:=⟨⟨default,default,default⟩⟩
instance:u3 H5:=u3.via H5.f
instance:K5 H5:=K5.via H5.f rfl
def H5.l0:j9 H5 Int:=j9.via H5.f j9.fst (fun x=>x.M8) (fun y x => { x with M8:=y }) (fun _=>rfl) (fun _ _=>rfl)
def H5.l1:j9 H5 Int:=j9.via H5.f (j9.snd.comp j9.fst) (fun x=>x.M5) (fun y x => { x with M5:=y }) (fun _=>rfl) (fun _ _=>rfl)
def H5.l2:j9 H5 O2:=j9.via H5.f (j9.snd.comp (j9.snd.comp j9.fst)) (fun x=>x.y7) (fun y x => { x with y7:=y }) (fun _=>rfl) (fun _ _=>rfl)
structure B4 where
 Kind:Int
 Number:Int
 Key:(M1 32 UInt8)
 Node:(M1 32 UInt8)
 M0:H5
 Item:o8
 a2v:(List (M1 32 UInt8))
def B4.f (x:B4):Int×Int×(M1 32 UInt8)×(M1 32 UInt8)×H5×o8×(List (M1 32 UInt8))×Unit:=(x.Kind,x.Number,x.Key,x.Node,x.M0,x.Item,x.a2v,())
instance:Inhabited B4:=⟨⟨default,default,default,default,default,default,default⟩⟩
instance:u3 B4:=u3.via B4.f
instance:K5 B4:=K5.via B4.f rfl
def B4.l0:j9 B4 Int:=j9.via B4.f j9.fst (fun x=>x.Kind) (fun y x => { x with Kind:=y }) (fun _=>rfl) (fun _ _=>rfl)
def B4.l1:j9 B4 Int:=j9.via B4.f (j9.snd.comp j9.fst) (fun x=>x.Number) (fun y x => { x with Number:=y }) (fun _=>rfl) (fun _ _=>rfl)
def B4.l2:j9 B4 (M1 32 UInt8):=j9.via B4.f (j9.snd.comp (j9.snd.comp j9.fst)) (fun x=>x.Key) (fun y x => { x with Key:=y }) (fun _=>rfl) (fun _ _=>rfl)
def B4.l3:j9 B4 (M1 32 UInt8):=j9.via B4.f (j9.snd.comp (j9.snd.comp (j9.snd.comp j9.fst))) (fun x=>x.Node) (fun y x => { x with Node:=y }) (fun _=>rfl) (fun _ _=>rfl)
def B4.l4:j9 B4 H5:=j9.via B4.f (j9.snd.comp (j9.snd.comp (j9.snd.comp (j9.snd.comp j9.fst)))) (fun x=>x.M0) (fun y x => { x with M0:=y }) (fun _=>rfl) (fun _ _=>rfl)
def B4.l5:j9 B4 o8:=j9.via B4.f (j9.snd.comp (j9.snd.comp (j9.snd.comp (j9.snd.comp (j9.snd.comp j9.fst))))) (fun x=>x.Item) (fun y x => { x with Item:=y }) (fun _=>rfl) (fun _ _=>rfl)
theorem d0v:K1 prog 75 O2 := .ok (by kernel_rfl)
instance:TyR prog 75:=⟨d0v⟩
instance:FdS prog 114 0 H5.l0 (fun x=>x.M8):=⟨.ok b7B rfl fun _=>rfl⟩
instance:FdS prog 114 1 H5.l1 (fun x=>x.M5):=⟨.ok b7C rfl fun _=>rfl⟩
instance:FdS prog 114 2 H5.l2 (fun x=>x.y7):=⟨.ok b7D rfl fun _=>rfl⟩
theorem c7M:K1 prog 116 B4 := .ok (by kernel_rfl)
instance:TyK prog 116 B4:=⟨c7M⟩
instance:FdS prog 116 0 B4.l0 (fun x=>x.Kind):=⟨.ok b7E rfl fun _=>rfl⟩
instance:P3 B4.l0 (fun x=>x.Kind) (fun y x => { x with Kind:=y }):=⟨fun _=>rfl,fun _ _=>rfl⟩
instance:FdS prog 116 1 B4.l1 (fun x=>x.Number):=⟨.ok b7F rfl fun _=>rfl⟩
instance:FdS prog 116 2 B4.l2 (fun x=>x.Key):=⟨.ok b7G rfl fun _=>rfl⟩
instance:FdS prog 116 3 B4.l3 (fun x=>x.Node):=⟨.ok b7H rfl fun _=>rfl⟩
instance:FdS prog 116 4 B4.l4 (fun x=>x.M0):=⟨.ok b7I rfl fun _=>rfl⟩
instance:FdS prog 116 5 B4.l5 (fun x=>x.Item):=⟨.ok b7J rfl fun _=>rfl⟩
abbrev a6A:=B4
theorem b8B (r:CRd):(M6 r).2.source.b=r.source.b:=by unfold M6;split<;>rfl
theorem b1N (r:CRd):(R8 r).2.source.b=r.source.b:=by unfold R8;split<;>rfl
theorem b4P (b:List UInt8)(hb:b.length≤1000000):0≤(Y0 b).2.1∧(Y0 b).2.1≤b.length:=by
 have h0:a2K ⟨⟨b,0⟩,0⟩:=⟨Int.le_refl 0,by simp,hb⟩
 have hq:∀ q:Cav×CRd,q.2.source.b=b→a2K q.2→0≤(a2L q).2.1∧(a2L q).2.1≤b.length:=fun q e h=>by
  have h1:=h.u0
  have h2:=h.u1
  rw [e] at h2
  unfold a2L
  split
  ·simp
  ·split
   ·exact⟨h1,h2⟩
   ·simp
 have k1:a2K (M6 ⟨⟨b,0⟩,0⟩).2:=h0.num
 have k2:=k1.num
 have k3:=k2.field
 have k4:=b1K (b:=a1Y (M6 ⟨⟨b,0⟩,0⟩).2) (by rw [k1.len];have:=k1.b;omega)
 have e1:(M6 ⟨⟨b,0⟩,0⟩).2.source.b=b:=b8B _
 refine hq (W2 b) ?_ ?_
 ·unfold W2
  repeat' split
  ·exact e1
  ·exact e1
  ·exact(b1N _).trans ((b1N _).trans ((b8B _).trans e1))
  ·exact e1
 ·unfold W2
  repeat' split
  ·exact k1
  ·exact k1.c7I k4
  ·exact k3.field
  ·exact⟨k1.u0,k1.u1,k1.b⟩
def a1y (r:SRd):Cav×SRd:=if r.e≠0 then (default,r) else ((Y0 r.b).1,⟨r.b.drop (Y0 r.b).2.1.toNat,(Y0 r.b).2.2⟩)
theorem c5r (w:Nat)(r:SRd)(hb:r.b.length≤1000000):C5 gl prog 300 [.ln (ptr w 0) (j9.id (α:=SRd))] [.ob (ptr w 0) r] (fun y Hs=>y = .v (a1y r).1∧Hs = [.ob (ptr w 0) (a1y r).2]):=by
 have i_cavDec_c:∀ (b:List UInt8),Q5 gl prog 302 [.v b] [b.length≤1000000] (.t3 (.v (Y0 b).1) (.v (Y0 b).2.1) (.v (Y0 b).2.2)):=fun b=>⟨fun hh=>c2P b hh.1⟩
 refine .go func300 j0 26 [.cell 2 147] j0 (by kernel_rfl) fun C hG=>(.z hG (by kernel_rfl) fun b2=>⟨fun h => ?_,fun h=>⟨hb,fun b3=>⟨b4P _ hb,?_⟩⟩⟩)
 ·unfold a1y;rw [if_pos h];exact P5.of [ptr w 0] ⟨rfl,rfl⟩
 ·unfold a1y;rw [if_neg h];exact P5.of [ptr w 0] ⟨rfl,rfl⟩
instance (w:Nat)(r:SRd):CaM gl prog 300 [.ln (ptr w 0) (j9.id (α:=SRd))] (.ob (ptr w 0) r) [r.b.length≤1000000] (.v (a1y r).1) (.ob (ptr w 0) (a1y r).2):=⟨fun hh=>c5r w r hh.1⟩
def a1Z:Nat→SRd→List Cav×SRd
 | 0,r=>([],r)
 | n+1,r=>((a1y r).1::(a1Z n (a1y r).2).1,(a1Z n (a1y r).2).2)
def a3s (r:SRd):List Cav×SRd:=a1Z (R7 r).1.toNat (R7 r).2
theorem a8c (r:SRd):(O3 r).2.b.length≤r.b.length:=by unfold O3;split<;>simp
theorem a8D (r:SRd):(R7 r).2.b.length≤r.b.length:=by
 have:=a8c r
 unfold R7;repeat' split
 ·exact this
 ·exact this
 ·exact this
theorem c2V (b:List UInt8):0≤(I7 b).1∧(I7 b).1≤281474976710656:=by
 unfold I7
 repeat' split
 ·simp
 ·simp
 ·simp
 ·simp
 next h=>exact⟨Int.natCast_nonneg _,by show((a1X (b.take (T9 b+1)):Nat):Int)≤_;omega⟩
theorem b9Y (r:SRd):0≤(O3 r).1∧(O3 r).1≤281474976710656:=by
 unfold O3;split
 ·simp
 ·exact c2V _
theorem a8E (r:SRd):0≤(R7 r).1∧(R7 r).1≤64:=by
 have:=b9Y r
 unfold R7;repeat' split
 ·simp
 ·simp
 ·omega
theorem b1O (r:SRd):(a1y r).2.b.length≤r.b.length:=by unfold a1y;split<;>simp
theorem b9Z {α:Type}[r0:u3 α](b w:Nat)(x:α)(l:j9 α O2)(rd:SRd)(v:Value)(L:List Cav)(hg:∀ s,l.get (l.set s x)=s)(hs:∀ s t,l.set s (l.set t x)=l.set s x)(hL:L.length≤1000)(hb:rd.b.length≤1000000) :
    C5 gl prog 296 [.v (E8.mk (PtV.at b l.off)),.ln (ptr w 0) (j9.id (α:=SRd))] [.ob (ptr b 0) (l.set ⟨v⟩ x),.ob (ptr w 0) rd,.P2 v (GS.mk 147 L)] (fun y Hs=>∃ u:Value,y = .raw (.tuple #[])∧Hs = [.ob (ptr b 0) (l.set ⟨u⟩ x),.ob (ptr w 0) (a3s rd).2,.P2 u (GS.mk 147 (L++(a3s rd).1))]):=by
  have il:P3 l l.get l.set:=⟨fun _=>rfl,fun _ _=>rfl⟩
  have is:∀ u,c7m (l.get (l.set ⟨u⟩ x)) u:=fun u=>⟨by rw [hg]⟩
  refine .go func296 j0 22 [] j0 (by kernel_rfl) fun C hG=>(.z hG (by kernel_rfl) fun b2=>(.lp hG (fun y:Nat×List Cav×Value×SRd => [(4,.v (y.1:Int))]) (fun y => [(ptr b 0,.ob (ptr b 0) (l.set ⟨y.2.2.1⟩ x)),(ptr w 0,.ob (ptr w 0) y.2.2.2),(v,.P2 y.2.2.1 (GS.mk 147 y.2.1))]) (fun y=>y.1≤64∧y.2.1.length+y.1≤1064∧y.2.2.2.b.length≤1000000∧L++(a3s rd).1=y.2.1++(a1Z y.1 y.2.2.2).1∧(a3s rd).2=(a1Z y.1 y.2.2.2).2) (fun y=>y.1) ((R7 rd).1.toNat,L,v,(R7 rd).2) (by kernel_rfl) ?_))
  have hc:=a8E rd
  have hcl:=a8D rd
  refine⟨by rw [Int.toNat_of_nonneg hc.1],⟨by show(R7 rd).1.toNat≤64;omega,by show L.length+(R7 rd).1.toNat≤1064;omega,Nat.le_trans hcl hb,rfl,rfl⟩,fun ⟨k,A,u,q⟩ ⟨h1,h2,h3,h4,h5⟩ => ?_⟩
  dsimp only at h1 h2 h3 h4 h5 ⊢
  refine⟨fun h6=>⟨h3,by simp only [List.length_singleton];omega,by simp only [List.length_singleton];omega,⟨fun _ _=>by kernel_rfl,trivial⟩,fun nm=>⟨by omega,by omega,(k - 1,A ++ [(a1y q).1],(nm (0+1+1+1+1+1+1+1+1+1)).fst,(a1y q).2),?_,?_,rfl,rfl,⟨?_,?_,?_,?_,?_⟩,?_⟩⟩,fun h6 => ?_⟩
  · show AV.v _=AV.v ((k - 1:Nat):Int)
    congr 1;omega
  · rw [hs]
  · show k - 1≤64;omega
  · show(A ++ [(a1y q).1]).length+(k - 1)≤1064
    simp only [List.length_append,List.length_singleton];omega
  · exact Nat.le_trans (b1O q) h3
  · obtain⟨k,rfl⟩:∃ j,k=j+1:=⟨k - 1,by omega⟩
    rw [h4]
    show A++(a1Z (k+1) q).1=(A ++ [(a1y q).1])++(a1Z (k+1 - 1) (a1y q).2).1
    rw [a1Z,List.append_assoc];rfl
  · obtain⟨k,rfl⟩:∃ j,k=j+1:=⟨k - 1,by omega⟩
    rw [h5];rfl
  · show k - 1 < k;omega
  · have e:k=0:=by omega
    subst e
    have e4:L++(a3s rd).1=A:=by rw [h4];exact List.append_nil A
    have e5:(a3s rd).2=q:=h5
    rw [e4,e5]
    exact P5.of [ptr b 0,ptr w 0,u] ⟨u,rfl,rfl⟩
def toR (x:Rec)(v:Value):a6A:=⟨x.Kind,x.Number,x.Key,x.Node,⟨x.M0.M8,x.M0.M5,⟨v⟩⟩,x.Item,x.a2v⟩
theorem b6W (b:Nat)(x:Rec)(v:Value)(hk:x.Kind=2∨x.Kind=4):C5 gl prog 154 [.ln (ptr b 0) (j9.id (α:=a6A))] [.ob (ptr b 0) (toR x v)] (fun y Hs=>y = .vc ((C7 x.Kind).map (Part.iv b))∧Hs = [.ob (ptr b 0) (toR x v)]):=by
 refine .go func154 j0 137 [.tmp 2] j0 (by kernel_rfl) fun C hG => ?_
 have e:(toR x v).Kind=x.Kind:=rfl
 rcases hk with hk|hk
 ·rw [show C7 x.Kind=Q2 from if_pos hk]
  refine .z hG (by kernel_rfl) ?_
  rw [e]
  exact⟨fun h=>absurd h (by omega),fun _=>⟨fun h=>absurd h (by omega),fun _=>⟨fun _=>P5.of [ptr b 0] ⟨j0,j0⟩,fun h=>absurd hk h⟩⟩⟩
 ·rw [show C7 x.Kind=Q3 from if_neg (by omega)]
  refine .z hG (by kernel_rfl) ?_
  rw [e]
  exact⟨fun h=>absurd h (by omega),fun _=>⟨fun h=>absurd h (by omega),fun _=>⟨fun h=>absurd h (by omega),fun _=>⟨fun h=>absurd h (by omega),fun _=>⟨fun _=>P5.of [ptr b 0] ⟨j0,j0⟩,fun h=>absurd hk h⟩⟩⟩⟩⟩
def Part.rd (x:Rec)(r:SRd):Part→Rec×SRd
 | .num l _ _=>(l.set (O3 r).1 x,(O3 r).2)
 | .tag l=>(l.set (a2y r).1 x,(a2y r).2)
 | .box l=>(l.set (Y8 r).1 x,(Y8 r).2)
 | .cav l=>(l.set (l.get x++(a3s r).1) x,(a3s r).2)
section
variable (b w:Nat)(x:Rec)(v:Value)(rd:SRd)
def a8F (p:Part):Prop:=∃ tt vv f a,(p.iv b).v=some (tt,vv)∧a1T prog tt "macaroon/store.read" f∧(∀ I,G0 I a vv)∧C5 gl prog f [a,.ln (ptr w 0) (j9.id (α:=SRd))] [.ob (ptr b 0) (toR x v),.ob (ptr w 0) rd,.P2 v (GS.mk 147 x.M0.y7)]
 (fun y Hs=>∃ u:Value,True∧y = .raw (.tuple #[])∧Hs = [.ob (ptr b 0) (toR (p.rd x rd).1 u),.ob (ptr w 0) (p.rd x rd).2,.P2 u (GS.mk 147 (p.rd x rd).1.M0.y7)] ++ [])
theorem b0r (l:j9 Rec Int)(l':j9 a6A Int)(lo hi:Int)(ho:l'.off=l.off)(hs:∀ n,l'.set n (toR x v)=toR (l.set n x) v)(hc:∀ n,(l.set n x).M0.y7=x.M0.y7)(hp:(Part.num l lo hi).ok):a8F b w x v rd (.num l lo hi):=by
 have h:=C5.frame (.P2 v (GS.mk 147 x.M0.y7)) (b9K b w (toR x v) rd l' lo hi)
 rw [ho] at h
 unfold a8F
 refine a65.of (f:=287) (b8w b hp) (by kernel_rfl) underlying270 (h.mono fun y Hs q => ?_)
 obtain⟨Hs0,rfl,rfl,rfl⟩:=q
 refine⟨v,True.intro,Eq.refl _,?_⟩
 rw [hs]
 show _ = [_,_,C0.P2 v (GS.mk _ (l.set (O3 rd).1 x).M0.y7)]
 rw [hc];rfl
theorem c2W (l:j9 Rec Tag)(l':j9 a6A Tag)(hb:rd.b.length≤1000000)(ho:l'.off=l.off)(hs:∀ n,l'.set n (toR x v)=toR (l.set n x) v)(hc:∀ n,(l.set n x).M0.y7=x.M0.y7):a8F b w x v rd (.tag l):=by
 have h:=C5.frame (.P2 v (GS.mk 147 x.M0.y7)) (b9M b w (toR x v) rd l' hb)
 rw [ho] at h
 unfold a8F
 refine a65.of (f:=291) ⟨trivial,trivial⟩ (by kernel_rfl) underlying273 (h.mono fun y Hs q => ?_)
 obtain⟨Hs0,rfl,rfl,rfl⟩:=q
 refine⟨v,True.intro,Eq.refl _,?_⟩
 rw [hs]
 show _ = [_,_,C0.P2 v (GS.mk _ (l.set (a2y rd).1 x).M0.y7)]
 rw [hc];rfl
theorem c7N (l:j9 Rec (List UInt8))(l':j9 a6A (List UInt8))(hb:rd.b.length≤1000000)(ho:l'.off=l.off)(hs:∀ n,l'.set n (toR x v)=toR (l.set n x) v)(hc:∀ n,(l.set n x).M0.y7=x.M0.y7):a8F b w x v rd (.box l):=by
 have h:=C5.frame (.P2 v (GS.mk 147 x.M0.y7)) (b9L b w (toR x v) rd l' hb)
 rw [ho] at h
 unfold a8F
 refine a65.of (f:=314) ⟨trivial,trivial⟩ (by kernel_rfl) underlying279 (h.mono fun y Hs q => ?_)
 obtain⟨Hs0,rfl,rfl,rfl⟩:=q
 refine⟨v,True.intro,Eq.refl _,?_⟩
 rw [hs]
 show _ = [_,_,C0.P2 v (GS.mk _ (l.set (Y8 rd).1 x).M0.y7)]
 rw [hc];rfl
theorem c7O (hb:rd.b.length≤1000000)(hL:x.M0.y7.length≤1000):a8F b w x v rd (.cav (u4.l4.comp y2.l2)):=by
 have h:=b9Z b w (toR x v) (B4.l4.comp H5.l2) rd v x.M0.y7 (fun _=>rfl) (fun _ _=>rfl) hL hb
 refine a65.of (f:=296) ⟨trivial,trivial⟩ (by kernel_rfl) underlying276 (h.mono fun y Hs q => ?_)
 obtain⟨u,rfl,rfl⟩:=q
 exact⟨u,trivial,j0,j0⟩
theorem d0w (n:Int)(hb:rd.b.length≤1000000)(hL:x.M0.y7.length≤1000):∀ p∈C7 n,a8F b w x v rd p:=by
 intro p hp
 have ho:=a30 n p hp
 revert hp;unfold C7;split
 ·unfold Q2;intro hp
  rcases List.mem_cons.1 hp with rfl|hp
  ·exact b0r b w x v rd _ (B4.l4.comp H5.l0) _ _ rfl (fun _=>rfl) (fun _=>rfl) ho
  rcases List.mem_cons.1 hp with rfl|hp
  ·exact b0r b w x v rd _ (B4.l4.comp H5.l1) _ _ rfl (fun _=>rfl) (fun _=>rfl) ho
  rcases List.mem_cons.1 hp with rfl|hp
  ·exact c7O b w x v rd hb hL
  ·cases hp
 ·unfold Q3;intro hp
  rcases List.mem_cons.1 hp with rfl|hp
  ·exact b0r b w x v rd _ (B4.l5.comp o8.l0) _ _ rfl (fun _=>rfl) (fun _=>rfl) ho
  rcases List.mem_cons.1 hp with rfl|hp
  ·exact b0r b w x v rd _ (B4.l5.comp o8.l1) _ _ rfl (fun _=>rfl) (fun _=>rfl) ho
  rcases List.mem_cons.1 hp with rfl|hp
  ·exact b0r b w x v rd _ (B4.l5.comp o8.l2) _ _ rfl (fun _=>rfl) (fun _=>rfl) ho
  rcases List.mem_cons.1 hp with rfl|hp
  ·exact c2W b w x v rd _ (B4.l5.comp o8.l3) hb rfl (fun _=>rfl) (fun _=>rfl)
  rcases List.mem_cons.1 hp with rfl|hp
  ·exact c7N b w x v rd _ (B4.l5.comp o8.l4) hb rfl (fun _=>rfl) (fun _=>rfl)
  rcases List.mem_cons.1 hp with rfl|hp
  ·exact c2W b w x v rd _ (B4.l5.comp o8.l5) hb rfl (fun _=>rfl) (fun _=>rfl)
  ·cases hp
instance (n:Int)(k:Nat):a65 gl prog "macaroon/store.read" (((C7 n).map (Part.iv b)).getD k default) [.ln (ptr w 0) (j9.id (α:=SRd))] [.ob (ptr b 0) (toR x v),.ob (ptr w 0) rd,.P2 v (GS.mk 147 x.M0.y7)] Value [k < (C7 n).length,rd.b.length≤1000000,x.M0.y7.length≤1000] (fun _=>True) (fun u => .raw (.tuple #[])) (fun u => [.ob (ptr b 0) (toR (((C7 n).getD k default).rd x rd).1 u),.ob (ptr w 0) (((C7 n).getD k default).rd x rd).2,.P2 u (GS.mk 147 (((C7 n).getD k default).rd x rd).1.M0.y7)]) (fun _ => []):=⟨fun hk=>by
 rw [a7m _ hk.1];exact d0w b w x v rd n hk.2.1 hk.2.2.1 _ (V0 hk.1)⟩
end
instance (x:Rec)(v:Value):d0p (toR x v) v:=⟨trivial⟩
theorem c0a (x:Rec)(v:Value)(I:Fl.Im)(cs:List Value)(h:u3.rep I (toR x v) cs)(hv:G0 I (.v x.M0.y7) v):u3.rep I x cs:=by
 obtain⟨x1,x2,x3,x4,⟨x5,x6,x7⟩,x8,x9⟩:=x
 obtain⟨c1,r1,rfl,h1,c2,r2,rfl,h2,c3,r3,rfl,h3,c4,r4,rfl,h4,c5,r5,rfl,⟨d1,s1,rfl,g1,d2,s2,rfl,g2,d3,s3,rfl,g3,g4⟩,hr⟩:=h
 obtain⟨ws,⟨u,rfl,hu⟩,e⟩:=hv
 have e:v=u:=e
 subst e
 have g3:d3 = [v]:=g3.1
 subst g3
 exact⟨c1,_,j0,h1,c2,_,j0,h2,c3,_,j0,h3,c4,_,j0,h4,_,r5,j0,⟨d1,_,j0,g1,d2,_,j0,g2,[v],s3,j0,⟨v,j0,hu⟩,g4⟩,hr⟩
instance (x:Rec)(v:Value):d0q (α:=a6A) inferInstance (toR x v) v inferInstance x.M0.y7 Rec inferInstance x:=⟨c0a x v⟩
instance (b:Nat)(x:Rec)(v:Value):CaM gl prog 154 [.ln (ptr b 0) (j9.id (α:=a6A))] (.ob (ptr b 0) (toR x v)) [x.Kind=2∨x.Kind=4] (.vc ((C7 x.Kind).map (Part.iv b))) (.ob (ptr b 0) (toR x v)):=⟨fun h=>b6W b x v h.1⟩
instance (priority:=high)(n:Int)(b w k:Nat)(H:j8)(v:Value)[us:UsQ H v]:WiQ (((C7 n).map (Part.iv b)).getD k default) [.ln (ptr w 0) (j9.id (α:=SRd))] H [ptr b 0,ptr w 0,v]:=⟨trivial⟩
def rdK (n:Int)(q:Rec×SRd)(k:Nat):Rec×SRd:=((C7 n).take k).foldl (fun q p=>p.rd q.1 q.2) q
def a0L (b:List UInt8):Rec×SRd:=({ (default:Rec) with Kind:=(O3 ⟨b,0⟩).1 },(O3 ⟨b,0⟩).2)
def a4Q (b:List UInt8):Rec×SRd:=rdK (a0L b).1.Kind (a0L b) (C7 (a0L b).1.Kind).length
def a3J (b:List UInt8):Int:=if (a4Q b).2.e≠0 then (a4Q b).2.e else if (a4Q b).2.b ≠ [] then 4 else L7 (a4Q b).1
def a0E (b:List UInt8):Rec×Int:=if a3J b≠0 then (default,a3J b) else ((a4Q b).1,0)
theorem b4Q (r:SRd):(Y8 r).2.b.length≤r.b.length:=by unfold Y8;split<;>simp
theorem c0b (r:SRd):(a2y r).2.b.length≤r.b.length:=by
 unfold a2y;split
 ·exact Nat.le_refl _
 ·split
  ·exact Nat.le_refl _
  ·simp
theorem b0s:∀ (n:Nat) (r:SRd),(a1Z n r).2.b.length≤r.b.length∧(a1Z n r).1.length=n
 | 0,r=>⟨Nat.le_refl _,rfl⟩
 | n+1,r=>by
  have h1:=b0s n (a1y r).2
  have h2:=b1O r
  rw [a1Z]
  exact⟨Nat.le_trans h1.1 h2,by rw [List.length_cons,h1.2]⟩
theorem b1P (r:SRd):(a3s r).2.b.length≤r.b.length∧(a3s r).1.length≤64:=by
 have h1:=b0s (R7 r).1.toNat (R7 r).2
 have h2:=a8D r
 have h3:=a8E r
 unfold a3s
 exact⟨Nat.le_trans h1.1 h2,by rw [h1.2];omega⟩
theorem d2E (p:Part)(x:Rec)(r:SRd):(p.rd x r).2.b.length≤r.b.length:=by
 cases p with
 | num l lo hi=>exact a8c r
 | tag l=>exact c0b r
 | box l=>exact b4Q r
 | cav l=>exact(b1P r).1
theorem d2F (n:Int)(x:Rec)(r:SRd):∀ p∈C7 n,(p.rd x r).1.Kind=x.Kind∧(p.rd x r).1.M0.y7.length≤x.M0.y7.length+64:=by
 intro p hp
 have hc:=b1P r
 revert hp;unfold C7;split
 ·unfold Q2;intro hp
  rcases List.mem_cons.1 hp with rfl|hp
  ·exact⟨j0,Nat.le_add_right _ _⟩
  rcases List.mem_cons.1 hp with rfl|hp
  ·exact⟨j0,Nat.le_add_right _ _⟩
  rcases List.mem_cons.1 hp with rfl|hp
  ·refine⟨j0,?_⟩
   show(x.M0.y7++(a3s r).1).length≤_
   rw [List.length_append];omega
  ·cases hp
 ·unfold Q3;intro hp
  rcases List.mem_cons.1 hp with rfl|hp
  ·exact⟨j0,Nat.le_add_right _ _⟩
  rcases List.mem_cons.1 hp with rfl|hp
  ·exact⟨j0,Nat.le_add_right _ _⟩
  rcases List.mem_cons.1 hp with rfl|hp
  ·exact⟨j0,Nat.le_add_right _ _⟩
  rcases List.mem_cons.1 hp with rfl|hp
  ·exact⟨j0,Nat.le_add_right _ _⟩
  rcases List.mem_cons.1 hp with rfl|hp
  ·exact⟨j0,Nat.le_add_right _ _⟩
  rcases List.mem_cons.1 hp with rfl|hp
  ·exact⟨j0,Nat.le_add_right _ _⟩
  ·cases hp
theorem a7n (n:Int)(q:Rec×SRd){k:Nat}(h:k < (C7 n).length):rdK n q (k+1)=((C7 n).getD k default).rd (rdK n q k).1 (rdK n q k).2:=by
 unfold rdK
 rw [List.take_add_one,List.foldl_append,List.getElem?_eq_getElem h,List.getD_eq_getElem?_getD,List.getElem?_eq_getElem h];rfl
theorem c2X (n:Int)(q:Rec×SRd):∀ k,k≤(C7 n).length→(rdK n q k).1.Kind=q.1.Kind∧(rdK n q k).1.M0.y7.length≤q.1.M0.y7.length+64*k∧(rdK n q k).2.b.length≤q.2.b.length
 | 0,_=>⟨rfl,Nat.le_refl _,Nat.le_refl _⟩
 | k+1,h=>by
  obtain⟨h1,h2,h3⟩:=c2X n q k (by omega)
  rw [a7n n q (by omega)]
  have h4:=d2F n (rdK n q k).1 (rdK n q k).2 _ (V0 (l:=C7 n) (k:=k) (by omega))
  have h5:=d2E ((C7 n).getD k default) (rdK n q k).1 (rdK n q k).2
  exact⟨h4.1.trans h1,by omega,by omega⟩
theorem c2Y (b:List UInt8)(hb:b.length≤1000000)(hk:(O3 ⟨b,0⟩).1=2∨(O3 ⟨b,0⟩).1=4):C3 gl prog 98 [.v b] (fun y=>y = .t2 (.v (a0E b).1) (.v (a0E b).2)):=by
 have i5:AlR 5 a6A inferInstance:=⟨trivial⟩
 have i14:AlR 14 a6A inferInstance:=⟨trivial⟩
 have pl:PlR 11 5:=⟨trivial⟩
 have i_check_c:∀ (r:Rec),Q5 gl prog 155 [.v r] [r.Kind=2∨r.Kind=4] (.v (L7 r)):=fun r=>⟨fun hh=>b8A r hh.1⟩
 refine .go func98 j0 75 [.cell 2 116,.tmp 3] j0 (by kernel_rfl) fun C hG=>(.d0o (α:=Cav) (r:=inferInstance) 147 (.z hG (by kernel_rfl) fun b1 b2 b3 => ?_))
 rw [show B4.mk (O3 ⟨b,(default:SRd).e⟩).1 (default:a6A).Number (default:a6A).Key (default:a6A).Node (default:a6A).M0 (default:a6A).Item (default:a6A).a2v=toR (a0L b).1 (.slice none 0 0) from rfl,show(O3 ⟨b,(default:SRd).e⟩).2=(a0L b).2 from rfl]
 have hk':(a0L b).1.Kind=2∨(a0L b).1.Kind=4:=hk
 refine wpB.z hG (by kernel_rfl) ⟨hk',?_⟩
 have hne:(C7 (a0L b).1.Kind).map (Part.iv b3) ≠ []:=by
  unfold C7;split<;>simp [Q2,Q3]
 refine⟨fun _=>hne,fun h=>absurd h.2 (by simp),fun _ => ?_⟩
 refine .z hG (by kernel_rfl) ?_
 refine .lp hG (fun y:Nat×Value => [(30,.v (y.1:Int))]) (fun y => [(ptr b3 0,.ob (ptr b3 0) (toR (rdK (a0L b).1.Kind (a0L b) y.1).1 y.2)),(ptr b2 0,.ob (ptr b2 0) (rdK (a0L b).1.Kind (a0L b) y.1).2),(.slice none 0 0,.P2 y.2 (GS.mk 147 (rdK (a0L b).1.Kind (a0L b) y.1).1.M0.y7))])
  (fun y=>y.1≤(C7 (a0L b).1.Kind).length) (fun y=>(C7 (a0L b).1.Kind).length - y.1) (0,.slice none 0 0) (by kernel_rfl) ?_
 have hlen:=a4v (a0L b).1.Kind
 have hr0:(a0L b).2.b.length≤1000000:=Nat.le_trans (a8c _) hb
 refine⟨j0,j0,j0,j0,Nat.zero_le _,fun ⟨k,v⟩ h1 => ?_⟩
 dsimp only at h1 ⊢
 obtain⟨q1,q2,q3⟩:=c2X (a0L b).1.Kind (a0L b) k h1
 rw [Int.toNat_natCast]
 simp only [List.length_map]
 have hc0:(a0L b).1.M0.y7.length=0:=rfl
 refine⟨fun h2=>⟨by omega,by omega,by omega,by omega,by omega,fun v2 _=>⟨by omega,by omega,(k+1,v2),rfl,?_,?_,?_,by show k+1≤_;omega,by show _ - (k+1) < _;omega⟩⟩,fun h2 => ?_⟩
 ·rw [a7n _ _ (by omega)]
 ·rw [a7n _ _ (by omega)]
 ·rw [a7n _ _ (by omega)]
 ·obtain rfl:k=(C7 (a0L b).1.Kind).length:=by omega
  have er:rdK (a0L b).1.Kind (a0L b) (C7 (a0L b).1.Kind).length=a4Q b:=rfl
  rw [er] at q1 q2 q3 ⊢
  have hk1:(a4Q b).1.Kind=2∨(a4Q b).1.Kind=4:=by rw [q1];exact hk'
  refine⟨fun h3 => .z hG (by kernel_rfl) ⟨fun h4=>absurd h4 (show ¬(4:Int)=0 by decide),fun h4 => .z hG (by kernel_rfl) ?_⟩,fun h3 => .z hG (by kernel_rfl) ⟨fun h4 => .z hG (by kernel_rfl) ?_,fun h4 => .z hG (by kernel_rfl) ?_⟩⟩
  ·have hd:a3J b=4:=by
    unfold a3J;rw [if_neg (by omega),if_pos (fun e=>by rw [e] at h3;exact absurd h3.2 (by simp))]
   refine⟨fun _ => ?_,fun h5=>absurd h5 (Classical.not_not.2 h4)⟩
   unfold a0E;rw [hd];rfl
  ·have hb0:(a4Q b).2.b = []:=List.eq_nil_of_length_eq_zero (by omega)
   have hd:a3J b=L7 (a4Q b).1:=by
    unfold a3J;rw [if_neg (by omega),if_neg (fun e=>e hb0)]
   refine⟨hk1,fun h5 => ?_,fun h5 => ?_⟩
   ·unfold a0E;rw [hd,if_pos h5]
   ·unfold a0E;rw [hd,if_neg h5]
  ·have hd:a3J b=(a4Q b).2.e:=by unfold a3J;rw [if_pos h4]
   refine⟨fun h5 => ?_,fun h5=>absurd h4 h5⟩
   unfold a0E;rw [hd,if_pos h5]
def R9:List (List UInt8)→List Rec×Int
 | []=>([],0)
 | b::l=>if (a0E b).2≠0 then ([],(a0E b).2) else if (R9 l).2≠0 then ([],(R9 l).2) else ((a0E b).1::(R9 l).1,0)
theorem b2T (l:List (List UInt8)):R9 l=if (R9 l).2≠0 then ([],(R9 l).2) else ((R9 l).1,0):=by
 cases l with
 | nil=>rfl
 | cons r l=>rw [R9];repeat' split<;>simp_all
def D8 (d:l9):List UInt8:=d.F6.l.getD d.B9.toNat default
def Z2 (d:l9):List Rec×Int:=R9 (a08 (D8 d)).1
theorem c7P (d:l9)(h:W9 d)(ha:d.B9=0∨d.B9=1)(hl:(a08 (D8 d)).1.length≤100000)(hr:∀ r∈(a08 (D8 d)).1,r.length≤1000000∧((O3 ⟨r,0⟩).1=2∨(O3 ⟨r,0⟩).1=4)):C3 gl prog 48 [.v d] (fun x=>x = .t2 (.v (Z2 d).1) (.v (Z2 d).2)):=by
 have i6:a3B 6:=⟨trivial⟩
 have i11:FzW 11 6:=⟨trivial⟩
 have i_decode_c:∀ (b:List UInt8),Q5 gl prog 98 [.v b] [b.length≤1000000,(O3 ⟨b,0⟩).1=2∨(O3 ⟨b,0⟩).1=4] (.t2 (.v (a0E b).1) (.v (a0E b).2)):=fun b=>⟨fun hh=>c2Y b hh.1 hh.2.1⟩
 have i_dvData_c:∀ (d:l9),Q5 gl prog 97 [.v d] [W9 d,0≤d.B9,d.B9 < 2] (.v (d.F6.l.getD d.B9.toNat default)):=fun d=>⟨fun hh=>c2u d hh.1 hh.2.1 hh.2.2.1⟩
 have i_jRecords_c:∀ (data:List UInt8),Q5 gl prog 96 [.v data] [data.length≤100000000] (.t2 (.v (a08 data).1) (.v ((a08 data).2:Int))):=fun data=>⟨fun hh=>b0j data hh.1⟩
 refine .go func48 rfl 37 [.tmp 2,.tmp 3] rfl (by kernel_rfl) fun C hG=>(.z hG (by kernel_rfl) fun b=>⟨h,by omega,by omega,h.at _,?_⟩)
 rw [show d.F6.l.getD d.B9.toNat default=D8 d from rfl]
 generalize hL:(a08 (D8 d)).1=l at hl hr
 refine .lp hG (fun x:Nat×List Rec×Value => [(19,.v (x.1:Int)),(6,.raw x.2.2)]) (fun x => [(.slice none 0 0,.own 116 x.2.2 x.2.1)]) (fun x=>x.1≤l.length∧x.2.1.length=x.1∧R9 l=if (R9 (l.drop x.1)).2≠0 then ([],(R9 (l.drop x.1)).2) else (x.2.1++(R9 (l.drop x.1)).1,0)) (fun x=>l.length - x.1) (0,[],.slice none 0 0) (by kernel_rfl)
  ⟨rfl,rfl,⟨by omega,rfl,b2T l⟩,fun ⟨k,acc,w⟩ ⟨h1,h2,h3⟩ => ?_⟩
 dsimp only at h1 h2 h3 ⊢
 have hload:Z2 d=R9 l:=by unfold Z2;rw [hL]
 refine⟨fun h4 => ?_,fun h4 => ?_⟩
 ·rw [Int.toNat_natCast]
  have hm:=hr _ (V0 (l:=l) (k:=k) (by omega))
  rw [a3W (by omega),R9] at h3
  refine⟨by omega,h4,hm.1,hm.2,fun _=>⟨fun h5 => ?_,fun h5 _=>⟨by simp only [List.length_singleton];omega,by simp only [List.length_singleton];omega,fun w2=>⟨by omega,by omega,(k+1,_,w2),rfl,rfl,rfl,⟨by show k+1≤_;omega,by simp only [List.length_append,List.length_singleton];omega,?_⟩,by show _ - (k+1) < _;omega⟩⟩⟩⟩
  ·rw [if_pos (by rw [if_pos h5];exact h5),if_pos h5] at h3
   rw [hload,h3]
  ·rw [h3,if_neg h5]
   by_cases h6:(R9 (l.drop (k+1))).2≠0
   ·rw [if_pos h6,if_pos h6,if_pos h6]
   ·rw [if_neg h6,if_neg h6,if_neg (by simp),List.append_assoc];rfl
 ·rw [List.drop_of_length_le (by omega)] at h3
  have h3:R9 l=(acc,0):=by rw [h3];simp [R9]
  rw [hload,h3]
theorem b6X {a:E7}(h:(K2 a).2.2≠0):K2 a=(default,default,(K2 a).2.2):=by
 unfold K2 at *
 split
 ·rfl
 ·next h1=>rw [if_neg h1] at h;exact absurd rfl h
theorem a6B {a:E7}:(if (mkKey a 0).2.2≠0 then default else (mkKey a 0).2.1)=(K2 a).1∧(mkKey a 0).1=(K2 a).2.1∧(mkKey a 0).2.2=(K2 a).2.2:=by
 have e:mkKey a 0=((K2 a).2.1,if (K2 a).2.2=0 then (K2 a).1 else a,(K2 a).2.2):=by unfold mkKey;rw [if_neg (by decide)]
 rw [e]
 refine⟨?_,j0,j0⟩
 by_cases h:(K2 a).2.2=0
 ·rw [if_neg (by simpa using h),if_pos h]
 ·rw [if_pos (by simpa using h),b6X h]
theorem c2Z (a:E7)(h0:0≤a.K4):C3 gl prog 43 [.v a] (fun r=>r = .t3 (.v (K2 a).1) (.v (K2 a).2.1) (.v (K2 a).2.2)):=by
 refine C3.jn func43 (by kernel_rfl) 21 rfl fun C hC hG => ?_
 refine .q 3 hG fun b1 => ?_
 refine .q 1 hG fun b2 => ?_
 refine .q 1 hG fun b3 => ?_
 refine .q 5 hG ?_
 refine .k0 hG (a9i _) fun r10 Hs10 hr10 => ?_
 obtain⟨w10,x10,rfl,rfl,ha10,he10⟩:=hr10
 show wpB _ _ _ _ _ _ _ ((true,_)::_)
 refine .q 5 hG ?_
 refine .km hG (c7A _ _ (by rw [ha10];exact h0)) .z (by rintro _ _ ⟨_,rfl,_⟩;exact⟨_,rfl⟩) fun r12 B12 hr12 => ?_
 obtain⟨x12,hB,rfl,ha12,he12⟩:=hr12
 cases hB
 refine .q 1 hG fun b6 => ?_
 refine .q 5 hG ?_
 refine .km hG (b8l _ _) .z1 (by rintro _ _ ⟨_,rfl,_⟩;exact⟨_,rfl⟩) fun r15 B15 hr15 => ?_
 obtain⟨x15,hB,rfl,rfl⟩:=hr15
 cases hB
 refine .q 2 hG ?_
 refine a9k hC 16 rfl .z1 ?_
 refine .q 2 hG fun b7 => ?_
 refine .q 4 hG ?_
 refine .a0m [j6,j6,j6,j5,j5,j6] (by kernel_rfl) 6 [[],[],[],[(18,0)],[(19,1)],[(20,2)]] [3,4] j0 (by kernel_rfl) j0 (by kernel_rfl) (by decide) ?_
 refine⟨_,fun H=>OpP.ldW b0Y (.t j0) (H9.app .z) j0,?_⟩
 refine⟨_,fun H=>OpP.ldW T6 (.t j0) (H9.app .z1) j0,?_⟩
 refine⟨_,fun H=>OpP.move (.t j0) j0,?_⟩
 refine .inl (.inl ?_)
 refine⟨_,fun H=>OpP.assign (.t j0) j0,?_⟩
 refine⟨⟨([],j7 [j4,j4,j4,_,_,j4]),j0⟩,?_⟩
 refine OpH.stW b0Y (.t rfl) (.t rfl) .z4 ?_
 refine⟨⟨([],j7 [j4,j4,j4,_,_,j4]),j0⟩,?_⟩
 refine OpH.stW T6 (.t rfl) (.t rfl) .z3 ?_
 refine⟨⟨([],j7 [j4,j4,j4,_,_,j4]),j0⟩,?_⟩
 show wpB _ _ _ _ _ [] ((4,_)::(20,_)::(19,_)::(18,_)::_) _
 refine .q 2 hG ?_
 refine⟨_,.r3 j0 (.cell b0Y j0 .z4) (.cell T6 j0 .z3) (.tmp j0),?_⟩
 rw [ha12,he12,ha10,he10,a6B.1,a6B.2.1,a6B.2.2]
def c5s:Go.Shelf.Ren where
 f n:=if n=14 then 200 else 235
 t n:=match n with|0=>0|3=>3|4=>4|5=>5|9=>9|20=>20|22=>34|26=>168|_=>0
 g n:=n
set_option maxRecDepth 100000 in
theorem d0x:SlLaysJ.n14 prog c5s where
 mixed:=by kernel_rfl
 f14:=by kernel_rfl
 f15:=by kernel_rfl
 t0:=by kernel_rfl
 a0:=a9W underlying0 rfl
 z0:=a8s (by kernel_rfl)
 v0:=a9X (by kernel_rfl)
 t3:=by kernel_rfl
 a3:=a9W underlying3 rfl
 z3:=a8s (by kernel_rfl)
 v3:=a9X (by kernel_rfl)
 t4:=by kernel_rfl
 a4:=a9W underlying4 rfl
 z4:=a8s (by kernel_rfl)
 v4:=a9X (by kernel_rfl)
 t9:=by kernel_rfl
 a9:=a9W underlying9 rfl
 z9:=a8s (by kernel_rfl)
 v9:=a9X (by kernel_rfl)
 t20:=by kernel_rfl
 a20:=a9W underlying20 rfl
 z20:=a8s (by kernel_rfl)
 v20:=a9X (by kernel_rfl)
 t22:=by kernel_rfl
 a22:=a9W underlying34 rfl
 z22:=a8s (by kernel_rfl)
 v22:=a9X (by kernel_rfl)
 t26:=by kernel_rfl
 a26:=a9W underlying168 rfl
 z26:=a8s (by kernel_rfl)
 v26:=a9X (by kernel_rfl)
 t5:=by kernel_rfl
 z5:=a8s (by kernel_rfl)
 i5:=by kernel_rfl
theorem c7Q (ls:List (List UInt8))(h2:2≤ls.length)(hn:ls.length≤1000000)(hl:Lib.lens ls≤1000000000):C3 gl prog 200 [.v ls,.v ([]:List UInt8)] (fun r=>r = .v ls.flatten) :=
 b9m d0x ⟨_,func200,by kernel_rfl,rfl⟩ ls h2 (by omega) (by omega)
theorem b0t (s:Str)(b:List UInt8)(hs:s.l.length≤1000)(hb:b.length≤1000000):C3 gl prog 199 [.v s,.v b] (fun r=>r = .v (s.l++b)):=by
 refine C3.jn func199 (by kernel_rfl) 9 rfl fun C hC hG => ?_
 refine .q 7 hG ?_
 refine .h (.a5a underlying9 underlying34 underlying5 (.t j0) fun w6 => ?_)
 refine .q 1 hG ?_
 refine .ap (by first|omega|(simp;done)|(simp;omega)|(simp at *;omega)) (by first|omega|(simp;done)|(simp;omega)|(simp at *;omega)) fun w8 => ?_
 refine .q 2 hG ?_
 refine .Q4 hC .z (.as 4 j0 .z ?_)
 refine .q 1 hG ?_
 refine .e1 j0 j0 ?_
 rfl
abbrev Item:=o8
def L6 (x:Item):Int :=
 if x.Kind < 1∨3 < x.Kind then 6
 else if (x.Kind≠1∧0 < x.O6.length)∨(x.Kind=3∧x.Number≠0)∨(x.Kind≠3∧x.Node≠default) then 9
 else if x.Place < 1∨4096 < x.Place∨(x.Kind≠3∧(x.Number < 1∨1000 < x.Number)) then 1
 else if x.Kind=1∧(x.O6.length < 1∨1024 < x.O6.length) then 2 else 0
def b2U:Str:=⟨[105,116,101,109]⟩
def U6 (x:Item):List UInt8:=b2U.l++(D4 x.Place.toNat++D4 x.Kind.toNat++D4 x.Number.toNat++x.Node.l++(D4 x.O6.length++x.O6))
def X4 (x:Item):List UInt8×Int:=if L6 x≠0 then ([],L6 x) else (U6 x,0)
structure c7R (x:Item):Prop where
 kind:1≤x.Kind∧x.Kind≤3
 place:1≤x.Place∧x.Place≤4096
 num:0≤x.Number∧x.Number≤1000
 box:x.O6.length≤1024
theorem c22 {x:Item}(h:L6 x=0):c7R x:=by
 unfold L6 at h
 split at h
 ·cases h
 ·split at h
  ·cases h
  ·split at h
   ·cases h
   ·split at h
    ·cases h
    ·next h1 h2 h3 h4=>exact⟨by omega,by omega,by omega,by omega⟩
theorem b4R (n:Int):C3 gl prog 86 [.v n] (fun r=>r = .v (decide (1≤n)&&decide (n≤1000))):=by
 refine C3.jn func86 (by kernel_rfl) 9 rfl fun C hC hG => ?_
 refine .q 15 hG ?_
 refine .e1 j0 j0 ?_
 rfl
theorem b4S (n:Int):C3 gl prog 85 [.v n] (fun r=>r = .v (decide (1≤n)&&decide (n≤4096))):=by
 refine C3.jn func85 (by kernel_rfl) 9 rfl fun C hC hG => ?_
 refine .q 15 hG ?_
 refine .e1 j0 j0 ?_
 rfl
theorem b4T (x:Item):C3 gl prog 196 [.v x] (fun r=>r = .v (L6 x)):=by
 refine C3.jn func196 (by kernel_rfl) 79 rfl fun C hC hG => ?_
 refine .q 3 hG fun b1 => ?_
 refine .q 3 hG ?_
 refine .draw (by kernel_rfl) 8 [[],[(6,0)],[(7,1)],[],[(9,3)],[(10,4)],[(8,2)],[(11,5)]] j0 (by kernel_rfl) j0 ?_
 refine⟨_,OpP.P4 o8.l1 b2d j0 (.t j0) j0,?_⟩
 refine⟨_,OpP.ldF (fun x=>x.Kind) ty3 (.t j0) .z (fun _=>j0) j0,?_⟩
 refine⟨_,OpP.b5A (.t j0) (.i j0) j0,?_⟩
 refine⟨_,OpP.P4 o8.l1 b2d j0 (.t j0) j0,?_⟩
 refine⟨_,OpP.ldF (fun x=>x.Kind) ty3 (.t j0) .z (fun _=>j0) j0,?_⟩
 refine⟨_,OpP.b5A (.t j0) (.i j0) j0,?_⟩
 refine⟨_,OpP.assign (.t j0) j0,?_⟩
 refine⟨_,OpP.assign (.t j0) j0,?_⟩
 show wpB _ _ _ _ _ [] ((4,_)::(3,_)::(11,_)::(10,_)::(9,_)::(8,_)::(7,_)::(6,_)::_) _
 refine .q 22 hG ?_
 refine .cond (.t j0) (fun hc16 => ?_) (fun hc16 => ?_)
 ·refine .q 5 hG ?_
  refine .e1 j0 j0 ?_
  refine congrArg AV.v ?_
  simp only [Bool.and_eq_true,Bool.or_eq_true,Bool.not_eq_true',Bool.not_eq_false',Bool.and_eq_false_iff,Bool.or_eq_false_iff,decide_eq_true_eq,decide_eq_false_iff_not,ne_eq,Decidable.not_not] at *
  unfold L6
  by_cases hn:x.Node=default<;>simp only [hn,ne_eq,not_true,not_false_eq_true,and_true,and_false,or_false,false_or,true_and,or_true,true_or] at * <;> (repeat' split)<;>omega
 ·refine .q 11 hG ?_
  refine .goU 32 j0 (.t j0) (fun hg34 => .move (.q j0 hg34) j0) (.gn 34 j0 j0 (fun hc35 hg35 => .P4 o8.l3 b7x j0 (.t j0) j0) (.gn 34 j0 j0 (fun hc36 hg36 => .ldF (fun x=>x.Node) T6 (.ou j0 (Bool.and_eq_true_iff.2 ⟨hc36,beq_iff_eq.2 hg36⟩)) .z (fun _=>j0) j0) (.gn 34 j0 j0 (fun hc37 hg37 => .a1p (default:(M1 32 UInt8)) T6 a1j .nil j0 j0) (.gn 34 j0 j0 (fun hc38 hg38 => .c84 underlying28 sz5 underlying5 b8Y (.ou j0 (Bool.and_eq_true_iff.2 ⟨hc38,beq_iff_eq.2 hg38⟩)) (.ou j0 (Bool.and_eq_true_iff.2 ⟨hc38,beq_iff_eq.2 hg38⟩)) j0) (.go 32 j0 (.t j0) (fun hg39 => .a2C (.ou j0 (beq_iff_eq.2 hg39)) (fun hp=>(.ou j0 (Bool.and_eq_true_iff.2 ⟨(beq_iff_eq.2 hg39),beq_iff_eq.2 hp⟩))) j0) ?_)))))
  refine .q 4 hG ?_
  refine .goU 41 j0 (.t j0) (fun hg44 => .move (.q j0 hg44) j0) (.gn 44 j0 j0 (fun hc45 hg45 => .P4 o8.l4 b2f j0 (.t j0) j0) (.gn 44 j0 j0 (fun hc46 hg46 => .ldF (fun x=>x.O6) a88 (.ou j0 (Bool.and_eq_true_iff.2 ⟨hc46,beq_iff_eq.2 hg46⟩)) .z (fun _=>j0) j0) (.gn 44 j0 j0 (fun hc47 hg47 => .len underlying34 (.ou j0 (Bool.and_eq_true_iff.2 ⟨hc47,beq_iff_eq.2 hg47⟩)) j0) (.gn 44 j0 j0 (fun hc48 hg48 => .gtr (.ou j0 (Bool.and_eq_true_iff.2 ⟨hc48,beq_iff_eq.2 hg48⟩)) (.i j0) j0) (.go 41 j0 (.t j0) (fun hg49 => .a2C (.ou j0 (beq_iff_eq.2 hg49)) (fun hp=>(.ou j0 (Bool.and_eq_true_iff.2 ⟨(beq_iff_eq.2 hg49),beq_iff_eq.2 hp⟩))) j0) ?_)))))
  refine .q 3 hG ?_
  refine .cond (.t j0) (fun hc24 => ?_) (fun hc24 => ?_)
  ·refine .q 5 hG ?_
   refine .e1 j0 j0 ?_
   refine congrArg AV.v ?_
   simp only [Bool.and_eq_true,Bool.or_eq_true,Bool.not_eq_true',Bool.not_eq_false',Bool.and_eq_false_iff,Bool.or_eq_false_iff,decide_eq_true_eq,decide_eq_false_iff_not,ne_eq,Decidable.not_not] at *
   unfold L6
   by_cases hn:x.Node=default<;>simp only [hn,ne_eq,not_true,not_false_eq_true,and_true,and_false,or_false,false_or,true_and,or_true,true_or] at * <;> (repeat' split)<;>omega
  ·refine .q 4 hG ?_
   refine .k hG (b4S _) ?_
   refine .q 3 hG ?_
   refine .goU 56 j0 (.t j0) (fun hg58 => .move (.q j0 hg58) j0) (.gn 58 j0 j0 (fun hc59 hg59 => .P4 o8.l2 b2e j0 (.t j0) j0) (.gn 58 j0 j0 (fun hc60 hg60 => .ldF (fun x=>x.Number) ty3 (.ou j0 (Bool.and_eq_true_iff.2 ⟨hc60,beq_iff_eq.2 hg60⟩)) .z (fun _=>j0) j0) (.gn 58 j0 j0 (fun hc61 hg61 => .J7 hG (b4R _) (.cons (.ou j0 (Bool.and_eq_true_iff.2 ⟨hc61,beq_iff_eq.2 hg61⟩)) .nil) j0) (.gn 58 j0 j0 (fun hc62 hg62 => .not (.ou j0 (Bool.and_eq_true_iff.2 ⟨hc62,beq_iff_eq.2 hg62⟩)) j0) (.go 56 j0 (.t j0) (fun hg63 => .a2C (.ou j0 (beq_iff_eq.2 hg63)) (fun hp=>(.ou j0 (Bool.and_eq_true_iff.2 ⟨(beq_iff_eq.2 hg63),beq_iff_eq.2 hp⟩))) j0) ?_)))))
   refine .q 3 hG ?_
   refine .cond (.t j0) (fun hc51 => ?_) (fun hc51 => ?_)
   ·refine .q 5 hG ?_
    refine .e1 j0 j0 ?_
    refine congrArg AV.v ?_
    simp only [Bool.and_eq_true,Bool.or_eq_true,Bool.not_eq_true',Bool.not_eq_false',Bool.and_eq_false_iff,Bool.or_eq_false_iff,decide_eq_true_eq,decide_eq_false_iff_not,ne_eq,Decidable.not_not] at *
    unfold L6
    by_cases hn:x.Node=default<;>simp only [hn,ne_eq,not_true,not_false_eq_true,and_true,and_false,or_false,false_or,true_and,or_true,true_or] at * <;> (repeat' split)<;>omega
   ·refine .q 8 hG ?_
    refine .goU 67 j0 (.t j0) (fun hg72 => .move (.q j0 hg72) j0) (.gn 72 j0 j0 (fun hc73 hg73 => .P4 o8.l4 b2f j0 (.t j0) j0) (.gn 72 j0 j0 (fun hc74 hg74 => .ldF (fun x=>x.O6) a88 (.ou j0 (Bool.and_eq_true_iff.2 ⟨hc74,beq_iff_eq.2 hg74⟩)) .z (fun _=>j0) j0) (.gn 72 j0 j0 (fun hc75 hg75 => .len underlying34 (.ou j0 (Bool.and_eq_true_iff.2 ⟨hc75,beq_iff_eq.2 hg75⟩)) j0) (.gn 72 j0 j0 (fun hc76 hg76 => .gtr (.ou j0 (Bool.and_eq_true_iff.2 ⟨hc76,beq_iff_eq.2 hg76⟩)) (.i j0) j0) (.go 67 j0 (.t j0) (fun hg77 => .b5S (.ou j0 (beq_iff_eq.2 hg77)) (fun hp=>(.ou j0 (Bool.and_eq_true_iff.2 ⟨(beq_iff_eq.2 hg77),beq_iff_eq.2 hp⟩))) j0) ?_)))))
    refine .q 3 hG ?_
    refine .cond (.t j0) (fun hc65 => ?_) (fun hc65 => ?_)
    ·refine .q 5 hG ?_
     refine .e1 j0 j0 ?_
     refine congrArg AV.v ?_
     simp only [Bool.and_eq_true,Bool.or_eq_true,Bool.not_eq_true',Bool.not_eq_false',Bool.and_eq_false_iff,Bool.or_eq_false_iff,decide_eq_true_eq,decide_eq_false_iff_not,ne_eq,Decidable.not_not] at *
     unfold L6
     by_cases hn:x.Node=default<;>simp only [hn,ne_eq,not_true,not_false_eq_true,and_true,and_false,or_false,false_or,true_and,or_true,true_or] at * <;> (repeat' split)<;>omega
    ·refine .q 6 hG ?_
     refine .e1 j0 j0 ?_
     refine congrArg AV.v ?_
     simp only [Bool.and_eq_true,Bool.or_eq_true,Bool.not_eq_true',Bool.not_eq_false',Bool.and_eq_false_iff,Bool.or_eq_false_iff,decide_eq_true_eq,decide_eq_false_iff_not,ne_eq,Decidable.not_not] at *
     unfold L6
     by_cases hn:x.Node=default<;>simp only [hn,ne_eq,not_true,not_false_eq_true,and_true,and_false,or_false,false_or,true_and,or_true,true_or] at * <;> (repeat' split)<;>omega
theorem b6Y {x:Item}{e:Int}(h:L6 x=e)(he:e≠0):X4 x=([],e):=by unfold X4;rw [h,if_pos he]
theorem b0u {x:Item}(h:L6 x=0):X4 x=(U6 x,0):=by unfold X4;rw [h,if_neg (by decide)]
theorem b6Z (x:Item)(hx:x.O6.length≤1000000):C3 gl prog 147 [.v x] (fun r=>r = .t2 (.v (X4 x).1) (.v (X4 x).2)):=by
 refine C3.jn func147 (by kernel_rfl) 53 rfl fun C hC hG => ?_
 refine .q 3 hG fun b1 => ?_
 refine .q 5 hG ?_
 refine .T7 hC .z (.asP 1 j0 .z ?_)
 refine .q 2 hG ?_
 refine .k hG (b4T _) ?_
 refine .q 8 hG ⟨fun hc17 => ?_,fun hc17 => ?_⟩
 ·refine .q 7 hG ?_
  refine .e2 j0 j0 j0 ?_
  rw [b6Y rfl hc17]
 ·refine .q 2 hG ?_
  have h0:L6 x=0:=by omega
  obtain⟨⟨k1,k2⟩,⟨p1,p2⟩,⟨n1,n2⟩,bx⟩:=c22 h0
  have l1:=H4 (n:=x.Place.toNat) (by omega)
  have l2:=H4 (n:=x.Kind.toNat) (by omega)
  have l3:=H4 (n:=x.Number.toNat) (by omega)
  have l4:=H4 (n:=x.O6.length) (by omega)
  refine .q 3 hG ?_
  refine .p (.J7 hG ((Z6 _ _ (by decide) (by omega) (by omega)).b9e) (.cons .b0S (.cons (.t j0) .nil)) ?_)
  refine .q 10 hG ?_
  refine .p (.J7 hG ((Z6 _ _ (by decide) (by omega) (by omega)).b9e) (.cons .b0S (.cons (.t j0) .nil)) ?_)
  refine .q 10 hG ?_
  refine .p (.J7 hG ((Z6 _ _ (by decide) (by omega) (by omega)).b9e) (.cons .b0S (.cons (.t j0) .nil)) ?_)
  refine .q 10 hG ?_
  refine .p (.J7 hG (a9n _ _ (by decide) (by omega)) (.cons .b0S (.cons (.t j0) .nil)) ?_)
  refine .q 12 hG ?_
  refine .p (.a1Q (by decide) a1j (.t j0) ?_)
  refine .q 1 hG ?_
  refine .p (.a1p (⟨[_,_,_,_,_],j0⟩:(M1 5 (List UInt8))) c6B c57 (.cons (j9.idx 0 (by decide)) _ j0 (.t j0) (.cons (j9.idx 1 (by decide)) _ j0 (.t j0) (.cons (j9.idx 2 (by decide)) _ j0 (.t j0) (.cons (j9.idx 3 (by decide)) _ j0 (.t j0) (.cons (j9.idx 4 (by decide)) _ j0 (.t j0) .nil))))) j0 ?_)
  refine .q 1 hG fun b13 => ?_
  refine .q 3 hG ?_
  refine .T7 hC .z (.asP 13 j0 .z ?_)
  refine .q 1 hG ?_
  refine .p (.a1Q (by decide) c57 (.t j0) (.p (.J7 hG (c7Q _ (by simp) (by simp) (by simp [Lib.lens,M1.len];omega)) (.cons (.t j0) (.cons .b0S .nil)) (.p (.J7 hG (b0t _ _ (by decide) (by simp [M1.len];omega)) (.cons (.s [105,116,101,109] (by decide) (by decide)) (.cons (.t j0) .nil)) ?_)))))
  refine .q 4 hG ?_
  refine .e2 j0 j0 j0 ?_
  rw [b0u h0];simp [U6,b2U]
def K9 (a:E7)(k:Tag)(x:Item):E7×Item×Int :=
 if L6 x≠0 then (default,default,L6 x) else
 if (P0 a k (U6 x)).2.2≠0 then (default,default,(P0 a k (U6 x)).2.2) else ((P0 a k (U6 x)).1,{ x with Tag:=(P0 a k (U6 x)).2.1 },0)
def c8s (a:E7)(k:Tag)(x:Item):Int :=
 if L6 x≠0 then L6 x else if (a4n a k (U6 x)).2=false∨(a4n a k (U6 x)).1≠x.Tag then 19 else 0
theorem b4U {x:Item}:(X4 x).2=L6 x:=by unfold X4;split<;>first|rfl|omega
def b0v (a b:Item):Bool:=decide (a.Place=b.Place)&&decide (a.Kind=b.Kind)&&decide (a.Number=b.Number)&&decide (a.Node=b.Node)&&decide (a.Tag=b.Tag)&&decide (a.O6=b.O6)
theorem b4V (a b:Item):C3 gl prog 50 [.v a,.v b] (fun r=>r = .v (b0v a b)):=by
 refine C3.jn func50 (by kernel_rfl) 45 rfl fun C hC hG => ?_
 refine .q 3 hG fun b2 => ?_
 refine .q 1 hG fun b3 => ?_
 refine .q 28 hG ?_
 refine .go 24 j0 (.t j0) (fun hg29 => .b3J underlying28 sz5 underlying5 b8Y (.q j0 hg29) (.q j0 hg29) j0) ?_
 refine .q 6 hG ?_
 refine .go 31 j0 (.t j0) (fun hg36 => .b3J underlying28 sz5 underlying5 b8Y (.q j0 hg36) (.q j0 hg36) j0) ?_
 refine .q 6 hG ?_
 refine .go 38 j0 (.t j0) (fun hg43 => .J7 hG (b2D _ _) (.cons (.q j0 hg43) (.cons (.q j0 hg43) .nil)) j0) ?_
 refine .q 4 hG ?_
 refine .e1 j0 j0 ?_
 rfl
def a4H (e f:Int):Int:=if e=0 then f else e
theorem b2V (w:Value)(s:MkU)(k:Tag)(x:Item)(hx:x.O6.length≤1000000)(hl:s.a.F7.length≤1000000):C5 gl prog 90 [mp w,.v k,.v x] [.P2 w s]
    (fun r Hs=>∃ s':MkU,Hs = [.P2 w s']∧r = .v ({ x with Tag:=(M9 s.a (a4H s.e (L6 x)) k (X4 x).1).1 }:Item)∧s'.a=(M9 s.a (a4H s.e (L6 x)) k (X4 x).1).2.1∧s'.e=(M9 s.a (a4H s.e (L6 x)) k (X4 x).1).2.2):=by
  refine C5.Z8 func90 rfl (by kernel_rfl) 27 rfl rfl _ rfl _ rfl fun C hC hG => ?_
  refine .q 3 hG fun b4 => ?_
  refine .q 1 hG fun b5 => ?_
  refine .q 1 hG fun b6 => ?_
  refine .q 4 hG ?_
  refine .k hG (b6Z _ hx) ?_
  refine .q 10 hG ?_
  refine .km hG (a9l _ _ _) .z3 (by rintro _ _ ⟨_,rfl,_⟩;exact⟨_,rfl⟩) fun r16 B16 hr16 => ?_
  obtain⟨x16,hB,ha16,he16⟩:=hr16
  cases hB
  refine .q 5 hG ?_
  refine .k hG (P9 _ (by first|omega|(simp;done)|(simp;omega)|(simp at *;omega))) ?_
  refine .q 8 hG ?_
  refine .km hG (c2o _ _ _ _ (by rw [ha16];exact hl)) .z3 (by rintro _ _ ⟨_,rfl,_⟩;exact⟨_,rfl⟩) fun r24 B24 hr24 => ?_
  obtain⟨x24,hB,rfl,ha24,he24⟩:=hr24
  cases hB
  refine .q 9 hG ?_
  refine⟨_,.r1 j0 (.cell a2Y j0 .z),?_⟩
  refine⟨_,.cons .z3 (.nil),?_⟩
  rw [ha16,he16,b4U] at ha24 he24 ⊢
  exact⟨x24,j0,j0,ha24,he24⟩
theorem b2W (w:Value)(s:MkU)(x:Item):C5 gl prog 89 [mp w,.v x] [.P2 w s]
    (fun r Hs=>∃ s':MkU,Hs = [.P2 w s']∧r = .t3 (.v (if s.e≠0 then default else a5l s.a s.um s.ub)) (.v (if s.e≠0 then default else x)) (.v s.e)∧s'=s):=by
  refine C5.Z8 func89 rfl (by kernel_rfl) 21 rfl rfl _ rfl _ rfl fun C hC hG => ?_
  refine .q 3 hG fun b3 => ?_
  refine .h (.alloc a2m fun b4 => ?_)
  refine .q 1 hG fun b5 => ?_
  refine .q 5 hG ?_
  refine .km hG (b8l _ _) .z3 (by rintro _ _ ⟨_,rfl,_⟩;exact⟨_,rfl⟩) fun r11 B11 hr11 => ?_
  obtain⟨x11,hB,rfl,rfl⟩:=hr11
  cases hB
  refine .q 3 hG ?_
  refine .h (.alloc a2m fun b7 => .n (.stW a2m (.t j0) (.t j0) .z ?_))
  refine .q 9 hG ⟨fun hc15 => ?_,fun hc15 => ?_⟩
  · refine .q 2 hG ?_
    refine .p (.bS0 (α:=y1) j0 a2m c3U (.p (.bS0 (α:=o8) j0 a2Y b7y ?_)))
    refine .q 1 hG ?_
    refine .n (.stW a2m (.t j0) (.t j0) .z2 ?_)
    refine .q 4 hG ?_
    refine⟨_,.r3 j0 (.cell a2m j0 .z2) (.cell a2Y j0 .z1) (.tmp j0),?_⟩
    refine⟨_,.cons .z4 (.nil),?_⟩
    rw [if_pos hc15,if_pos hc15];exact⟨_,rfl,rfl,rfl⟩
  · refine .q 2 hG ?_
    refine .a0m [j6,j5,j5,j6,j6] (by kernel_rfl) 5 [[],[],[(19,0)],[(20,1)],[]] [2,3] j0 (by kernel_rfl) j0 (by kernel_rfl) (by decide) ?_
    refine⟨_,fun H=>OpP.ldW a2m (.t j0) (H9.app .z) j0,?_⟩
    refine⟨_,fun H=>OpP.ldW a2Y (.t j0) (H9.app .z3) j0,?_⟩
    refine .inl (.inl ?_)
    refine⟨_,fun H=>OpP.assign (.i j0) j0,?_⟩
    refine⟨⟨([],j7 [j4,_,_,j4,j4]),j0⟩,?_⟩
    refine OpH.stW a2m (.t rfl) (.t rfl) .z2 ?_
    refine⟨⟨([],j7 [j4,_,_,j4,j4]),j0⟩,?_⟩
    refine OpH.stW a2Y (.t rfl) (.t rfl) .z1 ?_
    refine⟨⟨([],j7 [j4,_,_,j4,j4]),j0⟩,?_⟩
    show wpB _ _ _ _ _ [] ((6,_)::(20,_)::(19,_)::_) _
    refine .q 2 hG ?_
    refine⟨_,.r3 j0 (.cell a2m j0 .z2) (.cell a2Y j0 .z1) (.tmp j0),?_⟩
    refine⟨_,.cons .z4 (.nil),?_⟩
    rw [if_neg hc15,if_neg hc15,show x11.e=0 by omega];exact⟨_,rfl,rfl,rfl⟩
theorem a8G (a : E7)(k : Tag)(x : Item) : (if (M9 a (a4H 0 (L6 x)) k (X4 x).1).2.2 ≠ 0 then (default, default, (M9 a (a4H 0 (L6 x)) k (X4 x).1).2.2) else
    ((M9 a (a4H 0 (L6 x)) k (X4 x).1).2.1,({ x with Tag:=(M9 a (a4H 0 (L6 x)) k (X4 x).1).1 }:Item),0))=K9 a k x:=by
  unfold K9 a4H
  rw [if_pos rfl]
  by_cases h:L6 x=0
  · rw [h,if_neg (show ¬(0:Int)≠0 by decide),a1u rfl rfl,b0u h]
    by_cases h2:(P0 a k (U6 x)).2.2=0
    · simp only [h2,ne_eq,not_true,if_false,if_true]
    · simp only [ne_eq,h2,not_false_eq_true,if_true]
  · rw [if_pos h,a3V h];simp only [ne_eq,h,not_false_eq_true,if_true]
theorem c7S (a:E7)(k:Tag)(x:Item)(hx:x.O6.length≤1000000)(hl:a.F7.length≤1000000):C3 gl prog 149 [.v a,.v k,.v x] (fun r=>r = .t3 (.v (K9 a k x).1) (.v (K9 a k x).2.1) (.v (K9 a k x).2.2)):=by
 refine C3.jn func149 (by kernel_rfl) 21 rfl fun C hC hG => ?_
 refine .q 3 hG fun b3 => ?_
 refine .q 1 hG fun b4 => ?_
 refine .q 1 hG fun b5 => ?_
 refine .q 1 hG fun b6 => ?_
 refine .q 1 hG fun b7 => ?_
 refine .q 5 hG ?_
 refine .k0 hG (a9i _) fun r11 Hs11 hr11 => ?_
 obtain⟨w11,x11,rfl,rfl,ha11,he11⟩:=hr11
 show wpB _ _ _ _ _ _ _ ((true,_)::_)
 refine .ag j0 ?_
 refine .q 3 hG ?_
 refine .mv j0 (.mv j0 (.p (.ldW T6 (.t j0) .z4 (.p (.ldW a2Y (.t j0) .z3 (.h (.a8h hG (b2V _ _ _ _ hx (by rw [ha11];exact hl)) .z (.cons (.t j0) (.cons (.t j0) (.cons (.t j0) .nil))) (by rintro _ _ ⟨_,rfl,_⟩;exact⟨_,rfl⟩) fun r16 B16 hr16 => ?_)))))))
 obtain⟨x16,hB,rfl,ha16,he16⟩:=hr16
 cases hB
 refine .km hG (b2W _ _ _) .z (by rintro _ _ ⟨_,rfl,_⟩;exact⟨_,rfl⟩) fun r17 B17 hr17 => ?_
 obtain⟨x17,hB,rfl,rfl⟩:=hr17
 cases hB
 refine .q 1 hG ?_
 refine a9k hC 18 rfl .z (.p (.b2m (.t rfl) (.p (.b2n (.t rfl) (.n (.stW b0Y (.t rfl) (.t rfl) .z2 (.n (.stW a2Y (.t rfl) (.t rfl) .z1 (.ag rfl ?_)))))))))
 refine .q 2 hG ?_
 refine⟨_,.r3 j0 (.cell b0Y j0 .z2) (.cell a2Y j0 .z1) (.tmp j0),?_⟩
 have h:=a8G a k x
 rw [ha11,he11] at ha16 he16 ⊢
 rw [←ha16,←he16] at h
 rw [←h]
 by_cases h0:x17.e=0
 ·simp only [h0,ne_eq,not_true,if_false]
 ·simp only [ne_eq,h0,not_false_eq_true,if_true]
def a6d (d:l9)(a4R:Int):l9 := { d with a0F:=d.D9+1,a3b:=a4R }
theorem c5t (d:l9)(n:Int)(h : -9000000000≤d.D9∧d.D9≤9000000000):C3 gl prog 12 [.v d,.v n] (fun y=>y = .v (a6d d n)):=by
 refine .go func12 j0 12 [.cell 4 37] j0 (by kernel_rfl) fun C hG => ?_
 exact .z hG (by kernel_rfl) fun _ _=>⟨by omega,by omega,rfl⟩
theorem c23 (d:l9)(h:d.B9=0∨d.B9=1):C3 gl prog 15 [.v d] (fun y=>y = .v (D8 d)):=by
 refine .go func15 j0 9 [.tmp 2] j0 (by kernel_rfl) fun C hG => ?_
 have hd:d.B9.toNat &&& Int.toNat 1=d.B9.toNat:=by
  rcases h with h|h<;>rw [h]<;>rfl
 refine .z hG (by kernel_rfl) fun b=>⟨by omega,by decide,by omega,?_,?_⟩
 ·rw [hd];rcases h with h|h<;>rw [h]<;>decide
 ·rw [hd];rfl
theorem c5u (n:Int):C3 gl prog 54 [.v n] (fun r=>r = .t2 (.v (a2n n).1) (.v (a2n n).2)):=by
 refine .go func54 j0 13 [.cell 2 37,.tmp 3] j0 (by kernel_rfl) fun C hG=>(.z hG (by kernel_rfl) fun b2=>⟨fun h => ?_,fun h => ?_⟩)
 ·unfold a2n;rw [if_pos h]
 ·unfold a2n;rw [if_neg h]
theorem b2X (a b:D5)(h:a.Live.length≤1000000):C3 gl prog 18 [.v a,.v b] (fun y=>y = .v (decide (a=b))):=by
 refine .go func18 j0 38 [.tmp 4] j0 (by kernel_rfl) fun C hG=>(.z hG (by kernel_rfl) fun b2 b3=>⟨fun h1 => ?_,fun h1 => ?_⟩)
 ·rw [decide_eq_false];rintro rfl;simp at h1
 refine .lp hG (fun k:Nat => [(5,.v (k:Int))]) (fun k => []) (fun k=>k≤a.Live.length∧a.Live.take k=b.Live.take k) (fun k=>a.Live.length - k) 0 (by kernel_rfl) ⟨j0,⟨Nat.zero_le _,j0⟩,fun k ⟨h2,h3⟩ => ?_⟩
 have hl:a.Live.length=b.Live.length:=by omega
 rw [Int.toNat_natCast]
 refine⟨fun h4=>⟨by omega,h4,by omega,by omega,fun h5 => ?_,fun h5=>⟨by omega,by omega,k+1,rfl,⟨by omega,a2Q (by omega) (by omega) h3 (Classical.not_not.1 h5)⟩,by omega⟩⟩,fun h4 => ?_⟩
 ·rw [decide_eq_false];rintro rfl;exact h5 rfl
 ·have e:a.Live=b.Live:=by rwa [List.take_of_length_le (by omega),List.take_of_length_le (by omega)] at h3
  have e2:a.H7=b.H7:=by omega
  cases a;cases b
  rw [decide_eq_true]
  simp_all
def a0H (key:Tag)(n:Int):l8×Int:=if (a2n n).2≠0 then (default,(a2n n).2) else ({ (default:l8) with C9:=key,Device:=(a2n n).1,Up:=true },0)
instance (n:Int):Q5 gl prog 54 [.v n] [] (.t2 (.v (a2n n).1) (.v (a2n n).2)):=⟨fun hh=>c5u n⟩
theorem c5v (key:Tag)(n:Int):C3 gl prog 22 [.v key,.v n] (fun r=>r = .t2 (.v (a0H key n).1) (.v (a0H key n).2)):=by
 refine .go func22 j0 20 [.cell 4 39,.tmp 5] j0 (by kernel_rfl) fun C hG=>(.z hG (by kernel_rfl) fun _ _ _=>⟨fun h => ?_,fun h => ?_⟩)
 ·unfold a0H;rw [if_pos h]
 ·unfold a0H;rw [if_neg h]
theorem b4W (a b:o8):b0v a b=decide (a=b):=by
 rw [Bool.eq_iff_iff]
 cases a;cases b
 simp only [b0v,Bool.and_eq_true,decide_eq_true_eq,o8.mk.injEq]
 constructor
 ·rintro⟨⟨⟨⟨⟨h1,h2⟩,h3⟩,h4⟩,h5⟩,h6⟩;exact⟨h1,h2,h3,h4,h6,h5⟩
 ·rintro⟨h1,h2,h3,h4,h6,h5⟩;exact⟨⟨⟨⟨⟨h1,h2⟩,h3⟩,h4⟩,h5⟩,h6⟩
theorem b2Y (a b:o8):C3 gl prog 50 [.v a,.v b] (fun r=>r = .v (decide (a=b))):=(b4V a b).mono fun r h=>by rw [h,b4W]
instance (a:o8)(b:o8):Q5 gl prog 50 [.v a,.v b] [] (.v (decide (a=b))):=⟨fun hh=>b2Y a b⟩
theorem b1d (a b:List o8)(h:a.length≤1000000):C3 gl prog 16 [.v a,.v b] (fun y=>y = .v (decide (a=b))):=by
 refine .go func16 j0 27 [.tmp 4] j0 (by kernel_rfl) fun C hG=>(.z hG (by kernel_rfl) ⟨fun h1 => ?_,fun h1 => ?_⟩)
 ·rw [decide_eq_false];rintro rfl;exact h1 rfl
 refine .lp hG (fun k:Nat => [(5,.v (k:Int))]) (fun k => []) (fun k=>k≤a.length∧a.take k=b.take k) (fun k=>a.length - k) 0 (by kernel_rfl) ⟨j0,⟨Nat.zero_le _,j0⟩,fun k ⟨h2,h3⟩ => ?_⟩
 have hl:a.length=b.length:=by omega
 rw [Int.toNat_natCast]
 refine⟨fun h4=>⟨by omega,h4,by omega,by omega,fun h5 => ?_,fun h5=>⟨by omega,by omega,k+1,rfl,⟨by omega,a2Q (by omega) (by omega) h3 (by simpa using h5)⟩,by omega⟩⟩,fun h4 => ?_⟩
 ·rw [decide_eq_false];rintro rfl;exact h5 (by simp)
 ·have e:a=b:=by rwa [List.take_of_length_le (by omega),List.take_of_length_le (by omega)] at h3
  rw [decide_eq_true e]
instance (a:List UInt8)(b:List UInt8):Q5 gl prog 19 [.v a,.v b] [] (.v (decide (a=b))):=⟨fun hh=>b2D a b⟩
theorem c25 (a b:List Cav)(h:a.length≤1000000):C3 gl prog 78 [.v a,.v b] (fun y=>y = .v (decide (a=b))):=by
 refine .go func78 j0 62 [.tmp 4] j0 (by kernel_rfl) fun C hG=>(.z hG (by kernel_rfl) ⟨fun h1 => ?_,fun h1 => ?_⟩)
 ·rw [decide_eq_false];rintro rfl;exact h1 rfl
 refine .lp hG (fun k:Nat => [(5,.v (k:Int))]) (fun k => []) (fun k=>k≤a.length∧a.take k=b.take k) (fun k=>a.length - k) 0 (by kernel_rfl) ⟨j0,⟨Nat.zero_le _,j0⟩,fun k ⟨h2,h3⟩ => ?_⟩
 have hl:a.length=b.length:=by omega
 rw [Int.toNat_natCast]
 refine⟨fun h4=>⟨by omega,h4,by omega,by omega,⟨fun _ _=>by kernel_rfl,fun _ _=>by kernel_rfl,trivial⟩,fun nm=>⟨fun h5 => ?_,fun h5=>⟨by omega,by omega,k+1,rfl,⟨by omega,a2Q (by omega) (by omega) h3 ?_⟩,by omega⟩⟩⟩,fun h4 => ?_⟩
 ·rw [decide_eq_false];rintro rfl;simp at h5
 ·simp only [not_or,Classical.not_not,bne_iff_ne,ne_eq] at h5
  obtain⟨⟨⟨⟨e1,e2⟩,e3⟩,e4⟩,e5⟩:=h5
  generalize a.getD k default=x at *
  generalize b.getD k default=y at *
  cases x;cases y
  simp_all
 ·have e:a=b:=by rwa [List.take_of_length_le (by omega),List.take_of_length_le (by omega)] at h3
  rw [decide_eq_true e]
instance (a:List Cav)(b:List Cav):Q5 gl prog 78 [.v a,.v b] [a.length≤1000000] (.v (decide (a=b))):=⟨fun hh=>c25 a b hh.1⟩
theorem b2Z (a b:y2)(h:a.y7.length≤1000000):C3 gl prog 51 [.v a,.v b] (fun y=>y = .v (decide (a=b))):=by
 refine .go func51 j0 24 [.tmp 4] j0 (by kernel_rfl) fun C hG=>(.z hG (by kernel_rfl) fun _ _=>⟨fun _=>h,?_⟩)
 congr 1
 rw [Bool.eq_iff_iff]
 cases a;cases b
 simp only [Bool.and_eq_true,decide_eq_true_eq,y2.mk.injEq,and_assoc]
instance (a:y2)(b:y2):Q5 gl prog 51 [.v a,.v b] [a.y7.length≤1000000] (.v (decide (a=b))):=⟨fun hh=>b2Z a b hh.1⟩
theorem b1e (a b:List y2)(h:a.length≤1000000)(hc:∀ m∈a,m.y7.length≤1000000):C3 gl prog 17 [.v a,.v b] (fun y=>y = .v (decide (a=b))):=by
 refine .go func17 j0 27 [.tmp 4] j0 (by kernel_rfl) fun C hG=>(.z hG (by kernel_rfl) ⟨fun h1 => ?_,fun h1 => ?_⟩)
 ·rw [decide_eq_false];rintro rfl;exact h1 rfl
 refine .lp hG (fun k:Nat => [(5,.v (k:Int))]) (fun k => []) (fun k=>k≤a.length∧a.take k=b.take k) (fun k=>a.length - k) 0 (by kernel_rfl) ⟨j0,⟨Nat.zero_le _,j0⟩,fun k ⟨h2,h3⟩ => ?_⟩
 have hl:a.length=b.length:=by omega
 rw [Int.toNat_natCast]
 refine⟨fun h4=>⟨by omega,h4,by omega,by omega,hc _ (V0 (by omega)),fun h5 => ?_,fun h5=>⟨by omega,by omega,k+1,rfl,⟨by omega,a2Q (by omega) (by omega) h3 (by simpa using h5)⟩,by omega⟩⟩,fun h4 => ?_⟩
 ·rw [decide_eq_false];rintro rfl;exact h5 (by simp)
 ·have e:a=b:=by rwa [List.take_of_length_le (by omega),List.take_of_length_le (by omega)] at h3
  rw [decide_eq_true e]
theorem d0y (s:Str)(b:List UInt8)(hs:s.l.length≤1000)(hb:b.length≤1000000):C3 gl prog 199 [.v s,.v b] (fun r=>r = .v (s.l++b)):=by
 refine C3.jn func199 (by kernel_rfl) 9 rfl fun C hC hG => ?_
 refine .q 7 hG ?_
 refine .h (.a5a underlying9 underlying34 underlying5 (.t j0) fun w6 => ?_)
 refine .q 1 hG ?_
 refine .ap (by first|omega|(simp;done)|(simp;omega)|(simp at *;omega)) (by first|omega|(simp;done)|(simp;omega)|(simp at *;omega)) fun w8 => ?_
 refine .q 2 hG ?_
 refine .Q4 hC .z (.as 4 j0 .z ?_)
 refine .q 1 hG ?_
 refine .e1 j0 j0 ?_
 rfl
theorem c26 (e n:Int):C3 gl prog 181 [.v e,.v n] (fun r=>r = .v (a3Z e n)):=by
 refine C3.jn func181 (by kernel_rfl) 19 rfl fun C hC hG => ?_
 refine .q 23 hG ?_
 refine .e1 j0 j0 ?_
 rfl
theorem c0c (n:Int)(h0:0≤n)(h1:n≤281474976710656):C3 gl prog 183 [.v n] (fun r=>r = .v (a1w n)):=by
 have hlen:=H4 (n:=n.toNat) (by omega)
 refine C3.jn func183 (by kernel_rfl) 12 rfl fun C hC hG => ?_
 refine .q 7 hG ?_
 refine .p (.J7 hG ((Z6 _ _ (by decide) (by omega) (by omega)).b9e) (.cons .b0S (.cons (.t j0) .nil)) ?_)
 refine .q 9 hG ?_
 refine .p (.J7 hG (d0y _ _ (by decide) (by simp;omega)) (.cons (.s [109,105,110,116] (by decide) (by decide)) (.cons (.t j0) .nil)) ?_)
 refine .q 3 hG ?_
 refine .e1 j0 j0 ?_
 rfl
theorem b7a (c:Cav):(U2 c).1.length≤2100:=by
 unfold U2;split
 ·next h=>exact a4t h
 ·simp
structure MkV where
 a:E7
 e:Int
instance:UB MkV where
 ub I w x X:=∃ um ub,(C0.P2 w (MkU.mk x.a x.e um ub)).a0w I X
 mono hle h:=by obtain⟨um,ub,h⟩:=h;exact⟨um,ub,C0.mono hle h⟩
theorem C5.mkV {f : FuncId}{ag : List AV}{w : Value}{a : E7}{e : Int}{R : AV}{A : E7}{E : Int}(h : ∀ x : MkU, x.a = a → x.e = e → C5 gl prog f ag [.P2 w x] (fun r Hs => ∃ x' : MkU, Hs = [.P2 w x'] ∧ r = R ∧ x'.a = A ∧ x'.e = E)) :
    C5 gl prog f ag [.P2 w (MkV.mk a e)] (fun r Hs=>r=R∧Hs = [.P2 w (MkV.mk A E)]):=by
  refine .a2D fun I L vs hvs hL => ?_
  obtain⟨X,R0,rfl,⟨um,ub,h1⟩,h2⟩:=hL
  refine⟨ag,[.P2 w (MkU.mk a e um ub)],X::R0,j0,hvs,⟨X,R0,j0,h1,h2⟩,(h ⟨a,e,um,ub⟩ j0 j0).mono fun r Hs q J L1 hk => ?_⟩
  obtain⟨x',rfl,q1,rfl,rfl⟩:=q
  obtain⟨X2,R2,rfl,k1,k2⟩:=hk
  exact⟨[.P2 w (MkV.mk x'.a x'.e)],X2::R2,j0,⟨X2,R2,j0,⟨x'.um,x'.ub,k1⟩,k2⟩,q1,j0⟩
theorem c5w (a:E7):C5 gl prog 82 [.v a] [] (fun r Hs=>∃ w:Value,True∧r=mp w∧Hs = [.P2 w (MkV.mk a 0)]):=by
 refine .a2D fun I L vs hvs hL=>⟨_,_,L,j0,hvs,hL,(a9i a).mono fun r Hs q J L1 hk => ?_⟩
 obtain⟨w,x,rfl,rfl,rfl,e⟩:=q
 obtain⟨X2,R2,rfl,k1,k2⟩:=hk
 refine⟨[.P2 w (MkV.mk x.a 0)],X2::R2,j0,⟨X2,R2,j0,⟨x.um,x.ub,?_⟩,k2⟩,w,trivial,j0,j0⟩
 rw [←e];exact k1
theorem d0z (w:Value)(a:E7)(e:Int)(k:Tag)(m:List UInt8)(hl:a.F7.length≤1000000):C5 gl prog 148 [mp w,.v k,.v m] [.P2 w (MkV.mk a e)] (fun r Hs=>r = .v (M9 a e k m).1∧Hs = [.P2 w (MkV.mk (M9 a e k m).2.1 (M9 a e k m).2.2)]) :=
 C5.mkV fun x h1 h2=>by subst h1;subst h2;exact c2o w x k m hl
theorem c5x (b:Nat)(s:u7)(n:Int):C5 gl prog 87 [mp (ptr b 0),.v n] [.ob (ptr b 0) s] (fun r Hs=>r = .raw (.tuple #[])∧Hs = [.ob (ptr b 0) { s with e:=if s.e=0 then n else s.e }]):=by
 refine .go func87 j0 13 [] j0 (by kernel_rfl) fun C hG=>(.z hG (by kernel_rfl) ⟨fun h => .z hG (by kernel_rfl) ?_,fun h => .z hG (by kernel_rfl) ?_⟩)
 ·rw [if_pos h];exact P5.of [ptr b 0] ⟨rfl,rfl⟩
 ·rw [if_neg h];exact P5.of [ptr b 0] ⟨rfl,rfl⟩
theorem c5y (s:G9):C3 gl prog 84 [.p s] (fun r=>r = .t2 (.v (if s.e≠0 then default else s.a)) (.v s.e)):=by
 refine .go func84 j0 18 [.cell 2 46,.tmp 3] j0 (by kernel_rfl) fun C hG=>(.z hG (by kernel_rfl) fun _=>⟨fun h => ?_,fun h => ?_⟩)
 ·rw [if_pos h]
 ·have h0:s.e=0:=Classical.not_not.1 h
  rw [if_neg h,h0]
theorem c7T (w:Value)(a:E7)(e n:Int):C5 gl prog 87 [mp w,.v n] [.P2 w (MkV.mk a e)] (fun r Hs=>r = .raw (.tuple #[])∧Hs = [.P2 w (MkV.mk a (if e=0 then n else e))]):=by
 refine .a2D fun I L vs hvs hL => ?_
 obtain⟨X,R0,rfl,⟨um,ub,L0,rfl,h1⟩,h2⟩:=hL
 obtain rfl:R0 = []:=h2
 obtain⟨b,rfl⟩:∃ b,w=ptr b 0:=by
  obtain⟨X1,R1,rfl,⟨b,T,cs,e1,e2,e3⟩,h3⟩:=h1
  exact⟨b,e1⟩
 have hF:=C5.frame (gsB ub a) (C5.frame (gsM um a) (c5x b (a2x a e um ub) n))
 refine⟨_,_,L0,by simp,hvs,h1,hF.mono fun r Hs q J L1 hk => ?_⟩
 obtain⟨Hs0,rfl,Hs1,rfl,rfl,rfl⟩:=q
 exact⟨[.P2 (ptr b 0) (MkV.mk a (if e=0 then n else e))],[L1.flatten],by simp,⟨_,[],rfl,⟨um,ub,L1,rfl,hk⟩,rfl⟩,rfl,rfl⟩
instance (w:Value)(a:E7)(e n:Int):CaM gl prog 87 [mp w,.v n] (.P2 w (MkV.mk a e)) [] (.raw (.tuple #[])) (.P2 w (MkV.mk a (if e=0 then n else e))):=⟨fun _=>c7T w a e n⟩
instance (a:E7):CaX gl prog 82 [.v a] Value [] (fun _=>True) mp (fun w => [.P2 w (MkV.mk a 0)]):=⟨fun _=>c5w a⟩
instance (w:Value)(a:E7)(e:Int)(k:Tag)(m:List UInt8):CaM gl prog 148 [mp w,.v k,.v m] (.P2 w (MkV.mk a e)) [a.F7.length≤1000000] (.v (M9 a e k m).1) (.P2 w (MkV.mk (M9 a e k m).2.1 (M9 a e k m).2.2)):=⟨fun h=>d0z w a e k m h.1⟩
instance (s:G9):Q5 gl prog 84 [.p s] [] (.t2 (.v (if s.e≠0 then default else s.a)) (.v s.e)):=⟨fun _=>c5y s⟩
theorem c27 (a:E7)(e:Int)(x y:Value)(I:Fl.Im)(cs:List Value)(h:u3.rep I (a2x a e x y) cs)(h4:G0 I (.v a.F7) x)(h5:G0 I (.v a.B5) y):u3.rep I (G9.mk a e) cs:=by
 obtain⟨c1,r1,rfl,⟨d1,s1,rfl,g1,d2,s2,rfl,g2,d3,s3,rfl,g3,d4,s4,rfl,⟨rfl,_⟩,d5,s5,rfl,⟨rfl,_⟩,g6⟩,h2⟩:=h
 obtain⟨_,⟨v4,rfl,h4⟩,rfl⟩:=h4
 obtain⟨_,⟨v5,rfl,h5⟩,rfl⟩:=h5
 exact⟨_,r1,j0,⟨d1,_,j0,g1,d2,_,j0,g2,d3,_,j0,g3,_,_,j0,⟨_,j0,h4⟩,_,_,j0,⟨_,j0,h5⟩,g6⟩,h2⟩
theorem d0A {P:Program}{C:Ctx}{N:Nat}{σ:o7}{H:j8}{Q:Exit→o7→j8→Prop}{c:Code}(hC:Ctx.Ok C)(t:Nat){w:Value}{a:E7}{e:Int}{F:Bool×C0→j8}(ht:F4 σ t=some (mp w))(hH:H9 H (true,.P2 w (MkV.mk a e)) F)
    (k:wpA P C N c Q ((t,.p (G9.mk a e))::σ) (F (true,.fz w .any))):wpA P C N c Q σ H:=fun ρ I L hs=>by
  obtain⟨i,X,h1,h2,h3⟩:=hH.get hs.heap
  refine .freeze i h1 (a3y hC h2) fun J hle hp=>k ρ J _ ⟨fun s b hb => ?_,h3 J _ [] hle ⟨⟨rfl,trivial⟩,by simp⟩,hs.U1.trans hle⟩
  rw [G8] at hb
  by_cases ee:t=s
  · subst ee;simp only [if_true] at hb;cases hb
    obtain⟨u,h4,h5⟩:=hs.env t _ ht
    refine⟨u,h4,?_⟩
    obtain⟨um,ub,L0,rfl,X0,R0,rfl,g0,X1,R1,rfl,g1,X2,R2,rfl,g2,g3⟩:=h2.1
    have f0:=a7O g0 hle (fun p hq=>hp p (by simp [hq]))
    have f1:=a7W g1 hle (fun p hq=>hp p (by simp [hq]))
    have f2:=a7W g2 hle (fun p hq=>hp p (by simp [hq]))
    obtain⟨b,o,cs,e1,e2,e3⟩:=f0
    obtain⟨b',e4,e5⟩:=h5
    have e6:w=u:=by
      obtain⟨b2,T,cs2,e7,_⟩:=g0
      subst e7
      have:b2=b':=by simpa [a6n,ptr] using e4
      subst this
      rw [e5];rfl
    subst e6
    exact⟨b,o,cs,e1,c27 a e um ub J cs e2 f1 f2,e3⟩
  · rw [if_neg ee] at hb
    obtain⟨u,h4,h5⟩:=hs.env s b hb
    exact⟨u,h4,h5.mono hle⟩
class MkR (id:Nat)(t:outParam Nat):Prop where h:True
instance (priority:=2000){mo:Nat}{G:Gl}{P:Program}{C:Ctx}{N n:Nat}{Q:Exit→o7→j8→Prop}{l:Array Oper}{bo:Bool}{σ:o7}{H:j8}{id t:Nat}{w:Value}{Eb:List Bool}{A:Prop}{a:E7}{e:Int}{F:Bool×C0→j8}[f:MkR id t][ht:LkQ σ t (mp w)][h:HoQ H w (true,.P2 w (MkV.mk a e)) F]
    [k:Rw mo G P C N n (.a (.region id l bo) Q) ((t,.p (G9.mk a e))::σ) (F (true,.fz w .any)) Eb A]:Rw mo G P C N n (.a (.region id l bo) Q) σ H Eb A:=⟨fun g e q=>d0A g.1 t ht.h h.h (k.h g e q)⟩
theorem a8d (a:E7)(e:Int)(k:Tag)(m:List UInt8):(M9 a e k m).2.1.F7.length≤a.F7.length+1:=by
 unfold M9
 split
 ·exact Nat.le_succ _
 ·show(if (P0 a k m).2.2=0 then (P0 a k m).1 else a).F7.length≤_
  split
  ·unfold P0
   split
   ·exact Nat.zero_le _
   split
   ·exact Nat.le_succ _
   split
   ·exact Nat.zero_le _
   ·show(a.F7 ++ [_]).length≤_
    rw [List.length_append];exact Nat.le_refl _
  ·exact Nat.le_succ _
def a2z (a:E7)(e:Int)(k:Tag)(m:List UInt8):Tag×E7×Int:=((M9 a e k m).1,(M9 (M9 a e k m).2.1 (M9 a e k m).2.2 (M9 a e k m).1 [110,111,100,101]).2.1,(M9 (M9 a e k m).2.1 (M9 a e k m).2.2 (M9 a e k m).1 [110,111,100,101]).2.2)
theorem c29 (w:Value)(a:E7)(e:Int)(k:Tag)(m:List UInt8)(hl:a.F7.length≤900000):C5 gl prog 182 [mp w,.v k,.v m] [.P2 w (MkV.mk a e)] (fun r Hs=>r = .v (a2z a e k m).1∧Hs = [.P2 w (MkV.mk (a2z a e k m).2.1 (a2z a e k m).2.2)]):=by
 refine .go func182 j0 18 [.cell 6 28] j0 (by kernel_rfl) fun C hG => ?_
 have h1:=a8d a e k m
 exact .z hG (by kernel_rfl) fun _ _=>⟨by omega,fun _ _=>⟨by simp,by omega,P5.of [w] ⟨rfl,rfl⟩⟩⟩
instance (w:Value)(a:E7)(e:Int)(k:Tag)(m:List UInt8):CaM gl prog 182 [mp w,.v k,.v m] (.P2 w (MkV.mk a e)) [a.F7.length≤900000] (.v (a2z a e k m).1) (.P2 w (MkV.mk (a2z a e k m).2.1 (a2z a e k m).2.2)):=⟨fun h=>c29 w a e k m h.1⟩
theorem b1Q (a:E7)(e:Int)(k:Tag)(m:List UInt8):(a2z a e k m).2.1.F7.length≤a.F7.length+2:=by
 have h1:=a8d a e k m
 have h2:=a8d (M9 a e k m).2.1 (M9 a e k m).2.2 (M9 a e k m).1 [110,111,100,101]
 show(M9 (M9 a e k m).2.1 (M9 a e k m).2.2 (M9 a e k m).1 [110,111,100,101]).2.1.F7.length≤_
 omega
def U0 (a:E7)(root:y3)(n:Int):E7×B6×Int :=
 if a3Z root.Number n=false then (default,default,1) else
 if (a2z a 0 root.Key (a1w n)).2.2≠0 then (default,default,(a2z a 0 root.Key (a1w n)).2.2) else
 ((a2z a 0 root.Key (a1w n)).2.1,⟨root.Number,n,[],(a2z a 0 root.Key (a1w n)).1⟩,0)
instance (e:Int)(n:Int):Q5 gl prog 181 [.v e,.v n] [] (.v (a3Z e n)):=⟨fun hh=>c26 e n⟩
instance (n:Int):Q5 gl prog 183 [.v n] [0≤n,n≤281474976710656] (.v (a1w n)):=⟨fun hh=>c0c n hh.1 hh.2.1⟩
theorem c3a (a:E7)(root:y3)(n:Int)(h0:0≤n)(h1:n≤281474976710656)(hl:a.F7.length≤800000):C3 gl prog 129 [.v a,.v root,.v n] (fun r=>r = .t3 (.v (U0 a root n).1) (.v (U0 a root n).2.1) (.v (U0 a root n).2.2)):=by
 have im:MkR 5 9:=⟨trivial⟩
 refine .go func129 rfl 44 [.cell 6 46,.cell 7 77,.tmp 8] rfl (by kernel_rfl) fun C hG=>(.z hG (by kernel_rfl) fun _ _ _ _=>⟨fun h => ?_,fun h w _=>⟨h0,h1,by omega,⟨fun _ _=>by kernel_rfl,trivial⟩,fun nm _=>⟨fun h5 => ?_,fun h5 => ?_⟩⟩⟩)
 ·unfold U0;rw [if_pos (by simpa using h)]
 ·unfold U0;rw [if_neg (by simpa using h),if_pos h5]
 ·have h6:¬(a2z a 0 root.Key (a1w n)).2.2≠0:=h5
  have h7:¬a3Z root.Number n=false:=by simpa using h
  unfold U0;rw [if_neg h5,if_neg h7,if_neg h6];rfl
instance (l:List Cav):Q5 gl prog 250 [.v l] [l.length≤1000000] (.v (a00 l)):=⟨fun hh=>b4E l hh.1⟩
def a9q (l:List Cav):Int:=l.length - (a00 l).length
theorem b7b (l:List Cav)(hl:l.length≤1000000):C3 gl prog 227 [.v l] (fun r=>r = .v (a9q l)):=by
 have hf:(a00 l).length≤l.length:=by unfold a00;rw [List.length_map];exact List.length_filter_le _ _
 refine .go func227 j0 9 [.tmp 2] j0 (by kernel_rfl) fun C hG => ?_
 exact .z hG (by kernel_rfl) ⟨hl,by omega,by omega,rfl⟩
instance (c:Cav):Q5 gl prog 226 [.v c] [] (.t2 (.v (U2 c).1) (.v (U2 c).2)):=⟨fun hh=>b4F c⟩
instance (l:List Cav):Q5 gl prog 227 [.v l] [l.length≤1000000] (.v (a9q l)):=⟨fun hh=>b7b l hh.1⟩
instance (l:List u9):Q5 gl prog 228 [.v l] [] (.vc l):=⟨fun hh=>c2s l⟩
instance (l:List u9):Q5 gl prog 122 [.v l] [U3 l] (.v l):=⟨fun hh=>a6s l hh.1⟩
instance (s:Str)(b:List UInt8):Q5 gl prog 199 [.v s,.v b] [s.l.length≤1000,b.length≤1000000] (.v (s.l++b)):=⟨fun hh=>b0t s b hh.1 hh.2.1⟩
def a7o (p:B6)(c:Cav):Bool:=decide (64≤p.y7.length)||(c.Z9&&decide (8≤a9q p.y7))
def b0w (e:Int)(p:B6)(c:Cav):Int:=if a7o p c then (if (if e=0 then (U2 c).2 else e)=0 then 2 else (if e=0 then (U2 c).2 else e)) else (if e=0 then (U2 c).2 else e)
def a2o (a:E7)(e:Int)(p:B6)(c:Cav):Tag×E7×Int:=a2z a (b0w e p c) p.Tag ([99,97,118,101,97,116]++(U2 c).1)
theorem a8I (p:B6)(c:Cav):a7o p c=true↔(64≤(p.y7.length:Int)∨c.Z9=true∧8≤a9q p.y7):=by
 unfold a7o
 simp only [Bool.or_eq_true,Bool.and_eq_true,decide_eq_true_eq]
 constructor
 ·rintro (h|h)
  ·exact .inl (by omega)
  ·exact .inr h
 ·rintro (h|h)
  ·exact .inl (by omega)
  ·exact .inr h
theorem c3b (w:Value)(a:E7)(e:Int)(p:B6)(c:Cav)(hl:a.F7.length≤800000)(hc:U3 p.y7)(hcc:c.L5.length≤1000000∧c.O6.length≤1000000)(hcl:p.y7.length≤999999)(hel:(U2 c).1.length≤1000000):C5 gl prog 184 [mp w,.v p,.v c] [.P2 w (MkV.mk a e)] (fun r Hs=>r = .v ({ p with y7:=p.y7 ++ [c],Tag:=(a2o a e p c).1 }:B6)∧Hs = [.P2 w (MkV.mk (a2o a e p c).2.1 (a2o a e p c).2.2)]):=by
 have n24:NgS 24:=⟨trivial⟩
 have hB:U3 (p.y7 ++ [c]):=⟨by rw [List.length_append,List.length_singleton];omega,fun x hx=>by
  rcases List.mem_append.1 hx with hx|hx
  ·exact hc.2 x hx
  ·rw [List.mem_singleton.1 hx];exact hcc⟩
 refine .go func184 j0 49 [.cell 6 77] j0 (by kernel_rfl) fun C hG=>(.z hG (by kernel_rfl) fun b b1 b2=>⟨fun _ _=>hc.1,fun h => .z hG (by kernel_rfl) ?_,fun h => .z hG (by kernel_rfl) ?_⟩)
 ·have hE:b0w e p c=(if (if e=0 then (U2 c).2 else e)=0 then 2 else (if e=0 then (U2 c).2 else e)):=by unfold b0w;rw [if_pos ((a8I p c).2 h)]
  refine⟨by simp only [List.length_singleton];omega,by simp only [List.length_singleton];omega,hB,by decide,hel,by omega,?_⟩
  unfold a2o;rw [hE]
  exact P5.of [w] ⟨rfl,rfl⟩
 ·have hE:b0w e p c=(if e=0 then (U2 c).2 else e):=by unfold b0w;rw [if_neg fun q=>h ((a8I p c).1 q)]
  refine⟨by simp only [List.length_singleton];omega,by simp only [List.length_singleton];omega,hB,by decide,hel,by omega,?_⟩
  unfold a2o;rw [hE]
  exact P5.of [w] ⟨rfl,rfl⟩
instance (w:Value)(a:E7)(e:Int)(p:B6)(c:Cav):CaM gl prog 184 [mp w,.v p,.v c] (.P2 w (MkV.mk a e)) [a.F7.length≤800000,U3 p.y7,c.L5.length≤1000000∧c.O6.length≤1000000,p.y7.length≤999999,(U2 c).1.length≤1000000] (.v ({ p with y7:=p.y7 ++ [c],Tag:=(a2o a e p c).1 }:B6)) (.P2 w (MkV.mk (a2o a e p c).2.1 (a2o a e p c).2.2)):=⟨fun hh=>c3b w a e p c hh.1 hh.2.1 hh.2.2.1 hh.2.2.2.1 hh.2.2.2.2.1⟩
def a1b (a:E7)(p:B6)(c:Cav):E7×B6×Int :=
 if (a2o a 0 p c).2.2≠0 then (default,default,(a2o a 0 p c).2.2) else ((a2o a 0 p c).2.1,{ p with y7:=p.y7 ++ [c],Tag:=(a2o a 0 p c).1 },0)
theorem c5z (a:E7)(p:B6)(c:Cav)(hl:a.F7.length≤800000)(hc:U3 p.y7)(hcc:c.L5.length≤1000000∧c.O6.length≤1000000)(hcl:p.y7.length≤999999)(hel:(U2 c).1.length≤1000000):C3 gl prog 130 [.v a,.v p,.v c] (fun r=>r = .t3 (.v (a1b a p c).1) (.v (a1b a p c).2.1) (.v (a1b a p c).2.2)):=by
 have im:MkR 3 9:=⟨trivial⟩
 refine .go func130 j0 31 [.cell 6 46,.cell 7 77,.tmp 8] j0 (by kernel_rfl) fun C hG=>(.z hG (by kernel_rfl) fun _ _ _ _ _ w _=>⟨hl,hc,hcc,hcl,hel,fun _ _=>⟨fun h5 => ?_,fun h5 => ?_⟩⟩)
 ·unfold a1b;rw [if_pos h5]
 ·have h6:¬(a2o a 0 p c).2.2≠0:=h5
  unfold a1b;rw [if_neg h5,if_neg h6]
instance (n:Int):Q5 gl prog 40 [.v n] [] (.t2 (.v (a2n n).1) (.v (a2n n).2)):=⟨fun hh=>c5e n⟩
instance (a:E7)(root:y3)(n:Int):Q5 gl prog 129 [.v a,.v root,.v n] [0≤n,n≤281474976710656,a.F7.length≤800000] (.t3 (.v (U0 a root n).1) (.v (U0 a root n).2.1) (.v (U0 a root n).2.2)):=⟨fun hh=>c3a a root n hh.1 hh.2.1 hh.2.2.1⟩
instance (a:E7)(p:B6)(c:Cav):Q5 gl prog 130 [.v a,.v p,.v c] [a.F7.length≤800000,U3 p.y7,c.L5.length≤1000000∧c.O6.length≤1000000,p.y7.length≤999999,(U2 c).1.length≤1000000] (.t3 (.v (a1b a p c).1) (.v (a1b a p c).2.1) (.v (a1b a p c).2.2)):=⟨fun hh=>c5z a p c hh.1 hh.2.1 hh.2.2.1 hh.2.2.2.1 hh.2.2.2.2.1⟩
theorem b3a (key:Tag)(n:Int):C3 gl prog 9 [.v key,.v n] (fun r=>r = .t2 (.v (a0H key n).1) (.v (a0H key n).2)):=by
 refine .go func9 j0 20 [.cell 4 39,.tmp 5] j0 (by kernel_rfl) fun C hG=>(.z hG (by kernel_rfl) fun _ _ _=>⟨fun h => ?_,fun h => ?_⟩)
 ·unfold a0H;rw [if_pos h]
 ·unfold a0H;rw [if_neg h]
def W3 (s:E7×B6×Int)(l:List Pred):E7×B6×Int:=l.foldl (fun s q=>if s.2.2≠0 then s else a1b s.1 s.2.1 { (default:Cav) with V9:=q }) s
def a3K (q:Pred):Cav := { (default:Cav) with V9:=q }
theorem a4w (s:E7×B6×Int)(l:List Pred){k:Nat}(h:k < l.length):W3 s (l.take (k+1))=if (W3 s (l.take k)).2.2≠0 then W3 s (l.take k) else a1b (W3 s (l.take k)).1 (W3 s (l.take k)).2.1 (a3K (l.getD k default)):=by
 unfold W3
 rw [List.take_add_one,List.foldl_append,List.getElem?_eq_getElem h,List.getD_eq_getElem?_getD,List.getElem?_eq_getElem h];rfl
theorem b0x (s:E7×B6×Int):∀ (l:List Pred),s.2.2≠0→W3 s l=s
 | [],_=>rfl
 | q::l,h=>by
  show W3 (if s.2.2≠0 then s else _) l=s
  rw [if_pos h];exact b0x s l h
theorem c0d (s:E7×B6×Int)(l m:List Pred):W3 s (l++m)=W3 (W3 s l) m:=List.foldl_append
theorem c0e (s:E7×B6×Int)(l:List Pred)(k:Nat)(h:(W3 s (l.take k)).2.2≠0):W3 s l=W3 s (l.take k):=by
 conv=>lhs;rw [←List.take_append_drop k l]
 rw [c0d,b0x _ _ h]
def a2A (M k:Nat)(s:E7×B6×Int):Prop:=s.1.F7.length≤M+2*k∧U3 s.2.1.y7∧s.2.1.y7.length≤k
theorem U3.nil:U3 []:=⟨Nat.zero_le _,fun x hx=>by cases hx⟩
theorem a2A.c5A {a:E7}{root:y3}{n:Int}{M:Nat}(h:a.F7.length+2≤M):a2A M 0 (U0 a root n):=by
 have h1:=b1Q a 0 root.Key (a1w n)
 unfold U0
 split
 ·exact⟨Nat.zero_le _,U3.nil,Nat.le_refl _⟩
 split
 ·exact⟨Nat.zero_le _,U3.nil,Nat.le_refl _⟩
 ·exact⟨by show(a2z a 0 root.Key (a1w n)).2.1.F7.length≤_;omega,U3.nil,Nat.le_refl _⟩
theorem a2A.next {s:E7×B6×Int}{M k:Nat}(h:a2A M k s)(hk:k≤100000)(q:Pred):a2A M (k+1) (a1b s.1 s.2.1 (a3K q)):=by
 obtain⟨h1,h2,h3⟩:=h
 have h4:(a2o s.1 0 s.2.1 (a3K q)).2.1.F7.length≤s.1.F7.length+2:=b1Q _ _ _ _
 unfold a1b
 split
 ·exact⟨Nat.zero_le _,U3.nil,Nat.zero_le _⟩
 ·refine⟨by show(a2o s.1 0 s.2.1 (a3K q)).2.1.F7.length≤_;omega,⟨?_,fun x hx => ?_⟩,?_⟩
  ·show(s.2.1.y7 ++ [a3K q]).length≤_
   rw [List.length_append,List.length_singleton];omega
  ·have hx:x∈s.2.1.y7 ++ [a3K q]:=hx
   rcases List.mem_append.1 hx with hx|hx
   ·exact h2.2 x hx
   ·rw [List.mem_singleton.1 hx];exact⟨Nat.zero_le _,Nat.zero_le _⟩
  ·show(s.2.1.y7 ++ [a3K q]).length≤_
   rw [List.length_append,List.length_singleton];omega
theorem a2A.mono {s:E7×B6×Int}{M k j:Nat}(h:a2A M k s)(hk:k≤j):a2A M j s:=⟨by have:=h.1;omega,h.2.1,by have:=h.2.2;omega⟩
theorem a2A.all {s:E7×B6×Int}{M:Nat}(h:a2A M 0 s)(l:List Pred)(hl:l.length≤1000):∀ k,k≤l.length→a2A M k (W3 s (l.take k))
 | 0,_=>h
 | k+1,hk=>by
  have h1:=a2A.all h l hl k (by omega)
  rw [a4w s l (by omega)]
  split
  ·exact h1.mono (by omega)
  ·exact h1.next (by omega) _
theorem c3c (a:E7)(root:y3)(n:Int)(l:List Pred)(h0:0≤n)(h1:n≤281474976710656)(hl:a.F7.length≤700000)(hp:l.length≤1000):C3 gl prog 69 [.v a,.v root,.v n,.v l] (fun r=>r = .t3 (.v (W3 (U0 a root n) l).1) (.v (W3 (U0 a root n) l).2.1) (.v (W3 (U0 a root n) l).2.2)):=by
 refine .go func69 rfl 47 [.cell 8 46,.cell 9 77,.tmp 10] rfl (by kernel_rfl) fun C hG=>(.z hG (by kernel_rfl) fun b b1 b2 b3=>⟨h0,h1,by omega,fun b4 => ?_⟩)
 refine .lp hG (fun k:Nat => [(13,.v (k:Int)),(12,.v (W3 (U0 a root n) (l.take k)).2.2)]) (fun k => [(ptr b4 0,.ob (ptr b4 0) (W3 (U0 a root n) (l.take k)).2.1),(ptr b 0,.ob (ptr b 0) (W3 (U0 a root n) (l.take k)).1)]) (fun k=>k≤l.length) (fun k=>l.length - k) 0 (by kernel_rfl) ⟨j0,j0,j0,j0,Nat.zero_le _,fun k hk => ?_⟩
 have hB:=a2A.all (a2A.c5A (a:=a) (root:=root) (n:=n) (M:=700002) (by omega)) l hp k hk
 rw [Int.toNat_natCast]
 refine⟨fun ⟨h4,h5⟩=>⟨by omega,h4,by have:=hB.1;omega,hB.2.1,⟨Nat.zero_le _,Nat.zero_le _⟩,by have:=hB.2.2;omega,Nat.le_trans (b7a _) (by decide),by omega,by omega,k+1,rfl,?_,?_,?_,by omega,by omega⟩,fun h4 => ?_⟩
 ·rw [a4w _ l (by omega),if_neg (Classical.not_not.2 h5)];rfl
 ·rw [a4w _ l (by omega),if_neg (Classical.not_not.2 h5)];rfl
 ·rw [a4w _ l (by omega),if_neg (Classical.not_not.2 h5)];rfl
 ·by_cases h5:(W3 (U0 a root n) (l.take k)).2.2=0
  ·have:k=l.length:=by
    rcases Nat.lt_or_ge k l.length with h|h
    ·exact absurd ⟨by omega,h5⟩ h4
    ·omega
   rw [this,List.take_length]
  ·rw [c0e _ l k h5]
structure IsB (x:l8):Prop where
 live:x.Ring.Live.length≤1000000
 a1i:x.C8.length≤1000000
 c0f:∀ m∈x.C8,U3 m.y7
 items:x.G3.length≤1000000
 boxes:∀ i∈x.G3,i.O6.length≤1000000
 dev:W9 x.Device
instance (l:List y3):Q5 gl prog 80 [.v l] [l.length≤1000000] (.v l):=⟨fun hh=>b1F l hh.1⟩
instance (l:List y2):Q5 gl prog 66 [.v l] [l.length≤1000000,∀ m∈l,U3 m.y7] (.v l):=⟨fun hh=>b6r l hh.1 hh.2.1⟩
instance (l:List o8):Q5 gl prog 65 [.v l] [l.length≤1000000,∀ x∈l,x.O6.length≤1000000] (.v l):=⟨fun hh=>b0g l hh.1 hh.2.1⟩
instance (d:l9):Q5 gl prog 81 [.v d] [W9 d] (.v d):=⟨fun hh=>a4p d hh.1⟩
theorem a16 (x:l8)(h:IsB x):C3 gl prog 41 [.v x] (fun r=>r = .v x):=by
 refine .go func41 j0 22 [.cell 2 39] j0 (by kernel_rfl) fun C hG => ?_
 exact .z hG (by kernel_rfl) fun _ _=>⟨h.live,h.a1i,h.c0f,h.items,h.boxes,h.dev,j0⟩
instance (x:l8):Q5 gl prog 41 [.v x] [IsB x] (.v x):=⟨fun hh=>a16 x hh.1⟩
def a0V (i:o8):Rec := { (default:Rec) with Kind:=4,Item:=i }
def a0p (m:y2):Rec := { (default:Rec) with Kind:=2,M0:=m }
theorem b4Y {gl:Gl}(x:l8):C3 gl prog 42 [.v x] (fun r=>r = .v (decide (4096≤(x.G3.length:Int)))):=by
 refine .go func42 j0 7 [.tmp 2] j0 (by kernel_rfl) fun C hG => ?_
 exact .z hG j0 fun b=>j0
theorem a8J {gl:Gl}(x:l8)(d:l9):C3 gl prog 53 [.v x,.v d] (fun r=>r = .v { (default:l8) with C9:=x.C9,Device:=d }):=by
 refine .go func53 j0 9 [.cell 4 39] j0 (by kernel_rfl) fun C hG => ?_
 exact .z hG j0 fun b2 b3 b4=>j0
def Y9 (x:l8)(d:l9):l8 := { (default:l8) with C9:=x.C9,Device:=d }
structure G4 (a:E7)(n:Nat):Prop where
 a5U:a.F7.length≤n
 boxes:a.B5.length≤n
 b0y:0≤a.K4
 b0z:a.K4≤n
 tag:∀ i (h:i < a.F7.length),a.F7[i].Message.length≤1000∧a.F7[i].Tag=(if a.P6 then X8 109 (i+1:Nat) else a3c a.F7[i].Key.l a.F7[i].Message)
 uniq:∀ i (h:i < a.F7.length),a.F7.find? (a3k a.F7[i].Key a.F7[i].Message)=some a.F7[i]
 box:∀ i (h:i < a.B5.length),a.B5[i].Plain.length≤256∧0≤a.B5[i].a55∧a.B5[i].a55≤281474976710656 ∧
  a.B5[i].O6=(if a.P6 then (X8 98 (i+1:Nat)).l++List.replicate (a.B5[i].Plain.length+8) 0 else M3 a.B5[i].Key a.B5[i].a55 a.B5[i].Plain)
theorem G4.new (free:Bool)(seed:Tag)(n:Nat):G4 ⟨free,seed,0,[],[]⟩ n :=
 ⟨Nat.zero_le _,Nat.zero_le _,Int.le_refl _,Int.natCast_nonneg _,fun i h=>(by cases h),fun i h=>(by cases h),fun i h=>(by cases h)⟩
theorem G4.le {a:E7}{n m:Nat}(h:G4 a n)(hm:n≤m):G4 a m :=
 ⟨Nat.le_trans h.a5U hm,Nat.le_trans h.boxes hm,h.b0y,by have:=h.b0z;omega,h.tag,h.uniq,h.box⟩
theorem G4.key {a:E7}{n:Nat}(h:G4 a n)(hn:n < 65536):G4 (K2 a).1 (n+1):=by
 have:=h.b0z
 have:=h.b0y
 unfold K2
 rw [if_neg (by omega)]
 exact⟨Nat.le_succ_of_le h.a5U,Nat.le_succ_of_le h.boxes,by show 0≤a.K4+1;omega,by show a.K4+1≤((n+1:Nat):Int);omega,h.tag,h.uniq,h.box⟩
theorem c0g (k:Tag)(m:List UInt8)(x:D7):a3k k m x=true↔x.Key=k∧x.Message=m:=by simp [a3k]
theorem G4.mac {a:E7}{n:Nat}(h:G4 a n)(hn:n < 65536){k:Tag}{m:List UInt8}(hm:m.length≤1000):G4 (P0 a k m).1 (n+1):=by
 have h1:=h.a5U
 cases hf:a2F a k m with
 | some x =>
  have e:P0 a k m=(a,x.Tag,0):=by unfold P0;rw [if_neg (by omega),hf]
  rw [e];exact h.le (Nat.le_succ _)
 | none =>
  rw [a4o (by omega) hf (by omega)]
  have hnone:∀ x∈a.F7,a3k k m x=false:=fun x hx=>by
   have:=List.find?_eq_none.1 hf x hx
   simpa using this
  refine⟨by simp;exact h1,Nat.le_succ_of_le h.boxes,h.b0y,by have:=h.b0z;show a.K4≤_;omega,fun i hi => ?_,fun i hi => ?_,h.box⟩
  ·simp only [List.length_append,List.length_singleton] at hi
   by_cases e:i < a.F7.length
   ·simp only [List.getElem_append_left e];exact h.tag i e
   ·obtain rfl:i=a.F7.length:=by omega
    simp only [List.getElem_concat_length]
    refine⟨hm,?_⟩
    unfold a3C
    rw [show((a.F7.length+1:Nat):Int)=(a.F7.length:Int)+1 by omega]
  ·simp only [List.length_append,List.length_singleton] at hi
   by_cases e:i < a.F7.length
   ·simp only [List.getElem_append_left e]
    rw [List.find?_append,h.uniq i e];rfl
   ·obtain rfl:i=a.F7.length:=by omega
    simp only [List.getElem_concat_length]
    have:a.F7.find? (a3k k m)=none:=hf
    rw [List.find?_append,this]
    simp [a3k]
theorem G4.boxed {a:E7}{n:Nat}(h:G4 a n)(hn:n < 65536){k:Tag}{c:Int}{p:List UInt8}(hc0:0≤c)(hc1:c≤281474976710656)(hp:p.length≤256):G4 (Y6 a k c p).1 (n+1):=by
 have h1:=h.boxes
 have hr:(decide (c < 0)||decide (281474976710656 < c))=false:=by simp;omega
 cases hf:a.B5.find? (X9 k c p) with
 | some x=>rw [a3D hr (by omega) hf];exact h.le (Nat.le_succ _)
 | none =>
  rw [a5k hr (by omega) hf (by omega)]
  refine⟨Nat.le_succ_of_le h.a5U,by simp;exact h1,h.b0y,by have:=h.b0z;show a.K4≤_;omega,h.tag,h.uniq,fun i hi => ?_⟩
  simp only [List.length_append,List.length_singleton] at hi
  by_cases e:i < a.B5.length
  ·simp only [List.getElem_append_left e];exact h.box i e
  ·obtain rfl:i=a.B5.length:=by omega
   simp only [List.getElem_concat_length]
   refine⟨hp,hc0,hc1,?_⟩
   unfold a78
   rw [show((a.B5.length+1:Nat):Int)=(a.B5.length:Int)+1 by omega]
theorem G4.c6C {a:E7}{n:Nat}(h:G4 a n):∀ x∈a.B5,x.O6.length≤1000000:=fun x hx=>by
 obtain⟨i,hi,rfl⟩:=List.getElem_of_mem hx
 obtain⟨h1,_,_,h2⟩:=h.box i hi
 rw [h2]
 split
 ·simp;omega
 ·simp [M3,Z1,K8,a23];omega
structure Made (a:E7)(n:Nat)(k:Tag)(m:List UInt8)(b:E7)(t:Tag):Prop where
 mac:P0 a k m=(b,t,0)
 again:P0 b k m=(b,t,0)
 look:a4n b k m=(t,true)
 len:b.F7.length≤a.F7.length+1
 d3D:a.F7.length≤b.F7.length
 old:∀ i (h:i < a.F7.length),a4n b a.F7[i].Key a.F7[i].Message=(a.F7[i].Tag,true)
 ok:G4 b (n+1)
theorem G4.c3d {a:E7}{n:Nat}(h:G4 a n)(i:Nat)(hi:i < a.F7.length):a4n a a.F7[i].Key a.F7[i].Message=(a.F7[i].Tag,true):=by
 obtain⟨h1,h2⟩:=h.tag i hi
 unfold a4n
 cases hf:a.P6 with
 | true =>
  rw [if_pos rfl]
  unfold b4h a2F
  rw [h.uniq i hi]
 | false =>
  rw [if_neg (by decide),if_neg (by omega),h2,hf];rfl
abbrev M5:=y3
def a1c (place:Int)(e:M5)(b:List UInt8):Item:=⟨place,1,e.Number,default,b,default⟩
def a4I (place:Int)(e:M5):Bool:=decide (place < 1)||decide (4096 < place)||decide (e.Number < 1)||decide (1000 < e.Number)
def K3 (a:E7)(k:Tag)(place:Int)(e:M5):E7×Item×Int :=
 if a4I place e then (default,default,1) else
 if (Y6 a k place e.Key.l).2.2≠0 then (default,default,(Y6 a k place e.Key.l).2.2) else K9 (Y6 a k place e.Key.l).1 k (a1c place e (Y6 a k place e.Key.l).2.1)
def c3e (l:List UInt8):Tag:=if h:l.length=32 then ⟨l,h⟩ else default
def L8 (a:E7)(k:Tag)(x:Item):M5×Int :=
 if x.Kind≠1 then (default,6) else if (O1 a k x.O6).2≠0 then (default,(O1 a k x.O6).2) else
 if (O1 a k x.O6).1.length≠32 then (default,5) else (⟨x.Number,c3e (O1 a k x.O6).1⟩,0)
theorem b4Z {l:List UInt8}(h:l.length=32):c3e l=⟨l,h⟩:=by unfold c3e;rw [dif_pos h]
theorem c5B (a:E7)(k:Tag)(x:Item)(hpl:∀ y∈a.B5,y.Plain.length≤1000000):C3 gl prog 99 [.v a,.v k,.v x] (fun r=>r = .t2 (.v (L8 a k x).1) (.v (L8 a k x).2)):=by
 refine C3.jn func99 (by kernel_rfl) 36 rfl fun C hC hG => ?_
 refine .q 3 hG fun b3 => ?_
 refine .q 1 hG fun b4 => ?_
 refine .q 1 hG fun b5 => ?_
 refine .q 1 hG fun b6 => ?_
 refine .q 10 hG ⟨fun hc12 => ?_,fun hc12 => ?_⟩
 ·refine .q 2 hG ?_
  refine .p (.bS0 (α:=y3) j0 b0Z c1v ?_)
  refine .q 4 hG ?_
  refine⟨_,.r2 j0 (.cell b0Z j0 .z) (.tmp j0),?_⟩
  unfold L8;rw [if_pos hc12]
 ·refine .q 7 hG ?_
  refine .p (.J7 hG (b9B _ _ _ hpl) (.cons (.t j0) (.cons (.t j0) (.cons (.t j0) .nil))) ?_)
  refine .q 13 hG ⟨fun hc23 => ?_,fun hc23 => ?_⟩
  ·refine .q 2 hG ?_
   refine .p (.bS0 (α:=y3) j0 b0Z c1v ?_)
   refine .q 5 hG ?_
   refine⟨_,.r2 j0 (.cell b0Z j0 .z) (.tmp j0),?_⟩
   unfold L8;rw [if_neg hc12,if_pos hc23]
  ·refine .q 9 hG ⟨fun hc28 => ?_,fun hc28 => ?_⟩
   ·refine .q 2 hG ?_
    refine .p (.bS0 (α:=y3) j0 b0Z c1v ?_)
    refine .q 4 hG ?_
    refine⟨_,.r2 j0 (.cell b0Z j0 .z) (.tmp j0),?_⟩
    unfold L8;rw [if_neg hc12,if_neg hc23,if_pos (by omega)]
   ·refine .q 2 hG ?_
    have h32:(O1 a k x.O6).1.length=32:=by omega
    refine .draw (by kernel_rfl) 6 [[],[(30,0)],[],[(32,2)],[(33,3)],[(31,1),(34,4)]] j0 (by kernel_rfl) j0 ?_
    refine⟨_,OpP.P4 o8.l2 b2e j0 (.t j0) j0,?_⟩
    refine⟨_,OpP.ldF (fun x=>x.Number) ty3 (.t j0) .z1 (fun _=>j0) j0,?_⟩
    refine⟨_,OpP.move (.t j0) j0,?_⟩
    refine⟨_,OpP.c4L underlying28 (by decide) (by decide) (.t j0) h32 j0,?_⟩
    refine⟨_,OpP.ldP T6 (.t j0) j0,?_⟩
    refine⟨_,OpP.bS2 y3.l0 y3.l1 j0 b0Z c1v (fun c0 c1=>(⟨c0,c1⟩:y3)) (fun _ _=>j0) j0 j0 j0 (.t j0) (.t j0) j0,?_⟩
    show wpB _ _ _ _ _ [_,_] ((35,_)::(34,_)::(33,_)::(32,_)::(31,_)::(30,_)::_) _
    refine .q 4 hG ?_
    refine⟨_,.r2 j0 (.cell b0Z j0 .z) (.tmp j0),?_⟩
    unfold L8;rw [if_neg hc12,if_neg hc23,if_neg (by omega),b4Z h32]
theorem b5a {a:E7}(hb:∀ x∈a.B5,x.O6.length≤1000000)(f:Int)(k:Tag)(n:Int)(e:M5):(O7 a f k n e.Key.l (M3 k n e.Key.l)).1.length≤1000000:=by
 unfold O7
 split
 ·simp
 ·split
  ·next x hx=>exact hb x (List.mem_of_find?_eq_some hx)
  ·split
   ·simp
   ·dsimp only
    split
    ·simp [M1.len]
    ·rw [a0o,M1.len];decide
theorem c6D {m : Tag × E7 × Int}{y : Item}{r : E7 × Item × Int}(h : (if m.2.2 ≠ 0 then (default, default, m.2.2) else (m.2.1, ({ y with Tag := m.1 } : Item), 0)) = r) :
    AV.t3 (.v (if m.2.2≠0 then default else m.2.1)) (.v (if m.2.2≠0 then default else ({ y with Tag:=m.1 }:Item))) (.v m.2.2) = .t3 (.v r.1) (.v r.2.1) (.v r.2.2):=by
  subst h
  by_cases h0:m.2.2=0
  · simp only [h0,ne_eq,not_true,if_false]
  · simp only [ne_eq,h0,not_false_eq_true,if_true]
def b0A (a:E7)(k:Tag)(place:Int)(e:M5)(f:Int):Tag×E7×Int :=
 M9 (O7 a (Q9 f place e.Key.l) k place e.Key.l (M3 k place e.Key.l)).2.1 (a4H (O7 a (Q9 f place e.Key.l) k place e.Key.l (M3 k place e.Key.l)).2.2 (L6 (a1c place e (O7 a (Q9 f place e.Key.l) k place e.Key.l (M3 k place e.Key.l)).1))) k
  (X4 (a1c place e (O7 a (Q9 f place e.Key.l) k place e.Key.l (M3 k place e.Key.l)).1)).1
theorem c3f (a : E7)(k : Tag)(place : Int)(e : M5)(h : a4I place e = true) : (if (b0A a k place e 1).2.2 ≠ 0 then (default, default, (b0A a k place e 1).2.2) else
    ((b0A a k place e 1).2.1,({ a1c place e (O7 a (Q9 1 place e.Key.l) k place e.Key.l (M3 k place e.Key.l)).1 with Tag:=(b0A a k place e 1).1 }:Item),0))=K3 a k place e:=by
  have h1:Q9 1 place e.Key.l=1:=by unfold Q9;simp
  have h2:b0A a k place e 1=(default,a,1):=by
    unfold b0A
    rw [h1,a2R (by decide)]
    have:a4H 1 (L6 (a1c place e []))=1:=rfl
    rw [this,a3V (by decide)]
  rw [h2]
  unfold K3
  rw [if_pos h];rfl
theorem c5C (a : E7)(k : Tag)(place : Int)(e : M5)(h : a4I place e = false) : (if (b0A a k place e 0).2.2 ≠ 0 then (default, default, (b0A a k place e 0).2.2) else
    ((b0A a k place e 0).2.1,({ a1c place e (O7 a (Q9 0 place e.Key.l) k place e.Key.l (M3 k place e.Key.l)).1 with Tag:=(b0A a k place e 0).1 }:Item),0))=K3 a k place e:=by
  have hs:=b4z a k place e.Key.l
  unfold K3 b0A
  rw [h,if_neg (show ¬(false=true) by decide),←hs]
  generalize O7 a (Q9 0 place e.Key.l) k place e.Key.l (M3 k place e.Key.l)=m1
  by_cases h0:m1.2.2=0
  · rw [h0]
    simp only [ne_eq,not_true,if_false]
    exact a8G m1.2.1 k (a1c place e m1.1)
  · have h3:a4H m1.2.2 (L6 (a1c place e m1.1))=m1.2.2:=by unfold a4H;rw [if_neg h0]
    rw [h3,a3V h0]
    simp only [ne_eq,h0,not_false_eq_true,if_true]
theorem b5b (a:E7)(k:Tag)(place:Int)(e:M5)(hm:a.F7.length≤1000000)(hl:a.B5.length≤1000000)(hb:∀ x∈a.B5,x.O6.length≤1000000):C3 gl prog 44 [.v a,.v k,.v place,.v e] (fun r=>r = .t3 (.v (K3 a k place e).1) (.v (K3 a k place e).2.1) (.v (K3 a k place e).2.2)):=by
 refine C3.jn func44 (by kernel_rfl) 45 rfl fun C hC hG => ?_
 refine .q 3 hG fun b4 => ?_
 refine .q 1 hG fun b5 => ?_
 refine .q 1 hG fun b7 => ?_
 refine .q 1 hG fun b8 => ?_
 refine .q 1 hG fun b9 => ?_
 refine .q 5 hG ?_
 refine .k0 hG (a9i _) fun r14 Hs14 hr14 => ?_
 obtain⟨w14,x14,rfl,rfl,ha14,he14⟩:=hr14
 show wpB _ _ _ _ _ _ _ ((true,_)::_)
 refine .q 6 hG ?_
 refine .k hG (b4S _) (.p (.not (.t j0) (.mv j0 (.go 18 j0 (.t j0) (fun hg19 => .P4 y3.l0 c1u j0 (.t j0) j0) (.go 18 j0 (.t j0) (fun hg20 => .ldF (fun x=>x.Number) ty3 (.q j0 hg20) .z3 (fun _=>j0) j0) (.go 18 j0 (.t j0) (fun hg21 => .J7 hG (b4R _) (.cons (.q j0 hg21) .nil) j0) ?_))))))
 refine .q 3 hG ?_
 refine .cond (.t j0) (fun hc23 => ?_) (fun hc23 => ?_)
 ·refine .q 2 hG ?_
  refine .km hG (a9l _ _ _) .z (by rintro _ _ ⟨_,rfl,_⟩;exact⟨_,rfl⟩) fun r25 B25 hr25 => ?_
  obtain⟨x25,hB,ha25,he25⟩:=hr25
  cases hB
  refine .q 2 hG ?_
  refine .T7 hC .z3 (.asP 7 j0 .z3 (.a0m [j5,j6,j6,j6,j6,j6] (by kernel_rfl) 7 [[],[],[],[],[(29,3)],[(26,0),(27,1),(28,2),(30,4)],[(31,5)]] [5,6] j0 (by kernel_rfl) j0 (by kernel_rfl) (by decide) ?_))
  refine⟨_,fun H=>OpP.move (.t j0) j0,?_⟩
  refine⟨_,fun H=>OpP.ldW T6 (.t j0) (H9.app .z4) j0,?_⟩
  refine⟨_,fun H=>OpP.move (.t j0) j0,?_⟩
  refine⟨_,fun H=>OpP.a0R y3.l1 (fun x=>x.Key) b5K j0 (fun _=>j0) (.t j0) j0,?_⟩
  refine⟨_,fun H=>OpP.a1Q (by decide) a1j (.t j0) j0,?_⟩
  refine .inl (.inl ?_)
  refine⟨⟨([],j7 [_,j4,j4,j4,j4,j4]),j0⟩,?_⟩
  refine OpH.a8h hG (c2A _ _ _ _ _ (by first|(rw [ha25,ha14];exact hl)|(rw [ha14];exact hl)) (by first|(rw [ha25,ha14];exact hb)|(rw [ha14];exact hb))) .z (.cons (.t rfl) (.cons (.t rfl) (.cons (.t rfl) (.cons (.t rfl) .nil)))) (by rintro _ _ ⟨_,rfl,_⟩;exact⟨_,rfl⟩) fun r31 B31 hr31 => ?_
  obtain⟨x31,hB,rfl,ha31,he31⟩:=hr31
  cases hB
  refine⟨⟨([],j7 [_,j4,j4,j4,j4,j4]),j0⟩,?_⟩
  refine OpH.ofP (OpP.assign (.t rfl) ?_)
  refine⟨⟨([],j7 [_,j4,j4,j4,j4,j4]),j0⟩,?_⟩
  show wpB _ _ _ _ _ [] ((12,_)::(31,_)::(30,_)::(29,_)::(28,_)::(27,_)::(26,_)::_) _
  refine .q 10 hG ?_
  refine .p (.bS4 o8.l0 o8.l1 o8.l2 o8.l4 j0 a2Y b7y (fun c0 c1 c2 c4=>(⟨c0,c1,c2,default,c4,default⟩:o8)) (fun _ _ _ _=>j0) j0 j0 j0 j0 j0 (.t j0) (.i j0) (.t j0) (.t j0) ?_)
  refine .km hG (b2V _ _ _ _ (b5a (by first|(rw [ha25,ha14];exact hb)|(rw [ha14];exact hb)) _ _ _ _) (by rw [ha31,a6u];first|(rw [ha25,ha14];exact hm)|(rw [ha14];exact hm))) .z (by rintro _ _ ⟨_,rfl,_⟩;exact⟨_,rfl⟩) fun r40 B40 hr40 => ?_
  obtain⟨x40,hB,rfl,ha40,he40⟩:=hr40
  cases hB
  refine .km hG (b2W _ _ _) .z (by rintro _ _ ⟨_,rfl,_⟩;exact⟨_,rfl⟩) fun r41 B41 hr41 => ?_
  obtain⟨x41,hB,rfl,rfl⟩:=hr41
  cases hB
  refine .q 1 hG ?_
  refine a9k hC 42 rfl .z ?_
  refine .q 7 hG ?_
  refine⟨_,.r3 j0 (.cell b0Y j0 .z2) (.cell a2Y j0 .z1) (.tmp j0),?_⟩
  have hb0:a4I place e=true:=by unfold a4I;simp only [Bool.and_eq_true,Bool.or_eq_true,Bool.not_eq_true',Bool.not_eq_false',Bool.and_eq_false_iff,Bool.or_eq_false_iff,decide_eq_true_eq,decide_eq_false_iff_not,ne_eq,Decidable.not_not] at *;omega
  have hx:x25.e=1:=by rw [he25,if_pos he14]
  simp only [ha31,he31,hx,ha25,ha14] at ha40 he40 ⊢
  rw [ha40,he40];exact c6D (c3f a k place e hb0)
 ·refine .q 2 hG ?_
  refine .T7 hC .z3 (.asP 7 j0 .z3 (.a0m [j5,j6,j6,j6,j6,j6] (by kernel_rfl) 7 [[],[],[],[],[(29,3)],[(26,0),(27,1),(28,2),(30,4)],[(31,5)]] [5,6] j0 (by kernel_rfl) j0 (by kernel_rfl) (by decide) ?_))
  refine⟨_,fun H=>OpP.move (.t j0) j0,?_⟩
  refine⟨_,fun H=>OpP.ldW T6 (.t j0) (H9.app .z4) j0,?_⟩
  refine⟨_,fun H=>OpP.move (.t j0) j0,?_⟩
  refine⟨_,fun H=>OpP.a0R y3.l1 (fun x=>x.Key) b5K j0 (fun _=>j0) (.t j0) j0,?_⟩
  refine⟨_,fun H=>OpP.a1Q (by decide) a1j (.t j0) j0,?_⟩
  refine .inl (.inl ?_)
  refine⟨⟨([],j7 [_,j4,j4,j4,j4,j4]),j0⟩,?_⟩
  refine OpH.a8h hG (c2A _ _ _ _ _ (by first|(rw [ha25,ha14];exact hl)|(rw [ha14];exact hl)) (by first|(rw [ha25,ha14];exact hb)|(rw [ha14];exact hb))) .z (.cons (.t rfl) (.cons (.t rfl) (.cons (.t rfl) (.cons (.t rfl) .nil)))) (by rintro _ _ ⟨_,rfl,_⟩;exact⟨_,rfl⟩) fun r31 B31 hr31 => ?_
  obtain⟨x31,hB,rfl,ha31,he31⟩:=hr31
  cases hB
  refine⟨⟨([],j7 [_,j4,j4,j4,j4,j4]),j0⟩,?_⟩
  refine OpH.ofP (OpP.assign (.t rfl) ?_)
  refine⟨⟨([],j7 [_,j4,j4,j4,j4,j4]),j0⟩,?_⟩
  show wpB _ _ _ _ _ [] ((12,_)::(31,_)::(30,_)::(29,_)::(28,_)::(27,_)::(26,_)::_) _
  refine .q 10 hG ?_
  refine .p (.bS4 o8.l0 o8.l1 o8.l2 o8.l4 j0 a2Y b7y (fun c0 c1 c2 c4=>(⟨c0,c1,c2,default,c4,default⟩:o8)) (fun _ _ _ _=>j0) j0 j0 j0 j0 j0 (.t j0) (.i j0) (.t j0) (.t j0) ?_)
  refine .km hG (b2V _ _ _ _ (b5a (by first|(rw [ha25,ha14];exact hb)|(rw [ha14];exact hb)) _ _ _ _) (by rw [ha31,a6u];first|(rw [ha25,ha14];exact hm)|(rw [ha14];exact hm))) .z (by rintro _ _ ⟨_,rfl,_⟩;exact⟨_,rfl⟩) fun r40 B40 hr40 => ?_
  obtain⟨x40,hB,rfl,ha40,he40⟩:=hr40
  cases hB
  refine .km hG (b2W _ _ _) .z (by rintro _ _ ⟨_,rfl,_⟩;exact⟨_,rfl⟩) fun r41 B41 hr41 => ?_
  obtain⟨x41,hB,rfl,rfl⟩:=hr41
  cases hB
  refine .q 1 hG ?_
  refine a9k hC 42 rfl .z ?_
  refine .q 7 hG ?_
  refine⟨_,.r3 j0 (.cell b0Y j0 .z2) (.cell a2Y j0 .z1) (.tmp j0),?_⟩
  have hb0:a4I place e=false:=by unfold a4I;simp only [Bool.and_eq_true,Bool.or_eq_true,Bool.not_eq_true',Bool.not_eq_false',Bool.and_eq_false_iff,Bool.or_eq_false_iff,decide_eq_true_eq,decide_eq_false_iff_not,ne_eq,Decidable.not_not] at *;omega
  simp only [ha31,he31,he14,ha14] at ha40 he40 ⊢
  rw [ha40,he40];exact c6D (c5C a k place e hb0)
end Go.Proofs.YtfdifhfnpbphaaaGreatDoor
namespace Go.Ab
open Go.Fl Go.RowKit
open u3 (rep)
universe u v
inductive S4 (α:Type) where
 | inl (l:List α)
 | inr (v:Value)
instance {α:Type}:Inhabited (S4 α):=⟨.inr (.slice none 0 0)⟩
instance {α:Type}[r:u3 α]:u3 (S4 α) where
 size:=1
 agg:=false
 rep I x cs:=match x with
  | .inl l=>rep I l cs
  | .inr v=>rep I (O2.mk v) cs
 len {I x cs} h:=by cases x with
  | inl l=>exact u3.len (α:=List α) h
  | inr v=>exact u3.len (α:=O2) h
 mono {I J x cs} hle h:=by cases x with
  | inl l=>exact u3.mono (α:=List α) hle h
  | inr v=>exact h
 one _:=rfl
 flat {I x cs} h:=by cases x with
  | inl l=>exact u3.flat (α:=List α) h
  | inr v=>exact u3.flat (α:=O2) h
instance {α:Type}[r:u3 α]:K5 (S4 α):=⟨[.slice none 0 0],fun I=>K5.zero (α:=O2) I⟩
class TyM (P:Program)(T:TypeId)(α:Type)(r:outParam (u3 α)):Prop where h:K1 P T (S4 α)
theorem OpP.d2H {α:Type}{r:u3 α}{P:Program}{N:Nat}{C:Ctx}{σ:o7}{H:j8}{o:Oper}{s:S4 α}{l:List α}{K:AV→Prop}(e:s = .inl l)(h:OpP P N C o σ H (fun r=>r = .v s))(k:K (.v l)):OpP P N C o σ H K:=fun ρ I L hs a w ha hm=>by
 subst e
 refine(h ρ I L hs a w ha hm).mono ?_
 rintro v w' ⟨J,X,q1,q2,q3,q4,q5,q6,r,q7,rfl⟩
 exact⟨J,X,q1,q2,q3,q4,q5,q6,.v l,q7,k⟩
theorem OpP.d2I {α:Type}{r:u3 α}{P:Program}{N:Nat}{C:Ctx}{σ:o7}{H:j8}{o:Oper}{s:S4 α}{w:Value}{K:AV→Prop}(e:s = .inr w)(h:OpP P N C o σ H (fun r=>r = .v s))(k:K (.raw w)):OpP P N C o σ H K:=fun ρ I L hs a w ha hm=>by
 subst e
 refine(h ρ I L hs a w ha hm).mono ?_
 rintro v w' ⟨J,X,q1,q2,q3,q4,q5,q6,r,q7,rfl⟩
 obtain⟨cs,⟨rfl,_⟩,rfl⟩:=q7
 exact⟨J,X,q1,q2,q3,q4,q5,q6,.raw _,j0,k⟩
class IsL {α:Type}(s:S4 α)(l:outParam (List α)):Prop where h:s = .inl l
instance {α:Type}{l:List α}:IsL (.inl l) l:=⟨rfl⟩
class IsR {α:Type}(s:S4 α)(v:outParam Value):Prop where h:s = .inr v
instance {α:Type}{v:Value}:IsR (α:=α) (.inr v) v:=⟨rfl⟩
section
variable {P:Program}{T:TypeId}{H:j8}
instance (priority:=high){α β:Type}{r:u3 α}{s:u3 β}{w:Value}{l:j9 α (S4 β)}{a:α}{bb:Bool}{F:Bool×C0→j8}{f:α→S4 β}{f':S4 β→α→α}{m:List β}[t:TyM P T β s][n:P3 l f f'][k:HoQ H w (bb,.ob w a) F][i:IsL (f a) m]:LdQ P T (.ln w l) H (.v m):=⟨fun N C σ x d ty ps af g h => .d2H i.h (.ldF f t.h h k.h n.e rfl) rfl⟩
instance (priority:=high){α β:Type}{r:u3 α}{s:u3 β}{w v:Value}{l:j9 α (S4 β)}{a:α}{bb:Bool}{F:Bool×C0→j8}{f:α→S4 β}{f':S4 β→α→α}[t:TyM P T β s][n:P3 l f f'][k:HoQ H w (bb,.ob w a) F][i:IsR (f a) v]:LdQ P T (.ln w l) H (.raw v):=⟨fun N C σ x d ty ps af g h => .d2I i.h (.ldF f t.h h k.h n.e rfl) rfl⟩
instance (priority:=high){α β:Type}{r:u3 α}{s:u3 β}{w:Value}{l:j9 α (S4 β)}{a:α}{v:S4 β}{bb:Bool}{F:Bool×C0→j8}{f:α→S4 β}{f':S4 β→α→α}[t:TyM P T β s][n:P3 l f f'][k:HoQ H w (bb,.ob w a) F]:SoQ P T (.ln w l) (.v v) H (F (bb,.ob w (f' v a))):=⟨fun N C σ x y ty ps af g KH hx hy q => .stF f' t.h hx hy k.h n.u q⟩
end
section
variable {G:Gl}{P:Program}{ops:List Oper}{σ:o7}{H H':j8}{ps:String}{af:Array Edge}{ty T E:TypeId}{x:Operand}
theorem G6.d0C {C:Ctx}{α:Type}{r:u3 α}{w:Value}{l:List α}{b:Bool}{F:Bool×C0→j8}{x:Operand}(hx:G6 C σ H x (.raw w))(hH:H9 H (b,.own E w l) F):G6 C σ H x (.v (S4.inr (α:=α) w)):=fun ρ I L hs=>by
 obtain⟨u,h1,rfl⟩:=hx ρ I L hs
 obtain⟨i,X,h2,⟨⟨xs,h3,_⟩,_⟩,_⟩:=hH.get hs.heap
 obtain⟨a,c,rfl⟩:=h3.shape
 exact⟨_,h1,[_],⟨j0,j0⟩,j0⟩
instance (priority:=low){a:AV}{α:Type}{r:u3 α}{w:Value}{l:List α}{b:Bool}{F:Bool×C0→j8}{y:Operand}[h:EvQ true σ x a][hy:EvQ true σ y (.raw w)][k:HoQ H w (b,.own E w l) F][so:SoQ P T a (.v (S4.inr (α:=α) w)) H H']:StD G P ops ⟨none,.store T x y,ty,ps,af,none⟩ σ H [] σ H' :=
 ⟨fun N C Q rest hG _ q => .n (so.h N C σ x y ty ps af none _ (h.h C _ rfl) (.d0C (hy.h C _ rfl) k.h) q)⟩
end
theorem C5.c3g {G:Gl}{P:Program}{f:FuncId}{ag:List AV}{Bs:List C0}{α:Type}{r:u3 α}{E:TypeId}{l:List α}(h:C5 G P f ag Bs (fun x Hs=>∃ u,x = .raw u∧Hs = [.own E u l])):C5 G P f ag Bs (fun x Hs=>∃ u,x = .v (S4.inr (α:=α) u)∧Hs = [.own E u l]):=fun I Xs vs hG hvs hB=>by
 have hM:=h I Xs vs hG hvs hB
 refine⟨hM.ok,fun w hm=>(hM.run w hm).mono ?_⟩
 rintro e w' ⟨v,J,L',rfl,q1,q2,q3,q4,q5,r,Hs,q6,q7,u,rfl,rfl⟩
 refine⟨v,J,L',j0,q1,q2,q3,q4,q5,.v (S4.inr (α:=α) u),_,?_,q7,u,j0,j0⟩
 have q6:v=u:=q6
 subst q6
 obtain⟨X,R,rfl,⟨xs,h3,_⟩,_⟩:=q7
 obtain⟨a,c,rfl⟩:=h3.shape
 exact⟨[_],⟨j0,j0⟩,j0⟩
theorem wpA.ob1 (t:Nat){P:Program}{C:Ctx}{N:Nat}{σ:o7}{H:j8}{Q:Exit→o7→j8→Prop}{α β:Type}{r:u3 α}{s:u3 β}{w:Value}{x:α}{b:Bool}{c:Code}{F:Bool×C0→j8}(y:β)[lk:LkQ σ t (.ln w (j9.id (α:=α)))][hH:HoQ H w (b,.ob w x) F](h:∀ I cs,r.rep I x cs→s.rep I y cs)(k:wpA P C N c Q ((t,.ln w (j9.id (α:=β)))::σ) (F (b,.ob w y))):wpA P C N c Q σ H :=
 .rob t (fun _:Unit=>y) (fun I cs q=>⟨(),h I cs q⟩) fun _=>k
class d0D (d:Nat):Prop where h:True
instance (priority:=2000){G:Gl}{P:Program}{l os:List Oper}{nm:Nat→Nm}{k:Nat}{σ σ':o7}{H H':j8}{T0:List (Nm→R5)}{ts:List (Option (Nat×Nat))}{D D2:List Prop}{d:Nat}{ty TT E U:TypeId}{ps:String}{af:Array Edge}{p:Nat}{bb:Bool}{F0:Bool×C0→j8}{α:Type}{rr:u3 α}{i:Inhabited α}{by_ t:Nat}{w:Value}{L m:List α}{y:Operand}
    [ms:d0D d][st:SlI P TT E α by_ rr i][hx:LkQ (P7 σ ⟨some d,.call ⟨.builtin .append,#[.tmp t,y],#[TT,U]⟩,ty,ps,af,none⟩) t (.raw w)][po:PoQ H w p (bb,.own E w L) F0][hy:T5 true (P7 σ ⟨some d,.call ⟨.builtin .append,#[.tmp t,y],#[TT,U]⟩,ty,ps,af,none⟩) y (List α) inferInstance m][un:UnI P U (.slice E)]
    [q:ChQ G P l nm (k+1) os ((d,.v (S4.inr (α:=α) (nm k).1))::σ) (F0 (bb,.own E (nm k).1 (L++m))) T0 ts σ' H' D2][cj:Cj [(L.length+m.length)*by_≤140737488355328,L.length+m.length≤9223372036854775807] D2 D] :
    ChQ G P l nm k (⟨some d,.call ⟨.builtin .append,#[.tmp t,y],#[TT,U]⟩,ty,ps,af,none⟩::os) σ H ((fun v=>⟨some (p,2),.v (S4.inr (α:=α) v.1),(bb,.own E v.1 (L++m))⟩)::T0) (some (p,2)::ts) σ' H' D :=
  ⟨fun N C F hG hD hF=>⟨⟨(bb,.own E w L),po.get,fun H' F' hh=>fun ρ I L0 hs a w0 ha hst=>by
    refine Yld.mono (OpH.b2B (KH:=fun r H''=>∃ w',r = .raw w'∧H''=F' (bb,.own E w' (L++m))) st.h (.inl ⟨_,un.h⟩) hx.h hh (.v (hy.h C H' rfl)) (cj.of hD).1.1 (cj.of hD).1.2.1 (fun w'=>⟨w',rfl,rfl⟩) ρ I L0 hs a w0 ha hst) ?_
    rintro v w1 ⟨J,L',q1,q2,x,H'',q3,q4,w',rfl,rfl⟩
    have q3:v=w':=q3
    subst q3
    obtain⟨j,X,h1,h2,_⟩:=(hh.again (B':=(bb,.own E v (L++m)))).get q4
    obtain⟨xs,h3,_⟩:=h2.1
    obtain⟨a1,c1,rfl⟩:=h3.shape
    exact⟨J,L',q1,q2,.v (S4.inr (α:=α) _),_,⟨[_],⟨rfl,rfl⟩,rfl⟩,q4,(_,0),rfl,rfl,rfl⟩⟩,by
    show chU P C N l nm F (k+1) os T0 _ (H.set p _)
    rw [po.set];exact q.h N C F hG (cj.of hD).2 hF⟩,by rw [evT,List.map_cons,q.t]⟩
instance (priority:=low){G:Gl}{P:Program}{l os:List Oper}{nm:Nat→Nm}{k:Nat}{σ σ':o7}{H H':j8}{T0:List (Nm→R5)}{ts:List (Option (Nat×Nat))}{D D2:List Prop}{d:Nat}{ty TT E U:TypeId}{ps:String}{af:Array Edge}{p:Nat}{bb:Bool}{F0:Bool×C0→j8}{α:Type}{rr:u3 α}{i:Inhabited α}{by_ t:Nat}{w:Value}{L m:List α}{y:Operand}
    [ms:c6u d][st:SlI P TT E α by_ rr i][hx:LkQ (P7 σ ⟨some d,.call ⟨.builtin .append,#[.tmp t,y],#[TT,U]⟩,ty,ps,af,none⟩) t (.raw w)][po:PoQ H w p (bb,.own E w L) F0][hy:T5 true (P7 σ ⟨some d,.call ⟨.builtin .append,#[.tmp t,y],#[TT,U]⟩,ty,ps,af,none⟩) y (List α) inferInstance m][un:UnI P U (.slice E)]
    [q:ChQ G P l nm (k+1) os ((d,.raw (nm k).1)::σ) (F0 (bb,.own E (nm k).1 (L++m))) T0 ts σ' H' D2][cj:Cj [(L.length+m.length)*by_≤140737488355328,L.length+m.length≤9223372036854775807] D2 D] :
    ChQ G P l nm k (⟨some d,.call ⟨.builtin .append,#[.tmp t,y],#[TT,U]⟩,ty,ps,af,none⟩::os) σ H ((fun v=>⟨some (p,2),.raw v.1,(bb,.own E v.1 (L++m))⟩)::T0) (some (p,2)::ts) σ' H' D :=
  ⟨fun N C F hG hD hF=>⟨⟨(bb,.own E w L),po.get,fun H' F' hh=>fun ρ I L0 hs a w0 ha hst=>by
    refine Yld.mono (OpH.b2B (KH:=fun r H''=>∃ w',r = .raw w'∧H''=F' (bb,.own E w' (L++m))) st.h (.inl ⟨_,un.h⟩) hx.h hh (.v (hy.h C H' rfl)) (cj.of hD).1.1 (cj.of hD).1.2.1 (fun w'=>⟨w',rfl,rfl⟩) ρ I L0 hs a w0 ha hst) ?_
    rintro v w1 ⟨J,L',q1,q2,x,H'',q3,q4,w',rfl,rfl⟩
    have q3:v=w':=q3
    subst q3
    exact⟨J,L',q1,q2,.raw v,_,rfl,q4,(v,0),rfl,rfl,rfl⟩⟩,by
    show chU P C N l nm F (k+1) os T0 _ (H.set p _)
    rw [po.set];exact q.h N C F hG (cj.of hD).2 hF⟩,by rw [evT,List.map_cons,q.t]⟩
section
variable {G:Gl}{P:Program}{c:Bool}{σ:o7}{H:j8}{d:Option Nat}{ty T T2:TypeId}{ps:String}{af:Array Edge}{g:Option (Nat×Bool)}{x y:Operand}{m n:UInt64}
instance [hx:T5 c σ x UInt64 inferInstance m][hy:T5 c σ y UInt64 inferInstance n]:OpD G P c ⟨d,.binOp .shl T x y T2,ty,ps,af,g⟩ σ H [n.toNat < 64] (.v (m <<< n)):=⟨fun N C hG e h => .b7v (hx.h C H e) (hy.h C H e) (Nat.zero_le _) h.1 rfl⟩
instance [hx:T5 c σ x UInt64 inferInstance m]:OpD G P c ⟨d,.unOp .xor T x,ty,ps,af,g⟩ σ H [] (.v (~~~m)):=⟨fun N C hG e h => .c08 (hx.h C H e) rfl⟩
end
class c0h (d:Nat):Prop where h:True
instance (priority:=3000){mo:Nat}{G:Gl}{P:Program}{C:Ctx}{N n:Nat}{ops:List Oper}{Q:Exit→o7→j8→Prop}{l:List Oper}{σ:o7}{H:j8}{d:Nat}{ty:TypeId}{ps:String}{af:Array Edge}{f:FuncId}{args:Array Operand}{tys:Array TypeId}{ag:List AV}{ι:Type u}{D:List Prop}{S:ι→Prop}{R:ι→AV}{Ns:ι→List C0}{E:List Bool}{HX:ι→j8}{EX:ι→List Bool}{AX:ι→Prop}{A:Prop}
    [ox:c0h d][hv:AsQ true σ args.toList ag][c:CaX G P f ag ι D S R Ns][ow:∀ x,OwQ (Ns x) H (HX x)][k:∀ x,Rw mo G P C N n (.b ops Q l) ((d,R x)::σ) (HX x) (EX x) (AX x)][cE:CoQ EX E][pr:PrQ D (∀ x,S x→AX x) A] :
    Rw mo G P C N (n+1) (.b ops Q (⟨some d,.call ⟨.value (.func f),args,tys⟩,ty,ps,af,none⟩::l)) σ H E A :=
  ⟨fun g e h => .h (.a52 g.2 (c.h (pr.h h).1) (hv.h C H rfl) fun r Hs q=>by
    obtain⟨x,hx,rfl,rfl⟩:=q
    rw [a9g,(ow x).h]
    exact(k x).h g (cast (congrArg (fun z=>a0A z=true) (cE.h x)).symm e) ((pr.h h).2 x hx))⟩
instance (priority:=3000){G:Gl}{P:Program}{l os:List Oper}{nm:Nat→Nm}{k:Nat}{σ σ':o7}{H H':j8}{T:List (Nm→R5)}{ts:List (Option (Nat×Nat))}{D D1 D2:List Prop}{d:Nat}{ty:TypeId}{ps:String}{af:Array Edge}{f:FuncId}{args:Array Operand}{tys:Array TypeId}{ag:List AV}{p:Nat}{F0:Bool×C0→j8}
    {R:Value→AV}{E:TypeId}{α:Type}{rr:u3 α}{L:List α}[ox:c0h d][hv:AsQ true (P7 σ ⟨some d,.call ⟨.value (.func f),args,tys⟩,ty,ps,af,none⟩) args.toList ag][c:CaN G P f ag D1 R E α rr L][ho:HlQ H p F0]
    [q:ChQ G P l nm (k+1) os ((d,R (nm k).1)::σ) (F0 (true,.own E (nm k).1 L)) T ts σ' H' D2][cj:Cj D1 D2 D] :
    ChQ G P l nm k (⟨some d,.call ⟨.value (.func f),args,tys⟩,ty,ps,af,none⟩::os) σ H ((fun v=>⟨some (p,2),R v.1,(true,.own E v.1 L)⟩)::T) (some (p,2)::ts) σ' H' D :=
  ⟨fun N C F hG hD hF=>⟨⟨a0S,ho.get,fun H' F' hh=>OpH.c1T hh (.a52 hG.2 (c.h (cj.of hD).1) (hv.h C H' rfl) fun r Hs e=>by
    obtain⟨u,rfl,rfl⟩:=e
    exact⟨_,rfl,(u,0),rfl,rfl,rfl⟩)⟩,by
    show chU P C N l nm F (k+1) os T _ (H.set p _)
    rw [ho.set];exact q.h N C F hG (cj.of hD).2 hF⟩,by rw [evT,List.map_cons,q.t]⟩
instance {c:Bool}{σ:o7}:EvQ c σ (.const (.pointer none)) (.raw (.pointer none)):=⟨fun _ _ _ ρ I L hs=>⟨_,rfl,rfl⟩⟩
instance (priority:=low){c:Bool}{σ:o7}{f:FuncId}:EvQ c σ (.func f) (.v (FnV.mk (some f))):=⟨fun C H e=>(inferInstance:T5 c σ (.func f) FnV inferInstance (FnV.mk (some f))).h C H e⟩
theorem d2J {P:Program}{ρ:Env}{I:Fl.Im}{L:Lh}{fn:Func}{r r2 r3 r4:ResultVar}{v v2 v3 v4:Value}(h:fn.results = #[r,r2,r3,r4])(h1:a41 P r ρ I L v)(h2:a41 P r2 ρ I L v2)(h3:a41 P r3 ρ I L v3)(h4:a41 P r4 ρ I L v4):Fin P fn ρ I L (.tuple #[v,v2,v3,v4]):=fun N a w ha hm=>by
 simp [a1o,h,h1 N a w ha hm,h2 N a w ha hm,h3 N a w ha hm,h4 N a w ha hm]
theorem a81.r4 {P:Program}{C:Ctx}{σ:o7}{H:j8}{fn:Func}{q q2 q3 q4:ResultVar}{a b c e:AV}(h:fn.results = #[q,q2,q3,q4])(h1:a2W P q C σ H a)(h2:a2W P q2 C σ H b)(h3:a2W P q3 C σ H c)(h4:a2W P q4 C σ H e):a81 P fn C σ H (.t4 a b c e):=fun ρ I L hs=>by
 obtain⟨v,k1,k2⟩:=h1 ρ I L hs
 obtain⟨v2,l1,l2⟩:=h2 ρ I L hs
 obtain⟨v3,m1,m2⟩:=h3 ρ I L hs
 obtain⟨v4,n1,n2⟩:=h4 ρ I L hs
 exact⟨_,d2J h k1 l1 m1 n1,v,v2,v3,v4,j0,k2,l2,m2,n2⟩
instance {P:Program}{C:Ctx}{σ:o7}{H:j8}{q1 q2 q3 q4:ResultVar}{a1 a2 a3 a4:AV}[h1:R1Q P C q1 σ H a1][h2:R1Q P C q2 σ H a2][h3:R1Q P C q3 σ H a3][h4:R1Q P C q4 σ H a4]:ReQ P C [q1,q2,q3,q4] σ H (.t4 a1 a2 a3 a4):=⟨fun h => .r4 h h1.h h2.h h3.h h4.h⟩
section
variable {G:Gl}{P:Program}{N:Nat}{C:Ctx}{c:Bool}{σ:o7}{H:j8}{d:Option Nat}{ty:TypeId}{ps:String}{af:Array Edge}{g:Option (Nat×Bool)}{x:Operand}{a1 a2 a3 a4:AV}
instance [h:EvQ c σ x (.t4 a1 a2 a3 a4)]:OpQ G P c ⟨d,.extract x 0,ty,ps,af,g⟩ σ H a1:=⟨fun N C hG e => .L9 a1 (fun ρ I L hs=>by obtain⟨u,h1,v,w,t,z,rfl,h3,h4,h5,h6⟩:=h.h C H e ρ I L hs;exact .extract h1 rfl h3) rfl⟩
instance [h:EvQ c σ x (.t4 a1 a2 a3 a4)]:OpQ G P c ⟨d,.extract x 1,ty,ps,af,g⟩ σ H a2:=⟨fun N C hG e => .L9 a2 (fun ρ I L hs=>by obtain⟨u,h1,v,w,t,z,rfl,h3,h4,h5,h6⟩:=h.h C H e ρ I L hs;exact .extract h1 rfl h4) rfl⟩
instance [h:EvQ c σ x (.t4 a1 a2 a3 a4)]:OpQ G P c ⟨d,.extract x 2,ty,ps,af,g⟩ σ H a3:=⟨fun N C hG e => .L9 a3 (fun ρ I L hs=>by obtain⟨u,h1,v,w,t,z,rfl,h3,h4,h5,h6⟩:=h.h C H e ρ I L hs;exact .extract h1 rfl h5) rfl⟩
instance [h:EvQ c σ x (.t4 a1 a2 a3 a4)]:OpQ G P c ⟨d,.extract x 3,ty,ps,af,g⟩ σ H a4:=⟨fun N C hG e => .L9 a4 (fun ρ I L hs=>by obtain⟨u,h1,v,w,t,z,rfl,h3,h4,h5,h6⟩:=h.h C H e ρ I L hs;exact .extract h1 rfl h6) rfl⟩
end
theorem OpP.c7U {P:Program}{C:Ctx}{N:Nat}{σ:o7}{H:j8}{d:Option Nat}{ty:TypeId}{ps:String}{af:Array Edge}{g:Option (Nat×Bool)}{K:AV→Prop}{x:Operand}{T T2 E E':TypeId}{α:Type}{r:u3 α}{w:Value}{l:List α}{b:Bool}{F:Bool×C0→j8}(hT:P.underlying T=some (.slice E))(hx:G6 C σ H x (.raw w))(hH:H9 H (b,.own E' w l) F)(k:∀ c:Bool,(c=true→l = [])→K (.v c)) :
    OpP P N C ⟨d,.binOp .eql T x (.const (.slice none 0 0)) T2,ty,ps,af,g⟩ σ H K:=fun ρ I L hs=>by
  obtain⟨u,h1,rfl⟩:=hx ρ I L hs
  obtain⟨i,X,h2,⟨⟨xs,h3,_⟩,_⟩,_⟩:=hH.get hs.heap
  have h4:∃ a c,u = .slice a l.length c∧(a.isNone=true→l = []):=by
    rcases h3 with ⟨⟨a,e⟩,hn,_⟩|⟨b',c',sp,q,e,_⟩
    · exact⟨a,0,by rw [hn];exact e,fun _=>List.eq_nil_of_length_eq_zero hn⟩
    · exact⟨_,_,e,fun h=>by cases h⟩
  obtain⟨a,c,rfl,h5⟩:=h4
  exact .L9 (O0.b2a hT h1 j0 ⟨j0,.v a.isNone,⟨_,j0,j0⟩,k _ h5⟩)
section
variable {mo:Nat}{G:Gl}{P:Program}{C:Ctx}{N n:Nat}{ops:List Oper}{Q:Exit→o7→j8→Prop}{l:List Oper}{σ:o7}{H:j8}{d:Nat}{ps:String}{af:Array Edge}{x y:Operand}{T T2 E E' U ty:TypeId}{Eb:List Bool}{EX:Bool→List Bool}{AX:Bool→Prop}
instance (priority:=high){α:Type}{r:u3 α}{w:Value}{L:List α}{bb:Bool}{F:Bool×C0→j8}[u:UnI P T (.slice E)][hx:EvQ true σ x (.raw w)][hH:HoQ H w (bb,.own E' w L) F][k:∀ b:Bool,Rw mo G P C N n (.b ops Q l) ((d,.v b)::σ) H (EX b) (AX b)][cE:CoQ EX Eb] :
    Rw mo G P C N (n+1) (.b ops Q (⟨some d,.binOp .eql T x (.const (.slice none 0 0)) T2,ty,ps,af,none⟩::l)) σ H Eb (∀ b:Bool,(b=true→L = [])→AX b):=⟨fun g e h => .p (.c7U u.h (hx.h C H rfl) hH.h fun b hb=>(k b).h g (cast (congrArg (fun z=>a0A z=true) (cE.h b)).symm e) (h b hb))⟩
end
class CaT (G:Gl)(P:Program)(f:FuncId)(ag:List AV)(B:C0)(D:outParam (List Prop))(R:outParam (Value→AV))(B':outParam (Value→C0)):Prop where h:Y5 D→C5 G P f ag [B] (fun x Hs=>∃ u,x=R u∧Hs = [B' u])
instance (priority:=3000){G:Gl}{P:Program}{l os:List Oper}{nm:Nat→Nm}{k:Nat}{σ σ':o7}{H H':j8}{T:List (Nm→R5)}{ts:List (Option (Nat×Nat))}{D D1 D2:List Prop}{d:Nat}{ty:TypeId}{ps:String}{af:Array Edge}{f:FuncId}{args:Array Operand}{tys:Array TypeId}{ag:List AV}{w:Value}{p:Nat}{b:Bool}{B:C0}{R:Value→AV}{B':Value→C0}{F0:Bool×C0→j8}
    [hv:AsQ true (P7 σ ⟨some d,.call ⟨.value (.func f),args,tys⟩,ty,ps,af,none⟩) args.toList ag][fp:FpQ ag w][po:PoQ H w p (b,B) F0][c:CaT G P f ag B D1 R B'][q:ChQ G P l nm (k+1) os ((d,R (nm k).1)::σ) (F0 (b,B' (nm k).1)) T ts σ' H' D2][cj:Cj D1 D2 D] :
    ChQ G P l nm k (⟨some d,.call ⟨.value (.func f),args,tys⟩,ty,ps,af,none⟩::os) σ H ((fun v=>⟨some (p,2),R v.1,(b,B' v.1)⟩)::T) (some (p,2)::ts) σ' H' D :=
  ⟨fun N C F hG hD hF=>⟨⟨(b,B),po.get,fun H' F' hh => .a8h hG.2 (c.h (cj.of hD).1) hh (hv.h C H' rfl) (fun x Hs e=>by
    obtain⟨u,_,e2⟩:=e
    exact⟨B' u,e2⟩) fun x B2 e=>by
    obtain⟨u,rfl,e2⟩:=e
    cases e2
    exact⟨(u,0),rfl,rfl,rfl⟩⟩,by
    show chU P C N l nm F (k+1) os T _ (H.set p _)
    rw [po.set];exact q.h N C F hG (cj.of hD).2 hF⟩,by rw [evT,List.map_cons,q.t]⟩
theorem CaM.d2K {G:Gl}{P:Program}{C:Ctx}{N:Nat}{σ:o7}{H:j8}{o:Oper}{f:FuncId}{ag:List AV}{D:List Prop}{r:AV}{b:Bool}{B B':C0}{F:Bool×C0→j8}(k:CaM G P f ag B D r B')(en:a64 P N C o σ H f ag)(hH:H9 H (b,B) F)(hG:G.p C.I0)(hD:Y5 D){K:AV→j8→Prop}(hk:K r (F (b,B'))):OpH P C N o σ H K:=by
 have h1:HoQ H (.bool true) (b,B) F:=⟨hH⟩
 have h2:HoQ (F (true,.fz (.bool true) (.raw (.bool true)))) (.bool true) (true,.fz (.bool true) (.raw (.bool true))) F:=⟨hH.again⟩
 have tk:TkQ H [.bool true] [(b,B)] (F (true,.fz (.bool true) (.raw (.bool true)))):=inferInstance
 have sn:a5S [(b,B)] [B] b:=by cases b<;>exact⟨rfl,rfl⟩
 have wt:a5f b [B'] [(b,B')]:=inferInstance
 have pb:PbQ (F (true,.fz (.bool true) (.raw (.bool true)))) [.bool true] [(b,B')] (F (b,B')):=inferInstance
 exact .ent hG en tk sn.s (k.h hD) fun x Hs e=>⟨[B'],[],_,by rw [e.2];rfl,by rw [sn.b,wt.h];exact pb,e.1▸hk⟩
instance {G:Gl}{P:Program}{l os:List Oper}{nm:Nat→Nm}{k:Nat}{σ σ':o7}{H H':j8}{T:List (Nm→R5)}{ts:List (Option (Nat×Nat))}{D D1 D2:List Prop}{d t:Nat}{ty:TypeId}{ps:String}{af:Array Edge}{r:AV}{f:FuncId}{args:Array Operand}{tys:Array TypeId}{ag:List AV}{w:Value}{p:Nat}{b:Bool}{B B':C0}{F0:Bool×C0→j8}
    [en:EnQ P ⟨some d,.call ⟨.value (.tmp t),args,tys⟩,ty,ps,af,none⟩ (P7 σ ⟨some d,.call ⟨.value (.tmp t),args,tys⟩,ty,ps,af,none⟩) f ag][fp:FpQ ag w][po:PoQ H w p (b,B) F0][c:CaM G P f ag B D1 r B'][q:ChQ G P l nm (k+1) os ((d,r)::σ) (F0 (b,B')) T ts σ' H' D2][cj:Cj D1 D2 D] :
    ChQ G P l nm k (⟨some d,.call ⟨.value (.tmp t),args,tys⟩,ty,ps,af,none⟩::os) σ H ((fun _=>⟨some (p,1),r,(b,B')⟩)::T) (some (p,1)::ts) σ' H' D :=
  ⟨fun N C F hG hD hF=>⟨⟨(b,B),po.get,fun H' F' hh=>c.d2K (en.h N C H') hh hG.2 (cj.of hD).1 ⟨rfl,rfl⟩⟩,by
    show chU P C N l nm F (k+1) os T _ (H.set p (b,B'))
    rw [po.set];exact q.h N C F hG (cj.of hD).2 hF⟩,by rw [evT,List.map_cons,q.t]⟩
instance (priority:=2000){G:Gl}{P:Program}{l os:List Oper}{nm:Nat→Nm}{k:Nat}{σ σ':o7}{H H':j8}{T:List (Nm→R5)}{ts:List (Option (Nat×Nat))}{D:List Prop}{d:Nat}{ty TT:TypeId}{ps:String}{af:Array Edge}{α:Type}{rr:u3 α}{j:Inhabited α}{p:Nat}{F0:Bool×C0→j8}[al:AlR d α rr][t:TyG P TT α rr j][ho:HlQ H p F0]
    [q:ChQ G P l nm (k+1) os ((d,.ln (ptr (nm k).2 0) (j9.id (α:=α)))::σ) (F0 (true,.ob (ptr (nm k).2 0) (default:α))) T ts σ' H' D] :
    ChQ G P l nm k (⟨some d,.alloc TT,ty,ps,af,none⟩::os) σ H ((fun v=>⟨some (p,2),.ln (ptr v.2 0) (j9.id (α:=α)),(true,.ob (ptr v.2 0) (default:α))⟩)::T) (some (p,2)::ts) σ' H' D :=
  ⟨fun N C F hG hD hF=>⟨⟨a0S,ho.get,fun H' F' hh=>OpH.c1T hh (OpH.alloc t.h fun b=>⟨_,rfl,(undef,b),rfl,rfl,rfl⟩)⟩,by
    show chU P C N l nm F (k+1) os T _ (H.set p _)
    rw [ho.set];exact q.h N C F hG hD hF⟩,by rw [evT,List.map_cons,q.t]⟩
section
variable {P:Program}{C:Ctx}{N:Nat}{σ:o7}{H:j8}{Q:Exit→o7→j8→Prop}{c:Code}
theorem wpA.glue {H1 Bs:j8}{Bs0:List C0}{b:Bool}(ws:List Value)(B:C0)[tk:TkQ H ws Bs H1][sn:a5S Bs Bs0 b](h:∀ I Xs,Q7 I Bs0 Xs→B.a0w I Xs.flatten)(k:wpA P C N c Q σ ((b,B)::H1)):wpA P C N c Q σ H:=fun ρ I L hs a w ha hw=>by
 obtain⟨Xs,R,q1,q2,q3⟩:=tk.h _ I L hs.heap
 refine k ρ I (Xs.flatten::R) ⟨hs.env,⟨_,_,rfl,⟨h I Xs (sn.s▸a97 q2),fun hb=>b2C q2 (by rw [sn.b];exact hb)⟩,q3⟩,hs.U1⟩ a w ha (a4j hw ?_)
 rw [List.flatten_cons];exact q1
theorem wpA.b0B {ι:Type}{b:Bool}{B:C0}{F:Bool×C0→j8}{H1 H2:ι→j8}(w:Value)[hH:HoQ H w (b,B) F](Bs:ι→List C0)[wt:∀ i,a5f b (Bs i) (H1 i)][ap:∀ i,b4a (H1 i) (F a1g) (H2 i)](h:∀ I X,B.a0w I X→∃ i Xs,X=Xs.flatten∧Q7 I (Bs i) Xs)(k:∀ i,wpA P C N c Q σ (H2 i)):wpA P C N c Q σ H:=fun ρ I L hs a v ha hv=>by
 obtain⟨i,X,h1,h2,h3⟩:=hH.h.get hs.heap
 obtain⟨j,Xs,rfl,h4⟩:=h I X h2.1
 have h5:=h3 I a0S [] (Le.refl I) ⟨⟨rfl,trivial⟩,fun _ p hp=>by cases hp⟩
 refine k j ρ I (Xs++L.set i []) ⟨hs.env,?_,hs.U1⟩ a v ha (a4j hv ?_)
 ·rw [←(ap j).h,←(wt j).h]
  exact a63 (a98 h4 h2.2) h5
 ·have h7:(L.set i [])[i]?=some []:=by
   have hi:=(List.getElem?_eq_some_iff.1 h1).1
   simp [hi]
  have h8:=V8 h7 Xs.flatten
  have h9:(L.set i []).set i Xs.flatten=L:=by
   obtain⟨hi,e⟩:=List.getElem?_eq_some_iff.1 h1
   rw [List.set_set,←e,List.set_getElem_self]
  rw [h9] at h8
  rw [List.flatten_append]
  exact h8.symm
theorem wpB.b0B {ops:Array Oper}{os:List Oper}{ι:Type}{b:Bool}{B:C0}{F:Bool×C0→j8}{H1 H2:ι→j8}(w:Value)[hH:HoQ H w (b,B) F](Bs:ι→List C0)[wt:∀ i,a5f b (Bs i) (H1 i)][ap:∀ i,b4a (H1 i) (F a1g) (H2 i)](h:∀ I X,B.a0w I X→∃ i Xs,X=Xs.flatten∧Q7 I (Bs i) Xs)(k:∀ i,wpB P C N ops Q os σ (H2 i)):wpB P C N ops Q os σ H:=fun ρ I L hs hds a v ha hv=>by
 obtain⟨i,X,h1,h2,h3⟩:=hH.h.get hs.heap
 obtain⟨j,Xs,rfl,h4⟩:=h I X h2.1
 have h5:=h3 I a0S [] (Le.refl I) ⟨⟨rfl,trivial⟩,fun _ p hp=>by cases hp⟩
 refine k j ρ I (Xs++L.set i []) ⟨hs.env,?_,hs.U1⟩ hds a v ha (a4j hv ?_)
 ·rw [←(ap j).h,←(wt j).h]
  exact a63 (a98 h4 h2.2) h5
 ·have h7:(L.set i [])[i]?=some []:=by
   have hi:=(List.getElem?_eq_some_iff.1 h1).1
   simp [hi]
  have h8:=V8 h7 Xs.flatten
  have h9:(L.set i []).set i Xs.flatten=L:=by
   obtain⟨hi,e⟩:=List.getElem?_eq_some_iff.1 h1
   rw [List.set_set,←e,List.set_getElem_self]
  rw [h9] at h8
  rw [List.flatten_append]
  exact h8.symm
class HuQ (H:j8)(F:outParam (Bool×C0→j8)):Prop where h:H9 H a1g F
instance {H:j8}:HuQ (a1g::H) (fun X=>X::H):=⟨.z⟩
instance (priority:=low){A:Bool×C0}{H:j8}{F:Bool×C0→j8}[k:HuQ H F]:HuQ (A::H) (fun X=>A::F X):=⟨.s k.h⟩
theorem wpA.d0E {H1 Bs:j8}{Bs0:List C0}{b:Bool}{F:Bool×C0→j8}(ws:List Value)(B:C0)[tk:TkQ H ws Bs H1][sn:a5S Bs Bs0 b][hu:HuQ H1 F](h:∀ I Xs,Q7 I Bs0 Xs→B.a0w I Xs.flatten)(k:wpA P C N c Q σ (F (b,B))):wpA P C N c Q σ H:=fun ρ I L hs a w ha hw=>by
 obtain⟨Xs,R,q1,q2,q3⟩:=tk.h _ I L hs.heap
 obtain⟨i,X,h1,h2,h3⟩:=hu.h.get q3
 have hX:X = []:=h2.1.1
 subst hX
 refine k ρ I (R.set i Xs.flatten) ⟨hs.env,h3 I (b,B) Xs.flatten (Le.refl I) ⟨h I Xs (sn.s▸a97 q2),fun hb=>b2C q2 (by rw [sn.b];exact hb)⟩,hs.U1⟩ a w ha (a4j hw ?_)
 exact(V8 h1 Xs.flatten).trans q1
theorem wpA.c7V {b:Bool}{B:C0}{F:Bool×C0→j8}(w:Value)(B':C0)[hH:HoQ H w (b,B) F](h:∀ I X,B.a0w I X→B'.a0w I X)(k:wpA P C N c Q σ (F (b,B'))):wpA P C N c Q σ H:=fun ρ I L hs=>by
 obtain⟨i,X,h2,h3,h4⟩:=hH.h.get hs.heap
 have hset:L.set i X=L:=by
  obtain⟨hi,e⟩:=List.getElem?_eq_some_iff.1 h2
  rw [←e,List.set_getElem_self]
 have:=h4 I (b,B') X (Le.refl I) ⟨h I X h3.1,h3.2⟩
 rw [hset] at this
 exact k ρ I L ⟨hs.env,this,hs.U1⟩
end
theorem C5.c6E {G : Gl}{P : Program}{f : FuncId}{ag : List AV}{ι κ : Type}{B B' : C0}{R : AV}(Bs : ι → List C0)(Cs : κ → List C0)(h : ∀ i, C5 G P f ag (Bs i) (fun r Hs => r = R ∧ ∃ j, Hs = Cs j))
    (hB:∀ I X,B.a0w I X→∃ i Xs,X=Xs.flatten∧Q7 I (Bs i) Xs)(hC:∀ I j Xs,Q7 I (Cs j) Xs→B'.a0w I Xs.flatten):C5 G P f ag [B] (fun r Hs=>r=R∧Hs = [B']) :=
  .a2D fun I L vs hvs hL=>by
    obtain⟨X,R0,rfl,h1,h2⟩:=hL
    have h2:R0 = []:=h2
    subst h2
    obtain⟨i,Xs,rfl,h3⟩:=hB I X h1
    refine⟨ag,Bs i,Xs,by simp,hvs,h3,(h i).mono fun r Hs q J L1 hk => ?_⟩
    obtain⟨rfl,j,rfl⟩:=q
    exact⟨[B'],[L1.flatten],by simp,⟨_,[],rfl,hC J j L1 hk,rfl⟩,rfl,rfl⟩
theorem wpB.ob1 (t:Nat){P:Program}{C:Ctx}{N:Nat}{σ:o7}{H:j8}{Q:Exit→o7→j8→Prop}{ops:Array Oper}{os:List Oper}{α β:Type}{r:u3 α}{s:u3 β}{w:Value}{x:α}{b:Bool}{F:Bool×C0→j8}(y:β)[lk:LkQ σ t (.ln w (j9.id (α:=α)))][hH:HoQ H w (b,.ob w x) F](h:∀ I cs,r.rep I x cs→s.rep I y cs)(k:wpB P C N ops Q os ((t,.ln w (j9.id (α:=β)))::σ) (F (b,.ob w y))):wpB P C N ops Q os σ H :=
 .rob t (fun _:Unit=>y) (fun I cs q=>⟨(),h I cs q⟩) fun _=>k
end Go.Ab
namespace Go.Proofs.YtfdifhfnpbphaaaGreatDoor
open Go.Proofs.Tryz
open Go.Fl Go.Ab Go.Mac
structure B7 where
 C9:(M1 32 UInt8)
 Ring:D5
 C8:(S4 y2)
 G3:(S4 o8)
 Device:l9
 Up:Bool
def B7.f (x:B7):(M1 32 UInt8)×D5×(S4 y2)×(S4 o8)×l9×Bool×Unit:=(x.C9,x.Ring,x.C8,x.G3,x.Device,x.Up,())
instance:Inhabited B7:=⟨⟨default,default,default,default,default,default⟩⟩
instance:u3 B7:=u3.via B7.f
instance:K5 B7:=K5.via B7.f rfl
def B7.l0:j9 B7 (M1 32 UInt8):=j9.via B7.f j9.fst (fun x=>x.C9) (fun y x => { x with C9:=y }) (fun _=>rfl) (fun _ _=>rfl)
def B7.l1:j9 B7 D5:=j9.via B7.f (j9.snd.comp j9.fst) (fun x=>x.Ring) (fun y x => { x with Ring:=y }) (fun _=>rfl) (fun _ _=>rfl)
def B7.l2:j9 B7 (S4 y2):=j9.via B7.f (j9.snd.comp (j9.snd.comp j9.fst)) (fun x=>x.C8) (fun y x => { x with C8:=y }) (fun _=>rfl) (fun _ _=>rfl)
def B7.l3:j9 B7 (S4 o8):=j9.via B7.f (j9.snd.comp (j9.snd.comp (j9.snd.comp j9.fst))) (fun x=>x.G3) (fun y x => { x with G3:=y }) (fun _=>rfl) (fun _ _=>rfl)
def B7.l4:j9 B7 l9:=j9.via B7.f (j9.snd.comp (j9.snd.comp (j9.snd.comp (j9.snd.comp j9.fst)))) (fun x=>x.Device) (fun y x => { x with Device:=y }) (fun _=>rfl) (fun _ _=>rfl)
def B7.l5:j9 B7 Bool:=j9.via B7.f (j9.snd.comp (j9.snd.comp (j9.snd.comp (j9.snd.comp (j9.snd.comp j9.fst))))) (fun x=>x.Up) (fun y x => { x with Up:=y }) (fun _=>rfl) (fun _ _=>rfl)
theorem d0F:K1 prog 32 (S4 y2) := .ok (by kernel_rfl)
instance:TyM prog 32 y2 inferInstance:=⟨d0F⟩
theorem d0G:K1 prog 33 (S4 o8) := .ok (by kernel_rfl)
instance:TyM prog 33 o8 inferInstance:=⟨d0G⟩
theorem d0H:K1 prog 39 B7 := .ok (by kernel_rfl)
instance:TyK prog 39 B7:=⟨d0H⟩
instance:FdS prog 39 0 B7.l0 (fun x=>x.C9):=⟨.ok c1n rfl fun _=>rfl⟩
instance:P3 B7.l0 (fun x=>x.C9) (fun y x => { x with C9:=y }):=⟨fun _=>rfl,fun _ _=>rfl⟩
instance:FdS prog 39 1 B7.l1 (fun x=>x.Ring):=⟨.ok c1o rfl fun _=>rfl⟩
instance:P3 B7.l1 (fun x=>x.Ring) (fun y x => { x with Ring:=y }):=⟨fun _=>rfl,fun _ _=>rfl⟩
instance:FdS prog 39 2 B7.l2 (fun x=>x.C8):=⟨.ok c1p rfl fun _=>rfl⟩
instance:P3 B7.l2 (fun x=>x.C8) (fun y x => { x with C8:=y }):=⟨fun _=>rfl,fun _ _=>rfl⟩
instance:FdS prog 39 3 B7.l3 (fun x=>x.G3):=⟨.ok c1q rfl fun _=>rfl⟩
instance:P3 B7.l3 (fun x=>x.G3) (fun y x => { x with G3:=y }):=⟨fun _=>rfl,fun _ _=>rfl⟩
instance:FdS prog 39 4 B7.l4 (fun x=>x.Device):=⟨.ok c1r rfl fun _=>rfl⟩
instance:P3 B7.l4 (fun x=>x.Device) (fun y x => { x with Device:=y }):=⟨fun _=>rfl,fun _ _=>rfl⟩
instance:FdS prog 39 5 B7.l5 (fun x=>x.Up):=⟨.ok c1s rfl fun _=>rfl⟩
instance:P3 B7.l5 (fun x=>x.Up) (fun y x => { x with Up:=y }):=⟨fun _=>rfl,fun _ _=>rfl⟩
abbrev IsM:=B7
def b0C (x:l8):IsM:=⟨x.C9,x.Ring,.inl x.C8,.inl x.G3,x.Device,x.Up⟩
abbrev mx (x:l8)(um ui:Value):IsM:=⟨x.C9,x.Ring,.inr um,.inr ui,x.Device,x.Up⟩
theorem a5u (x:l8)(I:Fl.Im)(cs:List Value)(h:u3.rep I x cs):u3.rep I (b0C x) cs:=h
theorem a7p (x:l8)(h:IsB x):C5 gl prog 41 [.v x] [] (fun r Hs=>∃ u:Value×Value,r = .v (mx x u.1 u.2)∧Hs = [.own 114 u.1 x.C8,.own 101 u.2 x.G3]):=by
 have i1:∀ (l:List y2),CaN gl prog 66 [.v l] [l.length≤1000000,∀ m∈l,U3 m.y7] (fun u => .v (S4.inr (α:=y2) u)) 114 y2 inferInstance l:=fun l=>⟨fun h=>(a7d l h.1 h.2.1).c3g⟩
 have i2:∀ (l:List o8),CaN gl prog 65 [.v l] [l.length≤1000000,∀ x∈l,x.O6.length≤1000000] (fun u => .v (S4.inr (α:=o8) u)) 101 o8 inferInstance l:=fun l=>⟨fun h=>(a7c l h.1 h.2.1).c3g⟩
 have o9:c0h 9:=⟨trivial⟩
 have o12:c0h 12:=⟨trivial⟩
 have i_cloneEp_c:∀ (l:List y3),Q5 gl prog 80 [.v l] [l.length≤1000000] (.v l):=fun l=>⟨fun hh=>b1F l hh.1⟩
 have i_dvCopied_c:∀ (d:l9),Q5 gl prog 81 [.v d] [W9 d] (.v d):=fun d=>⟨fun hh=>a4p d hh.1⟩
 refine .go func41 j0 22 [.cell 2 39] j0 (by kernel_rfl) fun C hG=>(.f hG j0 fun b1 b2=>(.ob1 1 (b0C x) (a5u x) (.ob1 2 (b0C default) (a5u default) ?_)))
 unfold b0C
 refine .z hG (by kernel_rfl) ?_
 exact⟨h.live,h.a1i,h.c0f,h.items,h.boxes,h.dev,⟨fun _ _=>by kernel_rfl,fun _ _=>by kernel_rfl,trivial⟩,fun nm=>P5.of [(nm 6).1,(nm 9).1] ⟨((nm 6).1,(nm 9).1),rfl,rfl⟩⟩
structure IsV where
 x:l8
abbrev a7q (x:l8)(w:Value)(u:Value×Value):List C0 := [.ob w (mx x u.1 u.2),.own 114 u.1 x.C8,.own 101 u.2 x.G3]
theorem b8C {I J:Fl.Im}(hle:Le I J):∀ {Hs:List C0} {L:Lh},Q7 I Hs L→Q7 J Hs L
 | [],_,h=>h
 | B::Hs,_,h=>by obtain⟨X,R,rfl,h1,h2⟩:=h;exact⟨X,R,rfl,C0.mono hle h1,b8C hle h2⟩
instance:UB IsV where
 ub I w s X:=∃ u Xs,X=Xs.flatten∧Q7 I (a7q s.x w u) Xs
 mono hle h:=by obtain⟨u,Xs,e,h⟩:=h;exact⟨u,Xs,e,b8C hle h⟩
def H6 (a:E7)(x:l8)(i:Item):l8×Int :=
 if i.Kind=1 then
  if (L8 a x.C9 i).2≠0 then (x,(L8 a x.C9 i).2) else
  if (W0 x.Ring (L8 a x.C9 i).1).2≠0 then (x,(W0 x.Ring (L8 a x.C9 i).1).2) else
  ({ x with Ring:=(W0 x.Ring (L8 a x.C9 i).1).1,G3:=x.G3 ++ [i] },0)
 else ({ x with G3:=x.G3 ++ [i] },0)
theorem c3h (b:Nat)(a:E7)(x:l8)(i:Item)(hk:i.Kind≠2)(hpl:∀ y∈a.B5,y.Plain.length≤1000000)(hr:x.Ring.Live.length≤1000000)(hi:x.G3.length≤1000000)(hb:i.O6.length≤1000000) :
    C5 gl prog 49 [.v a,.ln (ptr b 0) (j9.id (α:=IsM)),.v i] [.P2 (ptr b 0) (IsV.mk x)] (fun r Hs=>r = .v (H6 a x i).2∧Hs = [.P2 (ptr b 0) (IsV.mk (H6 a x i).1)]):=by
  refine .c6E (a7q x (ptr b 0)) (a7q (H6 a x i).1 (ptr b 0)) (fun u => ?_) (fun I X h=>h) (fun I j Xs h=>⟨j,Xs,j0,h⟩)
  have m64:d0D 64:=⟨trivial⟩
  have i_epoch_c:∀ (a:E7) (k:Tag) (x:Item),Q5 gl prog 99 [.v a,.v k,.v x] [∀ y∈a.B5,y.Plain.length≤1000000] (.t2 (.v (L8 a k x).1) (.v (L8 a k x).2)):=fun a k x=>⟨fun hh=>c5B a k x hh.1⟩
  have i_ringAdd_c:∀ (r:D5) (e:y3),Q5 gl prog 100 [.v r,.v e] [r.Live.length≤1000000] (.t2 (.v (W0 r e).1) (.v (W0 r e).2)):=fun r e=>⟨fun hh=>b9u r e hh.1⟩
  have i_itCopied_c:∀ (l:List o8),Q5 gl prog 65 [.v l] [l.length≤1000000,∀ x∈l,x.O6.length≤1000000] (.v l):=fun l=>⟨fun hh=>b0g l hh.1 hh.2.1⟩
  generalize hP:(fun (r:AV) Hs=>r=AV.v (H6 a x i).2∧∃ j,Hs=a7q (H6 a x i).1 (ptr b 0) j)=P
  unfold a7q mx
  refine .go func49 j0 69 [.tmp 6] j0 (by kernel_rfl) fun C hG=>(.z hG (by kernel_rfl) fun b1 b2 b3=>⟨fun h1 => .z hG (by kernel_rfl) fun b4=>⟨hpl,fun h2 => .z hG (by kernel_rfl) ?_,fun h2 => .z hG (by kernel_rfl) ?_⟩,fun h1 => .z hG (by kernel_rfl) ⟨fun h2=>absurd h2 hk,fun h2 => .z hG (by kernel_rfl) ?_⟩⟩)
  all_goals have hb1:∀ y ∈ [i],y.O6.length≤1000000:=fun y hy=>by rw [List.mem_singleton.1 hy];exact hb
  all_goals have hl1 : [i].length=1:=rfl
  · have h2:¬(L8 a x.C9 i).2≠0:=Classical.not_not.2 h2
    subst hP
    refine⟨hr,fun h3=>P5.of [ptr b 0,u.1,u.2] ⟨?_,u,?_⟩,fun h3=>⟨by omega,hb1,by omega,by omega,⟨fun _ _=>by kernel_rfl,trivial⟩,fun nm=>P5.of [ptr b 0,u.1,(nm 10).1] ⟨?_,(u.1,(nm 10).1),?_⟩⟩⟩
    · unfold H6;rw [if_pos h1,if_neg h2,if_pos h3]
    · unfold H6;rw [if_pos h1,if_neg h2,if_pos h3]<;>rfl
    · unfold H6;rw [if_pos h1,if_neg h2,if_neg h3]
    · unfold H6;rw [if_pos h1,if_neg h2,if_neg h3]<;>rfl
  · have h2:(L8 a x.C9 i).2≠0:=h2
    subst hP
    refine⟨fun h3=>P5.of [ptr b 0,u.1,u.2] ⟨?_,u,?_⟩,fun h3=>absurd h2 h3⟩
    · unfold H6;rw [if_pos h1,if_pos h2]
    · unfold H6;rw [if_pos h1,if_pos h2]<;>rfl
  · subst hP
    refine⟨fun h3=>absurd rfl h3,fun h3=>⟨by omega,hb1,by omega,by omega,⟨fun _ _=>by kernel_rfl,trivial⟩,fun nm=>P5.of [ptr b 0,u.1,(nm 10).1] ⟨?_,(u.1,(nm 10).1),?_⟩⟩⟩
    · unfold H6;rw [if_neg h1]
    · unfold H6;rw [if_neg h1]<;>rfl
theorem b3b (w:Value)(l:List y2)(h:l.length≤1000000):C5 gl prog 121 [.raw w] [.own 114 w l] (fun r Hs=>∃ u:Value,True∧r = .raw u∧Hs = [.own 114 w l,.own 114 u l]):=by
 have i2:a3B 2:=⟨trivial⟩
 refine .go func121 j0 8 [.tmp 2] j0 (by kernel_rfl) fun C hG=>(.z hG (by kernel_rfl) ?_)
 exact fun b hb=>⟨fun h1=>P5.of [w,.slice none 0 0] ⟨_,trivial,rfl,by rw [hb h1]⟩,fun h1 b3=>⟨by simp;omega,by simp;omega,fun w2=>P5.of [w,w2] ⟨_,trivial,rfl,rfl⟩⟩⟩
theorem b1f (w:Value)(l:List y2)(h:l.length≤1000000)(hB:∀ m∈l,U3 m.y7):C5 gl prog 66 [.raw w] [.own 114 w l] (fun r Hs=>∃ u,r = .raw u∧Hs = [.own 114 u l]):=by
 have i1:∀ (w:Value) (l:List y2),CaG gl prog 121 [.raw w] [.own 114 w l] Value [l.length≤1000000] (fun _=>True) (fun u => .raw u) (fun u => [.own 114 w l]) (fun u => [.own 114 u l]):=fun w l=>⟨fun hh=>(b3b w l hh.1).mono fun r Hs ⟨u,h1,h2,h3⟩=>⟨u,h1,h2,h3⟩⟩
 have i_caCopied_c:∀ (l:List u9),Q5 gl prog 122 [.v l] [U3 l] (.v l):=fun l=>⟨fun hh=>a6s l hh.1⟩
 refine .go func66 j0 24 [.tmp 2] j0 (by kernel_rfl) fun C hG=>(.z hG (by kernel_rfl) ⟨h,fun u _ => ?_⟩)
 refine .lp hG (fun k:Nat => [(9,.v (k:Int))]) (fun k => []) (fun k=>k≤l.length) (fun k=>l.length - k) 0 (by kernel_rfl) ⟨rfl,by omega,fun k hk=>⟨fun h1=>⟨by omega,by omega,by omega,?_,by omega,by omega,by omega,by omega,by omega,k+1,rfl,by rw [a3X _ _ _ rfl],by omega,by omega⟩,fun h1=>P5.of [u] ⟨_,rfl,rfl⟩⟩⟩
 exact hB _ (V0 (by omega))
theorem c5D (b:Nat)(x:l8)(m:y2)(hm:x.C8.length≤999999)(hB:∀ m∈x.C8,U3 m.y7)(hc:U3 m.y7):C5 gl prog 70 [.ln (ptr b 0) B7.l2,.p m] [.P2 (ptr b 0) (IsV.mk x)] (fun r Hs=>r = .raw (.tuple #[])∧Hs = [.P2 (ptr b 0) (IsV.mk { x with C8:=x.C8 ++ [m] })]):=by
 refine .c6E (a7q x (ptr b 0)) (a7q { x with C8:=x.C8 ++ [m] } (ptr b 0)) (fun u => ?_) (fun I X h=>h) (fun I j Xs h=>⟨j,Xs,j0,h⟩)
 have o9:c6u 9:=⟨trivial⟩
 have i1:∀ (w:Value) (l:List y2),CaT gl prog 66 [.raw w] (.own 114 w l) [l.length≤1000000,∀ m∈l,U3 m.y7] (fun u => .v (S4.inr (α:=y2) u)) (fun u => .own 114 u l):=fun w l=>⟨fun hh=>(b1f w l hh.1 hh.2.1).c3g⟩
 generalize hP:(fun (r:AV) Hs=>r=AV.raw (.tuple #[])∧∃ j,Hs=a7q { x with C8:=x.C8 ++ [m] } (ptr b 0) j)=P
 unfold a7q mx
 refine .go func70 j0 12 [] j0 (by kernel_rfl) fun C hG => ?_
 have hl1 : [m].length=1:=rfl
 refine .z hG (by kernel_rfl) ⟨by omega,by omega,by rw [List.length_append];omega,fun y hy => ?_,⟨fun _ _=>by kernel_rfl,fun _ _=>by kernel_rfl,trivial⟩,fun nm => ?_⟩
 ·rcases List.mem_append.1 hy with hy|hy
  ·exact hB y hy
  ·rw [List.mem_singleton.1 hy];exact hc
 ·subst hP
  exact P5.of [ptr b 0,(nm 7).1,u.2] ⟨rfl,((nm 7).1,u.2),rfl⟩
instance (b:Nat)(x:l8)(m:y2):CaM gl prog 70 [.ln (ptr b 0) B7.l2,.p m] (.P2 (ptr b 0) (IsV.mk x)) [x.C8.length≤999999,∀ m∈x.C8,U3 m.y7,U3 m.y7] (.raw (.tuple #[])) (.P2 (ptr b 0) (IsV.mk { x with C8:=x.C8 ++ [m] })):=⟨fun h=>c5D b x m h.1 h.2.1 h.2.2.1⟩
instance (b:Nat)(a:E7)(x:l8)(i:Item):CaM gl prog 49 [.v a,.ln (ptr b 0) (j9.id (α:=IsM)),.v i] (.P2 (ptr b 0) (IsV.mk x)) [i.Kind≠2,∀ y∈a.B5,y.Plain.length≤1000000,x.Ring.Live.length≤1000000,x.G3.length≤1000000,i.O6.length≤1000000] (.v (H6 a x i).2) (.P2 (ptr b 0) (IsV.mk (H6 a x i).1)):=⟨fun h=>c3h b a x i h.1 h.2.1 h.2.2.1 h.2.2.2.1 h.2.2.2.2.1⟩
theorem c3i (b:Nat):C3 gl prog 93 [.ln (ptr b 0) (j9.id (α:=IsM))] (fun r=>r = .ln (ptr b 0) (j9.id (α:=IsM))):=by
 refine .go func93 j0 4 [.tmp 2] j0 (by kernel_rfl) fun C hG => ?_
 exact .z hG (by kernel_rfl) j0
theorem c5E (b:Nat):C3 gl prog 72 [.ln (ptr b 0) (j9.id (α:=IsM))] (fun r=>r = .ln (ptr b 0) B7.l2):=by
 refine .go func72 j0 6 [.tmp 2] j0 (by kernel_rfl) fun C hG => ?_
 exact .z hG (by kernel_rfl) j0
theorem b7c (b:Nat)(a:E7)(x:l8)(i:Item)(hk:i.Kind≠2)(hpl:∀ y∈a.B5,y.Plain.length≤1000000)(hr:x.Ring.Live.length≤1000000)(hi:x.G3.length≤1000000)(hb:i.O6.length≤1000000) :
    C5 gl prog 91 [.ln (ptr b 0) (j9.id (α:=IsM)),.p a,.p i] [.P2 (ptr b 0) (IsV.mk x)] (fun r Hs=>r = .raw (.tuple #[])∧Hs = [.P2 (ptr b 0) (IsV.mk (H6 a x i).1)]):=by
  refine .go func91 j0 8 [] j0 (by kernel_rfl) fun C hG => ?_
  exact .z hG (by kernel_rfl) ⟨hk,hpl,hr,hi,hb,P5.of [ptr b 0] ⟨j0,j0⟩⟩
def a0f (before after:E7)(x:l8)(r:Rec)(ch:l8→l8):E7×l8×Int :=
 if (a0G x.Device r).2=0 then (after,ch { x with Device:=(a0G x.Device r).1 },0) else
 if (a0G x.Device r).2=27 then (after,Y9 x (a0G x.Device r).1,27) else (before,x,(a0G x.Device r).2)
def b5d (A:E7)(Y:l8)(E:Int)(r:AV)(Hs:List C0):Prop :=
 (∃ u:Value×Value,r = .t3 (.v A) (.v (mx Y u.1 u.2)) (.v E)∧Hs = [.own 114 u.1 Y.C8,.own 101 u.2 Y.G3])∨(r = .t3 (.v A) (.v Y) (.v E)∧Hs = [])
instance (b:Nat):Q5 gl prog 93 [.ln (ptr b 0) (j9.id (α:=IsM))] [] (.ln (ptr b 0) (j9.id (α:=IsM))):=⟨fun _=>c3i b⟩
instance (b:Nat):Q5 gl prog 72 [.ln (ptr b 0) (j9.id (α:=IsM))] [] (.ln (ptr b 0) B7.l2):=⟨fun _=>c5E b⟩
instance (b:Nat)(a:E7)(x:l8)(i:Item):CaM gl prog 91 [.ln (ptr b 0) (j9.id (α:=IsM)),.p a,.p i] (.P2 (ptr b 0) (IsV.mk x)) [i.Kind≠2,∀ y∈a.B5,y.Plain.length≤1000000,x.Ring.Live.length≤1000000,x.G3.length≤1000000,i.O6.length≤1000000] (.raw (.tuple #[])) (.P2 (ptr b 0) (IsV.mk (H6 a x i).1)):=⟨fun h=>b7c b a x i h.1 h.2.1 h.2.2.1 h.2.2.2.1 h.2.2.2.2.1⟩
theorem b3c (Y:l8)(w:Value)(I:Fl.Im)(X:List (Nat×Obj))(h:(C0.P2 w (IsV.mk Y)).a0w I X):∃ u Xs,X=Xs.flatten∧Q7 I (a7q Y w u) Xs:=h
theorem c3j (a0 a1:E7)(x:l8)(i:Item)(h:IsB x)(ha:x.Device.B9=0∨x.Device.B9=1)(hw : -1000000000≤x.Device.D9∧x.Device.D9≤1000000000)(hk:i.Kind≠2)(hpl:∀ y∈a1.B5,y.Plain.length≤1000000)(hb:i.O6.length≤1000000) :
    C5 gl prog 92 [.v (G1.mk (a0V i) (a3U.mk' 91 a1 i)),.v a0,.v a1,.v x,.v (FnV.mk (some 93))] []
      (b5d (a0f a0 a1 x (a0V i) fun y=>(H6 a1 y i).1).1 (a0f a0 a1 x (a0V i) fun y=>(H6 a1 y i).1).2.1 (a0f a0 a1 x (a0V i) fun y=>(H6 a1 y i).1).2.2):=by
  have o28:c0h 28:=⟨trivial⟩
  have a15:AlR 15 IsM inferInstance:=⟨trivial⟩
  have i0:∀ (x:l8),CaX gl prog 41 [.v x] (Value×Value) [IsB x] (fun _=>True) (fun u => .v (mx x u.1 u.2)) (fun u => [.own 114 u.1 x.C8,.own 101 u.2 x.G3]):=fun x=>⟨fun hh=>(a7p x hh.1).mono fun r Hs ⟨u,h1,h2⟩=>⟨u,trivial,h1,h2⟩⟩
  have i1:∀ (x:l8) (d:l9),Q5 gl prog 53 [.v x,.v d] [] (.v (Y9 x d)):=fun x d=>⟨fun _=>a8J x d⟩
  have i_save_c:∀ (d:l9) (r:Rec),Q5 gl prog 131 [.v d,.v r] [r.Kind=2∨r.Kind=4,W9 d,d.B9=0∨d.B9=1,-1000000000≤d.D9∧d.D9≤1000000000] (.t2 (.v (a0G d r).1) (.v (a0G d r).2)):=fun d r=>⟨fun hh=>c2U d r hh.1 hh.2.1 hh.2.2.1 hh.2.2.2.1⟩
  generalize hP:b5d (a0f a0 a1 x (a0V i) fun y=>(H6 a1 y i).1).1 (a0f a0 a1 x (a0V i) fun y=>(H6 a1 y i).1).2.1 (a0f a0 a1 x (a0V i) fun y=>(H6 a1 y i).1).2.2=P
  refine .go func92 j0 49 [.cell 10 46,.cell 11 39,.tmp 12] j0 (by kernel_rfl) fun C hG=>(.z hG (by kernel_rfl) fun b b1 b2 b3 b4 b5=>⟨.inr j0,h.dev,ha,hw,fun b6=>⟨fun h1=>⟨h,fun u _ b7 => ?_⟩,?_⟩⟩)
  · refine .glue [ptr b7 0,u.1,u.2] (.P2 (ptr b7 0) (IsV.mk { x with Device:=(a0G x.Device (a0V i)).1 })) (fun I Xs h=>⟨u,Xs,j0,h⟩) (.z hG (by kernel_rfl) ⟨hk,hpl,h.live,h.items,hb,?_⟩)
    generalize hY:(H6 a1 { x with Device:=(a0G x.Device (a0V i)).1 } i).1=Y
    refine .b0B (ptr b7 0) (a7q Y (ptr b7 0)) (b3c Y (ptr b7 0)) fun v=>(.ob1 11 (b0C default) (a5u default) (.z hG (by kernel_rfl) (P5.of [v.1,v.2] ?_)))
    subst hP
    have e:a0f a0 a1 x (a0V i) (fun y=>(H6 a1 y i).1)=(a1,Y,0):=by unfold a0f;rw [if_pos h1];exact congrArg (fun q=>(a1,q,(0:Int))) hY
    rw [e]
    exact .inl ⟨v,j0,j0⟩
  · dsimp only
    subst hP
    refine fun h1=>⟨fun h2=>⟨[],.nil,.inr ⟨?_,rfl⟩⟩,fun h2=>⟨h,[],.nil,.inr ⟨?_,rfl⟩⟩⟩
    · unfold a0f;rw [if_neg h1,if_pos h2,h2]
    · unfold a0f;rw [if_neg h1,if_neg h2]
theorem c6F {Y:l8}{u v:Value}{I:Fl.Im}{cs:List Value}(h:u3.rep I (mx Y u v) cs)(h1:G0 I (.v Y.C8) u)(h2:G0 I (.v Y.G3) v):u3.rep I Y cs:=by
 obtain⟨k,rg,ms,is,dv,up⟩:=Y
 obtain⟨c1,r1,rfl,q1,c2,r2,rfl,q2,c3,r3,rfl,⟨rfl,_⟩,c4,r4,rfl,⟨rfl,_⟩,hr⟩:=h
 obtain⟨_,⟨u,rfl,hu⟩,rfl⟩:=h1
 obtain⟨_,⟨v,rfl,hv⟩,rfl⟩:=h2
 exact⟨c1,_,j0,q1,c2,_,j0,q2,_,_,j0,⟨_,j0,hu⟩,_,_,j0,⟨_,j0,hv⟩,hr⟩
theorem b5d.frz {A:E7}{Y:l8}{E:Int}(x:AV)(Hs:List C0)(I:Fl.Im)(L:Lh)(v:Value)(hp:b5d A Y E x Hs)(hv:G0 I x v)(hL:Q7 I Hs L)(J:Fl.Im)(hle:Le I J)(hj:∀ p∈L.flatten,J p.1=some p.2):G0 J (.t3 (.v A) (.v Y) (.v E)) v:=by
 rcases hp with ⟨u,rfl,rfl⟩|⟨rfl,rfl⟩
 ·obtain⟨X,R,rfl,h1,Z,R2,rfl,h2,h3⟩:=hL
  obtain⟨a,b,c,rfl,h4,⟨cs,h5,rfl⟩,h6⟩:=hv
  exact⟨a,_,c,j0,h4.mono hle,⟨cs,c6F (u3.mono hle h5) (O5 h1 hle fun p hp=>hj p (by simp [hp])) (O5 h2 hle fun p hp=>hj p (by simp [hp])),j0⟩,h6.mono hle⟩
 ·exact hv.mono hle
theorem c7W (a0 a1:E7)(x:l8)(i:Item)(h:IsB x)(ha:x.Device.B9=0∨x.Device.B9=1)(hw : -1000000000≤x.Device.D9∧x.Device.D9≤1000000000)(hk:i.Kind≠2)(hpl:∀ y∈a1.B5,y.Plain.length≤1000000)(hb:i.O6.length≤1000000) :
    C3 gl prog 92 [.v (G1.mk (a0V i) (a3U.mk' 91 a1 i)),.v a0,.v a1,.v x,.v (FnV.mk (some 93))] (fun r=>r = .t3 (.v (a0f a0 a1 x (a0V i) fun y=>(H6 a1 y i).1).1) (.v (a0f a0 a1 x (a0V i) fun y=>(H6 a1 y i).1).2.1) (.v (a0f a0 a1 x (a0V i) fun y=>(H6 a1 y i).1).2.2)) :=
  (c3j a0 a1 x i h ha hw hk hpl hb).c4Z _ fun x Hs I L v hp hv hL J hle hj=>b5d.frz x Hs I L v hp hv hL J hle hj
theorem c3k (a0 a1:E7)(x:l8)(m:y2)(h:IsB x)(ha:x.Device.B9=0∨x.Device.B9=1)(hw : -1000000000≤x.Device.D9∧x.Device.D9≤1000000000)(hl:x.C8.length≤999999)(hc:U3 m.y7) :
    C5 gl prog 71 [.v (J8.mk (a0p m) (FnC.mk' 70 m)),.v a0,.v a1,.v x,.v (FnV.mk (some 72))] []
      (b5d (a0f a0 a1 x (a0p m) fun y => { y with C8:=y.C8 ++ [m] }).1 (a0f a0 a1 x (a0p m) fun y => { y with C8:=y.C8 ++ [m] }).2.1 (a0f a0 a1 x (a0p m) fun y => { y with C8:=y.C8 ++ [m] }).2.2):=by
  have o28:c0h 28:=⟨trivial⟩
  have a15:AlR 15 IsM inferInstance:=⟨trivial⟩
  have i0:∀ (x:l8),CaX gl prog 41 [.v x] (Value×Value) [IsB x] (fun _=>True) (fun u => .v (mx x u.1 u.2)) (fun u => [.own 114 u.1 x.C8,.own 101 u.2 x.G3]):=fun x=>⟨fun hh=>(a7p x hh.1).mono fun r Hs ⟨u,h1,h2⟩=>⟨u,trivial,h1,h2⟩⟩
  have i1:∀ (x:l8) (d:l9),Q5 gl prog 53 [.v x,.v d] [] (.v (Y9 x d)):=fun x d=>⟨fun _=>a8J x d⟩
  have i_save_c:∀ (d:l9) (r:Rec),Q5 gl prog 131 [.v d,.v r] [r.Kind=2∨r.Kind=4,W9 d,d.B9=0∨d.B9=1,-1000000000≤d.D9∧d.D9≤1000000000] (.t2 (.v (a0G d r).1) (.v (a0G d r).2)):=fun d r=>⟨fun hh=>c2U d r hh.1 hh.2.1 hh.2.2.1 hh.2.2.2.1⟩
  generalize hP:b5d (a0f a0 a1 x (a0p m) fun y => { y with C8:=y.C8 ++ [m] }).1 (a0f a0 a1 x (a0p m) fun y => { y with C8:=y.C8 ++ [m] }).2.1 (a0f a0 a1 x (a0p m) fun y => { y with C8:=y.C8 ++ [m] }).2.2=P
  refine .go func71 j0 49 [.cell 10 46,.cell 11 39,.tmp 12] j0 (by kernel_rfl) fun C hG=>(.z hG (by kernel_rfl) fun b b1 b2 b3 b4 b5=>⟨.inl j0,h.dev,ha,hw,fun b6=>⟨fun h1=>⟨h,fun u _ b7 => ?_⟩,?_⟩⟩)
  · refine .glue [ptr b7 0,u.1,u.2] (.P2 (ptr b7 0) (IsV.mk { x with Device:=(a0G x.Device (a0p m)).1 })) (fun I Xs h=>⟨u,Xs,j0,h⟩) (.z hG (by kernel_rfl) ⟨hl,h.c0f,hc,?_⟩)
    dsimp only
    generalize hY:({ C9:=x.C9,Ring:=x.Ring,C8:=x.C8 ++ [m],G3:=x.G3,Device:=(a0G x.Device (a0p m)).1,Up:=x.Up }:l8)=Y
    refine .b0B (ptr b7 0) (a7q Y (ptr b7 0)) (b3c Y (ptr b7 0)) fun v=>(.ob1 11 (b0C default) (a5u default) (.z hG (by kernel_rfl) (P5.of [v.1,v.2] ?_)))
    subst hP
    have e:a0f a0 a1 x (a0p m) (fun y => { y with C8:=y.C8 ++ [m] })=(a1,Y,0):=by unfold a0f;rw [if_pos h1];exact congrArg (fun q=>(a1,q,(0:Int))) hY
    rw [e]
    exact .inl ⟨v,j0,j0⟩
  · dsimp only
    subst hP
    refine fun h1=>⟨fun h2=>⟨[],.nil,.inr ⟨?_,rfl⟩⟩,fun h2=>⟨h,[],.nil,.inr ⟨?_,rfl⟩⟩⟩
    · unfold a0f;rw [if_neg h1,if_pos h2,h2]
    · unfold a0f;rw [if_neg h1,if_neg h2]
theorem c7X (a0 a1:E7)(x:l8)(m:y2)(h:IsB x)(ha:x.Device.B9=0∨x.Device.B9=1)(hw : -1000000000≤x.Device.D9∧x.Device.D9≤1000000000)(hl:x.C8.length≤999999)(hc:U3 m.y7) :
    C3 gl prog 71 [.v (J8.mk (a0p m) (FnC.mk' 70 m)),.v a0,.v a1,.v x,.v (FnV.mk (some 72))] (fun r=>r = .t3 (.v (a0f a0 a1 x (a0p m) fun y => { y with C8:=y.C8 ++ [m] }).1) (.v (a0f a0 a1 x (a0p m) fun y => { y with C8:=y.C8 ++ [m] }).2.1) (.v (a0f a0 a1 x (a0p m) fun y => { y with C8:=y.C8 ++ [m] }).2.2)) :=
  (c3k a0 a1 x m h ha hw hl hc).c4Z _ fun x Hs I L v hp hv hL J hle hj=>b5d.frz x Hs I L v hp hv hL J hle hj
end Go.Proofs.YtfdifhfnpbphaaaGreatDoor
